/- Own texts, put together. -/
import Derived.Test.YtoddhogpokemdaaA4
import Derived.Test.YtoddhogpokemdaaRows
import Derived.Test.YtoddhogpokemdaaA1
import Derived.Test.YtoddhogpokemdaaA2
section
/- Steps, and numbers, that come in. -/
set_option linter.unusedVariables false
set_option maxRecDepth 100000
namespace Go.Gx.S
open Go Go.Gx Go.Proofs

theorem ctStep : Try.prog.cellsOf 40 = 27 := by kernel_rfl
theorem ktStep : Try.prog.keyTypeAt 8 40 = true := by kernel_rfl
theorem ctLcp : Try.prog.cellsOf 38 = 23 := by kernel_rfl
theorem ktInt : Try.prog.keyTypeAt 8 3 = true := by kernel_rfl
theorem kt2 : Try.prog.keyTypeAt 8 52 = true := by kernel_rfl
theorem ct2 : Try.prog.cellsOf 52 = 2 := by kernel_rfl
theorem inf_dec {d : Nat} {cs : List Value} {l : List Lit} (h : Try.prog.keyLits (d + 3) 36 cs = some l) : ∃ x : Inf, x.ok ∧ cs = x.cells := by
  obtain ⟨hl, ls, h1, rfl⟩ := kl_struct Try.underlying36 h
  rw [ctInfo] at hl
  match cs, hl with
  | [c0, c1, c2, c3, c4, c5, c6, c7, c8, c9, c10], _ =>
  simp only [List.mapM_cons, List.mapM_nil, ctInt, ctMac, bind, Option.bind_eq_some_iff, pure, Option.some.injEq, List.drop_succ_cons, List.drop_zero, List.take_succ_cons, List.take_zero] at h1
  obtain ⟨y0, g0, _, ⟨y1, g1, _, ⟨y2, g2, _, ⟨y3, g3, _, ⟨y4, g4, _, ⟨y5, g5, _, rfl, rfl⟩, rfl⟩, rfl⟩, rfl⟩, rfl⟩, rfl⟩ := h1
  obtain ⟨k0, e0, _, b0⟩ := kl_int uInt g0
  obtain ⟨m, hm, e1, _⟩ := MacT.dec (d := d) g1
  obtain ⟨k2, e2, _, b2⟩ := kl_int uInt g2
  obtain ⟨k3, e3, _, b3⟩ := kl_int uInt g3
  obtain ⟨k4, e4, _, b4⟩ := kl_int uInt g4
  obtain ⟨k5, e5, _, b5⟩ := kl_int uInt g5
  simp only [List.cons.injEq, and_true] at e0 e2 e3 e4 e5
  subst e0 e2 e3 e4 e5
  simp only [Mac.cells, List.cons.injEq, and_true] at e1
  obtain ⟨rfl, rfl, rfl, rfl, rfl, rfl⟩ := e1
  exact ⟨⟨k0, m, k2, k3, k4, k5⟩, ⟨b0, hm, b2, b3, b4, b5⟩, rfl⟩
theorem lcp_dec {d : Nat} {cs : List Value} {l : List Lit} (h : Try.prog.keyLits (d + 4) 38 cs = some l) : ∃ x : Lcp, x.ok ∧ cs = x.cells := by
  obtain ⟨hl, ls, h1, rfl⟩ := kl_struct Try.underlying38 h
  rw [ctLcp] at hl
  match cs, hl with
  | [a0, a1, a2, a3, a4, a5, a6, a7, a8, a9, a10, b0, b1, b2, b3, b4, b5, b6, b7, b8, b9, b10, c], _ =>
  simp only [List.mapM_cons, List.mapM_nil, ctInt, ctInfo, bind, Option.bind_eq_some_iff, pure, Option.some.injEq, List.drop_succ_cons, List.drop_zero, List.take_succ_cons, List.take_zero] at h1
  obtain ⟨y0, g0, _, ⟨y1, g1, _, ⟨y2, g2, _, rfl, rfl⟩, rfl⟩, rfl⟩ := h1
  obtain ⟨x, hx, e0⟩ := inf_dec g0
  obtain ⟨y, hy, e1⟩ := inf_dec g1
  obtain ⟨k2, e2, _, o2⟩ := kl_int uInt g2
  simp only [List.cons.injEq, and_true] at e2
  subst e2
  simp only [Inf.cells, List.cons.injEq, and_true] at e0 e1
  obtain ⟨rfl, rfl, rfl, rfl, rfl, rfl, rfl, rfl, rfl, rfl, rfl⟩ := e0
  obtain ⟨rfl, rfl, rfl, rfl, rfl, rfl, rfl, rfl, rfl, rfl, rfl⟩ := e1
  exact ⟨⟨x, y, k2⟩, ⟨hx, hy, o2⟩, rfl⟩
theorem step_dec {cs : List Value} {l : List Lit} (h : Try.prog.keyLits 8 40 cs = some l) : ∃ s : Ast, s.ok ∧ cs = s.cells := by
  obtain ⟨hl, ls, h1, rfl⟩ := kl_struct Try.underlying40 h
  rw [ctStep] at hl
  match cs, hl with
  | [s0, s1, s2, s3, a0, a1, a2, a3, a4, a5, a6, a7, a8, a9, a10, b0, b1, b2, b3, b4, b5, b6, b7, b8, b9, b10, c], _ =>
  simp only [List.mapM_cons, List.mapM_nil, ctInt, ctBool, ctLcp, bind, Option.bind_eq_some_iff, pure, Option.some.injEq, List.drop_succ_cons, List.drop_zero, List.take_succ_cons, List.take_zero] at h1
  obtain ⟨y0, g0, _, ⟨y1, g1, _, ⟨y2, g2, _, ⟨y3, g3, _, ⟨y4, g4, _, rfl, rfl⟩, rfl⟩, rfl⟩, rfl⟩, rfl⟩ := h1
  obtain ⟨k0, e0, _, o0⟩ := kl_int uInt g0
  obtain ⟨k1, e1, _, o1⟩ := kl_int uInt g1
  obtain ⟨k2, e2, _, o2⟩ := kl_int uInt g2
  obtain ⟨k3, e3, _⟩ := kl_bool uBool g3
  obtain ⟨p, hp, e4⟩ := lcp_dec g4
  simp only [List.cons.injEq, and_true] at e0 e1 e2 e3
  subst e0 e1 e2 e3
  refine ⟨⟨k0, k1, k2, k3, p⟩, ⟨o0, o1, o2, hp⟩, ?_⟩
  show _ = i64 k0 :: i64 k1 :: i64 k2 :: .bool k3 :: p.cells
  rw [← e4]

theorem asts_dec {es : List (List Value)} (h : ∀ c ∈ es, ∃ l, Try.prog.keyLits 8 40 c = some l) : ∃ st : List Ast, (∀ s ∈ st, s.ok) ∧ es = st.map Ast.cells := by
  induction es with
  | nil => exact ⟨[], by simp, rfl⟩
  | cons c es ih =>
    obtain ⟨st, h1, h2⟩ := ih fun c hc => h c (List.mem_cons_of_mem _ hc)
    obtain ⟨l, hl⟩ := h c (List.mem_cons_self ..)
    obtain ⟨s, hs, rfl⟩ := step_dec hl
    refine ⟨s :: st, fun x hx => ?_, by rw [h2]; rfl⟩
    rcases List.mem_cons.1 hx with rfl | hx
    · exact hs
    · exact h1 x hx
theorem ints_dec {es : List (List Value)} (h : ∀ c ∈ es, ∃ l, Try.prog.keyLits 8 3 c = some l) : ∃ st : List Int, (∀ s ∈ st, isI s) ∧ es = st.map cellI := by
  induction es with
  | nil => exact ⟨[], by simp, rfl⟩
  | cons c es ih =>
    obtain ⟨st, h1, h2⟩ := ih fun c hc => h c (List.mem_cons_of_mem _ hc)
    obtain ⟨l, hl⟩ := h c (List.mem_cons_self ..)
    obtain ⟨s, rfl, _, hs⟩ := kl_int uInt hl
    refine ⟨s :: st, fun x hx => ?_, by rw [h2]; rfl⟩
    rcases List.mem_cons.1 hx with rfl | hx
    · exact hs
    · exact h1 x hx

section
variable {H : Type} {enc : TypeId × Value → H} {w : World} {base : Nat} {spare : Nat → Bool} {held : Bool}
theorem arg_asts {base' : Nat} {v : Value} {d : DataW H} {ps : List MemPlace} {r : Reach} (hok : Value.okWide Try.prog w r base' 23 v) (h : DataW.Trod enc Try.prog w base spare held 23 v d ps) : ∃ st : List Ast, (∀ s ∈ st, s.ok) ∧ RdE 27 w v (st.map Ast.cells) := by
  obtain ⟨es, hes, _, hk⟩ := arg_keys Try.underlying23 ktStep ctStep (by decide) hok h
  obtain ⟨st, h1, rfl⟩ := asts_dec hk
  exact ⟨st, h1, hes⟩
theorem arg_ints {base' : Nat} {v : Value} {d : DataW H} {ps : List MemPlace} {r : Reach} (hok : Value.okWide Try.prog w r base' 22 v) (h : DataW.Trod enc Try.prog w base spare held 22 v d ps) : ∃ st : List Int, (∀ s ∈ st, isI s) ∧ RdE 1 w v (st.map cellI) := by
  obtain ⟨es, hes, _, hk⟩ := arg_keys Try.underlying22 ktInt ctInt (by decide) hok h
  obtain ⟨st, h1, rfl⟩ := ints_dec hk
  exact ⟨st, h1, hes⟩
theorem arg_int2 {base' : Nat} {v : Value} {d : DataW H} {ps : List MemPlace} {r : Reach} (hok : Value.okWide Try.prog w r base' 52 v) (h : DataW.Trod enc Try.prog w base spare held 52 v d ps) :
    ∃ a b, isI a ∧ isI b ∧ v = .agg #[i64 a, i64 b] := by
  obtain ⟨cs, rfl, l, hl⟩ := arg_key (.inr ⟨_, _, Try.underlying52⟩) kt2 hok h
  obtain ⟨hc, ls, h1, rfl⟩ := kl_array Try.underlying52 hl
  rw [ct2] at hc
  match cs, hc with
  | [c0, c1], _ =>
  simp only [show List.range 2 = [0, 1] from rfl, List.mapM_cons, List.mapM_nil, ctInt, bind, Option.bind_eq_some_iff, pure, Option.some.injEq, Nat.mul_one, List.drop_succ_cons, List.drop_zero, List.take_succ_cons, List.take_zero] at h1
  obtain ⟨y0, g0, _, ⟨y1, g1, _, rfl, rfl⟩, rfl⟩ := h1
  obtain ⟨k0, e0, rfl, b0⟩ := kl_int uInt g0
  obtain ⟨k1, e1, rfl, b1⟩ := kl_int uInt g1
  simp only [List.cons.injEq, and_true] at e0 e1
  subst e0 e1
  exact ⟨k0, k1, b0, b1, rfl⟩
end
end Go.Gx.S
end

section
/- What the functions of this program ask. -/
set_option linter.unusedVariables false
set_option maxRecDepth 100000
namespace Go.Gx.S
open Go Go.Gx Go.Proofs
-- gemel/gemellaw15.AggOne
def p3 (P : Program) (K : Value → World → Prop) (x0 : Value) (x1 : Value) (x2 : Value) : World → Prop :=
  opS P (S.cl 6 []) fun x3 =>
  opS P (S.un .not x3) fun x4 =>
  brn x4 (
    K x3
  ) (
    opS P (S.len x0) fun x5 =>
    opS P (S.binI .gtr x5 (.int .i64 20)) fun x6 =>
    brn x6 (
      K x3
    ) (
      opS P (S.len x1) fun x7 =>
      opS P (S.binI .gtr x7 (.int .i64 20)) fun x8 =>
      brn x8 (
        K x3
      ) (
        opS P (S.cl 8 []) fun x9 =>
        opS P (S.cl 7 [x9, (.int .i64 5), x0, (.int .i64 8)]) fun x10 =>
        opS P (S.ext x10 0) fun x11 =>
        opS P (S.ext x10 1) fun x12 =>
        opS P (S.cl 8 []) fun x13 =>
        opS P (S.cl 7 [x13, (.int .i64 5), x1, (.int .i64 8)]) fun x14 =>
        opS P (S.ext x14 0) fun x15 =>
        opS P (S.ext x14 1) fun x16 =>
        opS P (S.binI .neq x12 (.int .i64 0)) fun x17 =>
        brn x17 (
          K (.bool true)
        ) (
          opS P (S.binI .neq x16 (.int .i64 0)) fun x18 =>
          brn x18 (
            K (.bool true)
          ) (
            opS P (S.mkm 34 none) fun x19 =>
            jnJ 0 (
              jnJ 0 (
                jnJ 0 (
                  K (.bool true)
                ) fun j0 =>
                loopJ 1 (fun j1 x20 =>
                  opS P (S.len x2) fun x21 =>
                  opS P (S.binI .lss x20 x21) fun x22 =>
                  brn x22 (
                    opS P (S.binI .lss x20 (.int .i64 100)) fun x23 =>
                    brn x23 (
                      jnJ 0 (
                        opS P (S.binI .add x20 (.int .i64 1)) fun x24 =>
                        j1 x24
                      ) fun j2 =>
                      opS P (S.ia 23 x2 x20) fun x24 =>
                      opS P (S.ld 40 x24) fun x25 =>
                      opS P (S.alloc 40) fun x26 =>
                      opS P (S.st 40 x26 x25) fun x27 =>
                      jnJ 0 (
                        j2
                      ) fun j3 =>
                      loopJ 1 (fun j4 x28 =>
                        opS P (S.binI .leq x28 (.int .i64 2)) fun x29 =>
                        brn x29 (
                          jnJ 0 (
                            opS P (S.binI .add x28 (.int .i64 1)) fun x30 =>
                            j4 x30
                          ) fun j5 =>
                          opS P (S.build 41 [(0, (.pointer none)), (1, x11), (2, x15)]) fun x30 =>
                          opS P (S.ix 41 x30 x28) fun x31 =>
                          opS P (S.fa 40 x26 0) fun x32 =>
                          opS P (S.ld 3 x32) fun x33 =>
                          jnJ 0 (
                            opS P (S.fa 40 x26 2) fun x34 =>
                            opS P (S.ld 3 x34) fun x35 =>
                            opS P (S.cl 11 [x31, x35]) fun x36 =>
                            opS P (S.ext x36 0) fun x37 =>
                            opS P (S.ext x36 1) fun x38 =>
                            jnJ 0 (
                              j5
                            ) fun j6 =>
                            loopJ 1 (fun j7 x39 =>
                              opS P (S.len x37) fun x40 =>
                              opS P (S.binI .lss x39 x40) fun x41 =>
                              brn x41 (
                                opS P (S.ia 44 x37 x39) fun x42 =>
                                opS P (S.fa 48 x42 1) fun x43 =>
                                opS P (S.fa 38 x43 0) fun x44 =>
                                opS P (S.ld 36 x44) fun x45 =>
                                opS P (S.alloc 36) fun x46 =>
                                opS P (S.st 36 x46 x45) fun x47 =>
                                drw <|
                                quietS fun C =>
                                qtS P C (S.fa 36 x46 0) fun x48 =>
                                qtS P C (S.ld 3 x48) fun x49 =>
                                qtS P C (S.binI .neq x49 (.int .i64 1)) fun x50 =>
                                gqtS P C x50 false (S.fa 36 x46 1) fun x51 =>
                                gqtS P C x50 false (S.ld 30 x51) fun x52 =>
                                gqtS P C x50 false (S.build 30 [(0, (.int .u8 2))]) fun x53 =>
                                gqtS P C x50 false (S.binG .neq 30 x52 x53) fun x54 =>
                                qtS P C (S.pick x50 (.bool true) x54) fun x55 =>
                                gqtS P C x55 false (S.fa 36 x46 2) fun x56 =>
                                gqtS P C x55 false (S.ld 3 x56) fun x57 =>
                                gqtS P C x55 false (S.binI .neq x57 (.int .i64 5)) fun x58 =>
                                qtS P C (S.pick x55 (.bool true) x58) fun x59 =>
                                gqtS P C x59 false (S.fa 36 x46 4) fun x60 =>
                                gqtS P C x59 false (S.ld 3 x60) fun x61 =>
                                gqtS P C x59 false (S.mv x37) fun x62 =>
                                gqtS P C x59 false (S.mv x39) fun x63 =>
                                gqtS P C x59 false (S.ia 44 x62 x63) fun x64 =>
                                gqtS P C x59 false (S.fa 48 x64 0) fun x65 =>
                                gqtS P C x59 false (S.ld 3 x65) fun x66 =>
                                gqtS P C x59 false (S.binI .neq x61 x66) fun x67 =>
                                qtS P C (S.pick x59 (.bool true) x67) fun x68 =>
                                gqtS P C x68 false (S.mv x19) fun x69 =>
                                gqtS P C x68 false (S.fa 36 x46 4) fun x70 =>
                                gqtS P C x68 false (S.ld 3 x70) fun x71 =>
                                gqtS P C x68 false (S.lk 34 x69 x71 false) fun x72 =>
                                gqtS P C x68 false (S.mv x28) fun x73 =>
                                qendS C <|
                                brn x68 (
                                  K (.bool false)
                                ) (
                                  opS P (S.binI .neq x72 x73) fun x74 =>
                                  brn x74 (
                                    K (.bool false)
                                  ) (
                                    opS P (S.binI .add x39 (.int .i64 1)) fun x75 =>
                                    j7 x75
                                  )
                                )
                              ) (
                                j6
                              )
                            ) (.int .i64 0)
                          ) fun j6 =>
                          opS P (S.binI .eql x33 (.int .i64 0)) fun x34 =>
                          brn x34 (
                            opS P (S.fa 40 x26 1) fun x35 =>
                            opS P (S.ld 3 x35) fun x36 =>
                            opS P (S.fa 40 x26 4) fun x37 =>
                            opS P (S.ld 38 x37) fun x38 =>
                            opS P (S.fa 40 x26 2) fun x39 =>
                            opS P (S.ld 3 x39) fun x40 =>
                            opS P (S.cl 9 [x31, x36, x38, x40]) fun x41 =>
                            j6
                          ) (
                            jnJ 0 (
                              j6
                            ) fun j7 =>
                            opS P (S.binI .eql x33 (.int .i64 2)) fun x35 =>
                            brn x35 (
                              opS P (S.fa 40 x26 1) fun x36 =>
                              opS P (S.ld 3 x36) fun x37 =>
                              opS P (S.fa 40 x26 3) fun x38 =>
                              opS P (S.ld 4 x38) fun x39 =>
                              opS P (S.fa 40 x26 2) fun x40 =>
                              opS P (S.ld 3 x40) fun x41 =>
                              opS P (S.cl 10 [x31, x37, x39, x41]) fun x42 =>
                              j7
                            ) (
                              j7
                            )
                          )
                        ) (
                          j3
                        )
                      ) (.int .i64 1)
                    ) (
                      j0
                    )
                  ) (
                    j0
                  )
                ) (.int .i64 0)
              ) fun j0 =>
              loopJ 1 (fun j1 x20 =>
                opS P (S.len x1) fun x21 =>
                opS P (S.binI .lss x20 x21) fun x22 =>
                brn x22 (
                  opS P (S.ia 22 x1 x20) fun x23 =>
                  opS P (S.ld 3 x23) fun x24 =>
                  opS P (S.lk 34 x19 x24 false) fun x25 =>
                  opS P (S.binI .eql x25 (.int .i64 1)) fun x26 =>
                  brn x26 (
                    K (.bool true)
                  ) (
                    opS P (S.ia 22 x1 x20) fun x27 =>
                    opS P (S.ld 3 x27) fun x28 =>
                    opS P (S.mu 34 x19 x28 (.int .i64 2)) fun x29 =>
                    opS P (S.binI .add x20 (.int .i64 1)) fun x30 =>
                    j1 x30
                  )
                ) (
                  j0
                )
              ) (.int .i64 0)
            ) fun j0 =>
            loopJ 1 (fun j1 x20 =>
              opS P (S.len x0) fun x21 =>
              opS P (S.binI .lss x20 x21) fun x22 =>
              brn x22 (
                opS P (S.ia 22 x0 x20) fun x23 =>
                opS P (S.ld 3 x23) fun x24 =>
                opS P (S.mu 34 x19 x24 (.int .i64 1)) fun x25 =>
                opS P (S.binI .add x20 (.int .i64 1)) fun x26 =>
                j1 x26
              ) (
                j0
              )
            ) (.int .i64 0)
          )
        )
      )
    )
  )
instance fnb3 : FnB Try.prog 3 := ⟨Try.call3⟩
theorem e3 : p3 Try.prog = fun K x0 x1 x2 => denF Try.prog Try.f3 [x0, x1, x2] K := by kernel_rfl
theorem c3 {K : Value → World → Prop} {x0 x1 x2 : Value} {w : World} (h : p3 Try.prog K x0 x1 x2 w) : CallsR Try.prog 3 #[x0, x1, x2] K w := by
  rw [e3] at h
  exact denF_sound mixed Try.func3 h

end Go.Gx.S
-- 3
end

section
/- What the functions of this program ask. -/
set_option linter.unusedVariables false
set_option maxRecDepth 100000
namespace Go.Gx.S
open Go Go.Gx Go.Proofs
-- gemel/gemellaw15.AggCalm
def p4 (P : Program) (K : Value → World → Prop) (x0 : Value) (x1 : Value) (x2 : Value) : World → Prop :=
  opS P (S.cl 6 []) fun x3 =>
  opS P (S.un .not x3) fun x4 =>
  brn x4 (
    K x3
  ) (
    opS P (S.binI .lss x0 (.int .i64 1)) fun x5 =>
    brn x5 (
      K x3
    ) (
      opS P (S.binI .gtr x0 (.int .i64 6)) fun x6 =>
      brn x6 (
        K x3
      ) (
        opS P (S.binI .lss x1 (.int .i64 0)) fun x7 =>
        brn x7 (
          K x3
        ) (
          opS P (S.binI .gtr x1 (.int .i64 20)) fun x8 =>
          brn x8 (
            K x3
          ) (
            opS P (S.binI .lss x2 (.int .i64 1)) fun x9 =>
            brn x9 (
              K x3
            ) (
              opS P (S.binI .gtr x2 x0) fun x10 =>
              brn x10 (
                K x3
              ) (
                opS P (S.build 52 [(0, (.int .i64 8)), (1, (.int .i64 8))]) fun x11 =>
                opS P (S.cl 12 [x0, x11]) fun x12 =>
                opS P (S.ext x12 0) fun x13 =>
                opS P (S.ext x12 1) fun x14 =>
                opS P (S.ext x12 2) fun x15 =>
                opS P (S.un .not x15) fun x16 =>
                brn x16 (
                  K (.bool false)
                ) (
                  opS P (S.binI .add (.int .i64 8) x1) fun x17 =>
                  opS P (S.cl 13 [x13, x14, (.int .i64 0), x17, (.int .i64 0)]) fun x18 =>
                  opS P (S.un .not x18) fun x19 =>
                  brn x19 (
                    K (.bool false)
                  ) (
                    opS P (S.cl 14 [x13]) fun x20 =>
                    opS P (S.len x20) fun x21 =>
                    opS P (S.binI .neq x21 x0) fun x22 =>
                    brn x22 (
                      K (.bool false)
                    ) (
                      opS P (S.cl 14 [x14]) fun x23 =>
                      opS P (S.len x23) fun x24 =>
                      opS P (S.binI .neq x24 x0) fun x25 =>
                      brn x25 (
                        K (.bool false)
                      ) (
                        opS P (S.cl 15 [x13]) fun x26 =>
                        opS P (S.len x26) fun x27 =>
                        opS P (S.binI .neq x27 x0) fun x28 =>
                        brn x28 (
                          K (.bool false)
                        ) (
                          opS P (S.binI .add (.int .i64 8) x1) fun x29 =>
                          opS P (S.cl 10 [x13, x2, (.bool false), x29]) fun x30 =>
                          opS P (S.cl 11 [x13, x29]) fun x31 =>
                          opS P (S.ext x31 0) fun x32 =>
                          opS P (S.ext x31 1) fun x33 =>
                          opS P (S.binI .neq x30 (.int .i64 0)) fun x34 =>
                          brn x34 (
                            K (.bool false)
                          ) (
                            opS P (S.binI .neq x33 (.int .i64 0)) fun x35 =>
                            brn x35 (
                              K (.bool false)
                            ) (
                              opS P (S.cl 14 [x13]) fun x36 =>
                              opS P (S.len x36) fun x37 =>
                              opS P (S.binI .sub x0 (.int .i64 1)) fun x38 =>
                              opS P (S.binI .neq x37 x38) fun x39 =>
                              brn x39 (
                                K (.bool false)
                              ) (
                                opS P (S.len x32) fun x40 =>
                                opS P (S.binI .sub x0 (.int .i64 1)) fun x41 =>
                                opS P (S.binI .lss x40 x41) fun x42 =>
                                brn x42 (
                                  K (.bool false)
                                ) (
                                  jnJ 0 (
                                    K (.bool true)
                                  ) fun j0 =>
                                  loopJ 1 (fun j1 x43 =>
                                    opS P (S.len x32) fun x44 =>
                                    opS P (S.binI .lss x43 x44) fun x45 =>
                                    brn x45 (
                                      opS P (S.ia 44 x32 x43) fun x46 =>
                                      opS P (S.fa 48 x46 0) fun x47 =>
                                      opS P (S.ld 3 x47) fun x48 =>
                                      opS P (S.binI .eql x48 x2) fun x49 =>
                                      brn x49 (
                                        K (.bool false)
                                      ) (
                                        opS P (S.binI .add x43 (.int .i64 1)) fun x50 =>
                                        j1 x50
                                      )
                                    ) (
                                      j0
                                    )
                                  ) (.int .i64 0)
                                )
                              )
                            )
                          )
                        )
                      )
                    )
                  )
                )
              )
            )
          )
        )
      )
    )
  )
instance fnb4 : FnB Try.prog 4 := ⟨Try.call4⟩
theorem e4 : p4 Try.prog = fun K x0 x1 x2 => denF Try.prog Try.f4 [x0, x1, x2] K := by kernel_rfl
theorem c4 {K : Value → World → Prop} {x0 x1 x2 : Value} {w : World} (h : p4 Try.prog K x0 x1 x2 w) : CallsR Try.prog 4 #[x0, x1, x2] K w := by
  rw [e4] at h
  exact denF_sound mixed Try.func4 h

-- gemel/gemellaw15.AggMeets
def p5 (P : Program) (K : Value → World → Prop) (x0 : Value) (x1 : Value) (x2 : Value) : World → Prop :=
  opS P (S.box 52 x1) fun x3 =>
  opS P (S.cl 6 []) fun x4 =>
  opS P (S.un .not x4) fun x5 =>
  brn x5 (
    K x4
  ) (
    opS P (S.binI .lss x0 (.int .i64 1)) fun x6 =>
    brn x6 (
      K x4
    ) (
      opS P (S.binI .gtr x0 (.int .i64 8)) fun x7 =>
      brn x7 (
        K x4
      ) (
        opS P (S.ia 52 x3 (.int .i64 0)) fun x8 =>
        opS P (S.ld 3 x8) fun x9 =>
        opS P (S.binI .lss x9 x0) fun x10 =>
        brn x10 (
          K x4
        ) (
          opS P (S.ia 52 x3 (.int .i64 1)) fun x11 =>
          opS P (S.ld 3 x11) fun x12 =>
          opS P (S.binI .lss x12 x0) fun x13 =>
          brn x13 (
            K x4
          ) (
            opS P (S.ia 52 x3 (.int .i64 0)) fun x14 =>
            opS P (S.ld 3 x14) fun x15 =>
            opS P (S.binI .gtr x15 (.int .i64 32)) fun x16 =>
            brn x16 (
              K x4
            ) (
              opS P (S.ia 52 x3 (.int .i64 1)) fun x17 =>
              opS P (S.ld 3 x17) fun x18 =>
              opS P (S.binI .gtr x18 (.int .i64 32)) fun x19 =>
              brn x19 (
                K x4
              ) (
                opS P (S.binI .lss x2 (.int .i64 1)) fun x20 =>
                brn x20 (
                  K x4
                ) (
                  opS P (S.binI .gtr x2 (.int .i64 2)) fun x21 =>
                  brn x21 (
                    K x4
                  ) (
                    opS P (S.ld 52 x3) fun x22 =>
                    opS P (S.cl 12 [x0, x22]) fun x23 =>
                    opS P (S.ext x23 0) fun x24 =>
                    opS P (S.ext x23 1) fun x25 =>
                    opS P (S.ext x23 2) fun x26 =>
                    opS P (S.un .not x26) fun x27 =>
                    brn x27 (
                      K (.bool false)
                    ) (
                      opS P (S.cl 13 [x24, x25, (.int .i64 0), (.int .i64 8), (.int .i64 0)]) fun x28 =>
                      opS P (S.un .not x28) fun x29 =>
                      brn x29 (
                        K (.bool false)
                      ) (
                        opS P (S.cl 14 [x24]) fun x30 =>
                        opS P (S.len x30) fun x31 =>
                        opS P (S.binI .neq x31 x0) fun x32 =>
                        brn x32 (
                          K (.bool false)
                        ) (
                          opS P (S.cl 14 [x25]) fun x33 =>
                          opS P (S.len x33) fun x34 =>
                          opS P (S.binI .neq x34 x0) fun x35 =>
                          brn x35 (
                            K (.bool false)
                          ) (
                            opS P (S.cl 16 [x24]) fun x36 =>
                            opS P (S.ext x36 0) fun x37 =>
                            opS P (S.ext x36 1) fun x38 =>
                            opS P (S.alloc 36) fun x39 =>
                            opS P (S.st 36 x39 x37) fun x40 =>
                            opS P (S.cl 13 [x24, x25, (.int .i64 8), (.int .i64 8), x2]) fun x41 =>
                            jnJ 1 (fun x42 =>
                              brn x41 (
                                brn x38 (
                                  opS P (S.fa 36 x39 1) fun x43 =>
                                  opS P (S.ld 30 x43) fun x44 =>
                                  opS P (S.build 30 [(0, (.int .u8 4))]) fun x45 =>
                                  opS P (S.binG .eql 30 x44 x45) fun x46 =>
                                  brn x46 (
                                    opS P (S.cl 14 [x42]) fun x47 =>
                                    opS P (S.len x47) fun x48 =>
                                    opS P (S.binI .eql x48 (.int .i64 0)) fun x49 =>
                                    K x49
                                  ) (
                                    K (.bool false)
                                  )
                                ) (
                                  K (.bool false)
                                )
                              ) (
                                K (.bool false)
                              )
                            ) fun j0 =>
                            opS P (S.binI .eql x2 (.int .i64 2)) fun x42 =>
                            brn x42 (
                              j0 x24
                            ) (
                              j0 x25
                            )
                          )
                        )
                      )
                    )
                  )
                )
              )
            )
          )
        )
      )
    )
  )
instance fnb5 : FnB Try.prog 5 := ⟨Try.call5⟩
theorem e5 : p5 Try.prog = fun K x0 x1 x2 => denF Try.prog Try.f5 [x0, x1, x2] K := by kernel_rfl
theorem c5 {K : Value → World → Prop} {x0 x1 x2 : Value} {w : World} (h : p5 Try.prog K x0 x1 x2 w) : CallsR Try.prog 5 #[x0, x1, x2] K w := by
  rw [e5] at h
  exact denF_sound mixed Try.func5 h

end Go.Gx.S
-- 4 5
end

section
/- Groups that have met stay met; groups that hear one another come to send, and where nothing is heard nothing is sent. -/
set_option linter.unusedVariables false
set_option linter.unusedSimpArgs false
set_option maxRecDepth 100000
namespace Go.Gx.S
open Go Go.Gx Go.Proofs Go.Sort
variable {K : Value → World → Prop} {w : World} {g : Nat} {bs : List B3} {pv fv : Value} {s : Grp}

/-! ### Plain: they stay met -/

def calmOk (n m : Nat) (t : Grp × Grp) : Bool :=
  decide (t.1.up.length = n) && decide (t.2.up.length = n) && decide (t.1.pickedP.length = n) &&
  (upTo n).all fun port => decide (t.1.enableE port (8 + m) = 0) && decide (((t.1.enableP port false (8 + m)).tickP (8 + m)).up.length + 1 = n) && decide (n ≤ ((t.1.enableP port false (8 + m)).tickO (8 + m)).length + 1) &&
    ((t.1.enableP port false (8 + m)).tickO (8 + m)).all fun x => !decide (x.port = port)
def calmL (n : Nat) : Nat → Nat → Grp × Grp → Bool
  | 0, _, _ => true
  | f + 1, m, t => calmOk n m t && calmL n f (m + 1) (meetR 0 t (8 + m))
theorem calmL_at {n : Nat} : ∀ (f m : Nat) (t : Grp × Grp) (k : Nat), calmL n f m t = true → k < f → ∀ u : Nat → Grp × Grp, u 0 = t → (∀ k, u (k + 1) = meetR 0 (u k) (8 + ((m + k : Nat) : Int))) → calmOk n (m + k) (u k) = true
  | 0, m, t, k, _, hk, u, _, _ => by omega
  | f + 1, m, t, 0, h, hk, u, h0, hu => by
    rw [calmL, Bool.and_eq_true] at h
    rw [h0]; exact h.1
  | f + 1, m, t, k + 1, h, hk, u, h0, hu => by
    rw [calmL, Bool.and_eq_true] at h
    have := calmL_at f (m + 1) _ k h.2 (by omega) (fun k => u (k + 1)) (by show u (0 + 1) = _; rw [hu 0, h0]; rfl) fun k => by
      have := hu (k + 1)
      rw [show m + (k + 1) = m + 1 + k by omega] at this
      exact this
    rw [show m + (k + 1) = m + 1 + k by omega]
    exact this
def calmS (n k : Nat) : Grp × Grp := meetK 0 0 (pairA n 8, pairB n 8) k
def calmA (n : Nat) : Bool := calmL n 21 0 (calmS n 8)
theorem calm_fact : calmA 1 = true ∧ calmA 2 = true ∧ calmA 3 = true ∧ calmA 4 = true ∧ calmA 5 = true ∧ calmA 6 = true := by decide +kernel
theorem calm_at {n m : Nat} (h1 : 1 ≤ n) (h2 : n ≤ 6) (hm : m ≤ 20) : calmOk n m (calmS n (8 + m)) = true := by
  have hn : calmA n = true := by
    obtain ⟨f1, f2, f3, f4, f5, f6⟩ := calm_fact
    rcases (show n = 1 ∨ n = 2 ∨ n = 3 ∨ n = 4 ∨ n = 5 ∨ n = 6 by omega) with rfl | rfl | rfl | rfl | rfl | rfl
    · exact f1
    · exact f2
    · exact f3
    · exact f4
    · exact f5
    · exact f6
  have hstep : ∀ k, calmS n (8 + (k + 1)) = meetR 0 (calmS n (8 + k)) (8 + ((0 + k : Nat) : Int)) := fun k => by
    unfold calmS
    rw [← Nat.add_assoc, meetK]
    have e : (0 : Int) + ((8 + k : Nat) : Int) = 8 + ((0 + k : Nat) : Int) := by omega
    rw [e]
  have h0 : calmS n (8 + 0) = calmS n 8 := by rw [Nat.add_zero]
  have := calmL_at 21 0 (calmS n 8) m hn (by omega) (fun k => calmS n (8 + k)) h0 hstep
  rw [Nat.zero_add] at this
  exact this

/-! ### Plain: how many may send does not count where there is room -/

def Grp.mo (s : Grp) (m : Int) : Grp := { s with most := m }
theorem pickL_room (k : Nat) (sy : Inf) : ∀ (l : List Lk) (i : Nat) (a b : Int), (k < i ∨ i + l.length ≤ k → (l.length : Int) ≤ a ∧ (l.length : Int) ≤ b) → (i ≤ k → k < i + l.length → (l.length : Int) ≤ a + 1 ∧ (l.length : Int) ≤ b + 1) → pickL k sy i a l = pickL k sy i b l
  | [], _, _, _, _, _ => rfl
  | x :: l, i, a, b, h1, h2 => by
    rw [List.length_cons] at h1 h2
    rw [pickL, pickL]
    by_cases e : i = k
    · rw [if_pos e, if_pos e, pickL_room k sy l (i + 1) a b (fun _ => by have := h2 (by omega) (by omega); omega) fun h _ => by omega]
    · rw [if_neg e, if_neg e]
      have hpos : 0 < a ∧ 0 < b := by
        by_cases h : k < i ∨ i + (l.length + 1) ≤ k
        · have := h1 h; omega
        · have := h2 (by omega) (by omega); omega
      by_cases c : x.sound = true ∧ sysI x.e.partner = sy
      · rw [if_pos ⟨c.1, hpos.1, c.2⟩, if_pos ⟨c.1, hpos.2, c.2⟩, pickL_room k sy l (i + 1) (a - 1) (b - 1) (fun h => by have := h1 (by omega); omega) fun h h' => by have := h2 (by omega) (by omega); omega]
      · rw [if_neg (fun h => c ⟨h.1, h.2.2⟩), if_neg (fun h => c ⟨h.1, h.2.2⟩), pickL_room k sy l (i + 1) a b (fun h => by have := h1 (by omega); omega) fun h h' => by have := h2 (by omega) (by omega); omega]

theorem lead_lt {l : List Lk} {k : Nat} (h : lead l = some k) : k < l.length := by
  unfold lead at h
  cases e1 : l.findIdx? (·.picked) with
  | some i =>
    rw [e1] at h
    cases h
    exact (List.findIdx?_eq_some_iff_getElem.1 e1).1
  | none =>
    rw [e1] at h
    exact (List.findIdx?_eq_some_iff_getElem.1 h).1
theorem pickP_mo {m : Int} (h1 : (s.l.length : Int) ≤ s.most) (h2 : (s.l.length : Int) ≤ m) : pickP (Grp.mo s m) = Grp.mo (pickP s) m := by
  unfold pickP Grp.mo
  simp only []
  have hll : (s.l.map Lk.keep).length = s.l.length := List.length_map ..
  generalize s.l.map Lk.keep = l1 at *
  cases e : lead l1 with
  | none => rfl
  | some k =>
    simp only []
    have := lead_lt e
    rw [pickL_room k _ l1 0 (m - 1) (s.most - 1) (fun h => by omega) fun h h' => by omega]
theorem pickP_len (s : Grp) : (pickP s).l.length = s.l.length := by
  unfold pickP
  simp only []
  split
  · simp
  · simp [pickL_len]
theorem ticked_mo {m now : Int} (h1 : (s.l.length : Int) ≤ s.most) (h2 : (s.l.length : Int) ≤ m) : (Grp.mo s m).ticked now = Grp.mo (s.ticked now) m := by
  unfold Grp.ticked
  have := pickP_mo (s := { s with l := s.l.map (·.tickP now) }) (m := m) (by simpa using h1) (by simpa using h2)
  unfold Grp.mo at *
  simp only [] at *
  rw [this]
theorem tickP_mo {m now : Int} (h1 : (s.l.length : Int) ≤ s.most) (h2 : (s.l.length : Int) ≤ m) : (Grp.mo s m).tickP now = Grp.mo (s.tickP now) m := by
  unfold Grp.tickP
  rw [ticked_mo h1 h2]
  split <;> rfl
theorem tickO_mo {m now : Int} (h1 : (s.l.length : Int) ≤ s.most) (h2 : (s.l.length : Int) ≤ m) : (Grp.mo s m).tickO now = s.tickO now := by
  unfold Grp.tickO
  rw [ticked_mo h1 h2]
  rfl
theorem on_mo {m port : Int} {f : Lk → Lk} : (Grp.mo s m).on port f = Grp.mo (s.on port f) m := by
  unfold Grp.on Grp.at_ Grp.mo
  simp only []
  cases s.l.findIdx? fun x => decide (x.port = port) <;> rfl
theorem on_len {port : Int} {f : Lk → Lk} : (s.on port f).l.length = s.l.length := by
  unfold Grp.on
  split
  · rfl
  · simp
theorem on_most {port : Int} {f : Lk → Lk} : (s.on port f).most = s.most := by
  unfold Grp.on
  split <;> rfl
theorem takeAll_mo {m now : Int} : ∀ (l : List Tld) (s : Grp), takeAll (Grp.mo s m) now l = Grp.mo (takeAll s now l) m
  | [], s => rfl
  | x :: l, s => by
    show takeAll ((Grp.mo s m).takeP x.port x.l now) now l = _
    unfold Grp.takeP
    rw [on_mo, takeAll_mo l]
    rfl
theorem takeAll_len {now : Int} : ∀ (l : List Tld) (s : Grp), (takeAll s now l).l.length = s.l.length ∧ (takeAll s now l).most = s.most
  | [], s => ⟨rfl, rfl⟩
  | x :: l, s => by
    have := takeAll_len (now := now) l (s.takeP x.port x.l now)
    unfold Grp.takeP at this
    rw [on_len, on_most] at this
    exact this
theorem tickP_len (s : Grp) (now : Int) : (s.tickP now).l.length = s.l.length ∧ (s.tickP now).most = s.most := by
  unfold Grp.tickP
  split
  · refine ⟨?_, rfl⟩
    show ((s.ticked now).l.map _).length = _
    rw [List.length_map]
    unfold Grp.ticked
    simp only [List.length_map, pickP_len]
  · exact ⟨rfl, rfl⟩
theorem meetK_len {lost from_ : Int} {t : Grp × Grp} : ∀ k, (meetK lost from_ t k).1.l.length = t.1.l.length ∧ (meetK lost from_ t k).1.most = t.1.most ∧ (meetK lost from_ t k).2.l.length = t.2.l.length ∧ (meetK lost from_ t k).2.most = t.2.most
  | 0 => ⟨rfl, rfl, rfl, rfl⟩
  | k + 1 => by
    obtain ⟨a1, a2, a3, a4⟩ := meetK_len (lost := lost) (from_ := from_) (t := t) k
    rw [meetK]
    generalize meetK lost from_ t k = T at *
    have b1 := tickP_len T.1 (from_ + k)
    have b2 := tickP_len T.2 (from_ + k)
    have c1 := takeAll_len (now := from_ + k) (T.2.tickO (from_ + k)) (T.1.tickP (from_ + k))
    have c2 := takeAll_len (now := from_ + k) (T.1.tickO (from_ + k)) (T.2.tickP (from_ + k))
    refine ⟨?_, ?_, ?_, ?_⟩
    · show (if _ then _ else _ : Grp).l.length = _
      split <;> omega
    · show (if _ then _ else _ : Grp).most = _
      split <;> omega
    · show (if _ then _ else _ : Grp).l.length = _
      split <;> omega
    · show (if _ then _ else _ : Grp).most = _
      split <;> omega
theorem meetK_mo {lost from_ m0 m1 : Int} {t : Grp × Grp} (h1 : (t.1.l.length : Int) ≤ t.1.most) (h2 : (t.1.l.length : Int) ≤ m0) (h3 : (t.2.l.length : Int) ≤ t.2.most) (h4 : (t.2.l.length : Int) ≤ m1) :
    ∀ k, meetK lost from_ (Grp.mo t.1 m0, Grp.mo t.2 m1) k = (Grp.mo (meetK lost from_ t k).1 m0, Grp.mo (meetK lost from_ t k).2 m1)
  | 0 => rfl
  | k + 1 => by
    obtain ⟨a1, a2, a3, a4⟩ := meetK_len (lost := lost) (from_ := from_) (t := t) k
    rw [meetK, meetK_mo h1 h2 h3 h4 k, meetK]
    generalize meetK lost from_ t k = T at *
    unfold meetR
    simp only []
    rw [tickP_mo (by omega) (by omega), tickP_mo (by omega) (by omega), tickO_mo (by omega) (by omega), tickO_mo (by omega) (by omega), takeAll_mo, takeAll_mo]
    congr 1
    · split <;> rfl
    · split <;> rfl
theorem enK_mo {m : Int} : ∀ k, enK (Grp.mo s m) k = Grp.mo (enK s k) m
  | 0 => rfl
  | k + 1 => by
    rw [enK, enK_mo k, enK]
    unfold Grp.enableP
    exact on_mo
theorem enK_len : ∀ k, (enK s k).l.length = s.l.length ∧ (enK s k).most = s.most
  | 0 => ⟨rfl, rfl⟩
  | k + 1 => by
    rw [enK]
    unfold Grp.enableP
    rw [on_len, on_most]
    exact enK_len k

/-! ### Plain: they meet, and part -/

def meetsOk (n : Nat) (lost : Int) : Bool :=
  let T := meetK 0 0 (pairA n 32, pairB n 32) 8
  let U := meetK lost 8 T 8
  decide (T.1.up.length = n) && decide (T.2.up.length = n) && T.1.partner.2 && decide (T.1.partner.1.sys = ⟨4, 0, 0, 0, 0, 0⟩) && decide ((if lost = 2 then U.1 else U.2).up.length = 0)
theorem meets_fact : (List.range 8).all (fun n => meetsOk (n + 1) 1 && meetsOk (n + 1) 2) = true := by decide +kernel
theorem meets_at {n : Nat} {lost : Int} (h1 : 1 ≤ n) (h2 : n ≤ 8) (hl : lost = 1 ∨ lost = 2) : meetsOk n lost = true := by
  have := List.all_eq_true.1 meets_fact (n - 1) (List.mem_range.2 (by omega))
  rw [Bool.and_eq_true, show n - 1 + 1 = n by omega] at this
  rcases hl with rfl | rfl
  · exact this.1
  · exact this.2
theorem pairA_mo (n : Nat) (m : Int) : pairA n m = Grp.mo (pairA n 32) m := enK_mo (s := preP idA 5 n 32) n
theorem pairB_mo (n : Nat) (m : Int) : pairB n m = Grp.mo (pairB n 32) m := enK_mo (s := preP idB 6 n 32) n
theorem pre_len (sys : Idn) (key : Int) (n : Nat) (m : Int) : (preP sys key n m).l.length = n := by unfold preP; rw [List.length_map, upTo_len]
theorem pairA_len (n : Nat) (m : Int) : (pairA n m).l.length = n ∧ (pairA n m).most = m := by
  have := enK_len (s := preP idA 5 n m) n
  rw [pre_len] at this
  exact this
theorem pairB_len (n : Nat) (m : Int) : (pairB n m).l.length = n ∧ (pairB n m).most = m := by
  have := enK_len (s := preP idB 6 n m) n
  rw [pre_len] at this
  exact this

/-! ### The laws -/

theorem calm_law {n m port : Int} (hk : ∀ w', Fr none_ w w' → K (.bool true) w') : CallsR Try.prog 4 #[i64 n, i64 m, i64 port] K w := by
  apply c4
  unfold p4
  simp only [push_cast, Nat.reduceAdd, Nat.reduceLeDiff, Nat.reduceLT, Int.reduceToNat, Nat.left_eq_add, Nat.add_eq_left, Nat.add_left_cancel_iff, Nat.reduceEqDiff, Nat.add_assoc, Nat.succ_ne_zero]
  refine awake_spec fun w0 f0 => ?_
  simp only [push_cast, Nat.reduceAdd, Nat.reduceLeDiff, Nat.reduceLT, Int.reduceToNat, Nat.left_eq_add, Nat.add_eq_left, Nat.add_left_cancel_iff, Nat.reduceEqDiff, Nat.add_assoc, Nat.succ_ne_zero]
  refine br_dec (fun _ => hk _ f0) fun e1 => ?_
  refine br_dec (fun _ => hk _ f0) fun e2 => ?_
  refine br_dec (fun _ => hk _ f0) fun e3 => ?_
  refine br_dec (fun _ => hk _ f0) fun e4 => ?_
  refine br_dec (fun _ => hk _ f0) fun e5 => ?_
  refine br_dec (fun _ => hk _ f0) fun e6 => ?_
  obtain ⟨N, rfl⟩ : ∃ N : Nat, n = N := ⟨n.toNat, by omega⟩
  obtain ⟨M, rfl⟩ : ∃ M : Nat, m = M := ⟨m.toNat, by omega⟩
  have hok := calm_at (n := N) (m := M) (by omega) (by omega) (by omega)
  unfold calmOk at hok
  simp only [Bool.and_eq_true, decide_eq_true_eq, List.all_eq_true, Bool.not_eq_true', decide_eq_false_iff_not] at hok
  obtain ⟨⟨⟨o1, o2⟩, o3⟩, o4⟩ := hok
  obtain ⟨⟨⟨o5, o6⟩, o7⟩, o8⟩ := o4 port (upTo_mem.2 ⟨by omega, by omega⟩)
  have wA := pairA_wf (n := N) (most := 8) (by omega) (by omega) (by decide)
  have wB := pairB_wf (n := N) (most := 8) (by omega) (by omega) (by decide)
  rw [own2]
  simp only [push_cast, Nat.reduceAdd, Nat.reduceLeDiff, Nat.reduceLT, Int.reduceToNat, Nat.left_eq_add, Nat.add_eq_left, Nat.add_left_cancel_iff, Nat.reduceEqDiff, Nat.add_assoc, Nat.succ_ne_zero]
  refine pair_spec (n := N) (m0 := 8) (m1 := 8) (by omega) (by omega) (by decide) (by decide) fun gA bsA pvA gB bsB pvB w1 hA hB hs nA nB f1 => ?_
  have hw8 : IntKind.i64.wrap (8 + (M : Int)) = ((8 + M : Nat) : Int) := by rw [wrap_i64 (by omega)]; omega
  simp only [push_cast, Nat.reduceAdd, Nat.reduceLeDiff, Nat.reduceLT, Int.reduceToNat, Nat.left_eq_add, Nat.add_eq_left, Nat.add_left_cancel_iff, Nat.reduceEqDiff, Nat.add_assoc, Nat.succ_ne_zero, hw8]
  have hw8' : IntKind.i64.wrap (8 + (M : Int)) = 8 + (M : Int) := wrap_i64 (by omega)
  refine meet_spec (n := 8 + M) (from_ := 0) (lost := 0) hA hB wA wB hs (by decide) (by decide) (by omega) fun w2 hA2 hB2 f2 => ?_
  obtain ⟨wA2, wB2⟩ := meetK_wf (lost := 0) (from_ := 0) (t := (pairA N 8, pairB N 8)) wA wB (8 + M)
  have hM : meetK 0 0 (pairA N 8, pairB N 8) (8 + M) = calmS N (8 + M) := rfl
  rw [hM] at hA2 hB2 wA2 wB2
  generalize calmS N (8 + M) = T at *
  have F2 : Fr none_ w w2 := (f0.trans f1).trans_new f2 fun c hc e => by
    have := f0.size
    rcases e with e | e
    · have := nA c (.inr e); omega
    · have := nB c (.inr e); omega
  have hsw : ∀ {W : World} {v : Value} {l : List Int} {R : Value → World → Prop}, OwnE 3 1 W v (l.map cellI) → R (i64 l.length) W → opS Try.prog (S.len v) R W := fun {W v l R} hv hR => by
    obtain ⟨a, c, e⟩ := hv.rd.form
    rw [e, List.length_map]
    exact hR
  have hne : ∀ {l : Nat}, l = N → ((l : Int) != (N : Int)) = false := fun {l} e => by rw [e]; exact bne_self_eq_false _
  simp only [push_cast, Nat.reduceAdd, Nat.reduceLeDiff, Nat.reduceLT, Int.reduceToNat, Nat.left_eq_add, Nat.add_eq_left, Nat.add_left_cancel_iff, Nat.reduceEqDiff, Nat.add_assoc, Nat.succ_ne_zero]
  refine up_spec hA2 wA2.len fun x w3 hx nx f3 => ?_
  refine hsw hx ?_
  rw [o1]
  simp only [push_cast, Nat.reduceAdd, Nat.reduceLeDiff, Nat.reduceLT, Int.reduceToNat, Nat.left_eq_add, Nat.add_eq_left, Nat.add_left_cancel_iff, Nat.reduceEqDiff, Nat.add_assoc, Nat.succ_ne_zero, bne_self_eq_false]
  have hB3 := hB2.fr0 f3
  have hA3 := hA2.fr0 f3
  refine up_spec hB3 wB2.len fun x w4 hx nx f4 => ?_
  refine hsw hx ?_
  rw [o2]
  simp only [push_cast, Nat.reduceAdd, Nat.reduceLeDiff, Nat.reduceLT, Int.reduceToNat, Nat.left_eq_add, Nat.add_eq_left, Nat.add_left_cancel_iff, Nat.reduceEqDiff, Nat.add_assoc, Nat.succ_ne_zero, bne_self_eq_false]
  have hA4 := hA3.fr0 f4
  refine picked_spec hA4 wA2.len fun x w5 hx nx f5 => ?_
  refine hsw hx ?_
  rw [o3]
  have hA5 := hA4.fr0 f5
  have F5 := ((F2.trans f3).trans f4).trans f5
  simp only [push_cast, Nat.reduceAdd, Nat.reduceLeDiff, Nat.reduceLT, Int.reduceToNat, Nat.left_eq_add, Nat.add_eq_left, Nat.add_left_cancel_iff, Nat.reduceEqDiff, Nat.add_assoc, Nat.succ_ne_zero, bne_self_eq_false, hw8']
  refine genable_spec hA5 wA2 fun w6 hA6 f6 => ?_
  rw [o5]
  have wA6 := wA2.enableP port false (8 + M)
  simp only [push_cast, Nat.reduceAdd, Nat.reduceLeDiff, Nat.reduceLT, Int.reduceToNat, Nat.left_eq_add, Nat.add_eq_left, Nat.add_left_cancel_iff, Nat.reduceEqDiff, Nat.add_assoc, Nat.succ_ne_zero]
  have hmom : momOk (8 + (M : Int)) := ⟨by omega, by omega⟩
  refine gtick_spec hA6 wA6 (fun e => absurd hmom e) fun _ out w7 hA7 hout nout f7 => ?_
  have F7 : Fr none_ w w7 := (F5.trans_new f6 fun c hc e => by have := nA c (.inr e); have := f0.size; omega).trans_new f7 fun c hc e => by have := nA c (.inr e); have := f0.size; omega
  have wA7 := wA6.tick (8 + M)
  simp only [push_cast, Nat.reduceAdd, Nat.reduceLeDiff, Nat.reduceLT, Int.reduceToNat, Nat.left_eq_add, Nat.add_eq_left, Nat.add_left_cancel_iff, Nat.reduceEqDiff, Nat.add_assoc, Nat.succ_ne_zero]
  refine br_intro (fun e => absurd e (by decide)) fun _ => ?_
  refine br_intro (fun e => absurd e (by decide)) fun _ => ?_
  refine up_spec hA7 wA7.len fun x w8 hx nx f8 => ?_
  refine hsw hx ?_
  have hwn : IntKind.i64.wrap ((N : Int) - 1) = (N : Int) - 1 := wrap_i64 (by omega)
  have hbne : ((((T.1.enableP port false (8 + M)).tickP (8 + M)).up.length : Int) != (N : Int) - 1) = false := by
    rw [show (((T.1.enableP port false (8 + M)).tickP (8 + M)).up.length : Int) = (N : Int) - 1 by omega]
    exact bne_self_eq_false _
  have hout8 := hout.rd.fr f8 fun _ _ h => h
  have F8 := F7.trans f8
  obtain ⟨oa, oc, rfl⟩ := hout8.form
  rw [List.length_map] at hout8 ⊢
  simp only [push_cast, Nat.reduceAdd, Nat.reduceLeDiff, Nat.reduceLT, Int.reduceToNat, Nat.left_eq_add, Nat.add_eq_left, Nat.add_left_cancel_iff, Nat.reduceEqDiff, Nat.add_assoc, Nat.succ_ne_zero, hwn, hbne]
  have hl32 := tick_n (now := 8 + (M : Int)) wA6
  generalize (T.1.enableP port false (8 + M)).tickO (8 + M) = l at *
  refine br_no (by omega) ?_
  refine jn0 (fun W => Fr none_ w W) (fun W h => hk W h) fun j hj => ?_
  refine loop1 (fun k u W => ∃ i : Nat, u = i64 i ∧ i + k = l.length ∧ W = w8) ?_ l.length ⟨0, rfl, by omega, rfl⟩
  rintro k u W X ⟨i, rfl, hi, rfl⟩ hX
  simp only [push_cast, Nat.reduceAdd, Nat.reduceLeDiff, Nat.reduceLT, Int.reduceToNat, Nat.left_eq_add, Nat.add_eq_left, Nat.add_left_cancel_iff, Nat.reduceEqDiff, Nat.add_assoc, Nat.succ_ne_zero]
  refine br_dec (fun hlt => ?_) fun hge => hj _ F8
  have hil : i < l.length := by omega
  refine s_iaE (es := l.map Tld.cells) hout8 (by omega) (by simpa using hil) fun b1 o1 c1 _ hE => ?_
  simp only [Int.toNat_natCast, List.getElem_map] at hE ⊢
  have h1 : cellAt W.heap[b1]? (o1 + i * 24) = some (i64 l[i].port) := hE.cell0 (by rw [Tld.len]; decide)
  have hwk : IntKind.i64.wrap ((i : Int) + 1) = ((i + 1 : Nat) : Int) := by rw [wrap_i64 (by omega)]; rfl
  simp only [push_cast, Nat.reduceAdd, Nat.reduceLeDiff, Nat.reduceLT, Int.reduceToNat, Nat.left_eq_add, Nat.add_eq_left, Nat.add_left_cancel_iff, Nat.reduceEqDiff, Nat.add_assoc, Nat.succ_ne_zero, h1, hwk]
  refine br_dec (fun e => absurd e (o8 _ (List.getElem_mem hil))) fun _ => ?_
  exact hX (k - 1) _ _ (by omega) ⟨i + 1, rfl, by omega, rfl⟩

theorem s_eqMacB {x y : Mac} (hx : x.ok) (hy : y.ok) (h : K (.bool (decide (x = y))) w) : opS Try.prog (S.binG .eql 30 (.agg x.cells.toArray) (.agg y.cells.toArray)) K w := s_eqMac hx hy h

theorem meets_law {n lost m0 m1 : Int} (hk : ∀ w', Fr none_ w w' → K (.bool true) w') : CallsR Try.prog 5 #[i64 n, .agg [i64 m0, i64 m1].toArray, i64 lost] K w := by
  apply c5
  unfold p5
  have hFx : Fr none_ w (w.alloc (cellsO [i64 m0, i64 m1] 52)) := (by repeat' first | with_reducible exact Fr.refl _ _ | with_reducible refine Fr.step_alloc ?_ ?_ | with_reducible refine Fr.step_drew ?_ | with_reducible refine Fr.step_wr ?_ ?_ _ _ | exact rfl | exact Or.inr (by omega) | exact Or.inl rfl | exact Or.inl (Or.inl rfl) | exact Or.inl (Or.inr rfl))
  have qx : (w.alloc (cellsO [i64 m0, i64 m1] 52)).heap[w.heap.size]? = some (cellsO [i64 m0, i64 m1] 52) := by simp only [push_cast, Nat.reduceAdd, Nat.reduceLeDiff, Nat.reduceLT, Int.reduceToNat, Nat.left_eq_add, Nat.add_eq_left, Nat.add_left_cancel_iff, Nat.reduceEqDiff, Nat.add_assoc, Nat.succ_ne_zero]
  simp only [opS_box, cells_agg, alloc_cellsO]
  generalize w.alloc (cellsO [i64 m0, i64 m1] 52) = wx at *
  generalize hxb : w.heap.size = xb at *
  simp only [push_cast, Nat.reduceAdd, Nat.reduceLeDiff, Nat.reduceLT, Int.reduceToNat, Nat.left_eq_add, Nat.add_eq_left, Nat.add_left_cancel_iff, Nat.reduceEqDiff, Nat.add_assoc, Nat.succ_ne_zero]
  refine awake_spec fun w0 f0 => ?_
  have q0 := f0.heap qx fun h => h
  have f0 := hFx.trans f0
  simp only [push_cast, Nat.reduceAdd, Nat.reduceLeDiff, Nat.reduceLT, Int.reduceToNat, Nat.left_eq_add, Nat.add_eq_left, Nat.add_left_cancel_iff, Nat.reduceEqDiff, Nat.add_assoc, Nat.succ_ne_zero]
  refine br_dec (fun _ => hk _ f0) fun e1 => ?_
  refine br_dec (fun _ => hk _ f0) fun e2 => ?_
  rw [opS_iaA _ _ _ _ (by decide)]
  simp only [push_cast, Nat.reduceAdd, Nat.reduceLeDiff, Nat.reduceLT, Int.reduceToNat, Nat.left_eq_add, Nat.add_eq_left, Nat.add_left_cancel_iff, Nat.reduceEqDiff, Nat.add_assoc, Nat.succ_ne_zero, q0, Nat.zero_mul, Nat.one_mul, List.getElem?_cons_zero, List.getElem?_cons_succ]
  refine br_dec (fun _ => hk _ f0) fun e3 => ?_
  rw [opS_iaA _ _ _ _ (by decide)]
  simp only [push_cast, Nat.reduceAdd, Nat.reduceLeDiff, Nat.reduceLT, Int.reduceToNat, Nat.left_eq_add, Nat.add_eq_left, Nat.add_left_cancel_iff, Nat.reduceEqDiff, Nat.add_assoc, Nat.succ_ne_zero, q0, Nat.zero_mul, Nat.one_mul, List.getElem?_cons_zero, List.getElem?_cons_succ]
  refine br_dec (fun _ => hk _ f0) fun e4 => ?_
  rw [opS_iaA _ _ _ _ (by decide)]
  simp only [push_cast, Nat.reduceAdd, Nat.reduceLeDiff, Nat.reduceLT, Int.reduceToNat, Nat.left_eq_add, Nat.add_eq_left, Nat.add_left_cancel_iff, Nat.reduceEqDiff, Nat.add_assoc, Nat.succ_ne_zero, q0, Nat.zero_mul, Nat.one_mul, List.getElem?_cons_zero, List.getElem?_cons_succ]
  refine br_dec (fun _ => hk _ f0) fun e5 => ?_
  rw [opS_iaA _ _ _ _ (by decide)]
  simp only [push_cast, Nat.reduceAdd, Nat.reduceLeDiff, Nat.reduceLT, Int.reduceToNat, Nat.left_eq_add, Nat.add_eq_left, Nat.add_left_cancel_iff, Nat.reduceEqDiff, Nat.add_assoc, Nat.succ_ne_zero, q0, Nat.zero_mul, Nat.one_mul, List.getElem?_cons_zero, List.getElem?_cons_succ]
  refine br_dec (fun _ => hk _ f0) fun e6 => ?_
  refine br_dec (fun _ => hk _ f0) fun e7 => ?_
  refine br_dec (fun _ => hk _ f0) fun e8 => ?_
  obtain ⟨N, rfl⟩ : ∃ N : Nat, n = N := ⟨n.toNat, by omega⟩
  have hlost : lost = 1 ∨ lost = 2 := by omega
  have hok := meets_at (n := N) (by omega) (by omega) hlost
  have pre : ∀ (l f : Int) (k : Nat), meetK l f (pairA N m0, pairB N m1) k = (Grp.mo (meetK l f (pairA N 32, pairB N 32) k).1 m0, Grp.mo (meetK l f (pairA N 32, pairB N 32) k).2 m1) := fun l f k => by
    have l1 := pairA_len N 32
    have l2 := pairB_len N 32
    rw [pairA_mo N m0, pairB_mo N m1]
    exact meetK_mo (t := (pairA N 32, pairB N 32)) (by rw [l1.1, l1.2]; omega) (by rw [l1.1]; omega) (by rw [l2.1, l2.2]; omega) (by rw [l2.1]; omega) k
  have wA := pairA_wf (n := N) (most := m0) (by omega) (by omega) (by omega)
  have wB := pairB_wf (n := N) (most := m1) (by omega) (by omega) (by omega)
  have hag : aggAt (some (cellsO [i64 m0, i64 m1] 52)) 0 2 = some (.agg [i64 m0, i64 m1].toArray) := rfl
  refine pair_spec (n := N) (m0 := m0) (m1 := m1) (by omega) (by omega) (by omega) (by omega) fun gA bsA pvA gB bsB pvB w1 hA hB hs nA nB f1 => ?_
  simp only [push_cast, Nat.reduceAdd, Nat.reduceLeDiff, Nat.reduceLT, Int.reduceToNat, Nat.left_eq_add, Nat.add_eq_left, Nat.add_left_cancel_iff, Nat.reduceEqDiff, Nat.add_assoc, Nat.succ_ne_zero]
  refine meet_spec (n := 8) (from_ := 0) (lost := 0) hA hB wA wB hs (by decide) (by decide) (by omega) fun w2 hA2 hB2 f2 => ?_
  obtain ⟨wA2, wB2⟩ := meetK_wf (lost := 0) (from_ := 0) (t := (pairA N m0, pairB N m1)) wA wB 8
  have F2 : Fr none_ w w2 := (f0.trans f1).trans_new f2 fun c hc e => by
    have := f0.size
    rcases e with e | e
    · have := nA c (.inr e); omega
    · have := nB c (.inr e); omega
  have l8 := meetK_len (lost := 0) (from_ := 0) (t := (pairA N 32, pairB N 32)) 8
  rw [(pairA_len N 32).1, (pairA_len N 32).2, (pairB_len N 32).1, (pairB_len N 32).2] at l8
  rw [pre] at hA2 hB2 wA2 wB2
  unfold meetsOk at hok
  simp only [] at hok
  generalize meetK 0 0 (pairA N 32, pairB N 32) 8 = T at *
  have hrun : meetK lost 8 (Grp.mo T.1 m0, Grp.mo T.2 m1) 8 = (Grp.mo (meetK lost 8 T 8).1 m0, Grp.mo (meetK lost 8 T 8).2 m1) :=
    meetK_mo (t := T) (by rw [l8.1, l8.2.1]; omega) (by rw [l8.1]; omega) (by rw [l8.2.2.1, l8.2.2.2]; omega) (by rw [l8.2.2.1]; omega) 8
  generalize hU : meetK lost 8 T 8 = U at *
  simp only [Bool.and_eq_true, decide_eq_true_eq] at hok
  obtain ⟨⟨⟨⟨o1, o2⟩, o3⟩, o4⟩, o5⟩ := hok
  have hsw : ∀ {W : World} {v : Value} {l : List Int} {R : Value → World → Prop}, OwnE 3 1 W v (l.map cellI) → R (i64 l.length) W → opS Try.prog (S.len v) R W := fun {W v l R} hv hR => by
    obtain ⟨a, c, e⟩ := hv.rd.form
    rw [e, List.length_map]
    exact hR
  simp only [push_cast, Nat.reduceAdd, Nat.reduceLeDiff, Nat.reduceLT, Int.reduceToNat, Nat.left_eq_add, Nat.add_eq_left, Nat.add_left_cancel_iff, Nat.reduceEqDiff, Nat.add_assoc, Nat.succ_ne_zero]
  refine up_spec hA2 wA2.len fun x w3 hx nx f3 => ?_
  refine hsw hx ?_
  have o1' : (Grp.mo T.1 m0).up.length = N := o1
  have o2' : (Grp.mo T.2 m1).up.length = N := o2
  rw [o1']
  simp only [push_cast, Nat.reduceAdd, Nat.reduceLeDiff, Nat.reduceLT, Int.reduceToNat, Nat.left_eq_add, Nat.add_eq_left, Nat.add_left_cancel_iff, Nat.reduceEqDiff, Nat.add_assoc, Nat.succ_ne_zero, bne_self_eq_false]
  refine up_spec (hB2.fr0 f3) wB2.len fun x w4 hx nx f4 => ?_
  refine hsw hx ?_
  rw [o2']
  simp only [push_cast, Nat.reduceAdd, Nat.reduceLeDiff, Nat.reduceLT, Int.reduceToNat, Nat.left_eq_add, Nat.add_eq_left, Nat.add_left_cancel_iff, Nat.reduceEqDiff, Nat.add_assoc, Nat.succ_ne_zero, bne_self_eq_false]
  have hA4 := (hA2.fr0 f3).fr0 f4
  have hB4 := (hB2.fr0 f3).fr0 f4
  refine gpartner_spec hA4 wA2.len fun w5 f5 => ?_
  have ep : (Grp.mo T.1 m0).partner = T.1.partner := rfl
  rw [ep, o3]
  have hA5 := hA4.fr0 f5
  have hB5 := hB4.fr0 f5
  have hFp : Fr none_ w5 (wr (w5.alloc (cellsO Inf.zero.cells 36)) w5.heap.size 0 T.1.partner.1.cells) := (by repeat' first | with_reducible exact Fr.refl _ _ | with_reducible refine Fr.step_alloc ?_ ?_ | with_reducible refine Fr.step_drew ?_ | with_reducible refine Fr.step_wr ?_ ?_ _ _ | exact rfl | exact Or.inr (by omega) | exact Or.inl rfl | exact Or.inl (Or.inl rfl) | exact Or.inl (Or.inr rfl))
  have qp : (wr (w5.alloc (cellsO Inf.zero.cells 36)) w5.heap.size 0 T.1.partner.1.cells).heap[w5.heap.size]? = some (cellsO T.1.partner.1.cells 36) := by simp only [push_cast, Nat.reduceAdd, Nat.reduceLeDiff, Nat.reduceLT, Int.reduceToNat, Nat.left_eq_add, Nat.add_eq_left, Nat.add_left_cancel_iff, Nat.reduceEqDiff, Nat.add_assoc, Nat.succ_ne_zero]
  have hzz : ∀ (R : Value → World → Prop), opS Try.prog (S.alloc 36) R w5 = R (pt w5.heap.size 0) (w5.alloc (cellsO Inf.zero.cells 36)) := fun R => zalloc_inf
  have hst : ∀ (R : Value → World → Prop), opS Try.prog (S.st 36 (pt w5.heap.size 0) (.agg T.1.partner.1.cells.toArray)) R (w5.alloc (cellsO Inf.zero.cells 36)) = R undef (wr (w5.alloc (cellsO Inf.zero.cells 36)) w5.heap.size 0 T.1.partner.1.cells) := fun R => by
    rw [s_stA _ _ _ (Inf.len _) (Inf.one _), heap_alloc, if_pos rfl, okAt_cells]
    exact onB_true _
  simp only [s_ext, List.getElem?_toArray, List.getElem?_cons_zero, List.getElem?_cons_succ, onS_some]
  rw [hzz, hst]
  generalize hwp : wr (w5.alloc (cellsO Inf.zero.cells 36)) w5.heap.size 0 T.1.partner.1.cells = w6 at *
  generalize hpb : w5.heap.size = pb at *
  rw [opS_cl]
  have hA6 := hA5.fr0 hFp
  have hB6 := hB5.fr0 hFp
  have F6 := ((((F2.trans f3).trans f4).trans f5).trans hFp)
  refine meet_spec (n := 8) (from_ := 8) (lost := lost) hA6 hB6 wA2 wB2 hs (by decide) (by decide) (by decide) fun w7 hA7 hB7 f7 => ?_
  obtain ⟨wA7, wB7⟩ := meetK_wf (lost := lost) (from_ := 8) (t := (Grp.mo T.1 m0, Grp.mo T.2 m1)) wA2 wB2 8
  rw [hrun] at hA7 hB7 wA7 wB7
  have F7 : Fr none_ w w7 := F6.trans_new f7 fun c hc e => by
    have := f0.size
    rcases e with e | e
    · have := nA c (.inr e); omega
    · have := nB c (.inr e); omega
  have qp7 := f7.heap qp fun e => by
    have h4 := hA4.lt
    rcases e with e | e
    · have := hA5.lt pb (.inr e); omega
    · have := hB5.lt pb (.inr e); omega
  have hmac4 : T.1.partner.1.sys.ok := by rw [o4]; exact idB_ok.2
  refine jn1 (fun v W => W = w7 ∧ ∃ gD bsD pvD sD, v = pt gD 0 ∧ CG w7 gD bsD pvD sD ∧ sD.wf ∧ sD.up.length = 0) ?_ fun j hj => ?_
  · rintro v W ⟨rfl, gD, bsD, pvD, sD, rfl, hD, wD, hup⟩
    simp only [push_cast, Nat.reduceAdd, Nat.reduceLeDiff, Nat.reduceLT, Int.reduceToNat, Nat.left_eq_add, Nat.add_eq_left, Nat.add_left_cancel_iff, Nat.reduceEqDiff, Nat.add_assoc, Nat.succ_ne_zero, qp7]
    rw [build_mac1]
    refine s_eqMac hmac4 idB_ok.2 ?_
    rw [o4, decide_eq_true rfl]
    simp only [push_cast, Nat.reduceAdd, Nat.reduceLeDiff, Nat.reduceLT, Int.reduceToNat, Nat.left_eq_add, Nat.add_eq_left, Nat.add_left_cancel_iff, Nat.reduceEqDiff, Nat.add_assoc, Nat.succ_ne_zero]
    refine up_spec hD wD.len fun x w8 hx nx f8 => ?_
    refine hsw hx ?_
    rw [hup]
    simp only [push_cast, Nat.reduceAdd, Nat.reduceLeDiff, Nat.reduceLT, Int.reduceToNat, Nat.left_eq_add, Nat.add_eq_left, Nat.add_left_cancel_iff, Nat.reduceEqDiff, Nat.add_assoc, Nat.succ_ne_zero]
    exact hk _ (F7.trans f8)
  · simp only [push_cast, Nat.reduceAdd, Nat.reduceLeDiff, Nat.reduceLT, Int.reduceToNat, Nat.left_eq_add, Nat.add_eq_left, Nat.add_left_cancel_iff, Nat.reduceEqDiff, Nat.add_assoc, Nat.succ_ne_zero]
    refine br_intro (fun e => ?_) fun e => ?_
    · rw [if_pos (by simpa using e)] at o5
      exact hj _ _ ⟨rfl, gA, bsA, pvA, _, rfl, hA7, wA7, o5⟩
    · rw [if_neg (by simpa using e)] at o5
      exact hj _ _ ⟨rfl, gB, bsB, pvB, _, rfl, hB7, wB7, o5⟩

end Go.Gx.S
end

section
/- Maps whose keys are whole numbers; how long a map is; maps that are cleared. -/
namespace Go.Gx
open Go
variable {P : Program} {K : Value → World → Prop} {w : World}

def kI (n : Int) : Value := .int .i64 n
theorem keyC_int {T : TypeId} (h : P.underlying T = some (.int .i64)) : KeyC P T Int kI isI where
  law := Maps.int_keyed h
  of := fun k hk => ⟨_, Maps.keyOf_int_mk h (by
    unfold Lit.wf
    simp only [Bool.and_eq_true, decide_eq_true_eq]
    exact hk)⟩
  inj := fun a b h => by unfold kI at h; cases h; rfl

section
variable {κ ν : Type} {kc : κ → Value} {vc : ν → Value} {kok : κ → Prop}

theorem s_mlen {T KT VT : TypeId} {ty : TypeId} [hT : MpT P T KT VT] {m : Nat} {l : List (κ × ν)} (h : MapR kc vc kok w m l) (hk : K (i64 l.length) w) : opS P (S.bi .len #[T] ty [.map (some m)]) K w := by
  obtain ⟨es, clock, hb, hh⟩ := h
  show opS P (do pure (Next.value (← Builtin.len_ #[T] ty #[.map (some m)]))) K w
  rw [opS_bind]
  have : (Builtin.len_ #[T] ty #[.map (some m)]).run P w = .ok (i64 l.length) w := by
    unfold Builtin.len_
    simp only [List.getElem?_toArray, List.getElem?_cons_zero]
    rw [Sem.run_bind, run_underlying_of hT.und, Result.andThen_ok]
    simp only []
    rw [Sem.run_bind, run_getMap hb, Result.andThen_ok]
    have := hh.len
    rw [Array.length_toList] at this
    show (pure (goInt es.size) : Sem Value).run P w = _
    rw [this]; rfl
  rw [this]; exact hk

theorem s_mclear {T KT VT : TypeId} {ty : TypeId} [hT : MpT P T KT VT] {m : Nat} {l : List (κ × ν)} (h : MapR kc vc kok w m l) (hk : ∀ w', MapR kc vc kok w' m ([] : List (κ × ν)) → Fr (fun b => b = m) w w' → K (.tuple #[]) w') : opS P (S.bi .clear #[T] ty [.map (some m)]) K w := by
  obtain ⟨es, clock, hb, hh⟩ := h
  show opS P (do pure (Next.value (← Builtin.clear_ #[T] ty #[.map (some m)]))) K w
  rw [opS_bind]
  have : (Builtin.clear_ #[T] ty #[.map (some m)]).run P w = .ok (.tuple #[]) (upd w m (.map #[] clock)) := by
    unfold Builtin.clear_
    simp only [List.getElem?_toArray, List.getElem?_cons_zero]
    rw [Sem.run_bind, run_underlying_of hT.und, Result.andThen_ok, Sem.run_bind]
    rw [run_getMap hb, Result.andThen_ok]
    simp only []
    rw [Sem.run_bind, run_setObj hb (by intro c T fz e; cases e), Result.andThen_ok]
    rfl
  rw [this]
  exact hk _ ⟨#[], clock, heap_upd_same (by rw [hb]; rfl), rfl, List.nodup_nil, by simp, List.nodup_nil, by simp⟩ (Fr.upd' hb rfl _ rfl rfl)
end
end Go.Gx
end

section
/- All that two groups of one system tell is of that system, and each of its own port. -/
set_option linter.unusedVariables false
set_option linter.unusedSimpArgs false
set_option maxRecDepth 100000
namespace Go.Gx.S
open Go Go.Gx Go.Proofs Go.Sort
variable {K : Value → World → Prop} {w : World} {g : Nat} {bs : List B3} {pv fv : Value} {s : Grp}

/-! ### Plain: whose they are -/

/-- a link of this system and key, whose port is one of some -/
def ofSys (ports : List Int) (x : Lk) : Prop := x.e.own.prio = 1 ∧ x.e.own.sys = idA.mac ∧ x.e.own.key = 5 ∧ x.e.own.port = x.port ∧ x.port ∈ ports
def allOf (ports : List Int) (s : Grp) : Prop := ∀ x ∈ s.l, ofSys ports x
theorem new_of {ports : List Int} {most : Int} : allOf ports (newG idA 5 ports most) := fun x hx => by
  obtain ⟨p, hp, rfl⟩ := List.mem_map.1 (show x ∈ (srtI ports).map (newLk idA 5) from hx)
  exact ⟨rfl, rfl, rfl, rfl, (srt_perm ports).mem_iff.1 hp⟩
theorem enable_own (x : Edp) (is : Bool) (now : Int) : (x.enableP is now).own = x.own := by
  unfold Edp.enableP; repeat' split
  all_goals rfl
theorem take_own (x : Edp) (l : Lcp) (now : Int) : (x.takeP l now).own = x.own := by
  unfold Edp.takeP; split <;> rfl
theorem etick_own (x : Edp) (now : Int) : (x.tickP now).own = x.own := by
  unfold Edp.tickP; repeat' split
  all_goals rfl
theorem of_same {ports : List Int} {x y : Lk} (h : ofSys ports x) (he : y.e.own = x.e.own) (hp : y.port = x.port) : ofSys ports y := by
  unfold ofSys at *
  rw [he, hp]; exact h
theorem on_of {ports : List Int} {port : Int} {f : Lk → Lk} (h : allOf ports s) (hf : ∀ x : Lk, (f x).e.own = x.e.own ∧ (f x).port = x.port) : allOf ports (s.on port f) := by
  unfold Grp.on
  split
  · exact h
  · intro x hx
    have hx : x ∈ s.l.modify _ f := hx
    rw [List.mem_iff_getElem?] at hx
    obtain ⟨k, hk⟩ := hx
    rw [List.getElem?_modify] at hk
    cases e : s.l[k]? with
    | none => rw [e] at hk; cases hk
    | some y =>
      rw [e] at hk
      have hy := h y (List.mem_of_getElem? e)
      have hk := Option.some.inj hk
      have hk : (if _ then f y else y) = x := hk
      rw [← hk]
      split
      · exact of_same hy (hf y).1 (hf y).2
      · exact hy
theorem map_of {ports : List Int} {l : List Lk} {f : Lk → Lk} (h : ∀ x ∈ l, ofSys ports x) (hf : ∀ x : Lk, (f x).e.own = x.e.own ∧ (f x).port = x.port) : ∀ x ∈ l.map f, ofSys ports x := fun x hx => by
  obtain ⟨y, hy, rfl⟩ := List.mem_map.1 hx
  exact of_same (h y hy) (hf y).1 (hf y).2
theorem pickL_of {ports : List Int} (k : Nat) (sy : Inf) : ∀ (l : List Lk) (i : Nat) (left : Int), (∀ x ∈ l, ofSys ports x) → ∀ x ∈ pickL k sy i left l, ofSys ports x
  | [], _, _, h => by simp [pickL]
  | y :: l, i, left, h => by
    have hy := h y (List.mem_cons_self ..)
    have hl : ∀ x ∈ l, ofSys ports x := fun x hx => h x (List.mem_cons_of_mem _ hx)
    rw [pickL]
    intro x hx
    split at hx
    · rcases List.mem_cons.1 hx with rfl | hx
      · exact of_same hy rfl rfl
      · exact pickL_of k sy l _ _ hl x hx
    · split at hx
      · rcases List.mem_cons.1 hx with rfl | hx
        · exact of_same hy rfl rfl
        · exact pickL_of k sy l _ _ hl x hx
      · rcases List.mem_cons.1 hx with rfl | hx
        · exact of_same hy rfl rfl
        · exact pickL_of k sy l _ _ hl x hx
theorem pick_of {ports : List Int} (h : allOf ports s) : allOf ports (pickP s) := by
  have hk : ∀ x ∈ s.l.map Lk.keep, ofSys ports x := map_of h fun x => ⟨rfl, rfl⟩
  unfold pickP allOf
  simp only []
  split
  · exact hk
  · exact pickL_of _ _ _ _ _ hk
theorem ticked_of {ports : List Int} {now : Int} (h : allOf ports s) : allOf ports (s.ticked now) := by
  unfold Grp.ticked allOf
  exact map_of (pick_of (s := { s with l := s.l.map (·.tickP now) }) (map_of h fun x => ⟨etick_own x.e now, rfl⟩)) fun x => ⟨rfl, rfl⟩
theorem tick_of {ports : List Int} {now : Int} (h : allOf ports s) : allOf ports (s.tickP now) := by
  unfold Grp.tickP
  split
  · exact map_of (ticked_of h) fun x => by unfold Lk.says; split <;> exact ⟨rfl, rfl⟩
  · exact h
theorem take_of {ports : List Int} {port now : Int} {l : Lcp} (h : allOf ports s) : allOf ports (s.takeP port l now) := on_of h fun x => ⟨take_own x.e l now, rfl⟩
theorem enable_of {ports : List Int} {port now : Int} {is : Bool} (h : allOf ports s) : allOf ports (s.enableP port is now) := on_of h fun x => ⟨enable_own x.e is now, rfl⟩
theorem tickO_of {ports : List Int} {now : Int} (h : allOf ports s) : ∀ t ∈ s.tickO now, t.l.actor.prio = 1 ∧ t.l.actor.sys = idA.mac ∧ t.l.actor.key = 5 ∧ t.l.actor.port = t.port ∧ t.port ∈ ports := fun t ht => by
  unfold Grp.tickO at ht
  split at ht
  · unfold saysL at ht
    obtain ⟨x, hx, rfl⟩ := List.mem_map.1 ht
    have := ticked_of (now := now) h x (List.mem_filter.1 hx).1
    exact this
  · cases ht


/-! ### Memory -/

theorem opS_ix {T E n m : Nat} [hT : ArT Try.prog T m E] [hs : Sz Try.prog E n false] {cs : Array Value} {k : IntKind} {i : Int} {v : Value} (h : 0 ≤ i ∧ i < m) (hv : cs[i.toNat * n]? = some v) : opS Try.prog (S.ix T (.agg cs) (.int k i)) K w = K v w := by
  unfold S.ix
  rw [opS_bind]
  unfold Instr.index
  simp only [asIntOf, pure_bind]
  rw [Sem.run_bind, run_underlying_of hT.und, Result.andThen_ok]
  simp only []
  rw [if_pos h, Sem.run_bind, hs.size w, Result.andThen_ok]
  unfold part
  rw [Sem.run_bind, hs.agg w, Result.andThen_ok]
  simp only [hv]
  rfl
instance : KeyC Try.prog 3 Int kI isI := keyC_int uInt

theorem gnew_two {key most : Int} {ports : List Int} {v : Value} (hv : RdE 1 w v (ports.map cellI)) (hl : ports.length < 2 ^ 62)
    (h0 : ∀ (e : Int) w', e ≠ 0 → Fr none_ w w' → K (.tuple #[.pointer none, i64 e]) w')
    (h1 : argOk idA key ports most → ∀ g bs pv w', CG w' g bs pv (newG idA key ports most) → (∀ y, fG g bs y → w.heap.size ≤ y) → (∀ y, blkS pv = some y → w.heap.size ≤ y) → Fr none_ w w' → K (.tuple #[pt g 0, i64 0]) w') :
    CallsR Try.prog 7 #[.agg idA.cells.toArray, i64 key, v, i64 most] K w :=
  gnew_spec idA_ok hv hl (fun _ w' h => h0 1 w' (by decide) h) (fun _ _ w' h => h0 5 w' (by decide) h) fun h _ => h1 h

/-- what is told is right -/
def toldOk (ports : List Int) (t : Tld) : Prop := t.l.actor.prio = 1 ∧ t.l.actor.sys = idA.mac ∧ t.l.actor.key = 5 ∧ t.l.actor.port = t.port ∧ t.port ∈ ports

theorem told_spec {v : Value} {l : List Tld} {mb : Nat} {ms : List (Int × Int)} {k : Int} {ports : List Int} (hv : OwnE 48 24 w v (l.map Tld.cells)) (hl : ∀ t ∈ l, toldOk ports t) (hn : l.length ≤ 32)
    (hm : MapR kI kI isI w mb ms) (hg : ∀ p ∈ ports, getL ms p = some k) (hp : ∀ p ∈ ports, isI p) {R : Value → World → Prop} {j : World → Prop} (hj : ∀ w', Fr none_ w w' → j w') :
    loopJ 1 (fun j7 x39 =>
      opS Try.prog (S.len v) fun x40 =>
      opS Try.prog (S.binI .lss x39 x40) fun x41 =>
      brn x41 (
        opS Try.prog (S.ia 44 v x39) fun x42 =>
        opS Try.prog (S.fa 48 x42 1) fun x43 =>
        opS Try.prog (S.fa 38 x43 0) fun x44 =>
        opS Try.prog (S.ld 36 x44) fun x45 =>
        opS Try.prog (S.alloc 36) fun x46 =>
        opS Try.prog (S.st 36 x46 x45) fun x47 =>
        drw <|
        quietS fun C =>
        qtS Try.prog C (S.fa 36 x46 0) fun x48 =>
        qtS Try.prog C (S.ld 3 x48) fun x49 =>
        qtS Try.prog C (S.binI .neq x49 (.int .i64 1)) fun x50 =>
        gqtS Try.prog C x50 false (S.fa 36 x46 1) fun x51 =>
        gqtS Try.prog C x50 false (S.ld 30 x51) fun x52 =>
        gqtS Try.prog C x50 false (S.build 30 [(0, (.int .u8 2))]) fun x53 =>
        gqtS Try.prog C x50 false (S.binG .neq 30 x52 x53) fun x54 =>
        qtS Try.prog C (S.pick x50 (.bool true) x54) fun x55 =>
        gqtS Try.prog C x55 false (S.fa 36 x46 2) fun x56 =>
        gqtS Try.prog C x55 false (S.ld 3 x56) fun x57 =>
        gqtS Try.prog C x55 false (S.binI .neq x57 (.int .i64 5)) fun x58 =>
        qtS Try.prog C (S.pick x55 (.bool true) x58) fun x59 =>
        gqtS Try.prog C x59 false (S.fa 36 x46 4) fun x60 =>
        gqtS Try.prog C x59 false (S.ld 3 x60) fun x61 =>
        gqtS Try.prog C x59 false (S.mv v) fun x62 =>
        gqtS Try.prog C x59 false (S.mv x39) fun x63 =>
        gqtS Try.prog C x59 false (S.ia 44 x62 x63) fun x64 =>
        gqtS Try.prog C x59 false (S.fa 48 x64 0) fun x65 =>
        gqtS Try.prog C x59 false (S.ld 3 x65) fun x66 =>
        gqtS Try.prog C x59 false (S.binI .neq x61 x66) fun x67 =>
        qtS Try.prog C (S.pick x59 (.bool true) x67) fun x68 =>
        gqtS Try.prog C x68 false (S.mv (.map (some mb))) fun x69 =>
        gqtS Try.prog C x68 false (S.fa 36 x46 4) fun x70 =>
        gqtS Try.prog C x68 false (S.ld 3 x70) fun x71 =>
        gqtS Try.prog C x68 false (S.lk 34 x69 x71 false) fun x72 =>
        gqtS Try.prog C x68 false (S.mv (i64 k)) fun x73 =>
        qendS C <|
        brn x68 (
          R (.bool false)
        ) (
          opS Try.prog (S.binI .neq x72 x73) fun x74 =>
          brn x74 (
            R (.bool false)
          ) (
            opS Try.prog (S.binI .add x39 (.int .i64 1)) fun x75 =>
            j7 x75
          )
        )
      ) j) (.int .i64 0) w := by
  refine loop1 (fun n u W => ∃ i : Nat, u = i64 i ∧ i + n = l.length ∧ Fr none_ w W) ?_ l.length ⟨0, rfl, by omega, Fr.refl _ _⟩
  rintro n u W X ⟨i, rfl, hi, hF⟩ hX
  have hvl : ∀ (Q : Value → World → Prop) W, opS Try.prog (S.len v) Q W = Q (i64 l.length) W := fun Q W => by
    obtain ⟨a, c, e⟩ := hv.rd.form
    rw [e, List.length_map]; rfl
  rw [hvl]
  simp only [push_cast, Nat.reduceAdd, Nat.reduceLeDiff, Nat.reduceLT, Int.reduceToNat, Nat.left_eq_add, Nat.add_eq_left, Nat.add_left_cancel_iff, Nat.reduceEqDiff, Nat.add_assoc, Nat.succ_ne_zero]
  refine br_dec (fun hlt => ?_) fun _ => hj _ hF
  have hil : i < l.length := by omega
  obtain ⟨o1, o2, o3, o4, o5⟩ := hl _ (List.getElem_mem hil)
  have hwk : IntKind.i64.wrap ((i : Int) + 1) = ((i + 1 : Nat) : Int) := by rw [wrap_i64 (by omega)]; rfl
  obtain ⟨b1, so, c1, hvf⟩ := hv.form' (by rw [List.length_map]; omega)
  rw [List.length_map] at hvf
  subst hvf
  have hvW : ∀ {w' : World}, Fr none_ w w' → RdE 24 w' (.slice (some ⟨b1, so, none⟩) (l.map Tld.cells).length c1) (l.map Tld.cells) := fun {w'} hC => by
    rw [List.length_map]
    exact hv.rd.fr hC fun _ _ h => h
  have hport : ∀ {w' : World}, Fr none_ w w' → cellAt w'.heap[b1]? (so + i * 24) = some (i64 l[i].port) := fun {w'} hC => by
    have := s_iaE (P := Try.prog) (T := 44) (E := 48) (sz := 24) (K := fun a W => W = w' → cellAt w'.heap[b1]? (so + i * 24) = some (i64 l[i].port)) (k := .i64) (i := (i : Int)) (hvW hC) (by omega) (by simpa using hil) fun b2 o2 c2 e hE hW => by
      cases e
      simp only [Int.toNat_natCast, List.getElem_map] at hE
      exact hE.cell0 (by rw [Tld.len]; decide)
    rw [opS_iaS, if_pos (by rw [List.length_map]; exact ⟨by omega, hlt⟩)] at this
    exact this rfl
  have hact : aggAt W.heap[b1]? (so + i * 24 + 1) 11 = some (.agg l[i].l.actor.cells.toArray) := by
    have := s_iaE (P := Try.prog) (T := 44) (E := 48) (sz := 24) (K := fun a W' => W' = W → aggAt W.heap[b1]? (so + i * 24 + 1) 11 = some (.agg l[i].l.actor.cells.toArray)) (k := .i64) (i := (i : Int)) (hvW hF) (by omega) (by simpa using hil) fun b2 o2 c2 e hE hW => by
      cases e
      simp only [Int.toNat_natCast, List.getElem_map] at hE
      have := hE.agg 1 11 (by rw [Tld.len]; decide)
      rw [Tld.d_l_actor] at this
      exact this
    rw [opS_iaS, if_pos (by rw [List.length_map]; exact ⟨by omega, hlt⟩)] at this
    exact this rfl
  have hal2 : ∀ W : World, Fr none_ W (wr (W.alloc (cellsO Inf.zero.cells 36)) W.heap.size 0 l[i].l.actor.cells) ∧ (wr (W.alloc (cellsO Inf.zero.cells 36)) W.heap.size 0 l[i].l.actor.cells).heap[W.heap.size]? = some (cellsO l[i].l.actor.cells 36) := fun W => ⟨(by repeat' first | with_reducible exact Fr.refl _ _ | with_reducible refine Fr.step_alloc ?_ ?_ | with_reducible refine Fr.step_drew ?_ | with_reducible refine Fr.step_wr ?_ ?_ _ _ | exact rfl | exact Or.inr (by omega) | exact Or.inl rfl | exact Or.inl (Or.inl rfl) | exact Or.inl (Or.inr rfl)), by simp only [push_cast, Nat.reduceAdd, Nat.reduceLeDiff, Nat.reduceLT, Int.reduceToNat, Nat.left_eq_add, Nat.add_eq_left, Nat.add_left_cancel_iff, Nat.reduceEqDiff, Nat.add_assoc, Nat.succ_ne_zero]⟩
  have hzz : ∀ (R : Value → World → Prop) (W : World), opS Try.prog (S.alloc 36) R W = R (pt W.heap.size 0) (W.alloc (cellsO Inf.zero.cells 36)) := fun R W => zalloc_inf
  have hst : ∀ (R : Value → World → Prop) (W : World), opS Try.prog (S.st 36 (pt W.heap.size 0) (.agg l[i].l.actor.cells.toArray)) R (W.alloc (cellsO Inf.zero.cells 36)) = R undef (wr (W.alloc (cellsO Inf.zero.cells 36)) W.heap.size 0 l[i].l.actor.cells) := fun R W => by
    rw [s_stA _ _ _ (Inf.len _) (Inf.one _), heap_alloc, if_pos rfl, okAt_cells]
    exact onB_true _
  rw [opS_iaS, if_pos ⟨by omega, hlt⟩]
  simp only [Int.toNat_natCast, fa48_1, fa38_0, Nat.add_zero]
  rw [s_ldN, hact, onS_some]
  rotate_left
  · decide
  rw [hzz, hst]
  obtain ⟨g3, q3⟩ := hal2 W
  generalize hpb : W.heap.size = pb at *
  generalize wr (W.alloc (cellsO Inf.zero.cells 36)) pb 0 l[i].l.actor.cells = W3 at *
  have hF3 := hF.trans g3
  have hm3 := hm.fr hF3 fun h => h
  generalize l[i].l.actor = ac at *
  have hmac : ac.sys.ok := by rw [o2]; exact idA_ok.2
  rw [drw_eq]
  refine quietS_intro (Fr none_ W3) (Fr.drew W3) ?_
  refine qt_pure (fun R w' _ => fa36_0 _ _) ?_
  refine qt_ld1 (v := i64 1) q3 (by rw [cellAt_cells, ← o1]; rfl) ?_
  refine qt_pure (v := .bool false) (fun R w' _ => opS_neq _ _ _) ?_
  refine gqt_yes rfl (qt_pure (fun R w' _ => fa36_1 _ _) ?_)
  refine gqt_yes rfl (qt_ldN (n := 6) (v := .agg idA.mac.cells.toArray) (by decide) q3 (by rw [← o2]; simp only [push_cast, Nat.reduceAdd, Nat.reduceLeDiff, Nat.reduceLT, Int.reduceToNat, Nat.left_eq_add, Nat.add_eq_left, Nat.add_left_cancel_iff, Nat.reduceEqDiff, Nat.add_assoc, Nat.succ_ne_zero]) ?_)
  refine gqt_yes rfl (qt_pure (v := .agg idA.mac.cells.toArray) (fun R w' _ => build_mac1) ?_)
  refine gqt_yes rfl (qt_run (.bool false) (fun R w' hC hR => s_neMac idA_ok.2 idA_ok.2 (by rw [decide_eq_true rfl]; exact hR w' hC)) ?_)
  refine qt_pure (v := .bool false) (fun R w' _ => by rw [opS_pick]; rfl) ?_
  refine gqt_yes rfl (qt_pure (fun R w' _ => fa36_2 _ _) ?_)
  refine gqt_yes rfl (qt_ld1 (v := i64 5) q3 (by rw [cellAt_cells, ← o3]; rfl) ?_)
  refine gqt_yes rfl (qt_pure (v := .bool false) (fun R w' _ => opS_neq _ _ _) ?_)
  refine qt_pure (v := .bool false) (fun R w' _ => by rw [opS_pick]; rfl) ?_
  refine gqt_yes rfl (qt_pure (fun R w' _ => fa36_4 _ _) ?_)
  refine gqt_yes rfl (qt_ld1 (v := i64 l[i].port) q3 (by rw [cellAt_cells, ← o4]; rfl) ?_)
  refine gqt_yes rfl (qt_mv ?_)
  refine gqt_yes rfl (qt_mv ?_)
  refine gqt_yes rfl (qt_pure (v := pt b1 (so + i * 24)) (fun R w' hC => by rw [opS_iaS, if_pos ⟨by omega, hlt⟩, Int.toNat_natCast]) ?_)
  refine gqt_yes rfl (qt_pure (fun R w' _ => fa48_0 _ _) ?_)
  refine gqt_yes rfl (qt_pure (v := i64 l[i].port) (fun R w' hC => by rw [s_ld1, Nat.add_zero, hport (hF3.trans hC), onS_some]) ?_)
  refine gqt_yes rfl (qt_pure (v := .bool false) (fun R w' _ => by rw [opS_neq, bne_self_eq_false]) ?_)
  refine qt_pure (v := .bool false) (fun R w' _ => by rw [opS_pick]; rfl) ?_
  refine gqt_yes rfl (qt_mv ?_)
  refine gqt_yes rfl (qt_pure (fun R w' _ => fa36_4 _ _) ?_)
  refine gqt_yes rfl (qt_ld1 (v := kI l[i].port) q3 (by rw [cellAt_cells, ← o4]; rfl) ?_)
  refine gqt_yes rfl (qt_run (i64 k) (fun R w' hC hR => s_lk (hm3.fr hC fun h => h) (hp _ o5) (by rw [hg _ o5]; exact hR w' hC)) ?_)
  refine gqt_yes rfl (qt_mv ?_)
  refine qendS_intro fun W4 hF4 => ?_
  simp only [push_cast, Nat.reduceAdd, Nat.reduceLeDiff, Nat.reduceLT, Int.reduceToNat, Nat.left_eq_add, Nat.add_eq_left, Nat.add_left_cancel_iff, Nat.reduceEqDiff, Nat.add_assoc, Nat.succ_ne_zero, bne_self_eq_false, hwk]
  exact hX (n - 1) _ _ (by omega) ⟨i + 1, rfl, by omega, hF3.trans hF4⟩


/-! ### The law -/

section
variable {gA gB : Nat} {bsA bsB : List B3} {pvA pvB : Value} {pa pb : List Int}
/-- two groups, of these ports -/
def GG (pa pb : List Int) (gA : Nat) (bsA : List B3) (pvA : Value) (gB : Nat) (bsB : List B3) (pvB : Value) (w : World) : Prop :=
  ∃ a b, (CG w gA bsA pvA a ∧ a.wf ∧ allOf pa a) ∧ (CG w gB bsB pvB b ∧ b.wf ∧ allOf pb b)
theorem GG.fr {fp : Nat → Prop} {w' : World} (h : GG pa pb gA bsA pvA gB bsB pvB w) (hF : Fr fp w w') (h1 : ∀ c, (fG gA bsA c ∨ fG gB bsB c) ∨ (blkS pvA = some c ∨ blkS pvB = some c) → ¬ fp c) : GG pa pb gA bsA pvA gB bsB pvB w' := by
  obtain ⟨a, b, ⟨h2, h3, h4⟩, h5, h6, h7⟩ := h
  exact ⟨a, b, ⟨h2.fr hF (fun c hc => h1 c (.inl (.inl hc))) fun c hc => h1 c (.inr (.inl hc)), h3, h4⟩, h5.fr hF (fun c hc => h1 c (.inl (.inr hc))) fun c hc => h1 c (.inr (.inr hc)), h6, h7⟩
theorem GG.fr0 {w' : World} (h : GG pa pb gA bsA pvA gB bsB pvB w) (hF : Fr none_ w w') : GG pa pb gA bsA pvA gB bsB pvB w' := by
  obtain ⟨a, b, ⟨h1, h2, h3⟩, h4, h5, h6⟩ := h
  exact ⟨a, b, ⟨h1.fr0 hF, h2, h3⟩, h4.fr0 hF, h5, h6⟩
/-- one of these, and how the other stays -/
theorem GG.one {k : Int} {ms : List (Int × Int)} (hs : SepG gA bsA pvA gB bsB pvB) (h : GG pa pb gA bsA pvA gB bsB pvB w) (hk : k = 1 ∨ k = 2) (hA : ∀ p ∈ pa, getL ms p = some 1) (hB : ∀ p ∈ pb, getL ms p = some 2) (iA : ∀ p ∈ pa, isI p) (iB : ∀ p ∈ pb, isI p) :
    ∃ g bs pv s ports, [Value.pointer none, pt gA 0, pt gB 0][k.toNat]? = some (pt g 0) ∧ CG w g bs pv s ∧ s.wf ∧ allOf ports s ∧ (∀ p ∈ ports, getL ms p = some k) ∧ (∀ p ∈ ports, isI p) ∧ (∀ c, fG g bs c → fG gA bsA c ∨ fG gB bsB c) ∧
      ∀ w' s', CG w' g bs pv s' → s'.wf → allOf ports s' → Fr (fL bs) w w' → GG pa pb gA bsA pvA gB bsB pvB w' := by
  obtain ⟨a, b, ⟨h1, h2, h3⟩, h4, h5, h6⟩ := h
  rcases hk with rfl | rfl
  · exact ⟨gA, bsA, pvA, a, pa, rfl, h1, h2, h3, hA, iA, fun c hc => .inl hc, fun w' s' g1 g2 g3 g4 => ⟨s', b, ⟨g1, g2, g3⟩, hs.symm.frA h4 g4, h5, h6⟩⟩
  · exact ⟨gB, bsB, pvB, b, pb, rfl, h4, h5, h6, hB, iB, fun c hc => .inr hc, fun w' s' g1 g2 g3 g4 => ⟨a, s', ⟨hs.frA h1 g4, h2, h3⟩, g1, g2, g3⟩⟩
end

theorem build_3g {x y : Nat} : opS Try.prog (S.build 41 [(0, (.pointer none)), (1, pt x 0), (2, pt y 0)]) K w = K (.agg #[.pointer none, pt x 0, pt y 0]) w := by
  rw [opS_build _ rfl]; rfl

set_option maxHeartbeats 1000000 in
theorem one_law {av bv sv : Value} {pa pb : List Int} {st : List Ast} (ha : RdE 1 w av (pa.map cellI)) (hb : RdE 1 w bv (pb.map cellI)) (ia : ∀ p ∈ pa, isI p) (ib : ∀ p ∈ pb, isI p) (hst : RdE 27 w sv (st.map Ast.cells)) (hso : ∀ x ∈ st, x.ok)
    (hk : ∀ w', Fr none_ w w' → K (.bool true) w') : CallsR Try.prog 3 #[av, bv, sv] K w := by
  apply c3
  unfold p3
  have alen : ∀ (R : Value → World → Prop) W, opS Try.prog (S.len av) R W = R (i64 pa.length) W := fun R W => by
    obtain ⟨a, c, e⟩ := ha.form
    rw [e, List.length_map]; rfl
  have blen : ∀ (R : Value → World → Prop) W, opS Try.prog (S.len bv) R W = R (i64 pb.length) W := fun R W => by
    obtain ⟨a, c, e⟩ := hb.form
    rw [e, List.length_map]; rfl
  have slen : ∀ (R : Value → World → Prop) W, opS Try.prog (S.len sv) R W = R (i64 st.length) W := fun R W => by
    obtain ⟨a, c, e⟩ := hst.form
    rw [e, List.length_map]; rfl
  rw [opS_cl]
  refine awake_spec fun w0 f0 => ?_
  simp only [push_cast, Nat.reduceAdd, Nat.reduceLeDiff, Nat.reduceLT, Int.reduceToNat, Nat.left_eq_add, Nat.add_eq_left, Nat.add_left_cancel_iff, Nat.reduceEqDiff, Nat.add_assoc, Nat.succ_ne_zero]
  rw [alen]
  simp only [push_cast, Nat.reduceAdd, Nat.reduceLeDiff, Nat.reduceLT, Int.reduceToNat, Nat.left_eq_add, Nat.add_eq_left, Nat.add_left_cancel_iff, Nat.reduceEqDiff, Nat.add_assoc, Nat.succ_ne_zero]
  refine br_dec (fun _ => hk _ f0) fun e1 => ?_
  rw [blen]
  simp only [push_cast, Nat.reduceAdd, Nat.reduceLeDiff, Nat.reduceLT, Int.reduceToNat, Nat.left_eq_add, Nat.add_eq_left, Nat.add_left_cancel_iff, Nat.reduceEqDiff, Nat.add_assoc, Nat.succ_ne_zero]
  refine br_dec (fun _ => hk _ f0) fun e2 => ?_
  refine sys_spec fun w1 f1 => ?_
  have F1 := f0.trans f1
  simp only [push_cast, Nat.reduceAdd, Nat.reduceLeDiff, Nat.reduceLT, Int.reduceToNat, Nat.left_eq_add, Nat.add_eq_left, Nat.add_left_cancel_iff, Nat.reduceEqDiff, Nat.add_assoc, Nat.succ_ne_zero]
  refine gnew_two (ha.fr F1 fun _ _ h => h) (by omega) (fun e w2 he f2 => ?_) fun hargA gA bsA pvA w2 hA nA npA f2 => ?_
  · have F2 := F1.trans f2
    simp only [push_cast, Nat.reduceAdd, Nat.reduceLeDiff, Nat.reduceLT, Int.reduceToNat, Nat.left_eq_add, Nat.add_eq_left, Nat.add_left_cancel_iff, Nat.reduceEqDiff, Nat.add_assoc, Nat.succ_ne_zero]
    refine sys_spec fun w3 f3 => ?_
    have F3 := F2.trans f3
    simp only [push_cast, Nat.reduceAdd, Nat.reduceLeDiff, Nat.reduceLT, Int.reduceToNat, Nat.left_eq_add, Nat.add_eq_left, Nat.add_left_cancel_iff, Nat.reduceEqDiff, Nat.add_assoc, Nat.succ_ne_zero]
    have hbr : (e != 0) = true := by rw [bne_iff_ne]; exact he
    refine gnew_two (hb.fr F3 fun _ _ h => h) (by omega) (fun e' w4 he' f4 => ?_) fun hargB gB bsB pvB w4 hB nB npB f4 => ?_
    · simp only [push_cast, Nat.reduceAdd, Nat.reduceLeDiff, Nat.reduceLT, Int.reduceToNat, Nat.left_eq_add, Nat.add_eq_left, Nat.add_left_cancel_iff, Nat.reduceEqDiff, Nat.add_assoc, Nat.succ_ne_zero, hbr]
      exact hk _ (F3.trans f4)
    · simp only [push_cast, Nat.reduceAdd, Nat.reduceLeDiff, Nat.reduceLT, Int.reduceToNat, Nat.left_eq_add, Nat.add_eq_left, Nat.add_left_cancel_iff, Nat.reduceEqDiff, Nat.add_assoc, Nat.succ_ne_zero, hbr]
      exact hk _ (F3.trans f4)
  have F2 := F1.trans f2
  simp only [push_cast, Nat.reduceAdd, Nat.reduceLeDiff, Nat.reduceLT, Int.reduceToNat, Nat.left_eq_add, Nat.add_eq_left, Nat.add_left_cancel_iff, Nat.reduceEqDiff, Nat.add_assoc, Nat.succ_ne_zero]
  refine sys_spec fun w3 f3 => ?_
  have F3 := F2.trans f3
  simp only [push_cast, Nat.reduceAdd, Nat.reduceLeDiff, Nat.reduceLT, Int.reduceToNat, Nat.left_eq_add, Nat.add_eq_left, Nat.add_left_cancel_iff, Nat.reduceEqDiff, Nat.add_assoc, Nat.succ_ne_zero]
  refine gnew_two (hb.fr F3 fun _ _ h => h) (by omega) (fun e w4 he f4 => ?_) fun hargB gB bsB pvB w4 hB nB npB f4 => ?_
  · have hbr : (e != 0) = true := by rw [bne_iff_ne]; exact he
    simp only [push_cast, Nat.reduceAdd, Nat.reduceLeDiff, Nat.reduceLT, Int.reduceToNat, Nat.left_eq_add, Nat.add_eq_left, Nat.add_left_cancel_iff, Nat.reduceEqDiff, Nat.add_assoc, Nat.succ_ne_zero, hbr, bne_self_eq_false]
    exact hk _ (F3.trans f4)
  have F4 := F3.trans f4
  have hA3 := hA.fr0 f3
  have hl0 : 0 < (newG idA 5 pa 8).l.length := by
    show 0 < ((srtI pa).map _).length
    rw [List.length_map, (srt_perm pa).length_eq]
    have := hargA.1; omega
  have hsep : SepG gA bsA pvA gB bsB pvB := ⟨fun c e1 e2 => by have := hA3.lt c e1; have := nB c e2; omega, fun c e1 e2 => by have := hA3.pv_lt hl0 c e1; have := nB c e2; omega, fun c e1 e2 => by have := hA3.lt c e2; have := npB c e1; omega⟩
  have hgg : GG pa pb gA bsA pvA gB bsB pvB w4 := ⟨_, _, ⟨hA3.fr0 f4, newG_wf idA_ok hargA, new_of⟩, hB, newG_wf idA_ok hargB, new_of⟩
  have hnew : ∀ c, fG gA bsA c ∨ fG gB bsB c → w.heap.size ≤ c ∧ c < w4.heap.size := fun c hc => by
    have s1 := F1.size
    have s2 := F3.size
    have s4 := f4.size
    rcases hc with h | h
    · have := nA c h; have := hA3.lt c h; omega
    · have := nB c h; have := hB.lt c h; omega
  simp only [push_cast, Nat.reduceAdd, Nat.reduceLeDiff, Nat.reduceLT, Int.reduceToNat, Nat.left_eq_add, Nat.add_eq_left, Nat.add_left_cancel_iff, Nat.reduceEqDiff, Nat.add_assoc, Nat.succ_ne_zero, bne_self_eq_false]
  have hpvl : ∀ c, blkS pvA = some c ∨ blkS pvB = some c → c < w4.heap.size := fun c hc => by
    have s4 := f4.size
    rcases hc with h | h
    · have := hA3.pv_lt hl0 c h; omega
    · exact hB.pv_lt (by show 0 < ((srtI pb).map _).length; rw [List.length_map, (srt_perm pb).length_eq]; have := hargB.1; omega) c h
  refine s_mkm (κ := Int) (ν := Int) (kc := kI) (vc := kI) (kok := isI) fun w5 hm5 f5 sz5 => ?_
  have F5 := F4.trans f5
  have hmbn : ∀ c, (fG gA bsA c ∨ fG gB bsB c) ∨ (blkS pvA = some c ∨ blkS pvB = some c) → ¬ c = w4.heap.size := fun c hc e => by
    rcases hc with h | h
    · have := hnew c h; omega
    · have := hpvl c h; omega
  generalize hmb : w4.heap.size = mb at *
  refine jn0 (fun W => ∃ ms : List (Int × Int), MapR kI kI isI W mb ms ∧ (∀ p ∈ pa, getL ms p = some 1) ∧ GG pa pb gA bsA pvA gB bsB pvB W ∧ Fr none_ w W) ?_ fun j hj => ?_
  case refine_2 =>
    refine loop1 (fun n u W => ∃ (i : Nat) (ms : List (Int × Int)), u = i64 i ∧ i + n = pa.length ∧ MapR kI kI isI W mb ms ∧ (∀ p ∈ pa.take i, getL ms p = some 1) ∧ GG pa pb gA bsA pvA gB bsB pvB W ∧ Fr none_ w W) ?_ pa.length ⟨0, [], rfl, by omega, hm5, by simp, hgg.fr0 f5, F5⟩
    rintro n u W X ⟨i, ms, rfl, hi, hm, hms, hG, hF⟩ hX
    rw [alen]
    simp only [push_cast, Nat.reduceAdd, Nat.reduceLeDiff, Nat.reduceLT, Int.reduceToNat, Nat.left_eq_add, Nat.add_eq_left, Nat.add_left_cancel_iff, Nat.reduceEqDiff, Nat.add_assoc, Nat.succ_ne_zero]
    refine br_dec (fun hlt => ?_) fun hge => hj _ ⟨ms, hm, by rw [List.take_of_length_le (by omega)] at hms; exact hms, hG, hF⟩
    have hil : i < pa.length := by omega
    have hwk : IntKind.i64.wrap ((i : Int) + 1) = ((i + 1 : Nat) : Int) := by rw [wrap_i64 (by omega)]; rfl
    refine s_iaE (es := pa.map cellI) (ha.fr hF fun _ _ h => h) (by omega) (by simpa using hil) fun b1 o1 c1 _ hE => ?_
    simp only [Int.toNat_natCast, List.getElem_map] at hE ⊢
    have h1 : cellAt W.heap[b1]? (o1 + i * 1) = some (i64 pa[i]) := hE.cell0 (show 0 < 1 by decide)
    rw [s_ld1, h1, onS_some]
    refine s_mu (k := pa[i]) (v := (1 : Int)) (vc := kI) hm (ia _ (List.getElem_mem hil)) fun W2 hm2 g2 => ?_
    simp only [push_cast, Nat.reduceAdd, Nat.reduceLeDiff, Nat.reduceLT, Int.reduceToNat, Nat.left_eq_add, Nat.add_eq_left, Nat.add_left_cancel_iff, Nat.reduceEqDiff, Nat.add_assoc, Nat.succ_ne_zero, hwk]
    refine hX (n - 1) _ _ (by omega) ⟨i + 1, _, rfl, by omega, hm2, fun p hp => ?_, hG.fr g2 hmbn, hF.trans_new g2 fun c hc e => by have := F4.size; omega⟩
    rw [lookup_setL]
    split
    · rfl
    · rename_i hne
      rw [take_snoc hil] at hp
      rcases List.mem_append.1 hp with hp | hp
      · exact hms p hp
      · exact absurd (List.mem_singleton.1 hp) hne
  rintro W ⟨ms, hm, hms, hG, hF⟩
  clear hgg
  refine jn0 (fun W => ∃ ms : List (Int × Int), MapR kI kI isI W mb ms ∧ (∀ p ∈ pa, getL ms p = some 1) ∧ (∀ p ∈ pb, getL ms p = some 2) ∧ GG pa pb gA bsA pvA gB bsB pvB W ∧ Fr none_ w W) ?_ fun j hj => ?_
  case refine_2 =>
    refine loop1 (fun n u W => ∃ (i : Nat) (ms : List (Int × Int)), u = i64 i ∧ i + n = pb.length ∧ MapR kI kI isI W mb ms ∧ (∀ p ∈ pa, getL ms p = some 1) ∧ (∀ p ∈ pb.take i, getL ms p = some 2) ∧ GG pa pb gA bsA pvA gB bsB pvB W ∧ Fr none_ w W) ?_ pb.length ⟨0, ms, rfl, by omega, hm, hms, by simp, hG, hF⟩
    clear hm hms hG hF
    rintro n u W X ⟨i, ms, rfl, hi, hm, hms, hms2, hG, hF⟩ hX
    rw [blen]
    simp only [push_cast, Nat.reduceAdd, Nat.reduceLeDiff, Nat.reduceLT, Int.reduceToNat, Nat.left_eq_add, Nat.add_eq_left, Nat.add_left_cancel_iff, Nat.reduceEqDiff, Nat.add_assoc, Nat.succ_ne_zero]
    refine br_dec (fun hlt => ?_) fun hge => hj _ ⟨ms, hm, hms, by rw [List.take_of_length_le (by omega)] at hms2; exact hms2, hG, hF⟩
    have hil : i < pb.length := by omega
    have hwk : IntKind.i64.wrap ((i : Int) + 1) = ((i + 1 : Nat) : Int) := by rw [wrap_i64 (by omega)]; rfl
    have hcell : ∀ {R : Value → World → Prop}, R (kI pb[i]) W → opS Try.prog (S.ia 22 bv (i64 i)) (fun a => opS Try.prog (S.ld 3 a) R) W := fun {R} hR => by
      refine s_iaE (es := pb.map cellI) (hb.fr hF fun _ _ h => h) (by omega) (by simpa using hil) fun b1 o1 c1 _ hE => ?_
      simp only [Int.toNat_natCast, List.getElem_map] at hE ⊢
      have h1 : cellAt W.heap[b1]? (o1 + i * 1) = some (i64 pb[i]) := hE.cell0 (show 0 < 1 by decide)
      rw [s_ld1, h1, onS_some]
      exact hR
    refine hcell ?_
    have hpi : isI pb[i] := ib _ (List.getElem_mem hil)
    refine s_lk (vc := kI) hm hpi ?_
    have hgot : ∃ q : Int, (got kI (.int .i64 0) (getL ms pb[i]) : Value) = i64 q ∧ (getL ms pb[i] = some 1 → q = 1) := by
      cases getL ms pb[i] with
      | none => exact ⟨0, rfl, fun e => by cases e⟩
      | some q => exact ⟨q, rfl, fun e => by cases e; rfl⟩
    obtain ⟨q, hq, hq1⟩ := hgot
    simp only [Bool.false_eq_true, if_false]
    rw [hq]
    simp only [push_cast, Nat.reduceAdd, Nat.reduceLeDiff, Nat.reduceLT, Int.reduceToNat, Nat.left_eq_add, Nat.add_eq_left, Nat.add_left_cancel_iff, Nat.reduceEqDiff, Nat.add_assoc, Nat.succ_ne_zero]
    refine br_intro (fun _ => hk _ hF) fun hne => ?_
    have hne : getL ms pb[i] ≠ some 1 := fun e => by rw [hq1 e] at hne; exact absurd hne (by decide)
    refine hcell ?_
    refine s_mu (v := (2 : Int)) (vc := kI) hm hpi fun W2 hm2 g2 => ?_
    simp only [push_cast, Nat.reduceAdd, Nat.reduceLeDiff, Nat.reduceLT, Int.reduceToNat, Nat.left_eq_add, Nat.add_eq_left, Nat.add_left_cancel_iff, Nat.reduceEqDiff, Nat.add_assoc, Nat.succ_ne_zero, hwk]
    refine hX (n - 1) _ _ (by omega) ⟨i + 1, _, rfl, by omega, hm2, fun p hp => ?_, fun p hp => ?_, hG.fr g2 hmbn, hF.trans_new g2 fun c hc e => by have := F4.size; omega⟩
    · rw [lookup_setL]
      split
      · rename_i e
        exact absurd (e ▸ hms p hp) hne
      · exact hms p hp
    · rw [lookup_setL]
      split
      · rfl
      · rename_i hne
        rw [take_snoc hil] at hp
        rcases List.mem_append.1 hp with hp | hp
        · exact hms2 p hp
        · exact absurd (List.mem_singleton.1 hp) hne
  clear hm hms hG hF ms
  rintro W ⟨ms, hm, hA1, hB2, hG, hF⟩
  refine jn0 (fun W => Fr none_ w W) (fun W h => hk W h) fun j hj => ?_
  have hmbw : w.heap.size ≤ mb := by have := F4.size; omega
  refine loop1 (fun n u W => ∃ i : Nat, u = i64 i ∧ i + n = st.length ∧ MapR kI kI isI W mb ms ∧ GG pa pb gA bsA pvA gB bsB pvB W ∧ Fr none_ w W) ?_ st.length ⟨0, rfl, by omega, hm, hG, hF⟩
  clear hm hG hF
  rintro n u W X ⟨i, rfl, hi, hm, hG, hF⟩ hX
  rw [slen]
  simp only [push_cast, Nat.reduceAdd, Nat.reduceLeDiff, Nat.reduceLT, Int.reduceToNat, Nat.left_eq_add, Nat.add_eq_left, Nat.add_left_cancel_iff, Nat.reduceEqDiff, Nat.add_assoc, Nat.succ_ne_zero]
  refine br_dec (fun hlt => ?_) fun _ => hj _ hF
  refine br_dec (fun h100 => ?_) fun _ => hj _ hF
  have hil : i < st.length := by omega
  have hwk : IntKind.i64.wrap ((i : Int) + 1) = ((i + 1 : Nat) : Int) := by rw [wrap_i64 (by omega)]; rfl
  refine jn0 (fun W => MapR kI kI isI W mb ms ∧ GG pa pb gA bsA pvA gB bsB pvB W ∧ Fr none_ w W) (fun W2 ⟨h1, h2, h3⟩ => ?_) fun j2 hj2 => ?_
  · simp only [push_cast, Nat.reduceAdd, Nat.reduceLeDiff, Nat.reduceLT, Int.reduceToNat, Nat.left_eq_add, Nat.add_eq_left, Nat.add_left_cancel_iff, Nat.reduceEqDiff, Nat.add_assoc, Nat.succ_ne_zero, hwk]
    exact hX (n - 1) _ _ (by omega) ⟨i + 1, rfl, by omega, h1, h2, h3⟩
  refine s_iaE (es := st.map Ast.cells) (hst.fr hF fun _ _ h => h) (by omega) (by simpa using hil) fun b1 o1 c1 _ hE => ?_
  simp only [Int.toNat_natCast, List.getElem_map] at hE ⊢
  have hag := hE.agg0 (Ast.len _)
  have hxok := hso _ (List.getElem_mem hil)
  generalize st[i] = x at *
  have hzz : ∀ (R : Value → World → Prop) (W : World), opS Try.prog (S.alloc 40) R W = R (pt W.heap.size 0) (W.alloc (cellsO (Ast.cells ⟨0, 0, 0, false, Inf.zero, Inf.zero, 0⟩) 40)) := fun R W => by rw [opS_alloc]; rfl
  have hst1 : ∀ (R : Value → World → Prop) (W : World), opS Try.prog (S.st 40 (pt W.heap.size 0) (.agg x.cells.toArray)) R (W.alloc (cellsO (Ast.cells ⟨0, 0, 0, false, Inf.zero, Inf.zero, 0⟩) 40)) = R undef (wr (W.alloc (cellsO (Ast.cells ⟨0, 0, 0, false, Inf.zero, Inf.zero, 0⟩) 40)) W.heap.size 0 x.cells) := fun R W => by
    rw [s_stA _ _ _ (Ast.len _) (Ast.one _), heap_alloc, if_pos rfl, okAt_cells]
    exact onB_true _
  have hal : Fr none_ W (wr (W.alloc (cellsO (Ast.cells ⟨0, 0, 0, false, Inf.zero, Inf.zero, 0⟩) 40)) W.heap.size 0 x.cells) ∧ (wr (W.alloc (cellsO (Ast.cells ⟨0, 0, 0, false, Inf.zero, Inf.zero, 0⟩) 40)) W.heap.size 0 x.cells).heap[W.heap.size]? = some (cellsO x.cells 40) := ⟨(by repeat' first | with_reducible exact Fr.refl _ _ | with_reducible refine Fr.step_alloc ?_ ?_ | with_reducible refine Fr.step_drew ?_ | with_reducible refine Fr.step_wr ?_ ?_ _ _ | exact rfl | exact Or.inr (by omega) | exact Or.inl rfl | exact Or.inl (Or.inl rfl) | exact Or.inl (Or.inr rfl)), by simp only [push_cast, Nat.reduceAdd, Nat.reduceLeDiff, Nat.reduceLT, Int.reduceToNat, Nat.left_eq_add, Nat.add_eq_left, Nat.add_left_cancel_iff, Nat.reduceEqDiff, Nat.add_assoc, Nat.succ_ne_zero]⟩
  rw [s_ldN, hag, onS_some]
  rotate_left
  · decide
  rw [hzz, hst1]
  have hxm : mb < W.heap.size := hm.lt
  obtain ⟨g1, q1⟩ := hal
  generalize hxb : W.heap.size = xb at *
  generalize wr (W.alloc (cellsO (Ast.cells ⟨0, 0, 0, false, Inf.zero, Inf.zero, 0⟩) 40)) xb 0 x.cells = W1 at *
  refine jn0 (fun W => MapR kI kI isI W mb ms ∧ GG pa pb gA bsA pvA gB bsB pvB W ∧ Fr none_ w W) (fun W h => hj2 W h) fun j3 hj3 => ?_
  refine loop1 (fun n u W => ∃ k : Nat, u = i64 k ∧ 1 ≤ k ∧ k + n = 3 ∧ W.heap[xb]? = some (cellsO x.cells 40) ∧ MapR kI kI isI W mb ms ∧ GG pa pb gA bsA pvA gB bsB pvB W ∧ Fr none_ w W) ?_ 2 ⟨1, rfl, Nat.le_refl _, rfl, q1, hm.fr g1 fun h => h, hG.fr0 g1, hF.trans g1⟩
  clear hm hG hF q1 g1
  rintro n u W2 X2 ⟨k, rfl, hk1, hkn, q1, hm, hG, hF⟩ hX2
  simp only [push_cast, Nat.reduceAdd, Nat.reduceLeDiff, Nat.reduceLT, Int.reduceToNat, Nat.left_eq_add, Nat.add_eq_left, Nat.add_left_cancel_iff, Nat.reduceEqDiff, Nat.add_assoc, Nat.succ_ne_zero]
  refine br_dec (fun hle => ?_) fun _ => hj3 _ ⟨hm, hG, hF⟩
  have hwk : IntKind.i64.wrap ((k : Int) + 1) = ((k + 1 : Nat) : Int) := by rw [wrap_i64 (by omega)]; rfl
  refine jn0 (fun W => W.heap[xb]? = some (cellsO x.cells 40) ∧ MapR kI kI isI W mb ms ∧ GG pa pb gA bsA pvA gB bsB pvB W ∧ Fr none_ w W) (fun W3 ⟨h0, h1, h2, h3⟩ => ?_) fun j5 hj5 => ?_
  · simp only [push_cast, Nat.reduceAdd, Nat.reduceLeDiff, Nat.reduceLT, Int.reduceToNat, Nat.left_eq_add, Nat.add_eq_left, Nat.add_left_cancel_iff, Nat.reduceEqDiff, Nat.add_assoc, Nat.succ_ne_zero, hwk]
    exact hX2 (n - 1) _ _ (by omega) ⟨k + 1, rfl, by omega, by omega, h0, h1, h2, h3⟩
  have hk12 : k = 1 ∨ k = 2 := by have h1 : (k : Int) ≤ 2 := hle; omega
  obtain ⟨g, bs, pv, s, ports, hpt, hC, hwf, hof, hgl, hpi, hfp, hback⟩ := hG.one hsep (k := (k : Int)) (by rcases hk12 with rfl | rfl; exact .inl rfl; exact .inr rfl) hA1 hB2 ia ib
  rw [build_3g]
  rw [opS_ix (T := 41) (n := 1) (v := pt g 0) ⟨by omega, by show (k : Int) < (3 : Nat); omega⟩ (by rw [Nat.mul_one, List.getElem?_toArray]; exact hpt)]
  have hfx : ∀ c, fL bs c → c ≠ xb ∧ c ≠ mb ∧ w.heap.size ≤ c := fun c hc => by have := hnew c (hfp c (.inr hc)); omega
  simp only [push_cast, Nat.reduceAdd, Nat.reduceLeDiff, Nat.reduceLT, Int.reduceToNat, Nat.left_eq_add, Nat.add_eq_left, Nat.add_left_cancel_iff, Nat.reduceEqDiff, Nat.add_assoc, Nat.succ_ne_zero, q1]
  refine jn0 (fun W => ∃ s, CG W g bs pv s ∧ s.wf ∧ allOf ports s ∧ Fr (fL bs) W2 W) ?_ fun j6 hj6 => ?_
  · rintro W3 ⟨s3, c3, wf3, of3, g3⟩
    have q3 := g3.heap q1 fun e => (hfx _ e).1 rfl
    have m3 := hm.fr g3 fun e => (hfx _ e).2.1 rfl
    have F3 : Fr none_ w W3 := hF.trans_new g3 fun c hc e => by have := (hfx c e).2.2; omega
    simp only [push_cast, Nat.reduceAdd, Nat.reduceLeDiff, Nat.reduceLT, Int.reduceToNat, Nat.left_eq_add, Nat.add_eq_left, Nat.add_left_cancel_iff, Nat.reduceEqDiff, Nat.add_assoc, Nat.succ_ne_zero, q3]
    have hend : ∀ {v : Value} {l : List Tld} {W4 : World} {s4 : Grp}, CG W4 g bs pv s4 → s4.wf → allOf ports s4 → OwnE 48 24 W4 v (l.map Tld.cells) → Fr (fL bs) W3 W4 → (∀ t ∈ l, toldOk ports t) → l.length ≤ 32 →
        (W4.heap[xb]? = some (cellsO x.cells 40) ∧ MapR kI kI isI W4 mb ms ∧ GG pa pb gA bsA pvA gB bsB pvB W4 ∧ Fr none_ w W4) := fun {v l W4 s4} c4 wf4 of4 hv g4 hl hn =>
      ⟨g4.heap q3 fun e => (hfx _ e).1 rfl, m3.fr g4 fun e => (hfx _ e).2.1 rfl, hback _ _ c4 wf4 of4 (g3.trans g4), F3.trans_new g4 fun c hc e => by have := (hfx c e).2.2; omega⟩
    refine gtick_spec c3 wf3 (fun hm' => ?_) fun hm' v W4 c4 hv nv g4 => ?_
    · obtain ⟨r0, r1, r2, r3⟩ := hend (l := []) c3 wf3 of3 (own_nil 48 24 _) (Fr.refl _ _) (by simp) (by simp)
      simp only [push_cast, Nat.reduceAdd, Nat.reduceLeDiff, Nat.reduceLT, Int.reduceToNat, Nat.left_eq_add, Nat.add_eq_left, Nat.add_left_cancel_iff, Nat.reduceEqDiff, Nat.add_assoc, Nat.succ_ne_zero]
      refine jn0 (fun W => Fr none_ W3 W) (fun W h => hj5 W ⟨h.heap r0 fun h => h, r1.fr h fun h => h, r2.fr0 h, r3.trans h⟩) fun j7 hj7 => ?_
      exact told_spec (l := []) (ports := ports) (own_nil 48 24 _) (by simp) (by simp) r1 hgl hpi fun W5 h5 => hj7 _ h5
    · have hl := tickO_of (now := x.now) of3
      have hn := tick_n (now := x.now) wf3
      obtain ⟨r0, r1, r2, r3⟩ := hend c4 (wf3.tick x.now) (tick_of of3) hv g4 hl hn
      simp only [push_cast, Nat.reduceAdd, Nat.reduceLeDiff, Nat.reduceLT, Int.reduceToNat, Nat.left_eq_add, Nat.add_eq_left, Nat.add_left_cancel_iff, Nat.reduceEqDiff, Nat.add_assoc, Nat.succ_ne_zero]
      refine jn0 (fun W => Fr none_ W4 W) (fun W h => hj5 W ⟨h.heap r0 fun h => h, r1.fr h fun h => h, r2.fr0 h, r3.trans h⟩) fun j7 hj7 => ?_
      exact told_spec hv hl hn r1 hgl hpi fun W5 h5 => hj7 _ h5
  · simp only [push_cast, Nat.reduceAdd, Nat.reduceLeDiff, Nat.reduceLT, Int.reduceToNat, Nat.left_eq_add, Nat.add_eq_left, Nat.add_left_cancel_iff, Nat.reduceEqDiff, Nat.add_assoc, Nat.succ_ne_zero]
    refine br_dec (fun e0 => ?_) fun e0 => ?_
    · have hag := (show aggAt (some (cellsO x.cells 40)) 4 23 = some (.agg x.l.cells.toArray) by simp only [push_cast, Nat.reduceAdd, Nat.reduceLeDiff, Nat.reduceLT, Int.reduceToNat, Nat.left_eq_add, Nat.add_eq_left, Nat.add_left_cancel_iff, Nat.reduceEqDiff, Nat.add_assoc, Nat.succ_ne_zero])
      simp only [push_cast, Nat.reduceAdd, Nat.reduceLeDiff, Nat.reduceLT, Int.reduceToNat, Nat.left_eq_add, Nat.add_eq_left, Nat.add_left_cancel_iff, Nat.reduceEqDiff, Nat.add_assoc, Nat.succ_ne_zero, q1, hag]
      refine gtake_spec hC hwf hxok.2.2.2 fun W3 c3 g3 => ?_
      exact hj6 _ ⟨_, c3, hwf.takeP _ hxok.2.2.2 _, take_of hof, g3⟩
    · refine jn0 (fun W => ∃ s, CG W g bs pv s ∧ s.wf ∧ allOf ports s ∧ Fr (fL bs) W2 W) (fun W h => hj6 W h) fun j7 hj7 => ?_
      simp only [push_cast, Nat.reduceAdd, Nat.reduceLeDiff, Nat.reduceLT, Int.reduceToNat, Nat.left_eq_add, Nat.add_eq_left, Nat.add_left_cancel_iff, Nat.reduceEqDiff, Nat.add_assoc, Nat.succ_ne_zero]
      refine br_dec (fun e2 => ?_) fun e2 => ?_
      · simp only [push_cast, Nat.reduceAdd, Nat.reduceLeDiff, Nat.reduceLT, Int.reduceToNat, Nat.left_eq_add, Nat.add_eq_left, Nat.add_left_cancel_iff, Nat.reduceEqDiff, Nat.add_assoc, Nat.succ_ne_zero, q1]
        refine genable_spec hC hwf fun W3 c3 g3 => ?_
        exact hj7 _ ⟨_, c3, hwf.enableP _ _ _, enable_of hof, g3⟩
      · exact hj7 _ ⟨s, hC, hwf, hof, Fr.refl _ _⟩

end Go.Gx.S
end

section
/- What the law of two groups of one system rests on. -/
namespace Go.Gx.S
end Go.Gx.S
end
