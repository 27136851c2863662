/- Own texts, put together. -/
import Derived.Test.YtoddhogpokemdaaGreatA4
import Derived.Test.YtoddhogpokemdaaGreatRows
import Derived.Test.YtoddhogpokemdaaGreatA1
import Derived.Test.YtoddhogpokemdaaGreatA2
section
/- Steps, and numbers, that come in. -/
set_option linter.unusedVariables false
set_option maxRecDepth 100000
namespace Go.Gx.S
open Go Go.Gx Go.Proofs

theorem ctStep : Tryz.prog.cellsOf 43 = 27 := by kernel_rfl
theorem ktStep : Tryz.prog.keyTypeAt 8 43 = true := by kernel_rfl
theorem ctLcp : Tryz.prog.cellsOf 41 = 23 := by kernel_rfl
theorem ktInt : Tryz.prog.keyTypeAt 8 3 = true := by kernel_rfl
theorem kt2 : Tryz.prog.keyTypeAt 8 53 = true := by kernel_rfl
theorem ct2 : Tryz.prog.cellsOf 53 = 2 := by kernel_rfl
theorem kt3 : Tryz.prog.keyTypeAt 8 46 = true := by kernel_rfl
theorem ct3 : Tryz.prog.cellsOf 46 = 3 := by kernel_rfl

theorem inf_dec {d : Nat} {cs : List Value} {l : List Lit} (h : Tryz.prog.keyLits (d + 3) 39 cs = some l) : ∃ x : Inf, x.ok ∧ cs = x.cells := by
  obtain ⟨hl, ls, h1, rfl⟩ := kl_struct Tryz.underlying39 h
  rw [ctInfo] at hl
  match cs, hl with
  | [c0, c1, c2, c3, c4, c5, c6, c7, c8, c9, c10], _ =>
  simp only [List.mapM_cons, List.mapM_nil, ctInt, ctMac, bind, Option.bind_eq_some_iff, pure, Option.some.injEq, List.drop_succ_cons, List.drop_zero, List.take_succ_cons, List.take_zero] at h1
  obtain ⟨y0, g0, _, ⟨y1, g1, _, ⟨y2, g2, _, ⟨y3, g3, _, ⟨y4, g4, _, ⟨y5, g5, _, rfl, rfl⟩, rfl⟩, rfl⟩, rfl⟩, rfl⟩, rfl⟩ := h1
  obtain ⟨k0, e0, _, b0⟩ := kl_int uInt g0
  obtain ⟨m, hm, e1, _⟩ := MacT.dec (d := d) g1
  obtain ⟨k2, e2, _, b2⟩ := kl_int uInt g2
  obtain ⟨k3, e3, _, b3⟩ := kl_int uInt g3
  obtain ⟨k4, e4, _, b4⟩ := kl_int uInt g4
  obtain ⟨k5, e5, _, b5⟩ := kl_int uInt g5
  simp only [List.cons.injEq, and_true] at e0 e2 e3 e4 e5
  subst e0 e2 e3 e4 e5
  simp only [Mac.cells, List.cons.injEq, and_true] at e1
  obtain ⟨rfl, rfl, rfl, rfl, rfl, rfl⟩ := e1
  exact ⟨⟨k0, m, k2, k3, k4, k5⟩, ⟨b0, hm, b2, b3, b4, b5⟩, rfl⟩
theorem lcp_dec {d : Nat} {cs : List Value} {l : List Lit} (h : Tryz.prog.keyLits (d + 4) 41 cs = some l) : ∃ x : Lcp, x.ok ∧ cs = x.cells := by
  obtain ⟨hl, ls, h1, rfl⟩ := kl_struct Tryz.underlying41 h
  rw [ctLcp] at hl
  match cs, hl with
  | [a0, a1, a2, a3, a4, a5, a6, a7, a8, a9, a10, b0, b1, b2, b3, b4, b5, b6, b7, b8, b9, b10, c], _ =>
  simp only [List.mapM_cons, List.mapM_nil, ctInt, ctInfo, bind, Option.bind_eq_some_iff, pure, Option.some.injEq, List.drop_succ_cons, List.drop_zero, List.take_succ_cons, List.take_zero] at h1
  obtain ⟨y0, g0, _, ⟨y1, g1, _, ⟨y2, g2, _, rfl, rfl⟩, rfl⟩, rfl⟩ := h1
  obtain ⟨x, hx, e0⟩ := inf_dec g0
  obtain ⟨y, hy, e1⟩ := inf_dec g1
  obtain ⟨k2, e2, _, o2⟩ := kl_int uInt g2
  simp only [List.cons.injEq, and_true] at e2
  subst e2
  simp only [Inf.cells, List.cons.injEq, and_true] at e0 e1
  obtain ⟨rfl, rfl, rfl, rfl, rfl, rfl, rfl, rfl, rfl, rfl, rfl⟩ := e0
  obtain ⟨rfl, rfl, rfl, rfl, rfl, rfl, rfl, rfl, rfl, rfl, rfl⟩ := e1
  exact ⟨⟨x, y, k2⟩, ⟨hx, hy, o2⟩, rfl⟩
theorem step_dec {cs : List Value} {l : List Lit} (h : Tryz.prog.keyLits 8 43 cs = some l) : ∃ s : Ast, s.ok ∧ cs = s.cells := by
  obtain ⟨hl, ls, h1, rfl⟩ := kl_struct Tryz.underlying43 h
  rw [ctStep] at hl
  match cs, hl with
  | [s0, s1, s2, s3, a0, a1, a2, a3, a4, a5, a6, a7, a8, a9, a10, b0, b1, b2, b3, b4, b5, b6, b7, b8, b9, b10, c], _ =>
  simp only [List.mapM_cons, List.mapM_nil, ctInt, ctBool, ctLcp, bind, Option.bind_eq_some_iff, pure, Option.some.injEq, List.drop_succ_cons, List.drop_zero, List.take_succ_cons, List.take_zero] at h1
  obtain ⟨y0, g0, _, ⟨y1, g1, _, ⟨y2, g2, _, ⟨y3, g3, _, ⟨y4, g4, _, rfl, rfl⟩, rfl⟩, rfl⟩, rfl⟩, rfl⟩ := h1
  obtain ⟨k0, e0, _, o0⟩ := kl_int uInt g0
  obtain ⟨k1, e1, _, o1⟩ := kl_int uInt g1
  obtain ⟨k2, e2, _, o2⟩ := kl_int uInt g2
  obtain ⟨k3, e3, _⟩ := kl_bool uBool g3
  obtain ⟨p, hp, e4⟩ := lcp_dec g4
  simp only [List.cons.injEq, and_true] at e0 e1 e2 e3
  subst e0 e1 e2 e3
  refine ⟨⟨k0, k1, k2, k3, p⟩, ⟨o0, o1, o2, hp⟩, ?_⟩
  show _ = i64 k0 :: i64 k1 :: i64 k2 :: .bool k3 :: p.cells
  rw [← e4]

theorem asts_dec {es : List (List Value)} (h : ∀ c ∈ es, ∃ l, Tryz.prog.keyLits 8 43 c = some l) : ∃ st : List Ast, (∀ s ∈ st, s.ok) ∧ es = st.map Ast.cells := by
  induction es with
  | nil => exact ⟨[], by simp, rfl⟩
  | cons c es ih =>
    obtain ⟨st, h1, h2⟩ := ih fun c hc => h c (List.mem_cons_of_mem _ hc)
    obtain ⟨l, hl⟩ := h c (List.mem_cons_self ..)
    obtain ⟨s, hs, rfl⟩ := step_dec hl
    refine ⟨s :: st, fun x hx => ?_, by rw [h2]; rfl⟩
    rcases List.mem_cons.1 hx with rfl | hx
    · exact hs
    · exact h1 x hx
theorem ints_dec {es : List (List Value)} (h : ∀ c ∈ es, ∃ l, Tryz.prog.keyLits 8 3 c = some l) : ∃ st : List Int, (∀ s ∈ st, isI s) ∧ es = st.map cellI := by
  induction es with
  | nil => exact ⟨[], by simp, rfl⟩
  | cons c es ih =>
    obtain ⟨st, h1, h2⟩ := ih fun c hc => h c (List.mem_cons_of_mem _ hc)
    obtain ⟨l, hl⟩ := h c (List.mem_cons_self ..)
    obtain ⟨s, rfl, _, hs⟩ := kl_int uInt hl
    refine ⟨s :: st, fun x hx => ?_, by rw [h2]; rfl⟩
    rcases List.mem_cons.1 hx with rfl | hx
    · exact hs
    · exact h1 x hx

section
variable {H : Type} {enc : TypeId × Value → H} {w : World} {base : Nat} {spare : Nat → Bool} {held : Bool}
theorem arg_asts {base' : Nat} {v : Value} {d : DataW H} {ps : List MemPlace} {r : Reach} (hok : Value.okWide Tryz.prog w r base' 23 v) (h : DataW.Trod enc Tryz.prog w base spare held 23 v d ps) : ∃ st : List Ast, (∀ s ∈ st, s.ok) ∧ RdE 27 w v (st.map Ast.cells) := by
  obtain ⟨es, hes, _, hk⟩ := arg_keys Tryz.underlying23 ktStep ctStep (by decide) hok h
  obtain ⟨st, h1, rfl⟩ := asts_dec hk
  exact ⟨st, h1, hes⟩
theorem arg_ints {base' : Nat} {v : Value} {d : DataW H} {ps : List MemPlace} {r : Reach} (hok : Value.okWide Tryz.prog w r base' 22 v) (h : DataW.Trod enc Tryz.prog w base spare held 22 v d ps) : ∃ st : List Int, (∀ s ∈ st, isI s) ∧ RdE 1 w v (st.map cellI) := by
  obtain ⟨es, hes, _, hk⟩ := arg_keys Tryz.underlying22 ktInt ctInt (by decide) hok h
  obtain ⟨st, h1, rfl⟩ := ints_dec hk
  exact ⟨st, h1, hes⟩
theorem arg_int2 {base' : Nat} {v : Value} {d : DataW H} {ps : List MemPlace} {r : Reach} (hok : Value.okWide Tryz.prog w r base' 53 v) (h : DataW.Trod enc Tryz.prog w base spare held 53 v d ps) :
    ∃ a b, isI a ∧ isI b ∧ v = .agg #[i64 a, i64 b] := by
  obtain ⟨cs, rfl, l, hl⟩ := arg_key (.inr ⟨_, _, Tryz.underlying53⟩) kt2 hok h
  obtain ⟨hc, ls, h1, rfl⟩ := kl_array Tryz.underlying53 hl
  rw [ct2] at hc
  match cs, hc with
  | [c0, c1], _ =>
  simp only [show List.range 2 = [0, 1] from rfl, List.mapM_cons, List.mapM_nil, ctInt, bind, Option.bind_eq_some_iff, pure, Option.some.injEq, Nat.mul_one, List.drop_succ_cons, List.drop_zero, List.take_succ_cons, List.take_zero] at h1
  obtain ⟨y0, g0, _, ⟨y1, g1, _, rfl, rfl⟩, rfl⟩ := h1
  obtain ⟨k0, e0, rfl, b0⟩ := kl_int uInt g0
  obtain ⟨k1, e1, rfl, b1⟩ := kl_int uInt g1
  simp only [List.cons.injEq, and_true] at e0 e1
  subst e0 e1
  exact ⟨k0, k1, b0, b1, rfl⟩
theorem arg_int3 {base' : Nat} {v : Value} {d : DataW H} {ps : List MemPlace} {r : Reach} (hok : Value.okWide Tryz.prog w r base' 46 v) (h : DataW.Trod enc Tryz.prog w base spare held 46 v d ps) :
    ∃ a b c, isI a ∧ isI b ∧ isI c ∧ v = .agg #[i64 a, i64 b, i64 c] := by
  obtain ⟨cs, rfl, l, hl⟩ := arg_key (.inr ⟨_, _, Tryz.underlying46⟩) kt3 hok h
  obtain ⟨hc, ls, h1, rfl⟩ := kl_array Tryz.underlying46 hl
  rw [ct3] at hc
  match cs, hc with
  | [c0, c1, c2], _ =>
  simp only [show List.range 3 = [0, 1, 2] from rfl, List.mapM_cons, List.mapM_nil, ctInt, bind, Option.bind_eq_some_iff, pure, Option.some.injEq, Nat.mul_one, List.drop_succ_cons, List.drop_zero, List.take_succ_cons, List.take_zero] at h1
  obtain ⟨y0, g0, _, ⟨y1, g1, _, ⟨y2, g2, _, rfl, rfl⟩, rfl⟩, rfl⟩ := h1
  obtain ⟨k0, e0, rfl, b0⟩ := kl_int uInt g0
  obtain ⟨k1, e1, rfl, b1⟩ := kl_int uInt g1
  obtain ⟨k2, e2, rfl, b2⟩ := kl_int uInt g2
  simp only [List.cons.injEq, and_true] at e0 e1 e2
  subst e0 e1 e2
  exact ⟨k0, k1, k2, b0, b1, b2, rfl⟩
end
end Go.Gx.S
end

section
/- What the functions of this program ask. -/
set_option linter.unusedVariables false
set_option maxRecDepth 100000
namespace Go.Gx.S
open Go Go.Gx Go.Proofs
-- gemel/gemellaw15.AggPicks
def p3 (P : Program) (K : Value → World → Prop) (x0 : Value) (x1 : Value) (x2 : Value) : World → Prop :=
  opS P (S.cl 5 []) fun x3 =>
  opS P (S.un .not x3) fun x4 =>
  brn x4 (
    K x3
  ) (
    opS P (S.len x0) fun x5 =>
    opS P (S.binI .gtr x5 (.int .i64 40)) fun x6 =>
    brn x6 (
      K x3
    ) (
      opS P (S.cl 7 []) fun x7 =>
      opS P (S.cl 6 [x7, (.int .i64 5), x0, x1]) fun x8 =>
      opS P (S.ext x8 0) fun x9 =>
      opS P (S.ext x8 1) fun x10 =>
      jnJ 0 (
        jnJ 1 (fun x11 =>
          K x11
        ) fun j0 =>
        opS P (S.binI .eql x10 (.int .i64 1)) fun x11 =>
        brn x11 (
          j0 (.bool true)
        ) (
          opS P (S.binI .eql x10 (.int .i64 5)) fun x12 =>
          j0 x12
        )
      ) fun j0 =>
      opS P (S.binI .neq x10 (.int .i64 0)) fun x11 =>
      brn x11 (
        j0
      ) (
        opS P (S.binN .eql (S.isNilP x9)) fun x12 =>
        brn x12 (
          j0
        ) (
          opS P (S.cl 7 []) fun x13 =>
          opS P (S.cl 8 [x13, (.int .i64 5), x0, x1]) fun x14 =>
          opS P (S.ext x14 0) fun x15 =>
          opS P (S.ext x14 1) fun x16 =>
          jnJ 0 (
            K (.bool true)
          ) fun j1 =>
          loopJ 1 (fun j2 x17 =>
            opS P (S.len x2) fun x18 =>
            opS P (S.binI .lss x17 x18) fun x19 =>
            brn x19 (
              opS P (S.binI .lss x17 (.int .i64 100)) fun x20 =>
              brn x20 (
                jnJ 0 (
                  opS P (S.binI .add x17 (.int .i64 1)) fun x21 =>
                  j2 x21
                ) fun j3 =>
                opS P (S.ia 23 x2 x17) fun x21 =>
                opS P (S.ld 43 x21) fun x22 =>
                opS P (S.cl 9 [x9, x15, x22]) fun x23 =>
                opS P (S.ia 23 x2 x17) fun x24 =>
                opS P (S.fa 43 x24 0) fun x25 =>
                opS P (S.ld 3 x25) fun x26 =>
                opS P (S.binI .neq x26 (.int .i64 1)) fun x27 =>
                brn x27 (
                  j3
                ) (
                  opS P (S.cl 10 [x9]) fun x28 =>
                  opS P (S.cl 11 [x9]) fun x29 =>
                  opS P (S.len x28) fun x30 =>
                  opS P (S.binI .gtr x30 x1) fun x31 =>
                  brn x31 (
                    K (.bool false)
                  ) (
                    jnJ 0 (
                      j3
                    ) fun j4 =>
                    loopJ 1 (fun j5 x32 =>
                      opS P (S.len x29) fun x33 =>
                      opS P (S.binI .lss x32 x33) fun x34 =>
                      brn x34 (
                        jnJ 0 (
                          opS P (S.binI .add x32 (.int .i64 1)) fun x35 =>
                          j5 x35
                        ) fun j6 =>
                        jnJ 1 (fun x35 =>
                          opS P (S.un .not x35) fun x36 =>
                          brn x36 (
                            opS P (S.ia 23 x2 x17) fun x37 =>
                            opS P (S.fa 43 x37 2) fun x38 =>
                            opS P (S.ld 3 x38) fun x39 =>
                            opS P (S.binI .geq x39 (.int .i64 0)) fun x40 =>
                            brn x40 (
                              opS P (S.ia 23 x2 x17) fun x41 =>
                              opS P (S.fa 43 x41 2) fun x42 =>
                              opS P (S.ld 3 x42) fun x43 =>
                              opS P (S.binI .leq x43 (.int .i64 1099511627776)) fun x44 =>
                              brn x44 (
                                K (.bool false)
                              ) (
                                j6
                              )
                            ) (
                              j6
                            )
                          ) (
                            j6
                          )
                        ) fun j7 =>
                        loopJ 2 (fun j8 x35 x36 =>
                          opS P (S.len x28) fun x37 =>
                          opS P (S.binI .lss x36 x37) fun x38 =>
                          brn x38 (
                            drw <|
                            brn x35 (
                              opS P (S.binI .add x36 (.int .i64 1)) fun x39 =>
                              j8 (.bool true) x39
                            ) (
                              opS P (S.ia 22 x28 x36) fun x39 =>
                              opS P (S.ld 3 x39) fun x40 =>
                              opS P (S.ia 22 x29 x32) fun x41 =>
                              opS P (S.ld 3 x41) fun x42 =>
                              opS P (S.binI .eql x40 x42) fun x43 =>
                              opS P (S.binI .add x36 (.int .i64 1)) fun x44 =>
                              j8 x43 x44
                            )
                          ) (
                            j7 x35
                          )
                        ) (.bool false) (.int .i64 0)
                      ) (
                        j4
                      )
                    ) (.int .i64 0)
                  )
                )
              ) (
                j1
              )
            ) (
              j1
            )
          ) (.int .i64 0)
        )
      )
    )
  )
instance fnb3 : FnB Tryz.prog 3 := ⟨Tryz.call3⟩
theorem e3 : p3 Tryz.prog = fun K x0 x1 x2 => denF Tryz.prog Tryz.f3 [x0, x1, x2] K := by kernel_rfl
theorem c3 {K : Value → World → Prop} {x0 x1 x2 : Value} {w : World} (h : p3 Tryz.prog K x0 x1 x2 w) : CallsR Tryz.prog 3 #[x0, x1, x2] K w := by
  rw [e3] at h
  exact denF_sound mixed Tryz.func3 h

end Go.Gx.S
-- 3
end

section
/- What the functions of this program ask. -/
set_option linter.unusedVariables false
set_option maxRecDepth 100000
namespace Go.Gx.S
open Go Go.Gx Go.Proofs
-- gemel/gemellaw15.AggScripts
def p4 (P : Program) (K : Value → World → Prop) (x0 : Value) (x1 : Value) (x2 : Value) : World → Prop :=
  opS P (S.box 46 x0) fun x3 =>
  opS P (S.cl 5 []) fun x4 =>
  opS P (S.ia 46 x3 (.int .i64 0)) fun x5 =>
  opS P (S.ld 3 x5) fun x6 =>
  opS P (S.build 30 [(0, (.int .u8 2))]) fun x7 =>
  opS P (S.build 32 [(0, x6), (1, x7)]) fun x8 =>
  opS P (S.alloc 32) fun x9 =>
  opS P (S.st 32 x9 x8) fun x10 =>
  opS P (S.un .not x4) fun x11 =>
  brn x11 (
    K x4
  ) (
    opS P (S.len x1) fun x12 =>
    opS P (S.binI .gtr x12 (.int .i64 40)) fun x13 =>
    brn x13 (
      K x4
    ) (
      opS P (S.ld 32 x9) fun x14 =>
      opS P (S.ia 46 x3 (.int .i64 1)) fun x15 =>
      opS P (S.ld 3 x15) fun x16 =>
      opS P (S.ia 46 x3 (.int .i64 2)) fun x17 =>
      opS P (S.ld 3 x17) fun x18 =>
      opS P (S.cl 6 [x14, x16, x1, x18]) fun x19 =>
      opS P (S.ext x19 0) fun x20 =>
      opS P (S.ext x19 1) fun x21 =>
      opS P (S.ld 32 x9) fun x22 =>
      opS P (S.ia 46 x3 (.int .i64 1)) fun x23 =>
      opS P (S.ld 3 x23) fun x24 =>
      opS P (S.ia 46 x3 (.int .i64 2)) fun x25 =>
      opS P (S.ld 3 x25) fun x26 =>
      opS P (S.cl 8 [x22, x24, x1, x26]) fun x27 =>
      opS P (S.ext x27 0) fun x28 =>
      opS P (S.ext x27 1) fun x29 =>
      opS P (S.binI .neq x21 x29) fun x30 =>
      brn x30 (
        K (.bool false)
      ) (
        opS P (S.binN .eql (S.isNilP x20)) fun x31 =>
        opS P (S.binN .eql (S.isNilP x28)) fun x32 =>
        opS P (S.binB .neq x31 x32) fun x33 =>
        brn x33 (
          K (.bool false)
        ) (
          jnJ 0 (
            K (.bool true)
          ) fun j0 =>
          loopJ 1 (fun j1 x34 =>
            opS P (S.len x2) fun x35 =>
            opS P (S.binI .lss x34 x35) fun x36 =>
            brn x36 (
              opS P (S.binI .lss x34 (.int .i64 120)) fun x37 =>
              brn x37 (
                opS P (S.binN .neq (S.isNilP x20)) fun x38 =>
                brn x38 (
                  opS P (S.ia 23 x2 x34) fun x39 =>
                  opS P (S.ld 43 x39) fun x40 =>
                  opS P (S.cl 9 [x20, x28, x40]) fun x41 =>
                  opS P (S.cl 12 [x20]) fun x42 =>
                  opS P (S.ext x42 0) fun x43 =>
                  opS P (S.ext x42 1) fun x44 =>
                  opS P (S.alloc 39) fun x45 =>
                  opS P (S.st 39 x45 x43) fun x46 =>
                  opS P (S.cl 13 [x28]) fun x47 =>
                  opS P (S.ext x47 0) fun x48 =>
                  opS P (S.ext x47 1) fun x49 =>
                  opS P (S.alloc 39) fun x50 =>
                  opS P (S.st 39 x50 x48) fun x51 =>
                  opS P (S.cl 10 [x20]) fun x52 =>
                  opS P (S.cl 15 [x28]) fun x53 =>
                  opS P (S.cl 14 [x52, x53]) fun x54 =>
                  opS P (S.un .not x41) fun x55 =>
                  brn x55 (
                    K (.bool false)
                  ) (
                    opS P (S.un .not x54) fun x56 =>
                    brn x56 (
                      K (.bool false)
                    ) (
                      opS P (S.ld 39 x45) fun x57 =>
                      opS P (S.ld 39 x50) fun x58 =>
                      opS P (S.binG .neq 39 x57 x58) fun x59 =>
                      brn x59 (
                        K (.bool false)
                      ) (
                        opS P (S.binB .neq x44 x49) fun x60 =>
                        brn x60 (
                          K (.bool false)
                        ) (
                          opS P (S.cl 11 [x20]) fun x61 =>
                          opS P (S.cl 16 [x28]) fun x62 =>
                          opS P (S.cl 14 [x61, x62]) fun x63 =>
                          opS P (S.un .not x63) fun x64 =>
                          brn x64 (
                            K (.bool false)
                          ) (
                            opS P (S.binI .add x34 (.int .i64 1)) fun x65 =>
                            j1 x65
                          )
                        )
                      )
                    )
                  )
                ) (
                  j0
                )
              ) (
                j0
              )
            ) (
              j0
            )
          ) (.int .i64 0)
        )
      )
    )
  )
instance fnb4 : FnB Tryz.prog 4 := ⟨Tryz.call4⟩
theorem e4 : p4 Tryz.prog = fun K x0 x1 x2 => denF Tryz.prog Tryz.f4 [x0, x1, x2] K := by kernel_rfl
theorem c4 {K : Value → World → Prop} {x0 x1 x2 : Value} {w : World} (h : p4 Tryz.prog K x0 x1 x2 w) : CallsR Tryz.prog 4 #[x0, x1, x2] K w := by
  rw [e4] at h
  exact denF_sound mixed Tryz.func4 h

-- gemel/gemellaw15.step
def p9 (P : Program) (K : Value → World → Prop) (x0 : Value) (x1 : Value) (x2 : Value) : World → Prop :=
  opS P (S.box 43 x2) fun x3 =>
  opS P (S.fa 43 x3 0) fun x4 =>
  opS P (S.ld 3 x4) fun x5 =>
  opS P (S.binI .eql x5 (.int .i64 0)) fun x6 =>
  brn x6 (
    opS P (S.fa 43 x3 1) fun x7 =>
    opS P (S.ld 3 x7) fun x8 =>
    opS P (S.fa 43 x3 4) fun x9 =>
    opS P (S.ld 41 x9) fun x10 =>
    opS P (S.fa 43 x3 2) fun x11 =>
    opS P (S.ld 3 x11) fun x12 =>
    opS P (S.cl 31 [x0, x8, x10, x12]) fun x13 =>
    opS P (S.fa 43 x3 1) fun x14 =>
    opS P (S.ld 3 x14) fun x15 =>
    opS P (S.fa 43 x3 4) fun x16 =>
    opS P (S.ld 41 x16) fun x17 =>
    opS P (S.fa 43 x3 2) fun x18 =>
    opS P (S.ld 3 x18) fun x19 =>
    opS P (S.cl 32 [x1, x15, x17, x19]) fun x20 =>
    opS P (S.binI .eql x13 x20) fun x21 =>
    K x21
  ) (
    opS P (S.binI .eql x5 (.int .i64 1)) fun x7 =>
    brn x7 (
      opS P (S.fa 43 x3 2) fun x8 =>
      opS P (S.ld 3 x8) fun x9 =>
      opS P (S.cl 33 [x0, x9]) fun x10 =>
      opS P (S.ext x10 0) fun x11 =>
      opS P (S.ext x10 1) fun x12 =>
      opS P (S.fa 43 x3 2) fun x13 =>
      opS P (S.ld 3 x13) fun x14 =>
      opS P (S.cl 34 [x1, x14]) fun x15 =>
      opS P (S.ext x15 0) fun x16 =>
      opS P (S.ext x15 1) fun x17 =>
      opS P (S.cl 35 [x11, x16]) fun x18 =>
      jnJ 1 (fun x19 =>
        K x19
      ) fun j0 =>
      brn x18 (
        opS P (S.binI .eql x12 x17) fun x19 =>
        j0 x19
      ) (
        j0 (.bool false)
      )
    ) (
      opS P (S.fa 43 x3 1) fun x8 =>
      opS P (S.ld 3 x8) fun x9 =>
      opS P (S.fa 43 x3 3) fun x10 =>
      opS P (S.ld 4 x10) fun x11 =>
      opS P (S.fa 43 x3 2) fun x12 =>
      opS P (S.ld 3 x12) fun x13 =>
      opS P (S.cl 36 [x0, x9, x11, x13]) fun x14 =>
      opS P (S.fa 43 x3 1) fun x15 =>
      opS P (S.ld 3 x15) fun x16 =>
      opS P (S.fa 43 x3 3) fun x17 =>
      opS P (S.ld 4 x17) fun x18 =>
      opS P (S.fa 43 x3 2) fun x19 =>
      opS P (S.ld 3 x19) fun x20 =>
      opS P (S.cl 37 [x1, x16, x18, x20]) fun x21 =>
      opS P (S.binI .eql x14 x21) fun x22 =>
      K x22
    )
  )
instance fnb9 : FnB Tryz.prog 9 := ⟨Tryz.call9⟩
theorem e9 : p9 Tryz.prog = fun K x0 x1 x2 => denF Tryz.prog Tryz.f9 [x0, x1, x2] K := by kernel_rfl
theorem c9 {K : Value → World → Prop} {x0 x1 x2 : Value} {w : World} (h : p9 Tryz.prog K x0 x1 x2 w) : CallsR Tryz.prog 9 #[x0, x1, x2] K w := by
  rw [e9] at h
  exact denF_sound mixed Tryz.func9 h

end Go.Gx.S
-- 9 4
end

section
/- What the functions of this program ask. -/
set_option linter.unusedVariables false
set_option maxRecDepth 100000
namespace Go.Gx.S
open Go Go.Gx Go.Proofs
-- gemel/gemelref15.New
def p8 (P : Program) (K : Value → World → Prop) (x0 : Value) (x1 : Value) (x2 : Value) (x3 : Value) : World → Prop :=
  opS P (S.box 32 x0) fun x4 =>
  opS P (S.len x2) fun x5 =>
  opS P (S.binI .lss x5 (.int .i64 1)) fun x6 =>
  brn x6 (
    K (.tuple #[(.pointer none), (.int .i64 1)])
  ) (
    opS P (S.len x2) fun x7 =>
    opS P (S.binI .gtr x7 (.int .i64 32)) fun x8 =>
    brn x8 (
      K (.tuple #[(.pointer none), (.int .i64 1)])
    ) (
      opS P (S.binI .lss x3 (.int .i64 1)) fun x9 =>
      brn x9 (
        K (.tuple #[(.pointer none), (.int .i64 1)])
      ) (
        opS P (S.binI .gtr x3 (.int .i64 32)) fun x10 =>
        brn x10 (
          K (.tuple #[(.pointer none), (.int .i64 1)])
        ) (
          opS P (S.build 75 [(1, x3)]) fun x11 =>
          opS P (S.box 75 x11) fun x12 =>
          jnJ 0 (
            jnJ 0 (
              K (.tuple #[x12, (.int .i64 0)])
            ) fun j0 =>
            loopJ 1 (fun j1 x13 =>
              opS P (S.nc x12) fun x14 =>
              opS P (S.fa 75 x14 0) fun x15 =>
              opS P (S.ld 73 x15) fun x16 =>
              opS P (S.len x16) fun x17 =>
              opS P (S.binI .lss x13 x17) fun x18 =>
              brn x18 (
                drw <|
                opS P (S.nc x12) fun x19 =>
                opS P (S.fa 75 x19 0) fun x20 =>
                opS P (S.ld 73 x20) fun x21 =>
                opS P (S.ia 73 x21 x13) fun x22 =>
                opS P (S.ld 80 x22) fun x23 =>
                opS P (S.nc x23) fun x24 =>
                opS P (S.fa 84 x24 0) fun x25 =>
                opS P (S.ld 3 x25) fun x26 =>
                opS P (S.nc x12) fun x27 =>
                opS P (S.fa 75 x27 0) fun x28 =>
                opS P (S.ld 73 x28) fun x29 =>
                opS P (S.binI .sub x13 (.int .i64 1)) fun x30 =>
                opS P (S.ia 73 x29 x30) fun x31 =>
                opS P (S.ld 80 x31) fun x32 =>
                opS P (S.nc x32) fun x33 =>
                opS P (S.fa 84 x33 0) fun x34 =>
                opS P (S.ld 3 x34) fun x35 =>
                opS P (S.binI .eql x26 x35) fun x36 =>
                brn x36 (
                  K (.tuple #[(.pointer none), (.int .i64 5)])
                ) (
                  opS P (S.binI .add x13 (.int .i64 1)) fun x37 =>
                  j1 x37
                )
              ) (
                j0
              )
            ) (.int .i64 1)
          ) fun j0 =>
          loopJ 1 (fun j1 x13 =>
            opS P (S.len x2) fun x14 =>
            opS P (S.binI .lss x13 x14) fun x15 =>
            brn x15 (
              jnJ 1 (fun x16 =>
                opS P (S.ld 39 x16) fun x17 =>
                opS P (S.cl 28 [x17]) fun x18 =>
                opS P (S.ext x18 0) fun x19 =>
                opS P (S.ext x18 1) fun x20 =>
                opS P (S.binI .neq x20 (.int .i64 0)) fun x21 =>
                brn x21 (
                  K (.tuple #[(.pointer none), (.int .i64 1)])
                ) (
                  opS P (S.ia 22 x2 x13) fun x22 =>
                  opS P (S.ld 3 x22) fun x23 =>
                  opS P (S.binI .lss x23 (.int .i64 1)) fun x24 =>
                  brn x24 (
                    K (.tuple #[(.pointer none), (.int .i64 1)])
                  ) (
                    drw <|
                    opS P (S.ia 22 x2 x13) fun x25 =>
                    allW (
                      opS P (S.ld 3 x25) fun x26 =>
                      opS P (S.cl 30 []) fun x27 =>
                      opS P (S.build 84 [(0, x26), (1, x19), (2, x27), (5, (.int .i64 (-1)))]) fun x28 =>
                      opS P (S.box 84 x28) fun x29 =>
                      opS P (S.cl 29 [x12, x29]) fun x30 =>
                      opS P (S.binI .add x13 (.int .i64 1)) fun x31 =>
                      j1 x31
                    ) (
                      opS P (S.cl 30 []) fun x26 =>
                      opS P (S.ld 3 x25) fun x27 =>
                      opS P (S.build 84 [(0, x27), (1, x19), (2, x26), (5, (.int .i64 (-1)))]) fun x28 =>
                      opS P (S.box 84 x28) fun x29 =>
                      opS P (S.cl 29 [x12, x29]) fun x30 =>
                      opS P (S.binI .add x13 (.int .i64 1)) fun x31 =>
                      j1 x31
                    )
                  )
                )
              ) fun j2 =>
              drw <|
              opS P (S.fa 32 x4 0) fun x16 =>
              opS P (S.fa 32 x4 1) fun x17 =>
              opS P (S.ia 22 x2 x13) fun x18 =>
              allW (
                opS P (S.ld 3 x16) fun x19 =>
                allW (
                  opS P (S.ld 30 x17) fun x20 =>
                  allW (
                    opS P (S.ld 3 x18) fun x21 =>
                    opS P (S.build 39 [(0, x19), (1, x20), (2, x1), (3, (.int .i64 128)), (4, x21), (5, (.int .i64 7))]) fun x22 =>
                    opS P (S.alloc 39) fun x23 =>
                    opS P (S.st 39 x23 x22) fun x24 =>
                    j2 x23
                  ) (
                    opS P (S.alloc 39) fun x21 =>
                    opS P (S.ld 3 x18) fun x22 =>
                    opS P (S.build 39 [(0, x19), (1, x20), (2, x1), (3, (.int .i64 128)), (4, x22), (5, (.int .i64 7))]) fun x23 =>
                    opS P (S.st 39 x21 x23) fun x24 =>
                    j2 x21
                  )
                ) (
                  allW (
                    opS P (S.ld 3 x18) fun x20 =>
                    allW (
                      opS P (S.ld 30 x17) fun x21 =>
                      opS P (S.build 39 [(0, x19), (1, x21), (2, x1), (3, (.int .i64 128)), (4, x20), (5, (.int .i64 7))]) fun x22 =>
                      opS P (S.alloc 39) fun x23 =>
                      opS P (S.st 39 x23 x22) fun x24 =>
                      j2 x23
                    ) (
                      opS P (S.alloc 39) fun x21 =>
                      opS P (S.ld 30 x17) fun x22 =>
                      opS P (S.build 39 [(0, x19), (1, x22), (2, x1), (3, (.int .i64 128)), (4, x20), (5, (.int .i64 7))]) fun x23 =>
                      opS P (S.st 39 x21 x23) fun x24 =>
                      j2 x21
                    )
                  ) (
                    opS P (S.alloc 39) fun x20 =>
                    opS P (S.ld 30 x17) fun x21 =>
                    opS P (S.ld 3 x18) fun x22 =>
                    opS P (S.build 39 [(0, x19), (1, x21), (2, x1), (3, (.int .i64 128)), (4, x22), (5, (.int .i64 7))]) fun x23 =>
                    opS P (S.st 39 x20 x23) fun x24 =>
                    j2 x20
                  )
                )
              ) (
                allW (
                  opS P (S.ld 30 x17) fun x19 =>
                  allW (
                    opS P (S.ld 3 x16) fun x20 =>
                    allW (
                      opS P (S.ld 3 x18) fun x21 =>
                      opS P (S.build 39 [(0, x20), (1, x19), (2, x1), (3, (.int .i64 128)), (4, x21), (5, (.int .i64 7))]) fun x22 =>
                      opS P (S.alloc 39) fun x23 =>
                      opS P (S.st 39 x23 x22) fun x24 =>
                      j2 x23
                    ) (
                      opS P (S.alloc 39) fun x21 =>
                      opS P (S.ld 3 x18) fun x22 =>
                      opS P (S.build 39 [(0, x20), (1, x19), (2, x1), (3, (.int .i64 128)), (4, x22), (5, (.int .i64 7))]) fun x23 =>
                      opS P (S.st 39 x21 x23) fun x24 =>
                      j2 x21
                    )
                  ) (
                    allW (
                      opS P (S.ld 3 x18) fun x20 =>
                      allW (
                        opS P (S.ld 3 x16) fun x21 =>
                        opS P (S.build 39 [(0, x21), (1, x19), (2, x1), (3, (.int .i64 128)), (4, x20), (5, (.int .i64 7))]) fun x22 =>
                        opS P (S.alloc 39) fun x23 =>
                        opS P (S.st 39 x23 x22) fun x24 =>
                        j2 x23
                      ) (
                        opS P (S.alloc 39) fun x21 =>
                        opS P (S.ld 3 x16) fun x22 =>
                        opS P (S.build 39 [(0, x22), (1, x19), (2, x1), (3, (.int .i64 128)), (4, x20), (5, (.int .i64 7))]) fun x23 =>
                        opS P (S.st 39 x21 x23) fun x24 =>
                        j2 x21
                      )
                    ) (
                      opS P (S.alloc 39) fun x20 =>
                      opS P (S.ld 3 x16) fun x21 =>
                      opS P (S.ld 3 x18) fun x22 =>
                      opS P (S.build 39 [(0, x21), (1, x19), (2, x1), (3, (.int .i64 128)), (4, x22), (5, (.int .i64 7))]) fun x23 =>
                      opS P (S.st 39 x20 x23) fun x24 =>
                      j2 x20
                    )
                  )
                ) (
                  allW (
                    opS P (S.ld 3 x18) fun x19 =>
                    allW (
                      opS P (S.ld 3 x16) fun x20 =>
                      allW (
                        opS P (S.ld 30 x17) fun x21 =>
                        opS P (S.build 39 [(0, x20), (1, x21), (2, x1), (3, (.int .i64 128)), (4, x19), (5, (.int .i64 7))]) fun x22 =>
                        opS P (S.alloc 39) fun x23 =>
                        opS P (S.st 39 x23 x22) fun x24 =>
                        j2 x23
                      ) (
                        opS P (S.alloc 39) fun x21 =>
                        opS P (S.ld 30 x17) fun x22 =>
                        opS P (S.build 39 [(0, x20), (1, x22), (2, x1), (3, (.int .i64 128)), (4, x19), (5, (.int .i64 7))]) fun x23 =>
                        opS P (S.st 39 x21 x23) fun x24 =>
                        j2 x21
                      )
                    ) (
                      allW (
                        opS P (S.ld 30 x17) fun x20 =>
                        allW (
                          opS P (S.ld 3 x16) fun x21 =>
                          opS P (S.build 39 [(0, x21), (1, x20), (2, x1), (3, (.int .i64 128)), (4, x19), (5, (.int .i64 7))]) fun x22 =>
                          opS P (S.alloc 39) fun x23 =>
                          opS P (S.st 39 x23 x22) fun x24 =>
                          j2 x23
                        ) (
                          opS P (S.alloc 39) fun x21 =>
                          opS P (S.ld 3 x16) fun x22 =>
                          opS P (S.build 39 [(0, x22), (1, x20), (2, x1), (3, (.int .i64 128)), (4, x19), (5, (.int .i64 7))]) fun x23 =>
                          opS P (S.st 39 x21 x23) fun x24 =>
                          j2 x21
                        )
                      ) (
                        opS P (S.alloc 39) fun x20 =>
                        opS P (S.ld 3 x16) fun x21 =>
                        opS P (S.ld 30 x17) fun x22 =>
                        opS P (S.build 39 [(0, x21), (1, x22), (2, x1), (3, (.int .i64 128)), (4, x19), (5, (.int .i64 7))]) fun x23 =>
                        opS P (S.st 39 x20 x23) fun x24 =>
                        j2 x20
                      )
                    )
                  ) (
                    opS P (S.alloc 39) fun x19 =>
                    opS P (S.ld 3 x16) fun x20 =>
                    opS P (S.ld 30 x17) fun x21 =>
                    opS P (S.ld 3 x18) fun x22 =>
                    opS P (S.build 39 [(0, x20), (1, x21), (2, x1), (3, (.int .i64 128)), (4, x22), (5, (.int .i64 7))]) fun x23 =>
                    opS P (S.st 39 x19 x23) fun x24 =>
                    j2 x19
                  )
                )
              )
            ) (
              j0
            )
          ) (.int .i64 0)
        )
      )
    )
  )
instance fnb8 : FnB Tryz.prog 8 := ⟨Tryz.call8⟩
theorem e8 : p8 Tryz.prog = fun K x0 x1 x2 x3 => denF Tryz.prog Tryz.f8 [x0, x1, x2, x3] K := by kernel_rfl
theorem c8 {K : Value → World → Prop} {x0 x1 x2 x3 : Value} {w : World} (h : p8 Tryz.prog K x0 x1 x2 x3 w) : CallsR Tryz.prog 8 #[x0, x1, x2, x3] K w := by
  rw [e8] at h
  exact denF_sound mixed Tryz.func8 h

end Go.Gx.S
-- 8
end

section
/- What the functions of this program ask. -/
set_option linter.unusedVariables false
set_option maxRecDepth 100000
namespace Go.Gx.S
open Go Go.Gx Go.Proofs
-- (*gemel/gemelref15.Group).put
def p29 (P : Program) (K : Value → World → Prop) (x0 : Value) (x1 : Value) : World → Prop :=
  jnJ 1 (fun x2 =>
    opS P (S.buildS 73 0 []) fun x3 =>
    opS P (S.nc x0) fun x4 =>
    opS P (S.fa 75 x4 0) fun x5 =>
    opS P (S.ld 73 x5) fun x6 =>
    opS P (S.slc 73 x6 none (some x2) none) fun x7 =>
    opS P (S.bi .append #[73, 73] 73 [x3, x7]) fun x8 =>
    opS P (S.buildS 73 1 [(0, x1)]) fun x9 =>
    opS P (S.bi .append #[73, 73] 73 [x8, x9]) fun x10 =>
    opS P (S.nc x0) fun x11 =>
    opS P (S.fa 75 x11 0) fun x12 =>
    opS P (S.ld 73 x12) fun x13 =>
    opS P (S.slc 73 x13 (some x2) none none) fun x14 =>
    opS P (S.bi .append #[73, 73] 73 [x10, x14]) fun x15 =>
    opS P (S.nc x0) fun x16 =>
    opS P (S.fa 75 x16 0) fun x17 =>
    opS P (S.st 73 x17 x15) fun x18 =>
    K (.tuple #[])
  ) fun j0 =>
  loopJ 1 (fun j1 x2 =>
    drw <|
    quietS fun C =>
    qtS P C (S.nc x0) fun x3 =>
    qtS P C (S.fa 75 x3 0) fun x4 =>
    qtS P C (S.ld 73 x4) fun x5 =>
    qtS P C (S.len x5) fun x6 =>
    qtS P C (S.binI .lss x2 x6) fun x7 =>
    gqtS P C x7 true (S.mv x0) fun x8 =>
    gqtS P C x7 true (S.nc x8) fun x9 =>
    gqtS P C x7 true (S.fa 75 x9 0) fun x10 =>
    gqtS P C x7 true (S.ld 73 x10) fun x11 =>
    gqtS P C x7 true (S.mv x2) fun x12 =>
    gqtS P C x7 true (S.ia 73 x11 x12) fun x13 =>
    gqtS P C x7 true (S.ld 80 x13) fun x14 =>
    gqtS P C x7 true (S.nc x14) fun x15 =>
    gqtS P C x7 true (S.fa 84 x15 0) fun x16 =>
    gqtS P C x7 true (S.ld 3 x16) fun x17 =>
    gqtS P C x7 true (S.mv x1) fun x18 =>
    gqtS P C x7 true (S.nc x18) fun x19 =>
    gqtS P C x7 true (S.fa 84 x19 0) fun x20 =>
    gqtS P C x7 true (S.ld 3 x20) fun x21 =>
    qendS C <|
    brn x7 (
      opS P (S.binI .lss x17 x21) fun x22 =>
      brn x22 (
        opS P (S.binI .add x2 (.int .i64 1)) fun x23 =>
        j1 x23
      ) (
        j0 x2
      )
    ) (
      j0 x2
    )
  ) (.int .i64 0)
instance fnb29 : FnB Tryz.prog 29 := ⟨Tryz.call29⟩
theorem e29 : p29 Tryz.prog = fun K x0 x1 => denF Tryz.prog Tryz.f29 [x0, x1] K := by kernel_rfl
theorem c29 {K : Value → World → Prop} {x0 x1 : Value} {w : World} (h : p29 Tryz.prog K x0 x1 w) : CallsR Tryz.prog 29 #[x0, x1] K w := by
  rw [e29] at h
  exact denF_sound mixed Tryz.func29 h

end Go.Gx.S
-- 29
end

section
/- What the functions of this program ask. -/
set_option linter.unusedVariables false
set_option maxRecDepth 100000
namespace Go.Gx.S
open Go Go.Gx Go.Proofs
-- (*gemel/gemelref15.Group).Tick
def p34 (P : Program) (K : Value → World → Prop) (x0 : Value) (x1 : Value) : World → Prop :=
  opS P (S.binI .lss x1 (.int .i64 0)) fun x2 =>
  brn x2 (
    K (.tuple #[(.slice none 0 0), (.int .i64 1)])
  ) (
    opS P (S.binI .gtr x1 (.int .i64 1099511627776)) fun x3 =>
    brn x3 (
      K (.tuple #[(.slice none 0 0), (.int .i64 1)])
    ) (
      jnJ 0 (
        opS P (S.cl 62 [x0]) fun x4 =>
        jnJ 0 (
          jnJ 1 (fun x5 =>
            K (.tuple #[x5, (.int .i64 0)])
          ) fun j0 =>
          loopJ 2 (fun j1 x5 x6 =>
            opS P (S.nc x0) fun x7 =>
            opS P (S.fa 75 x7 0) fun x8 =>
            opS P (S.ld 73 x8) fun x9 =>
            opS P (S.len x9) fun x10 =>
            opS P (S.binI .lss x6 x10) fun x11 =>
            brn x11 (
              opS P (S.nc x0) fun x12 =>
              opS P (S.fa 75 x12 0) fun x13 =>
              opS P (S.ld 73 x13) fun x14 =>
              opS P (S.ia 73 x14 x6) fun x15 =>
              opS P (S.ld 80 x15) fun x16 =>
              opS P (S.cl 66 [x16, x1]) fun x17 =>
              brn x17 (
                jnJ 1 (fun x18 =>
                  opS P (S.nc x16) fun x19 =>
                  opS P (S.fa 84 x19 4) fun x20 =>
                  opS P (S.st 4 x20 (.bool false)) fun x21 =>
                  opS P (S.nc x16) fun x22 =>
                  opS P (S.fa 84 x22 5) fun x23 =>
                  opS P (S.st 3 x23 x1) fun x24 =>
                  opS P (S.binI .add x6 (.int .i64 1)) fun x25 =>
                  j1 x18 x25
                ) fun j2 =>
                drw <|
                opS P (S.nc x16) fun x18 =>
                opS P (S.fa 84 x18 0) fun x19 =>
                opS P (S.nc x16) fun x20 =>
                opS P (S.fa 84 x20 1) fun x21 =>
                opS P (S.ld 76 x21) fun x22 =>
                opS P (S.nc x16) fun x23 =>
                opS P (S.fa 84 x23 1) fun x24 =>
                allW (
                  opS P (S.ld 3 x19) fun x25 =>
                  allW (
                    opS P (S.cl 67 [x22]) fun x26 =>
                    opS P (S.ld 76 x24) fun x27 =>
                    opS P (S.nc x27) fun x28 =>
                    opS P (S.fa 101 x28 1) fun x29 =>
                    opS P (S.ld 39 x29) fun x30 =>
                    opS P (S.build 41 [(0, x26), (1, x30)]) fun x31 =>
                    opS P (S.build 105 [(0, x25), (1, x31)]) fun x32 =>
                    opS P (S.buildS 86 1 [(0, x32)]) fun x33 =>
                    opS P (S.bi .append #[86, 86] 86 [x5, x33]) fun x34 =>
                    j2 x34
                  ) (
                    opS P (S.ld 76 x24) fun x26 =>
                    opS P (S.nc x26) fun x27 =>
                    opS P (S.fa 101 x27 1) fun x28 =>
                    allW (
                      opS P (S.cl 67 [x22]) fun x29 =>
                      opS P (S.ld 39 x28) fun x30 =>
                      opS P (S.build 41 [(0, x29), (1, x30)]) fun x31 =>
                      opS P (S.build 105 [(0, x25), (1, x31)]) fun x32 =>
                      opS P (S.buildS 86 1 [(0, x32)]) fun x33 =>
                      opS P (S.bi .append #[86, 86] 86 [x5, x33]) fun x34 =>
                      j2 x34
                    ) (
                      opS P (S.ld 39 x28) fun x29 =>
                      opS P (S.cl 67 [x22]) fun x30 =>
                      opS P (S.build 41 [(0, x30), (1, x29)]) fun x31 =>
                      opS P (S.build 105 [(0, x25), (1, x31)]) fun x32 =>
                      opS P (S.buildS 86 1 [(0, x32)]) fun x33 =>
                      opS P (S.bi .append #[86, 86] 86 [x5, x33]) fun x34 =>
                      j2 x34
                    )
                  )
                ) (
                  allW (
                    opS P (S.cl 67 [x22]) fun x25 =>
                    opS P (S.ld 3 x19) fun x26 =>
                    opS P (S.ld 76 x24) fun x27 =>
                    opS P (S.nc x27) fun x28 =>
                    opS P (S.fa 101 x28 1) fun x29 =>
                    opS P (S.ld 39 x29) fun x30 =>
                    opS P (S.build 41 [(0, x25), (1, x30)]) fun x31 =>
                    opS P (S.build 105 [(0, x26), (1, x31)]) fun x32 =>
                    opS P (S.buildS 86 1 [(0, x32)]) fun x33 =>
                    opS P (S.bi .append #[86, 86] 86 [x5, x33]) fun x34 =>
                    j2 x34
                  ) (
                    opS P (S.ld 76 x24) fun x25 =>
                    opS P (S.nc x25) fun x26 =>
                    opS P (S.fa 101 x26 1) fun x27 =>
                    allW (
                      opS P (S.ld 3 x19) fun x28 =>
                      allW (
                        opS P (S.cl 67 [x22]) fun x29 =>
                        opS P (S.ld 39 x27) fun x30 =>
                        opS P (S.build 41 [(0, x29), (1, x30)]) fun x31 =>
                        opS P (S.build 105 [(0, x28), (1, x31)]) fun x32 =>
                        opS P (S.buildS 86 1 [(0, x32)]) fun x33 =>
                        opS P (S.bi .append #[86, 86] 86 [x5, x33]) fun x34 =>
                        j2 x34
                      ) (
                        opS P (S.ld 39 x27) fun x29 =>
                        opS P (S.cl 67 [x22]) fun x30 =>
                        opS P (S.build 41 [(0, x30), (1, x29)]) fun x31 =>
                        opS P (S.build 105 [(0, x28), (1, x31)]) fun x32 =>
                        opS P (S.buildS 86 1 [(0, x32)]) fun x33 =>
                        opS P (S.bi .append #[86, 86] 86 [x5, x33]) fun x34 =>
                        j2 x34
                      )
                    ) (
                      allW (
                        opS P (S.cl 67 [x22]) fun x28 =>
                        opS P (S.ld 3 x19) fun x29 =>
                        opS P (S.ld 39 x27) fun x30 =>
                        opS P (S.build 41 [(0, x28), (1, x30)]) fun x31 =>
                        opS P (S.build 105 [(0, x29), (1, x31)]) fun x32 =>
                        opS P (S.buildS 86 1 [(0, x32)]) fun x33 =>
                        opS P (S.bi .append #[86, 86] 86 [x5, x33]) fun x34 =>
                        j2 x34
                      ) (
                        opS P (S.ld 39 x27) fun x28 =>
                        allW (
                          opS P (S.ld 3 x19) fun x29 =>
                          opS P (S.cl 67 [x22]) fun x30 =>
                          opS P (S.build 41 [(0, x30), (1, x28)]) fun x31 =>
                          opS P (S.build 105 [(0, x29), (1, x31)]) fun x32 =>
                          opS P (S.buildS 86 1 [(0, x32)]) fun x33 =>
                          opS P (S.bi .append #[86, 86] 86 [x5, x33]) fun x34 =>
                          j2 x34
                        ) (
                          opS P (S.cl 67 [x22]) fun x29 =>
                          opS P (S.ld 3 x19) fun x30 =>
                          opS P (S.build 41 [(0, x29), (1, x28)]) fun x31 =>
                          opS P (S.build 105 [(0, x30), (1, x31)]) fun x32 =>
                          opS P (S.buildS 86 1 [(0, x32)]) fun x33 =>
                          opS P (S.bi .append #[86, 86] 86 [x5, x33]) fun x34 =>
                          j2 x34
                        )
                      )
                    )
                  )
                )
              ) (
                opS P (S.binI .add x6 (.int .i64 1)) fun x18 =>
                j1 x5 x18
              )
            ) (
              j0 x5
            )
          ) (.slice none 0 0) (.int .i64 0)
        ) fun j0 =>
        loopJ 1 (fun j1 x5 =>
          opS P (S.nc x0) fun x6 =>
          opS P (S.fa 75 x6 0) fun x7 =>
          opS P (S.ld 73 x7) fun x8 =>
          opS P (S.len x8) fun x9 =>
          opS P (S.binI .lss x5 x9) fun x10 =>
          brn x10 (
            jnJ 0 (
              opS P (S.binI .add x5 (.int .i64 1)) fun x11 =>
              j1 x11
            ) fun j2 =>
            opS P (S.nc x0) fun x11 =>
            opS P (S.fa 75 x11 0) fun x12 =>
            opS P (S.ld 73 x12) fun x13 =>
            opS P (S.ia 73 x13 x5) fun x14 =>
            opS P (S.ld 80 x14) fun x15 =>
            drw <|
            opS P (S.nc x15) fun x16 =>
            opS P (S.fa 84 x16 2) fun x17 =>
            opS P (S.ld 81 x17) fun x18 =>
            opS P (S.nc x15) fun x19 =>
            opS P (S.fa 84 x19 3) fun x20 =>
            opS P (S.ld 4 x20) fun x21 =>
            opS P (S.nc x15) fun x22 =>
            opS P (S.fa 84 x22 1) fun x23 =>
            opS P (S.ld 76 x23) fun x24 =>
            opS P (S.nc x24) fun x25 =>
            opS P (S.fa 101 x25 1) fun x26 =>
            opS P (S.fa 39 x26 5) fun x27 =>
            opS P (S.ld 3 x27) fun x28 =>
            opS P (S.cl 63 [x18, x21, x28, x1]) fun x29 =>
            opS P (S.ext x29 0) fun x30 =>
            opS P (S.ext x29 1) fun x31 =>
            jnJ 0 (
              drw <|
              opS P (S.nc x15) fun x32 =>
              opS P (S.fa 84 x32 1) fun x33 =>
              opS P (S.nc x15) fun x34 =>
              opS P (S.fa 84 x34 2) fun x35 =>
              opS P (S.ld 81 x35) fun x36 =>
              allW (
                opS P (S.ld 76 x33) fun x37 =>
                opS P (S.cl 65 [x36]) fun x38 =>
                opS P (S.cl 64 [x37, x38]) fun x39 =>
                j2
              ) (
                opS P (S.cl 65 [x36]) fun x37 =>
                opS P (S.ld 76 x33) fun x38 =>
                opS P (S.cl 64 [x38, x37]) fun x39 =>
                j2
              )
            ) fun j3 =>
            loopJ 1 (fun j4 x32 =>
              brn x32 (
                opS P (S.nc x15) fun x33 =>
                opS P (S.fa 84 x33 4) fun x34 =>
                opS P (S.st 4 x34 (.bool true)) fun x35 =>
                drw <|
                opS P (S.nc x15) fun x36 =>
                opS P (S.fa 84 x36 2) fun x37 =>
                opS P (S.ld 81 x37) fun x38 =>
                opS P (S.nc x15) fun x39 =>
                opS P (S.fa 84 x39 3) fun x40 =>
                opS P (S.ld 4 x40) fun x41 =>
                opS P (S.nc x15) fun x42 =>
                opS P (S.fa 84 x42 1) fun x43 =>
                opS P (S.ld 76 x43) fun x44 =>
                opS P (S.nc x44) fun x45 =>
                opS P (S.fa 101 x45 1) fun x46 =>
                opS P (S.fa 39 x46 5) fun x47 =>
                opS P (S.ld 3 x47) fun x48 =>
                opS P (S.cl 63 [x38, x41, x48, x1]) fun x49 =>
                opS P (S.ext x49 0) fun x50 =>
                opS P (S.ext x49 1) fun x51 =>
                j4 x50
              ) (
                j3
              )
            ) x30
          ) (
            j0
          )
        ) (.int .i64 0)
      ) fun j0 =>
      loopJ 1 (fun j1 x4 =>
        opS P (S.nc x0) fun x5 =>
        opS P (S.fa 75 x5 0) fun x6 =>
        opS P (S.ld 73 x6) fun x7 =>
        opS P (S.len x7) fun x8 =>
        opS P (S.binI .lss x4 x8) fun x9 =>
        brn x9 (
          opS P (S.nc x0) fun x10 =>
          opS P (S.fa 75 x10 0) fun x11 =>
          opS P (S.ld 73 x11) fun x12 =>
          opS P (S.ia 73 x12 x4) fun x13 =>
          opS P (S.ld 80 x13) fun x14 =>
          opS P (S.nc x14) fun x15 =>
          opS P (S.fa 84 x15 1) fun x16 =>
          opS P (S.ld 76 x16) fun x17 =>
          opS P (S.nc x17) fun x18 =>
          opS P (S.fa 101 x18 2) fun x19 =>
          opS P (S.ld 3 x19) fun x20 =>
          opS P (S.nc x14) fun x21 =>
          opS P (S.fa 84 x21 1) fun x22 =>
          opS P (S.ld 76 x22) fun x23 =>
          opS P (S.cl 61 [x23, x1]) fun x24 =>
          opS P (S.nc x14) fun x25 =>
          opS P (S.fa 84 x25 4) fun x26 =>
          opS P (S.ld 4 x26) fun x27 =>
          brn x27 (
            opS P (S.nc x14) fun x28 =>
            opS P (S.fa 84 x28 4) fun x29 =>
            opS P (S.st 4 x29 (.bool true)) fun x30 =>
            opS P (S.binI .add x4 (.int .i64 1)) fun x31 =>
            j1 x31
          ) (
            opS P (S.binI .eql x20 (.int .i64 3)) fun x28 =>
            brn x28 (
              opS P (S.nc x14) fun x29 =>
              opS P (S.fa 84 x29 1) fun x30 =>
              opS P (S.ld 76 x30) fun x31 =>
              opS P (S.nc x31) fun x32 =>
              opS P (S.fa 101 x32 2) fun x33 =>
              opS P (S.ld 3 x33) fun x34 =>
              opS P (S.binI .eql x34 (.int .i64 1)) fun x35 =>
              opS P (S.nc x14) fun x36 =>
              opS P (S.fa 84 x36 4) fun x37 =>
              opS P (S.st 4 x37 x35) fun x38 =>
              opS P (S.binI .add x4 (.int .i64 1)) fun x39 =>
              j1 x39
            ) (
              opS P (S.nc x14) fun x29 =>
              opS P (S.fa 84 x29 4) fun x30 =>
              opS P (S.st 4 x30 (.bool false)) fun x31 =>
              opS P (S.binI .add x4 (.int .i64 1)) fun x32 =>
              j1 x32
            )
          )
        ) (
          j0
        )
      ) (.int .i64 0)
    )
  )
instance fnb34 : FnB Tryz.prog 34 := ⟨Tryz.call34⟩
theorem e34 : p34 Tryz.prog = fun K x0 x1 => denF Tryz.prog Tryz.f34 [x0, x1] K := by kernel_rfl
theorem c34 {K : Value → World → Prop} {x0 x1 : Value} {w : World} (h : p34 Tryz.prog K x0 x1 w) : CallsR Tryz.prog 34 #[x0, x1] K w := by
  rw [e34] at h
  exact denF_sound mixed Tryz.func34 h

end Go.Gx.S
-- 34
end

section
/- What the functions of this program ask. -/
set_option linter.unusedVariables false
set_option maxRecDepth 100000
namespace Go.Gx.S
open Go Go.Gx Go.Proofs
-- (*gemel/gemelref15.Group).pick
def p62 (P : Program) (K : Value → World → Prop) (x0 : Value) : World → Prop :=
  jnJ 0 (
    jnJ 0 (
      opS P (S.cl 45 [x0]) fun x1 =>
      opS P (S.binN .eql (S.isNilP x1)) fun x2 =>
      brn x2 (
        K (.tuple #[])
      ) (
        opS P (S.nc x0) fun x3 =>
        opS P (S.fa 75 x3 1) fun x4 =>
        opS P (S.ld 3 x4) fun x5 =>
        opS P (S.binI .sub x5 (.int .i64 1)) fun x6 =>
        jnJ 0 (
          K (.tuple #[])
        ) fun j0 =>
        loopJ 2 (fun j1 x7 x8 =>
          opS P (S.nc x0) fun x9 =>
          opS P (S.fa 75 x9 0) fun x10 =>
          opS P (S.ld 73 x10) fun x11 =>
          opS P (S.len x11) fun x12 =>
          opS P (S.binI .lss x8 x12) fun x13 =>
          brn x13 (
            opS P (S.nc x0) fun x14 =>
            opS P (S.fa 75 x14 0) fun x15 =>
            opS P (S.ld 73 x15) fun x16 =>
            opS P (S.ia 73 x16 x8) fun x17 =>
            opS P (S.ld 80 x17) fun x18 =>
            opS P (S.binG .eql 80 x18 x1) fun x19 =>
            brn x19 (
              opS P (S.binI .add x8 (.int .i64 1)) fun x20 =>
              j1 x7 x20
            ) (
              jnJ 0 (
                opS P (S.nc x18) fun x20 =>
                opS P (S.fa 84 x20 3) fun x21 =>
                opS P (S.ld 4 x21) fun x22 =>
                brn x22 (
                  opS P (S.binI .sub x7 (.int .i64 1)) fun x23 =>
                  opS P (S.binI .add x8 (.int .i64 1)) fun x24 =>
                  j1 x23 x24
                ) (
                  opS P (S.binI .add x8 (.int .i64 1)) fun x23 =>
                  j1 x7 x23
                )
              ) fun j2 =>
              drw <|
              quietS fun C =>
              qtS P C (S.cl 99 [x18]) fun x20 =>
              gqtS P C x20 true (S.mv x18) fun x21 =>
              gqtS P C x20 true (S.nc x21) fun x22 =>
              gqtS P C x20 true (S.fa 84 x22 1) fun x23 =>
              gqtS P C x20 true (S.ld 76 x23) fun x24 =>
              gqtS P C x20 true (S.nc x24) fun x25 =>
              gqtS P C x20 true (S.fa 101 x25 1) fun x26 =>
              gqtS P C x20 true (S.ld 39 x26) fun x27 =>
              gqtS P C x20 true (S.mv x1) fun x28 =>
              gqtS P C x20 true (S.nc x28) fun x29 =>
              gqtS P C x20 true (S.fa 84 x29 1) fun x30 =>
              gqtS P C x20 true (S.ld 76 x30) fun x31 =>
              gqtS P C x20 true (S.nc x31) fun x32 =>
              gqtS P C x20 true (S.fa 101 x32 1) fun x33 =>
              gqtS P C x20 true (S.ld 39 x33) fun x34 =>
              gqtS P C x20 true (S.cl 100 [x27, x34]) fun x35 =>
              qtS P C (S.pick x20 x35 (.bool false)) fun x36 =>
              gqtS P C x36 true (S.mv x7) fun x37 =>
              gqtS P C x36 true (S.binI .gtr x37 (.int .i64 0)) fun x38 =>
              qtS P C (S.pick x36 x38 (.bool false)) fun x39 =>
              qendS C <|
              opS P (S.nc x18) fun x40 =>
              opS P (S.fa 84 x40 3) fun x41 =>
              opS P (S.st 4 x41 x39) fun x42 =>
              j2
            )
          ) (
            j0
          )
        ) x6 (.int .i64 0)
      )
    ) fun j0 =>
    loopJ 1 (fun j1 x1 =>
      opS P (S.nc x0) fun x2 =>
      opS P (S.fa 75 x2 0) fun x3 =>
      opS P (S.ld 73 x3) fun x4 =>
      opS P (S.len x4) fun x5 =>
      opS P (S.binI .lss x1 x5) fun x6 =>
      brn x6 (
        opS P (S.cl 45 [x0]) fun x7 =>
        opS P (S.binN .eql (S.isNilP x7)) fun x8 =>
        brn x8 (
          drw <|
          opS P (S.nc x0) fun x9 =>
          opS P (S.fa 75 x9 0) fun x10 =>
          opS P (S.nc x0) fun x11 =>
          opS P (S.fa 75 x11 0) fun x12 =>
          opS P (S.ld 73 x12) fun x13 =>
          opS P (S.ia 73 x13 x1) fun x14 =>
          opS P (S.ld 80 x14) fun x15 =>
          allW (
            opS P (S.ld 73 x10) fun x16 =>
            opS P (S.ia 73 x16 x1) fun x17 =>
            allW (
              opS P (S.ld 80 x17) fun x18 =>
              opS P (S.cl 99 [x15]) fun x19 =>
              opS P (S.nc x18) fun x20 =>
              opS P (S.fa 84 x20 3) fun x21 =>
              opS P (S.st 4 x21 x19) fun x22 =>
              opS P (S.binI .add x1 (.int .i64 1)) fun x23 =>
              j1 x23
            ) (
              opS P (S.cl 99 [x15]) fun x18 =>
              opS P (S.ld 80 x17) fun x19 =>
              opS P (S.nc x19) fun x20 =>
              opS P (S.fa 84 x20 3) fun x21 =>
              opS P (S.st 4 x21 x18) fun x22 =>
              opS P (S.binI .add x1 (.int .i64 1)) fun x23 =>
              j1 x23
            )
          ) (
            opS P (S.cl 99 [x15]) fun x16 =>
            opS P (S.ld 73 x10) fun x17 =>
            opS P (S.ia 73 x17 x1) fun x18 =>
            opS P (S.ld 80 x18) fun x19 =>
            opS P (S.nc x19) fun x20 =>
            opS P (S.fa 84 x20 3) fun x21 =>
            opS P (S.st 4 x21 x16) fun x22 =>
            opS P (S.binI .add x1 (.int .i64 1)) fun x23 =>
            j1 x23
          )
        ) (
          j0
        )
      ) (
        j0
      )
    ) (.int .i64 0)
  ) fun j0 =>
  loopJ 1 (fun j1 x1 =>
    opS P (S.nc x0) fun x2 =>
    opS P (S.fa 75 x2 0) fun x3 =>
    opS P (S.ld 73 x3) fun x4 =>
    opS P (S.len x4) fun x5 =>
    opS P (S.binI .lss x1 x5) fun x6 =>
    brn x6 (
      opS P (S.nc x0) fun x7 =>
      opS P (S.fa 75 x7 0) fun x8 =>
      opS P (S.ld 73 x8) fun x9 =>
      opS P (S.ia 73 x9 x1) fun x10 =>
      opS P (S.ld 80 x10) fun x11 =>
      opS P (S.cl 99 [x11]) fun x12 =>
      drw <|
      opS P (S.nc x0) fun x13 =>
      opS P (S.fa 75 x13 0) fun x14 =>
      opS P (S.ld 73 x14) fun x15 =>
      opS P (S.ia 73 x15 x1) fun x16 =>
      opS P (S.ld 80 x16) fun x17 =>
      opS P (S.nc x0) fun x18 =>
      opS P (S.fa 75 x18 0) fun x19 =>
      opS P (S.ld 73 x19) fun x20 =>
      opS P (S.ia 73 x20 x1) fun x21 =>
      opS P (S.ld 80 x21) fun x22 =>
      opS P (S.nc x22) fun x23 =>
      opS P (S.fa 84 x23 3) fun x24 =>
      opS P (S.ld 4 x24) fun x25 =>
      brn x25 (
        opS P (S.nc x17) fun x26 =>
        opS P (S.fa 84 x26 3) fun x27 =>
        opS P (S.st 4 x27 x12) fun x28 =>
        opS P (S.binI .add x1 (.int .i64 1)) fun x29 =>
        j1 x29
      ) (
        opS P (S.nc x17) fun x26 =>
        opS P (S.fa 84 x26 3) fun x27 =>
        opS P (S.st 4 x27 (.bool false)) fun x28 =>
        opS P (S.binI .add x1 (.int .i64 1)) fun x29 =>
        j1 x29
      )
    ) (
      j0
    )
  ) (.int .i64 0)
instance fnb62 : FnB Tryz.prog 62 := ⟨Tryz.call62⟩
theorem e62 : p62 Tryz.prog = fun K x0 => denF Tryz.prog Tryz.f62 [x0] K := by kernel_rfl
theorem c62 {K : Value → World → Prop} {x0 : Value} {w : World} (h : p62 Tryz.prog K x0 w) : CallsR Tryz.prog 62 #[x0] K w := by
  rw [e62] at h
  exact denF_sound mixed Tryz.func62 h

end Go.Gx.S
-- 62
end

section
/- What the functions of this program ask. -/
set_option linter.unusedVariables false
set_option maxRecDepth 100000
namespace Go.Gx.S
open Go Go.Gx Go.Proofs
-- (*gemel/gemelref15.Group).Partner
def p13 (P : Program) (K : Value → World → Prop) (x0 : Value) : World → Prop :=
  opS P (S.alloc 39) fun x1 =>
  opS P (S.cl 45 [x0]) fun x2 =>
  opS P (S.binN .eql (S.isNilP x2)) fun x3 =>
  brn x3 (
    opS P (S.build 39 []) fun x4 =>
    opS P (S.st 39 x1 x4) fun x5 =>
    opS P (S.ld 39 x1) fun x6 =>
    K (.tuple #[x6, (.bool false)])
  ) (
    opS P (S.nc x2) fun x4 =>
    opS P (S.fa 84 x4 1) fun x5 =>
    opS P (S.ld 76 x5) fun x6 =>
    opS P (S.nc x6) fun x7 =>
    opS P (S.fa 101 x7 1) fun x8 =>
    opS P (S.ld 39 x8) fun x9 =>
    opS P (S.st 39 x1 x9) fun x10 =>
    opS P (S.ld 39 x1) fun x11 =>
    K (.tuple #[x11, (.bool true)])
  )
instance fnb13 : FnB Tryz.prog 13 := ⟨Tryz.call13⟩
theorem e13 : p13 Tryz.prog = fun K x0 => denF Tryz.prog Tryz.f13 [x0] K := by kernel_rfl
theorem c13 {K : Value → World → Prop} {x0 : Value} {w : World} (h : p13 Tryz.prog K x0 w) : CallsR Tryz.prog 13 #[x0] K w := by
  rw [e13] at h
  exact denF_sound mixed Tryz.func13 h

-- (*gemel/gemelref15.Group).Picked
def p15 (P : Program) (K : Value → World → Prop) (x0 : Value) : World → Prop :=
  jnJ 1 (fun x1 =>
    K x1
  ) fun j0 =>
  loopJ 2 (fun j1 x1 x2 =>
    opS P (S.nc x0) fun x3 =>
    opS P (S.fa 75 x3 0) fun x4 =>
    opS P (S.ld 73 x4) fun x5 =>
    opS P (S.len x5) fun x6 =>
    opS P (S.binI .lss x2 x6) fun x7 =>
    brn x7 (
      opS P (S.nc x0) fun x8 =>
      opS P (S.fa 75 x8 0) fun x9 =>
      opS P (S.ld 73 x9) fun x10 =>
      opS P (S.ia 73 x10 x2) fun x11 =>
      opS P (S.ld 80 x11) fun x12 =>
      opS P (S.nc x12) fun x13 =>
      opS P (S.fa 84 x13 3) fun x14 =>
      opS P (S.ld 4 x14) fun x15 =>
      brn x15 (
        opS P (S.nc x0) fun x16 =>
        opS P (S.fa 75 x16 0) fun x17 =>
        opS P (S.ld 73 x17) fun x18 =>
        opS P (S.ia 73 x18 x2) fun x19 =>
        opS P (S.ld 80 x19) fun x20 =>
        opS P (S.nc x20) fun x21 =>
        opS P (S.fa 84 x21 0) fun x22 =>
        opS P (S.ld 3 x22) fun x23 =>
        opS P (S.buildS 22 1 [(0, x23)]) fun x24 =>
        opS P (S.bi .append #[22, 22] 22 [x1, x24]) fun x25 =>
        opS P (S.binI .add x2 (.int .i64 1)) fun x26 =>
        j1 x25 x26
      ) (
        opS P (S.binI .add x2 (.int .i64 1)) fun x16 =>
        j1 x1 x16
      )
    ) (
      j0 x1
    )
  ) (.slice none 0 0) (.int .i64 0)
instance fnb15 : FnB Tryz.prog 15 := ⟨Tryz.call15⟩
theorem e15 : p15 Tryz.prog = fun K x0 => denF Tryz.prog Tryz.f15 [x0] K := by kernel_rfl
theorem c15 {K : Value → World → Prop} {x0 : Value} {w : World} (h : p15 Tryz.prog K x0 w) : CallsR Tryz.prog 15 #[x0] K w := by
  rw [e15] at h
  exact denF_sound mixed Tryz.func15 h

-- (*gemel/gemelref15.Group).Up
def p16 (P : Program) (K : Value → World → Prop) (x0 : Value) : World → Prop :=
  jnJ 1 (fun x1 =>
    K x1
  ) fun j0 =>
  loopJ 2 (fun j1 x1 x2 =>
    opS P (S.nc x0) fun x3 =>
    opS P (S.fa 75 x3 0) fun x4 =>
    opS P (S.ld 73 x4) fun x5 =>
    opS P (S.len x5) fun x6 =>
    opS P (S.binI .lss x2 x6) fun x7 =>
    brn x7 (
      opS P (S.nc x0) fun x8 =>
      opS P (S.fa 75 x8 0) fun x9 =>
      opS P (S.ld 73 x9) fun x10 =>
      opS P (S.ia 73 x10 x2) fun x11 =>
      opS P (S.ld 80 x11) fun x12 =>
      opS P (S.nc x12) fun x13 =>
      opS P (S.fa 84 x13 2) fun x14 =>
      opS P (S.ld 81 x14) fun x15 =>
      opS P (S.nc x15) fun x16 =>
      opS P (S.fa 103 x16 0) fun x17 =>
      opS P (S.ld 3 x17) fun x18 =>
      opS P (S.binI .eql x18 (.int .i64 4)) fun x19 =>
      brn x19 (
        opS P (S.nc x0) fun x20 =>
        opS P (S.fa 75 x20 0) fun x21 =>
        opS P (S.ld 73 x21) fun x22 =>
        opS P (S.ia 73 x22 x2) fun x23 =>
        opS P (S.ld 80 x23) fun x24 =>
        opS P (S.nc x24) fun x25 =>
        opS P (S.fa 84 x25 0) fun x26 =>
        opS P (S.ld 3 x26) fun x27 =>
        opS P (S.buildS 22 1 [(0, x27)]) fun x28 =>
        opS P (S.bi .append #[22, 22] 22 [x1, x28]) fun x29 =>
        opS P (S.binI .add x2 (.int .i64 1)) fun x30 =>
        j1 x29 x30
      ) (
        opS P (S.binI .add x2 (.int .i64 1)) fun x20 =>
        j1 x1 x20
      )
    ) (
      j0 x1
    )
  ) (.slice none 0 0) (.int .i64 0)
instance fnb16 : FnB Tryz.prog 16 := ⟨Tryz.call16⟩
theorem e16 : p16 Tryz.prog = fun K x0 => denF Tryz.prog Tryz.f16 [x0] K := by kernel_rfl
theorem c16 {K : Value → World → Prop} {x0 : Value} {w : World} (h : p16 Tryz.prog K x0 w) : CallsR Tryz.prog 16 #[x0] K w := by
  rw [e16] at h
  exact denF_sound mixed Tryz.func16 h

-- (*gemel/gemelref15.Group).Take
def p32 (P : Program) (K : Value → World → Prop) (x0 : Value) (x1 : Value) (x2 : Value) (x3 : Value) : World → Prop :=
  opS P (S.box 41 x2) fun x4 =>
  opS P (S.cl 53 [x0, x1]) fun x5 =>
  opS P (S.binN .eql (S.isNilP x5)) fun x6 =>
  brn x6 (
    K (.int .i64 4)
  ) (
    drw <|
    opS P (S.nc x5) fun x7 =>
    opS P (S.fa 84 x7 1) fun x8 =>
    opS P (S.ld 76 x8) fun x9 =>
    opS P (S.ld 41 x4) fun x10 =>
    opS P (S.cl 54 [x9, x10, x3]) fun x11 =>
    opS P (S.ext x11 0) fun x12 =>
    opS P (S.ext x11 1) fun x13 =>
    opS P (S.nc x5) fun x14 =>
    opS P (S.fa 84 x14 4) fun x15 =>
    opS P (S.ld 4 x15) fun x16 =>
    brn x16 (
      opS P (S.nc x5) fun x17 =>
      opS P (S.fa 84 x17 4) fun x18 =>
      opS P (S.st 4 x18 (.bool true)) fun x19 =>
      K x13
    ) (
      opS P (S.nc x5) fun x17 =>
      opS P (S.fa 84 x17 4) fun x18 =>
      opS P (S.st 4 x18 x12) fun x19 =>
      K x13
    )
  )
instance fnb32 : FnB Tryz.prog 32 := ⟨Tryz.call32⟩
theorem e32 : p32 Tryz.prog = fun K x0 x1 x2 x3 => denF Tryz.prog Tryz.f32 [x0, x1, x2, x3] K := by kernel_rfl
theorem c32 {K : Value → World → Prop} {x0 x1 x2 x3 : Value} {w : World} (h : p32 Tryz.prog K x0 x1 x2 x3 w) : CallsR Tryz.prog 32 #[x0, x1, x2, x3] K w := by
  rw [e32] at h
  exact denF_sound mixed Tryz.func32 h

-- gemel/gemelref15.Same
def p35 (P : Program) (K : Value → World → Prop) (x0 : Value) (x1 : Value) : World → Prop :=
  opS P (S.len x0) fun x2 =>
  opS P (S.len x1) fun x3 =>
  opS P (S.binI .neq x2 x3) fun x4 =>
  brn x4 (
    K (.bool false)
  ) (
    jnJ 0 (
      K (.bool true)
    ) fun j0 =>
    loopJ 1 (fun j1 x5 =>
      opS P (S.len x0) fun x6 =>
      opS P (S.binI .lss x5 x6) fun x7 =>
      brn x7 (
        drw <|
        opS P (S.ia 86 x0 x5) fun x8 =>
        opS P (S.ld 105 x8) fun x9 =>
        opS P (S.ia 86 x1 x5) fun x10 =>
        opS P (S.ld 105 x10) fun x11 =>
        opS P (S.binG .neq 105 x9 x11) fun x12 =>
        brn x12 (
          K (.bool false)
        ) (
          opS P (S.binI .add x5 (.int .i64 1)) fun x13 =>
          j1 x13
        )
      ) (
        j0
      )
    ) (.int .i64 0)
  )
instance fnb35 : FnB Tryz.prog 35 := ⟨Tryz.call35⟩
theorem e35 : p35 Tryz.prog = fun K x0 x1 => denF Tryz.prog Tryz.f35 [x0, x1] K := by kernel_rfl
theorem c35 {K : Value → World → Prop} {x0 x1 : Value} {w : World} (h : p35 Tryz.prog K x0 x1 w) : CallsR Tryz.prog 35 #[x0, x1] K w := by
  rw [e35] at h
  exact denF_sound mixed Tryz.func35 h

-- (*gemel/gemelref15.Group).Enable
def p37 (P : Program) (K : Value → World → Prop) (x0 : Value) (x1 : Value) (x2 : Value) (x3 : Value) : World → Prop :=
  opS P (S.cl 53 [x0, x1]) fun x4 =>
  opS P (S.binN .eql (S.isNilP x4)) fun x5 =>
  brn x5 (
    K (.int .i64 4)
  ) (
    opS P (S.nc x4) fun x6 =>
    opS P (S.fa 84 x6 1) fun x7 =>
    opS P (S.ld 76 x7) fun x8 =>
    opS P (S.nc x8) fun x9 =>
    opS P (S.fa 101 x9 2) fun x10 =>
    opS P (S.ld 3 x10) fun x11 =>
    opS P (S.nc x4) fun x12 =>
    opS P (S.fa 84 x12 1) fun x13 =>
    opS P (S.ld 76 x13) fun x14 =>
    opS P (S.cl 69 [x14, x2, x3]) fun x15 =>
    opS P (S.nc x4) fun x16 =>
    opS P (S.fa 84 x16 4) fun x17 =>
    opS P (S.ld 4 x17) fun x18 =>
    brn x18 (
      opS P (S.nc x4) fun x19 =>
      opS P (S.fa 84 x19 4) fun x20 =>
      opS P (S.st 4 x20 (.bool true)) fun x21 =>
      K x15
    ) (
      opS P (S.binI .eql x15 (.int .i64 0)) fun x19 =>
      brn x19 (
        opS P (S.binI .eql x11 (.int .i64 0)) fun x20 =>
        brn x20 (
          opS P (S.nc x4) fun x21 =>
          opS P (S.fa 84 x21 1) fun x22 =>
          opS P (S.ld 76 x22) fun x23 =>
          opS P (S.nc x23) fun x24 =>
          opS P (S.fa 101 x24 2) fun x25 =>
          opS P (S.ld 3 x25) fun x26 =>
          opS P (S.binI .neq x26 (.int .i64 0)) fun x27 =>
          opS P (S.nc x4) fun x28 =>
          opS P (S.fa 84 x28 4) fun x29 =>
          opS P (S.st 4 x29 x27) fun x30 =>
          K x15
        ) (
          opS P (S.nc x4) fun x21 =>
          opS P (S.fa 84 x21 4) fun x22 =>
          opS P (S.st 4 x22 (.bool false)) fun x23 =>
          K x15
        )
      ) (
        opS P (S.nc x4) fun x20 =>
        opS P (S.fa 84 x20 4) fun x21 =>
        opS P (S.st 4 x21 (.bool false)) fun x22 =>
        K x15
      )
    )
  )
instance fnb37 : FnB Tryz.prog 37 := ⟨Tryz.call37⟩
theorem e37 : p37 Tryz.prog = fun K x0 x1 x2 x3 => denF Tryz.prog Tryz.f37 [x0, x1, x2, x3] K := by kernel_rfl
theorem c37 {K : Value → World → Prop} {x0 x1 x2 x3 : Value} {w : World} (h : p37 Tryz.prog K x0 x1 x2 x3 w) : CallsR Tryz.prog 37 #[x0, x1, x2, x3] K w := by
  rw [e37] at h
  exact denF_sound mixed Tryz.func37 h

-- (*gemel/gemelref15.Group).leader
def p45 (P : Program) (K : Value → World → Prop) (x0 : Value) : World → Prop :=
  jnJ 0 (
    K (.pointer none)
  ) fun j0 =>
  loopJ 1 (fun j1 x1 =>
    opS P (S.nc x0) fun x2 =>
    opS P (S.fa 75 x2 0) fun x3 =>
    opS P (S.ld 73 x3) fun x4 =>
    opS P (S.len x4) fun x5 =>
    opS P (S.binI .lss x1 x5) fun x6 =>
    brn x6 (
      opS P (S.nc x0) fun x7 =>
      opS P (S.fa 75 x7 0) fun x8 =>
      opS P (S.ld 73 x8) fun x9 =>
      opS P (S.ia 73 x9 x1) fun x10 =>
      opS P (S.ld 80 x10) fun x11 =>
      opS P (S.nc x11) fun x12 =>
      opS P (S.fa 84 x12 3) fun x13 =>
      opS P (S.ld 4 x13) fun x14 =>
      brn x14 (
        opS P (S.nc x0) fun x15 =>
        opS P (S.fa 75 x15 0) fun x16 =>
        opS P (S.ld 73 x16) fun x17 =>
        opS P (S.ia 73 x17 x1) fun x18 =>
        opS P (S.ld 80 x18) fun x19 =>
        K x19
      ) (
        opS P (S.binI .add x1 (.int .i64 1)) fun x15 =>
        j1 x15
      )
    ) (
      j0
    )
  ) (.int .i64 0)
instance fnb45 : FnB Tryz.prog 45 := ⟨Tryz.call45⟩
theorem e45 : p45 Tryz.prog = fun K x0 => denF Tryz.prog Tryz.f45 [x0] K := by kernel_rfl
theorem c45 {K : Value → World → Prop} {x0 : Value} {w : World} (h : p45 Tryz.prog K x0 w) : CallsR Tryz.prog 45 #[x0] K w := by
  rw [e45] at h
  exact denF_sound mixed Tryz.func45 h

-- (*gemel/gemelref15.Group).find
def p53 (P : Program) (K : Value → World → Prop) (x0 : Value) (x1 : Value) : World → Prop :=
  jnJ 0 (
    K (.pointer none)
  ) fun j0 =>
  loopJ 1 (fun j1 x2 =>
    opS P (S.nc x0) fun x3 =>
    opS P (S.fa 75 x3 0) fun x4 =>
    opS P (S.ld 73 x4) fun x5 =>
    opS P (S.len x5) fun x6 =>
    opS P (S.binI .lss x2 x6) fun x7 =>
    brn x7 (
      opS P (S.nc x0) fun x8 =>
      opS P (S.fa 75 x8 0) fun x9 =>
      opS P (S.ld 73 x9) fun x10 =>
      opS P (S.ia 73 x10 x2) fun x11 =>
      opS P (S.ld 80 x11) fun x12 =>
      opS P (S.nc x12) fun x13 =>
      opS P (S.fa 84 x13 0) fun x14 =>
      opS P (S.ld 3 x14) fun x15 =>
      opS P (S.binI .eql x15 x1) fun x16 =>
      brn x16 (
        opS P (S.nc x0) fun x17 =>
        opS P (S.fa 75 x17 0) fun x18 =>
        opS P (S.ld 73 x18) fun x19 =>
        opS P (S.ia 73 x19 x2) fun x20 =>
        opS P (S.ld 80 x20) fun x21 =>
        K x21
      ) (
        opS P (S.binI .add x2 (.int .i64 1)) fun x17 =>
        j1 x17
      )
    ) (
      j0
    )
  ) (.int .i64 0)
instance fnb53 : FnB Tryz.prog 53 := ⟨Tryz.call53⟩
theorem e53 : p53 Tryz.prog = fun K x0 x1 => denF Tryz.prog Tryz.f53 [x0, x1] K := by kernel_rfl
theorem c53 {K : Value → World → Prop} {x0 x1 : Value} {w : World} (h : p53 Tryz.prog K x0 x1 w) : CallsR Tryz.prog 53 #[x0, x1] K w := by
  rw [e53] at h
  exact denF_sound mixed Tryz.func53 h

-- (*gemel/gemelref15.Port).tells
def p66 (P : Program) (K : Value → World → Prop) (x0 : Value) (x1 : Value) : World → Prop :=
  jnJ 1 (fun x2 =>
    opS P (S.nc x0) fun x3 =>
    opS P (S.fa 84 x3 1) fun x4 =>
    opS P (S.ld 76 x4) fun x5 =>
    opS P (S.nc x5) fun x6 =>
    opS P (S.fa 101 x6 2) fun x7 =>
    opS P (S.ld 3 x7) fun x8 =>
    opS P (S.binI .neq x8 (.int .i64 0)) fun x9 =>
    brn x9 (
      opS P (S.nc x0) fun x10 =>
      opS P (S.fa 84 x10 4) fun x11 =>
      opS P (S.ld 4 x11) fun x12 =>
      brn x12 (
        K (.bool true)
      ) (
        opS P (S.nc x0) fun x13 =>
        opS P (S.fa 84 x13 5) fun x14 =>
        opS P (S.ld 3 x14) fun x15 =>
        opS P (S.binI .lss x15 (.int .i64 0)) fun x16 =>
        brn x16 (
          K (.bool true)
        ) (
          opS P (S.nc x0) fun x17 =>
          opS P (S.fa 84 x17 5) fun x18 =>
          opS P (S.ld 3 x18) fun x19 =>
          opS P (S.binI .sub x1 x19) fun x20 =>
          opS P (S.binI .geq x20 x2) fun x21 =>
          K x21
        )
      )
    ) (
      K (.bool false)
    )
  ) fun j0 =>
  opS P (S.nc x0) fun x2 =>
  opS P (S.fa 84 x2 1) fun x3 =>
  opS P (S.ld 76 x3) fun x4 =>
  opS P (S.nc x4) fun x5 =>
  opS P (S.fa 101 x5 1) fun x6 =>
  opS P (S.fa 39 x6 5) fun x7 =>
  opS P (S.ld 3 x7) fun x8 =>
  opS P (S.binI .and x8 (.int .i64 2)) fun x9 =>
  opS P (S.binI .neq x9 (.int .i64 0)) fun x10 =>
  brn x10 (
    j0 (.int .i64 1)
  ) (
    j0 (.int .i64 30)
  )
instance fnb66 : FnB Tryz.prog 66 := ⟨Tryz.call66⟩
theorem e66 : p66 Tryz.prog = fun K x0 x1 => denF Tryz.prog Tryz.f66 [x0, x1] K := by kernel_rfl
theorem c66 {K : Value → World → Prop} {x0 x1 : Value} {w : World} (h : p66 Tryz.prog K x0 x1 w) : CallsR Tryz.prog 66 #[x0, x1] K w := by
  rw [e66] at h
  exact denF_sound mixed Tryz.func66 h

-- (*gemel/gemelref15.Port).sound
def p99 (P : Program) (K : Value → World → Prop) (x0 : Value) : World → Prop :=
  opS P (S.nc x0) fun x1 =>
  opS P (S.fa 84 x1 1) fun x2 =>
  opS P (S.ld 76 x2) fun x3 =>
  opS P (S.nc x3) fun x4 =>
  opS P (S.fa 101 x4 2) fun x5 =>
  opS P (S.ld 3 x5) fun x6 =>
  opS P (S.binI .eql x6 (.int .i64 3)) fun x7 =>
  brn x7 (
    opS P (S.nc x0) fun x8 =>
    opS P (S.fa 84 x8 1) fun x9 =>
    opS P (S.ld 76 x9) fun x10 =>
    opS P (S.nc x10) fun x11 =>
    opS P (S.fa 101 x11 1) fun x12 =>
    opS P (S.fa 39 x12 5) fun x13 =>
    opS P (S.ld 3 x13) fun x14 =>
    opS P (S.binI .and x14 (.int .i64 4)) fun x15 =>
    opS P (S.binI .neq x15 (.int .i64 0)) fun x16 =>
    K x16
  ) (
    K (.bool false)
  )
instance fnb99 : FnB Tryz.prog 99 := ⟨Tryz.call99⟩
theorem e99 : p99 Tryz.prog = fun K x0 => denF Tryz.prog Tryz.f99 [x0] K := by kernel_rfl
theorem c99 {K : Value → World → Prop} {x0 : Value} {w : World} (h : p99 Tryz.prog K x0 w) : CallsR Tryz.prog 99 #[x0] K w := by
  rw [e99] at h
  exact denF_sound mixed Tryz.func99 h

-- gemel/gemelref15.one
def p100 (P : Program) (K : Value → World → Prop) (x0 : Value) (x1 : Value) : World → Prop :=
  opS P (S.box 39 x0) fun x2 =>
  opS P (S.box 39 x1) fun x3 =>
  opS P (S.fa 39 x2 0) fun x4 =>
  opS P (S.ld 3 x4) fun x5 =>
  opS P (S.fa 39 x3 0) fun x6 =>
  opS P (S.ld 3 x6) fun x7 =>
  opS P (S.binI .eql x5 x7) fun x8 =>
  brn x8 (
    opS P (S.fa 39 x2 1) fun x9 =>
    opS P (S.ld 30 x9) fun x10 =>
    opS P (S.fa 39 x3 1) fun x11 =>
    opS P (S.ld 30 x11) fun x12 =>
    opS P (S.binG .eql 30 x10 x12) fun x13 =>
    brn x13 (
      opS P (S.fa 39 x2 2) fun x14 =>
      opS P (S.ld 3 x14) fun x15 =>
      opS P (S.fa 39 x3 2) fun x16 =>
      opS P (S.ld 3 x16) fun x17 =>
      opS P (S.binI .eql x15 x17) fun x18 =>
      K x18
    ) (
      K (.bool false)
    )
  ) (
    K (.bool false)
  )
instance fnb100 : FnB Tryz.prog 100 := ⟨Tryz.call100⟩
theorem e100 : p100 Tryz.prog = fun K x0 x1 => denF Tryz.prog Tryz.f100 [x0, x1] K := by kernel_rfl
theorem c100 {K : Value → World → Prop} {x0 x1 : Value} {w : World} (h : p100 Tryz.prog K x0 x1 w) : CallsR Tryz.prog 100 #[x0, x1] K w := by
  rw [e100] at h
  exact denF_sound mixed Tryz.func100 h

end Go.Gx.S
-- 99 66 100 45 53 37 32 16 15 13 35
end

section
/- What the functions of this program ask. -/
set_option linter.unusedVariables false
set_option maxRecDepth 100000
namespace Go.Gx.S
open Go Go.Gx Go.Proofs
-- gemel/gemelref14.New
def p30 (P : Program) (K : Value → World → Prop) : World → Prop :=
  opS P (S.build 103 []) fun x0 =>
  opS P (S.box 103 x0) fun x1 =>
  K x1
instance fnb30 : FnB Tryz.prog 30 := ⟨Tryz.call30⟩
theorem e30 : p30 Tryz.prog = fun K => denF Tryz.prog Tryz.f30 [] K := by kernel_rfl
theorem c30 {K : Value → World → Prop} {w : World} (h : p30 Tryz.prog K w) : CallsR Tryz.prog 30 #[] K w := by
  rw [e30] at h
  exact denF_sound mixed Tryz.func30 h

-- (*gemel/gemelref14.Mux).Step
def p63 (P : Program) (K : Value → World → Prop) (x0 : Value) (x1 : Value) (x2 : Value) (x3 : Value) : World → Prop :=
  opS P (S.binI .lss x3 (.int .i64 0)) fun x4 =>
  brn x4 (
    K (.tuple #[(.bool false), (.int .i64 1)])
  ) (
    opS P (S.binI .gtr x3 (.int .i64 1099511627776)) fun x5 =>
    brn x5 (
      K (.tuple #[(.bool false), (.int .i64 1)])
    ) (
      opS P (S.binI .lss x2 (.int .i64 0)) fun x6 =>
      brn x6 (
        K (.tuple #[(.bool false), (.int .i64 1)])
      ) (
        opS P (S.binI .gtr x2 (.int .i64 255)) fun x7 =>
        brn x7 (
          K (.tuple #[(.bool false), (.int .i64 1)])
        ) (
          opS P (S.cl 101 [x0, x1, x2, x3]) fun x8 =>
          opS P (S.binI .lss x8 (.int .i64 0)) fun x9 =>
          brn x9 (
            K (.tuple #[(.bool false), (.int .i64 0)])
          ) (
            opS P (S.nc x0) fun x10 =>
            opS P (S.fa 103 x10 0) fun x11 =>
            opS P (S.st 3 x11 x8) fun x12 =>
            opS P (S.binI .eql x8 (.int .i64 1)) fun x13 =>
            brn x13 (
              opS P (S.nc x0) fun x14 =>
              opS P (S.fa 103 x14 1) fun x15 =>
              opS P (S.st 3 x15 x3) fun x16 =>
              K (.tuple #[(.bool true), (.int .i64 0)])
            ) (
              K (.tuple #[(.bool true), (.int .i64 0)])
            )
          )
        )
      )
    )
  )
instance fnb63 : FnB Tryz.prog 63 := ⟨Tryz.call63⟩
theorem e63 : p63 Tryz.prog = fun K x0 x1 x2 x3 => denF Tryz.prog Tryz.f63 [x0, x1, x2, x3] K := by kernel_rfl
theorem c63 {K : Value → World → Prop} {x0 x1 x2 x3 : Value} {w : World} (h : p63 Tryz.prog K x0 x1 x2 x3 w) : CallsR Tryz.prog 63 #[x0, x1, x2, x3] K w := by
  rw [e63] at h
  exact denF_sound mixed Tryz.func63 h

-- (*gemel/gemelref14.Mux).Bits
def p65 (P : Program) (K : Value → World → Prop) (x0 : Value) : World → Prop :=
  opS P (S.nc x0) fun x1 =>
  opS P (S.fa 103 x1 0) fun x2 =>
  opS P (S.ld 3 x2) fun x3 =>
  opS P (S.binI .eql x3 (.int .i64 2)) fun x4 =>
  brn x4 (
    K (.int .i64 8)
  ) (
    opS P (S.binI .eql x3 (.int .i64 3)) fun x5 =>
    brn x5 (
      K (.int .i64 24)
    ) (
      opS P (S.binI .eql x3 (.int .i64 4)) fun x6 =>
      brn x6 (
        K (.int .i64 56)
      ) (
        K (.int .i64 0)
      )
    )
  )
instance fnb65 : FnB Tryz.prog 65 := ⟨Tryz.call65⟩
theorem e65 : p65 Tryz.prog = fun K x0 => denF Tryz.prog Tryz.f65 [x0] K := by kernel_rfl
theorem c65 {K : Value → World → Prop} {x0 : Value} {w : World} (h : p65 Tryz.prog K x0 w) : CallsR Tryz.prog 65 #[x0] K w := by
  rw [e65] at h
  exact denF_sound mixed Tryz.func65 h

-- (*gemel/gemelref14.Mux).next
def p101 (P : Program) (K : Value → World → Prop) (x0 : Value) (x1 : Value) (x2 : Value) (x3 : Value) : World → Prop :=
  opS P (S.binI .and x2 (.int .i64 8)) fun x4 =>
  opS P (S.binI .neq x4 (.int .i64 0)) fun x5 =>
  opS P (S.binI .and x2 (.int .i64 16)) fun x6 =>
  opS P (S.binI .neq x6 (.int .i64 0)) fun x7 =>
  opS P (S.un .not x1) fun x8 =>
  brn x8 (
    opS P (S.nc x0) fun x9 =>
    opS P (S.fa 103 x9 0) fun x10 =>
    opS P (S.ld 3 x10) fun x11 =>
    opS P (S.binI .eql x11 (.int .i64 0)) fun x12 =>
    brn x12 (
      K (.int .i64 (-1))
    ) (
      K (.int .i64 0)
    )
  ) (
    opS P (S.nc x0) fun x9 =>
    opS P (S.fa 103 x9 0) fun x10 =>
    opS P (S.ld 3 x10) fun x11 =>
    opS P (S.binI .eql x11 (.int .i64 0)) fun x12 =>
    brn x12 (
      K (.int .i64 1)
    ) (
      jnJ 0 (
        jnJ 0 (
          jnJ 0 (
            jnJ 0 (
              opS P (S.nc x0) fun x13 =>
              opS P (S.fa 103 x13 0) fun x14 =>
              opS P (S.ld 3 x14) fun x15 =>
              opS P (S.binI .eql x15 (.int .i64 3)) fun x16 =>
              brn x16 (
                brn x7 (
                  K (.int .i64 4)
                ) (
                  K (.int .i64 (-1))
                )
              ) (
                K (.int .i64 (-1))
              )
            ) fun j0 =>
            opS P (S.nc x0) fun x13 =>
            opS P (S.fa 103 x13 0) fun x14 =>
            opS P (S.ld 3 x14) fun x15 =>
            opS P (S.binI .eql x15 (.int .i64 2)) fun x16 =>
            brn x16 (
              brn x5 (
                K (.int .i64 3)
              ) (
                j0
              )
            ) (
              j0
            )
          ) fun j0 =>
          opS P (S.nc x0) fun x13 =>
          opS P (S.fa 103 x13 0) fun x14 =>
          opS P (S.ld 3 x14) fun x15 =>
          opS P (S.binI .eql x15 (.int .i64 4)) fun x16 =>
          brn x16 (
            opS P (S.un .not x7) fun x17 =>
            brn x17 (
              K (.int .i64 3)
            ) (
              j0
            )
          ) (
            j0
          )
        ) fun j0 =>
        opS P (S.nc x0) fun x13 =>
        opS P (S.fa 103 x13 0) fun x14 =>
        opS P (S.ld 3 x14) fun x15 =>
        opS P (S.binI .geq x15 (.int .i64 3)) fun x16 =>
        brn x16 (
          opS P (S.un .not x5) fun x17 =>
          brn x17 (
            K (.int .i64 2)
          ) (
            j0
          )
        ) (
          j0
        )
      ) fun j0 =>
      opS P (S.nc x0) fun x13 =>
      opS P (S.fa 103 x13 0) fun x14 =>
      opS P (S.ld 3 x14) fun x15 =>
      opS P (S.binI .eql x15 (.int .i64 1)) fun x16 =>
      brn x16 (
        opS P (S.nc x0) fun x17 =>
        opS P (S.fa 103 x17 1) fun x18 =>
        opS P (S.ld 3 x18) fun x19 =>
        opS P (S.binI .sub x3 x19) fun x20 =>
        opS P (S.binI .geq x20 (.int .i64 2)) fun x21 =>
        brn x21 (
          K (.int .i64 2)
        ) (
          j0
        )
      ) (
        j0
      )
    )
  )
instance fnb101 : FnB Tryz.prog 101 := ⟨Tryz.call101⟩
theorem e101 : p101 Tryz.prog = fun K x0 x1 x2 x3 => denF Tryz.prog Tryz.f101 [x0, x1, x2, x3] K := by kernel_rfl
theorem c101 {K : Value → World → Prop} {x0 x1 x2 x3 : Value} {w : World} (h : p101 Tryz.prog K x0 x1 x2 x3 w) : CallsR Tryz.prog 101 #[x0, x1, x2, x3] K w := by
  rw [e101] at h
  exact denF_sound mixed Tryz.func101 h

end Go.Gx.S
-- 30 101 63 65
end

section
/- What the functions of this program ask. -/
set_option linter.unusedVariables false
set_option maxRecDepth 100000
namespace Go.Gx.S
open Go Go.Gx Go.Proofs
-- gemel/gemelref13.New
def p28 (P : Program) (K : Value → World → Prop) (x0 : Value) : World → Prop :=
  opS P (S.box 39 x0) fun x1 =>
  opS P (S.ld 39 x1) fun x2 =>
  opS P (S.build 41 [(0, x2)]) fun x3 =>
  opS P (S.cl 50 [x3]) fun x4 =>
  opS P (S.un .not x4) fun x5 =>
  brn x5 (
    K (.tuple #[(.pointer none), (.int .i64 1)])
  ) (
    opS P (S.fa 39 x1 5) fun x6 =>
    opS P (S.ld 3 x6) fun x7 =>
    opS P (S.binI .andNot x7 (.int .i64 7)) fun x8 =>
    opS P (S.binI .neq x8 (.int .i64 0)) fun x9 =>
    brn x9 (
      K (.tuple #[(.pointer none), (.int .i64 1)])
    ) (
      opS P (S.ld 39 x1) fun x10 =>
      opS P (S.build 101 [(0, x10)]) fun x11 =>
      opS P (S.box 101 x11) fun x12 =>
      K (.tuple #[x12, (.int .i64 0)])
    )
  )
instance fnb28 : FnB Tryz.prog 28 := ⟨Tryz.call28⟩
theorem e28 : p28 Tryz.prog = fun K x0 => denF Tryz.prog Tryz.f28 [x0] K := by kernel_rfl
theorem c28 {K : Value → World → Prop} {x0 : Value} {w : World} (h : p28 Tryz.prog K x0 w) : CallsR Tryz.prog 28 #[x0] K w := by
  rw [e28] at h
  exact denF_sound mixed Tryz.func28 h

-- gemel/gemelref04.Right
def p50 (P : Program) (K : Value → World → Prop) (x0 : Value) : World → Prop :=
  opS P (S.box 41 x0) fun x1 =>
  opS P (S.fa 41 x1 0) fun x2 =>
  opS P (S.ld 39 x2) fun x3 =>
  opS P (S.cl 83 [x3]) fun x4 =>
  brn x4 (
    opS P (S.fa 41 x1 1) fun x5 =>
    opS P (S.ld 39 x5) fun x6 =>
    opS P (S.cl 83 [x6]) fun x7 =>
    brn x7 (
      opS P (S.fa 41 x1 2) fun x8 =>
      opS P (S.ld 3 x8) fun x9 =>
      opS P (S.cl 84 [x9, (.int .i64 65535)]) fun x10 =>
      K x10
    ) (
      K (.bool false)
    )
  ) (
    K (.bool false)
  )
instance fnb50 : FnB Tryz.prog 50 := ⟨Tryz.call50⟩
theorem e50 : p50 Tryz.prog = fun K x0 => denF Tryz.prog Tryz.f50 [x0] K := by kernel_rfl
theorem c50 {K : Value → World → Prop} {x0 : Value} {w : World} (h : p50 Tryz.prog K x0 w) : CallsR Tryz.prog 50 #[x0] K w := by
  rw [e50] at h
  exact denF_sound mixed Tryz.func50 h

-- (*gemel/gemelref13.End).Take
def p54 (P : Program) (K : Value → World → Prop) (x0 : Value) (x1 : Value) (x2 : Value) : World → Prop :=
  opS P (S.box 41 x1) fun x3 =>
  opS P (S.cl 88 [x2]) fun x4 =>
  opS P (S.un .not x4) fun x5 =>
  brn x5 (
    K (.tuple #[(.bool false), (.int .i64 1)])
  ) (
    opS P (S.nc x0) fun x6 =>
    opS P (S.fa 101 x6 2) fun x7 =>
    opS P (S.ld 3 x7) fun x8 =>
    opS P (S.binI .eql x8 (.int .i64 0)) fun x9 =>
    brn x9 (
      K (.tuple #[(.bool false), (.int .i64 7)])
    ) (
      opS P (S.ld 41 x3) fun x10 =>
      opS P (S.cl 50 [x10]) fun x11 =>
      opS P (S.un .not x11) fun x12 =>
      brn x12 (
        K (.tuple #[(.bool false), (.int .i64 2)])
      ) (
        opS P (S.cl 67 [x0]) fun x13 =>
        opS P (S.alloc 39) fun x14 =>
        opS P (S.st 39 x14 x13) fun x15 =>
        jnJ 0 (
          opS P (S.fa 41 x3 1) fun x16 =>
          opS P (S.ld 39 x16) fun x17 =>
          opS P (S.alloc 39) fun x18 =>
          opS P (S.st 39 x18 x17) fun x19 =>
          jnJ 1 (fun x20 =>
            opS P (S.ld 39 x18) fun x21 =>
            opS P (S.ld 39 x14) fun x22 =>
            opS P (S.cl 89 [x21, x22]) fun x23 =>
            opS P (S.fa 41 x3 0) fun x24 =>
            opS P (S.ld 39 x24) fun x25 =>
            opS P (S.nc x0) fun x26 =>
            opS P (S.fa 101 x26 1) fun x27 =>
            opS P (S.st 39 x27 x25) fun x28 =>
            jnJ 0 (
              opS P (S.nc x0) fun x29 =>
              opS P (S.fa 101 x29 2) fun x30 =>
              opS P (S.st 3 x30 (.int .i64 3)) fun x31 =>
              opS P (S.nc x0) fun x32 =>
              opS P (S.fa 101 x32 4) fun x33 =>
              opS P (S.st 3 x33 x2) fun x34 =>
              K (.tuple #[x20, (.int .i64 0)])
            ) fun j0 =>
            jnJ 0 (
              j0
            ) fun j1 =>
            opS P (S.un .not x23) fun x29 =>
            brn x29 (
              opS P (S.fa 41 x3 0) fun x30 =>
              opS P (S.fa 39 x30 5) fun x31 =>
              opS P (S.ld 3 x31) fun x32 =>
              opS P (S.binI .and x32 (.int .i64 4)) fun x33 =>
              opS P (S.binI .neq x33 (.int .i64 0)) fun x34 =>
              brn x34 (
                opS P (S.nc x0) fun x35 =>
                opS P (S.fa 101 x35 1) fun x36 =>
                opS P (S.fa 39 x36 5) fun x37 =>
                opS P (S.ld 3 x37) fun x38 =>
                opS P (S.binI .andNot x38 (.int .i64 8)) fun x39 =>
                opS P (S.nc x0) fun x40 =>
                opS P (S.fa 101 x40 1) fun x41 =>
                opS P (S.fa 39 x41 5) fun x42 =>
                opS P (S.st 3 x42 x39) fun x43 =>
                j0
              ) (
                j1
              )
            ) (
              j1
            )
          ) fun j0 =>
          opS P (S.fa 39 x18 0) fun x20 =>
          opS P (S.ld 3 x20) fun x21 =>
          opS P (S.fa 39 x14 0) fun x22 =>
          opS P (S.ld 3 x22) fun x23 =>
          opS P (S.binI .neq x21 x23) fun x24 =>
          brn x24 (
            j0 (.bool true)
          ) (
            opS P (S.fa 39 x18 1) fun x25 =>
            opS P (S.ld 30 x25) fun x26 =>
            opS P (S.fa 39 x14 1) fun x27 =>
            opS P (S.ld 30 x27) fun x28 =>
            opS P (S.binG .neq 30 x26 x28) fun x29 =>
            brn x29 (
              j0 (.bool true)
            ) (
              opS P (S.fa 39 x18 2) fun x30 =>
              opS P (S.ld 3 x30) fun x31 =>
              opS P (S.fa 39 x14 2) fun x32 =>
              opS P (S.ld 3 x32) fun x33 =>
              opS P (S.binI .neq x31 x33) fun x34 =>
              brn x34 (
                j0 (.bool true)
              ) (
                opS P (S.fa 39 x18 3) fun x35 =>
                opS P (S.ld 3 x35) fun x36 =>
                opS P (S.fa 39 x14 3) fun x37 =>
                opS P (S.ld 3 x37) fun x38 =>
                opS P (S.binI .neq x36 x38) fun x39 =>
                brn x39 (
                  j0 (.bool true)
                ) (
                  opS P (S.fa 39 x18 4) fun x40 =>
                  opS P (S.ld 3 x40) fun x41 =>
                  opS P (S.fa 39 x14 4) fun x42 =>
                  opS P (S.ld 3 x42) fun x43 =>
                  opS P (S.binI .neq x41 x43) fun x44 =>
                  brn x44 (
                    j0 (.bool true)
                  ) (
                    opS P (S.fa 39 x18 5) fun x45 =>
                    opS P (S.ld 3 x45) fun x46 =>
                    opS P (S.binI .and x46 (.int .i64 15)) fun x47 =>
                    opS P (S.fa 39 x14 5) fun x48 =>
                    opS P (S.ld 3 x48) fun x49 =>
                    opS P (S.binI .and x49 (.int .i64 15)) fun x50 =>
                    opS P (S.binI .neq x47 x50) fun x51 =>
                    j0 x51
                  )
                )
              )
            )
          )
        ) fun j0 =>
        opS P (S.fa 41 x3 0) fun x16 =>
        opS P (S.fa 39 x16 1) fun x17 =>
        opS P (S.ld 30 x17) fun x18 =>
        opS P (S.fa 39 x14 1) fun x19 =>
        opS P (S.ld 30 x19) fun x20 =>
        opS P (S.binG .eql 30 x18 x20) fun x21 =>
        brn x21 (
          opS P (S.fa 41 x3 0) fun x22 =>
          opS P (S.fa 39 x22 4) fun x23 =>
          opS P (S.ld 3 x23) fun x24 =>
          opS P (S.fa 39 x14 4) fun x25 =>
          opS P (S.ld 3 x25) fun x26 =>
          opS P (S.binI .eql x24 x26) fun x27 =>
          brn x27 (
            K (.tuple #[(.bool false), (.int .i64 5)])
          ) (
            j0
          )
        ) (
          j0
        )
      )
    )
  )
instance fnb54 : FnB Tryz.prog 54 := ⟨Tryz.call54⟩
theorem e54 : p54 Tryz.prog = fun K x0 x1 x2 => denF Tryz.prog Tryz.f54 [x0, x1, x2] K := by kernel_rfl
theorem c54 {K : Value → World → Prop} {x0 x1 x2 : Value} {w : World} (h : p54 Tryz.prog K x0 x1 x2 w) : CallsR Tryz.prog 54 #[x0, x1, x2] K w := by
  rw [e54] at h
  exact denF_sound mixed Tryz.func54 h

-- (*gemel/gemelref13.End).Tick
def p61 (P : Program) (K : Value → World → Prop) (x0 : Value) (x1 : Value) : World → Prop :=
  opS P (S.cl 88 [x1]) fun x2 =>
  opS P (S.un .not x2) fun x3 =>
  brn x3 (
    K (.int .i64 1)
  ) (
    jnJ 1 (fun x4 =>
      opS P (S.nc x0) fun x5 =>
      opS P (S.fa 101 x5 4) fun x6 =>
      opS P (S.ld 3 x6) fun x7 =>
      opS P (S.binI .sub x1 x7) fun x8 =>
      opS P (S.binI .lss x8 x4) fun x9 =>
      brn x9 (
        K (.int .i64 0)
      ) (
        opS P (S.nc x0) fun x10 =>
        opS P (S.fa 101 x10 2) fun x11 =>
        opS P (S.ld 3 x11) fun x12 =>
        opS P (S.binI .eql x12 (.int .i64 3)) fun x13 =>
        brn x13 (
          opS P (S.cl 98 [x0, x1]) fun x14 =>
          K (.int .i64 0)
        ) (
          opS P (S.binI .eql x12 (.int .i64 1)) fun x14 =>
          brn x14 (
            opS P (S.nc x0) fun x15 =>
            opS P (S.fa 101 x15 2) fun x16 =>
            opS P (S.st 3 x16 (.int .i64 2)) fun x17 =>
            opS P (S.build 39 []) fun x18 =>
            opS P (S.nc x0) fun x19 =>
            opS P (S.fa 101 x19 1) fun x20 =>
            opS P (S.st 39 x20 x18) fun x21 =>
            K (.int .i64 0)
          ) (
            K (.int .i64 0)
          )
        )
      )
    ) fun j0 =>
    jnJ 0 (
      j0 (.int .i64 3)
    ) fun j1 =>
    opS P (S.nc x0) fun x4 =>
    opS P (S.fa 101 x4 2) fun x5 =>
    opS P (S.ld 3 x5) fun x6 =>
    opS P (S.binI .eql x6 (.int .i64 1)) fun x7 =>
    brn x7 (
      j1
    ) (
      opS P (S.nc x0) fun x8 =>
      opS P (S.fa 101 x8 0) fun x9 =>
      opS P (S.fa 39 x9 5) fun x10 =>
      opS P (S.ld 3 x10) fun x11 =>
      opS P (S.binI .and x11 (.int .i64 2)) fun x12 =>
      opS P (S.binI .neq x12 (.int .i64 0)) fun x13 =>
      brn x13 (
        j1
      ) (
        j0 (.int .i64 90)
      )
    )
  )
instance fnb61 : FnB Tryz.prog 61 := ⟨Tryz.call61⟩
theorem e61 : p61 Tryz.prog = fun K x0 x1 => denF Tryz.prog Tryz.f61 [x0, x1] K := by kernel_rfl
theorem c61 {K : Value → World → Prop} {x0 x1 : Value} {w : World} (h : p61 Tryz.prog K x0 x1 w) : CallsR Tryz.prog 61 #[x0, x1] K w := by
  rw [e61] at h
  exact denF_sound mixed Tryz.func61 h

-- (*gemel/gemelref13.End).Mux
def p64 (P : Program) (K : Value → World → Prop) (x0 : Value) (x1 : Value) : World → Prop :=
  opS P (S.binI .lss x1 (.int .i64 0)) fun x2 =>
  brn x2 (
    K (.int .i64 1)
  ) (
    opS P (S.binI .andNot x1 (.int .i64 56)) fun x3 =>
    opS P (S.binI .neq x3 (.int .i64 0)) fun x4 =>
    brn x4 (
      K (.int .i64 1)
    ) (
      opS P (S.nc x0) fun x5 =>
      opS P (S.fa 101 x5 3) fun x6 =>
      opS P (S.st 3 x6 x1) fun x7 =>
      K (.int .i64 0)
    )
  )
instance fnb64 : FnB Tryz.prog 64 := ⟨Tryz.call64⟩
theorem e64 : p64 Tryz.prog = fun K x0 x1 => denF Tryz.prog Tryz.f64 [x0, x1] K := by kernel_rfl
theorem c64 {K : Value → World → Prop} {x0 x1 : Value} {w : World} (h : p64 Tryz.prog K x0 x1 w) : CallsR Tryz.prog 64 #[x0, x1] K w := by
  rw [e64] at h
  exact denF_sound mixed Tryz.func64 h

-- (*gemel/gemelref13.End).Actor
def p67 (P : Program) (K : Value → World → Prop) (x0 : Value) : World → Prop :=
  opS P (S.alloc 39) fun x1 =>
  opS P (S.nc x0) fun x2 =>
  opS P (S.fa 101 x2 0) fun x3 =>
  opS P (S.ld 39 x3) fun x4 =>
  opS P (S.alloc 39) fun x5 =>
  opS P (S.st 39 x5 x4) fun x6 =>
  drw <|
  opS P (S.fa 39 x5 5) fun x7 =>
  opS P (S.ld 3 x7) fun x8 =>
  opS P (S.nc x0) fun x9 =>
  opS P (S.fa 101 x9 3) fun x10 =>
  opS P (S.ld 3 x10) fun x11 =>
  opS P (S.binI .or x8 x11) fun x12 =>
  opS P (S.fa 39 x5 5) fun x13 =>
  opS P (S.st 3 x13 x12) fun x14 =>
  jnJ 0 (
    opS P (S.nc x0) fun x15 =>
    opS P (S.fa 101 x15 2) fun x16 =>
    opS P (S.ld 3 x16) fun x17 =>
    opS P (S.binI .eql x17 (.int .i64 1)) fun x18 =>
    brn x18 (
      opS P (S.fa 39 x5 5) fun x19 =>
      opS P (S.ld 3 x19) fun x20 =>
      opS P (S.binI .or x20 (.int .i64 128)) fun x21 =>
      opS P (S.fa 39 x5 5) fun x22 =>
      opS P (S.st 3 x22 x21) fun x23 =>
      opS P (S.ld 39 x5) fun x24 =>
      opS P (S.st 39 x1 x24) fun x25 =>
      opS P (S.ld 39 x1) fun x26 =>
      K x26
    ) (
      opS P (S.ld 39 x5) fun x19 =>
      opS P (S.st 39 x1 x19) fun x20 =>
      opS P (S.ld 39 x1) fun x21 =>
      K x21
    )
  ) fun j0 =>
  opS P (S.nc x0) fun x15 =>
  opS P (S.fa 101 x15 2) fun x16 =>
  opS P (S.ld 3 x16) fun x17 =>
  opS P (S.binI .eql x17 (.int .i64 2)) fun x18 =>
  brn x18 (
    opS P (S.fa 39 x5 5) fun x19 =>
    opS P (S.ld 3 x19) fun x20 =>
    opS P (S.binI .or x20 (.int .i64 64)) fun x21 =>
    opS P (S.fa 39 x5 5) fun x22 =>
    opS P (S.st 3 x22 x21) fun x23 =>
    j0
  ) (
    j0
  )
instance fnb67 : FnB Tryz.prog 67 := ⟨Tryz.call67⟩
theorem e67 : p67 Tryz.prog = fun K x0 => denF Tryz.prog Tryz.f67 [x0] K := by kernel_rfl
theorem c67 {K : Value → World → Prop} {x0 : Value} {w : World} (h : p67 Tryz.prog K x0 w) : CallsR Tryz.prog 67 #[x0] K w := by
  rw [e67] at h
  exact denF_sound mixed Tryz.func67 h

-- (*gemel/gemelref13.End).Enable
def p69 (P : Program) (K : Value → World → Prop) (x0 : Value) (x1 : Value) (x2 : Value) : World → Prop :=
  opS P (S.cl 88 [x2]) fun x3 =>
  opS P (S.un .not x3) fun x4 =>
  brn x4 (
    K (.int .i64 1)
  ) (
    opS P (S.un .not x1) fun x5 =>
    brn x5 (
      opS P (S.nc x0) fun x6 =>
      opS P (S.fa 101 x6 2) fun x7 =>
      opS P (S.st 3 x7 (.int .i64 0)) fun x8 =>
      opS P (S.nc x0) fun x9 =>
      opS P (S.fa 101 x9 1) fun x10 =>
      opS P (S.fa 39 x10 5) fun x11 =>
      opS P (S.ld 3 x11) fun x12 =>
      opS P (S.binI .andNot x12 (.int .i64 8)) fun x13 =>
      opS P (S.nc x0) fun x14 =>
      opS P (S.fa 101 x14 1) fun x15 =>
      opS P (S.fa 39 x15 5) fun x16 =>
      opS P (S.st 3 x16 x13) fun x17 =>
      K (.int .i64 0)
    ) (
      opS P (S.nc x0) fun x6 =>
      opS P (S.fa 101 x6 2) fun x7 =>
      opS P (S.ld 3 x7) fun x8 =>
      opS P (S.binI .eql x8 (.int .i64 0)) fun x9 =>
      brn x9 (
        opS P (S.cl 98 [x0, x2]) fun x10 =>
        K (.int .i64 0)
      ) (
        K (.int .i64 0)
      )
    )
  )
instance fnb69 : FnB Tryz.prog 69 := ⟨Tryz.call69⟩
theorem e69 : p69 Tryz.prog = fun K x0 x1 x2 => denF Tryz.prog Tryz.f69 [x0, x1, x2] K := by kernel_rfl
theorem c69 {K : Value → World → Prop} {x0 x1 x2 : Value} {w : World} (h : p69 Tryz.prog K x0 x1 x2 w) : CallsR Tryz.prog 69 #[x0, x1, x2] K w := by
  rw [e69] at h
  exact denF_sound mixed Tryz.func69 h

-- gemel/gemelref04.info
def p83 (P : Program) (K : Value → World → Prop) (x0 : Value) : World → Prop :=
  opS P (S.box 39 x0) fun x1 =>
  opS P (S.fa 39 x1 0) fun x2 =>
  opS P (S.ld 3 x2) fun x3 =>
  opS P (S.cl 84 [x3, (.int .i64 65535)]) fun x4 =>
  brn x4 (
    opS P (S.fa 39 x1 2) fun x5 =>
    opS P (S.ld 3 x5) fun x6 =>
    opS P (S.cl 84 [x6, (.int .i64 65535)]) fun x7 =>
    brn x7 (
      opS P (S.fa 39 x1 3) fun x8 =>
      opS P (S.ld 3 x8) fun x9 =>
      opS P (S.cl 84 [x9, (.int .i64 65535)]) fun x10 =>
      brn x10 (
        opS P (S.fa 39 x1 4) fun x11 =>
        opS P (S.ld 3 x11) fun x12 =>
        opS P (S.cl 84 [x12, (.int .i64 65535)]) fun x13 =>
        brn x13 (
          opS P (S.fa 39 x1 5) fun x14 =>
          opS P (S.ld 3 x14) fun x15 =>
          opS P (S.cl 84 [x15, (.int .i64 255)]) fun x16 =>
          K x16
        ) (
          K (.bool false)
        )
      ) (
        K (.bool false)
      )
    ) (
      K (.bool false)
    )
  ) (
    K (.bool false)
  )
instance fnb83 : FnB Tryz.prog 83 := ⟨Tryz.call83⟩
theorem e83 : p83 Tryz.prog = fun K x0 => denF Tryz.prog Tryz.f83 [x0] K := by kernel_rfl
theorem c83 {K : Value → World → Prop} {x0 : Value} {w : World} (h : p83 Tryz.prog K x0 w) : CallsR Tryz.prog 83 #[x0] K w := by
  rw [e83] at h
  exact denF_sound mixed Tryz.func83 h

-- gemel/gemelref04.within
def p84 (P : Program) (K : Value → World → Prop) (x0 : Value) (x1 : Value) : World → Prop :=
  opS P (S.binI .geq x0 (.int .i64 0)) fun x2 =>
  brn x2 (
    opS P (S.binI .leq x0 x1) fun x3 =>
    K x3
  ) (
    K (.bool false)
  )
instance fnb84 : FnB Tryz.prog 84 := ⟨Tryz.call84⟩
theorem e84 : p84 Tryz.prog = fun K x0 x1 => denF Tryz.prog Tryz.f84 [x0, x1] K := by kernel_rfl
theorem c84 {K : Value → World → Prop} {x0 x1 : Value} {w : World} (h : p84 Tryz.prog K x0 x1 w) : CallsR Tryz.prog 84 #[x0, x1] K w := by
  rw [e84] at h
  exact denF_sound mixed Tryz.func84 h

-- gemel/gemelref13.moment
def p88 (P : Program) (K : Value → World → Prop) (x0 : Value) : World → Prop :=
  opS P (S.binI .geq x0 (.int .i64 0)) fun x1 =>
  brn x1 (
    opS P (S.binI .leq x0 (.int .i64 1099511627776)) fun x2 =>
    K x2
  ) (
    K (.bool false)
  )
instance fnb88 : FnB Tryz.prog 88 := ⟨Tryz.call88⟩
theorem e88 : p88 Tryz.prog = fun K x0 => denF Tryz.prog Tryz.f88 [x0] K := by kernel_rfl
theorem c88 {K : Value → World → Prop} {x0 : Value} {w : World} (h : p88 Tryz.prog K x0 w) : CallsR Tryz.prog 88 #[x0] K w := by
  rw [e88] at h
  exact denF_sound mixed Tryz.func88 h

-- gemel/gemelref04.Knows
def p89 (P : Program) (K : Value → World → Prop) (x0 : Value) (x1 : Value) : World → Prop :=
  opS P (S.box 39 x0) fun x2 =>
  opS P (S.box 39 x1) fun x3 =>
  opS P (S.fa 39 x2 0) fun x4 =>
  opS P (S.ld 3 x4) fun x5 =>
  opS P (S.fa 39 x3 0) fun x6 =>
  opS P (S.ld 3 x6) fun x7 =>
  opS P (S.binI .neq x5 x7) fun x8 =>
  brn x8 (
    K (.bool false)
  ) (
    opS P (S.fa 39 x2 1) fun x9 =>
    opS P (S.ld 30 x9) fun x10 =>
    opS P (S.fa 39 x3 1) fun x11 =>
    opS P (S.ld 30 x11) fun x12 =>
    opS P (S.binG .neq 30 x10 x12) fun x13 =>
    brn x13 (
      K (.bool false)
    ) (
      opS P (S.fa 39 x2 2) fun x14 =>
      opS P (S.ld 3 x14) fun x15 =>
      opS P (S.fa 39 x3 2) fun x16 =>
      opS P (S.ld 3 x16) fun x17 =>
      opS P (S.binI .neq x15 x17) fun x18 =>
      brn x18 (
        K (.bool false)
      ) (
        opS P (S.fa 39 x2 3) fun x19 =>
        opS P (S.ld 3 x19) fun x20 =>
        opS P (S.fa 39 x3 3) fun x21 =>
        opS P (S.ld 3 x21) fun x22 =>
        opS P (S.binI .neq x20 x22) fun x23 =>
        brn x23 (
          K (.bool false)
        ) (
          opS P (S.fa 39 x2 4) fun x24 =>
          opS P (S.ld 3 x24) fun x25 =>
          opS P (S.fa 39 x3 4) fun x26 =>
          opS P (S.ld 3 x26) fun x27 =>
          opS P (S.binI .neq x25 x27) fun x28 =>
          brn x28 (
            K (.bool false)
          ) (
            opS P (S.fa 39 x2 5) fun x29 =>
            opS P (S.ld 3 x29) fun x30 =>
            opS P (S.binI .and x30 (.int .i64 4)) fun x31 =>
            opS P (S.fa 39 x3 5) fun x32 =>
            opS P (S.ld 3 x32) fun x33 =>
            opS P (S.binI .and x33 (.int .i64 4)) fun x34 =>
            opS P (S.binI .eql x31 x34) fun x35 =>
            brn x35 (
              opS P (S.fa 39 x2 5) fun x36 =>
              opS P (S.ld 3 x36) fun x37 =>
              opS P (S.binI .and x37 (.int .i64 8)) fun x38 =>
              opS P (S.binI .eql x38 (.int .i64 0)) fun x39 =>
              brn x39 (
                K (.bool true)
              ) (
                opS P (S.fa 39 x3 5) fun x40 =>
                opS P (S.ld 3 x40) fun x41 =>
                opS P (S.binI .and x41 (.int .i64 8)) fun x42 =>
                opS P (S.binI .neq x42 (.int .i64 0)) fun x43 =>
                K x43
              )
            ) (
              K (.bool false)
            )
          )
        )
      )
    )
  )
instance fnb89 : FnB Tryz.prog 89 := ⟨Tryz.call89⟩
theorem e89 : p89 Tryz.prog = fun K x0 x1 => denF Tryz.prog Tryz.f89 [x0, x1] K := by kernel_rfl
theorem c89 {K : Value → World → Prop} {x0 x1 : Value} {w : World} (h : p89 Tryz.prog K x0 x1 w) : CallsR Tryz.prog 89 #[x0, x1] K w := by
  rw [e89] at h
  exact denF_sound mixed Tryz.func89 h

-- (*gemel/gemelref13.End).old
def p98 (P : Program) (K : Value → World → Prop) (x0 : Value) (x1 : Value) : World → Prop :=
  opS P (S.nc x0) fun x2 =>
  opS P (S.fa 101 x2 2) fun x3 =>
  opS P (S.st 3 x3 (.int .i64 1)) fun x4 =>
  opS P (S.nc x0) fun x5 =>
  opS P (S.fa 101 x5 4) fun x6 =>
  opS P (S.st 3 x6 x1) fun x7 =>
  opS P (S.nc x0) fun x8 =>
  opS P (S.fa 101 x8 1) fun x9 =>
  opS P (S.fa 39 x9 5) fun x10 =>
  opS P (S.ld 3 x10) fun x11 =>
  opS P (S.binI .andNot x11 (.int .i64 8)) fun x12 =>
  opS P (S.binI .or x12 (.int .i64 2)) fun x13 =>
  opS P (S.nc x0) fun x14 =>
  opS P (S.fa 101 x14 1) fun x15 =>
  opS P (S.fa 39 x15 5) fun x16 =>
  opS P (S.st 3 x16 x13) fun x17 =>
  K (.tuple #[])
instance fnb98 : FnB Tryz.prog 98 := ⟨Tryz.call98⟩
theorem e98 : p98 Tryz.prog = fun K x0 x1 => denF Tryz.prog Tryz.f98 [x0, x1] K := by kernel_rfl
theorem c98 {K : Value → World → Prop} {x0 x1 : Value} {w : World} (h : p98 Tryz.prog K x0 x1 w) : CallsR Tryz.prog 98 #[x0, x1] K w := by
  rw [e98] at h
  exact denF_sound mixed Tryz.func98 h

end Go.Gx.S
-- 84 83 50 89 88 64 67 98 69 61 54 28
end

section
/- One end, in the document's words. -/
set_option linter.unusedVariables false
set_option linter.unusedSimpArgs false
set_option maxRecDepth 100000
namespace Go.Gx.S
open Go Go.Gx Go.Proofs
variable {K : Value → World → Prop} {w : World}

/-! ### Bits -/

theorem wrap_nat {n : Nat} (h : n < 2 ^ 64) : IntKind.i64.wrap (n : Int) = if n < 2 ^ 63 then (n : Int) else (n : Int) - 2 ^ 64 := by
  unfold IntKind.wrap
  have e1 : (2 : Int) ^ IntKind.i64.bits = 18446744073709551616 := rfl
  have e2 : (2 : Int) ^ (IntKind.i64.bits - 1) = 9223372036854775808 := rfl
  have e3 : IntKind.i64.signed = true := rfl
  have e4 : (2 : Nat) ^ 64 = 18446744073709551616 := rfl
  have e5 : (2 : Nat) ^ 63 = 9223372036854775808 := rfl
  have e6 : (2 : Int) ^ 64 = 18446744073709551616 := rfl
  simp only [e1, e2, e3, e4, e5, e6, Bool.true_and, decide_eq_true_eq] at *
  split <;> split <;> omega
theorem bv_inj {x y : BitVec 64} : IntKind.i64.wrap (x.toNat : Int) = IntKind.i64.wrap (y.toNat : Int) ↔ x = y := by
  constructor
  · intro h
    rw [wrap_nat x.isLt, wrap_nat y.isLt] at h
    have h1 := x.isLt
    have h2 := y.isLt
    apply BitVec.eq_of_toNat_eq
    split at h <;> split at h <;> omega
  · rintro rfl; rfl
theorem bv_back (x : BitVec 64) : BitVec.ofInt 64 (IntKind.i64.wrap (x.toNat : Int)) = x := by
  apply BitVec.eq_of_toNat_eq
  rw [BitVec.toNat_ofInt, wrap_nat x.isLt]
  have h1 := x.isLt
  split <;> omega
theorem bv_zero {x : BitVec 64} : IntKind.i64.wrap (x.toNat : Int) = 0 ↔ x = 0#64 := by
  have : IntKind.i64.wrap ((0#64 : BitVec 64).toNat : Int) = 0 := rfl
  rw [← this, bv_inj]
theorem many_iff (p a : Int) : bAnd (bXor p a) 4 = 0 ↔ bAnd p 4 = bAnd a 4 := by
  unfold bAnd bXor
  rw [bv_back, bv_zero, bv_inj]
  generalize BitVec.ofInt 64 p = x
  generalize BitVec.ofInt 64 a = y
  generalize BitVec.ofInt 64 4 = z
  constructor
  · intro h
    apply BitVec.eq_of_getLsbD_eq
    intro i hi
    have := congrArg (fun q => q.getLsbD i) h
    simp only [BitVec.getLsbD_and, BitVec.getLsbD_xor, BitVec.getLsbD_zero] at this ⊢
    revert this
    cases x.getLsbD i <;> cases y.getLsbD i <;> cases z.getLsbD i <;> simp
  · intro h
    apply BitVec.eq_of_getLsbD_eq
    intro i hi
    have := congrArg (fun q => q.getLsbD i) h
    simp only [BitVec.getLsbD_and, BitVec.getLsbD_xor, BitVec.getLsbD_zero] at this ⊢
    revert this
    cases x.getLsbD i <;> cases y.getLsbD i <;> cases z.getLsbD i <;> simp
theorem mask8 (x : BitVec 64) : x &&& BitVec.ofInt 64 8 = 0#64 ↔ x.getLsbD 3 = false := by
  rw [show BitVec.ofInt 64 8 = BitVec.twoPow 64 3 by decide, BitVec.and_twoPow]
  cases x.getLsbD 3
  · simp
  · simp; decide
theorem sync_iff (p a : Int) : bAnd (bClr p a) 8 = 0 ↔ bAnd p 8 = 0 ∨ bAnd a 8 ≠ 0 := by
  unfold bAnd bClr
  rw [bv_back, Ne, bv_zero, bv_zero, bv_zero]
  generalize BitVec.ofInt 64 p = x
  generalize BitVec.ofInt 64 a = y
  rw [mask8, mask8, mask8, BitVec.getLsbD_and, BitVec.getLsbD_not]
  cases x.getLsbD 3 <;> cases y.getLsbD 3 <;> simp

/-! ### Whether one may be -/

theorem rwithin_spec {n m : Int} (h : K (.bool (decide (wth m n))) w) : CallsR Tryz.prog 84 #[i64 n, i64 m] K w := by
  apply c84
  unfold p84
  simp only [push_cast, Nat.reduceAdd, Nat.reduceLeDiff, Nat.reduceLT, Int.reduceToNat, Nat.left_eq_add, Nat.add_eq_left, Nat.add_left_cancel_iff, Nat.reduceEqDiff, Nat.add_assoc, Nat.succ_ne_zero]
  refine br_dec (fun e => ?_) fun e => ?_
  · have : decide (wth m n) = decide (n ≤ m) := by rw [decide_eq_decide]; exact ⟨fun h => h.2, fun h => ⟨e, h⟩⟩
    rw [this] at h; exact h
  · have : decide (wth m n) = false := decide_eq_false fun hh => e hh.1
    rw [this] at h; exact h

theorem rinfo_spec {x : Inf} (h : ∀ w', Fr none_ w w' → K (.bool (decide x.right)) w') : CallsR Tryz.prog 83 #[.agg x.cells.toArray] K w := by
  apply c83
  unfold p83
  have hF : Fr none_ w (w.alloc (cellsO x.cells 39)) := (by repeat' first | with_reducible exact Fr.refl _ _ | with_reducible refine Fr.step_alloc ?_ ?_ | with_reducible refine Fr.step_drew ?_ | with_reducible refine Fr.step_wr ?_ ?_ _ _ | exact rfl | exact Or.inr (by omega) | exact Or.inl rfl | exact Or.inl (Or.inl rfl) | exact Or.inl (Or.inr rfl))
  have h0 : (w.alloc (cellsO x.cells 39)).heap[w.heap.size]? = some (cellsO x.cells 39) := by simp only [push_cast, Nat.reduceAdd, Nat.reduceLeDiff, Nat.reduceLT, Int.reduceToNat, Nat.left_eq_add, Nat.add_eq_left, Nat.add_left_cancel_iff, Nat.reduceEqDiff, Nat.add_assoc, Nat.succ_ne_zero]
  have h := h _ hF
  simp only [opS_box, cells_agg, alloc_cellsO]
  generalize w.alloc (cellsO x.cells 39) = W at *
  have hno : ¬ x.right → K (.bool false) W := fun hn => by rw [decide_eq_false hn] at h; exact h
  simp only [push_cast, Nat.reduceAdd, Nat.reduceLeDiff, Nat.reduceLT, Int.reduceToNat, Nat.left_eq_add, Nat.add_eq_left, Nat.add_left_cancel_iff, Nat.reduceEqDiff, Nat.add_assoc, Nat.succ_ne_zero, h0]
  refine rwithin_spec ?_
  simp only [push_cast, Nat.reduceAdd, Nat.reduceLeDiff, Nat.reduceLT, Int.reduceToNat, Nat.left_eq_add, Nat.add_eq_left, Nat.add_left_cancel_iff, Nat.reduceEqDiff, Nat.add_assoc, Nat.succ_ne_zero]
  refine br_dec (fun e0 => ?_) fun e => hno fun hr => e hr.1
  simp only [push_cast, Nat.reduceAdd, Nat.reduceLeDiff, Nat.reduceLT, Int.reduceToNat, Nat.left_eq_add, Nat.add_eq_left, Nat.add_left_cancel_iff, Nat.reduceEqDiff, Nat.add_assoc, Nat.succ_ne_zero, h0]
  refine rwithin_spec ?_
  simp only [push_cast, Nat.reduceAdd, Nat.reduceLeDiff, Nat.reduceLT, Int.reduceToNat, Nat.left_eq_add, Nat.add_eq_left, Nat.add_left_cancel_iff, Nat.reduceEqDiff, Nat.add_assoc, Nat.succ_ne_zero]
  refine br_dec (fun e1 => ?_) fun e => hno fun hr => e hr.2.1
  simp only [push_cast, Nat.reduceAdd, Nat.reduceLeDiff, Nat.reduceLT, Int.reduceToNat, Nat.left_eq_add, Nat.add_eq_left, Nat.add_left_cancel_iff, Nat.reduceEqDiff, Nat.add_assoc, Nat.succ_ne_zero, h0]
  refine rwithin_spec ?_
  simp only [push_cast, Nat.reduceAdd, Nat.reduceLeDiff, Nat.reduceLT, Int.reduceToNat, Nat.left_eq_add, Nat.add_eq_left, Nat.add_left_cancel_iff, Nat.reduceEqDiff, Nat.add_assoc, Nat.succ_ne_zero]
  refine br_dec (fun e2 => ?_) fun e => hno fun hr => e hr.2.2.1
  simp only [push_cast, Nat.reduceAdd, Nat.reduceLeDiff, Nat.reduceLT, Int.reduceToNat, Nat.left_eq_add, Nat.add_eq_left, Nat.add_left_cancel_iff, Nat.reduceEqDiff, Nat.add_assoc, Nat.succ_ne_zero, h0]
  refine rwithin_spec ?_
  simp only [push_cast, Nat.reduceAdd, Nat.reduceLeDiff, Nat.reduceLT, Int.reduceToNat, Nat.left_eq_add, Nat.add_eq_left, Nat.add_left_cancel_iff, Nat.reduceEqDiff, Nat.add_assoc, Nat.succ_ne_zero]
  refine br_dec (fun e3 => ?_) fun e => hno fun hr => e hr.2.2.2.1
  simp only [push_cast, Nat.reduceAdd, Nat.reduceLeDiff, Nat.reduceLT, Int.reduceToNat, Nat.left_eq_add, Nat.add_eq_left, Nat.add_left_cancel_iff, Nat.reduceEqDiff, Nat.add_assoc, Nat.succ_ne_zero, h0]
  refine rwithin_spec ?_
  have e2 : decide (wth 255 x.state) = decide x.right := by rw [decide_eq_decide]; exact ⟨fun h => ⟨e0, e1, e2, e3, h⟩, fun h => h.2.2.2.2⟩
  rw [e2]
  exact h

theorem rright_spec {x : Lcp} (h : ∀ w', Fr none_ w w' → K (.bool (decide x.right)) w') : CallsR Tryz.prog 50 #[.agg x.cells.toArray] K w := by
  apply c50
  unfold p50
  have hF : Fr none_ w (w.alloc (cellsO x.cells 41)) := (by repeat' first | with_reducible exact Fr.refl _ _ | with_reducible refine Fr.step_alloc ?_ ?_ | with_reducible refine Fr.step_drew ?_ | with_reducible refine Fr.step_wr ?_ ?_ _ _ | exact rfl | exact Or.inr (by omega) | exact Or.inl rfl | exact Or.inl (Or.inl rfl) | exact Or.inl (Or.inr rfl))
  have h0 : (w.alloc (cellsO x.cells 41)).heap[w.heap.size]? = some (cellsO x.cells 41) := by simp only [push_cast, Nat.reduceAdd, Nat.reduceLeDiff, Nat.reduceLT, Int.reduceToNat, Nat.left_eq_add, Nat.add_eq_left, Nat.add_left_cancel_iff, Nat.reduceEqDiff, Nat.add_assoc, Nat.succ_ne_zero]
  simp only [opS_box, cells_agg, alloc_cellsO]
  generalize w.alloc (cellsO x.cells 41) = W at *
  have hno : ∀ w', Fr none_ W w' → ¬ x.right → K (.bool false) w' := fun w' hF' hn => by
    have := h _ (hF.trans hF')
    rw [decide_eq_false hn] at this
    exact this
  simp only [push_cast, Nat.reduceAdd, Nat.reduceLeDiff, Nat.reduceLT, Int.reduceToNat, Nat.left_eq_add, Nat.add_eq_left, Nat.add_left_cancel_iff, Nat.reduceEqDiff, Nat.add_assoc, Nat.succ_ne_zero, h0]
  refine rinfo_spec fun w2 hF2 => ?_
  have h2 := hF2.heap h0 fun h => h
  simp only [push_cast, Nat.reduceAdd, Nat.reduceLeDiff, Nat.reduceLT, Int.reduceToNat, Nat.left_eq_add, Nat.add_eq_left, Nat.add_left_cancel_iff, Nat.reduceEqDiff, Nat.add_assoc, Nat.succ_ne_zero]
  refine br_dec (fun e => ?_) fun e => hno _ hF2 fun hr => e hr.1
  simp only [push_cast, Nat.reduceAdd, Nat.reduceLeDiff, Nat.reduceLT, Int.reduceToNat, Nat.left_eq_add, Nat.add_eq_left, Nat.add_left_cancel_iff, Nat.reduceEqDiff, Nat.add_assoc, Nat.succ_ne_zero, h2]
  refine rinfo_spec fun w3 hF3 => ?_
  have h3 := hF3.heap h2 fun h => h
  simp only [push_cast, Nat.reduceAdd, Nat.reduceLeDiff, Nat.reduceLT, Int.reduceToNat, Nat.left_eq_add, Nat.add_eq_left, Nat.add_left_cancel_iff, Nat.reduceEqDiff, Nat.add_assoc, Nat.succ_ne_zero]
  refine br_dec (fun e2 => ?_) fun e2 => hno _ (hF2.trans hF3) fun hr => e2 hr.2.1
  simp only [push_cast, Nat.reduceAdd, Nat.reduceLeDiff, Nat.reduceLT, Int.reduceToNat, Nat.left_eq_add, Nat.add_eq_left, Nat.add_left_cancel_iff, Nat.reduceEqDiff, Nat.add_assoc, Nat.succ_ne_zero, h3]
  refine rwithin_spec ?_
  have e3 : decide (wth 65535 x.delay) = decide x.right := by rw [decide_eq_decide]; exact ⟨fun h => ⟨e, e2, h⟩, fun h => h.2.2⟩
  rw [e3]
  exact h _ ((hF.trans hF2).trans hF3)

/-! ### What one knows of the other one -/

theorem knowsP_eq (p a : Inf) : knowsP p a = decide (p.prio = a.prio ∧ p.sys = a.sys ∧ p.key = a.key ∧ p.pprio = a.pprio ∧ p.port = a.port ∧ bAnd p.state 4 = bAnd a.state 4 ∧ (bAnd p.state 8 = 0 ∨ bAnd a.state 8 ≠ 0)) := by
  unfold knowsP
  rw [Bool.eq_iff_iff, Bool.and_eq_true, Bool.and_eq_true, decide_eq_true_iff, decide_eq_true_iff, decide_eq_true_iff, decide_eq_true_iff, many_iff, sync_iff]
  constructor
  · rintro ⟨⟨h1, h2⟩, h3⟩
    have := Inf.mk.inj h1
    exact ⟨this.1, this.2.1, this.2.2.1, this.2.2.2.1, this.2.2.2.2.1, h2, h3⟩
  · rintro ⟨h1, h2, h3, h4, h5, h6, h7⟩
    refine ⟨⟨?_, h6⟩, h7⟩
    rw [h1, h2, h3, h4, h5]

theorem rknows_spec {p a : Inf} (hps : p.sys.ok) (has : a.sys.ok) (h : ∀ w', Fr none_ w w' → K (.bool (knowsP p a)) w') : CallsR Tryz.prog 89 #[.agg p.cells.toArray, .agg a.cells.toArray] K w := by
  apply c89
  unfold p89
  have hF : Fr none_ w ((w.alloc (cellsO p.cells 39)).alloc (cellsO a.cells 39)) := (by repeat' first | with_reducible exact Fr.refl _ _ | with_reducible refine Fr.step_alloc ?_ ?_ | with_reducible refine Fr.step_drew ?_ | with_reducible refine Fr.step_wr ?_ ?_ _ _ | exact rfl | exact Or.inr (by omega) | exact Or.inl rfl | exact Or.inl (Or.inl rfl) | exact Or.inl (Or.inr rfl))
  have h0 : ((w.alloc (cellsO p.cells 39)).alloc (cellsO a.cells 39)).heap[w.heap.size]? = some (cellsO p.cells 39) := by simp only [push_cast, Nat.reduceAdd, Nat.reduceLeDiff, Nat.reduceLT, Int.reduceToNat, Nat.left_eq_add, Nat.add_eq_left, Nat.add_left_cancel_iff, Nat.reduceEqDiff, Nat.add_assoc, Nat.succ_ne_zero]
  have h1 : ((w.alloc (cellsO p.cells 39)).alloc (cellsO a.cells 39)).heap[w.heap.size + 1]? = some (cellsO a.cells 39) := by simp only [push_cast, Nat.reduceAdd, Nat.reduceLeDiff, Nat.reduceLT, Int.reduceToNat, Nat.left_eq_add, Nat.add_eq_left, Nat.add_left_cancel_iff, Nat.reduceEqDiff, Nat.add_assoc, Nat.succ_ne_zero]
  have h := h _ hF
  simp only [opS_box, cells_agg, alloc_cellsO, size_alloc]
  generalize ((w.alloc (cellsO p.cells 39)).alloc (cellsO a.cells 39)) = W at *
  generalize w.heap.size = xb at *
  have hno : knowsP p a = false → K (.bool false) W := fun e => by rw [e] at h; exact h
  have hyes : knowsP p a = true → K (.bool true) W := fun e => by rw [e] at h; exact h
  rw [knowsP_eq] at hno hyes
  simp only [push_cast, Nat.reduceAdd, Nat.reduceLeDiff, Nat.reduceLT, Int.reduceToNat, Nat.left_eq_add, Nat.add_eq_left, Nat.add_left_cancel_iff, Nat.reduceEqDiff, Nat.add_assoc, Nat.succ_ne_zero, h0, h1]
  refine br_intro (fun e => hno (decide_eq_false fun hh => ?_)) fun e1 => ?_
  · simp [hh.1] at e
  have e1 : p.prio = a.prio := by simpa using e1
  refine s_neMac hps has ?_
  simp only [push_cast, Nat.reduceAdd, Nat.reduceLeDiff, Nat.reduceLT, Int.reduceToNat, Nat.left_eq_add, Nat.add_eq_left, Nat.add_left_cancel_iff, Nat.reduceEqDiff, Nat.add_assoc, Nat.succ_ne_zero, h0, h1]
  refine br_intro (fun e => hno (decide_eq_false fun hh => ?_)) fun e2 => ?_
  · simp [hh.2.1] at e
  have e2 : p.sys = a.sys := by simpa using e2
  refine br_intro (fun e => hno (decide_eq_false fun hh => ?_)) fun e3 => ?_
  · simp [hh.2.2.1] at e
  have e3 : p.key = a.key := by simpa using e3
  refine br_intro (fun e => hno (decide_eq_false fun hh => ?_)) fun e4 => ?_
  · simp [hh.2.2.2.1] at e
  have e4 : p.pprio = a.pprio := by simpa using e4
  refine br_intro (fun e => hno (decide_eq_false fun hh => ?_)) fun e5 => ?_
  · simp [hh.2.2.2.2.1] at e
  have e5 : p.port = a.port := by simpa using e5
  refine br_intro (fun e6 => ?_) fun e => hno (decide_eq_false fun hh => ?_)
  · have e6 : bAnd p.state 4 = bAnd a.state 4 := by simpa using e6
    refine br_intro (fun e7 => ?_) fun e7 => ?_
    · exact hyes (decide_eq_true ⟨e1, e2, e3, e4, e5, e6, .inl (by simpa using e7)⟩)
    · have e7 : bAnd p.state 8 ≠ 0 := by simpa using e7
      by_cases e8 : bAnd a.state 8 = 0
      · have : (bAnd a.state 8 != 0) = false := by simp [e8]
        rw [this]
        exact hno (decide_eq_false fun hh => hh.2.2.2.2.2.2.elim e7 fun h => h e8)
      · have : (bAnd a.state 8 != 0) = true := by simp [e8]
        rw [this]
        exact hyes (decide_eq_true ⟨e1, e2, e3, e4, e5, e6, .inr e8⟩)
  · simp [hh.2.2.2.2.2.1] at e

/-! ### An end -/

def REd (w : World) (b : Nat) (x : Edp) : Prop := w.heap[b]? = some (cellsO x.cells 101)

theorem rmoment_spec {n : Int} (h : K (.bool (decide (momOk n))) w) : CallsR Tryz.prog 88 #[i64 n] K w := by
  apply c88
  unfold p88
  simp only [push_cast, Nat.reduceAdd, Nat.reduceLeDiff, Nat.reduceLT, Int.reduceToNat, Nat.left_eq_add, Nat.add_eq_left, Nat.add_left_cancel_iff, Nat.reduceEqDiff, Nat.add_assoc, Nat.succ_ne_zero]
  refine br_dec (fun e => ?_) fun e => ?_
  · have : decide (momOk n) = decide (n ≤ 1099511627776) := by
      rw [decide_eq_decide]; exact ⟨fun h => h.2, fun h => ⟨e, h⟩⟩
    rw [this] at h
    exact h
  · have : decide (momOk n) = false := decide_eq_false fun hh => e hh.1
    rw [this] at h
    exact h

theorem rold_spec {b : Nat} {x : Edp} {now : Int} (h : REd w b x)
    (hk : ∀ w', REd w' b (x.expire now) → Fr (fun y => y = b) w w' → K (.tuple #[]) w') : CallsR Tryz.prog 98 #[pt b 0, i64 now] K w := by
  apply c98
  unfold p98
  unfold REd at h hk
  simp only [push_cast, Nat.reduceAdd, Nat.reduceLeDiff, Nat.reduceLT, Int.reduceToNat, Nat.left_eq_add, Nat.add_eq_left, Nat.add_left_cancel_iff, Nat.reduceEqDiff, Nat.add_assoc, Nat.succ_ne_zero, h]
  exact hk _ (by simp only [push_cast, Nat.reduceAdd, Nat.reduceLeDiff, Nat.reduceLT, Int.reduceToNat, Nat.left_eq_add, Nat.add_eq_left, Nat.add_left_cancel_iff, Nat.reduceEqDiff, Nat.add_assoc, Nat.succ_ne_zero, h]; rfl) (by repeat' first | with_reducible exact Fr.refl _ _ | with_reducible refine Fr.step_alloc ?_ ?_ | with_reducible refine Fr.step_drew ?_ | with_reducible refine Fr.step_wr ?_ ?_ _ _ | exact rfl | exact Or.inr (by omega) | exact Or.inl rfl | exact Or.inl (Or.inl rfl) | exact Or.inl (Or.inr rfl))

theorem renable_spec {b : Nat} {x : Edp} {is : Bool} {now : Int} (h : REd w b x)
    (hk : ∀ w', REd w' b (x.enableP is now) → Fr (fun y => y = b) w w' → K (i64 (momE now)) w') : CallsR Tryz.prog 69 #[pt b 0, .bool is, i64 now] K w := by
  apply c69
  unfold p69
  simp only [push_cast, Nat.reduceAdd, Nat.reduceLeDiff, Nat.reduceLT, Int.reduceToNat, Nat.left_eq_add, Nat.add_eq_left, Nat.add_left_cancel_iff, Nat.reduceEqDiff, Nat.add_assoc, Nat.succ_ne_zero]
  refine rmoment_spec ?_
  unfold Edp.enableP momE at hk
  by_cases hm : momOk now
  · rw [if_pos hm] at hk
    simp only [if_pos hm] at hk
    rw [decide_eq_true hm]
    simp only [push_cast, Nat.reduceAdd, Nat.reduceLeDiff, Nat.reduceLT, Int.reduceToNat, Nat.left_eq_add, Nat.add_eq_left, Nat.add_left_cancel_iff, Nat.reduceEqDiff, Nat.add_assoc, Nat.succ_ne_zero]
    cases is with
    | false =>
      simp only [push_cast, Nat.reduceAdd, Nat.reduceLeDiff, Nat.reduceLT, Int.reduceToNat, Nat.left_eq_add, Nat.add_eq_left, Nat.add_left_cancel_iff, Nat.reduceEqDiff, Nat.add_assoc, Nat.succ_ne_zero]
      rw [if_pos rfl] at hk
      unfold REd at h hk
      simp only [push_cast, Nat.reduceAdd, Nat.reduceLeDiff, Nat.reduceLT, Int.reduceToNat, Nat.left_eq_add, Nat.add_eq_left, Nat.add_left_cancel_iff, Nat.reduceEqDiff, Nat.add_assoc, Nat.succ_ne_zero, h]
      exact hk _ (by simp only [push_cast, Nat.reduceAdd, Nat.reduceLeDiff, Nat.reduceLT, Int.reduceToNat, Nat.left_eq_add, Nat.add_eq_left, Nat.add_left_cancel_iff, Nat.reduceEqDiff, Nat.add_assoc, Nat.succ_ne_zero, h]; rfl) (by repeat' first | with_reducible exact Fr.refl _ _ | with_reducible refine Fr.step_alloc ?_ ?_ | with_reducible refine Fr.step_drew ?_ | with_reducible refine Fr.step_wr ?_ ?_ _ _ | exact rfl | exact Or.inr (by omega) | exact Or.inl rfl | exact Or.inl (Or.inl rfl) | exact Or.inl (Or.inr rfl))
    | true =>
      simp only [push_cast, Nat.reduceAdd, Nat.reduceLeDiff, Nat.reduceLT, Int.reduceToNat, Nat.left_eq_add, Nat.add_eq_left, Nat.add_left_cancel_iff, Nat.reduceEqDiff, Nat.add_assoc, Nat.succ_ne_zero]
      rw [if_neg (by decide)] at hk
      have h' : w.heap[b]? = some (cellsO x.cells 101) := h
      simp only [push_cast, Nat.reduceAdd, Nat.reduceLeDiff, Nat.reduceLT, Int.reduceToNat, Nat.left_eq_add, Nat.add_eq_left, Nat.add_left_cancel_iff, Nat.reduceEqDiff, Nat.add_assoc, Nat.succ_ne_zero, h']
      refine br_dec (fun e => ?_) fun e => ?_
      · rw [if_pos e] at hk
        refine rold_spec h fun w2 h2 hF2 => ?_
        exact hk _ h2 hF2
      · rw [if_neg e] at hk
        exact hk _ h (Fr.refl _ _)
  · rw [if_neg hm] at hk
    simp only [if_neg hm] at hk
    rw [decide_eq_false hm]
    simp only [push_cast, Nat.reduceAdd, Nat.reduceLeDiff, Nat.reduceLT, Int.reduceToNat, Nat.left_eq_add, Nat.add_eq_left, Nat.add_left_cancel_iff, Nat.reduceEqDiff, Nat.add_assoc, Nat.succ_ne_zero]
    exact hk _ h (Fr.refl _ _)

theorem ractor_spec {b : Nat} {x : Edp} (h : REd w b x) (hk : ∀ w', Fr none_ w w' → K (.agg x.actor.cells.toArray) w') : CallsR Tryz.prog 67 #[pt b 0] K w := by
  apply c67
  unfold p67
  have h : w.heap[b]? = some (cellsO x.cells 101) := h
  have hb := lt_of_heap h
  have hb1 : b ≠ w.heap.size := by omega
  have hb2 : b ≠ w.heap.size + 1 := by omega
  have hne : w.heap.size ≠ w.heap.size + 1 := by omega
  unfold Edp.actor Edp.actorS at hk
  by_cases e2 : x.state = 2
  · have e1 : (x.state == 1) = false := by rw [e2]; rfl
    have e2' : (x.state == 2) = true := by rw [e2]; rfl
    rw [if_pos e2] at hk
    simp only [push_cast, Nat.reduceAdd, Nat.reduceLeDiff, Nat.reduceLT, Int.reduceToNat, Nat.left_eq_add, Nat.add_eq_left, Nat.add_left_cancel_iff, Nat.reduceEqDiff, Nat.add_assoc, Nat.succ_ne_zero, h, hb1, hb2, hne, e1, e2', jn_0]
    exact hk _ (by repeat' first | with_reducible exact Fr.refl _ _ | with_reducible refine Fr.step_alloc ?_ ?_ | with_reducible refine Fr.step_drew ?_ | with_reducible refine Fr.step_wr ?_ ?_ _ _ | exact rfl | exact Or.inr (by omega) | exact Or.inl rfl | exact Or.inl (Or.inl rfl) | exact Or.inl (Or.inr rfl))
  · have e2' : (x.state == 2) = false := by simpa using e2
    rw [if_neg e2] at hk
    simp only [push_cast, Nat.reduceAdd, Nat.reduceLeDiff, Nat.reduceLT, Int.reduceToNat, Nat.left_eq_add, Nat.add_eq_left, Nat.add_left_cancel_iff, Nat.reduceEqDiff, Nat.add_assoc, Nat.succ_ne_zero, h, hb1, hb2, hne, e2', jn_0]
    refine br_dec (fun e => ?_) fun e => ?_
    · rw [if_pos e] at hk
      exact hk _ (by repeat' first | with_reducible exact Fr.refl _ _ | with_reducible refine Fr.step_alloc ?_ ?_ | with_reducible refine Fr.step_drew ?_ | with_reducible refine Fr.step_wr ?_ ?_ _ _ | exact rfl | exact Or.inr (by omega) | exact Or.inl rfl | exact Or.inl (Or.inl rfl) | exact Or.inl (Or.inr rfl))
    · rw [if_neg e] at hk
      exact hk _ (by repeat' first | with_reducible exact Fr.refl _ _ | with_reducible refine Fr.step_alloc ?_ ?_ | with_reducible refine Fr.step_drew ?_ | with_reducible refine Fr.step_wr ?_ ?_ _ _ | exact rfl | exact Or.inr (by omega) | exact Or.inl rfl | exact Or.inl (Or.inl rfl) | exact Or.inl (Or.inr rfl))

theorem remux_spec {b : Nat} {x : Edp} {m : Int} (h : REd w b x) (hm : m = 0 ∨ m = 8 ∨ m = 24 ∨ m = 56) (hk : ∀ w', REd w' b (x.muxP m) → Fr (fun y => y = b) w w' → K (i64 0) w') : CallsR Tryz.prog 64 #[pt b 0, i64 m] K w := by
  apply c64
  unfold p64
  have h : w.heap[b]? = some (cellsO x.cells 101) := h
  obtain ⟨m1, m2⟩ := mux_clr hm
  simp only [push_cast, Nat.reduceAdd, Nat.reduceLeDiff, Nat.reduceLT, Int.reduceToNat, Nat.left_eq_add, Nat.add_eq_left, Nat.add_left_cancel_iff, Nat.reduceEqDiff, Nat.add_assoc, Nat.succ_ne_zero]
  refine br_no m1 ?_
  simp only [push_cast, Nat.reduceAdd, Nat.reduceLeDiff, Nat.reduceLT, Int.reduceToNat, Nat.left_eq_add, Nat.add_eq_left, Nat.add_left_cancel_iff, Nat.reduceEqDiff, Nat.add_assoc, Nat.succ_ne_zero, m2, bne_self_eq_false, br_false, h]
  unfold REd at hk
  exact hk _ (by simp only [push_cast, Nat.reduceAdd, Nat.reduceLeDiff, Nat.reduceLT, Int.reduceToNat, Nat.left_eq_add, Nat.add_eq_left, Nat.add_left_cancel_iff, Nat.reduceEqDiff, Nat.add_assoc, Nat.succ_ne_zero, h]; rfl) (by repeat' first | with_reducible exact Fr.refl _ _ | with_reducible refine Fr.step_alloc ?_ ?_ | with_reducible refine Fr.step_drew ?_ | with_reducible refine Fr.step_wr ?_ ?_ _ _ | exact rfl | exact Or.inr (by omega) | exact Or.inl rfl | exact Or.inl (Or.inl rfl) | exact Or.inl (Or.inr rfl))

theorem retick_spec {b : Nat} {x : Edp} {now : Int} (h : REd w b x) (hx : x.wf)
    (hk : ∀ w', REd w' b (x.tickP now) → Fr (fun y => y = b) w w' → K (i64 (momE now)) w') : CallsR Tryz.prog 61 #[pt b 0, i64 now] K w := by
  apply c61
  unfold p61
  simp only [push_cast, Nat.reduceAdd, Nat.reduceLeDiff, Nat.reduceLT, Int.reduceToNat, Nat.left_eq_add, Nat.add_eq_left, Nat.add_left_cancel_iff, Nat.reduceEqDiff, Nat.add_assoc, Nat.succ_ne_zero]
  refine rmoment_spec ?_
  unfold Edp.tickP momE at hk
  by_cases hm : momOk now
  · rw [if_pos hm] at hk
    simp only [if_pos hm] at hk
    rw [decide_eq_true hm]
    simp only [push_cast, Nat.reduceAdd, Nat.reduceLeDiff, Nat.reduceLT, Int.reduceToNat, Nat.left_eq_add, Nat.add_eq_left, Nat.add_left_cancel_iff, Nat.reduceEqDiff, Nat.add_assoc, Nat.succ_ne_zero]
    have hwr : IntKind.i64.wrap (now - x.from_) = now - x.from_ := by
      have := hx.from_
      unfold momOk at hm this
      exact wrap_i64 (by omega)
    have h' : w.heap[b]? = some (cellsO x.cells 101) := h
    refine jn1 (fun v W => v = i64 x.wait ∧ W = w) ?_ fun j hj => ?_
    · rintro v W ⟨rfl, rfl⟩
      simp only [push_cast, Nat.reduceAdd, Nat.reduceLeDiff, Nat.reduceLT, Int.reduceToNat, Nat.left_eq_add, Nat.add_eq_left, Nat.add_left_cancel_iff, Nat.reduceEqDiff, Nat.add_assoc, Nat.succ_ne_zero, h', hwr]
      refine br_dec (fun e => ?_) fun e => ?_
      · rw [if_pos e] at hk
        exact hk _ h (Fr.refl _ _)
      · rw [if_neg e] at hk
        refine br_dec (fun e => ?_) fun e => ?_
        · rw [if_pos e] at hk
          refine rold_spec h fun w2 h2 hF2 => hk _ h2 hF2
        · rw [if_neg e] at hk
          refine br_dec (fun e2 => ?_) fun e2 => ?_
          · rw [if_pos e2] at hk
            unfold REd at hk
            exact hk _ (by simp only [push_cast, Nat.reduceAdd, Nat.reduceLeDiff, Nat.reduceLT, Int.reduceToNat, Nat.left_eq_add, Nat.add_eq_left, Nat.add_left_cancel_iff, Nat.reduceEqDiff, Nat.add_assoc, Nat.succ_ne_zero, h']) (by repeat' first | with_reducible exact Fr.refl _ _ | with_reducible refine Fr.step_alloc ?_ ?_ | with_reducible refine Fr.step_drew ?_ | with_reducible refine Fr.step_wr ?_ ?_ _ _ | exact rfl | exact Or.inr (by omega) | exact Or.inl rfl | exact Or.inl (Or.inl rfl) | exact Or.inl (Or.inr rfl))
          · rw [if_neg e2] at hk
            exact hk _ h (Fr.refl _ _)
    · unfold Edp.wait at hj
      refine jn0 (fun W => W = w ∧ (x.state = 1 ∨ bAnd x.own.state 2 ≠ 0)) (fun W ⟨e, e2⟩ => by rw [if_pos e2] at hj; exact hj _ _ ⟨rfl, e⟩) fun j1 hj1 => ?_
      simp only [push_cast, Nat.reduceAdd, Nat.reduceLeDiff, Nat.reduceLT, Int.reduceToNat, Nat.left_eq_add, Nat.add_eq_left, Nat.add_left_cancel_iff, Nat.reduceEqDiff, Nat.add_assoc, Nat.succ_ne_zero, h']
      refine br_dec (fun e => hj1 _ ⟨rfl, .inl e⟩) fun e => ?_
      refine br_intro (fun e2 => hj1 _ ⟨rfl, .inr (by simpa using e2)⟩) fun e2 => ?_
      rw [if_neg (fun hh => hh.elim e (by simpa using e2))] at hj
      exact hj _ _ ⟨rfl, rfl⟩
  · rw [if_neg hm] at hk
    simp only [if_neg hm] at hk
    rw [decide_eq_false hm]
    simp only [push_cast, Nat.reduceAdd, Nat.reduceLeDiff, Nat.reduceLT, Int.reduceToNat, Nat.left_eq_add, Nat.add_eq_left, Nat.add_left_cancel_iff, Nat.reduceEqDiff, Nat.add_assoc, Nat.succ_ne_zero]
    exact hk _ h (Fr.refl _ _)

theorem bare_iff (p a : Inf) : decide (bareP p = bareP a) = decide (p.prio = a.prio ∧ p.sys = a.sys ∧ p.key = a.key ∧ p.pprio = a.pprio ∧ p.port = a.port ∧ bAnd p.state 15 = bAnd a.state 15) := by
  rw [decide_eq_decide]
  constructor
  · intro h
    have := Inf.mk.inj h
    exact ⟨this.1, this.2.1, this.2.2.1, this.2.2.2.1, this.2.2.2.2.1, this.2.2.2.2.2⟩
  · rintro ⟨h1, h2, h3, h4, h5, h6⟩
    unfold bareP Inf.setS
    rw [h1, h2, h3, h4, h5, h6]

end Go.Gx.S
end

section
/- One end hears, in the document's words; a new one; what a link has come to. -/
set_option linter.unusedVariables false
set_option linter.unusedSimpArgs false
set_option maxRecDepth 100000
namespace Go.Gx.S
open Go Go.Gx Go.Proofs
variable {K : Value → World → Prop} {w : World}

theorem retake_spec {b : Nat} {x : Edp} {l : Lcp} {now : Int} (h : REd w b x) (hx : x.wf) (hl : l.ok)
    (hk : ∀ w', REd w' b (x.takeP l now) → Fr (fun y => y = b) w w' → K (.tuple #[.bool (x.takeT l now), i64 (x.takeE l now)]) w') : CallsR Tryz.prog 54 #[pt b 0, .agg l.cells.toArray, i64 now] K w := by
  apply c54
  unfold p54
  have hbl := lt_of_heap (show w.heap[b]? = some (cellsO x.cells 101) from h)
  have hF1 : Fr none_ w (w.alloc (cellsO l.cells 41)) := (by repeat' first | with_reducible exact Fr.refl _ _ | with_reducible refine Fr.step_alloc ?_ ?_ | with_reducible refine Fr.step_drew ?_ | with_reducible refine Fr.step_wr ?_ ?_ _ _ | exact rfl | exact Or.inr (by omega) | exact Or.inl rfl | exact Or.inl (Or.inl rfl) | exact Or.inl (Or.inr rfl))
  have q1 : (w.alloc (cellsO l.cells 41)).heap[w.heap.size]? = some (cellsO l.cells 41) := by simp only [push_cast, Nat.reduceAdd, Nat.reduceLeDiff, Nat.reduceLT, Int.reduceToNat, Nat.left_eq_add, Nat.add_eq_left, Nat.add_left_cancel_iff, Nat.reduceEqDiff, Nat.add_assoc, Nat.succ_ne_zero]
  simp only [opS_box, cells_agg, alloc_cellsO]
  have hE1 : REd (w.alloc (cellsO l.cells 41)) b x := hF1.heap h fun h => h
  have hbp : b ≠ w.heap.size := by omega
  generalize w.alloc (cellsO l.cells 41) = W1 at *
  generalize hpe : w.heap.size = p1 at *
  simp only [push_cast, Nat.reduceAdd, Nat.reduceLeDiff, Nat.reduceLT, Int.reduceToNat, Nat.left_eq_add, Nat.add_eq_left, Nat.add_left_cancel_iff, Nat.reduceEqDiff, Nat.add_assoc, Nat.succ_ne_zero]
  obtain ⟨hme, hmes⟩ := hx.actor
  have hno : ∀ (e : Int) (W : World), x.takeE l now = e → e ≠ 0 → Fr none_ W1 W → K (.tuple #[.bool false, i64 e]) W := fun e W he h0 hF => by
    have e1 : x.takeP l now = x := by unfold Edp.takeP; rw [if_neg (by rw [he]; exact h0)]
    have e2 : x.takeT l now = false := by unfold Edp.takeT; rw [decide_eq_false (by rw [he]; exact h0), Bool.false_and]
    rw [e1, e2, he] at hk
    exact hk _ (hF.heap hE1 fun h => h) (frN (hF1.trans hF))
  refine rmoment_spec ?_
  by_cases hm : momOk now
  case neg =>
    rw [decide_eq_false hm]
    simp only [push_cast, Nat.reduceAdd, Nat.reduceLeDiff, Nat.reduceLT, Int.reduceToNat, Nat.left_eq_add, Nat.add_eq_left, Nat.add_left_cancel_iff, Nat.reduceEqDiff, Nat.add_assoc, Nat.succ_ne_zero]
    exact hno 1 _ (by unfold Edp.takeE; rw [if_neg hm]) (by decide) (Fr.refl _ _)
  rw [decide_eq_true hm]
  have q0 : W1.heap[b]? = some (cellsO x.cells 101) := hE1
  simp only [push_cast, Nat.reduceAdd, Nat.reduceLeDiff, Nat.reduceLT, Int.reduceToNat, Nat.left_eq_add, Nat.add_eq_left, Nat.add_left_cancel_iff, Nat.reduceEqDiff, Nat.add_assoc, Nat.succ_ne_zero, q0]
  refine br_dec (fun e1 => hno 7 _ (by unfold Edp.takeE; rw [if_pos hm, if_pos e1]) (by decide) (Fr.refl _ _)) fun e1 => ?_
  simp only [push_cast, Nat.reduceAdd, Nat.reduceLeDiff, Nat.reduceLT, Int.reduceToNat, Nat.left_eq_add, Nat.add_eq_left, Nat.add_left_cancel_iff, Nat.reduceEqDiff, Nat.add_assoc, Nat.succ_ne_zero, q1]
  refine rright_spec fun W2 hF2 => ?_
  simp only [push_cast, Nat.reduceAdd, Nat.reduceLeDiff, Nat.reduceLT, Int.reduceToNat, Nat.left_eq_add, Nat.add_eq_left, Nat.add_left_cancel_iff, Nat.reduceEqDiff, Nat.add_assoc, Nat.succ_ne_zero]
  by_cases hr : l.right
  case neg =>
    rw [decide_eq_false hr]
    simp only [push_cast, Nat.reduceAdd, Nat.reduceLeDiff, Nat.reduceLT, Int.reduceToNat, Nat.left_eq_add, Nat.add_eq_left, Nat.add_left_cancel_iff, Nat.reduceEqDiff, Nat.add_assoc, Nat.succ_ne_zero]
    exact hno 2 _ (by unfold Edp.takeE; rw [if_pos hm, if_neg e1, if_neg hr]) (by decide) hF2
  rw [decide_eq_true hr]
  simp only [push_cast, Nat.reduceAdd, Nat.reduceLeDiff, Nat.reduceLT, Int.reduceToNat, Nat.left_eq_add, Nat.add_eq_left, Nat.add_left_cancel_iff, Nat.reduceEqDiff, Nat.add_assoc, Nat.succ_ne_zero]
  have hE2 : REd W2 b x := hF2.heap hE1 fun h => h
  refine ractor_spec hE2 fun W3 hF3 => ?_
  have hE3 : REd W3 b x := hF3.heap hE2 fun h => h
  have q3 := (hF2.trans hF3).heap q1 fun h => h
  rw [zalloc_inf]
  have hF4 : Fr none_ W3 (wr (W3.alloc (cellsO Inf.zero.cells 39)) W3.heap.size 0 x.actor.cells) := (by repeat' first | with_reducible exact Fr.refl _ _ | with_reducible refine Fr.step_alloc ?_ ?_ | with_reducible refine Fr.step_drew ?_ | with_reducible refine Fr.step_wr ?_ ?_ _ _ | exact rfl | exact Or.inr (by omega) | exact Or.inl rfl | exact Or.inl (Or.inl rfl) | exact Or.inl (Or.inr rfl))
  have q4 : (wr (W3.alloc (cellsO Inf.zero.cells 39)) W3.heap.size 0 x.actor.cells).heap[W3.heap.size]? = some (cellsO x.actor.cells 39) := by simp only [push_cast, Nat.reduceAdd, Nat.reduceLeDiff, Nat.reduceLT, Int.reduceToNat, Nat.left_eq_add, Nat.add_eq_left, Nat.add_left_cancel_iff, Nat.reduceEqDiff, Nat.add_assoc, Nat.succ_ne_zero]
  simp only [push_cast, Nat.reduceAdd, Nat.reduceLeDiff, Nat.reduceLT, Int.reduceToNat, Nat.left_eq_add, Nat.add_eq_left, Nat.add_left_cancel_iff, Nat.reduceEqDiff, Nat.add_assoc, Nat.succ_ne_zero]
  have hb4 : b < W3.heap.size := lt_of_heap (show W3.heap[b]? = some _ from hE3)
  have hp4 : p1 < W3.heap.size := lt_of_heap q3
  generalize wr (W3.alloc (cellsO Inf.zero.cells 39)) W3.heap.size 0 x.actor.cells = W4 at *
  have q3 := hF4.heap q3 fun h => h
  have hE4 : REd W4 b x := hF4.heap hE3 fun h => h
  have hF14 : Fr none_ W1 W4 := (hF2.trans hF3).trans hF4
  generalize hp2 : W3.heap.size = p2 at *
  generalize hP : (if bAnd l.actor.state 4 ≠ 0 ∧ knowsP l.partner x.actor = false then l.actor.setS (bClr l.actor.state 8) else l.actor) = P'
  refine jn0 (fun W => W = W4 ∧ x.takeE l now = 0) ?_ fun j hj => ?_
  · rintro W ⟨rfl, h0⟩
    have hE : x.takeP l now = { x with state := 3, from_ := now, partner := P' } := by unfold Edp.takeP; rw [if_pos h0, hP]
    have hT : x.takeT l now = !decide (bareP l.partner = bareP x.actor) := by unfold Edp.takeT; rw [decide_eq_true h0, Bool.true_and]
    simp only [fa41_1, s_ldN, Nat.zero_add, q3, aggAt_cells, Lcp.len, Lcp.d_partner, Nat.reduceAdd, Nat.reduceLeDiff, if_true, onS_some, Nat.reduceLT]
    rw [zalloc_inf]
    have hF5 : Fr none_ W (wr (W.alloc (cellsO Inf.zero.cells 39)) W.heap.size 0 l.partner.cells) := (by repeat' first | with_reducible exact Fr.refl _ _ | with_reducible refine Fr.step_alloc ?_ ?_ | with_reducible refine Fr.step_drew ?_ | with_reducible refine Fr.step_wr ?_ ?_ _ _ | exact rfl | exact Or.inr (by omega) | exact Or.inl rfl | exact Or.inl (Or.inl rfl) | exact Or.inl (Or.inr rfl))
    have q5 : (wr (W.alloc (cellsO Inf.zero.cells 39)) W.heap.size 0 l.partner.cells).heap[W.heap.size]? = some (cellsO l.partner.cells 39) := by simp only [push_cast, Nat.reduceAdd, Nat.reduceLeDiff, Nat.reduceLT, Int.reduceToNat, Nat.left_eq_add, Nat.add_eq_left, Nat.add_left_cancel_iff, Nat.reduceEqDiff, Nat.add_assoc, Nat.succ_ne_zero]
    have hp5 : p1 < W.heap.size := lt_of_heap q3
    have hp5' : p2 < W.heap.size := lt_of_heap q4
    simp only [push_cast, Nat.reduceAdd, Nat.reduceLeDiff, Nat.reduceLT, Int.reduceToNat, Nat.left_eq_add, Nat.add_eq_left, Nat.add_left_cancel_iff, Nat.reduceEqDiff, Nat.add_assoc, Nat.succ_ne_zero, q3]
    generalize wr (W.alloc (cellsO Inf.zero.cells 39)) W.heap.size 0 l.partner.cells = W5 at *
    have q3 := hF5.heap q3 fun h => h
    have q4 := hF5.heap q4 fun h => h
    have hE5 : REd W5 b x := hF5.heap hE4 fun h => h
    have hb5 : b < W.heap.size := lt_of_heap (show W.heap[b]? = some _ from hE4)
    generalize hp3 : W.heap.size = p3 at *
    have hF15 : Fr none_ W1 W5 := hF14.trans hF5
    refine jn1 (fun v W6 => v = .bool (!decide (bareP l.partner = bareP x.actor)) ∧ W6 = W5) ?_ fun j1 hj1 => ?_
    · rintro v W6 ⟨rfl, rfl⟩
      simp only [push_cast, Nat.reduceAdd, Nat.reduceLeDiff, Nat.reduceLT, Int.reduceToNat, Nat.left_eq_add, Nat.add_eq_left, Nat.add_left_cancel_iff, Nat.reduceEqDiff, Nat.add_assoc, Nat.succ_ne_zero, q5, q4]
      refine rknows_spec hl.2.1.2.1 hmes fun W6 hF6 => ?_
      have r3 := hF6.heap q3 fun h => h
      have hE6 : REd W6 b x := hF6.heap hE5 fun h => h
      have q6 : W6.heap[b]? = some (cellsO x.cells 101) := hE6
      have hF7 : Fr (fun y => y = b) W6 (wr W6 b 11 l.actor.cells) := Fr.wr _ _ _ _ rfl
      have s0 : (wr W6 b 11 l.actor.cells).heap[b]? = some (cellsO ({ x with partner := l.actor } : Edp).cells 101) := by simp only [push_cast, Nat.reduceAdd, Nat.reduceLeDiff, Nat.reduceLT, Int.reduceToNat, Nat.left_eq_add, Nat.add_eq_left, Nat.add_left_cancel_iff, Nat.reduceEqDiff, Nat.add_assoc, Nat.succ_ne_zero, q6]
      have s3 := hF7.heap r3 (show ¬ p1 = b by omega)
      have hpb : p1 ≠ b := by omega
      simp only [push_cast, Nat.reduceAdd, Nat.reduceLeDiff, Nat.reduceLT, Int.reduceToNat, Nat.left_eq_add, Nat.add_eq_left, Nat.add_left_cancel_iff, Nat.reduceEqDiff, Nat.add_assoc, Nat.succ_ne_zero, q6, r3]
      generalize wr W6 b 11 l.actor.cells = W7 at *
      have hFw7 : Fr (fun y => y = b) w W7 := (frN ((hF1.trans hF15).trans hF6)).trans hF7
      refine jn0 (fun W' => W'.heap[b]? = some (cellsO ({ x with partner := P' } : Edp).cells 101) ∧ Fr (fun y => y = b) w W') ?_ fun j2 hj2 => ?_
      · rintro W8 ⟨t0, hF8⟩
        simp only [push_cast, Nat.reduceAdd, Nat.reduceLeDiff, Nat.reduceLT, Int.reduceToNat, Nat.left_eq_add, Nat.add_eq_left, Nat.add_left_cancel_iff, Nat.reduceEqDiff, Nat.add_assoc, Nat.succ_ne_zero, t0]
        rw [hE, hT, h0] at hk
        refine hk _ ?_ ((hF8.step_wr (.inl rfl) _ _).step_wr (.inl rfl) _ _)
        unfold REd
        simp only [push_cast, Nat.reduceAdd, Nat.reduceLeDiff, Nat.reduceLT, Int.reduceToNat, Nat.left_eq_add, Nat.add_eq_left, Nat.add_left_cancel_iff, Nat.reduceEqDiff, Nat.add_assoc, Nat.succ_ne_zero, t0]
      · refine jn0 (fun W' => W' = W7 ∧ P' = l.actor) (fun W' ⟨e, e2⟩ => hj2 _ ⟨by rw [e, e2]; exact s0, by rw [e]; exact hFw7⟩) fun j3 hj3 => ?_
        simp only [push_cast, Nat.reduceAdd, Nat.reduceLeDiff, Nat.reduceLT, Int.reduceToNat, Nat.left_eq_add, Nat.add_eq_left, Nat.add_left_cancel_iff, Nat.reduceEqDiff, Nat.add_assoc, Nat.succ_ne_zero]
        refine br_intro (fun e2 => ?_) fun e2 => ?_
        · have e2 : knowsP l.partner x.actor = false := by simpa using e2
          simp only [push_cast, Nat.reduceAdd, Nat.reduceLeDiff, Nat.reduceLT, Int.reduceToNat, Nat.left_eq_add, Nat.add_eq_left, Nat.add_left_cancel_iff, Nat.reduceEqDiff, Nat.add_assoc, Nat.succ_ne_zero, s3]
          refine br_intro (fun e => ?_) fun e => ?_
          · have e : bAnd l.actor.state 4 ≠ 0 := by simpa using e
            rw [if_pos ⟨e, e2⟩] at hP
            simp only [push_cast, Nat.reduceAdd, Nat.reduceLeDiff, Nat.reduceLT, Int.reduceToNat, Nat.left_eq_add, Nat.add_eq_left, Nat.add_left_cancel_iff, Nat.reduceEqDiff, Nat.add_assoc, Nat.succ_ne_zero, s0]
            refine hj2 _ ⟨?_, hFw7.step_wr (.inl rfl) _ _⟩
            simp only [push_cast, Nat.reduceAdd, Nat.reduceLeDiff, Nat.reduceLT, Int.reduceToNat, Nat.left_eq_add, Nat.add_eq_left, Nat.add_left_cancel_iff, Nat.reduceEqDiff, Nat.add_assoc, Nat.succ_ne_zero, s0]
            rw [← hP]; rfl
          · have e : bAnd l.actor.state 4 = 0 := by simpa using e
            rw [if_neg (fun hh => hh.1 e)] at hP
            exact hj3 _ ⟨rfl, hP.symm⟩
        · have e2 : knowsP l.partner x.actor = true := by simpa using e2
          rw [if_neg (fun hh => by rw [e2] at hh; cases hh.2)] at hP
          exact hj3 _ ⟨rfl, hP.symm⟩
    · have hyes : ∀ W, W = W5 → ¬ (l.partner.prio = x.actor.prio ∧ l.partner.sys = x.actor.sys ∧ l.partner.key = x.actor.key ∧ l.partner.pprio = x.actor.pprio ∧ l.partner.port = x.actor.port ∧ bAnd l.partner.state 15 = bAnd x.actor.state 15) → j1 (.bool true) W := fun W e hn => by
        refine hj1 _ _ ⟨?_, e⟩
        rw [bare_iff, decide_eq_false hn]; rfl
      simp only [push_cast, Nat.reduceAdd, Nat.reduceLeDiff, Nat.reduceLT, Int.reduceToNat, Nat.left_eq_add, Nat.add_eq_left, Nat.add_left_cancel_iff, Nat.reduceEqDiff, Nat.add_assoc, Nat.succ_ne_zero, q5, q4]
      refine br_intro (fun e => hyes _ rfl fun hh => ?_) fun e1 => ?_
      · simp [hh.1] at e
      have e1 : l.partner.prio = x.actor.prio := by simpa using e1
      refine s_neMac hl.2.1.2.1 hmes ?_
      simp only [push_cast, Nat.reduceAdd, Nat.reduceLeDiff, Nat.reduceLT, Int.reduceToNat, Nat.left_eq_add, Nat.add_eq_left, Nat.add_left_cancel_iff, Nat.reduceEqDiff, Nat.add_assoc, Nat.succ_ne_zero, q5, q4]
      refine br_intro (fun e => hyes _ rfl fun hh => ?_) fun e2 => ?_
      · simp [hh.2.1] at e
      have e2 : l.partner.sys = x.actor.sys := by simpa using e2
      refine br_intro (fun e => hyes _ rfl fun hh => ?_) fun e3 => ?_
      · simp [hh.2.2.1] at e
      have e3 : l.partner.key = x.actor.key := by simpa using e3
      refine br_intro (fun e => hyes _ rfl fun hh => ?_) fun e4 => ?_
      · simp [hh.2.2.2.1] at e
      have e4 : l.partner.pprio = x.actor.pprio := by simpa using e4
      refine br_intro (fun e => hyes _ rfl fun hh => ?_) fun e5 => ?_
      · simp [hh.2.2.2.2.1] at e
      have e5 : l.partner.port = x.actor.port := by simpa using e5
      refine hj1 _ _ ⟨?_, rfl⟩
      rw [bare_iff]
      by_cases e6 : bAnd l.partner.state 15 = bAnd x.actor.state 15
      · rw [decide_eq_true ⟨e1, e2, e3, e4, e5, e6⟩]
        simp [e6]
      · rw [decide_eq_false (fun hh => e6 hh.2.2.2.2.2)]
        simp [e6]
  · simp only [push_cast, Nat.reduceAdd, Nat.reduceLeDiff, Nat.reduceLT, Int.reduceToNat, Nat.left_eq_add, Nat.add_eq_left, Nat.add_left_cancel_iff, Nat.reduceEqDiff, Nat.add_assoc, Nat.succ_ne_zero, q3, q4]
    refine s_eqMac hl.1.2.1 hmes ?_
    simp only [push_cast, Nat.reduceAdd, Nat.reduceLeDiff, Nat.reduceLT, Int.reduceToNat, Nat.left_eq_add, Nat.add_eq_left, Nat.add_left_cancel_iff, Nat.reduceEqDiff, Nat.add_assoc, Nat.succ_ne_zero]
    refine br_dec (fun e2 => ?_) fun e2 => ?_
    · simp only [push_cast, Nat.reduceAdd, Nat.reduceLeDiff, Nat.reduceLT, Int.reduceToNat, Nat.left_eq_add, Nat.add_eq_left, Nat.add_left_cancel_iff, Nat.reduceEqDiff, Nat.add_assoc, Nat.succ_ne_zero, q3, q4]
      refine br_dec (fun e3 => ?_) fun e3 => ?_
      · exact hno 5 _ (by unfold Edp.takeE; rw [if_pos hm, if_neg e1, if_pos hr, if_pos ⟨e2, e3⟩]) (by decide) hF14
      · exact hj _ ⟨rfl, by unfold Edp.takeE; rw [if_pos hm, if_neg e1, if_pos hr, if_neg fun hh => e3 hh.2]⟩
    · exact hj _ ⟨rfl, by unfold Edp.takeE; rw [if_pos hm, if_neg e1, if_pos hr, if_neg fun hh => e2 hh.1]⟩

theorem rbuild_end {a : Inf} : opS Tryz.prog (S.build 101 [(0, .agg a.cells.toArray)]) K w = K (.agg (newEnd a).cells.toArray) w := by
  rw [opS_build _ rfl]; rfl

theorem renew_spec {a : Inf} (ha : a.state = 7) (h0 : ¬ a.right → ∀ w', Fr none_ w w' → K (.tuple #[.pointer none, i64 1]) w')
    (h1 : a.right → ∀ b w', w.heap.size ≤ b → REd w' b (newEnd a) → Fr none_ w w' → K (.tuple #[pt b 0, i64 0]) w') : CallsR Tryz.prog 28 #[.agg a.cells.toArray] K w := by
  apply c28
  unfold p28
  have hF1 : Fr none_ w (w.alloc (cellsO a.cells 39)) := (by repeat' first | with_reducible exact Fr.refl _ _ | with_reducible refine Fr.step_alloc ?_ ?_ | with_reducible refine Fr.step_drew ?_ | with_reducible refine Fr.step_wr ?_ ?_ _ _ | exact rfl | exact Or.inr (by omega) | exact Or.inl rfl | exact Or.inl (Or.inl rfl) | exact Or.inl (Or.inr rfl))
  have q1 : (w.alloc (cellsO a.cells 39)).heap[w.heap.size]? = some (cellsO a.cells 39) := by simp only [push_cast, Nat.reduceAdd, Nat.reduceLeDiff, Nat.reduceLT, Int.reduceToNat, Nat.left_eq_add, Nat.add_eq_left, Nat.add_left_cancel_iff, Nat.reduceEqDiff, Nat.add_assoc, Nat.succ_ne_zero]
  simp only [opS_box, cells_agg, alloc_cellsO]
  have hs1 := hF1.size
  generalize w.alloc (cellsO a.cells 39) = W1 at *
  simp only [push_cast, Nat.reduceAdd, Nat.reduceLeDiff, Nat.reduceLT, Int.reduceToNat, Nat.left_eq_add, Nat.add_eq_left, Nat.add_left_cancel_iff, Nat.reduceEqDiff, Nat.add_assoc, Nat.succ_ne_zero, q1]
  refine rright_spec fun W2 hF2 => ?_
  have q2 := hF2.heap q1 fun h => h
  have hs2 := hF2.size
  have er : (Lcp.mk a Inf.zero 0).right ↔ a.right := ⟨fun h => h.1, fun h => ⟨h, Inf.zero_right, by show wth 65535 0; decide⟩⟩
  simp only [push_cast, Nat.reduceAdd, Nat.reduceLeDiff, Nat.reduceLT, Int.reduceToNat, Nat.left_eq_add, Nat.add_eq_left, Nat.add_left_cancel_iff, Nat.reduceEqDiff, Nat.add_assoc, Nat.succ_ne_zero]
  by_cases hr : a.right
  · rw [decide_eq_true (er.2 hr)]
    simp only [push_cast, Nat.reduceAdd, Nat.reduceLeDiff, Nat.reduceLT, Int.reduceToNat, Nat.left_eq_add, Nat.add_eq_left, Nat.add_left_cancel_iff, Nat.reduceEqDiff, Nat.add_assoc, Nat.succ_ne_zero, q2, ha, clr7, bne_self_eq_false]
    rw [rbuild_end]
    simp only [push_cast, Nat.reduceAdd, Nat.reduceLeDiff, Nat.reduceLT, Int.reduceToNat, Nat.left_eq_add, Nat.add_eq_left, Nat.add_left_cancel_iff, Nat.reduceEqDiff, Nat.add_assoc, Nat.succ_ne_zero]
    refine h1 hr _ _ (by omega) ?_ ((hF1.trans hF2).step_alloc rfl)
    unfold REd
    simp only [push_cast, Nat.reduceAdd, Nat.reduceLeDiff, Nat.reduceLT, Int.reduceToNat, Nat.left_eq_add, Nat.add_eq_left, Nat.add_left_cancel_iff, Nat.reduceEqDiff, Nat.add_assoc, Nat.succ_ne_zero]
  · rw [decide_eq_false (fun hh => hr (er.1 hh))]
    simp only [push_cast, Nat.reduceAdd, Nat.reduceLeDiff, Nat.reduceLT, Int.reduceToNat, Nat.left_eq_add, Nat.add_eq_left, Nat.add_left_cancel_iff, Nat.reduceEqDiff, Nat.add_assoc, Nat.succ_ne_zero]
    exact h0 hr _ (hF1.trans hF2)

/-! ### What a link has come to -/

def RMx (w : World) (b : Nat) (m : Mxx) : Prop := w.heap[b]? = some (cellsO m.cells 103)

theorem rmnew_spec (hk : ∀ b w', w.heap.size ≤ b → RMx w' b ⟨0, 0⟩ → Fr none_ w w' → K (pt b 0) w') : CallsR Tryz.prog 30 #[] K w := by
  apply c30
  unfold p30
  have e : ∀ (R : Value → World → Prop) W, opS Tryz.prog (S.build 103 []) R W = R (.agg (Mxx.cells ⟨0, 0⟩).toArray) W := fun R W => by
    rw [opS_build _ rfl]; rfl
  rw [e]
  simp only [push_cast, Nat.reduceAdd, Nat.reduceLeDiff, Nat.reduceLT, Int.reduceToNat, Nat.left_eq_add, Nat.add_eq_left, Nat.add_left_cancel_iff, Nat.reduceEqDiff, Nat.add_assoc, Nat.succ_ne_zero]
  refine hk _ _ (Nat.le_refl _) ?_ (by repeat' first | with_reducible exact Fr.refl _ _ | with_reducible refine Fr.step_alloc ?_ ?_ | with_reducible refine Fr.step_drew ?_ | with_reducible refine Fr.step_wr ?_ ?_ _ _ | exact rfl | exact Or.inr (by omega) | exact Or.inl rfl | exact Or.inl (Or.inl rfl) | exact Or.inl (Or.inr rfl))
  unfold RMx
  simp only [push_cast, Nat.reduceAdd, Nat.reduceLeDiff, Nat.reduceLT, Int.reduceToNat, Nat.left_eq_add, Nat.add_eq_left, Nat.add_left_cancel_iff, Nat.reduceEqDiff, Nat.add_assoc, Nat.succ_ne_zero]

theorem rmbits_spec {m : Mxx} {mb : Nat} (hm : RMx w mb m) (hk : K (i64 m.bits) w) : CallsR Tryz.prog 65 #[pt mb 0] K w := by
  apply c65
  unfold p65
  unfold RMx at hm
  unfold Mxx.bits at hk
  simp only [push_cast, Nat.reduceAdd, Nat.reduceLeDiff, Nat.reduceLT, Int.reduceToNat, Nat.left_eq_add, Nat.add_eq_left, Nat.add_left_cancel_iff, Nat.reduceEqDiff, Nat.add_assoc, Nat.succ_ne_zero, hm]
  refine br_dec (fun e => ?_) fun e => ?_
  · rw [if_neg (by omega), if_neg (by omega), if_pos e] at hk; exact hk
  · refine br_dec (fun e2 => ?_) fun e2 => ?_
    · rw [if_neg (by omega), if_pos e2] at hk; exact hk
    · refine br_dec (fun e3 => ?_) fun e3 => ?_
      · rw [if_pos e3] at hk; exact hk
      · rw [if_neg e3, if_neg e2, if_neg e] at hk; exact hk

def nxtO (o : Option Int) : Int := match o with | none => -1 | some t => t
theorem rnext_spec {m : Mxx} {mb : Nat} {sel : Bool} {p now : Int} (hm : RMx w mb m) (hw : m.wf) (hn : momOk now) (hk : K (i64 (nxtO (m.next sel p now))) w) : CallsR Tryz.prog 101 #[pt mb 0, .bool sel, i64 p, i64 now] K w := by
  apply c101
  unfold p101
  unfold RMx at hm
  obtain ⟨st, fr⟩ := m
  obtain ⟨g0, g1⟩ := hw.state
  have hs : st = 0 ∨ st = 1 ∨ st = 2 ∨ st = 3 ∨ st = 4 := by
    have : 0 ≤ st := g0
    have : st ≤ 4 := g1
    omega
  have hwr : IntKind.i64.wrap (now - fr) = now - fr := wrap_i64 (by have h1 : momOk fr := hw.from_; unfold momOk at h1 hn; omega)
  unfold Mxx.next at hk
  simp only [push_cast, Nat.reduceAdd, Nat.reduceLeDiff, Nat.reduceLT, Int.reduceToNat, Nat.left_eq_add, Nat.add_eq_left, Nat.add_left_cancel_iff, Nat.reduceEqDiff, Nat.add_assoc, Nat.succ_ne_zero, hm, jn_0, hwr]
  cases sel with
  | false =>
    simp only [push_cast, Nat.reduceAdd, Nat.reduceLeDiff, Nat.reduceLT, Int.reduceToNat, Nat.left_eq_add, Nat.add_eq_left, Nat.add_left_cancel_iff, Nat.reduceEqDiff, Nat.add_assoc, Nat.succ_ne_zero, Bool.not_false]
    refine br_dec (fun e => ?_) fun e => ?_
    · simpa [e, nxtO] using hk
    · simpa [e, nxtO] using hk
  | true =>
    simp only [push_cast, Nat.reduceAdd, Nat.reduceLeDiff, Nat.reduceLT, Int.reduceToNat, Nat.left_eq_add, Nat.add_eq_left, Nat.add_left_cancel_iff, Nat.reduceEqDiff, Nat.add_assoc, Nat.succ_ne_zero, Bool.not_true]
    have k8 : (bAnd p 8 != 0) = !decide (bAnd p 8 = 0) := by rw [bne_dec, decide_not]
    have k16 : (bAnd p 16 != 0) = !decide (bAnd p 16 = 0) := by rw [bne_dec, decide_not]
    rw [k8, k16]
    by_cases h8 : bAnd p 8 = 0 <;> by_cases h16 : bAnd p 16 = 0 <;> by_cases h2 : now - fr ≥ 2 <;> rcases hs with rfl | rfl | rfl | rfl | rfl <;>
      simpa [h8, h16, h2, nxtO, br] using hk

theorem rmstep_spec {m : Mxx} {mb : Nat} {sel : Bool} {p now : Int} (hm : RMx w mb m) (hw : m.wf) (hp : isSt p) (hn : momOk now)
    (hk : ∀ w', RMx w' mb (m.stepP sel p now) → Fr (fun y => y = mb) w w' → K (.tuple #[.bool (m.next sel p now).isSome, i64 0]) w') : CallsR Tryz.prog 63 #[pt mb 0, .bool sel, i64 p, i64 now] K w := by
  apply c63
  unfold p63
  simp only [push_cast, Nat.reduceAdd, Nat.reduceLeDiff, Nat.reduceLT, Int.reduceToNat, Nat.left_eq_add, Nat.add_eq_left, Nat.add_left_cancel_iff, Nat.reduceEqDiff, Nat.add_assoc, Nat.succ_ne_zero]
  refine br_no (by unfold momOk at hn; omega) ?_
  refine br_no (by unfold momOk at hn; omega) ?_
  refine br_no (by unfold isSt at hp; omega) ?_
  refine br_no (by unfold isSt at hp; omega) ?_
  refine rnext_spec hm hw hn ?_
  unfold Mxx.stepP at hk
  cases hnx : m.next sel p now with
  | none =>
    rw [hnx] at hk
    simp only [push_cast, Nat.reduceAdd, Nat.reduceLeDiff, Nat.reduceLT, Int.reduceToNat, Nat.left_eq_add, Nat.add_eq_left, Nat.add_left_cancel_iff, Nat.reduceEqDiff, Nat.add_assoc, Nat.succ_ne_zero, nxtO]
    exact br_yes (by decide) (hk w hm (Fr.refl _ _))
  | some t =>
    rw [hnx] at hk
    have ht := Mxx.next_st hnx
    unfold RMx at hm hk
    simp only [push_cast, Nat.reduceAdd, Nat.reduceLeDiff, Nat.reduceLT, Int.reduceToNat, Nat.left_eq_add, Nat.add_eq_left, Nat.add_left_cancel_iff, Nat.reduceEqDiff, Nat.add_assoc, Nat.succ_ne_zero, nxtO, hm]
    refine br_no (by omega) ?_
    simp only [Option.isSome_some] at hk
    refine br_dec (fun e1 => ?_) fun e1 => ?_
    · refine hk _ ?_ (by repeat' first | with_reducible exact Fr.refl _ _ | with_reducible refine Fr.step_alloc ?_ ?_ | with_reducible refine Fr.step_drew ?_ | with_reducible refine Fr.step_wr ?_ ?_ _ _ | exact rfl | exact Or.inr (by omega) | exact Or.inl rfl | exact Or.inl (Or.inl rfl) | exact Or.inl (Or.inr rfl))
      simp only [push_cast, Nat.reduceAdd, Nat.reduceLeDiff, Nat.reduceLT, Int.reduceToNat, Nat.left_eq_add, Nat.add_eq_left, Nat.add_left_cancel_iff, Nat.reduceEqDiff, Nat.add_assoc, Nat.succ_ne_zero, hm]
      unfold Mxx.goto
      rw [if_pos e1]
    · refine hk _ ?_ (by repeat' first | with_reducible exact Fr.refl _ _ | with_reducible refine Fr.step_alloc ?_ ?_ | with_reducible refine Fr.step_drew ?_ | with_reducible refine Fr.step_wr ?_ ?_ _ _ | exact rfl | exact Or.inr (by omega) | exact Or.inl rfl | exact Or.inl (Or.inl rfl) | exact Or.inl (Or.inr rfl))
      simp only [push_cast, Nat.reduceAdd, Nat.reduceLeDiff, Nat.reduceLT, Int.reduceToNat, Nat.left_eq_add, Nat.add_eq_left, Nat.add_left_cancel_iff, Nat.reduceEqDiff, Nat.add_assoc, Nat.succ_ne_zero, hm]
      unfold Mxx.goto
      rw [if_neg e1]

end Go.Gx.S
end

section
/- The document's group: one port; one is found, hears, is let be; what is told of them. -/
set_option linter.unusedVariables false
set_option linter.unusedSimpArgs false
set_option maxRecDepth 100000
namespace Go.Gx.S
open Go Go.Gx Go.Proofs
variable {K : Value → World → Prop} {w : World} {g : Nat} {bs : List B3} {pv fv : Value} {s : Grp} {t : B3} {x : Lk}

instance : PtT Tryz.prog 80 := ⟨_, _, Tryz.underlying80, rfl, by decide⟩
abbrev RLk (w : World) (t : B3) (x : Lk) : Prop := LkM true 84 101 103 w t x
abbrev RG (w : World) (g : Nat) (bs : List B3) (pv : Value) (s : Grp) : Prop := GS true 75 84 101 103 w g bs pv s

theorem rsound_spec (h : RLk w t x) (hk : K (.bool x.sound) w) : CallsR Tryz.prog 99 #[pt t.b 0] K w := by
  apply c99
  unfold p99
  unfold Lk.sound at hk
  simp only [push_cast, Nat.reduceAdd, Nat.reduceLeDiff, Nat.reduceLT, Int.reduceToNat, Nat.left_eq_add, Nat.add_eq_left, Nat.add_left_cancel_iff, Nat.reduceEqDiff, Nat.add_assoc, Nat.succ_ne_zero, h.b, h.e]
  refine br_dec (fun e => ?_) fun e => ?_
  · rw [decide_eq_true e, Bool.true_and, ← bne_dec] at hk
    exact hk
  · rw [decide_eq_false e, Bool.false_and] at hk
    exact hk

theorem rone_spec {x y : Inf} (hx : x.sys.ok) (hy : y.sys.ok) (hk : ∀ w', Fr none_ w w' → K (.bool (decide (sysI x = sysI y))) w') : CallsR Tryz.prog 100 #[.agg x.cells.toArray, .agg y.cells.toArray] K w := by
  apply c100
  unfold p100
  have hF : Fr none_ w ((w.alloc (cellsO x.cells 39)).alloc (cellsO y.cells 39)) := (by repeat' first | with_reducible exact Fr.refl _ _ | with_reducible refine Fr.step_alloc ?_ ?_ | with_reducible refine Fr.step_drew ?_ | with_reducible refine Fr.step_wr ?_ ?_ _ _ | exact rfl | exact Or.inr (by omega) | exact Or.inl rfl | exact Or.inl (Or.inl rfl) | exact Or.inl (Or.inr rfl))
  have h0 : ((w.alloc (cellsO x.cells 39)).alloc (cellsO y.cells 39)).heap[w.heap.size]? = some (cellsO x.cells 39) := by simp only [push_cast, Nat.reduceAdd, Nat.reduceLeDiff, Nat.reduceLT, Int.reduceToNat, Nat.left_eq_add, Nat.add_eq_left, Nat.add_left_cancel_iff, Nat.reduceEqDiff, Nat.add_assoc, Nat.succ_ne_zero]
  have h1 : ((w.alloc (cellsO x.cells 39)).alloc (cellsO y.cells 39)).heap[w.heap.size + 1]? = some (cellsO y.cells 39) := by simp only [push_cast, Nat.reduceAdd, Nat.reduceLeDiff, Nat.reduceLT, Int.reduceToNat, Nat.left_eq_add, Nat.add_eq_left, Nat.add_left_cancel_iff, Nat.reduceEqDiff, Nat.add_assoc, Nat.succ_ne_zero]
  have h := hk _ hF
  simp only [opS_box, cells_agg, alloc_cellsO, size_alloc]
  generalize ((w.alloc (cellsO x.cells 39)).alloc (cellsO y.cells 39)) = W at *
  generalize w.heap.size = xb at *
  have he : decide (sysI x = sysI y) = decide (x.prio = y.prio ∧ x.sys = y.sys ∧ x.key = y.key) := by
    rw [decide_eq_decide]
    constructor
    · intro h
      have := Inf.mk.inj h
      exact ⟨this.1, this.2.1, this.2.2.1⟩
    · rintro ⟨h1, h2, h3⟩
      unfold sysI
      rw [h1, h2, h3]
  rw [he] at h
  have hno : ¬ (x.prio = y.prio ∧ x.sys = y.sys ∧ x.key = y.key) → K (.bool false) W := fun e => by rw [decide_eq_false e] at h; exact h
  simp only [push_cast, Nat.reduceAdd, Nat.reduceLeDiff, Nat.reduceLT, Int.reduceToNat, Nat.left_eq_add, Nat.add_eq_left, Nat.add_left_cancel_iff, Nat.reduceEqDiff, Nat.add_assoc, Nat.succ_ne_zero, h0, h1]
  refine br_dec (fun e1 => ?_) fun e => hno fun hh => e hh.1
  refine s_eqMac hx hy ?_
  simp only [push_cast, Nat.reduceAdd, Nat.reduceLeDiff, Nat.reduceLT, Int.reduceToNat, Nat.left_eq_add, Nat.add_eq_left, Nat.add_left_cancel_iff, Nat.reduceEqDiff, Nat.add_assoc, Nat.succ_ne_zero]
  refine br_dec (fun e2 => ?_) fun e => hno fun hh => e hh.2.1
  simp only [push_cast, Nat.reduceAdd, Nat.reduceLeDiff, Nat.reduceLT, Int.reduceToNat, Nat.left_eq_add, Nat.add_eq_left, Nat.add_left_cancel_iff, Nat.reduceEqDiff, Nat.add_assoc, Nat.succ_ne_zero, h0, h1]
  have : (x.key == y.key) = decide (x.prio = y.prio ∧ x.sys = y.sys ∧ x.key = y.key) := by
    rw [Bool.eq_iff_iff]; simp [e1, e2]
  rw [this]
  exact h

theorem rtells_spec {now : Int} (h : RLk w t x) (hx : x.wf) (hn : momOk now) (hk : K (.bool (x.tells now)) w) : CallsR Tryz.prog 66 #[pt t.b 0, i64 now] K w := by
  apply c66
  unfold p66
  refine jn1 (fun v w' => v = i64 x.wait ∧ w' = w) ?_ fun j hj => ?_
  · rintro v w1 ⟨rfl, rfl⟩
    simp only [push_cast, Nat.reduceAdd, Nat.reduceLeDiff, Nat.reduceLT, Int.reduceToNat, Nat.left_eq_add, Nat.add_eq_left, Nat.add_left_cancel_iff, Nat.reduceEqDiff, Nat.add_assoc, Nat.succ_ne_zero, h.b, h.e]
    unfold Lk.tells at hk
    refine br_intro (fun e => ?_) fun e => ?_
    · have e : x.e.state ≠ 0 := by simpa using e
      rw [decide_eq_false e, Bool.not_false, Bool.true_and] at hk
      refine br_intro (fun e2 => ?_) fun e2 => ?_
      · rw [e2, Bool.true_or, Bool.true_or] at hk
        exact hk
      · rw [e2, Bool.false_or] at hk
        have hl := hx.last
        have hm : x.last < 0 ↔ x.last = -1 := by
          unfold momOk at hl
          omega
        refine br_dec (fun e3 => ?_) fun e3 => ?_
        · rw [decide_eq_true (hm.1 e3), Bool.true_or] at hk
          exact hk
        · rw [decide_eq_false (fun h => e3 (hm.2 h)), Bool.false_or] at hk
          have hwr : IntKind.i64.wrap (now - x.last) = now - x.last := by
            unfold momOk at hn hl
            exact wrap_i64 (by omega)
          simp only [push_cast, Nat.reduceAdd, Nat.reduceLeDiff, Nat.reduceLT, Int.reduceToNat, Nat.left_eq_add, Nat.add_eq_left, Nat.add_left_cancel_iff, Nat.reduceEqDiff, Nat.add_assoc, Nat.succ_ne_zero, hwr]
          exact hk
    · have e : x.e.state = 0 := by simpa using e
      rw [decide_eq_true e, Bool.not_true, Bool.false_and] at hk
      exact hk
  · simp only [push_cast, Nat.reduceAdd, Nat.reduceLeDiff, Nat.reduceLT, Int.reduceToNat, Nat.left_eq_add, Nat.add_eq_left, Nat.add_left_cancel_iff, Nat.reduceEqDiff, Nat.add_assoc, Nat.succ_ne_zero, h.b, h.e]
    unfold Lk.wait at hj
    refine br_intro (fun e => ?_) fun e => ?_
    · refine hj _ _ ⟨?_, rfl⟩
      rw [if_pos (by simpa using e)]
    · refine hj _ _ ⟨?_, rfl⟩
      rw [if_neg (by simpa using e)]

theorem rleader_spec (h : RG w g bs pv s) (hn : s.l.length ≤ 32) (h0 : s.l.findIdx? (·.picked) = none → K (.pointer none) w)
    (h1 : ∀ i t x, s.l.findIdx? (·.picked) = some i → bs[i]? = some t → s.l[i]? = some x → RLk w t x → K (pt t.b 0) w) : CallsR Tryz.prog 45 #[pt g 0] K w := by
  apply c45
  unfold p45
  refine jn0 (fun W => W = w ∧ ∀ x ∈ s.l, x.picked = false) (fun W ⟨e, hx⟩ => ?_) fun j hj => ?_
  · rw [e]
    exact h0 (findIdx_no hx)
  refine loop1 (fun n u W => ∃ i : Nat, u = i64 i ∧ i + n = s.l.length ∧ W = w ∧ ∀ x ∈ s.l.take i, x.picked = false) ?_ s.l.length ⟨0, rfl, by omega, rfl, by simp⟩
  rintro n u W X ⟨i, rfl, hi, rfl, ho⟩ hX
  simp only [push_cast, Nat.reduceAdd, Nat.reduceLeDiff, Nat.reduceLT, Int.reduceToNat, Nat.left_eq_add, Nat.add_eq_left, Nat.add_left_cancel_iff, Nat.reduceEqDiff, Nat.add_assoc, Nat.succ_ne_zero, h.main]
  rw [h.lenv]
  simp only [push_cast, Nat.reduceAdd, Nat.reduceLeDiff, Nat.reduceLT, Int.reduceToNat, Nat.left_eq_add, Nat.add_eq_left, Nat.add_left_cancel_iff, Nat.reduceEqDiff, Nat.add_assoc, Nat.succ_ne_zero]
  refine br_dec (fun hlt => ?_) fun hge => ?_
  · have hil : i < s.l.length := by omega
    obtain ⟨t, ht, hx, hl⟩ := h.get hil
    simp only [push_cast, Nat.reduceAdd, Nat.reduceLeDiff, Nat.reduceLT, Int.reduceToNat, Nat.left_eq_add, Nat.add_eq_left, Nat.add_left_cancel_iff, Nat.reduceEqDiff, Nat.add_assoc, Nat.succ_ne_zero, h.main]
    refine h.ld ht ?_
    have hwk : IntKind.i64.wrap ((i : Int) + 1) = ((i + 1 : Nat) : Int) := by rw [wrap_i64 (by omega)]; rfl
    simp only [push_cast, Nat.reduceAdd, Nat.reduceLeDiff, Nat.reduceLT, Int.reduceToNat, Nat.left_eq_add, Nat.add_eq_left, Nat.add_left_cancel_iff, Nat.reduceEqDiff, Nat.add_assoc, Nat.succ_ne_zero, hl.b, hwk]
    refine br_intro (fun e => ?_) fun e => ?_
    · simp only [push_cast, Nat.reduceAdd, Nat.reduceLeDiff, Nat.reduceLT, Int.reduceToNat, Nat.left_eq_add, Nat.add_eq_left, Nat.add_left_cancel_iff, Nat.reduceEqDiff, Nat.add_assoc, Nat.succ_ne_zero, h.main]
      refine h.ld ht ?_
      exact h1 i t _ (findIdx_at hil ho e) ht hx hl
    · exact hX (n - 1) _ _ (by omega) ⟨i + 1, rfl, by omega, rfl, take_all hil ho e⟩
  · rw [List.take_of_length_le (by omega)] at ho
    exact hj _ ⟨rfl, ho⟩

theorem rfind_spec {port : Int} (h : RG w g bs pv s) (hn : s.l.length ≤ 32) (h0 : s.at_ port = none → K (.pointer none) w)
    (h1 : ∀ i t x, s.at_ port = some i → bs[i]? = some t → s.l[i]? = some x → RLk w t x → K (pt t.b 0) w) : CallsR Tryz.prog 53 #[pt g 0, i64 port] K w := by
  apply c53
  unfold p53
  refine jn0 (fun W => W = w ∧ ∀ x ∈ s.l, decide (x.port = port) = false) (fun W ⟨e, hx⟩ => ?_) fun j hj => ?_
  · rw [e]
    exact h0 (findIdx_no hx)
  refine loop1 (fun n u W => ∃ i : Nat, u = i64 i ∧ i + n = s.l.length ∧ W = w ∧ ∀ x ∈ s.l.take i, decide (x.port = port) = false) ?_ s.l.length ⟨0, rfl, by omega, rfl, by simp⟩
  rintro n u W X ⟨i, rfl, hi, rfl, ho⟩ hX
  simp only [push_cast, Nat.reduceAdd, Nat.reduceLeDiff, Nat.reduceLT, Int.reduceToNat, Nat.left_eq_add, Nat.add_eq_left, Nat.add_left_cancel_iff, Nat.reduceEqDiff, Nat.add_assoc, Nat.succ_ne_zero, h.main]
  rw [h.lenv]
  simp only [push_cast, Nat.reduceAdd, Nat.reduceLeDiff, Nat.reduceLT, Int.reduceToNat, Nat.left_eq_add, Nat.add_eq_left, Nat.add_left_cancel_iff, Nat.reduceEqDiff, Nat.add_assoc, Nat.succ_ne_zero]
  refine br_dec (fun hlt => ?_) fun hge => ?_
  · have hil : i < s.l.length := by omega
    obtain ⟨t, ht, hx, hl⟩ := h.get hil
    simp only [push_cast, Nat.reduceAdd, Nat.reduceLeDiff, Nat.reduceLT, Int.reduceToNat, Nat.left_eq_add, Nat.add_eq_left, Nat.add_left_cancel_iff, Nat.reduceEqDiff, Nat.add_assoc, Nat.succ_ne_zero, h.main]
    refine h.ld ht ?_
    have hwk : IntKind.i64.wrap ((i : Int) + 1) = ((i + 1 : Nat) : Int) := by rw [wrap_i64 (by omega)]; rfl
    simp only [push_cast, Nat.reduceAdd, Nat.reduceLeDiff, Nat.reduceLT, Int.reduceToNat, Nat.left_eq_add, Nat.add_eq_left, Nat.add_left_cancel_iff, Nat.reduceEqDiff, Nat.add_assoc, Nat.succ_ne_zero, hl.b, hwk]
    refine br_dec (fun e => ?_) fun e => ?_
    · simp only [push_cast, Nat.reduceAdd, Nat.reduceLeDiff, Nat.reduceLT, Int.reduceToNat, Nat.left_eq_add, Nat.add_eq_left, Nat.add_left_cancel_iff, Nat.reduceEqDiff, Nat.add_assoc, Nat.succ_ne_zero, h.main]
      refine h.ld ht ?_
      exact h1 i t _ (findIdx_at hil ho (decide_eq_true e)) ht hx hl
    · exact hX (n - 1) _ _ (by omega) ⟨i + 1, rfl, by omega, rfl, take_all hil ho (decide_eq_false e)⟩
  · rw [List.take_of_length_le (by omega)] at ho
    exact hj _ ⟨rfl, ho⟩

theorem enable_bad {x : Edp} {is : Bool} {now : Int} (h : momE now ≠ 0) : x.enableP is now = x := by
  unfold momE at h
  by_cases hm : momOk now
  · rw [if_pos hm] at h; exact absurd rfl h
  · unfold Edp.enableP; rw [if_neg hm]

theorem rgenable_spec {port now : Int} {is : Bool} (h : RG w g bs pv s) (hw : s.wf)
    (hk : ∀ w', RG w' g bs pv (s.enableP port is now) → Fr (fL bs) w w' → K (i64 (s.enableE port now)) w') : CallsR Tryz.prog 37 #[pt g 0, i64 port, .bool is, i64 now] K w := by
  apply c37
  unfold p37
  simp only [push_cast, Nat.reduceAdd, Nat.reduceLeDiff, Nat.reduceLT, Int.reduceToNat, Nat.left_eq_add, Nat.add_eq_left, Nat.add_left_cancel_iff, Nat.reduceEqDiff, Nat.add_assoc, Nat.succ_ne_zero]
  unfold Grp.enableP Grp.enableE at hk
  refine rfind_spec h hw.len (fun e => ?_) fun i t x e ht hx hl => ?_
  · rw [on_none e, e] at hk
    simp only [push_cast, Nat.reduceAdd, Nat.reduceLeDiff, Nat.reduceLT, Int.reduceToNat, Nat.left_eq_add, Nat.add_eq_left, Nat.add_left_cancel_iff, Nat.reduceEqDiff, Nat.add_assoc, Nat.succ_ne_zero]
    exact hk w h (Fr.refl _ _)
  · rw [on_some e hx, e] at hk
    simp only [] at hk
    simp only [push_cast, Nat.reduceAdd, Nat.reduceLeDiff, Nat.reduceLT, Int.reduceToNat, Nat.left_eq_add, Nat.add_eq_left, Nat.add_left_cancel_iff, Nat.reduceEqDiff, Nat.add_assoc, Nat.succ_ne_zero, hl.b, hl.e]
    refine renable_spec hl.e fun w1 h1 hF1 => ?_
    have hl1 := hl.setE hF1 h1
    have hfin : ∀ d, d = (x.due || (decide (x.e.state = 0) && !decide ((x.e.enableP is now).state = 0))) → K (i64 (momE now)) (wr w1 t.b 4 [.bool d]) := fun d hd => by
      obtain ⟨h2, hF2⟩ := hl1.wrB (lkC_sdue true t _ d) rfl rfl
      obtain ⟨h3, hF3⟩ := h.set ht ((frE hF1).trans hF2) h2
      refine hk _ ?_ hF3
      unfold Lk.enableP
      rw [← hd]
      exact h3
    simp only [push_cast, Nat.reduceAdd, Nat.reduceLeDiff, Nat.reduceLT, Int.reduceToNat, Nat.left_eq_add, Nat.add_eq_left, Nat.add_left_cancel_iff, Nat.reduceEqDiff, Nat.add_assoc, Nat.succ_ne_zero, hl1.b]
    refine br_intro (fun e1 => ?_) fun e1 => ?_
    · refine hfin true ?_
      have : x.due = true := e1
      rw [this, Bool.true_or]
    · have e1 : x.due = false := e1
      rw [e1, Bool.false_or] at hfin
      refine br_dec (fun e3 => ?_) fun e3 => ?_
      · refine br_dec (fun e2 => ?_) fun e2 => ?_
        · have hq : w1.heap[t.e]? = some (cellsO (x.e.enableP is now).cells 101) := h1
          simp only [push_cast, Nat.reduceAdd, Nat.reduceLeDiff, Nat.reduceLT, Int.reduceToNat, Nat.left_eq_add, Nat.add_eq_left, Nat.add_left_cancel_iff, Nat.reduceEqDiff, Nat.add_assoc, Nat.succ_ne_zero, hl1.b, hq]
          refine hfin _ ?_
          rw [decide_eq_true e2, Bool.true_and]
          rfl
        · refine hfin false ?_
          rw [decide_eq_false e2, Bool.false_and]
      · refine hfin false ?_
        rw [enable_bad e3]
        cases decide (x.e.state = 0) <;> rfl

theorem rgtake_spec {port now : Int} {l : Lcp} (h : RG w g bs pv s) (hw : s.wf) (hl : l.ok)
    (hk : ∀ w', RG w' g bs pv (s.takeP port l now) → Fr (fL bs) w w' → K (i64 (s.takeE port l now)) w') : CallsR Tryz.prog 32 #[pt g 0, i64 port, .agg l.cells.toArray, i64 now] K w := by
  apply c32
  unfold p32
  have hF0 : Fr none_ w (w.alloc (cellsO l.cells 41)) := (by repeat' first | with_reducible exact Fr.refl _ _ | with_reducible refine Fr.step_alloc ?_ ?_ | with_reducible refine Fr.step_drew ?_ | with_reducible refine Fr.step_wr ?_ ?_ _ _ | exact rfl | exact Or.inr (by omega) | exact Or.inl rfl | exact Or.inl (Or.inl rfl) | exact Or.inl (Or.inr rfl))
  have q0 : (w.alloc (cellsO l.cells 41)).heap[w.heap.size]? = some (cellsO l.cells 41) := by simp only [push_cast, Nat.reduceAdd, Nat.reduceLeDiff, Nat.reduceLT, Int.reduceToNat, Nat.left_eq_add, Nat.add_eq_left, Nat.add_left_cancel_iff, Nat.reduceEqDiff, Nat.add_assoc, Nat.succ_ne_zero]
  have hg := h.fr0 hF0
  simp only [opS_box, cells_agg, alloc_cellsO]
  generalize w.alloc (cellsO l.cells 41) = w0 at *
  simp only [push_cast, Nat.reduceAdd, Nat.reduceLeDiff, Nat.reduceLT, Int.reduceToNat, Nat.left_eq_add, Nat.add_eq_left, Nat.add_left_cancel_iff, Nat.reduceEqDiff, Nat.add_assoc, Nat.succ_ne_zero]
  unfold Grp.takeP Grp.takeE at hk
  refine rfind_spec hg hw.len (fun e => ?_) fun i t x e ht hx hlk => ?_
  · rw [on_none e, e] at hk
    simp only [push_cast, Nat.reduceAdd, Nat.reduceLeDiff, Nat.reduceLT, Int.reduceToNat, Nat.left_eq_add, Nat.add_eq_left, Nat.add_left_cancel_iff, Nat.reduceEqDiff, Nat.add_assoc, Nat.succ_ne_zero]
    exact hk _ hg (frN hF0)
  · have hd : s.l.getD i default = x := by rw [List.getD_eq_getElem?_getD, hx]; rfl
    rw [on_some e hx, e] at hk
    simp only [hd] at hk
    have hld := hlk.fr0 (Fr.drew w0)
    have hgd := hg.fr0 (Fr.drew w0)
    simp only [push_cast, Nat.reduceAdd, Nat.reduceLeDiff, Nat.reduceLT, Int.reduceToNat, Nat.left_eq_add, Nat.add_eq_left, Nat.add_left_cancel_iff, Nat.reduceEqDiff, Nat.add_assoc, Nat.succ_ne_zero, hlk.b, q0]
    refine retake_spec hld.e (hw.l x (List.mem_of_getElem? hx)).e hl fun w1 h1 hF1 => ?_
    have hl1 := hld.setE hF1 h1
    have hfin : ∀ d, d = (x.due || x.e.takeT l now) → K (i64 (x.e.takeE l now)) (wr w1 t.b 4 [.bool d]) := fun d hd => by
      obtain ⟨h2, hF2⟩ := hl1.wrB (lkC_sdue true t _ d) rfl rfl
      obtain ⟨h3, hF3⟩ := hgd.set ht ((frE hF1).trans hF2) h2
      refine hk _ ?_ ((frN (hF0.trans (Fr.drew w0))).trans hF3)
      unfold Lk.takeP
      rw [← hd]
      exact h3
    simp only [push_cast, Nat.reduceAdd, Nat.reduceLeDiff, Nat.reduceLT, Int.reduceToNat, Nat.left_eq_add, Nat.add_eq_left, Nat.add_left_cancel_iff, Nat.reduceEqDiff, Nat.add_assoc, Nat.succ_ne_zero, hl1.b]
    refine br_intro (fun e1 => ?_) fun e1 => ?_
    · refine hfin true ?_
      have : x.due = true := e1
      rw [this, Bool.true_or]
    · have e1 : x.due = false := e1
      rw [e1, Bool.false_or] at hfin
      exact hfin _ rfl

theorem rpicked_spec (h : RG w g bs pv s) (hn : s.l.length ≤ 32) (hk : ∀ v w', OwnE 3 1 w' v (s.pickedP.map cellI) → New w v → Fr none_ w w' → K v w') : CallsR Tryz.prog 15 #[pt g 0] K w := by
  apply c15
  unfold p15
  refine jn1 (fun v W => OwnE 3 1 W v (s.pickedP.map cellI) ∧ New w v ∧ Fr none_ w W) (fun v W ⟨a, b, c⟩ => hk v W a b c) fun j hj => ?_
  refine loop2 (fun m v u W => ∃ i : Nat, i + m = s.l.length ∧ u = i64 i ∧ OwnE 3 1 W v ((((s.l.take i).filter (·.picked)).map (·.port)).map cellI) ∧ New w v ∧ Fr none_ w W) ?_ s.l.length ⟨0, by omega, rfl, own_nil _ _ _, fun b hb => (by cases hb), Fr.refl _ _⟩
  rintro m v u W X ⟨i, hi, rfl, hv, nv, hF⟩ hX
  have hI := h.fr0 hF
  simp only [push_cast, Nat.reduceAdd, Nat.reduceLeDiff, Nat.reduceLT, Int.reduceToNat, Nat.left_eq_add, Nat.add_eq_left, Nat.add_left_cancel_iff, Nat.reduceEqDiff, Nat.add_assoc, Nat.succ_ne_zero, hI.main]
  rw [hI.lenv]
  simp only [push_cast, Nat.reduceAdd, Nat.reduceLeDiff, Nat.reduceLT, Int.reduceToNat, Nat.left_eq_add, Nat.add_eq_left, Nat.add_left_cancel_iff, Nat.reduceEqDiff, Nat.add_assoc, Nat.succ_ne_zero]
  refine br_dec (fun hlt => ?_) fun hge => ?_
  · have hil : i < s.l.length := by omega
    obtain ⟨t, ht, hx, hl⟩ := hI.get hil
    have hwk : IntKind.i64.wrap ((i : Int) + 1) = ((i + 1 : Nat) : Int) := by rw [wrap_i64 (by omega)]; rfl
    have hsn := filt_snoc (pk := (·.picked)) hil
    simp only [push_cast, Nat.reduceAdd, Nat.reduceLeDiff, Nat.reduceLT, Int.reduceToNat, Nat.left_eq_add, Nat.add_eq_left, Nat.add_left_cancel_iff, Nat.reduceEqDiff, Nat.add_assoc, Nat.succ_ne_zero, hI.main]
    refine hI.ld ht ?_
    simp only [push_cast, Nat.reduceAdd, Nat.reduceLeDiff, Nat.reduceLT, Int.reduceToNat, Nat.left_eq_add, Nat.add_eq_left, Nat.add_left_cancel_iff, Nat.reduceEqDiff, Nat.add_assoc, Nat.succ_ne_zero, hl.b]
    refine br_intro (fun e => ?_) fun e => ?_
    · simp only [push_cast, Nat.reduceAdd, Nat.reduceLeDiff, Nat.reduceLT, Int.reduceToNat, Nat.left_eq_add, Nat.add_eq_left, Nat.add_left_cancel_iff, Nat.reduceEqDiff, Nat.add_assoc, Nat.succ_ne_zero, hI.main]
      refine hI.ld ht ?_
      simp only [push_cast, Nat.reduceAdd, Nat.reduceLeDiff, Nat.reduceLT, Int.reduceToNat, Nat.left_eq_add, Nat.add_eq_left, Nat.add_left_cancel_iff, Nat.reduceEqDiff, Nat.add_assoc, Nat.succ_ne_zero, hl.b]
      refine s_app1 (E := 3) (by_ := 8) (z := .int .i64 0) rfl rfl (by decide) hv (by
        rw [List.length_map, List.length_map]
        have := List.length_filter_le (fun x : Lk => x.picked) (s.l.take i)
        rw [List.length_take] at this
        omega) fun v' W2 hv' hb' hF2 => ?_
      simp only [opS_add, hwk]
      refine hX (m - 1) _ _ _ (by omega) ⟨i + 1, by omega, rfl, ?_, fun b hb => ?_, hF.trans_new hF2 fun y hy e => by have := nv y e; omega⟩
      · rw [if_pos e] at hsn
        rw [hsn, List.map_append]; exact hv'
      · rcases hb' with e | e
        · exact nv b (e ▸ hb)
        · have := e b hb; have := hF.size; omega
    · simp only [push_cast, Nat.reduceAdd, Nat.reduceLeDiff, Nat.reduceLT, Int.reduceToNat, Nat.left_eq_add, Nat.add_eq_left, Nat.add_left_cancel_iff, Nat.reduceEqDiff, Nat.add_assoc, Nat.succ_ne_zero, hwk]
      refine hX (m - 1) _ _ _ (by omega) ⟨i + 1, by omega, rfl, ?_, nv, hF⟩
      rw [if_neg (by rw [show s.l[i].picked = false from e]; decide), List.append_nil] at hsn
      rw [hsn]; exact hv
  · rw [List.take_of_length_le (by omega)] at hv
    exact hj _ _ ⟨hv, nv, hF⟩

theorem rup_spec (h : RG w g bs pv s) (hn : s.l.length ≤ 32) (hk : ∀ v w', OwnE 3 1 w' v (s.up.map cellI) → New w v → Fr none_ w w' → K v w') : CallsR Tryz.prog 16 #[pt g 0] K w := by
  apply c16
  unfold p16
  refine jn1 (fun v W => OwnE 3 1 W v (s.up.map cellI) ∧ New w v ∧ Fr none_ w W) (fun v W ⟨a, b, c⟩ => hk v W a b c) fun j hj => ?_
  refine loop2 (fun m v u W => ∃ i : Nat, i + m = s.l.length ∧ u = i64 i ∧ OwnE 3 1 W v ((((s.l.take i).filter (fun x => decide (x.m.state = 4))).map (·.port)).map cellI) ∧ New w v ∧ Fr none_ w W) ?_ s.l.length ⟨0, by omega, rfl, own_nil _ _ _, fun b hb => (by cases hb), Fr.refl _ _⟩
  rintro m v u W X ⟨i, hi, rfl, hv, nv, hF⟩ hX
  have hI := h.fr0 hF
  simp only [push_cast, Nat.reduceAdd, Nat.reduceLeDiff, Nat.reduceLT, Int.reduceToNat, Nat.left_eq_add, Nat.add_eq_left, Nat.add_left_cancel_iff, Nat.reduceEqDiff, Nat.add_assoc, Nat.succ_ne_zero, hI.main]
  rw [hI.lenv]
  simp only [push_cast, Nat.reduceAdd, Nat.reduceLeDiff, Nat.reduceLT, Int.reduceToNat, Nat.left_eq_add, Nat.add_eq_left, Nat.add_left_cancel_iff, Nat.reduceEqDiff, Nat.add_assoc, Nat.succ_ne_zero]
  refine br_dec (fun hlt => ?_) fun hge => ?_
  · have hil : i < s.l.length := by omega
    obtain ⟨t, ht, hx, hl⟩ := hI.get hil
    have hwk : IntKind.i64.wrap ((i : Int) + 1) = ((i + 1 : Nat) : Int) := by rw [wrap_i64 (by omega)]; rfl
    have hsn := filt_snoc (pk := fun x => decide (x.m.state = 4)) hil
    simp only [push_cast, Nat.reduceAdd, Nat.reduceLeDiff, Nat.reduceLT, Int.reduceToNat, Nat.left_eq_add, Nat.add_eq_left, Nat.add_left_cancel_iff, Nat.reduceEqDiff, Nat.add_assoc, Nat.succ_ne_zero, hI.main]
    refine hI.ld ht ?_
    simp only [push_cast, Nat.reduceAdd, Nat.reduceLeDiff, Nat.reduceLT, Int.reduceToNat, Nat.left_eq_add, Nat.add_eq_left, Nat.add_left_cancel_iff, Nat.reduceEqDiff, Nat.add_assoc, Nat.succ_ne_zero, hl.b, hl.m]
    refine br_dec (fun e => ?_) fun e => ?_
    · simp only [push_cast, Nat.reduceAdd, Nat.reduceLeDiff, Nat.reduceLT, Int.reduceToNat, Nat.left_eq_add, Nat.add_eq_left, Nat.add_left_cancel_iff, Nat.reduceEqDiff, Nat.add_assoc, Nat.succ_ne_zero, hI.main]
      refine hI.ld ht ?_
      simp only [push_cast, Nat.reduceAdd, Nat.reduceLeDiff, Nat.reduceLT, Int.reduceToNat, Nat.left_eq_add, Nat.add_eq_left, Nat.add_left_cancel_iff, Nat.reduceEqDiff, Nat.add_assoc, Nat.succ_ne_zero, hl.b]
      refine s_app1 (E := 3) (by_ := 8) (z := .int .i64 0) rfl rfl (by decide) hv (by
        rw [List.length_map, List.length_map]
        have := List.length_filter_le (fun x : Lk => decide (x.m.state = 4)) (s.l.take i)
        rw [List.length_take] at this
        omega) fun v' W2 hv' hb' hF2 => ?_
      simp only [opS_add, hwk]
      refine hX (m - 1) _ _ _ (by omega) ⟨i + 1, by omega, rfl, ?_, fun b hb => ?_, hF.trans_new hF2 fun y hy e => by have := nv y e; omega⟩
      · rw [if_pos (decide_eq_true e)] at hsn
        rw [hsn, List.map_append]; exact hv'
      · rcases hb' with e | e
        · exact nv b (e ▸ hb)
        · have := e b hb; have := hF.size; omega
    · simp only [push_cast, Nat.reduceAdd, Nat.reduceLeDiff, Nat.reduceLT, Int.reduceToNat, Nat.left_eq_add, Nat.add_eq_left, Nat.add_left_cancel_iff, Nat.reduceEqDiff, Nat.add_assoc, Nat.succ_ne_zero, hwk]
      refine hX (m - 1) _ _ _ (by omega) ⟨i + 1, by omega, rfl, ?_, nv, hF⟩
      rw [if_neg (by rw [decide_eq_false e]; decide), List.append_nil] at hsn
      rw [hsn]; exact hv
  · rw [List.take_of_length_le (by omega)] at hv
    exact hj _ _ ⟨hv, nv, hF⟩

theorem rgpartner_spec (h : RG w g bs pv s) (hn : s.l.length ≤ 32) (hk : ∀ w', Fr none_ w w' → K (.tuple #[.agg s.partner.1.cells.toArray, .bool s.partner.2]) w') : CallsR Tryz.prog 13 #[pt g 0] K w := by
  apply c13
  unfold p13
  rw [zalloc_inf]
  have hF0 : Fr none_ w (w.alloc (cellsO Inf.zero.cells 39)) := (by repeat' first | with_reducible exact Fr.refl _ _ | with_reducible refine Fr.step_alloc ?_ ?_ | with_reducible refine Fr.step_drew ?_ | with_reducible refine Fr.step_wr ?_ ?_ _ _ | exact rfl | exact Or.inr (by omega) | exact Or.inl rfl | exact Or.inl (Or.inl rfl) | exact Or.inl (Or.inr rfl))
  have q0 : (w.alloc (cellsO Inf.zero.cells 39)).heap[w.heap.size]? = some (cellsO Inf.zero.cells 39) := by simp only [push_cast, Nat.reduceAdd, Nat.reduceLeDiff, Nat.reduceLT, Int.reduceToNat, Nat.left_eq_add, Nat.add_eq_left, Nat.add_left_cancel_iff, Nat.reduceEqDiff, Nat.add_assoc, Nat.succ_ne_zero]
  have h0 := h.fr0 hF0
  generalize hw0 : w.alloc (cellsO Inf.zero.cells 39) = w0 at *
  simp only [push_cast, Nat.reduceAdd, Nat.reduceLeDiff, Nat.reduceLT, Int.reduceToNat, Nat.left_eq_add, Nat.add_eq_left, Nat.add_left_cancel_iff, Nat.reduceEqDiff, Nat.add_assoc, Nat.succ_ne_zero]
  unfold Grp.partner at hk
  refine rleader_spec h0 hn (fun e => ?_) fun i t x e ht hx hl => ?_
  · rw [e] at hk
    simp only [push_cast, Nat.reduceAdd, Nat.reduceLeDiff, Nat.reduceLT, Int.reduceToNat, Nat.left_eq_add, Nat.add_eq_left, Nat.add_left_cancel_iff, Nat.reduceEqDiff, Nat.add_assoc, Nat.succ_ne_zero, q0]
    exact hk _ (hF0.step_wr (.inr (Nat.le_refl _)) _ _)
  · have hd : s.l.getD i default = x := by rw [List.getD_eq_getElem?_getD, hx]; rfl
    rw [e] at hk
    simp only [hd] at hk
    simp only [push_cast, Nat.reduceAdd, Nat.reduceLeDiff, Nat.reduceLT, Int.reduceToNat, Nat.left_eq_add, Nat.add_eq_left, Nat.add_left_cancel_iff, Nat.reduceEqDiff, Nat.add_assoc, Nat.succ_ne_zero, hl.b, hl.e, q0]
    exact hk _ (hF0.step_wr (.inr (Nat.le_refl _)) _ _)

/-! ### Lists are the same -/

theorem ctTld : Tryz.prog.cellsOf 105 = 24 := by kernel_rfl
theorem ctLcpE : Tryz.prog.cellsOf 41 = 23 := by kernel_rfl
theorem lcp_enc {d : Nat} {x : Lcp} (h : x.ok) : Tryz.prog.keyLits (d + 4) 41 x.cells = some x.lits := by
  obtain ⟨h0, h1, h2⟩ := h
  refine kl_struct_mk (ls := [x.actor.lits, x.partner.lits, [_]]) Tryz.underlying41 (by simp) (by rw [ctLcpE]; rfl) ?_
  simp only [List.mapM_cons, List.mapM_nil, ctInt, ctInfo, Lcp.cells, bind, Option.bind_eq_some_iff, pure, Option.some.injEq, List.drop_succ_cons, List.drop_zero, List.take_succ_cons, List.take_zero]
  exact ⟨_, inf_enc (d := d) h0, _, ⟨_, inf_enc (d := d) h1, _, ⟨_, kl_int_mk uInt h2, _, rfl, rfl⟩, rfl⟩, rfl⟩
theorem tld_enc {d : Nat} {x : Tld} (h : x.ok) : Tryz.prog.keyLits (d + 5) 105 x.cells = some x.lits := by
  refine kl_struct_mk (ls := [[_], x.l.lits]) Tryz.underlying105 (by simp) (by rw [ctTld]; rfl) ?_
  simp only [List.mapM_cons, List.mapM_nil, ctInt, ctLcpE, Tld.cells, bind, Option.bind_eq_some_iff, pure, Option.some.injEq, List.drop_succ_cons, List.drop_zero, List.take_succ_cons, List.take_zero]
  exact ⟨_, kl_int_mk uInt h.1, _, ⟨_, lcp_enc h.2, _, rfl, rfl⟩, rfl⟩
theorem s_neTld {x y : Tld} (hx : x.ok) (hy : y.ok) (h : K (.bool (!decide (x = y))) w) : opS Tryz.prog (S.binG .neq 105 (.agg x.cells.toArray) (.agg y.cells.toArray)) K w :=
  s_neqG (tld_enc (d := 3) hx) (tld_enc (d := 3) hy) fun q hq => by
    rw [Tld.lits_inj] at hq
    have : q = decide (x = y) := by rw [Bool.eq_iff_iff, hq, decide_eq_true_iff]
    rw [this]; exact h

theorem same_spec {a b : Value} {l : List Tld} (ha : RdE 24 w a (l.map Tld.cells)) (hb : RdE 24 w b (l.map Tld.cells)) (hlo : ∀ x ∈ l, x.ok) (hn : l.length ≤ 32) (h : ∀ w', Fr none_ w w' → K (.bool true) w') : CallsR Tryz.prog 35 #[a, b] K w := by
  apply c35
  unfold p35
  obtain ⟨aa, ac, rfl⟩ := ha.form
  obtain ⟨ba, bc, rfl⟩ := hb.form
  rw [List.length_map] at ha hb ⊢
  simp only [push_cast, Nat.reduceAdd, Nat.reduceLeDiff, Nat.reduceLT, Int.reduceToNat, Nat.left_eq_add, Nat.add_eq_left, Nat.add_left_cancel_iff, Nat.reduceEqDiff, Nat.add_assoc, Nat.succ_ne_zero, bne_self_eq_false]
  refine jn0 (fun w' => Fr none_ w w') (fun w' hF => h _ hF) fun j hj => ?_
  refine loop1 (fun m v w' => ∃ i : Nat, v = i64 i ∧ i + m = l.length ∧ Fr none_ w w') ?_ l.length ⟨0, rfl, by omega, Fr.refl _ _⟩
  rintro m v w' X ⟨i, rfl, hi, hF⟩ hX
  simp only [push_cast, Nat.reduceAdd, Nat.reduceLeDiff, Nat.reduceLT, Int.reduceToNat, Nat.left_eq_add, Nat.add_eq_left, Nat.add_left_cancel_iff, Nat.reduceEqDiff, Nat.add_assoc, Nat.succ_ne_zero]
  refine br_dec (fun hlt => ?_) fun hge => hj _ hF
  have hi2 : i < l.length := by omega
  have ha' : RdE 24 w'.drew _ (l.map Tld.cells) := ha.fr hF.step_drew (fun _ _ h => h)
  have hb' : RdE 24 w'.drew _ (l.map Tld.cells) := hb.fr hF.step_drew (fun _ _ h => h)
  refine s_iaE (es := l.map Tld.cells) ha' (by omega) (by simpa using hi2) fun b1 o1 c1 _ hE => ?_
  simp only [Int.toNat_natCast, List.getElem_map] at hE ⊢
  have h23 : aggAt w'.heap[b1]? (o1 + i * 24) 24 = some (.agg l[i].cells.toArray) := hE.agg0 (Tld.len _)
  simp only [push_cast, Nat.reduceAdd, Nat.reduceLeDiff, Nat.reduceLT, Int.reduceToNat, Nat.left_eq_add, Nat.add_eq_left, Nat.add_left_cancel_iff, Nat.reduceEqDiff, Nat.add_assoc, Nat.succ_ne_zero, h23]
  refine s_iaE (es := l.map Tld.cells) hb' (by omega) (by simpa using hi2) fun b2 o2 c2 _ hE2 => ?_
  simp only [Int.toNat_natCast, List.getElem_map] at hE2 ⊢
  have h24 : aggAt w'.heap[b2]? (o2 + i * 24) 24 = some (.agg l[i].cells.toArray) := hE2.agg0 (Tld.len _)
  simp only [push_cast, Nat.reduceAdd, Nat.reduceLeDiff, Nat.reduceLT, Int.reduceToNat, Nat.left_eq_add, Nat.add_eq_left, Nat.add_left_cancel_iff, Nat.reduceEqDiff, Nat.add_assoc, Nat.succ_ne_zero, h24]
  have hw : IntKind.i64.wrap ((i : Int) + 1) = ((i + 1 : Nat) : Int) := by rw [wrap_i64 (by omega)]; rfl
  refine s_neTld (hlo _ (List.getElem_mem hi2)) (hlo _ (List.getElem_mem hi2)) ?_
  rw [decide_eq_true rfl]
  simp only [push_cast, Nat.reduceAdd, Nat.reduceLeDiff, Nat.reduceLT, Int.reduceToNat, Nat.left_eq_add, Nat.add_eq_left, Nat.add_left_cancel_iff, Nat.reduceEqDiff, Nat.add_assoc, Nat.succ_ne_zero, hw]
  exact hX (m - 1) _ _ (by omega) ⟨i + 1, rfl, by omega, hF.step_drew⟩

end Go.Gx.S
end
