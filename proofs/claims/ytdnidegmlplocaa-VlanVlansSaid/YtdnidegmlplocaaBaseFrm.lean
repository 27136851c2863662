/- Frames that come in. -/
import Derived.Test.YtdnidegmlplocaaBaseMac
import Derived.Test.YtdnidegmlplocaaGxArg
set_option linter.unusedVariables false
set_option maxRecDepth 100000
namespace Go.Gx.S
open Go Go.Gx Go.Proofs

theorem ctFrame : Try.prog.cellsOf 27 = 17 := by kernel_rfl
theorem ctBytes : Try.prog.cellsOf 25 = 1 := by kernel_rfl
theorem ktMac : Try.prog.keyTypeAt 8 24 = true := by kernel_rfl

section
variable {H : Type} {enc : TypeId × Value → H} {w : World} {base : Nat} {spare : Nat → Bool} {held : Bool}

theorem trod_frame {n : Nat} {cs : List Value} {x : DataW H × List MemPlace} (h : DataW.trod enc Try.prog w base spare held n 27 cs = some x) : ∃ (f : Frm) (bs : List Int), FrmR w f bs ∧ cs = f.cells ∧ bs.length ≤ maxLen := by
  obtain ⟨xs, m, rfl, rfl, hl, hxs, hf⟩ := DataW.trod_struct Try.underlying27 h
  rw [ctFrame] at hl
  match cs, hl with
  | [c0, c1, c2, c3, c4, c5, c6, c7, c8, c9, c10, c11, c12, c13, c14, c15, c16], _ =>
  have hx : xs.length = 7 := hxs
  match xs, hx with
  | [y0, y1, y2, y3, y4, y5, y6], _ =>
  have g0 : DataW.trod enc Try.prog w base spare held m 24 (([c0, c1, c2, c3, c4, c5, c6, c7, c8, c9, c10, c11, c12, c13, c14, c15, c16].drop 0).take (Try.prog.cellsOf 24)) = some y0 := hf 0 _ rfl
  have g1 : DataW.trod enc Try.prog w base spare held m 24 (([c0, c1, c2, c3, c4, c5, c6, c7, c8, c9, c10, c11, c12, c13, c14, c15, c16].drop 6).take (Try.prog.cellsOf 24)) = some y1 := hf 1 _ rfl
  have g2 : DataW.trod enc Try.prog w base spare held m 4 (([c0, c1, c2, c3, c4, c5, c6, c7, c8, c9, c10, c11, c12, c13, c14, c15, c16].drop 12).take (Try.prog.cellsOf 4)) = some y2 := hf 2 _ rfl
  have g3 : DataW.trod enc Try.prog w base spare held m 3 (([c0, c1, c2, c3, c4, c5, c6, c7, c8, c9, c10, c11, c12, c13, c14, c15, c16].drop 13).take (Try.prog.cellsOf 3)) = some y3 := hf 3 _ rfl
  have g4 : DataW.trod enc Try.prog w base spare held m 3 (([c0, c1, c2, c3, c4, c5, c6, c7, c8, c9, c10, c11, c12, c13, c14, c15, c16].drop 14).take (Try.prog.cellsOf 3)) = some y4 := hf 4 _ rfl
  have g5 : DataW.trod enc Try.prog w base spare held m 3 (([c0, c1, c2, c3, c4, c5, c6, c7, c8, c9, c10, c11, c12, c13, c14, c15, c16].drop 15).take (Try.prog.cellsOf 3)) = some y5 := hf 5 _ rfl
  have g6 : DataW.trod enc Try.prog w base spare held m 25 (([c0, c1, c2, c3, c4, c5, c6, c7, c8, c9, c10, c11, c12, c13, c14, c15, c16].drop 16).take (Try.prog.cellsOf 25)) = some y6 := hf 6 _ rfl
  simp only [ctMac, ctBool, ctInt, ctBytes, List.drop_succ_cons, List.drop_zero, List.take_succ_cons, List.take_zero, List.getElem?_cons_zero, List.getElem?_cons_succ] at g0 g1 g2 g3 g4 g5 g6
  obtain ⟨d, hd, e0, _⟩ := MacT.dec (d := 6) (keyLits_of_trod 8 _ ktMac _ _ _ g0).1
  obtain ⟨s, hs, e1, _⟩ := MacT.dec (d := 6) (keyLits_of_trod 8 _ ktMac _ _ _ g1).1
  obtain ⟨t, e2, _⟩ := DataW.trod_bool uBool g2
  obtain ⟨v, e3, _, hv⟩ := DataW.trod_int uInt g3
  obtain ⟨p, e4, _, hp⟩ := DataW.trod_int uInt g4
  obtain ⟨ty, e5, _, hty⟩ := DataW.trod_int uInt g5
  obtain ⟨bs, hb, hbl⟩ := trod_bytes Try.underlying25 Try.underlying5 ctByte g6
  simp only [Mac.cells, List.cons.injEq, and_true] at e0 e1 e2 e3 e4 e5
  obtain ⟨rfl, rfl, rfl, rfl, rfl, rfl⟩ := e0
  obtain ⟨rfl, rfl, rfl, rfl, rfl, rfl⟩ := e1
  subst e2 e3 e4 e5
  simp only [Lit.wf, Bool.and_eq_true, decide_eq_true_eq] at hv hp hty
  exact ⟨⟨d, s, t, v, p, ty, c16⟩, bs, ⟨⟨hd, hs, hv, hp, hty⟩, hb⟩, rfl, hbl⟩

theorem arg_frame {base' : Nat} {v : Value} {d : DataW H} {ps : List MemPlace} {r : Reach} (hok : Value.okWide Try.prog w r base' 27 v) (h : DataW.Trod enc Try.prog w base spare held 27 v d ps) :
    ∃ (f : Frm) (bs : List Int), FrmR w f bs ∧ v = .agg f.cells.toArray ∧ bs.length ≤ maxLen := by
  obtain ⟨cs, rfl, n, hn⟩ := arg_agg (.inl ⟨_, Try.underlying27⟩) hok h
  obtain ⟨f, bs, h1, rfl, h2⟩ := trod_frame hn
  exact ⟨f, bs, h1, rfl, h2⟩

end
end Go.Gx.S
