/- Ranges over functions: what a round does to the loop's own block. -/
import Derived.Test.YtclkdldkebjgpaaGxEq
namespace Go.Gx
open Go
variable {P : Program} {K : Value → World → Prop} {w : World}

theorem run_setObj {b : Nat} {x o : Obj} (h : w.heap[b]? = some x) (hx : ∀ c T fz, x ≠ .cells c T fz) : (setObj b o).run P w = .ok () (upd w b o) := by
  cases x with
  | cells c T fz => exact absurd rfl (hx c T fz)
  | _ => simp [setObj, Sem.run, upd, h]

theorem run_getLoop {l : Nat} {L : Loop} (h : w.heap[l]? = some (.loop L)) : (Instr.getLoop l).run P w = .ok L w := by
  simp [Instr.getLoop, getObj, Sem.run, h, bind, Sem.bind, pure]

theorem opS_beginR {l : Nat} {L : Loop} (h : w.heap[l]? = some (.loop L)) (hs : L.state = .ready) : opS P (S.beginR (pt l 0)) K w = K undef (upd w l (.loop { L with state := .busy })) := by
  unfold S.beginR opS
  have e : blk (pt l 0) = l := rfl
  rw [e]
  unfold Instr.beginRound
  rw [Sem.run_bind, Sem.run_bind, run_getLoop h, Result.andThen_ok, Sem.run_bind, run_setObj h (by intro c T fz e; cases e), Result.andThen_ok, hs]
  rfl

theorem opS_endR {l : Nat} {L : Loop} (h : w.heap[l]? = some (.loop L)) (c : Option Code) : opS P (S.endR (pt l 0) c) K w = K (.bool c.isNone) (upd w l (.loop { L with state := if c.isNone then .ready else .done, pending := c })) := by
  unfold S.endR
  rw [opS_bind]
  have e : blk (pt l 0) = l := rfl
  rw [e]
  unfold Instr.endRound
  rw [Sem.run_bind, run_getLoop h, Result.andThen_ok, Sem.run_bind, run_setObj h (by intro c T fz e; cases e), Result.andThen_ok]
  rfl

theorem run_endLoop {l : Nat} {L : Loop} (h : w.heap[l]? = some (.loop L)) (hs : L.state ≠ .busy) : (Instr.endLoop l).run P w = .ok L.pending (upd w l (.loop { L with state := .exhausted })) := by
  unfold Instr.endLoop
  rw [Sem.run_bind, run_getLoop h, Result.andThen_ok]
  have hb : (L.state == .busy) = false := by
    cases hL : L.state <;> first | rfl | exact absurd hL hs
  rw [hb]
  simp only [Bool.false_eq_true, if_false]
  rw [Sem.run_bind, run_setObj h (by intro c T fz e; cases e), Result.andThen_ok]
  rfl

theorem opS_take {b : Nat} (h : w.heap[b]? = some (.deferred (some []))) : opS P (S.take (pt b 0)) K w = K undef (upd w b (.deferred none)) := by
  unfold S.take opS
  have e : blk (pt b 0) = b := rfl
  rw [e]
  have : (Instr.takeDeferred b).run P w = .ok [] (upd w b (.deferred none)) := by
    unfold Instr.takeDeferred
    have hg : (getObj b).run P w = .ok (.deferred (some [])) w := by simp [getObj, Sem.run, h]
    rw [Sem.run_bind, hg, Result.andThen_ok]
    simp only []
    rw [Sem.run_bind, run_setObj h (by intro c T fz e; cases e), Result.andThen_ok]
    rfl
  rw [Sem.run_bind, this, Result.andThen_ok]
  rfl

/-- a block of no cells may be turned -/
theorem Fr.upd' {fp : Nat → Prop} {w : World} {b : Nat} {x : Obj} (hb : w.heap[b]? = some x) (hx : loose x = true) (y : Obj) (hy : loose y = true) (h : fp b) : Fr fp w (Gx.upd w b y) := by
  refine ⟨by rw [size_upd]; omega, fun b' _ hn => heap_upd_ne fun e => hn (e ▸ h), fun a _ => ?_, rfl, rfl, rfl⟩
  rw [frozen_eq, frozen_eq]
  by_cases e : b = a.block
  · rw [← e, hb, heap_upd_same (by rw [hb]; rfl)]
    have key : ∀ o : Obj, loose o = true → (match some o with | some (.cells _ _ fz) => (decide (fz.1 ≤ a.off) && decide (a.off < fz.2)) | _ => false) = false := by
      intro o ho
      cases o with
      | cells c T fz =>
        obtain ⟨lo, hi⟩ := fz
        simp only [loose, decide_eq_true_eq] at ho
        simp only [Bool.and_eq_false_iff, decide_eq_false_iff_not]
        omega
      | _ => rfl
    exact (key y hy).trans (key x hx).symm
  · rw [heap_upd_ne e]

theorem Fr.step_upd {fp : Nat → Prop} {w w' : World} (h : Fr fp w w') {b : Nat} {x : Obj} (hb : w'.heap[b]? = some x) (hx : loose x = true) (y : Obj) (hy : loose y = true) (hf : fp b ∨ w.heap.size ≤ b) : Fr fp w (Gx.upd w' b y) := by
  refine h.trans_new (fp' := fun z => z = b) (Fr.upd' hb hx y hy rfl) fun z hz e => ?_
  subst e
  rcases hf with hf | hf
  · exact hf
  · omega

theorem takeD_pt (b o : Nat) : takeD P (pt b o) K w = opS P (S.take (pt b o)) K w := id rfl
theorem takeD_func (fv : Fn) (first cap : Array Value) : takeD P (.func fv first cap) K w = dcallS P fv first cap K w := id rfl
theorem opS_isF (fv : Fn) (first cap : Array Value) : opS P (S.isF (.func fv first cap)) K w = K undef w := id rfl
attribute [push_cast] takeD_pt takeD_func opS_isF

end Go.Gx
