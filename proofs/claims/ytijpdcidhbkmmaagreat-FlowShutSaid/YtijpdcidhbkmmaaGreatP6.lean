/- Own texts, put together. -/
import Derived.Test.YtijpdcidhbkmmaaGreatP5
import Derived.Test.YtijpdcidhbkmmaaGreatP2
section
/- A bridge: what it relays. -/
set_option linter.unusedVariables false
set_option linter.unusedSimpArgs false
set_option maxRecDepth 100000
namespace Go.Gx.S
open Go Go.Gx Go.Proofs
variable {K : Value → World → Prop} {w : World}

theorem frm_keep {fp : Nat → Prop} {w0 w1 w2 : World} {f : Frm} {bs : List Int} (h0 : FrmR w0 f bs) (h : FrmR w1 f bs) (hF : Fr fp w1 w2) (hn : ∀ b, b < w0.heap.size → ¬ fp b) : FrmR w2 f bs := by
  obtain ⟨hok, h1, h2⟩ := h
  refine ⟨hok, ?_, h2⟩
  obtain ⟨h3, h4⟩ := h1
  refine ⟨?_, h4⟩
  rcases h3 with h3 | ⟨b, o, c, cs, T, fz, hv, hb, hc, ho, hl⟩
  · exact .inl h3
  · rcases h0.2.1.1 with ⟨⟨a', c', hv'⟩, hn', hl'⟩ | ⟨b', o', c', cs', T', fz', hv', hb', _⟩
    · refine .inl ⟨⟨a', c', hv'⟩, hn', hl'⟩
    · rw [hv] at hv'
      simp only [Value.slice.injEq, Option.some.injEq, Addr.mk.injEq] at hv'
      obtain ⟨⟨rfl, rfl, _⟩, _, rfl⟩ := hv'
      exact .inr ⟨b, o, c, cs, T, fz, hv, hF.heap hb (hn b (lt_of_heap hb')), hc, ho, hl⟩

theorem run_bounds3 {n c : Nat} (h : n ≤ c) : (Instr.sliceBounds true n c none (some (.int .i64 (n : Nat))) (some (.int .i64 (n : Nat)))).run Tryz.prog w = .ok (0, n, n) w := by
  unfold Instr.sliceBounds
  simp only [pure_bind]
  rw [Sem.run_bind, run_sliceBound (by omega), Result.andThen_ok, Sem.run_bind, run_sliceBound (by omega), Result.andThen_ok]
  rfl
theorem clip_spec {v : Value} {es : List (List Value)} (hv : RdE 18 w v es) (hk : ∀ v', RdE 18 w v' es → (∀ b, blkS v' = some b → blkS v = some b) → K v' w) : CallsR Tryz.prog 39 #[v] K w := by
  apply c39
  unfold p39
  obtain ⟨a, c, rfl, hc⟩ := hv.cap
  simp only [push_cast, Nat.reduceAdd, Nat.reduceLeDiff, Nat.reduceLT, Int.reduceToNat, Nat.left_eq_add, Nat.add_eq_left, Nat.add_left_cancel_iff, Nat.reduceEqDiff, Nat.add_assoc, Nat.succ_ne_zero]
  unfold S.slc
  rw [opS_bind]
  unfold Instr.sliceAt
  rw [Sem.run_bind, run_underlying_of (SlT.und (P := Tryz.prog) (T := 35)), Result.andThen_ok]
  simp only []
  unfold Instr.slice
  rw [Sem.run_bind, run_underlying_of (SlT.und (P := Tryz.prog) (T := 35)), Result.andThen_ok]
  simp only []
  rw [Sem.run_bind, run_bounds3 hc, Result.andThen_ok]
  simp only []
  rw [Sem.run_bind, Sz.size (P := Tryz.prog) (T := 49) w, Result.andThen_ok]
  have e : (if es.length = 0 then a else Option.map (fun x : Addr => x.add (0 * 18)) a) = a := by
    split
    · rfl
    · cases a with
      | none => rfl
      | some x =>
        obtain ⟨b, o, f⟩ := x
        rcases hv.1 with ⟨_, hn, _⟩ | ⟨b', o', c', cs, T, fz, h1, _⟩
        · omega
        · simp only [Value.slice.injEq, Option.some.injEq, Addr.mk.injEq] at h1
          obtain ⟨⟨rfl, rfl, rfl⟩, _, _⟩ := h1
          show some (Addr.add _ _) = _
          rw [add_none, Nat.zero_mul, Nat.add_zero]
  show K (.slice (if es.length = 0 then a else Option.map (fun x : Addr => x.add (0 * 18)) a) (es.length - 0) (es.length - 0)) w
  rw [e]
  refine hk _ ⟨?_, hv.2⟩ fun b hb => by cases a <;> exact hb
  rcases hv.1 with ⟨⟨a', c', h1⟩, hn, hl⟩ | ⟨b', o', c', cs, T, fz, h1, hb, hc', ho, hl⟩
  · simp only [Value.slice.injEq] at h1
    exact .inl ⟨⟨a, es.length - 0, by rw [hn]⟩, hn, hl⟩
  · simp only [Value.slice.injEq] at h1
    obtain ⟨rfl, _, rfl⟩ := h1
    exact .inr ⟨b', o', es.length, cs, T, fz, rfl, hb, Nat.le_refl _, ho, hl⟩

section
variable {N0 bp vp vm vnb p pb o c sb so sc room : Nat} {ps : List Ent} {fs : FS}

/-- the bridge's blocks are not among those -/
theorem BR.fr {fp : Nat → Prop} {w' : World} (h : BR N0 w bp vp vm vnb p pb o c sb so sc room ps fs) (hF : Fr fp w w') (hn : ∀ b, (b = bp ∨ b = vp ∨ b = vm ∨ b = vnb ∨ b = p ∨ b = pb ∨ b = sb) → ¬ fp b) : BR N0 w' bp vp vm vnb p pb o c sb so sc room ps fs :=
  ⟨hF.heap h.blk (hn _ (by simp)), h.v.fr hF (hn _ (by simp)) (hn _ (by simp)) (hn _ (by simp)), h.f.fr hF (hn _ (by simp)) (hn _ (by simp)), h.s.fr hF (fun b hb => by simp only [blkS, Option.some.injEq] at hb; exact hn _ (by simp [hb.symm])), h.nl, h.ll, h.sl, h.d1, h.d2, h.d3, h.ge⟩

theorem relay_spec {v frm target : Int} {f : Frm} {bs : List Int} (h : BR N0 w bp vp vm vnb p pb o c sb so sc room ps fs) (hf : FrmR w f bs)
    (hk : ∀ x w', RdE 18 w' x ((relayL fs.t fs.S v frm target f bs.length).map outC) → New w x → Fr none_ w w' → K x w') :
    CallsR Tryz.prog 17 #[pt bp 0, i64 v, i64 frm, i64 target, .agg f.cells.toArray] K w := by
  apply c17
  unfold p17
  have hf0 := hf
  have hlt := h.lt
  have hF : Fr none_ w (((w.alloc (cellsO [i64 target] 3)).alloc (cellsO f.cells 27)).alloc (cellsO [.slice none 0 0] 35)) := (by repeat' first | with_reducible exact Fr.refl _ _ | with_reducible refine Fr.step_alloc ?_ ?_ | with_reducible refine Fr.step_drew ?_ | with_reducible refine Fr.step_wr ?_ ?_ _ _ | exact rfl | exact Or.inr (by omega) | exact Or.inl rfl | exact Or.inl (Or.inl rfl) | exact Or.inl (Or.inr rfl))
  have ht0 : (((w.alloc (cellsO [i64 target] 3)).alloc (cellsO f.cells 27)).alloc (cellsO [.slice none 0 0] 35)).heap[w.heap.size]? = some (cellsO [i64 target] 3) := by simp only [push_cast, Nat.reduceAdd, Nat.reduceLeDiff, Nat.reduceLT, Int.reduceToNat, Nat.left_eq_add, Nat.add_eq_left, Nat.add_left_cancel_iff, Nat.reduceEqDiff, Nat.add_assoc, Nat.succ_ne_zero]
  have hf1 : (((w.alloc (cellsO [i64 target] 3)).alloc (cellsO f.cells 27)).alloc (cellsO [.slice none 0 0] 35)).heap[w.heap.size + 1]? = some (cellsO f.cells 27) := by simp only [push_cast, Nat.reduceAdd, Nat.reduceLeDiff, Nat.reduceLT, Int.reduceToNat, Nat.left_eq_add, Nat.add_eq_left, Nat.add_left_cancel_iff, Nat.reduceEqDiff, Nat.add_assoc, Nat.succ_ne_zero]
  have hq0 : (((w.alloc (cellsO [i64 target] 3)).alloc (cellsO f.cells 27)).alloc (cellsO [.slice none 0 0] 35)).heap[w.heap.size + 2]? = some (cellsO [.slice none 0 0] 35) := by simp only [push_cast, Nat.reduceAdd, Nat.reduceLeDiff, Nat.reduceLT, Int.reduceToNat, Nat.left_eq_add, Nat.add_eq_left, Nat.add_left_cancel_iff, Nat.reduceEqDiff, Nat.add_assoc, Nat.succ_ne_zero]
  have hWs : (((w.alloc (cellsO [i64 target] 3)).alloc (cellsO f.cells 27)).alloc (cellsO [.slice none 0 0] 35)).heap.size = w.heap.size + 3 := by rw [size_alloc, size_alloc, size_alloc]
  simp only [push_cast, Nat.reduceAdd, Nat.reduceLeDiff, Nat.reduceLT, Int.reduceToNat, Nat.left_eq_add, Nat.add_eq_left, Nat.add_left_cancel_iff, Nat.reduceEqDiff, Nat.add_assoc, Nat.succ_ne_zero, frm_len, frm_dw]
  replace h := h.fr0 hF
  replace hf := hf.fr0 hF
  generalize ((w.alloc (cellsO [i64 target] 3)).alloc (cellsO f.cells 27)).alloc (cellsO [.slice none 0 0] 35) = W at *
  refine senders_spec (bp := bp) hf fun w2 k1 k2 k3 k4 hF2 => ?_
  replace h := h.fr0 hF2
  replace hf := hf.fr0 hF2
  replace ht0 := hF2.heap ht0 fun h => h
  replace hq0 := hF2.heap hq0 fun h => h
  replace hF := hF.trans hF2
  have hk4 := lt_of_heap k4
  rw [hWs] at k1 k2 k3 k4 hk4 ⊢
  simp only [push_cast, Nat.reduceAdd, Nat.reduceLeDiff, Nat.reduceLT, Int.reduceToNat, Nat.left_eq_add, Nat.add_eq_left, Nat.add_left_cancel_iff, Nat.reduceEqDiff, Nat.add_assoc, Nat.succ_ne_zero]
  intro L hL1 hL2 hL3 hyield
  rw [enterS_call]
  have hFs : Fr none_ w2 ((w2.alloc (.deferred (some []))).alloc (.loop L)) := ((Fr.refl _ _).step_alloc rfl).step_alloc rfl
  have hI0 : CJ 49 18 35 w (w.heap.size + 2) w2.heap.size L false [] ((w2.alloc (.deferred (some []))).alloc (.loop L)) := CJ.start hL1 hL3 hq0 (own_nil _ _ _) rfl hF (by omega)
  have hss : w2.heap.size + 1 < ((w2.alloc (.deferred (some []))).alloc (.loop L)).heap.size := by rw [size_alloc, size_alloc]; omega
  refine senders1_spec (v := v) (frm := frm) (f := f) (bs := bs) (b1 := w.heap.size + 3) (b2 := w.heap.size + 3 + 2) (b3 := w.heap.size + 3 + 1) (b4 := w.heap.size + 3 + 3) (fun b => b = w.heap.size + 2 ∨ w2.heap.size < b)
    (fun w' => BR N0 w' bp vp vm vnb p pb o c sb so sc room ps fs ∧ FrmR w' f bs ∧ w'.heap[w.heap.size + 3]? = some (cellsO [pt bp 0] 32) ∧ w'.heap[w.heap.size + 3 + 2]? = some (cellsO [i64 frm] 3) ∧ w'.heap[w.heap.size + 3 + 1]? = some (cellsO [i64 v] 3) ∧ w'.heap[w.heap.size + 3 + 3]? = some (cellsO f.cells 27) ∧ w'.heap[w.heap.size]? = some (cellsO [i64 target] 3))
    (fun d w' => CJ 49 18 35 w (w.heap.size + 2) w2.heap.size L false ((d.filter (tgt target)).map outC) w') (fun w1 ⟨a, b, c, d, e, f, _⟩ => ⟨a, b, c, d, e, f⟩) (fun w1 w2 ⟨a, b, c, d, e, f, g⟩ hF => ⟨a.fr0 hF, b.fr0 hF, hF.heap c fun h => h, hF.heap d fun h => h, hF.heap e fun h => h, hF.heap f fun h => h, hF.heap g fun h => h⟩)
    (fun w1 w2' ⟨a, b, c, d, e, f, g⟩ hF => ⟨a.fr hF fun b hb => by omega, frm_keep hf0 b hF fun b hb => by omega, hF.heap c (by omega), hF.heap d (by omega), hF.heap e (by omega), hF.heap f (by omega), hF.heap g (by omega)⟩)
    (fun d w1 w2 hI hF => hI.stay hF) ⟨h.fr0 hFs, hf.fr0 hFs, hFs.heap k1 fun h => h, hFs.heap k2 fun h => h, hFs.heap k3 fun h => h, hFs.heap k4 fun h => h, hFs.heap ht0 fun h => h⟩ hI0 ?_ ?_
  · intro d x w1 KY hI ⟨_, _, _, _, _, _, g⟩ hdl hone hK
    obtain ⟨L', hlb, hsame, hst, hpd⟩ := hI.loop
    have hlt1 := lt_of_heap hlb
    refine hyield KY [.agg (outC x).toArray] w1 L' hst hsame hlb rfl ?_
    show opS Tryz.prog (S.alloc 49) (fun x12 => opS Tryz.prog (S.st 49 x12 (.agg (outC x).toArray)) fun x13 => opS Tryz.prog (S.beginR (pt (w2.heap.size + 1) 0)) fun x14 => jnJ 0 (
        opS Tryz.prog (S.ld 35 (pt (w.heap.size + 2) 0)) fun x15 => opS Tryz.prog (S.ld 49 x12) fun x16 => opS Tryz.prog (S.buildS 35 1 [(0, x16)]) fun x17 => opS Tryz.prog (S.bi .append #[35, 35] 35 [x15, x17]) fun x18 => opS Tryz.prog (S.st 35 (pt (w.heap.size + 2) 0) x18) fun x19 => opS Tryz.prog (S.endR (pt (w2.heap.size + 1) 0) none) fun x20 => KY x20) fun j0 =>
      opS Tryz.prog (S.ld 3 (pt w.heap.size 0)) fun x15 => opS Tryz.prog (S.binI .eql x15 (.int .i64 0)) fun x16 => brn x16 j0 (opS Tryz.prog (S.fa 49 x12 0) fun x17 => opS Tryz.prog (S.ld 3 x17) fun x18 => opS Tryz.prog (S.ld 3 (pt w.heap.size 0)) fun x19 => opS Tryz.prog (S.binI .eql x18 x19) fun x20 => brn x20 j0 (opS Tryz.prog (S.endR (pt (w2.heap.size + 1) 0) none) fun x21 => KY x21))) w1
    have hone2 : x.2.cells.all S.oneCell = true := by
      unfold outC at hone
      rw [List.all_cons, Bool.and_eq_true] at hone
      exact hone.2
    refine out_slot hone2 fun _ w3 hw3 hF3 => ?_
    have hs13 := hF3.size
    refine cj_begin (hI.stay hF3) fun w4 hI4 hF4 => ?_
    have g4 := hF4.heap (hF3.heap g fun h => h) (by omega)
    have hw4 := hF4.heap hw3 (by omega)
    have hF14 : Fr (fun b => b = w.heap.size + 2 ∨ w2.heap.size < b) w1 w4 := (hF3.mono fun _ _ e => e.elim).trans_new hF4 fun b _ e => .inr (by omega)
    refine jn0 (fun w' => w' = w4 ∧ tgt target x = true) ?_ fun j0 hj0 => ?_
    · rintro w' ⟨rfl, ht⟩
      refine cj_append (T := 35) (E := 49) (sz := 18) (by_ := 72) (z := .agg (outC (0, zFrm)).toArray) (x := outC x) (mid := fun K => opS Tryz.prog (S.ld 49 (pt w1.heap.size 0)) fun x9 => opS Tryz.prog (S.buildS 35 1 [(0, x9)]) K) (fun K hk => ?_) hone rfl (by decide) ?_ hI4 fun w5 hI5 hF5 => ?_
      · have e : (List.take 18 (List.drop 0 (outC x))) = outC x := rfl
        simp only [push_cast, Nat.reduceAdd, Nat.reduceLeDiff, Nat.reduceLT, Int.reduceToNat, Nat.left_eq_add, Nat.add_eq_left, Nat.add_left_cancel_iff, Nat.reduceEqDiff, Nat.add_assoc, Nat.succ_ne_zero, hw4, e]
        exact s_bs1 (sz := 18) (z := .agg (outC (0, zFrm)).toArray) rfl rfl (by decide) (by decide) hk
      · have := List.length_filter_le (tgt target) d
        rw [List.length_map]; omega
      · refine cj_endR hI5 fun w6 hI6 hF6 => ?_
        refine hK w6 ?_ ((hF14.trans_new hF5 fun b _ e => by omega).trans_new hF6 fun b _ e => .inr (by omega))
        rw [List.filter_append, List.map_append, List.filter_cons, if_pos ht]
        exact hI6
    · simp only [push_cast, Nat.reduceAdd, Nat.reduceLeDiff, Nat.reduceLT, Int.reduceToNat, Nat.left_eq_add, Nat.add_eq_left, Nat.add_left_cancel_iff, Nat.reduceEqDiff, Nat.add_assoc, Nat.succ_ne_zero, g4]
      have hskip : tgt target x = false → opS Tryz.prog (S.endR (pt (w2.heap.size + 1) 0) none) KY w4 := fun ht => by
        refine cj_endR hI4 fun w6 hI6 hF6 => ?_
        refine hK w6 ?_ (hF14.trans_new hF6 fun b _ e => .inr (by omega))
        rw [List.filter_append, List.map_append, List.filter_cons, if_neg (by rw [ht]; simp)]
        simpa using hI6
      refine br_intro (fun h0 => hj0 _ ⟨rfl, ?_⟩) fun h0 => ?_
      · unfold tgt
        exact decide_eq_true (.inl (by simpa using h0))
      simp only [push_cast, Nat.reduceAdd, Nat.reduceLeDiff, Nat.reduceLT, Int.reduceToNat, Nat.left_eq_add, Nat.add_eq_left, Nat.add_left_cancel_iff, Nat.reduceEqDiff, Nat.add_assoc, Nat.succ_ne_zero, g4, hw4]
      refine br_intro (fun h1 => hj0 _ ⟨rfl, ?_⟩) fun h1 => hskip ?_
      · unfold tgt
        exact decide_eq_true (.inr (by simpa using h1))
      · unfold tgt
        refine decide_eq_false fun e => ?_
        rcases e with e | e
        · rw [e] at h0; simp at h0
        · rw [e] at h1; simp at h1
  · intro w3 hI hA
    obtain ⟨u, w4, hrun, hs4, hu4, hb4, hd4, hF4, hF34⟩ := cj_end Tryz.prog hI
    refine ⟨none, w4, hrun, ?_⟩
    simp only [push_cast, Nat.reduceAdd, Nat.reduceLeDiff, Nat.reduceLT, Int.reduceToNat, Nat.left_eq_add, Nat.add_eq_left, Nat.add_left_cancel_iff, Nat.reduceEqDiff, Nat.add_assoc, Nat.succ_ne_zero, hs4]
    refine clip_spec hu4.rd fun u' hu' hbu => ?_
    show opS Tryz.prog (S.take (pt w2.heap.size 0)) _ _
    rw [opS_take hd4]
    have hF2w := hF.size
    refine hk u' _ ?_ (fun b hb => ?_) (hF4.step_upd hd4 rfl _ rfl (.inr hF2w))
    · refine hu'.frame fun b hb => heap_upd_ne ?_
      have := hb4 b (hbu b hb)
      omega
    · have := hb4 b (hbu b hb)
      omega

end
end Go.Gx.S
end

section
/- A bridge: what comes of a frame. -/
set_option linter.unusedVariables false
set_option linter.unusedSimpArgs false
set_option maxRecDepth 100000
namespace Go.Gx.S
open Go Go.Gx Go.Proofs
variable {K : Value → World → Prop} {w : World}

def wayC (c v t : Int) (o : Value) : List Value := [i64 c, i64 v, i64 t, o]
theorem wayC.len (c v t : Int) (o : Value) : (wayC c v t o).length = 4 := id rfl
theorem wayC.g0 (c v t : Int) (o : Value) : (wayC c v t o)[0]? = some (i64 c) := id rfl
theorem wayC.g1 (c v t : Int) (o : Value) : (wayC c v t o)[1]? = some (i64 v) := id rfl
theorem wayC.g2 (c v t : Int) (o : Value) : (wayC c v t o)[2]? = some (i64 t) := id rfl
theorem wayC.g3 (c v t : Int) (o : Value) : (wayC c v t o)[3]? = some o := id rfl
theorem wayC.dw (c v t : Int) (o : Value) : ((wayC c v t o).drop 0).take 4 = wayC c v t o := id rfl
theorem wayC.s0 (c v t c' : Int) (o : Value) : splice (wayC c v t o) 0 [.int .i64 c'] = wayC c' v t o := id rfl
theorem wayC.s2 (c v t t' : Int) (o : Value) : splice (wayC c v t o) 2 [.int .i64 t'] = wayC c v t' o := id rfl
theorem wayC.s3 (c v t : Int) (o a : Value) : splice (wayC c v t o) 3 [a] = wayC c v t a := id rfl
theorem wayC.sw (c v t c' v' t' : Int) (o o' : Value) : splice (wayC c v t o) 0 (wayC c' v' t' o') = wayC c' v' t' o' := id rfl
theorem wayC.one (c v t : Int) (a : Option Addr) (n m : Nat) : (wayC c v t (.slice a n m)).all S.oneCell = true := id rfl
attribute [push_cast] wayC.len wayC.g0 wayC.g1 wayC.g2 wayC.g3 wayC.dw wayC.s0 wayC.s2 wayC.s3 wayC.sw wayC.one

theorem zalloc_way : opS Tryz.prog (S.alloc 37) K w = K (pt w.heap.size 0) (w.alloc (cellsO (wayC 0 0 0 (.slice none 0 0)) 37)) := by
  rw [opS_alloc]; rfl
theorem build_way1 (v : Int) : opS Tryz.prog (S.build 37 [(1, i64 v)]) K w = K (.agg (wayC 0 v 0 (.slice none 0 0)).toArray) w := by
  rw [opS_build _ rfl]; rfl
theorem build_way2 (c v : Int) : opS Tryz.prog (S.build 37 [(0, i64 c), (1, i64 v)]) K w = K (.agg (wayC c v 0 (.slice none 0 0)).toArray) w := by
  rw [opS_build _ rfl]; rfl
theorem way_slot {c v : Int} {R : Value → Value → World → Prop} (h : ∀ u w', w'.heap[w.heap.size]? = some (cellsO (wayC c v 0 (.slice none 0 0)) 37) → Fr none_ w w' → R (pt w.heap.size 0) u w') :
    opS Tryz.prog (S.alloc 37) (fun x => opS Tryz.prog (S.st 37 x (.agg (wayC c v 0 (.slice none 0 0)).toArray)) (R x)) w := by
  rw [zalloc_way, s_stA _ _ (wayC c v 0 (.slice none 0 0)) rfl rfl, heap_alloc_new, okAt_cells]
  rw [show decide (0 + (wayC c v 0 (.slice none 0 0)).length ≤ (wayC 0 0 0 (.slice none 0 0)).length) = true from rfl, onB_true]
  refine h _ _ ?_ (Fr.step_wr (Fr.step_alloc (Fr.refl _ _) rfl) (.inr (Nat.le_refl _)) _ _)
  rw [heap_wr, if_pos rfl, heap_alloc_new, putAt_cells]
  rfl

def endL (t : Int) (l : List (Int × Frm)) : Int × Int × List (Int × Frm) := if l = [] then (8, t, []) else (0, t, l)
def sentL (fs : FS) (v port : Int) (f : Frm) (n : Nat) : Int × Int × List (Int × Frm) :=
  if fs.S.getD port.toNat 0 = 1 then (6, 0, [])
  else match atK fs.r (v, f.dst) with
    | some x => if x.port = port then (7, 0, []) else endL x.port (if x.port > 0 then relayL fs.t fs.S v port x.port f n else [])
    | none => endL 0 (relayL fs.t fs.S v port 0 f n)

def endL2 (c t : Int) (l : List (Int × Frm)) : Int × Int × List (Int × Frm) := if c = 0 ∧ l = [] then (8, t, []) else (c, t, l)

def takeA (room : Nat) (fs : FS) (port : Int) (f : Frm) (n : Nat) (now : Int) : FS × Int × Int × Int × List (Int × Frm) :=
  if (refusedL fs port f n now).1 = 0 then
    ({ learnF room fs (refusedL fs port f n now).2 f.src port now with N := incr fs.N (sentL (learnF room fs (refusedL fs port f n now).2 f.src port now) (refusedL fs port f n now).2 port f n).1.toNat },
      (sentL (learnF room fs (refusedL fs port f n now).2 f.src port now) (refusedL fs port f n now).2 port f n).1, (refusedL fs port f n now).2, (sentL (learnF room fs (refusedL fs port f n now).2 f.src port now) (refusedL fs port f n now).2 port f n).2)
  else ({ fs with N := incr fs.N (refusedL fs port f n now).1.toNat }, (refusedL fs port f n now).1, (refusedL fs port f n now).2, 0, [])

theorem endL_range (t : Int) (l : List (Int × Frm)) : 0 ≤ (endL t l).1 ∧ (endL t l).1 < 9 := by
  unfold endL
  split
  · exact ⟨(by decide : (0 : Int) ≤ 8), (by decide : (8 : Int) < 9)⟩
  · exact ⟨(by decide : (0 : Int) ≤ 0), (by decide : (0 : Int) < 9)⟩
theorem sentL_range (fs : FS) (v port : Int) (f : Frm) (n : Nat) : 0 ≤ (sentL fs v port f n).1 ∧ (sentL fs v port f n).1 < 9 := by
  unfold sentL
  split
  · exact ⟨by decide, by decide⟩
  · split
    · split
      · exact ⟨by decide, by decide⟩
      · exact endL_range _ _
    · exact endL_range _ _
theorem refusedL_range (fs : FS) (port : Int) (f : Frm) (n : Nat) (now : Int) : 0 ≤ (refusedL fs port f n now).1 ∧ (refusedL fs port f n now).1 < 9 := by
  unfold refusedL
  split
  · simp
  · split
    · simp
    · split
      · simp
      · split
        · simp
        · split <;> simp
theorem refusedL_port {fs : FS} {port : Int} {f : Frm} {n : Nat} {now : Int} (h : (refusedL fs port f n now).1 = 0) : hasB fs.S port = true ∧ f.right n = true ∧ timedB now = true ∧ (refusedL fs port f n now).2 = (fs.t.inn port f n).1 ∧ (fs.t.inn port f n).2 = 0 ∧ grp f.src = false := by
  unfold refusedL at h ⊢
  split at h
  · cases h
  · rename_i h1
    rw [if_neg h1]
    simp only [Bool.or_eq_true, Bool.not_eq_true', not_or, Bool.not_eq_false] at h1
    split at h
    · cases h
    · rename_i h2
      rw [if_neg h2]
      split at h
      · cases h
      · rename_i h3
        rw [if_neg h3]
        split at h
        · cases h
        · rename_i h4
          rw [if_neg h4]
          split at h
          · cases h
          · rename_i h5
            rw [if_neg h5]
            exact ⟨h1.1, h1.2.1, h1.2.2, rfl, by simpa using h4, by simpa using h5⟩

theorem inn_isI {t : VT} {p : Int} {f : Frm} {n : Nat} (ht : t.ok) (hf : f.ok) : isI (t.inn p f n).1 := by
  have hz : isI 0 := isI_iff.2 (by decide)
  have hv : isI (if f.vlan = 0 then t.nat.getD p.toNat 0 else f.vlan) := by
    by_cases h0 : f.vlan = 0
    · rw [if_pos h0, List.getD_eq_getElem?_getD]
      cases hg : t.nat[p.toNat]? with
      | none => exact hz
      | some x =>
        have := ht.nat x (List.mem_of_getElem? hg)
        exact isI_iff.2 (by simp only [Option.getD_some]; omega)
    · rw [if_neg h0]
      exact hf.2.2.1
  unfold VT.inn
  by_cases h1 : t.port p ∧ f.right n = true
  · rw [if_pos h1]
    generalize (if f.vlan = 0 then t.nat.getD p.toNat 0 else f.vlan) = v at *
    simp only
    split
    · exact hv
    · exact hz
  · rw [if_neg h1]
    exact hz

section
variable {N0 bp vp vm vnb p pb o c sb so sc room : Nat} {ps : List Ent} {fs : FS}

section
variable {w0 : World} {f : Frm} {fb : Nat} {v : Int}
theorem se_ldT (h : BR N0 w0 bp vp vm vnb p pb o c sb so sc room ps fs) (hF : Fr none_ w0 w) {R : Value → World → Prop} (hk : R (pt p 0) w) : opS Tryz.prog (S.ld 42 (pt bp 1)) R w := by
  have := hF.heap h.blk fun h => h
  simp only [push_cast, Nat.reduceAdd, Nat.reduceLeDiff, Nat.reduceLT, Int.reduceToNat, Nat.left_eq_add, Nat.add_eq_left, Nat.add_left_cancel_iff, Nat.reduceEqDiff, Nat.add_assoc, Nat.succ_ne_zero, this]
  exact hk
theorem se_ldM (hb : w0.heap[fb]? = some (cellsO f.cells 27)) (hF : Fr none_ w0 w) {R : Value → World → Prop} (hk : R (.agg f.dst.cells.toArray) w) : opS Tryz.prog (S.ld 24 (pt fb 0)) R w := by
  have := hF.heap hb fun h => h
  have e : (f.cells.drop 0).take 6 = f.dst.cells := rfl
  simp only [push_cast, Nat.reduceAdd, Nat.reduceLeDiff, Nat.reduceLT, Int.reduceToNat, Nat.left_eq_add, Nat.add_eq_left, Nat.add_left_cancel_iff, Nat.reduceEqDiff, Nat.add_assoc, Nat.succ_ne_zero, this, frm_len, e]
  exact hk
theorem se_alloc (hF : Fr none_ w0 w) {R : Value → World → Prop} (hk : ∀ sl w', w'.heap[sl]? = some (cellsO zE.cells 40) → w0.heap.size ≤ sl → Fr none_ w0 w' → R (pt sl 0) w') : opS Tryz.prog (S.alloc 40) R w := by
  rw [zalloc_ent]
  refine hk _ _ ?_ hF.size (hF.trans ((Fr.refl _ _).step_alloc rfl))
  simp only [push_cast, Nat.reduceAdd, Nat.reduceLeDiff, Nat.reduceLT, Int.reduceToNat, Nat.left_eq_add, Nat.add_eq_left, Nat.add_left_cancel_iff, Nat.reduceEqDiff, Nat.add_assoc, Nat.succ_ne_zero]
theorem se_look (h : BR N0 w0 bp vp vm vnb p pb o c sb so sc room ps fs) (hv : isI v) (hm : f.dst.ok) (hF : Fr none_ w0 w) {R : Value → Value → World → Prop} (hk : ∀ w', Fr none_ w0 w' → Fr none_ w w' → R (.agg (lookL fs.r (v, f.dst)).1.cells.toArray) (.bool (lookL fs.r (v, f.dst)).2) w') :
    opS Tryz.prog (S.cl 15 [pt p 0, i64 v, .agg f.dst.cells.toArray]) (fun x => opS Tryz.prog (S.ext x 0) fun a => opS Tryz.prog (S.ext x 1) fun b => R a b) w := by
  simp only [push_cast, Nat.reduceAdd, Nat.reduceLeDiff, Nat.reduceLT, Int.reduceToNat, Nat.left_eq_add, Nat.add_eq_left, Nat.add_left_cancel_iff, Nat.reduceEqDiff, Nat.add_assoc, Nat.succ_ne_zero]
  refine look_spec (h.f.fr0 hF) hv hm fun w' hF' => ?_
  simp only [s_ext, List.getElem?_toArray, List.getElem?_cons_zero, List.getElem?_cons_succ, onS_some]
  exact hk w' (hF.trans hF') hF'
theorem se_st1 {g : Ent} {sl : Nat} {w1 : World} (hs : w1.heap[sl]? = some (cellsO zE.cells 40)) (hl : w0.heap.size ≤ sl) (hF1 : Fr none_ w1 w) (hF : Fr none_ w0 w) {R : Value → World → Prop} (hk : ∀ u w', w'.heap[sl]? = some (cellsO g.cells 40) → Fr none_ w0 w' → R u w') :
    opS Tryz.prog (S.st 40 (pt sl 0) (.agg g.cells.toArray)) R w := by
  have hs' := hF1.heap hs fun h => h
  rw [s_stA _ _ _ (Ent.cells_length g) (Ent.cells_one g), hs', okAt_cells]
  have e : splice zE.cells 0 g.cells = g.cells := rfl
  rw [show decide (0 + 10 ≤ zE.cells.length) = true from rfl, onB_true]
  refine hk _ _ ?_ (hF.step_wr (.inr hl) _ _)
  rw [heap_wr, if_pos rfl, hs', putAt_cells, e]
end

theorem sent_spec {v port : Int} {f : Frm} {bs : List Int} (h : BR N0 w bp vp vm vnb p pb o c sb so sc room ps fs) (hf : FrmR w f bs) (hv : isI v) (hpt : hasB fs.S port = true)
    (hk : ∀ x w', RdE 18 w' x ((sentL fs v port f bs.length).2.2.map outC) → New w x → Fr none_ w w' → K (.agg (wayC (sentL fs v port f bs.length).1 v (sentL fs v port f bs.length).2.1 x).toArray) w') :
    CallsR Tryz.prog 36 #[pt bp 0, i64 v, i64 port, .agg f.cells.toArray] K w := by
  apply c36
  unfold p36
  obtain ⟨hp1, hp2⟩ := hasB_iff.1 hpt
  have hlt0 := h.lt
  have hfw := hf
  rw [opS_box]
  show opS Tryz.prog (S.alloc 37) _ (w.alloc (cellsO f.cells 27))
  have hF1 : Fr none_ w (w.alloc (cellsO f.cells 27)) := (by repeat' first | with_reducible exact Fr.refl _ _ | with_reducible refine Fr.step_alloc ?_ ?_ | with_reducible refine Fr.step_drew ?_ | with_reducible refine Fr.step_wr ?_ ?_ _ _ | exact rfl | exact Or.inr (by omega) | exact Or.inl rfl | exact Or.inl (Or.inl rfl) | exact Or.inl (Or.inr rfl))
  have hf0 : (w.alloc (cellsO f.cells 27)).heap[w.heap.size]? = some (cellsO f.cells 27) := by simp only [push_cast, Nat.reduceAdd, Nat.reduceLeDiff, Nat.reduceLT, Int.reduceToNat, Nat.left_eq_add, Nat.add_eq_left, Nat.add_left_cancel_iff, Nat.reduceEqDiff, Nat.add_assoc, Nat.succ_ne_zero]
  replace h := h.fr0 hF1
  replace hf := hf.fr0 hF1
  have hs1 := lt_of_heap hf0
  generalize w.alloc (cellsO f.cells 27) = w1 at *
  rw [zalloc_way]
  have hF2 : Fr none_ w1 (w1.alloc (cellsO (wayC 0 0 0 (.slice none 0 0)) 37)) := (by repeat' first | with_reducible exact Fr.refl _ _ | with_reducible refine Fr.step_alloc ?_ ?_ | with_reducible refine Fr.step_drew ?_ | with_reducible refine Fr.step_wr ?_ ?_ _ _ | exact rfl | exact Or.inr (by omega) | exact Or.inl rfl | exact Or.inl (Or.inl rfl) | exact Or.inl (Or.inr rfl))
  have hr0 : (w1.alloc (cellsO (wayC 0 0 0 (.slice none 0 0)) 37)).heap[w1.heap.size]? = some (cellsO (wayC 0 0 0 (.slice none 0 0)) 37) := by simp only [push_cast, Nat.reduceAdd, Nat.reduceLeDiff, Nat.reduceLT, Int.reduceToNat, Nat.left_eq_add, Nat.add_eq_left, Nat.add_left_cancel_iff, Nat.reduceEqDiff, Nat.add_assoc, Nat.succ_ne_zero]
  replace h := h.fr0 hF2
  replace hf := hf.fr0 hF2
  replace hf0 := hF2.heap hf0 fun h => h
  have hF12 := hF1.trans hF2
  have hs2 := lt_of_heap hr0
  generalize w1.alloc (cellsO (wayC 0 0 0 (.slice none 0 0)) 37) = w2 at *
  rw [build_way1]
  refine way_slot fun _ w3 hw3 hF3 => ?_
  replace h := h.fr0 hF3
  replace hf := hf.fr0 hF3
  replace hf0 := hF3.heap hf0 fun h => h
  replace hr0 := hF3.heap hr0 fun h => h
  have hF03 := hF12.trans hF3
  have hs3 := lt_of_heap hw3
  have hrs : w1.heap.size ≠ w2.heap.size := by omega
  generalize hfb : w.heap.size = fb at *
  generalize hrb : w1.heap.size = rs at *
  generalize hwb : w2.heap.size = ws at *
  have hne1 : ws ≠ rs := fun e => hrs e.symm
  have hlo : w.heap.size ≤ rs ∧ w.heap.size ≤ ws := by omega
  have hok := hf.1
  -- behind the look
  have rest : ∀ sl w4, w4.heap[sl]? = some (cellsO (lookL fs.r (v, f.dst)).1.cells 40) → Fr none_ w3 w4 → sl ≠ ws → sl ≠ rs → BR N0 w4 bp vp vm vnb p pb o c sb so sc room ps fs ∧ FrmR w4 f bs ∧ w4.heap[fb]? = some (cellsO f.cells 27) ∧ w4.heap[rs]? = some (cellsO (wayC 0 0 0 (.slice none 0 0)) 37) ∧ w4.heap[ws]? = some (cellsO (wayC 0 v 0 (.slice none 0 0)) 37) ∧ Fr none_ w w4 :=
    fun sl w4 _ hF _ _ => ⟨h.fr0 hF, hf.fr0 hF, hF.heap hf0 fun h => h, hF.heap hr0 fun h => h, hF.heap hw3 fun h => h, hF03.trans hF⟩
  refine jn2 (fun a b w' => ∃ sl, a = pt sl 0 ∧ b = .bool (lookL fs.r (v, f.dst)).2 ∧ w'.heap[sl]? = some (cellsO (lookL fs.r (v, f.dst)).1.cells 40) ∧ w3.heap.size ≤ sl ∧ Fr none_ w3 w') ?_ fun j2 hj2 => ?_
  case refine_2 =>
    have hFd : Fr none_ w3 w3.drew := Fr.drew w3
    have hB2 := h.fr0 hFd
    have k4 := hFd.heap hf0 fun h => h
    simp only [push_cast, Nat.reduceAdd, Nat.reduceLeDiff, Nat.reduceLT, Int.reduceToNat, Nat.left_eq_add, Nat.add_eq_left, Nat.add_left_cancel_iff, Nat.reduceEqDiff, Nat.add_assoc, Nat.succ_ne_zero]
    have hds : w3.drew.heap.size = w3.heap.size := rfl
    generalize w3.drew = wd at *
    have hself : Fr none_ wd wd := Fr.refl _ _
    have hdst := hok.1
    have fin : ∀ sl w', w'.heap[sl]? = some (cellsO (lookL fs.r (v, f.dst)).1.cells 40) → wd.heap.size ≤ sl → Fr none_ wd w' → j2 (pt sl 0) (.bool (lookL fs.r (v, f.dst)).2) w' := fun sl w' hs hl hF => hj2 _ _ _ ⟨sl, rfl, rfl, hs, by omega, hFd.trans hF⟩
    clear rest hk
    repeat' first
      | with_reducible refine allW_intro ?_ ?_
      | with_reducible refine se_ldT hB2 (by assumption) ?_
      | with_reducible refine se_ldM k4 (by assumption) ?_
      | with_reducible refine se_alloc (w0 := wd) (by assumption) fun _ _ _ _ _ => ?_
      | with_reducible refine se_look hB2 hv hdst (by assumption) fun _ _ _ => ?_
      | (with_reducible refine se_st1 (w0 := wd) (by assumption) (by assumption) (by first | assumption | exact Fr.refl _ _) (by assumption) fun _ _ _ _ => ?_; exact fin _ _ (by assumption) (by assumption) (by assumption))
  rintro a b w4 ⟨sl, rfl, rfl, hsl, hsl3, hF4⟩
  obtain ⟨h4, hf4, hfb4, hr4, hw4, hF04⟩ := rest sl w4 hsl hF4 (by omega) (by omega)
  clear rest hF12 hF03 hF1 hF2 hF3 h hf hf0 hr0 hw3
  refine jn0 (fun w' => ∃ (cc tt : Int) (x : Value) (outs : List (Int × Frm)), w'.heap[ws]? = some (cellsO (wayC cc v tt x) 37) ∧ w'.heap[rs]? = some (cellsO (wayC 0 0 0 (.slice none 0 0)) 37) ∧ RdE 18 w' x (outs.map outC) ∧ (∀ b, blkS x = some b → ws < b) ∧ Fr none_ w w' ∧ endL2 cc tt outs = sentL fs v port f bs.length) ?_ fun j hj => ?_
  · rintro w5 ⟨cc, tt, x, outs, g1, g2, hx, hn, hF5, he⟩
    obtain ⟨xa, xc, rfl⟩ := hx.form
    rw [List.length_map] at hx hn g1
    rw [← he] at hk
    have fin : ∀ w' c', RdE 18 w' (.slice xa outs.length xc) (outs.map outC) → Fr none_ w w' → (c', tt, outs) = endL2 cc tt outs →
        K (.agg (wayC c' v tt (.slice xa outs.length xc)).toArray) (wr w' rs 0 (wayC c' v tt (.slice xa outs.length xc))) := by
      intro w' c' q3 q4 q5
      rw [← q5] at hk
      refine hk _ _ (q3.frame fun b hb => ?_) (fun b hb => by have := hn b hb; omega) (q4.step_wr (.inr hlo.1) _ _)
      have hb0 := hn b hb
      have e : b ≠ rs := by omega
      simp only [push_cast, Nat.reduceAdd, Nat.reduceLeDiff, Nat.reduceLT, Int.reduceToNat, Nat.left_eq_add, Nat.add_eq_left, Nat.add_left_cancel_iff, Nat.reduceEqDiff, Nat.add_assoc, Nat.succ_ne_zero, e]
    simp only [push_cast, Nat.reduceAdd, Nat.reduceLeDiff, Nat.reduceLT, Int.reduceToNat, Nat.left_eq_add, Nat.add_eq_left, Nat.add_left_cancel_iff, Nat.reduceEqDiff, Nat.add_assoc, Nat.succ_ne_zero, g1]
    refine br_intro (fun h0 => ?_) fun h0 => ?_
    · have h0 : cc = 0 := by simpa using h0
      refine br_intro (fun h1 => ?_) fun h1 => ?_
      · have h1 : outs = [] := by simpa using h1
        simp only [push_cast, Nat.reduceAdd, Nat.reduceLeDiff, Nat.reduceLT, Int.reduceToNat, Nat.left_eq_add, Nat.add_eq_left, Nat.add_left_cancel_iff, Nat.reduceEqDiff, Nat.add_assoc, Nat.succ_ne_zero, g1, g2, hne1, hne1.symm]
        refine fin _ 8 (hx.frame fun b hb => ?_) (hF5.step_wr (.inr hlo.2) _ _) (by unfold endL2; rw [if_pos ⟨h0, h1⟩, h1])
        have e : b ≠ ws := by
          have := hn b hb
          omega
        simp only [push_cast, Nat.reduceAdd, Nat.reduceLeDiff, Nat.reduceLT, Int.reduceToNat, Nat.left_eq_add, Nat.add_eq_left, Nat.add_left_cancel_iff, Nat.reduceEqDiff, Nat.add_assoc, Nat.succ_ne_zero, e]
      · have h1 : ¬ outs = [] := by simpa using h1
        simp only [push_cast, Nat.reduceAdd, Nat.reduceLeDiff, Nat.reduceLT, Int.reduceToNat, Nat.left_eq_add, Nat.add_eq_left, Nat.add_left_cancel_iff, Nat.reduceEqDiff, Nat.add_assoc, Nat.succ_ne_zero, g1, g2]
        exact fin _ cc hx hF5 (by unfold endL2; rw [if_neg (fun e => h1 e.2)])
    · have h0 : ¬ cc = 0 := by simpa using h0
      simp only [push_cast, Nat.reduceAdd, Nat.reduceLeDiff, Nat.reduceLT, Int.reduceToNat, Nat.left_eq_add, Nat.add_eq_left, Nat.add_left_cancel_iff, Nat.reduceEqDiff, Nat.add_assoc, Nat.succ_ne_zero, g1, g2]
      exact fin _ cc hx hF5 (by unfold endL2; rw [if_neg (fun e => h0 e.1)])
  · have hlt4 := h4.lt
    simp only [push_cast, Nat.reduceAdd, Nat.reduceLeDiff, Nat.reduceLT, Int.reduceToNat, Nat.left_eq_add, Nat.add_eq_left, Nat.add_left_cancel_iff, Nat.reduceEqDiff, Nat.add_assoc, Nat.succ_ne_zero, h4.blk, jn_0]
    refine st_get h4 (by omega) (by omega) ?_
    unfold sentL at hj
    simp only [push_cast, Nat.reduceAdd, Nat.reduceLeDiff, Nat.reduceLT, Int.reduceToNat, Nat.left_eq_add, Nat.add_eq_left, Nat.add_left_cancel_iff, Nat.reduceEqDiff, Nat.add_assoc, Nat.succ_ne_zero]
    refine br_intro (fun h0 => ?_) fun h0 => ?_
    · have h0 : fs.S.getD port.toNat 0 = 1 := by simpa using h0
      rw [if_pos h0] at hj
      simp only [push_cast, Nat.reduceAdd, Nat.reduceLeDiff, Nat.reduceLT, Int.reduceToNat, Nat.left_eq_add, Nat.add_eq_left, Nat.add_left_cancel_iff, Nat.reduceEqDiff, Nat.add_assoc, Nat.succ_ne_zero, hw4]
      refine hj _ ⟨6, 0, _, [], ?_, ?_, (own_nil 49 18 _).rd, (fun b hb => by cases hb), hF04.step_wr (.inr hlo.2) _ _, rfl⟩
      · simp only [push_cast, Nat.reduceAdd, Nat.reduceLeDiff, Nat.reduceLT, Int.reduceToNat, Nat.left_eq_add, Nat.add_eq_left, Nat.add_left_cancel_iff, Nat.reduceEqDiff, Nat.add_assoc, Nat.succ_ne_zero, hw4]
      · simp only [push_cast, Nat.reduceAdd, Nat.reduceLeDiff, Nat.reduceLT, Int.reduceToNat, Nat.left_eq_add, Nat.add_eq_left, Nat.add_left_cancel_iff, Nat.reduceEqDiff, Nat.add_assoc, Nat.succ_ne_zero, hr4, hne1, hne1.symm]
    have h0 : ¬ fs.S.getD port.toNat 0 = 1 := by simpa using h0
    rw [if_neg h0] at hj
    cases hat : atK fs.r (v, f.dst) with
    | none =>
      rw [hat] at hj
      have e2 : (lookL fs.r (v, f.dst)).2 = false := by unfold lookL; rw [hat]
      simp only [push_cast, Nat.reduceAdd, Nat.reduceLeDiff, Nat.reduceLT, Int.reduceToNat, Nat.left_eq_add, Nat.add_eq_left, Nat.add_left_cancel_iff, Nat.reduceEqDiff, Nat.add_assoc, Nat.succ_ne_zero, e2, hfb4, frm_len, frm_dw]
      refine relay_spec h4 hf4 fun x w5 hx hn hF5 => ?_
      have hn' : ∀ b, blkS x = some b → ws < b := fun b hb => by have := hn b hb; have := lt_of_heap hw4; omega
      have k1 := hF5.heap hw4 fun h => h
      have k2 := hF5.heap hr4 fun h => h
      obtain ⟨xa, xc, rfl⟩ := hx.form
      simp only [push_cast, Nat.reduceAdd, Nat.reduceLeDiff, Nat.reduceLT, Int.reduceToNat, Nat.left_eq_add, Nat.add_eq_left, Nat.add_left_cancel_iff, Nat.reduceEqDiff, Nat.add_assoc, Nat.succ_ne_zero, k1]
      refine hj _ ⟨0, 0, _, _, ?_, ?_, hx.frame fun b hb => ?_, hn', (hF04.trans hF5).step_wr (.inr hlo.2) _ _, ?_⟩
      · simp only [push_cast, Nat.reduceAdd, Nat.reduceLeDiff, Nat.reduceLT, Int.reduceToNat, Nat.left_eq_add, Nat.add_eq_left, Nat.add_left_cancel_iff, Nat.reduceEqDiff, Nat.add_assoc, Nat.succ_ne_zero, k1]
      · simp only [push_cast, Nat.reduceAdd, Nat.reduceLeDiff, Nat.reduceLT, Int.reduceToNat, Nat.left_eq_add, Nat.add_eq_left, Nat.add_left_cancel_iff, Nat.reduceEqDiff, Nat.add_assoc, Nat.succ_ne_zero, k2, hne1, hne1.symm]
      · have := hn' b hb
        have e : b ≠ ws := by omega
        simp only [push_cast, Nat.reduceAdd, Nat.reduceLeDiff, Nat.reduceLT, Int.reduceToNat, Nat.left_eq_add, Nat.add_eq_left, Nat.add_left_cancel_iff, Nat.reduceEqDiff, Nat.add_assoc, Nat.succ_ne_zero, e]
      · unfold endL2 endL
        simp only [true_and]
    | some g =>
      simp only [hat] at hj
      have e2 : lookL fs.r (v, f.dst) = (g, true) := by unfold lookL; rw [hat]
      rw [e2] at hsl
      simp only [push_cast, Nat.reduceAdd, Nat.reduceLeDiff, Nat.reduceLT, Int.reduceToNat, Nat.left_eq_add, Nat.add_eq_left, Nat.add_left_cancel_iff, Nat.reduceEqDiff, Nat.add_assoc, Nat.succ_ne_zero, e2, hsl]
      refine br_intro (fun h1 => ?_) fun h1 => ?_
      · have h1 : g.port = port := by simpa using h1
        rw [if_pos h1] at hj
        simp only [push_cast, Nat.reduceAdd, Nat.reduceLeDiff, Nat.reduceLT, Int.reduceToNat, Nat.left_eq_add, Nat.add_eq_left, Nat.add_left_cancel_iff, Nat.reduceEqDiff, Nat.add_assoc, Nat.succ_ne_zero, hw4]
        refine hj _ ⟨7, 0, _, [], ?_, ?_, (own_nil 49 18 _).rd, (fun b hb => by cases hb), hF04.step_wr (.inr hlo.2) _ _, rfl⟩
        · simp only [push_cast, Nat.reduceAdd, Nat.reduceLeDiff, Nat.reduceLT, Int.reduceToNat, Nat.left_eq_add, Nat.add_eq_left, Nat.add_left_cancel_iff, Nat.reduceEqDiff, Nat.add_assoc, Nat.succ_ne_zero, hw4]
        · simp only [push_cast, Nat.reduceAdd, Nat.reduceLeDiff, Nat.reduceLT, Int.reduceToNat, Nat.left_eq_add, Nat.add_eq_left, Nat.add_left_cancel_iff, Nat.reduceEqDiff, Nat.add_assoc, Nat.succ_ne_zero, hr4, hne1, hne1.symm]
      have h1 : ¬ g.port = port := by simpa using h1
      rw [if_neg h1] at hj
      simp only [push_cast, Nat.reduceAdd, Nat.reduceLeDiff, Nat.reduceLT, Int.reduceToNat, Nat.left_eq_add, Nat.add_eq_left, Nat.add_left_cancel_iff, Nat.reduceEqDiff, Nat.add_assoc, Nat.succ_ne_zero, hw4]
      refine br_dec (fun h2 => ?_) fun h2 => ?_
      · rw [if_pos h2] at hj
        generalize hwa : wr w4 ws 2 [i64 g.port] = wa at *
        have hFa : Fr (fun b => b = ws) w4 wa := by rw [← hwa]; exact Fr.step_wr (fp := fun b => b = ws) (Fr.refl _ _) (.inl rfl) _ _
        have hF0a : Fr none_ w wa := by rw [← hwa]; exact hF04.step_wr (.inr hlo.2) _ _
        have h5 : BR N0 wa bp vp vm vnb p pb o c sb so sc room ps fs := h4.fr hFa fun b hb => by omega
        have hf5 : FrmR wa f bs := frm_keep hfw hf4 hFa fun b hb => by omega
        have k0 : wa.heap[fb]? = some (cellsO f.cells 27) := hFa.heap hfb4 (by omega)
        have k1 : wa.heap[ws]? = some (cellsO (wayC 0 v g.port (.slice none 0 0)) 37) := by rw [← hwa]; simp only [push_cast, Nat.reduceAdd, Nat.reduceLeDiff, Nat.reduceLT, Int.reduceToNat, Nat.left_eq_add, Nat.add_eq_left, Nat.add_left_cancel_iff, Nat.reduceEqDiff, Nat.add_assoc, Nat.succ_ne_zero, hw4]
        have k2 : wa.heap[rs]? = some (cellsO (wayC 0 0 0 (.slice none 0 0)) 37) := hFa.heap hr4 (by omega)
        have hfs : fb ≠ ws := by omega
        rw [if_neg hfs, hfb4]
        simp only [push_cast, Nat.reduceAdd, Nat.reduceLeDiff, Nat.reduceLT, Int.reduceToNat, Nat.left_eq_add, Nat.add_eq_left, Nat.add_left_cancel_iff, Nat.reduceEqDiff, Nat.add_assoc, Nat.succ_ne_zero, frm_len, frm_dw]
        refine relay_spec h5 hf5 fun x w5 hx hn hF5 => ?_
        have hn' : ∀ b, blkS x = some b → ws < b := fun b hb => by have := hn b hb; have := lt_of_heap k1; omega
        replace k1 := hF5.heap k1 fun h => h
        replace k2 := hF5.heap k2 fun h => h
        obtain ⟨xa, xc, rfl⟩ := hx.form
        simp only [push_cast, Nat.reduceAdd, Nat.reduceLeDiff, Nat.reduceLT, Int.reduceToNat, Nat.left_eq_add, Nat.add_eq_left, Nat.add_left_cancel_iff, Nat.reduceEqDiff, Nat.add_assoc, Nat.succ_ne_zero, k1]
        refine hj _ ⟨0, g.port, _, _, ?_, ?_, hx.frame fun b hb => ?_, hn', (hF0a.trans hF5).step_wr (.inr hlo.2) _ _, ?_⟩
        · simp only [push_cast, Nat.reduceAdd, Nat.reduceLeDiff, Nat.reduceLT, Int.reduceToNat, Nat.left_eq_add, Nat.add_eq_left, Nat.add_left_cancel_iff, Nat.reduceEqDiff, Nat.add_assoc, Nat.succ_ne_zero, k1]
        · simp only [push_cast, Nat.reduceAdd, Nat.reduceLeDiff, Nat.reduceLT, Int.reduceToNat, Nat.left_eq_add, Nat.add_eq_left, Nat.add_left_cancel_iff, Nat.reduceEqDiff, Nat.add_assoc, Nat.succ_ne_zero, k2, hne1, hne1.symm]
        · have := hn' b hb
          have e : b ≠ ws := by omega
          simp only [push_cast, Nat.reduceAdd, Nat.reduceLeDiff, Nat.reduceLT, Int.reduceToNat, Nat.left_eq_add, Nat.add_eq_left, Nat.add_left_cancel_iff, Nat.reduceEqDiff, Nat.add_assoc, Nat.succ_ne_zero, e]
        · unfold endL2 endL
          simp only [true_and]
      · rw [if_neg h2] at hj
        refine hj _ ⟨0, g.port, _, [], ?_, ?_, (own_nil 49 18 _).rd, (fun b hb => by cases hb), hF04.step_wr (.inr hlo.2) _ _, ?_⟩
        · simp only [push_cast, Nat.reduceAdd, Nat.reduceLeDiff, Nat.reduceLT, Int.reduceToNat, Nat.left_eq_add, Nat.add_eq_left, Nat.add_left_cancel_iff, Nat.reduceEqDiff, Nat.add_assoc, Nat.succ_ne_zero, hw4]
        · simp only [push_cast, Nat.reduceAdd, Nat.reduceLeDiff, Nat.reduceLT, Int.reduceToNat, Nat.left_eq_add, Nat.add_eq_left, Nat.add_left_cancel_iff, Nat.reduceEqDiff, Nat.add_assoc, Nat.succ_ne_zero, hr4, hne1, hne1.symm]
        · rfl

end
end Go.Gx.S
end

section
/- A bridge: a frame is taken. -/
set_option linter.unusedVariables false
set_option linter.unusedSimpArgs false
set_option maxRecDepth 100000
namespace Go.Gx.S
open Go Go.Gx Go.Proofs
variable {K : Value → World → Prop} {w : World}

theorem way_cause {c v t : Int} {o : Value} {b : Nat} {R : Value → World → Prop} (h : w.heap[b]? = some (cellsO (wayC c v t o) 37)) (hk : R (i64 c) w) : opS Tryz.prog (S.fa 37 (pt b 0) 0) (fun x => opS Tryz.prog (S.ld 3 x) R) w := by
  simp only [push_cast, Nat.reduceAdd, Nat.reduceLeDiff, Nat.reduceLT, Int.reduceToNat, Nat.left_eq_add, Nat.add_eq_left, Nat.add_left_cancel_iff, Nat.reduceEqDiff, Nat.add_assoc, Nat.succ_ne_zero, h]
  exact hk

section
variable {N0 bp vp vm vnb p pb o c sb so sc room : Nat} {ps : List Ent} {fs : FS}

theorem learnF_same (fs : FS) (v : Int) (m : Mac) (port now : Int) : (learnF room fs v m port now).t = fs.t ∧ (learnF room fs v m port now).S = fs.S ∧ (learnF room fs v m port now).N = fs.N := ⟨rfl, rfl, rfl⟩

theorem btake_spec {port now : Int} {f : Frm} {bs : List Int} (ht : fs.t.ok) (h : BR N0 w bp vp vm vnb p pb o c sb so sc room ps fs) (hf : FrmR w f bs) (hfl : ∃ w0 : World, FrmR w0 f bs ∧ w0.heap.size ≤ N0) (hpi : isI port) (hni : isI now)
    (hk : ∀ x w' ps', BR N0 w' bp vp vm vnb p pb o c sb so sc room ps' (takeA room fs port f bs.length now).1 → RdE 18 w' x ((takeA room fs port f bs.length now).2.2.2.2.map outC) → New w x → Fr (lfp bp p pb) w w' →
      K (.agg (wayC (takeA room fs port f bs.length now).2.1 (takeA room fs port f bs.length now).2.2.1 (takeA room fs port f bs.length now).2.2.2.1 x).toArray) w') :
    CallsR Tryz.prog 13 #[pt bp 0, i64 port, .agg f.cells.toArray, i64 now] K w := by
  apply c13
  unfold p13
  have hlt0 := h.lt
  have hfw := hf
  rw [opS_box]
  show opS Tryz.prog (S.alloc 37) _ (w.alloc (cellsO f.cells 27))
  have hF1 : Fr none_ w (w.alloc (cellsO f.cells 27)) := (by repeat' first | with_reducible exact Fr.refl _ _ | with_reducible refine Fr.step_alloc ?_ ?_ | with_reducible refine Fr.step_drew ?_ | with_reducible refine Fr.step_wr ?_ ?_ _ _ | exact rfl | exact Or.inr (by omega) | exact Or.inl rfl | exact Or.inl (Or.inl rfl) | exact Or.inl (Or.inr rfl))
  have hf0 : (w.alloc (cellsO f.cells 27)).heap[w.heap.size]? = some (cellsO f.cells 27) := by simp only [push_cast, Nat.reduceAdd, Nat.reduceLeDiff, Nat.reduceLT, Int.reduceToNat, Nat.left_eq_add, Nat.add_eq_left, Nat.add_left_cancel_iff, Nat.reduceEqDiff, Nat.add_assoc, Nat.succ_ne_zero]
  replace h := h.fr0 hF1
  replace hf := hf.fr0 hF1
  have hs1 := lt_of_heap hf0
  generalize w.alloc (cellsO f.cells 27) = w1 at *
  rw [zalloc_way]
  have hF2 : Fr none_ w1 (w1.alloc (cellsO (wayC 0 0 0 (.slice none 0 0)) 37)) := (by repeat' first | with_reducible exact Fr.refl _ _ | with_reducible refine Fr.step_alloc ?_ ?_ | with_reducible refine Fr.step_drew ?_ | with_reducible refine Fr.step_wr ?_ ?_ _ _ | exact rfl | exact Or.inr (by omega) | exact Or.inl rfl | exact Or.inl (Or.inl rfl) | exact Or.inl (Or.inr rfl))
  have hr0 : (w1.alloc (cellsO (wayC 0 0 0 (.slice none 0 0)) 37)).heap[w1.heap.size]? = some (cellsO (wayC 0 0 0 (.slice none 0 0)) 37) := by simp only [push_cast, Nat.reduceAdd, Nat.reduceLeDiff, Nat.reduceLT, Int.reduceToNat, Nat.left_eq_add, Nat.add_eq_left, Nat.add_left_cancel_iff, Nat.reduceEqDiff, Nat.add_assoc, Nat.succ_ne_zero]
  replace h := h.fr0 hF2
  replace hf := hf.fr0 hF2
  replace hf0 := hF2.heap hf0 fun h => h
  replace hF1 := hF1.trans hF2
  have hs2 := lt_of_heap hr0
  generalize w1.alloc (cellsO (wayC 0 0 0 (.slice none 0 0)) 37) = w2 at *
  simp only [push_cast, Nat.reduceAdd, Nat.reduceLeDiff, Nat.reduceLT, Int.reduceToNat, Nat.left_eq_add, Nat.add_eq_left, Nat.add_left_cancel_iff, Nat.reduceEqDiff, Nat.add_assoc, Nat.succ_ne_zero, hf0, frm_len, frm_dw]
  refine refused_spec h hf fun w3 hF3 => ?_
  replace h := h.fr0 hF3
  replace hf := hf.fr0 hF3
  replace hf0 := hF3.heap hf0 fun h => h
  replace hr0 := hF3.heap hr0 fun h => h
  replace hF1 := hF1.trans hF3
  have hs3 := lt_of_heap hr0
  generalize hca : (refusedL fs port f bs.length now).1 = ca at *
  generalize hva : (refusedL fs port f bs.length now).2 = va at *
  simp only [s_ext, List.getElem?_toArray, List.getElem?_cons_zero, List.getElem?_cons_succ, onS_some]
  rw [build_way2]
  refine way_slot fun _ w4 hw4 hF4 => ?_
  replace h := h.fr0 hF4
  replace hf := hf.fr0 hF4
  replace hf0 := hF4.heap hf0 fun h => h
  replace hr0 := hF4.heap hr0 fun h => h
  replace hF1 := hF1.trans hF4
  have hs4 := lt_of_heap hw4
  generalize hfb : w.heap.size = fb at *
  generalize hrb : w1.heap.size = rs at *
  generalize hwb : w3.heap.size = ws at *
  have hrng := refusedL_range fs port f bs.length now
  rw [hca] at hrng
  refine jn0 (fun w' => ∃ (cc vv tt : Int) (x : Value) (outs : List (Int × Frm)) (fs' : FS) (ps' : List Ent), w'.heap[ws]? = some (cellsO (wayC cc vv tt x) 37) ∧ w'.heap[rs]? = some (cellsO (wayC 0 0 0 (.slice none 0 0)) 37) ∧ RdE 18 w' x (outs.map outC) ∧ (∀ b, blkS x = some b → ws < b) ∧ Fr (lfp bp p pb) w w' ∧ BR N0 w' bp vp vm vnb p pb o c sb so sc room ps' fs' ∧ 0 ≤ cc ∧ cc < 9 ∧ takeA room fs port f bs.length now = ({ fs' with N := incr fs'.N cc.toNat }, cc, vv, tt, outs)) ?_ fun j hj => ?_
  · rintro w5 ⟨cc, vv, tt, x, outs, fs', ps', g1, g2, hx, hn, hF5, h5, c1, c2, he⟩
    rw [he] at hk
    refine way_cause (w := w5.drew) g1 ?_
    refine cnt_n (k := cc.toNat) (by omega) (by omega) (h5.fr0 (Fr.drew w5)) fun w6 h6 hF6 => ?_
    have hF56 : Fr (fun b => b = bp) w5 w6 := ((Fr.drew w5 : Fr none_ w5 w5.drew).mono fun _ _ e => e.elim).trans_new hF6 fun b _ e => e
    have hb6 : bp < fb := hlt0.1
    replace g1 := hF56.heap g1 (by omega)
    replace g2 := hF56.heap g2 (by omega)
    obtain ⟨xa, xc, rfl⟩ := hx.form
    have hne : rs ≠ ws := by omega
    simp only [push_cast, Nat.reduceAdd, Nat.reduceLeDiff, Nat.reduceLT, Int.reduceToNat, Nat.left_eq_add, Nat.add_eq_left, Nat.add_left_cancel_iff, Nat.reduceEqDiff, Nat.add_assoc, Nat.succ_ne_zero, g1, g2]
    have hx6 := hx.fr hF56 fun b hb => by have := hn b hb; omega
    have hlo : w.heap.size ≤ rs := by omega
    refine hk _ _ ps' (h6.fr (Fr.step_wr (fp := fun b => b = rs) (Fr.refl _ _) (.inl rfl) _ _) fun b hb => by omega) (hx6.frame fun b hb => ?_) (fun b hb => by have := hn b hb; omega) ?_
    · have := hn b hb
      have e : b ≠ rs := by omega
      simp only [push_cast, Nat.reduceAdd, Nat.reduceLeDiff, Nat.reduceLT, Int.reduceToNat, Nat.left_eq_add, Nat.add_eq_left, Nat.add_left_cancel_iff, Nat.reduceEqDiff, Nat.add_assoc, Nat.succ_ne_zero, e]
    · exact (hF5.trans_new hF56 fun b _ e => .inl e).step_wr (.inr hlo) _ _
  · simp only [push_cast, Nat.reduceAdd, Nat.reduceLeDiff, Nat.reduceLT, Int.reduceToNat, Nat.left_eq_add, Nat.add_eq_left, Nat.add_left_cancel_iff, Nat.reduceEqDiff, Nat.add_assoc, Nat.succ_ne_zero]
    refine br_intro (fun h0 => ?_) fun h0 => ?_
    · have h0 : ca = 0 := by simpa using h0
      obtain ⟨e1, e2, e3, e4, e5, e6⟩ := refusedL_port (hca.trans h0)
      have hok := hf.1
      have hvi : isI va := by
        have := inn_isI (p := port) (n := bs.length) ht hok
        rw [← e4, hva] at this
        exact this
      have esrc : (f.cells.drop 6).take 6 = f.src.cells := rfl
      simp only [push_cast, Nat.reduceAdd, Nat.reduceLeDiff, Nat.reduceLT, Int.reduceToNat, Nat.left_eq_add, Nat.add_eq_left, Nat.add_left_cancel_iff, Nat.reduceEqDiff, Nat.add_assoc, Nat.succ_ne_zero, hf0, frm_len, frm_dw, esrc]
      refine blearn_spec h hvi hok.2.1 hpi hni fun w5 ps5 h5 hF5 => ?_
      have hge := h.ge
      obtain ⟨w0, hw0, hw0n⟩ := hfl
      have hf5 := frm_keep hw0 hf hF5 fun b hb e => by have : b = bp ∨ b = p ∨ b = pb := e; omega
      have hnl : ∀ b, ws ≤ b ∨ b = fb ∨ b = rs → ¬ lfp bp p pb b := fun b hb e => by have : b = bp ∨ b = p ∨ b = pb := e; omega
      replace hf0 := hF5.heap hf0 (hnl _ (.inr (.inl rfl)))
      replace hr0 := hF5.heap hr0 (hnl _ (.inr (.inr rfl)))
      replace hw4 := hF5.heap hw4 (hnl _ (.inl (Nat.le_refl _)))
      have hF05 : Fr (lfp bp p pb) w w5 := (hF1.mono fun _ _ e => e.elim).trans hF5
      have hs5 := lt_of_heap hw4
      simp only [push_cast, Nat.reduceAdd, Nat.reduceLeDiff, Nat.reduceLT, Int.reduceToNat, Nat.left_eq_add, Nat.add_eq_left, Nat.add_left_cancel_iff, Nat.reduceEqDiff, Nat.add_assoc, Nat.succ_ne_zero, hf0, frm_len, frm_dw]
      refine sent_spec h5 hf5 hvi e1 fun x w6 hx hn hF6 => ?_
      replace hr0 := hF6.heap hr0 fun h => h
      replace hw4 := hF6.heap hw4 fun h => h
      have hn' : ∀ b, blkS x = some b → ws < b := fun b hb => by have := hn b hb; omega
      have hr := sentL_range (learnF room fs va f.src port now) va port f bs.length
      obtain ⟨xa, xc, rfl⟩ := hx.form
      simp only [push_cast, Nat.reduceAdd, Nat.reduceLeDiff, Nat.reduceLT, Int.reduceToNat, Nat.left_eq_add, Nat.add_eq_left, Nat.add_left_cancel_iff, Nat.reduceEqDiff, Nat.add_assoc, Nat.succ_ne_zero, hw4]
      have hlo : w.heap.size ≤ ws := by omega
      refine hj _ ⟨_, va, (sentL (learnF room fs va f.src port now) va port f bs.length).2.1, _, _, learnF room fs va f.src port now, ps5, ?_, ?_, hx.frame fun b hb => ?_, hn', ((hF05.trans_new hF6 fun _ _ e => e.elim).step_wr (.inr hlo) _ _), (h5.fr0 hF6).fr (Fr.step_wr (fp := fun b => b = ws) (Fr.refl _ _) (.inl rfl) _ _) fun b hb => by omega, hr.1, hr.2, ?_⟩
      · simp only [push_cast, Nat.reduceAdd, Nat.reduceLeDiff, Nat.reduceLT, Int.reduceToNat, Nat.left_eq_add, Nat.add_eq_left, Nat.add_left_cancel_iff, Nat.reduceEqDiff, Nat.add_assoc, Nat.succ_ne_zero, hw4]
      · have hne : rs ≠ ws := by omega
        simp only [push_cast, Nat.reduceAdd, Nat.reduceLeDiff, Nat.reduceLT, Int.reduceToNat, Nat.left_eq_add, Nat.add_eq_left, Nat.add_left_cancel_iff, Nat.reduceEqDiff, Nat.add_assoc, Nat.succ_ne_zero, hr0, hne, hne.symm]
      · have := hn' b hb
        have e : b ≠ ws := by omega
        simp only [push_cast, Nat.reduceAdd, Nat.reduceLeDiff, Nat.reduceLT, Int.reduceToNat, Nat.left_eq_add, Nat.add_eq_left, Nat.add_left_cancel_iff, Nat.reduceEqDiff, Nat.add_assoc, Nat.succ_ne_zero, e]
      · unfold takeA
        rw [hca, hva, if_pos h0]
        rfl
    · have h0 : ¬ ca = 0 := by simpa using h0
      refine hj _ ⟨ca, va, 0, _, [], fs, ps, hw4, hr0, (own_nil 49 18 _).rd, (fun b hb => by cases hb), hF1.mono fun _ _ e => e.elim, h, hrng.1, hrng.2, ?_⟩
      unfold takeA
      rw [hca, hva, if_neg h0]

theorem ints_one (l : List Int) : (l.map i64).all S.oneCell = true := by
  rw [List.all_map]
  exact List.all_eq_true.2 fun x _ => rfl
theorem brC_dn {sl : Value} {N Ln : List Int} (hN : N.length = 9) : ((brC vp p sl N Ln).drop 3).take 9 = N.map i64 := by
  show (N.map i64 ++ Ln.map i64).take 9 = _
  rw [List.take_left' (by rw [List.length_map, hN])]
theorem brC_dl {sl : Value} {N Ln : List Int} (hN : N.length = 9) (hL : Ln.length = 3) : ((brC vp p sl N Ln).drop 12).take 3 = Ln.map i64 := by
  show ((N.map i64 ++ Ln.map i64).drop 9).take 3 = _
  rw [List.drop_left' (by rw [List.length_map, hN]), List.take_of_length_le (by rw [List.length_map, hL]; omega)]
/-- all of a block that lies anew is written, and read -/
theorem new_put {T : TypeId} {n : Nat} [hs : Sz Tryz.prog T n true] {b : Nat} {x l : List Value} {R : Value → World → Prop} (h : w.heap[b]? = some (cellsO l T)) (hn : 0 < n) (hl : l.length = n) (hx : x.length = n) (h1 : x.all S.oneCell = true)
    (hk : R (.agg x.toArray) (wr w b 0 x)) : opS Tryz.prog (S.st T (pt b 0) (.agg x.toArray)) (fun _ => opS Tryz.prog (S.ld T (pt b 0)) R) w := by
  have e : (wr w b 0 x).heap[b]? = some (cellsO x T) := by
    rw [heap_wr, if_pos rfl, h, putAt_cells]
    have : splice l 0 x = x := by
      unfold splice
      simp [hl, hx]
    rw [this]
  rw [s_stA _ _ x hx h1, h, okAt_cells, decide_eq_true (by omega), onB_true, s_ldN hn, e, aggAt_cells, if_pos (by omega)]
  simp only [List.drop_zero, onS_some]
  rw [List.take_of_length_le (by omega)]
  exact hk
theorem counts_spec (h : BR N0 w bp vp vm vnb p pb o c sb so sc room ps fs) (hk : ∀ w', Fr none_ w w' → K (.agg (fs.N.map i64).toArray) w') : CallsR Tryz.prog 22 #[pt bp 0] K w := by
  apply c22
  unfold p22
  have hne : bp ≠ w.heap.size := by have := h.lt; omega
  have e := brC_dn (vp := vp) (p := p) (sl := .slice (some ⟨sb, so, none⟩) fs.S.length sc) (Ln := fs.Ln) h.nl
  have hl := h.len
  simp only [push_cast, Nat.reduceAdd, Nat.reduceLeDiff, Nat.reduceLT, Int.reduceToNat, Nat.left_eq_add, Nat.add_eq_left, Nat.add_left_cancel_iff, Nat.reduceEqDiff, Nat.add_assoc, Nat.succ_ne_zero, h.blk, hne, e, hl]
  refine new_put (l := List.replicate 9 (i64 0)) ?_ (by decide) (List.length_replicate ..) (by rw [List.length_map, h.nl]) (ints_one _) (hk _ (by repeat' first | with_reducible exact Fr.refl _ _ | with_reducible refine Fr.step_alloc ?_ ?_ | with_reducible refine Fr.step_drew ?_ | with_reducible refine Fr.step_wr ?_ ?_ _ _ | exact rfl | exact Or.inr (by omega) | exact Or.inl rfl | exact Or.inl (Or.inl rfl) | exact Or.inl (Or.inr rfl)))
  simp only [push_cast, Nat.reduceAdd, Nat.reduceLeDiff, Nat.reduceLT, Int.reduceToNat, Nat.left_eq_add, Nat.add_eq_left, Nat.add_left_cancel_iff, Nat.reduceEqDiff, Nat.add_assoc, Nat.succ_ne_zero]
  rfl
theorem learned_spec (h : BR N0 w bp vp vm vnb p pb o c sb so sc room ps fs) (hk : ∀ w', Fr none_ w w' → K (.agg (fs.Ln.map i64).toArray) w') : CallsR Tryz.prog 68 #[pt bp 0] K w := by
  apply c68
  unfold p68
  have hne : bp ≠ w.heap.size := by have := h.lt; omega
  have e := brC_dl (vp := vp) (p := p) (sl := .slice (some ⟨sb, so, none⟩) fs.S.length sc) h.nl h.ll
  have hl := h.len
  simp only [push_cast, Nat.reduceAdd, Nat.reduceLeDiff, Nat.reduceLT, Int.reduceToNat, Nat.left_eq_add, Nat.add_eq_left, Nat.add_left_cancel_iff, Nat.reduceEqDiff, Nat.add_assoc, Nat.succ_ne_zero, h.blk, hne, e, hl]
  refine new_put (l := List.replicate 3 (i64 0)) ?_ (by decide) (List.length_replicate ..) (by rw [List.length_map, h.ll]) (ints_one _) (hk _ (by repeat' first | with_reducible exact Fr.refl _ _ | with_reducible refine Fr.step_alloc ?_ ?_ | with_reducible refine Fr.step_drew ?_ | with_reducible refine Fr.step_wr ?_ ?_ _ _ | exact rfl | exact Or.inr (by omega) | exact Or.inl rfl | exact Or.inl (Or.inl rfl) | exact Or.inl (Or.inr rfl)))
  simp only [push_cast, Nat.reduceAdd, Nat.reduceLeDiff, Nat.reduceLT, Int.reduceToNat, Nat.left_eq_add, Nat.add_eq_left, Nat.add_left_cancel_iff, Nat.reduceEqDiff, Nat.add_assoc, Nat.succ_ne_zero]
  rfl
end
end Go.Gx.S
end

section
/- The document's bridge: its ports, and what it learns. -/
set_option linter.unusedVariables false
set_option linter.unusedSimpArgs false
set_option maxRecDepth 100000
namespace Go.Gx.S
open Go Go.Gx Go.Proofs
variable {K : Value → World → Prop} {w : World}

def rbC (n : Int) (vq fq : Nat) (sl : Value) (N Ln : List Int) : List Value := i64 n :: pt vq 0 :: pt fq 0 :: sl :: (N.map i64 ++ Ln.map i64)

structure RBR (D : Nat → Prop) (N0 : Nat) (w : World) (rb vq vnb : Nat) (vL : Value) (fq : Nat) (fL : Value) (sb so sc room : Nat) (fs : FS) : Prop where
  blk : w.heap[rb]? = some (cellsO (rbC ((fs.S.length : Int) - 1) vq fq (.slice (some ⟨sb, so, none⟩) fs.S.length sc) fs.N fs.Ln) 113)
  v : Vl.RRep w vq vnb vL fs.t
  f : RT w fq room fL fs.r
  s : OwnE 3 1 w (.slice (some ⟨sb, so, none⟩) fs.S.length sc) (fs.S.map cellI)
  nl : fs.N.length = 9
  ll : fs.Ln.length = 3
  sl : 2 ≤ fs.S.length ∧ fs.S.length ≤ 64
  z0 : fs.S.getD 0 0 = 0
  dv : ∀ b, Vl.rfp vq vnb vL b → b ≠ rb ∧ b ≠ sb ∧ ¬ rp fq fL b ∧ N0 ≤ b ∧ ¬ D b
  df : ∀ b, rp fq fL b → b ≠ rb ∧ b ≠ sb ∧ N0 ≤ b ∧ ¬ D b
  ds : rb ≠ sb ∧ N0 ≤ rb ∧ N0 ≤ sb ∧ ¬ D rb ∧ ¬ D sb
  dl : ∀ b, D b → b < w.heap.size

/-- its own blocks -/
def rwf (rb sb vq vnb : Nat) (vL : Value) (fq : Nat) (fL : Value) (b : Nat) : Prop := b = rb ∨ b = sb ∨ Vl.rfp vq vnb vL b ∨ rp fq fL b

section
variable {D : Nat → Prop} {N0 rb vq vnb : Nat} {vL : Value} {fq : Nat} {fL : Value} {sb so sc room : Nat} {fs : FS}
theorem RBR.fr {fp : Nat → Prop} {w' : World} (h : RBR D N0 w rb vq vnb vL fq fL sb so sc room fs) (hF : Fr fp w w') (hn : ∀ b, rwf rb sb vq vnb vL fq fL b → ¬ fp b) : RBR D N0 w' rb vq vnb vL fq fL sb so sc room fs :=
  ⟨hF.heap h.blk (hn _ (.inl rfl)), h.v.fr hF (hn _ (.inr (.inr (.inl (.inl rfl))))) (hn _ (.inr (.inr (.inl (.inr (.inl rfl)))))) (fun b hb => hn _ (.inr (.inr (.inl (.inr (.inr hb)))))),
    h.f.fr hF (hn _ (.inr (.inr (.inr (.inl rfl))))) (fun b hb => hn _ (.inr (.inr (.inr (.inr hb))))), h.s.fr hF (fun b hb => by simp only [blkS, Option.some.injEq] at hb; exact hn _ (.inr (.inl hb.symm))), h.nl, h.ll, h.sl, h.z0, h.dv, h.df, h.ds, fun b hb => Nat.lt_of_lt_of_le (h.dl b hb) hF.size⟩
theorem RBR.fr0 {w' : World} (h : RBR D N0 w rb vq vnb vL fq fL sb so sc room fs) (hF : Fr none_ w w') : RBR D N0 w' rb vq vnb vL fq fL sb so sc room fs := h.fr hF fun _ _ h => h
theorem RBR.ge (h : RBR D N0 w rb vq vnb vL fq fL sb so sc room fs) {b : Nat} (hb : rwf rb sb vq vnb vL fq fL b) : N0 ≤ b ∧ ¬ D b := by
  have hds := h.ds
  rcases hb with rfl | rfl | hb | hb
  · exact ⟨hds.2.1, hds.2.2.2.1⟩
  · exact ⟨hds.2.2.1, hds.2.2.2.2⟩
  · exact ⟨(h.dv b hb).2.2.2.1, (h.dv b hb).2.2.2.2⟩
  · exact ⟨(h.df b hb).2.2.1, (h.df b hb).2.2.2⟩
theorem RBR.lt (h : RBR D N0 w rb vq vnb vL fq fL sb so sc room fs) {b : Nat} (hb : rwf rb sb vq vnb vL fq fL b) : b < w.heap.size := by
  rcases hb with rfl | rfl | hb | hb
  · exact lt_of_heap h.blk
  · exact h.s.lt (b := b) rfl
  · rcases hb with rfl | rfl | hb
    · exact h.v.lt.1
    · exact h.v.lt.2
    · exact h.v.lst.lt hb
  · rcases hb with rfl | hb
    · exact lt_of_heap h.f.blk
    · exact h.f.own.lt hb
theorem RBR.len (h : RBR D N0 w rb vq vnb vL fq fL sb so sc room fs) : (rbC ((fs.S.length : Int) - 1) vq fq (.slice (some ⟨sb, so, none⟩) fs.S.length sc) fs.N fs.Ln).length = 16 := by
  simp [rbC, h.nl, h.ll]
/-- its own cells are written -/
theorem RBR.own {w' : World} {N' Ln' : List Int} (h : RBR D N0 w rb vq vnb vL fq fL sb so sc room fs) (hF : Fr (fun b => b = rb) w w') (hb : w'.heap[rb]? = some (cellsO (rbC ((fs.S.length : Int) - 1) vq fq (.slice (some ⟨sb, so, none⟩) fs.S.length sc) N' Ln') 113)) (hn : N'.length = 9) (hl : Ln'.length = 3) :
    RBR D N0 w' rb vq vnb vL fq fL sb so sc room { fs with N := N', Ln := Ln' } :=
  ⟨hb, h.v.fr hF (h.dv _ (.inl rfl)).1 (h.dv _ (.inr (.inl rfl))).1 (fun b hb => (h.dv _ (.inr (.inr hb))).1), h.f.fr hF (h.df _ (.inl rfl)).1 (fun b hb => (h.df _ (.inr hb)).1),
    h.s.fr hF (fun b hb e => by simp only [blkS, Option.some.injEq] at hb; exact h.ds.1 (by omega)), hn, hl, h.sl, h.z0, h.dv, h.df, h.ds, fun b hb => Nat.lt_of_lt_of_le (h.dl b hb) hF.size⟩
/-- its table of stations is -/
theorem RBR.tab {w' : World} {r' : List Ent} {fL' : Value} (h : RBR D N0 w rb vq vnb vL fq fL sb so sc room fs) (hF : Fr (rp fq fL) w w') (ht : RT w' fq room fL' r') (hn : NewOr w fL fL') : RBR D N0 w' rb vq vnb vL fq fL' sb so sc room { fs with r := r' } := by
  have hrb := h.lt (.inl rfl)
  have hsb := h.lt (b := sb) (.inr (.inl rfl))
  have hnew : ∀ b, rp fq fL' b → rp fq fL b ∨ w.heap.size ≤ b := fun b hb => by
    rcases hb with rfl | hb
    · exact .inl (.inl rfl)
    · rcases hn b hb with h1 | h1
      · exact .inl (.inr h1)
      · exact .inr h1
  refine ⟨hF.heap h.blk fun e => (h.df _ e).1 rfl, h.v.fr hF (h.dv _ (.inl rfl)).2.2.1 (h.dv _ (.inr (.inl rfl))).2.2.1 (fun b hb => (h.dv _ (.inr (.inr hb))).2.2.1), ht, h.s.fr hF (fun b hb e => by simp only [blkS, Option.some.injEq] at hb; exact (h.df _ e).2.1 hb.symm), h.nl, h.ll, h.sl, h.z0, fun b hb => ?_, fun b hb => ?_, h.ds, fun b hb => Nat.lt_of_lt_of_le (h.dl b hb) hF.size⟩
  · have h1 := h.dv b hb
    have h2 := h.lt (b := b) (.inr (.inr (.inl hb)))
    refine ⟨h1.1, h1.2.1, fun e => ?_, h1.2.2.2⟩
    rcases hnew b e with e | e
    · exact h1.2.2.1 e
    · omega
  · rcases hnew b hb with e | e
    · exact h.df b e
    · have h3 := h.ds
      exact ⟨by omega, by omega, by omega, fun e' => by have := h.dl b e'; omega⟩
/-- its VLANs are -/
theorem RBR.vl {w' : World} {t' : VT} {vL' : Value} (h : RBR D N0 w rb vq vnb vL fq fL sb so sc room fs) (hF : Fr (Vl.rfp vq vnb vL) w w') (ht : Vl.RRep w' vq vnb vL' t') (hn : blkS vL' = blkS vL ∨ New w vL') : RBR D N0 w' rb vq vnb vL' fq fL sb so sc room { fs with t := t' } := by
  have hrb := h.lt (.inl rfl)
  have hsb := h.lt (b := sb) (.inr (.inl rfl))
  have hnew : ∀ b, Vl.rfp vq vnb vL' b → Vl.rfp vq vnb vL b ∨ w.heap.size ≤ b := fun b hb => by
    rcases hb with rfl | rfl | hb
    · exact .inl (.inl rfl)
    · exact .inl (.inr (.inl rfl))
    · rcases hn with h1 | h1
      · exact .inl (.inr (.inr (h1 ▸ hb)))
      · exact .inr (h1 b hb)
  refine ⟨hF.heap h.blk fun e => (h.dv _ e).1 rfl, ht, h.f.fr hF (fun e => (h.dv _ e).2.2.1 (.inl rfl)) (fun b hb e => (h.dv _ e).2.2.1 (.inr hb)), h.s.fr hF (fun b hb e => by simp only [blkS, Option.some.injEq] at hb; exact (h.dv _ e).2.1 hb.symm), h.nl, h.ll, h.sl, h.z0, fun b hb => ?_, h.df, h.ds, fun b hb => Nat.lt_of_lt_of_le (h.dl b hb) hF.size⟩
  rcases hnew b hb with e | e
  · exact h.dv b e
  · have h3 := h.ds
    refine ⟨by omega, by omega, fun e' => ?_, by omega, fun e' => by have := h.dl b e'; omega⟩
    have := h.lt (b := b) (.inr (.inr (.inr e')))
    omega
/-- its states are -/
theorem RBR.st {w' : World} {S' : List Int} (h : RBR D N0 w rb vq vnb vL fq fL sb so sc room fs) (hF : Fr (fun b => b = sb) w w') (hl : S'.length = fs.S.length) (h0 : S'.getD 0 0 = 0) (hs : OwnE 3 1 w' (.slice (some ⟨sb, so, none⟩) fs.S.length sc) (S'.map cellI)) : RBR D N0 w' rb vq vnb vL fq fL sb so sc room { fs with S := S' } := by
  refine ⟨?_, h.v.fr hF (h.dv _ (.inl rfl)).2.1 (h.dv _ (.inr (.inl rfl))).2.1 (fun b hb => (h.dv _ (.inr (.inr hb))).2.1), h.f.fr hF (h.df _ (.inl rfl)).2.1 (fun b hb => (h.df _ (.inr hb)).2.1), ?_, h.nl, h.ll, ?_, h0, h.dv, h.df, h.ds, fun b hb => Nat.lt_of_lt_of_le (h.dl b hb) hF.size⟩
  · rw [hl]; exact hF.heap h.blk h.ds.1
  · rw [hl]; exact hs
  · rw [hl]; exact h.sl

theorem rbC_0 (n : Int) (sl : Value) (N Ln : List Int) : (rbC n vq fq sl N Ln)[0]? = some (i64 n) := id rfl
theorem rbC_1 (n : Int) (sl : Value) (N Ln : List Int) : (rbC n vq fq sl N Ln)[1]? = some (pt vq 0) := id rfl
theorem rbC_2 (n : Int) (sl : Value) (N Ln : List Int) : (rbC n vq fq sl N Ln)[2]? = some (pt fq 0) := id rfl
theorem rbC_3 (n : Int) (sl : Value) (N Ln : List Int) : (rbC n vq fq sl N Ln)[3]? = some sl := id rfl
attribute [push_cast] rbC_0 rbC_1 rbC_2 rbC_3
theorem rbC_n {n : Int} {sl : Value} {N Ln : List Int} {k : Nat} (hN : N.length = 9) (hk : k < 9) : (rbC n vq fq sl N Ln)[k + 4]? = some (i64 (N.getD k 0)) := by
  show (N.map i64 ++ Ln.map i64)[k]? = _
  rw [List.getElem?_append_left (by rw [List.length_map]; omega), List.getElem?_map, List.getElem?_eq_getElem (by omega), List.getD_eq_getElem?_getD, List.getElem?_eq_getElem (by omega)]
  rfl
theorem rbC_l {n : Int} {sl : Value} {N Ln : List Int} {k : Nat} (hN : N.length = 9) (hL : Ln.length = 3) (hk : k < 3) : (rbC n vq fq sl N Ln)[k + 13]? = some (i64 (Ln.getD k 0)) := by
  show (N.map i64 ++ Ln.map i64)[k + 9]? = _
  rw [List.getElem?_append_right (by rw [List.length_map]; omega), List.length_map, hN, Nat.add_sub_cancel, List.getElem?_map, List.getElem?_eq_getElem (by omega), List.getD_eq_getElem?_getD, List.getElem?_eq_getElem (by omega)]
  rfl
theorem rbC_setn {n : Int} {sl : Value} {N Ln : List Int} {k : Nat} (hN : N.length = 9) (hL : Ln.length = 3) (hk : k < 9) (v : Int) : splice (rbC n vq fq sl N Ln) (k + 4) [i64 v] = rbC n vq fq sl (N.set k v) Ln := by
  rw [splice_one (by simp [rbC]; omega)]
  show i64 n :: pt vq 0 :: pt fq 0 :: sl :: (N.map i64 ++ Ln.map i64).set k (i64 v) = _
  rw [List.set_append_left _ _ (by rw [List.length_map]; omega), ← List.map_set]
  rfl
theorem rbC_setl {n : Int} {sl : Value} {N Ln : List Int} {k : Nat} (hN : N.length = 9) (hL : Ln.length = 3) (hk : k < 3) (v : Int) : splice (rbC n vq fq sl N Ln) (k + 13) [i64 v] = rbC n vq fq sl N (Ln.set k v) := by
  rw [splice_one (by simp [rbC]; omega)]
  show i64 n :: pt vq 0 :: pt fq 0 :: sl :: (N.map i64 ++ Ln.map i64).set (k + 9) (i64 v) = _
  rw [List.set_append_right _ _ (by rw [List.length_map]; omega), List.length_map, hN, Nat.add_sub_cancel, ← List.map_set]
  rfl

theorem rbC_dn {n : Int} {sl : Value} {N Ln : List Int} (hN : N.length = 9) : ((rbC n vq fq sl N Ln).drop 4).take 9 = N.map i64 := by
  show (N.map i64 ++ Ln.map i64).take 9 = _
  rw [List.take_left' (by rw [List.length_map, hN])]
theorem rbC_dl {n : Int} {sl : Value} {N Ln : List Int} (hN : N.length = 9) (hL : Ln.length = 3) : ((rbC n vq fq sl N Ln).drop 13).take 3 = Ln.map i64 := by
  show ((N.map i64 ++ Ln.map i64).drop 9).take 3 = _
  rw [List.drop_left' (by rw [List.length_map, hN]), List.take_of_length_le (by rw [List.length_map, hL]; omega)]
/-- a state is read -/
theorem st_getO {Ss : List Int} {i : Int} {R : Value → World → Prop} (hs : OwnE 3 1 w (.slice (some ⟨sb, so, none⟩) Ss.length sc) (Ss.map cellI)) (h0 : 0 ≤ i) (hi : i.toNat < Ss.length) (hk : R (i64 (Ss.getD i.toNat 0)) w) :
    opS Tryz.prog (S.ia 70 (.slice (some ⟨sb, so, none⟩) Ss.length sc) (i64 i)) (fun x => opS Tryz.prog (S.ld 3 x) R) w := by
  refine s_iaE hs.rd h0 (by rw [List.length_map]; exact hi) fun b o _ _ he => ?_
  rw [s_ld1, he.cell0 (by simp [cellI])]
  simp only [List.getElem_map, cellI]
  rw [List.getD_eq_getElem?_getD, List.getElem?_eq_getElem hi] at hk
  exact hk

theorem rhas_spec {port : Int} (h : RBR D N0 w rb vq vnb vL fq fL sb so sc room fs) (hk : K (.bool (hasB fs.S port)) w) : CallsR Tryz.prog 84 #[pt rb 0, i64 port] K w := by
  apply c84
  unfold p84
  unfold hasB at hk
  simp only [push_cast, Nat.reduceAdd, Nat.reduceLeDiff, Nat.reduceLT, Int.reduceToNat, Nat.left_eq_add, Nat.add_eq_left, Nat.add_left_cancel_iff, Nat.reduceEqDiff, Nat.add_assoc, Nat.succ_ne_zero]
  refine br_dec (fun h1 => ?_) fun h1 => ?_
  · rw [decide_eq_true (show 1 ≤ port from h1), Bool.true_and] at hk
    simp only [push_cast, Nat.reduceAdd, Nat.reduceLeDiff, Nat.reduceLT, Int.reduceToNat, Nat.left_eq_add, Nat.add_eq_left, Nat.add_left_cancel_iff, Nat.reduceEqDiff, Nat.add_assoc, Nat.succ_ne_zero, h.blk]
    have e : decide (port ≤ (fs.S.length : Int) - 1) = decide (port < (fs.S.length : Int)) := decide_eq_decide.2 (by omega)
    rw [e]
    exact hk
  · rw [decide_eq_false (show ¬ 1 ≤ port from h1), Bool.false_and] at hk
    exact hk

theorem rset_spec {port st : Int} (h : RBR D N0 w rb vq vnb vL fq fL sb so sc room fs) (hk : ∀ w', RBR D N0 w' rb vq vnb vL fq fL sb so sc room { fs with S := (setL' fs.S port st).1 } → Fr (fun b => b = sb) w w' → K (i64 (setL' fs.S port st).2) w') :
    CallsR Tryz.prog 55 #[pt rb 0, i64 port, i64 st] K w := by
  apply c55
  unfold p55
  unfold setL' at hk
  simp only [push_cast, Nat.reduceAdd, Nat.reduceLeDiff, Nat.reduceLT, Int.reduceToNat, Nat.left_eq_add, Nat.add_eq_left, Nat.add_left_cancel_iff, Nat.reduceEqDiff, Nat.add_assoc, Nat.succ_ne_zero]
  refine rhas_spec h ?_
  simp only [push_cast, Nat.reduceAdd, Nat.reduceLeDiff, Nat.reduceLT, Int.reduceToNat, Nat.left_eq_add, Nat.add_eq_left, Nat.add_left_cancel_iff, Nat.reduceEqDiff, Nat.add_assoc, Nat.succ_ne_zero]
  cases hh : hasB fs.S port with
  | false =>
    rw [hh, Bool.false_and] at hk
    simp only [push_cast, Nat.reduceAdd, Nat.reduceLeDiff, Nat.reduceLT, Int.reduceToNat, Nat.left_eq_add, Nat.add_eq_left, Nat.add_left_cancel_iff, Nat.reduceEqDiff, Nat.add_assoc, Nat.succ_ne_zero, Bool.not_false]
    exact hk _ h (Fr.refl _ _)
  | true =>
  rw [hh, Bool.true_and] at hk
  obtain ⟨hp1, hp2⟩ := hasB_iff.1 hh
  simp only [push_cast, Nat.reduceAdd, Nat.reduceLeDiff, Nat.reduceLT, Int.reduceToNat, Nat.left_eq_add, Nat.add_eq_left, Nat.add_left_cancel_iff, Nat.reduceEqDiff, Nat.add_assoc, Nat.succ_ne_zero, Bool.not_true]
  refine br_dec (fun h1 => ?_) fun h1 => ?_
  · rw [decide_eq_false (by omega), Bool.false_and] at hk
    exact hk _ h (Fr.refl _ _)
  refine br_dec (fun h2 => ?_) fun h2 => ?_
  · rw [decide_eq_true (by omega), decide_eq_false (by omega), Bool.true_and] at hk
    exact hk _ h (Fr.refl _ _)
  rw [decide_eq_true (show 0 ≤ st by omega), decide_eq_true (show st ≤ 2 by omega), Bool.true_and, if_pos rfl] at hk
  simp only [push_cast, Nat.reduceAdd, Nat.reduceLeDiff, Nat.reduceLT, Int.reduceToNat, Nat.left_eq_add, Nat.add_eq_left, Nat.add_left_cancel_iff, Nat.reduceEqDiff, Nat.add_assoc, Nat.succ_ne_zero, h.blk]
  have hml : (fs.S.map cellI).length = fs.S.length := List.length_map _
  have ho := h.s
  rw [← hml] at ho ⊢
  refine s_iaE ho.rd (by omega) (by rw [hml]; omega) fun b' o' c' hv _ => ?_
  simp only [Value.slice.injEq, Option.some.injEq, Addr.mk.injEq] at hv
  obtain ⟨⟨rfl, rfl, _⟩, _, rfl⟩ := hv
  obtain ⟨hok, hput⟩ := ho.put (e := [i64 st]) rfl (show port.toNat < _ by rw [hml]; omega)
  simp only [push_cast, Nat.reduceAdd, Nat.reduceLeDiff, Nat.reduceLT, Int.reduceToNat, Nat.left_eq_add, Nat.add_eq_left, Nat.add_left_cancel_iff, Nat.reduceEqDiff, Nat.add_assoc, Nat.succ_ne_zero, hok]
  have hz := h.z0
  refine hk _ (h.st (Fr.step_wr (fp := fun b => b = sb) (Fr.refl _ _) (.inl rfl) _ _) (List.length_set ..) ?_ ?_) (Fr.step_wr (fp := fun b => b = sb) (Fr.refl _ _) (.inl rfl) _ _)
  · rw [List.getD_eq_getElem?_getD, List.getElem?_set_ne (by omega), ← List.getD_eq_getElem?_getD]
    exact hz
  · rw [List.map_set, ← hml]
    exact hput

theorem rstate_spec {port : Int} (h : RBR D N0 w rb vq vnb vL fq fL sb so sc room fs) (hk : K (i64 (stateL fs.S port)) w) : CallsR Tryz.prog 67 #[pt rb 0, i64 port] K w := by
  apply c67
  unfold p67
  unfold stateL at hk
  simp only [push_cast, Nat.reduceAdd, Nat.reduceLeDiff, Nat.reduceLT, Int.reduceToNat, Nat.left_eq_add, Nat.add_eq_left, Nat.add_left_cancel_iff, Nat.reduceEqDiff, Nat.add_assoc, Nat.succ_ne_zero]
  refine rhas_spec h ?_
  simp only [push_cast, Nat.reduceAdd, Nat.reduceLeDiff, Nat.reduceLT, Int.reduceToNat, Nat.left_eq_add, Nat.add_eq_left, Nat.add_left_cancel_iff, Nat.reduceEqDiff, Nat.add_assoc, Nat.succ_ne_zero]
  cases hh : hasB fs.S port with
  | false =>
    rw [hh] at hk
    simp only [push_cast, Nat.reduceAdd, Nat.reduceLeDiff, Nat.reduceLT, Int.reduceToNat, Nat.left_eq_add, Nat.add_eq_left, Nat.add_left_cancel_iff, Nat.reduceEqDiff, Nat.add_assoc, Nat.succ_ne_zero, Bool.not_false]
    exact hk
  | true =>
    rw [hh, if_pos rfl] at hk
    obtain ⟨hp1, hp2⟩ := hasB_iff.1 hh
    simp only [push_cast, Nat.reduceAdd, Nat.reduceLeDiff, Nat.reduceLT, Int.reduceToNat, Nat.left_eq_add, Nat.add_eq_left, Nat.add_left_cancel_iff, Nat.reduceEqDiff, Nat.add_assoc, Nat.succ_ne_zero, Bool.not_true, h.blk]
    exact st_getO h.s (by omega) (by omega) hk

theorem rcnt_l {k : Nat} {x : Int} {R : Value → World → Prop} (hx : x = k) (hk : k < 3) (h : RBR D N0 w rb vq vnb vL fq fL sb so sc room fs) (hK : ∀ w', RBR D N0 w' rb vq vnb vL fq fL sb so sc room { fs with Ln := incr fs.Ln k } → Fr (fun b => b = rb) w w' → R undef w') :
    opS Tryz.prog (S.nc (pt rb 0)) (fun x14 => opS Tryz.prog (S.fa 113 x14 5) fun x15 => opS Tryz.prog (S.ia 81 x15 (.int .i64 x)) fun x16 => opS Tryz.prog (S.ld 3 x16) fun x17 => opS Tryz.prog (S.binI .add x17 (.int .i64 1)) fun x18 =>
      opS Tryz.prog (S.nc (pt rb 0)) fun x19 => opS Tryz.prog (S.fa 113 x19 5) fun x20 => opS Tryz.prog (S.ia 81 x20 (.int .i64 x)) fun x21 => opS Tryz.prog (S.st 3 x21 x18) R) w := by
  subst hx
  have hia : ∀ (R : Value → World → Prop) w, opS Tryz.prog (S.ia 81 (pt rb 13) (.int .i64 (k : Nat))) R w = R (pt rb (k + 13)) w := fun R w => by
    rw [opS_iaA rb 13 .i64 (k : Int) (by omega)]
    rw [Int.toNat_natCast, Nat.mul_one, Nat.add_comm]
  have hg := rbC_l (n := (fs.S.length : Int) - 1) (vq := vq) (fq := fq) (sl := .slice (some ⟨sb, so, none⟩) fs.S.length sc) h.nl h.ll hk
  have hs := rbC_setl (n := (fs.S.length : Int) - 1) (vq := vq) (fq := fq) (sl := .slice (some ⟨sb, so, none⟩) fs.S.length sc) h.nl h.ll hk (IntKind.i64.wrap (fs.Ln.getD k 0 + 1))
  have hl := h.len
  simp only [push_cast, Nat.reduceAdd, Nat.reduceLeDiff, Nat.reduceLT, Int.reduceToNat, Nat.left_eq_add, Nat.add_eq_left, Nat.add_left_cancel_iff, Nat.reduceEqDiff, Nat.add_assoc, Nat.succ_ne_zero, h.blk, hia, hg]
  rw [hl, decide_eq_true (show k + (13 + 1) ≤ 16 by omega)]
  simp only [push_cast, Nat.reduceAdd, Nat.reduceLeDiff, Nat.reduceLT, Int.reduceToNat, Nat.left_eq_add, Nat.add_eq_left, Nat.add_left_cancel_iff, Nat.reduceEqDiff, Nat.add_assoc, Nat.succ_ne_zero]
  refine hK _ (h.own (N' := fs.N) (Ln' := incr fs.Ln k) (Fr.step_wr (fp := fun b => b = rb) (Fr.refl _ _) (.inl rfl) _ _) ?_ h.nl (by unfold incr; rw [List.length_set]; exact h.ll)) (Fr.step_wr (fp := fun b => b = rb) (Fr.refl _ _) (.inl rfl) _ _)
  simp only [push_cast, Nat.reduceAdd, Nat.reduceLeDiff, Nat.reduceLT, Int.reduceToNat, Nat.left_eq_add, Nat.add_eq_left, Nat.add_left_cancel_iff, Nat.reduceEqDiff, Nat.add_assoc, Nat.succ_ne_zero, h.blk, hs]
  rfl

theorem rcnt_l2 {k : Nat} {x : Int} {R : Value → World → Prop} (hx : x = k) (hk : k < 3) (h : RBR D N0 w rb vq vnb vL fq fL sb so sc room fs) (hK : ∀ w', RBR D N0 w' rb vq vnb vL fq fL sb so sc room { fs with Ln := incr fs.Ln k } → Fr (fun b => b = rb) w w' → R undef w') :
    opS Tryz.prog (S.ia 81 (pt rb 13) (.int .i64 x)) (fun x16 => opS Tryz.prog (S.ld 3 x16) fun x17 => opS Tryz.prog (S.binI .add x17 (.int .i64 1)) fun x18 =>
      opS Tryz.prog (S.nc (pt rb 0)) fun x19 => opS Tryz.prog (S.fa 113 x19 5) fun x20 => opS Tryz.prog (S.ia 81 x20 (.int .i64 x)) fun x21 => opS Tryz.prog (S.st 3 x21 x18) R) w := by
  subst hx
  have hia : ∀ (R : Value → World → Prop) w, opS Tryz.prog (S.ia 81 (pt rb 13) (.int .i64 (k : Nat))) R w = R (pt rb (k + 13)) w := fun R w => by
    rw [opS_iaA rb 13 .i64 (k : Int) (by omega)]
    rw [Int.toNat_natCast, Nat.mul_one, Nat.add_comm]
  have hg := rbC_l (n := (fs.S.length : Int) - 1) (vq := vq) (fq := fq) (sl := .slice (some ⟨sb, so, none⟩) fs.S.length sc) h.nl h.ll hk
  have hs := rbC_setl (n := (fs.S.length : Int) - 1) (vq := vq) (fq := fq) (sl := .slice (some ⟨sb, so, none⟩) fs.S.length sc) h.nl h.ll hk (IntKind.i64.wrap (fs.Ln.getD k 0 + 1))
  have hl := h.len
  simp only [push_cast, Nat.reduceAdd, Nat.reduceLeDiff, Nat.reduceLT, Int.reduceToNat, Nat.left_eq_add, Nat.add_eq_left, Nat.add_left_cancel_iff, Nat.reduceEqDiff, Nat.add_assoc, Nat.succ_ne_zero, h.blk, hia, hg]
  rw [hl, decide_eq_true (show k + (13 + 1) ≤ 16 by omega)]
  simp only [push_cast, Nat.reduceAdd, Nat.reduceLeDiff, Nat.reduceLT, Int.reduceToNat, Nat.left_eq_add, Nat.add_eq_left, Nat.add_left_cancel_iff, Nat.reduceEqDiff, Nat.add_assoc, Nat.succ_ne_zero]
  refine hK _ (h.own (N' := fs.N) (Ln' := incr fs.Ln k) (Fr.step_wr (fp := fun b => b = rb) (Fr.refl _ _) (.inl rfl) _ _) ?_ h.nl (by unfold incr; rw [List.length_set]; exact h.ll)) (Fr.step_wr (fp := fun b => b = rb) (Fr.refl _ _) (.inl rfl) _ _)
  simp only [push_cast, Nat.reduceAdd, Nat.reduceLeDiff, Nat.reduceLT, Int.reduceToNat, Nat.left_eq_add, Nat.add_eq_left, Nat.add_left_cancel_iff, Nat.reduceEqDiff, Nat.add_assoc, Nat.succ_ne_zero, h.blk, hs]
  rfl

theorem rcnt_n {k : Nat} {x : Int} {R : Value → World → Prop} (hx : x = k) (hk : k < 9) (h : RBR D N0 w rb vq vnb vL fq fL sb so sc room fs) (hK : ∀ w', RBR D N0 w' rb vq vnb vL fq fL sb so sc room { fs with N := incr fs.N k } → Fr (fun b => b = rb) w w' → R undef w') :
    opS Tryz.prog (S.nc (pt rb 0)) (fun x14 => opS Tryz.prog (S.fa 113 x14 4) fun x15 => opS Tryz.prog (S.ia 55 x15 (.int .i64 x)) fun x16 => opS Tryz.prog (S.ld 3 x16) fun x17 => opS Tryz.prog (S.binI .add x17 (.int .i64 1)) fun x18 =>
      opS Tryz.prog (S.nc (pt rb 0)) fun x19 => opS Tryz.prog (S.fa 113 x19 4) fun x20 => opS Tryz.prog (S.ia 55 x20 (.int .i64 x)) fun x21 => opS Tryz.prog (S.st 3 x21 x18) R) w := by
  subst hx
  have hia : ∀ (R : Value → World → Prop) w, opS Tryz.prog (S.ia 55 (pt rb 4) (.int .i64 (k : Nat))) R w = R (pt rb (k + 4)) w := fun R w => by
    rw [opS_iaA rb 4 .i64 (k : Int) (by omega)]
    rw [Int.toNat_natCast, Nat.mul_one, Nat.add_comm]
  have hg := rbC_n (n := (fs.S.length : Int) - 1) (vq := vq) (fq := fq) (sl := .slice (some ⟨sb, so, none⟩) fs.S.length sc) (Ln := fs.Ln) h.nl hk
  have hs := rbC_setn (n := (fs.S.length : Int) - 1) (vq := vq) (fq := fq) (sl := .slice (some ⟨sb, so, none⟩) fs.S.length sc) h.nl h.ll hk (IntKind.i64.wrap (fs.N.getD k 0 + 1))
  have hl := h.len
  simp only [push_cast, Nat.reduceAdd, Nat.reduceLeDiff, Nat.reduceLT, Int.reduceToNat, Nat.left_eq_add, Nat.add_eq_left, Nat.add_left_cancel_iff, Nat.reduceEqDiff, Nat.add_assoc, Nat.succ_ne_zero, h.blk, hia, hg]
  rw [hl, decide_eq_true (show k + (4 + 1) ≤ 16 by omega)]
  simp only [push_cast, Nat.reduceAdd, Nat.reduceLeDiff, Nat.reduceLT, Int.reduceToNat, Nat.left_eq_add, Nat.add_eq_left, Nat.add_left_cancel_iff, Nat.reduceEqDiff, Nat.add_assoc, Nat.succ_ne_zero]
  refine hK _ (h.own (N' := incr fs.N k) (Ln' := fs.Ln) (Fr.step_wr (fp := fun b => b = rb) (Fr.refl _ _) (.inl rfl) _ _) ?_ (by unfold incr; rw [List.length_set]; exact h.nl) h.ll) (Fr.step_wr (fp := fun b => b = rb) (Fr.refl _ _) (.inl rfl) _ _)
  simp only [push_cast, Nat.reduceAdd, Nat.reduceLeDiff, Nat.reduceLT, Int.reduceToNat, Nat.left_eq_add, Nat.add_eq_left, Nat.add_left_cancel_iff, Nat.reduceEqDiff, Nat.add_assoc, Nat.succ_ne_zero, h.blk, hs]
  rfl

theorem rreserved_spec {m : Mac} (hm : m.ok) (h : ∀ w', Fr none_ w w' → K (.bool (reservedM m)) w') : CallsR Tryz.prog 114 #[.agg m.cells.toArray] K w := by
  apply c114
  unfold p114
  simp only [push_cast, Nat.reduceAdd, Nat.reduceLeDiff, Nat.reduceLT, Int.reduceToNat, Nat.left_eq_add, Nat.add_eq_left, Nat.add_left_cancel_iff, Nat.reduceEqDiff, Nat.add_assoc, Nat.succ_ne_zero]
  refine rnum_spec hm fun w' hF => ?_
  obtain ⟨a0, a1, a2, a3, a4, a5⟩ := hm
  unfold isB at a0 a1 a2 a3 a4 a5
  rw [opS_quo _ _ _ (by decide)]
  have hN : 0 ≤ macN m ∧ macN m < 2 ^ 48 := by
    unfold macN
    omega
  rw [Int.tdiv_eq_ediv_of_nonneg hN.1, wrap_u64 (by omega) (by omega)]
  simp only [push_cast, Nat.reduceAdd, Nat.reduceLeDiff, Nat.reduceLT, Int.reduceToNat, Nat.left_eq_add, Nat.add_eq_left, Nat.add_left_cancel_iff, Nat.reduceEqDiff, Nat.add_assoc, Nat.succ_ne_zero]
  have : (macN m / 16 == 103282638848) = reservedM m := by
    unfold reservedM
    rw [Bool.beq_eq_decide_eq]
    refine decide_eq_decide.2 ?_
    unfold macN
    omega
  rw [this]
  have hF0 : Fr none_ w (w.alloc (cellsO m.cells 24)) := (by repeat' first | with_reducible exact Fr.refl _ _ | with_reducible refine Fr.step_alloc ?_ ?_ | with_reducible refine Fr.step_drew ?_ | with_reducible refine Fr.step_wr ?_ ?_ _ _ | exact rfl | exact Or.inr (by omega) | exact Or.inl rfl | exact Or.inl (Or.inl rfl) | exact Or.inl (Or.inr rfl))
  exact h _ (hF0.trans hF)

theorem learnL_kind {r : List Ent} {v a t : Int} {m : Mac} : 0 ≤ (learnL room r v m a t).2.1 ∧ (learnL room r v m a t).2.1 ≤ 2 := by
  unfold learnL
  split
  · split
    · split
      · exact ⟨(by decide : (0 : Int) ≤ 0), (by decide : (0 : Int) ≤ 2)⟩
      · show 0 ≤ (if _ then (0 : Int) else 2) ∧ (if _ then (0 : Int) else 2) ≤ 2
        split <;> exact ⟨by decide, by decide⟩
    · split
      · exact ⟨(by decide : (0 : Int) ≤ 0), (by decide : (0 : Int) ≤ 2)⟩
      · exact ⟨(by decide : (0 : Int) ≤ 1), (by decide : (1 : Int) ≤ 2)⟩
  · exact ⟨(by decide : (0 : Int) ≤ 0), (by decide : (0 : Int) ≤ 2)⟩

theorem rblearn_spec {v port now : Int} {m : Mac} (h : RBR D N0 w rb vq vnb vL fq fL sb so sc room fs) (hs : Srt fs.r) (hn : fs.r.length ≤ 2 ^ 20) (hrm : room ≤ 2 ^ 20) (hv : isI v) (hm : m.ok) (hp : isI port) (ht : isI now)
    (hk : ∀ w' fL', RBR D N0 w' rb vq vnb vL fq fL' sb so sc room (learnF room fs v m port now) → Fr (fun b => b = rb ∨ rp fq fL b) w w' → NewOr w fL fL' → K (.tuple #[]) w') :
    CallsR Tryz.prog 116 #[pt rb 0, i64 v, .agg m.cells.toArray, i64 port, i64 now] K w := by
  apply c116
  unfold p116
  have hF : Fr none_ w (w.alloc (cellsO m.cells 24)) := (by repeat' first | with_reducible exact Fr.refl _ _ | with_reducible refine Fr.step_alloc ?_ ?_ | with_reducible refine Fr.step_drew ?_ | with_reducible refine Fr.step_wr ?_ ?_ _ _ | exact rfl | exact Or.inr (by omega) | exact Or.inl rfl | exact Or.inl (Or.inl rfl) | exact Or.inl (Or.inr rfl))
  have hm0 : (w.alloc (cellsO m.cells 24)).heap[w.heap.size]? = some (cellsO m.cells 24) := by simp only [push_cast, Nat.reduceAdd, Nat.reduceLeDiff, Nat.reduceLT, Int.reduceToNat, Nat.left_eq_add, Nat.add_eq_left, Nat.add_left_cancel_iff, Nat.reduceEqDiff, Nat.add_assoc, Nat.succ_ne_zero]
  simp only [opS_box, cells_agg, alloc_cellsO]
  replace h := h.fr0 hF
  generalize w.alloc (cellsO m.cells 24) = W at *
  simp only [push_cast, Nat.reduceAdd, Nat.reduceLeDiff, Nat.reduceLT, Int.reduceToNat, Nat.left_eq_add, Nat.add_eq_left, Nat.add_left_cancel_iff, Nat.reduceEqDiff, Nat.add_assoc, Nat.succ_ne_zero, h.blk, hm0]
  have hFd : Fr none_ w W.drew := hF.step_drew
  replace h := h.fr0 (Fr.drew W)
  generalize W.drew = W2 at *
  refine rlearn_spec h.f hs hv hm hp ht hn hrm fun w2 fL2 ht2 hn2 hF2 => ?_
  have h2 := h.tab hF2 ht2 hn2
  have hnw : NewOr w fL fL2 := fun b hb => by
    have := hFd.size
    rcases hn2 b hb with e | e
    · exact .inl e
    · exact .inr (by omega)
  have hF02 : Fr (fun b => b = rb ∨ rp fq fL b) w w2 := (hFd.mono fun _ _ e => e.elim).trans_new hF2 fun b _ e => .inr e
  unfold learnF at hk
  have hkd := learnL_kind (room := room) (r := fs.r) (v := v) (a := port) (t := now) (m := m)
  simp only [push_cast, Nat.reduceAdd, Nat.reduceLeDiff, Nat.reduceLT, Int.reduceToNat, Nat.left_eq_add, Nat.add_eq_left, Nat.add_left_cancel_iff, Nat.reduceEqDiff, Nat.add_assoc, Nat.succ_ne_zero]
  refine br_intro (fun he => ?_) fun he => ?_
  · have he : (learnL room fs.r v m port now).2.2 ≠ 0 := by simpa using he
    rw [if_pos he] at hk
    refine rcnt_l (k := 2) rfl (by decide) (h2.fr0 (Fr.drew w2)) fun w3 h3 hF3 => ?_
    exact hk _ fL2 h3 (hF02.step_drew.trans_new hF3 fun b _ e => .inl e) hnw
  have he : (learnL room fs.r v m port now).2.2 = 0 := by simpa using he
  rw [if_neg (fun e => e he)] at hk
  refine br_dec (fun h1 => ?_) fun h1 => ?_
  · obtain ⟨k, hkk⟩ : ∃ k : Nat, (learnL room fs.r v m port now).2.1 = (k : Int) + 1 := ⟨((learnL room fs.r v m port now).2.1 - 1).toNat, by omega⟩
    rw [hkk] at hk ⊢
    have hk3 : k < 2 := by omega
    refine rcnt_l2 (k := k) (by rw [wrap_i64 (by omega)]; omega) (by omega) (h2.fr0 (Fr.drew w2)) fun w3 h3 hF3 => ?_
    have h4 : (if (k : Int) + 1 = 1 then incr fs.Ln 0 else if (k : Int) + 1 = 2 then incr fs.Ln 1 else fs.Ln) = incr fs.Ln k := by
      rcases (by omega : k = 0 ∨ k = 1) with rfl | rfl
      · rfl
      · rfl
    rw [h4] at hk
    exact hk _ fL2 h3 (hF02.step_drew.trans_new hF3 fun b _ e => .inl e) hnw
  · have h3 : (learnL room fs.r v m port now).2.1 = 0 := by omega
    rw [if_neg (by omega), if_neg (by omega)] at hk
    exact hk _ fL2 h2 hF02 hnw

end
end Go.Gx.S
end

section
/- The document's bridge: what it relays. -/
set_option linter.unusedVariables false
set_option linter.unusedSimpArgs false
set_option maxRecDepth 100000
namespace Go.Gx.S
open Go Go.Gx Go.Proofs
variable {K : Value → World → Prop} {w : World}

section
variable {D : Nat → Prop} {N0 rb vq vnb : Nat} {vL : Value} {fq : Nat} {fL : Value} {sb so sc room : Nat} {fs : FS}

section
variable {w0 : World} {f : Frm} {bs : List Int} {b4 : Nat} {v : Int}
theorem ro_ldV (h : RBR D N0 w0 rb vq vnb vL fq fL sb so sc room fs) (hF : Fr none_ w0 w) {R : Value → World → Prop} (hk : R (pt vq 0) w) : opS Tryz.prog (S.ld 109 (pt rb 1)) R w := by
  have := hF.heap h.blk fun h => h
  simp only [push_cast, Nat.reduceAdd, Nat.reduceLeDiff, Nat.reduceLT, Int.reduceToNat, Nat.left_eq_add, Nat.add_eq_left, Nat.add_left_cancel_iff, Nat.reduceEqDiff, Nat.add_assoc, Nat.succ_ne_zero, this]
  exact hk
theorem ro_out {i : Int} (h : RBR D N0 w0 rb vq vnb vL fq fL sb so sc room fs) (hf : FrmR w0 f bs) (hF : Fr none_ w0 w) {R : Value → Value → World → Prop} (hk : ∀ w', Fr none_ w0 w' → Fr none_ w w' → R (.agg (fs.t.out v i f bs.length).1.cells.toArray) (i64 (fs.t.out v i f bs.length).2) w') :
    opS Tryz.prog (S.cl 98 [pt vq 0, i64 v, i64 i, .agg f.cells.toArray]) (fun x => opS Tryz.prog (S.ext x 0) fun a => opS Tryz.prog (S.ext x 1) fun b => R a b) w := by
  simp only [push_cast, Nat.reduceAdd, Nat.reduceLeDiff, Nat.reduceLT, Int.reduceToNat, Nat.left_eq_add, Nat.add_eq_left, Nat.add_left_cancel_iff, Nat.reduceEqDiff, Nat.add_assoc, Nat.succ_ne_zero]
  refine Vl.rout_spec (h.v.fr0 hF) (hf.fr0 hF) fun w' hF' => ?_
  simp only [s_ext, List.getElem?_toArray, List.getElem?_cons_zero, List.getElem?_cons_succ, onS_some]
  exact hk w' (hF.trans hF') hF'
end

theorem sendN_one {t : VT} {S : List Int} {v frm : Int} {f : Frm} {n : Nat} (h0 : S.getD 0 0 = 0) : sendN t S v frm f n 1 = [] := by
  have e : outAt t S v frm f n 0 = none := by
    unfold outAt
    split
    · rfl
    · rw [if_pos (by rw [h0]; decide)]
  show [] ++ (outAt t S v frm f n 0).toList = []
  rw [e]
  rfl

theorem rrelay_spec {v frm target : Int} {f : Frm} {bs : List Int} (h : RBR D N0 w rb vq vnb vL fq fL sb so sc room fs) (hf : FrmR w f bs)
    (hk : ∀ x w', OwnE 49 18 w' x ((relayL fs.t fs.S v frm target f bs.length).map outC) → New w x → Fr none_ w w' → K x w') :
    CallsR Tryz.prog 66 #[pt rb 0, i64 v, i64 frm, i64 target, .agg f.cells.toArray] K w := by
  apply c66
  unfold p66
  have hF : Fr none_ w (w.alloc (cellsO f.cells 27)) := (by repeat' first | with_reducible exact Fr.refl _ _ | with_reducible refine Fr.step_alloc ?_ ?_ | with_reducible refine Fr.step_drew ?_ | with_reducible refine Fr.step_wr ?_ ?_ _ _ | exact rfl | exact Or.inr (by omega) | exact Or.inl rfl | exact Or.inl (Or.inl rfl) | exact Or.inl (Or.inr rfl))
  have hf1 : (w.alloc (cellsO f.cells 27)).heap[w.heap.size]? = some (cellsO f.cells 27) := by simp only [push_cast, Nat.reduceAdd, Nat.reduceLeDiff, Nat.reduceLT, Int.reduceToNat, Nat.left_eq_add, Nat.add_eq_left, Nat.add_left_cancel_iff, Nat.reduceEqDiff, Nat.add_assoc, Nat.succ_ne_zero]
  simp only [opS_box, cells_agg, alloc_cellsO]
  replace h := h.fr0 hF
  replace hf := hf.fr0 hF
  generalize w.alloc (cellsO f.cells 27) = W at *
  have hsl := h.sl
  have hz0 := h.z0
  obtain ⟨ba, bc, hbd⟩ := hf.2.form
  have hbo : S.oneCell f.body = true := by rw [hbd]; rfl
  refine jn1 K (fun _ _ h => h) fun j hj => ?_
  refine loop2 (fun mm x y w' => ∃ i : Nat, y = i64 i ∧ 1 ≤ i ∧ i + mm = fs.S.length ∧ Fr none_ W w' ∧ OwnE 49 18 w' x (((sendN fs.t fs.S v frm f bs.length i).filter (tgt target)).map outC) ∧ New W x) ?_ (fs.S.length - 1) ⟨1, rfl, by omega, by omega, Fr.refl _ _, by rw [sendN_one hz0]; exact own_nil _ _ _, fun b hb => by cases hb⟩
  rintro mm x y w1 X ⟨i, rfl, hi1, hi, hF1, hx, hN⟩ hX
  have hB := h.fr0 hF1
  have hfr := hf.fr0 hF1
  have g1 := hF1.heap hf1 fun h => h
  simp only [push_cast, Nat.reduceAdd, Nat.reduceLeDiff, Nat.reduceLT, Int.reduceToNat, Nat.left_eq_add, Nat.add_eq_left, Nat.add_left_cancel_iff, Nat.reduceEqDiff, Nat.add_assoc, Nat.succ_ne_zero, hB.blk]
  refine br_dec (fun hlt => ?_) fun hge => ?_
  case refine_2 =>
    obtain rfl : i = fs.S.length := by omega
    exact hj _ _ (hk _ _ hx (fun b hb => by have := hN b hb; have := hF.size; omega) (hF.trans hF1))
  have hil : i < fs.S.length := by omega
  have hdl := sendN_len (t := fs.t) (S := fs.S) (v := v) (frm := frm) (f := f) (n := bs.length) i
  have hfl := List.length_filter_le (tgt target) (sendN fs.t fs.S v frm f bs.length i)
  have hw : IntKind.i64.wrap ((i : Int) + 1) = ((i + 1 : Nat) : Int) := by rw [wrap_i64 (by omega)]; omega
  have hstep : (sendN fs.t fs.S v frm f bs.length (i + 1)).filter (tgt target) = (sendN fs.t fs.S v frm f bs.length i).filter (tgt target) ++ (outAt fs.t fs.S v frm f bs.length i).toList.filter (tgt target) := by
    show (sendN fs.t fs.S v frm f bs.length i ++ _).filter _ = _
    rw [List.filter_append]
  have hnone : (outAt fs.t fs.S v frm f bs.length i).toList.filter (tgt target) = [] → ∀ w', Fr none_ w1 w' → X x (i64 (IntKind.i64.wrap ((i : Int) + 1))) w' := fun he w' hF' => by
    rw [hw]
    refine hX (mm - 1) _ _ _ (by omega) ⟨i + 1, rfl, by omega, by omega, hF1.trans hF', ?_, hN⟩
    rw [hstep, he, List.append_nil]
    exact hx.fr hF' fun _ _ h => h
  refine jn0 (fun w' => w' = w1 ∧ ¬ (i : Int) = frm ∧ tgt target ((i : Int), zFrm) = true ∧ fs.S.getD i 0 = 2) ?_ fun j0 hj0 => ?_
  · rintro w' ⟨rfl, hnf, htg, hst⟩
    have hoa : outAt fs.t fs.S v frm f bs.length i = if (fs.t.out v i f bs.length).2 = 0 then some ((i : Int), (fs.t.out v i f bs.length).1) else none := by
      unfold outAt
      rw [if_neg hnf, if_neg (by rw [hst]; simp)]
    have hgo := out_one (t := fs.t) (v := v) (n := (i : Int)) (m := bs.length) hbo
    have htg' : ∀ g : Frm, tgt target ((i : Int), g) = true := fun g => htg
    refine jn2 (fun a b w2 => ∃ sl, a = pt sl 0 ∧ b = i64 (fs.t.out v i f bs.length).2 ∧ w2.heap[sl]? = some (cellsO (fs.t.out v i f bs.length).1.cells 27) ∧ Fr none_ w' w2) ?_ fun j2 hj2 => ?_
    · rintro a b w2 ⟨sl, rfl, rfl, hs, hF2⟩
      simp only [push_cast, Nat.reduceAdd, Nat.reduceLeDiff, Nat.reduceLT, Int.reduceToNat, Nat.left_eq_add, Nat.add_eq_left, Nat.add_left_cancel_iff, Nat.reduceEqDiff, Nat.add_assoc, Nat.succ_ne_zero, hs, frm_len, frm_dw]
      refine br_intro (fun he => ?_) fun he => ?_
      · rw [if_pos (by simpa using he)] at hoa
        rw [build_out]
        refine s_bs1 (sz := 18) (x := outC ((i : Int), (fs.t.out v i f bs.length).1)) (z := .agg (outC (0, zFrm)).toArray) rfl (by rfl) (by decide) (by decide) fun vC w3 hC fC nC => ?_
        have hx3 := (hx.fr hF2 fun _ _ h => h).fr fC fun _ _ h => h
        refine s_app (sz := 18) (by_ := 72) (z := .agg (outC (0, zFrm)).toArray) (by rfl) (by decide) hx3 hC.rd (by rw [List.flatten_cons, List.flatten_nil, List.append_nil]; exact outC_one hgo) (by simp only [List.length_map, List.length_cons, List.length_nil]; omega) fun vD w4 hD bD fD => ?_
        have hF14 : Fr none_ w' w3 := hF2.trans fC
        simp only [push_cast, Nat.reduceAdd, Nat.reduceLeDiff, Nat.reduceLT, Int.reduceToNat, Nat.left_eq_add, Nat.add_eq_left, Nat.add_left_cancel_iff, Nat.reduceEqDiff, Nat.add_assoc, Nat.succ_ne_zero]
        rw [hw]
        refine hX (mm - 1) _ _ _ (by omega) ⟨i + 1, rfl, by omega, by omega, (hF1.trans hF14).trans_new fD (fun b hb e => by have := hN b e; omega), ?_, fun b hb => ?_⟩
        · rw [hstep, hoa, List.map_append]
          show OwnE _ _ _ _ (_ ++ (List.filter (tgt target) [_]).map outC)
          rw [List.filter_cons, if_pos (htg' _)]
          exact hD
        · rcases bD with bD | bD
          · exact hN b (bD ▸ hb)
          · exact Nat.le_trans (hF1.trans hF14).size (bD b hb)
      · rw [if_neg (by simpa using he)] at hoa
        exact hnone (by rw [hoa]; rfl) _ hF2
    · simp only [drw_eq]
      have hB2 := hB.fr0 (Fr.drew w')
      have hf2 := hfr.fr0 (Fr.drew w')
      have k4 := (Fr.drew (fp := none_) w').heap g1 fun h => h
      have hFd : Fr none_ w' w'.drew := Fr.drew w'
      simp only [push_cast, Nat.reduceAdd, Nat.reduceLeDiff, Nat.reduceLT, Int.reduceToNat, Nat.left_eq_add, Nat.add_eq_left, Nat.add_left_cancel_iff, Nat.reduceEqDiff, Nat.add_assoc, Nat.succ_ne_zero]
      generalize w'.drew = wd at *
      have hself : Fr none_ wd wd := Fr.refl _ _
      have fin : ∀ sl w2, w2.heap[sl]? = some (cellsO (fs.t.out v i f bs.length).1.cells 27) → Fr none_ wd w2 → j2 (pt sl 0) (i64 (fs.t.out v i f bs.length).2) w2 := fun sl w2 hs hF => hj2 _ _ _ ⟨sl, rfl, rfl, hs, hFd.trans hF⟩
      clear hnone hX hj hk h hx
      repeat' first
        | with_reducible refine allW_intro ?_ ?_
        | with_reducible refine ro_ldV hB2 (by assumption) ?_
        | with_reducible refine so_ldF k4 (by assumption) ?_
        | with_reducible refine so_alloc (w0 := wd) (by assumption) fun _ _ _ _ _ => ?_
        | with_reducible refine ro_out hB2 hf2 (by assumption) fun _ _ _ => ?_
        | (with_reducible refine so_st1 (w0 := wd) hgo (by assumption) (by assumption) (by first | assumption | exact Fr.refl _ _) (by assumption) fun _ _ _ _ => ?_; exact fin _ _ (by assumption) (by assumption))
  · have state : ((i : Int) ≠ frm) → tgt target ((i : Int), zFrm) = true → opS Tryz.prog (S.ia 70 (.slice (some ⟨sb, so, none⟩) fs.S.length sc) (i64 i)) (fun x18 => opS Tryz.prog (S.ld 3 x18) fun x19 => opS Tryz.prog (S.binI .neq x19 (.int .i64 2)) fun x20 => brn x20 (X x (i64 (IntKind.i64.wrap ((i : Int) + 1)))) j0) w1 := fun hnf htg => by
      refine st_getO hB.s (by omega) (by omega) ?_
      rw [Int.toNat_natCast]
      simp only [push_cast, Nat.reduceAdd, Nat.reduceLeDiff, Nat.reduceLT, Int.reduceToNat, Nat.left_eq_add, Nat.add_eq_left, Nat.add_left_cancel_iff, Nat.reduceEqDiff, Nat.add_assoc, Nat.succ_ne_zero]
      refine br_intro (fun hst => ?_) fun hst => ?_
      · refine hnone ?_ _ (Fr.refl _ _)
        unfold outAt
        rw [if_neg hnf, if_pos (by simpa using hst)]
        rfl
      · exact hj0 _ ⟨rfl, hnf, htg, by simpa using hst⟩
    simp only [push_cast, Nat.reduceAdd, Nat.reduceLeDiff, Nat.reduceLT, Int.reduceToNat, Nat.left_eq_add, Nat.add_eq_left, Nat.add_left_cancel_iff, Nat.reduceEqDiff, Nat.add_assoc, Nat.succ_ne_zero, hB.blk]
    refine br_intro (fun hfr => ?_) fun hfr => ?_
    · refine hnone ?_ _ (Fr.refl _ _)
      unfold outAt
      rw [if_pos (by simpa using hfr)]
      rfl
    have hnf : ¬ (i : Int) = frm := by simpa using hfr
    refine br_intro (fun h0 => ?_) fun h0 => ?_
    · have h0 : ¬ target = 0 := by simpa using h0
      refine br_intro (fun h1 => ?_) fun h1 => ?_
      · have h1 : ¬ (i : Int) = target := by simpa using h1
        refine hnone ?_ _ (Fr.refl _ _)
        have ht : ∀ g : Frm, tgt target ((i : Int), g) = false := fun g => decide_eq_false fun e => e.elim h0 h1
        unfold outAt
        split
        · rfl
        · split
          · rfl
          · split
            · show List.filter (tgt target) [_] = []
              rw [List.filter_cons, if_neg (by rw [ht]; simp)]
              rfl
            · rfl
      · have h1 : (i : Int) = target := by simpa using h1
        refine state hnf (decide_eq_true (.inr h1))
    · have h0 : target = 0 := by simpa using h0
      exact state hnf (decide_eq_true (.inl h0))

end
end Go.Gx.S
end

section
/- The document's bridge: what comes of a frame. -/
set_option linter.unusedVariables false
set_option linter.unusedSimpArgs false
set_option maxRecDepth 100000
namespace Go.Gx.S
open Go Go.Gx Go.Proofs
variable {K : Value → World → Prop} {w : World}

/-- what a list of stations is, in any table -/
def RP (r : List Ent) : Prop := Srt r ∧ r.length ≤ 1024 ∧ ∀ e ∈ r, grp e.mac = false
theorem RP.of {p pb o c room : Nat} {ps r : List Ent} (h : FT w p pb o c room ps r) : RP r := by
  refine ⟨h.ct.srt, by have := h.cap; have := h.hi; omega, fun e he => ?_⟩
  have := (h.rng e he).1
  unfold rightB at this
  simp only [Bool.and_eq_true, Bool.not_eq_true'] at this
  exact this.2.2.2.2

def wayA (room : Nat) (fs : FS) (port : Int) (f : Frm) (n : Nat) (now : Int) : FS × Int × Int × Int × List (Int × Frm) :=
  if (refusedL fs port f n now).1 = 0 then
    (learnF room fs (refusedL fs port f n now).2 f.src port now, (sentL (learnF room fs (refusedL fs port f n now).2 f.src port now) (refusedL fs port f n now).2 port f n).1, (refusedL fs port f n now).2, (sentL (learnF room fs (refusedL fs port f n now).2 f.src port now) (refusedL fs port f n now).2 port f n).2)
  else (fs, (refusedL fs port f n now).1, (refusedL fs port f n now).2, 0, [])
theorem takeA_way (room : Nat) (fs : FS) (port : Int) (f : Frm) (n : Nat) (now : Int) : takeA room fs port f n now = ({ (wayA room fs port f n now).1 with N := incr (wayA room fs port f n now).1.N (wayA room fs port f n now).2.1.toNat }, (wayA room fs port f n now).2) := by
  unfold takeA wayA
  split <;> rfl
theorem wayA_range (room : Nat) (fs : FS) (port : Int) (f : Frm) (n : Nat) (now : Int) : 0 ≤ (wayA room fs port f n now).2.1 ∧ (wayA room fs port f n now).2.1 < 9 := by
  unfold wayA
  split
  · exact sentL_range _ _ _ _ _
  · exact refusedL_range _ _ _ _ _

theorem build_w0 (c : Int) : opS Tryz.prog (S.build 37 [(0, i64 c)]) K w = K (.agg (wayC c 0 0 (.slice none 0 0)).toArray) w := by
  rw [opS_build _ rfl]; rfl
theorem build_w3 (c v t : Int) : opS Tryz.prog (S.build 37 [(0, i64 c), (1, i64 v), (2, i64 t)]) K w = K (.agg (wayC c v t (.slice none 0 0)).toArray) w := by
  rw [opS_build _ rfl]; rfl
theorem build_w4 (v t : Int) (a : Option Addr) (n c : Nat) : opS Tryz.prog (S.build 37 [(1, i64 v), (2, i64 t), (3, .slice a n c)]) K w = K (.agg (wayC 0 v t (.slice a n c)).toArray) w := by
  rw [opS_build _ rfl]; rfl

section
variable {D : Nat → Prop} {N0 rb vq vnb : Nat} {vL : Value} {fq : Nat} {fL : Value} {sb so sc room : Nat} {fs : FS}

section
variable {w0 : World} {f : Frm} {v : Int}
theorem rs_ldT (h : RBR D N0 w0 rb vq vnb vL fq fL sb so sc room fs) (hF : Fr none_ w0 w) {R : Value → World → Prop} (hk : R (pt fq 0) w) : opS Tryz.prog (S.ld 106 (pt rb 2)) R w := by
  have := hF.heap h.blk fun h => h
  simp only [push_cast, Nat.reduceAdd, Nat.reduceLeDiff, Nat.reduceLT, Int.reduceToNat, Nat.left_eq_add, Nat.add_eq_left, Nat.add_left_cancel_iff, Nat.reduceEqDiff, Nat.add_assoc, Nat.succ_ne_zero, this]
  exact hk
theorem rs_look (h : RBR D N0 w0 rb vq vnb vL fq fL sb so sc room fs) (hP : RP fs.r) (hv : isI v) (hm : f.dst.ok) (hF : Fr none_ w0 w) {R : Value → Value → World → Prop} (hk : ∀ w', Fr none_ w0 w' → Fr none_ w w' → R (.agg (lookL fs.r (v, f.dst)).1.cells.toArray) (.bool (lookL fs.r (v, f.dst)).2) w') :
    opS Tryz.prog (S.cl 117 [pt fq 0, i64 v, .agg f.dst.cells.toArray]) (fun x => opS Tryz.prog (S.ext x 0) fun a => opS Tryz.prog (S.ext x 1) fun b => R a b) w := by
  simp only [push_cast, Nat.reduceAdd, Nat.reduceLeDiff, Nat.reduceLT, Int.reduceToNat, Nat.left_eq_add, Nat.add_eq_left, Nat.add_left_cancel_iff, Nat.reduceEqDiff, Nat.add_assoc, Nat.succ_ne_zero]
  refine rlook_spec (h.f.fr0 hF) hP.1 hv hm (by have := hP.2.1; omega) fun w' hF' => ?_
  simp only [s_ext, List.getElem?_toArray, List.getElem?_cons_zero, List.getElem?_cons_succ, onS_some]
  exact hk w' (hF.trans hF') hF'
end

theorem way_spec {port now : Int} {f : Frm} {bs : List Int} (h : RBR D N0 w rb vq vnb vL fq fL sb so sc room fs) (hrm : room ≤ 2 ^ 20) (hP : RP fs.r) (hP2 : RP (wayA room fs port f bs.length now).1.r) (ht : fs.t.ok) (hf : FrmR w f bs) (hfl : ∃ w0 : World, FrmR w0 f bs ∧ w0.heap.size ≤ N0) (hpi : isI port) (hni : isI now)
    (hk : ∀ x w' fL', RBR D N0 w' rb vq vnb vL fq fL' sb so sc room (wayA room fs port f bs.length now).1 → RdE 18 w' x ((wayA room fs port f bs.length now).2.2.2.2.map outC) → New w x → Fr (fun b => b = rb ∨ rp fq fL b) w w' → NewOr w fL fL' →
      K (.agg (wayC (wayA room fs port f bs.length now).2.1 (wayA room fs port f bs.length now).2.2.1 (wayA room fs port f bs.length now).2.2.2.1 x).toArray) w') :
    CallsR Tryz.prog 83 #[pt rb 0, i64 port, .agg f.cells.toArray, i64 now] K w := by
  apply c83
  unfold p83
  have hlt0 : ∀ {b}, rwf rb sb vq vnb vL fq fL b → b < w.heap.size := fun hb => h.lt hb
  rw [opS_box]
  show opS Tryz.prog (S.alloc 37) _ (w.alloc (cellsO f.cells 27))
  have hF1 : Fr none_ w (w.alloc (cellsO f.cells 27)) := (by repeat' first | with_reducible exact Fr.refl _ _ | with_reducible refine Fr.step_alloc ?_ ?_ | with_reducible refine Fr.step_drew ?_ | with_reducible refine Fr.step_wr ?_ ?_ _ _ | exact rfl | exact Or.inr (by omega) | exact Or.inl rfl | exact Or.inl (Or.inl rfl) | exact Or.inl (Or.inr rfl))
  have hf0 : (w.alloc (cellsO f.cells 27)).heap[w.heap.size]? = some (cellsO f.cells 27) := by simp only [push_cast, Nat.reduceAdd, Nat.reduceLeDiff, Nat.reduceLT, Int.reduceToNat, Nat.left_eq_add, Nat.add_eq_left, Nat.add_left_cancel_iff, Nat.reduceEqDiff, Nat.add_assoc, Nat.succ_ne_zero]
  replace h := h.fr0 hF1
  replace hf := hf.fr0 hF1
  have hs1 := lt_of_heap hf0
  generalize w.alloc (cellsO f.cells 27) = w1 at *
  rw [zalloc_way]
  have hF2 : Fr none_ w1 (w1.alloc (cellsO (wayC 0 0 0 (.slice none 0 0)) 37)) := (by repeat' first | with_reducible exact Fr.refl _ _ | with_reducible refine Fr.step_alloc ?_ ?_ | with_reducible refine Fr.step_drew ?_ | with_reducible refine Fr.step_wr ?_ ?_ _ _ | exact rfl | exact Or.inr (by omega) | exact Or.inl rfl | exact Or.inl (Or.inl rfl) | exact Or.inl (Or.inr rfl))
  have hr0 : (w1.alloc (cellsO (wayC 0 0 0 (.slice none 0 0)) 37)).heap[w1.heap.size]? = some (cellsO (wayC 0 0 0 (.slice none 0 0)) 37) := by simp only [push_cast, Nat.reduceAdd, Nat.reduceLeDiff, Nat.reduceLT, Int.reduceToNat, Nat.left_eq_add, Nat.add_eq_left, Nat.add_left_cancel_iff, Nat.reduceEqDiff, Nat.add_assoc, Nat.succ_ne_zero]
  replace h := h.fr0 hF2
  replace hf := hf.fr0 hF2
  replace hf0 := hF2.heap hf0 fun h => h
  replace hF1 := hF1.trans hF2
  have hs2 := lt_of_heap hr0
  generalize w1.alloc (cellsO (wayC 0 0 0 (.slice none 0 0)) 37) = w2 at *
  generalize hfb : w.heap.size = fb at *
  generalize hrb : w1.heap.size = rs at *
  have hlo : w.heap.size ≤ rs := by omega
  -- the ends
  have fin : ∀ {w' : World} {c v t : Int} {x fL' : Value} {fs' : FS} {outs : List (Int × Frm)}, wayA room fs port f bs.length now = (fs', c, v, t, outs) → RBR D N0 w' rb vq vnb vL fq fL' sb so sc room fs' → RdE 18 w' x (outs.map outC) → (∀ b, blkS x = some b → rs < b) → Fr (fun b => b = rb ∨ rp fq fL b) w w' → NewOr w fL fL' → (∀ b, blkS fL' = some b → b ≠ rs) →
      w'.heap[rs]? = some (cellsO (wayC 0 0 0 (.slice none 0 0)) 37) → opS Tryz.prog (S.st 37 (pt rs 0) (.agg (wayC c v t x).toArray)) (fun _ => opS Tryz.prog (S.ld 37 (pt rs 0)) fun y => K y) w' := by
    intro w' c v t x fL' fs' outs he hB hx hn hF hN hnf hr
    obtain ⟨xa, xc, rfl⟩ := hx.form
    refine new_put hr (by decide) (wayC.len ..) (wayC.len ..) (wayC.one ..) ?_
    rw [he] at hk
    refine hk _ _ fL' (hB.fr (Fr.step_wr (fp := fun b => b = rs) (Fr.refl _ _) (.inl rfl) _ _) fun b hb e => ?_) (hx.frame fun b hb => ?_) (fun b hb => by have := hn b hb; omega) (hF.step_wr (.inr hlo) _ _) hN
    · rcases hb with hb | hb | hb | hb | hb
      · have := hlt0 (b := b) (.inl hb); omega
      · have := hlt0 (b := b) (.inr (.inl hb)); omega
      · have := hlt0 (b := b) (.inr (.inr (.inl hb))); omega
      · have := hlt0 (b := b) (.inr (.inr (.inr (.inl hb)))); omega
      · exact hnf b hb e
    · have := hn b hb
      have e : b ≠ rs := by omega
      simp only [push_cast, Nat.reduceAdd, Nat.reduceLeDiff, Nat.reduceLT, Int.reduceToNat, Nat.left_eq_add, Nat.add_eq_left, Nat.add_left_cancel_iff, Nat.reduceEqDiff, Nat.add_assoc, Nat.succ_ne_zero, e]
  have hself : NewOr w fL fL := fun b hb => .inl hb
  have hnf0 : ∀ b, blkS fL = some b → b ≠ rs := fun b hb => by have := hlt0 (b := b) (.inr (.inr (.inr (.inr hb)))); omega
  have bad : ∀ {w' : World} {c v : Int}, Fr none_ w2 w' → refusedL fs port f bs.length now = (c, v) → c ≠ 0 → opS Tryz.prog (S.st 37 (pt rs 0) (.agg (wayC c v 0 (.slice none 0 0)).toArray)) (fun _ => opS Tryz.prog (S.ld 37 (pt rs 0)) fun y => K y) w' := by
    intro w' c v hF he hc
    refine fin (fs' := fs) (fL' := fL) (outs := []) ?_ (h.fr0 hF) (own_nil 49 18 _).rd (fun b hb => by cases hb) ((hF1.trans hF).mono fun _ _ e => e.elim) hself hnf0 (hF.heap hr0 fun h => h)
    unfold wayA
    rw [he, if_neg hc]
  obtain ⟨ba, bc, hbd⟩ := hf.2.form
  simp only [push_cast, Nat.reduceAdd, Nat.reduceLeDiff, Nat.reduceLT, Int.reduceToNat, Nat.left_eq_add, Nat.add_eq_left, Nat.add_left_cancel_iff, Nat.reduceEqDiff, Nat.add_assoc, Nat.succ_ne_zero, hf0, frm_len, frm_dw]
  refine Vl.rright_spec hbd fun w3 hF3 => ?_
  have h3 := h.fr0 hF3
  simp only [push_cast, Nat.reduceAdd, Nat.reduceLeDiff, Nat.reduceLT, Int.reduceToNat, Nat.left_eq_add, Nat.add_eq_left, Nat.add_left_cancel_iff, Nat.reduceEqDiff, Nat.add_assoc, Nat.succ_ne_zero]
  refine rhas_spec h3 ?_
  simp only [push_cast, Nat.reduceAdd, Nat.reduceLeDiff, Nat.reduceLT, Int.reduceToNat, Nat.left_eq_add, Nat.add_eq_left, Nat.add_left_cancel_iff, Nat.reduceEqDiff, Nat.add_assoc, Nat.succ_ne_zero]
  have hbad1 : ∀ {w' : World}, Fr none_ w2 w' → (!(hasB fs.S port) || (!(f.right bs.length) || !(timedB now))) = true → opS Tryz.prog (S.build 37 [(0, i64 1)]) (fun x => opS Tryz.prog (S.st 37 (pt rs 0) x) fun _ => opS Tryz.prog (S.ld 37 (pt rs 0)) fun y => K y) w' := fun hF e => by
    rw [build_w0]
    refine bad (v := 0) hF ?_ (by decide)
    unfold refusedL
    rw [if_pos e]
  refine br_intro (fun hr => ?_) fun hr => ?_
  · refine hbad1 hF3 ?_
    rw [hr]; simp
  refine br_intro (fun hh => ?_) fun hh => ?_
  · refine hbad1 hF3 ?_
    rw [hh]; rfl
  refine br_dec (fun h1 => ?_) fun h1 => ?_
  · refine hbad1 hF3 ?_
    rw [timedB_no (t := now) (by omega)]; simp
  refine br_dec (fun h2 => ?_) fun h2 => ?_
  · refine hbad1 hF3 ?_
    rw [timedB_no (t := now) (by omega)]; simp
  have hr : f.right bs.length = true := by simpa using hr
  have hh : hasB fs.S port = true := by simpa using hh
  have htm : timedB now = true := timedB_iff.2 ⟨by omega, by omega⟩
  have hok0 : ¬ (!(hasB fs.S port) || (!(f.right bs.length) || !(timedB now))) = true := by rw [hr, hh, htm]; decide
  obtain ⟨hp1, hp2⟩ := hasB_iff.1 hh
  have hf03 := hF3.heap hf0 fun h => h
  have edst : (f.cells.drop 0).take 6 = f.dst.cells := rfl
  have esrc : (f.cells.drop 6).take 6 = f.src.cells := rfl
  simp only [push_cast, Nat.reduceAdd, Nat.reduceLeDiff, Nat.reduceLT, Int.reduceToNat, Nat.left_eq_add, Nat.add_eq_left, Nat.add_left_cancel_iff, Nat.reduceEqDiff, Nat.add_assoc, Nat.succ_ne_zero, hf03, frm_len, edst]
  refine rreserved_spec hf.1.1 fun w4 hF4 => ?_
  replace hF3 := hF3.trans hF4
  replace h3 := h3.fr0 hF4
  replace hf03 := hF4.heap hf03 fun h => h
  simp only [push_cast, Nat.reduceAdd, Nat.reduceLeDiff, Nat.reduceLT, Int.reduceToNat, Nat.left_eq_add, Nat.add_eq_left, Nat.add_left_cancel_iff, Nat.reduceEqDiff, Nat.add_assoc, Nat.succ_ne_zero]
  refine br_intro (fun hrs => ?_) fun hrs => ?_
  · rw [build_w0]
    refine bad (v := 0) hF3 ?_ (by decide)
    unfold refusedL
    rw [if_neg hok0, if_pos hrs]
  simp only [push_cast, Nat.reduceAdd, Nat.reduceLeDiff, Nat.reduceLT, Int.reduceToNat, Nat.left_eq_add, Nat.add_eq_left, Nat.add_left_cancel_iff, Nat.reduceEqDiff, Nat.add_assoc, Nat.succ_ne_zero, h3.blk]
  refine st_getO h3.s (by omega) (by omega) ?_
  simp only [push_cast, Nat.reduceAdd, Nat.reduceLeDiff, Nat.reduceLT, Int.reduceToNat, Nat.left_eq_add, Nat.add_eq_left, Nat.add_left_cancel_iff, Nat.reduceEqDiff, Nat.add_assoc, Nat.succ_ne_zero]
  refine br_intro (fun h0 => ?_) fun h0 => ?_
  · rw [build_w0]
    refine bad (v := 0) hF3 ?_ (by decide)
    unfold refusedL
    rw [if_neg hok0, if_neg (by rw [hrs]; simp), if_pos (by simpa using h0)]
  have hst0 : ¬ fs.S.getD port.toNat 0 = 0 := by simpa using h0
  simp only [push_cast, Nat.reduceAdd, Nat.reduceLeDiff, Nat.reduceLT, Int.reduceToNat, Nat.left_eq_add, Nat.add_eq_left, Nat.add_left_cancel_iff, Nat.reduceEqDiff, Nat.add_assoc, Nat.succ_ne_zero, h3.blk, hf03, frm_len, frm_dw]
  replace h3 := h3.fr0 (Fr.drew w4)
  replace hf03 := (Fr.drew (fp := none_) w4).heap hf03 fun h => h
  replace hF3 := hF3.step_drew
  generalize w4.drew = w4 at *
  refine Vl.rin_spec h3.v (hf.fr0 hF3) fun w5 hF5 => ?_
  replace hF3 := hF3.trans hF5
  replace h3 := h3.fr0 hF5
  replace hf03 := hF5.heap hf03 fun h => h
  simp only [push_cast, Nat.reduceAdd, Nat.reduceLeDiff, Nat.reduceLT, Int.reduceToNat, Nat.left_eq_add, Nat.add_eq_left, Nat.add_left_cancel_iff, Nat.reduceEqDiff, Nat.add_assoc, Nat.succ_ne_zero]
  refine br_intro (fun he => ?_) fun he => ?_
  · rw [build_w0]
    refine bad (v := 0) hF3 ?_ (by decide)
    unfold refusedL
    rw [if_neg hok0, if_neg (by rw [hrs]; simp), if_neg hst0, if_pos (by simpa using he)]
  have he0 : ¬ (fs.t.inn port f bs.length).2 ≠ 0 := by simpa using he
  have hvi : isI (fs.t.inn port f bs.length).1 := inn_isI ht hf.1
  generalize hva : (fs.t.inn port f bs.length).1 = va at *
  simp only [push_cast, Nat.reduceAdd, Nat.reduceLeDiff, Nat.reduceLT, Int.reduceToNat, Nat.left_eq_add, Nat.add_eq_left, Nat.add_left_cancel_iff, Nat.reduceEqDiff, Nat.add_assoc, Nat.succ_ne_zero, hf03, frm_len, esrc]
  refine rgroup_spec hf.1.2.1 fun w6 hF6 => ?_
  replace hF3 := hF3.trans hF6
  replace h3 := h3.fr0 hF6
  replace hf03 := hF6.heap hf03 fun h => h
  simp only [push_cast, Nat.reduceAdd, Nat.reduceLeDiff, Nat.reduceLT, Int.reduceToNat, Nat.left_eq_add, Nat.add_eq_left, Nat.add_left_cancel_iff, Nat.reduceEqDiff, Nat.add_assoc, Nat.succ_ne_zero]
  refine br_intro (fun hg => ?_) fun hg => ?_
  · rw [build_way2]
    refine bad hF3 ?_ (by decide)
    unfold refusedL
    rw [if_neg hok0, if_neg (by rw [hrs]; simp), if_neg hst0, if_neg he0, if_pos hg, hva]
  have href : refusedL fs port f bs.length now = (0, va) := by
    unfold refusedL
    rw [if_neg hok0, if_neg (by rw [hrs]; simp), if_neg hst0, if_neg he0, if_neg (by rw [hg]; simp), hva]
  have hway : wayA room fs port f bs.length now = (learnF room fs va f.src port now, (sentL (learnF room fs va f.src port now) va port f bs.length).1, va, (sentL (learnF room fs va f.src port now) va port f bs.length).2) := by
    unfold wayA
    rw [href, if_pos rfl]
  rw [hway] at hP2
  simp only [push_cast, Nat.reduceAdd, Nat.reduceLeDiff, Nat.reduceLT, Int.reduceToNat, Nat.left_eq_add, Nat.add_eq_left, Nat.add_left_cancel_iff, Nat.reduceEqDiff, Nat.add_assoc, Nat.succ_ne_zero, hf03, frm_len, esrc]
  refine rblearn_spec h3 hP.1 (by have := hP.2.1; omega) hrm hvi hf.1.2.1 hpi hni fun w7 fL7 h7 hF7 hN7 => ?_
  have hlf : ∀ b, fb ≤ b → ¬ (b = rb ∨ rp fq fL b) := fun b hb e => by
    rcases e with e | e
    · have := hlt0 (b := b) (.inl e); omega
    · have := hlt0 (b := b) (.inr (.inr (.inr e))); omega
  obtain ⟨w0, hw0, hw0n⟩ := hfl
  have hf7 : FrmR w7 f bs := frm_keep hw0 (hf.fr0 hF3) hF7 fun b hb e => by
    rcases e with e | e
    · have := (h3.ge (b := b) (.inl e)).1; omega
    · have := (h3.ge (b := b) (.inr (.inr (.inr e)))).1; omega
  replace hf03 := hF7.heap hf03 (hlf _ (Nat.le_refl _))
  have hr7 := hF7.heap (hF3.heap hr0 fun h => h) (hlf _ (by omega))
  have hs6 := (hF1.trans hF3).size
  have hF07 : Fr (fun b => b = rb ∨ rp fq fL b) w w7 := ((hF1.trans hF3).mono fun _ _ e => e.elim).trans hF7
  have hN07 : NewOr w fL fL7 := fun b hb => by
    rcases hN7 b hb with e | e
    · exact .inl e
    · exact .inr (by omega)
  have hnf7 : ∀ b, blkS fL7 = some b → b ≠ rs := fun b hb => by
    rcases hN7 b hb with e | e
    · exact hnf0 b e
    · have := lt_of_heap (hF3.heap hr0 fun h => h); omega
  have hsl2 : (learnF room fs va f.src port now).S = fs.S := rfl
  generalize hfs2 : learnF room fs va f.src port now = fs2 at *
  rw [← hsl2] at hp2
  simp only [push_cast, Nat.reduceAdd, Nat.reduceLeDiff, Nat.reduceLT, Int.reduceToNat, Nat.left_eq_add, Nat.add_eq_left, Nat.add_left_cancel_iff, Nat.reduceEqDiff, Nat.add_assoc, Nat.succ_ne_zero, h7.blk]
  refine st_getO h7.s (by omega) (by omega) ?_
  simp only [push_cast, Nat.reduceAdd, Nat.reduceLeDiff, Nat.reduceLT, Int.reduceToNat, Nat.left_eq_add, Nat.add_eq_left, Nat.add_left_cancel_iff, Nat.reduceEqDiff, Nat.add_assoc, Nat.succ_ne_zero]
  refine br_intro (fun h0 => ?_) fun h0 => ?_
  · have h0 : fs2.S.getD port.toNat 0 = 1 := by simpa using h0
    rw [build_way2]
    refine fin (outs := []) ?_ h7 (own_nil 49 18 _).rd (fun b hb => by cases hb) hF07 hN07 hnf7 hr7
    rw [hway]
    unfold sentL
    rw [if_pos h0]
  have h0 : ¬ fs2.S.getD port.toNat 0 = 1 := by simpa using h0
  have hs7 := lt_of_heap hr7
  have hfs7 := lt_of_heap hf03
  -- behind it all
  have tail : ∀ {w' : World} {tt : Int} {x : Value} {outs : List (Int × Frm)}, sentL fs2 va port f bs.length = endL tt outs → Fr none_ w7 w' → RdE 18 w' x (outs.map outC) → (∀ b, blkS x = some b → rs < b) → opS Tryz.prog (S.len x) (fun x46 => opS Tryz.prog (S.binI .eql x46 (.int .i64 0)) fun x47 => brn x47 (opS Tryz.prog (S.build 37 [(0, .int .i64 8), (1, i64 va), (2, i64 tt)]) fun x48 => opS Tryz.prog (S.st 37 (pt rs 0) x48) fun _ => opS Tryz.prog (S.ld 37 (pt rs 0)) fun x50 => K x50) (opS Tryz.prog (S.build 37 [(1, i64 va), (2, i64 tt), (3, x)]) fun x48 => opS Tryz.prog (S.st 37 (pt rs 0) x48) fun _ => opS Tryz.prog (S.ld 37 (pt rs 0)) fun x50 => K x50)) w' := by
    intro w' tt x outs he hF hx hn
    obtain ⟨xa, xc, rfl⟩ := hx.form
    have h9 := h7.fr0 hF
    have hr9 := hF.heap hr7 fun h => h
    have hF9 : Fr (fun b => b = rb ∨ rp fq fL b) w w' := hF07.trans (hF.mono fun _ _ e => e.elim)
    simp only [push_cast, Nat.reduceAdd, Nat.reduceLeDiff, Nat.reduceLT, Int.reduceToNat, Nat.left_eq_add, Nat.add_eq_left, Nat.add_left_cancel_iff, Nat.reduceEqDiff, Nat.add_assoc, Nat.succ_ne_zero]
    refine br_intro (fun e => ?_) fun e => ?_
    · have e : outs = [] := by simpa using e
      rw [build_w3]
      refine fin (outs := []) ?_ h9 (own_nil 49 18 _).rd (fun b hb => by cases hb) hF9 hN07 hnf7 hr9
      rw [hway, he]
      unfold endL
      rw [if_pos e]
    · have e : ¬ outs = [] := by simpa using e
      rw [build_w4]
      refine fin (outs := outs) ?_ h9 hx hn hF9 hN07 hnf7 hr9
      rw [hway, he]
      unfold endL
      rw [if_neg e]
  refine jn2 (fun a b w' => ∃ sl, a = pt sl 0 ∧ b = .bool (lookL fs2.r (va, f.dst)).2 ∧ w'.heap[sl]? = some (cellsO (lookL fs2.r (va, f.dst)).1.cells 40) ∧ Fr none_ w7 w') ?_ fun j2 hj2 => ?_
  case refine_2 =>
    have hFd : Fr none_ w7 w7.drew := Fr.drew w7
    have hB2 := h7.fr0 hFd
    have k4 := hFd.heap hf03 fun h => h
    simp only [push_cast, Nat.reduceAdd, Nat.reduceLeDiff, Nat.reduceLT, Int.reduceToNat, Nat.left_eq_add, Nat.add_eq_left, Nat.add_left_cancel_iff, Nat.reduceEqDiff, Nat.add_assoc, Nat.succ_ne_zero]
    generalize w7.drew = wd at *
    have hself : Fr none_ wd wd := Fr.refl _ _
    have hdst := hf.1.1
    have fin : ∀ sl w', w'.heap[sl]? = some (cellsO (lookL fs2.r (va, f.dst)).1.cells 40) → Fr none_ wd w' → j2 (pt sl 0) (.bool (lookL fs2.r (va, f.dst)).2) w' := fun sl w' hs hF => hj2 _ _ _ ⟨sl, rfl, rfl, hs, hFd.trans hF⟩
    clear tail hk
    repeat' first
      | with_reducible refine allW_intro ?_ ?_
      | with_reducible refine rs_ldT hB2 (by assumption) ?_
      | with_reducible refine se_ldM k4 (by assumption) ?_
      | with_reducible refine se_alloc (w0 := wd) (by assumption) fun _ _ _ _ _ => ?_
      | with_reducible refine rs_look hB2 hP2 hvi hdst (by assumption) fun _ _ _ => ?_
      | (with_reducible refine se_st1 (w0 := wd) (by assumption) (by assumption) (by first | assumption | exact Fr.refl _ _) (by assumption) fun _ _ _ _ => ?_; exact fin _ _ (by assumption) (by assumption))
  rintro a b w8 ⟨sl, rfl, rfl, hsl, hF8⟩
  have h8 := h7.fr0 hF8
  have hf8 := hf7.fr0 hF8
  have hf08 := hF8.heap hf03 fun h => h
  refine jn1 (fun a w' => ∃ tt : Int, a = i64 tt ∧ Fr none_ w8 w' ∧ sentL fs2 va port f bs.length = endL tt (if (lookL fs2.r (va, f.dst)).2 = false ∨ tt > 0 then relayL fs2.t fs2.S va port tt f bs.length else [])) ?_ fun j1 hj1 => ?_
  · rintro a w9 ⟨tt, rfl, hF9, he⟩
    have h9 := h8.fr0 hF9
    have hf9 := hf8.fr0 hF9
    have hf09 := hF9.heap hf08 fun h => h
    have hF79 := hF8.trans hF9
    have hs9 := hF79.size
    refine jn1 (fun x w' => ∃ outs : List (Int × Frm), sentL fs2 va port f bs.length = endL tt outs ∧ Fr none_ w7 w' ∧ RdE 18 w' x (outs.map outC) ∧ (∀ b, blkS x = some b → rs < b)) (fun x w' ⟨outs, h1, h2, h3, h4⟩ => tail h1 h2 h3 h4) fun j3 hj3 => ?_
    have rel : ((lookL fs2.r (va, f.dst)).2 = false ∨ tt > 0) → CallsR Tryz.prog 66 #[pt rb 0, i64 va, i64 port, i64 tt, .agg f.cells.toArray] (fun x46 => j3 x46) w9 := fun hc => by
      rw [if_pos hc] at he
      refine rrelay_spec h9 hf9 fun x w10 hx hn hF10 => ?_
      exact hj3 _ _ ⟨_, he, hF79.trans hF10, hx.rd, fun b hb => by have := hn b hb; omega⟩
    simp only [jn_0, push_cast, Nat.reduceAdd, Nat.reduceLeDiff, Nat.reduceLT, Int.reduceToNat, Nat.left_eq_add, Nat.add_eq_left, Nat.add_left_cancel_iff, Nat.reduceEqDiff, Nat.add_assoc, Nat.succ_ne_zero, hf09, frm_len, frm_dw]
    refine br_intro (fun h1 => rel (.inl (by simpa using h1))) fun h1 => ?_
    refine br_dec (fun h2 => rel (.inr h2)) fun h2 => ?_
    rw [if_neg (by rintro (e | e); · rw [e] at h1; cases h1
                   · exact h2 e)] at he
    exact hj3 _ _ ⟨[], he, hF79, (own_nil 49 18 _).rd, fun b hb => by cases hb⟩
  · have none : (atK fs2.r (va, f.dst) = none) → ∀ w', Fr none_ w8 w' → j1 (i64 0) w' := fun e w' hF => hj1 _ _ ⟨0, rfl, hF, by
      unfold sentL lookL
      rw [if_neg h0, e]
      simp only [true_or, if_true]⟩
    simp only [jn_0]
    cases hat : atK fs2.r (va, f.dst) with
    | none =>
      have e2 : (lookL fs2.r (va, f.dst)).2 = false := by unfold lookL; rw [hat]
      simp only [push_cast, Nat.reduceAdd, Nat.reduceLeDiff, Nat.reduceLT, Int.reduceToNat, Nat.left_eq_add, Nat.add_eq_left, Nat.add_left_cancel_iff, Nat.reduceEqDiff, Nat.add_assoc, Nat.succ_ne_zero, e2]
      exact none hat _ (Fr.refl _ _)
    | some g =>
      have e2 : lookL fs2.r (va, f.dst) = (g, true) := by unfold lookL; rw [hat]
      have hgm : grp f.dst = false := by
        have h1 := hP2.2.2 g (List.mem_of_find?_eq_some hat)
        have h2 := List.find?_some hat
        have h3 : eKey g = (va, f.dst) := by simpa using h2
        unfold eKey at h3
        rw [Prod.mk.injEq] at h3
        rw [← h3.2]
        exact h1
      rw [e2] at hsl
      simp only [push_cast, Nat.reduceAdd, Nat.reduceLeDiff, Nat.reduceLT, Int.reduceToNat, Nat.left_eq_add, Nat.add_eq_left, Nat.add_left_cancel_iff, Nat.reduceEqDiff, Nat.add_assoc, Nat.succ_ne_zero, e2, hf08, frm_len, edst]
      refine rgroup_spec hf.1.1 fun w9 hF9 => ?_
      replace hsl := hF9.heap hsl fun h => h
      simp only [push_cast, Nat.reduceAdd, Nat.reduceLeDiff, Nat.reduceLT, Int.reduceToNat, Nat.left_eq_add, Nat.add_eq_left, Nat.add_left_cancel_iff, Nat.reduceEqDiff, Nat.add_assoc, Nat.succ_ne_zero, hgm, Bool.not_false, hsl]
      refine br_intro (fun h1 => ?_) fun h1 => ?_
      · have h1 : g.port = port := by simpa using h1
        rw [build_way2]
        refine fin (outs := []) ?_ (h8.fr0 hF9) (own_nil 49 18 _).rd (fun b hb => by cases hb) (hF07.trans ((hF8.trans hF9).mono fun _ _ e => e.elim)) hN07 hnf7 ((hF8.trans hF9).heap hr7 fun h => h)
        rw [hway]
        unfold sentL
        rw [if_neg h0, hat]
        simp only [if_pos h1]
      have h1 : ¬ g.port = port := by simpa using h1
      refine hj1 _ _ ⟨g.port, rfl, hF9, ?_⟩
      unfold sentL
      rw [if_neg h0, hat]
      simp only [if_neg h1, e2, Bool.true_eq_false, false_or]

end
end Go.Gx.S
end

section
/- Bridges are made; the document's takes a frame; two answers are compared. -/
set_option linter.unusedVariables false
set_option linter.unusedSimpArgs false
set_option maxRecDepth 100000
namespace Go.Gx.S
open Go Go.Gx Go.Proofs
variable {K : Value → World → Prop} {w : World}

theorem way_slotG {c v t : Int} {a : Option Addr} {n k : Nat} {R : Value → Value → World → Prop} (h : ∀ u w', w'.heap[w.heap.size]? = some (cellsO (wayC c v t (.slice a n k)) 37) → Fr none_ w w' → R (pt w.heap.size 0) u w') :
    opS Tryz.prog (S.alloc 37) (fun x => opS Tryz.prog (S.st 37 x (.agg (wayC c v t (.slice a n k)).toArray)) (R x)) w := by
  rw [zalloc_way, s_stA _ _ (wayC c v t (.slice a n k)) rfl rfl, heap_alloc_new, okAt_cells]
  rw [show decide (0 + (wayC c v t (.slice a n k)).length ≤ (wayC 0 0 0 (.slice none 0 0)).length) = true from rfl, onB_true]
  refine h _ _ ?_ (Fr.step_wr (Fr.step_alloc (Fr.refl _ _) rfl) (.inr (Nat.le_refl _)) _ _)
  rw [heap_wr, if_pos rfl, heap_alloc_new, putAt_cells]
  rfl

section
variable {D : Nat → Prop} {N0 rb vq vnb : Nat} {vL : Value} {fq : Nat} {fL : Value} {sb so sc room : Nat} {fs : FS}

theorem rbtake_spec {port now : Int} {f : Frm} {bs : List Int} (h : RBR D N0 w rb vq vnb vL fq fL sb so sc room fs) (hrm : room ≤ 2 ^ 20) (hP : RP fs.r) (hP2 : RP (takeA room fs port f bs.length now).1.r) (ht : fs.t.ok) (hf : FrmR w f bs) (hfl : ∃ w0 : World, FrmR w0 f bs ∧ w0.heap.size ≤ N0) (hpi : isI port) (hni : isI now)
    (hk : ∀ x w' fL', RBR D N0 w' rb vq vnb vL fq fL' sb so sc room (takeA room fs port f bs.length now).1 → RdE 18 w' x ((takeA room fs port f bs.length now).2.2.2.2.map outC) → New w x → Fr (fun b => b = rb ∨ rp fq fL b) w w' →
      K (.agg (wayC (takeA room fs port f bs.length now).2.1 (takeA room fs port f bs.length now).2.2.1 (takeA room fs port f bs.length now).2.2.2.1 x).toArray) w') :
    CallsR Tryz.prog 54 #[pt rb 0, i64 port, .agg f.cells.toArray, i64 now] K w := by
  apply c54
  unfold p54
  have hlt0 : ∀ {b}, rwf rb sb vq vnb vL fq fL b → b < w.heap.size := fun hb => h.lt hb
  rw [takeA_way] at hk hP2
  rw [opS_box]
  show opS Tryz.prog (S.alloc 37) _ (w.alloc (cellsO f.cells 27))
  have hF1 : Fr none_ w (w.alloc (cellsO f.cells 27)) := (by repeat' first | with_reducible exact Fr.refl _ _ | with_reducible refine Fr.step_alloc ?_ ?_ | with_reducible refine Fr.step_drew ?_ | with_reducible refine Fr.step_wr ?_ ?_ _ _ | exact rfl | exact Or.inr (by omega) | exact Or.inl rfl | exact Or.inl (Or.inl rfl) | exact Or.inl (Or.inr rfl))
  have hf0 : (w.alloc (cellsO f.cells 27)).heap[w.heap.size]? = some (cellsO f.cells 27) := by simp only [push_cast, Nat.reduceAdd, Nat.reduceLeDiff, Nat.reduceLT, Int.reduceToNat, Nat.left_eq_add, Nat.add_eq_left, Nat.add_left_cancel_iff, Nat.reduceEqDiff, Nat.add_assoc, Nat.succ_ne_zero]
  replace h := h.fr0 hF1
  replace hf := hf.fr0 hF1
  have hs1 := lt_of_heap hf0
  generalize w.alloc (cellsO f.cells 27) = w1 at *
  rw [zalloc_way]
  have hF2 : Fr none_ w1 (w1.alloc (cellsO (wayC 0 0 0 (.slice none 0 0)) 37)) := (by repeat' first | with_reducible exact Fr.refl _ _ | with_reducible refine Fr.step_alloc ?_ ?_ | with_reducible refine Fr.step_drew ?_ | with_reducible refine Fr.step_wr ?_ ?_ _ _ | exact rfl | exact Or.inr (by omega) | exact Or.inl rfl | exact Or.inl (Or.inl rfl) | exact Or.inl (Or.inr rfl))
  have hr0 : (w1.alloc (cellsO (wayC 0 0 0 (.slice none 0 0)) 37)).heap[w1.heap.size]? = some (cellsO (wayC 0 0 0 (.slice none 0 0)) 37) := by simp only [push_cast, Nat.reduceAdd, Nat.reduceLeDiff, Nat.reduceLT, Int.reduceToNat, Nat.left_eq_add, Nat.add_eq_left, Nat.add_left_cancel_iff, Nat.reduceEqDiff, Nat.add_assoc, Nat.succ_ne_zero]
  replace h := h.fr0 hF2
  replace hf := hf.fr0 hF2
  replace hf0 := hF2.heap hf0 fun h => h
  replace hF1 := hF1.trans hF2
  have hs2 := lt_of_heap hr0
  generalize w1.alloc (cellsO (wayC 0 0 0 (.slice none 0 0)) 37) = w2 at *
  generalize hfb : w.heap.size = fb at *
  generalize hrb : w1.heap.size = rs at *
  have hlf : ∀ b, fb ≤ b → ¬ (b = rb ∨ rp fq fL b) := fun b hb e => by
    rcases e with e | e
    · have := hlt0 (b := b) (.inl e); omega
    · have := hlt0 (b := b) (.inr (.inr (.inr e))); omega
  have hwr := wayA_range room fs port f bs.length now
  simp only [push_cast, Nat.reduceAdd, Nat.reduceLeDiff, Nat.reduceLT, Int.reduceToNat, Nat.left_eq_add, Nat.add_eq_left, Nat.add_left_cancel_iff, Nat.reduceEqDiff, Nat.add_assoc, Nat.succ_ne_zero, hf0, frm_len, frm_dw]
  refine way_spec h hrm hP hP2 ht hf hfl hpi hni fun x w3 fL3 h3 hx hN3 hF3 hNo => ?_
  generalize wayA room fs port f bs.length now = A at *
  obtain ⟨fs', cc, vv, tt, outs⟩ := A
  obtain ⟨xa, xc, rfl⟩ := hx.form
  rw [List.length_map] at hx hN3
  simp only [List.length_map] at hk hwr h3 hx ⊢
  have hr3 := hF3.heap hr0 (hlf _ (by omega))
  have hs3 := hF3.size
  refine way_slotG fun _ w4 hw4 hF4 => ?_
  replace hr3 := hF4.heap hr3 fun h => h
  replace h3 := h3.fr0 hF4
  replace hx := hx.fr hF4 fun _ _ h => h
  have hF04 : Fr (fun b => b = rb ∨ rp fq fL b) w w4 := (hF1.mono fun _ _ e => e.elim).trans (hF3.trans (hF4.mono fun _ _ e => e.elim))
  have hrs4 := lt_of_heap hw4
  have hrb0 := hlt0 (b := rb) (.inl rfl)
  have hle : w2.heap.size ≤ w3.heap.size := hs3
  generalize w3.heap.size = ws at *
  refine way_cause (w := w4.drew) hw4 ?_
  refine rcnt_n (k := cc.toNat) (by omega) (by omega) (h3.fr0 (Fr.drew w4)) fun w6 h6 hF6 => ?_
  have hF56 : Fr (fun b => b = rb) w4 w6 := ((Fr.drew w4 : Fr none_ w4 w4.drew).mono fun _ _ e => e.elim).trans_new hF6 fun b _ e => e
  have g1 := hF56.heap hw4 (by omega)
  have g2 := hF56.heap hr3 (by omega)
  have hne : rs ≠ ws := by omega
  simp only [push_cast, Nat.reduceAdd, Nat.reduceLeDiff, Nat.reduceLT, Int.reduceToNat, Nat.left_eq_add, Nat.add_eq_left, Nat.add_left_cancel_iff, Nat.reduceEqDiff, Nat.add_assoc, Nat.succ_ne_zero, g1, g2]
  have hlo : w.heap.size ≤ rs := by omega
  have hx6 := hx.fr hF56 fun b hb e => by have := hN3 b hb; omega
  refine hk _ _ fL3 (h6.fr (Fr.step_wr (fp := fun b => b = rs) (Fr.refl _ _) (.inl rfl) _ _) fun b hb e => ?_) (hx6.frame fun b hb => ?_) (fun b hb => by have := hN3 b hb; omega) ((hF04.trans_new hF56 fun b _ e => .inl e).step_wr (.inr hlo) _ _)
  · rcases hb with hb | hb | hb | hb | hb
    · have := hlt0 (b := b) (.inl hb); omega
    · have := hlt0 (b := b) (.inr (.inl hb)); omega
    · have := hlt0 (b := b) (.inr (.inr (.inl hb))); omega
    · have := hlt0 (b := b) (.inr (.inr (.inr (.inl hb)))); omega
    · rcases hNo b hb with e1 | e1
      · have := hlt0 (b := b) (.inr (.inr (.inr (.inr e1)))); omega
      · omega
  · have := hN3 b hb
    have e : b ≠ rs := by omega
    simp only [push_cast, Nat.reduceAdd, Nat.reduceLeDiff, Nat.reduceLT, Int.reduceToNat, Nat.left_eq_add, Nat.add_eq_left, Nat.add_left_cancel_iff, Nat.reduceEqDiff, Nat.add_assoc, Nat.succ_ne_zero, e]

end

theorem out_frmR {t : VT} {v n : Int} {f : Frm} {bs : List Int} (hf : FrmR w f bs) (hv : isI v) : ∃ cs, FrmR w (t.out v n f bs.length).1 cs := by
  obtain ⟨⟨h1, h2, h3, h4, h5⟩, hb⟩ := hf
  unfold VT.out
  split
  · split
    · exact ⟨[], zFrmR w⟩
    · exact ⟨bs, ⟨h1, h2, hv, h4, h5⟩, hb⟩
    · exact ⟨bs, ⟨h1, h2, isI_iff.2 (show -9223372036854775808 ≤ (0 : Int) ∧ (0 : Int) ≤ 9223372036854775807 by decide), isI_iff.2 (show -9223372036854775808 ≤ (0 : Int) ∧ (0 : Int) ≤ 9223372036854775807 by decide), h5⟩, hb⟩
  · exact ⟨[], zFrmR w⟩
theorem outAt_frmR {t : VT} {S : List Int} {v frm : Int} {f : Frm} {bs : List Int} {i : Nat} {o : Int × Frm} (hf : FrmR w f bs) (hv : isI v) (h : outAt t S v frm f bs.length i = some o) : o.1 = i ∧ (i : Int) ≠ frm ∧ S.getD i 0 = 2 ∧ (t.out v i f bs.length).2 = 0 ∧ o.2 = (t.out v i f bs.length).1 := by
  unfold outAt at h
  split at h
  · cases h
  · rename_i h1
    split at h
    · cases h
    · rename_i h2
      split at h
      · rename_i h3
        cases h
        exact ⟨rfl, h1, by simpa using h2, h3, rfl⟩
      · cases h
theorem sendN_mem {t : VT} {S : List Int} {v frm : Int} {f : Frm} {n : Nat} {o : Int × Frm} : ∀ {k}, o ∈ sendN t S v frm f n k → ∃ i, i < k ∧ outAt t S v frm f n i = some o
  | 0, h => by cases h
  | k + 1, h => by
    unfold sendN at h
    rcases List.mem_append.1 h with h | h
    · obtain ⟨i, h1, h2⟩ := sendN_mem h
      exact ⟨i, by omega, h2⟩
    · rw [Option.mem_toList] at h
      exact ⟨k, by omega, h⟩
theorem relayL_frmR {t : VT} {S : List Int} {v frm target : Int} {f : Frm} {bs : List Int} (hf : FrmR w f bs) (hv : isI v) : ∀ o ∈ relayL t S v frm target f bs.length, ∃ cs, FrmR w o.2 cs := fun o ho => by
  obtain ⟨i, _, h⟩ := sendN_mem (List.mem_filter.1 ho).1
  obtain ⟨_, _, _, _, h⟩ := outAt_frmR hf hv h
  rw [h]
  exact out_frmR hf hv

/-- two lists -/
theorem sameouts_any {a b : Value} {l r : List (Int × Frm)} (ha : RdE 18 w a (l.map outC)) (hb : RdE 18 w b (r.map outC)) (hl : ∀ o ∈ l, ∃ cs, FrmR w o.2 cs) (hr : ∀ o ∈ r, ∃ cs, FrmR w o.2 cs) (hn : l.length < 2 ^ 62) (h : ∀ w' q, Fr none_ w w' → (l = r → q = true) → K (.bool q) w') :
    CallsR Tryz.prog 18 #[a, b] K w := by
  apply c18
  unfold p18
  obtain ⟨aa, ac, rfl⟩ := ha.form
  obtain ⟨ba, bc, rfl⟩ := hb.form
  simp only [push_cast, Nat.reduceAdd, Nat.reduceLeDiff, Nat.reduceLT, Int.reduceToNat, Nat.left_eq_add, Nat.add_eq_left, Nat.add_left_cancel_iff, Nat.reduceEqDiff, Nat.add_assoc, Nat.succ_ne_zero, List.length_map]
  refine br_intro (fun hne => ?_) fun hne => ?_
  · exact h _ _ (Fr.refl _ _) fun e => by subst e; simp at hne
  have hlen : l.length = r.length := by
    have : ((l.length : Nat) : Int) = r.length := by simpa using hne
    omega
  refine jn0 (fun w' => Fr none_ w w') (fun w' hF => h _ _ hF fun _ => rfl) fun j hj => ?_
  refine loop1 (fun m v w' => ∃ i : Nat, v = i64 i ∧ i + m = l.length ∧ Fr none_ w w') ?_ l.length ⟨0, rfl, by omega, Fr.refl _ _⟩
  rintro m v w' X ⟨i, rfl, hi, hF⟩ hX
  simp only [push_cast, Nat.reduceAdd, Nat.reduceLeDiff, Nat.reduceLT, Int.reduceToNat, Nat.left_eq_add, Nat.add_eq_left, Nat.add_left_cancel_iff, Nat.reduceEqDiff, Nat.add_assoc, Nat.succ_ne_zero, List.length_map]
  refine br_dec (fun hlt => ?_) fun hge => hj _ hF
  have hi2 : i < l.length := by omega
  have hi3 : i < r.length := by omega
  have hfr : FrmR w l[i].2 (Classical.epsilon fun cs => FrmR w l[i].2 cs) := Classical.epsilon_spec (hl _ (List.getElem_mem hi2))
  have hgr : FrmR w r[i].2 (Classical.epsilon fun cs => FrmR w r[i].2 cs) := Classical.epsilon_spec (hr _ (List.getElem_mem hi3))
  have ha' := ha.fr hF.step_drew (fun _ _ h => h)
  have hb' := hb.fr hF.step_drew (fun _ _ h => h)
  rw [List.length_map] at ha' hb'
  generalize hWd : w'.drew = W at *
  have hFW : Fr none_ w' W := hWd ▸ Fr.drew w'
  have hfrW := hfr.fr0 (hF.trans hFW)
  have hgrW := hgr.fr0 (hF.trans hFW)
  have eA : ∀ {w'' : World} {b o : Nat} {g : Int × Frm}, El w'' b (o + i * 18) (outC g) → aggAt w''.heap[b]? (o + (i * 18 + 1)) 17 = some (.agg (g.2.cells).toArray) ∧ cellAt w''.heap[b]? (o + i * 18) = some (i64 g.1) := fun hE => by
    have h1 := hE.agg 1 17 (Nat.le_refl 18)
    have h2 := hE.cell0 (Nat.zero_lt_succ 17)
    rw [Nat.add_assoc] at h1
    exact ⟨h1, h2⟩
  refine s_iaE (es := l.map outC) ha' (by omega) (by simpa using hi2) fun b1 o1 c1 hv1 hE => ?_
  simp only [Int.toNat_natCast, List.getElem_map] at hE ⊢
  simp only [push_cast, Nat.reduceAdd, Nat.reduceLeDiff, Nat.reduceLT, Int.reduceToNat, Nat.left_eq_add, Nat.add_eq_left, Nat.add_left_cancel_iff, Nat.reduceEqDiff, Nat.add_assoc, Nat.succ_ne_zero, (eA hE).1]
  refine s_iaE (es := r.map outC) hb' (by omega) (by simpa using hi3) fun b2 o2 c2 hv2 hE2 => ?_
  simp only [Int.toNat_natCast, List.getElem_map] at hE2 ⊢
  simp only [push_cast, Nat.reduceAdd, Nat.reduceLeDiff, Nat.reduceLT, Int.reduceToNat, Nat.left_eq_add, Nat.add_eq_left, Nat.add_left_cancel_iff, Nat.reduceEqDiff, Nat.add_assoc, Nat.succ_ne_zero, (eA hE2).1]
  refine Vl.same_spec hfrW hgrW fun w2 hF2 => ?_
  simp only [drw_eq]
  have ha2 := ha'.fr hF2.step_drew (fun _ _ h => h)
  have hb2 := hb'.fr hF2.step_drew (fun _ _ h => h)
  have hF2d : Fr none_ w w2.drew := (hF.trans hFW).trans hF2.step_drew
  generalize w2.drew = W2 at *
  refine s_iaE (es := l.map outC) ha2 (by omega) (by simpa using hi2) fun b3 o3 c3 _ hE3 => ?_
  simp only [Int.toNat_natCast, List.getElem_map] at hE3 ⊢
  simp only [push_cast, Nat.reduceAdd, Nat.reduceLeDiff, Nat.reduceLT, Int.reduceToNat, Nat.left_eq_add, Nat.add_eq_left, Nat.add_left_cancel_iff, Nat.reduceEqDiff, Nat.add_assoc, Nat.succ_ne_zero, (eA hE3).2]
  refine s_iaE (es := r.map outC) hb2 (by omega) (by simpa using hi3) fun b4 o4 c4 _ hE4 => ?_
  simp only [Int.toNat_natCast, List.getElem_map] at hE4 ⊢
  simp only [push_cast, Nat.reduceAdd, Nat.reduceLeDiff, Nat.reduceLT, Int.reduceToNat, Nat.left_eq_add, Nat.add_eq_left, Nat.add_left_cancel_iff, Nat.reduceEqDiff, Nat.add_assoc, Nat.succ_ne_zero, (eA hE4).2]
  refine br_intro (fun hp => ?_) fun hp => ?_
  · exact h _ _ hF2d fun e => by subst e; simp at hp
  refine br_intro (fun hq => ?_) fun hq => ?_
  · refine h _ _ hF2d fun e => ?_
    subst e
    rw [decide_eq_true ⟨rfl, rfl, rfl, rfl, rfl, rfl, rfl⟩] at hq
    cases hq
  rw [wrap_i64 (by omega)]
  exact hX (m - 1) _ _ (by omega) ⟨i + 1, by simp, by omega, hF2d⟩
/-- the same list, told twice -/
theorem sameouts_yes {a b : Value} {l : List (Int × Frm)} (ha : RdE 18 w a (l.map outC)) (hb : RdE 18 w b (l.map outC)) (hl : ∀ o ∈ l, ∃ cs, FrmR w o.2 cs) (hn : l.length < 2 ^ 62) (h : ∀ w', Fr none_ w w' → K (.bool true) w') :
    CallsR Tryz.prog 18 #[a, b] K w := by
  refine sameouts_any ha hb hl hl hn fun w' q hF hq => ?_
  rw [hq rfl]
  exact h w' hF

theorem same_any {c v t c' v' t' : Int} {x y : Value} {l r : List (Int × Frm)} (ha : RdE 18 w x (l.map outC)) (hb : RdE 18 w y (r.map outC)) (hl : ∀ o ∈ l, ∃ cs, FrmR w o.2 cs) (hr : ∀ o ∈ r, ∃ cs, FrmR w o.2 cs) (hn : l.length < 2 ^ 62) (h : ∀ w' q, Fr none_ w w' → (c = c' ∧ v = v' ∧ t = t' ∧ l = r → q = true) → K (.bool q) w') :
    CallsR Tryz.prog 21 #[.agg (wayC c v t x).toArray, .agg (wayC c' v' t' y).toArray] K w := by
  apply c21
  unfold p21
  have hF : Fr none_ w ((w.alloc (cellsO (wayC c v t x) 37)).alloc (cellsO (wayC c' v' t' y) 37)) := (by repeat' first | with_reducible exact Fr.refl _ _ | with_reducible refine Fr.step_alloc ?_ ?_ | with_reducible refine Fr.step_drew ?_ | with_reducible refine Fr.step_wr ?_ ?_ _ _ | exact rfl | exact Or.inr (by omega) | exact Or.inl rfl | exact Or.inl (Or.inl rfl) | exact Or.inl (Or.inr rfl))
  have h0 : ((w.alloc (cellsO (wayC c v t x) 37)).alloc (cellsO (wayC c' v' t' y) 37)).heap[w.heap.size]? = some (cellsO (wayC c v t x) 37) := by simp only [push_cast, Nat.reduceAdd, Nat.reduceLeDiff, Nat.reduceLT, Int.reduceToNat, Nat.left_eq_add, Nat.add_eq_left, Nat.add_left_cancel_iff, Nat.reduceEqDiff, Nat.add_assoc, Nat.succ_ne_zero]
  have h1 : ((w.alloc (cellsO (wayC c v t x) 37)).alloc (cellsO (wayC c' v' t' y) 37)).heap[w.heap.size + 1]? = some (cellsO (wayC c' v' t' y) 37) := by simp only [push_cast, Nat.reduceAdd, Nat.reduceLeDiff, Nat.reduceLT, Int.reduceToNat, Nat.left_eq_add, Nat.add_eq_left, Nat.add_left_cancel_iff, Nat.reduceEqDiff, Nat.add_assoc, Nat.succ_ne_zero]
  simp only [opS_box, cells_agg, alloc_cellsO, size_alloc]
  generalize ((w.alloc (cellsO (wayC c v t x) 37)).alloc (cellsO (wayC c' v' t' y) 37)) = W at *
  simp only [push_cast, Nat.reduceAdd, Nat.reduceLeDiff, Nat.reduceLT, Int.reduceToNat, Nat.left_eq_add, Nat.add_eq_left, Nat.add_left_cancel_iff, Nat.reduceEqDiff, Nat.add_assoc, Nat.succ_ne_zero, h0, h1]
  refine sameouts_any (ha.fr hF fun _ _ h => h) (hb.fr hF fun _ _ h => h) (fun o ho => (hl o ho).imp fun cs h => h.fr0 hF) (fun o ho => (hr o ho).imp fun cs h => h.fr0 hF) hn fun w2 q hF2 hq => ?_
  replace h0 := hF2.heap h0 fun h => h
  replace h1 := hF2.heap h1 fun h => h
  simp only [push_cast, Nat.reduceAdd, Nat.reduceLeDiff, Nat.reduceLT, Int.reduceToNat, Nat.left_eq_add, Nat.add_eq_left, Nat.add_left_cancel_iff, Nat.reduceEqDiff, Nat.add_assoc, Nat.succ_ne_zero, h0, h1]
  refine br_intro (fun e1 => ?_) fun e1 => ?_
  · refine br_intro (fun e2 => ?_) fun e2 => ?_
    · refine br_intro (fun e3 => ?_) fun e3 => ?_
      · exact h _ _ (hF.trans hF2) fun e => hq e.2.2.2
      · exact h _ _ (hF.trans hF2) fun e => by rw [e.2.2.1] at e3; simp at e3
    · exact h _ _ (hF.trans hF2) fun e => by rw [e.2.1] at e2; simp at e2
  · exact h _ _ (hF.trans hF2) fun e => by rw [e.1] at e1; simp at e1
theorem same_yes {c v t : Int} {x y : Value} {l : List (Int × Frm)} (ha : RdE 18 w x (l.map outC)) (hb : RdE 18 w y (l.map outC)) (hl : ∀ o ∈ l, ∃ cs, FrmR w o.2 cs) (hn : l.length < 2 ^ 62) (h : ∀ w', Fr none_ w w' → K (.bool true) w') :
    CallsR Tryz.prog 21 #[.agg (wayC c v t x).toArray, .agg (wayC c v t y).toArray] K w := by
  refine same_any ha hb hl hl hn fun w' q hF hq => ?_
  rw [hq ⟨rfl, rfl, rfl, rfl⟩]
  exact h w' hF

def newFS (ports : Int) : FS := ⟨VT.new (ports + 1).toNat, [], List.replicate (ports + 1).toNat 0, List.replicate 9 0, List.replicate 3 0⟩
theorem zeros_int (n : Nat) : zeros n [i64 0] = ((List.replicate n (0 : Int)).map cellI).flatten := by
  unfold zeros
  rw [List.map_replicate]
  rfl
theorem own_newI {b n : Nat} (h : w.heap[b]? = some (cellsO (zeros n [i64 0]) 3)) : OwnE 3 1 w (.slice (some ⟨b, 0, none⟩) (List.replicate n (0 : Int)).length n) ((List.replicate n (0 : Int)).map cellI) := by
  have hfl : ((List.replicate n (0 : Int)).map cellI).flatten.length = n := by
    rw [List.map_replicate, List.length_flatten, List.map_replicate]
    simp [cellI]
  refine ⟨.inr ⟨b, 0, n, _, ?_, h, ?_, ?_, ?_⟩, fun e he => ?_⟩
  · rw [List.length_map]
  · rw [List.length_map, List.length_replicate]; exact Nat.le_refl _
  · rw [zeros_int, List.size_toArray, hfl]; omega
  · rw [zeros_int, List.length_map, List.length_replicate, List.drop_zero, List.take_of_length_le (by rw [List.toList_toArray, hfl]; omega)]
  · obtain ⟨x, _, rfl⟩ := List.mem_map.1 he
    rfl

theorem fnew_spec {N0 : Nat} (ports room : Int) (hN : N0 ≤ w.heap.size) (h0 : ∀ w', Fr none_ w w' → ¬ (1 ≤ ports ∧ ports ≤ 63 ∧ 1 ≤ room ∧ room ≤ 1024) → K (.tuple #[.pointer none, i64 1]) w')
    (h1 : 1 ≤ ports → ports ≤ 63 → 1 ≤ room → room ≤ 1024 → ∀ w' bp vp vm vnb p pb o c sb ps, BR N0 w' bp vp vm vnb p pb o c sb 0 (ports + 1).toNat room.toNat ps (newFS ports) → Fr none_ w w' → K (.tuple #[pt bp 0, i64 0]) w') :
    CallsR Tryz.prog 25 #[i64 ports, i64 room] K w := by
  apply c25
  unfold p25
  simp only [push_cast, Nat.reduceAdd, Nat.reduceLeDiff, Nat.reduceLT, Int.reduceToNat, Nat.left_eq_add, Nat.add_eq_left, Nat.add_left_cancel_iff, Nat.reduceEqDiff, Nat.add_assoc, Nat.succ_ne_zero]
  refine br_dec (fun ha => h0 _ (Fr.refl _ _) (by omega)) fun ha => ?_
  refine br_dec (fun hb => h0 _ (Fr.refl _ _) (by omega)) fun hb => ?_
  have hw : IntKind.i64.wrap (ports + 1) = ports + 1 := wrap_i64 (by omega)
  rw [hw]
  refine Vl.vnew_spec _ (fun e => absurd ⟨by omega, by omega⟩ e) fun _ _ w1 vp vm vnb hv hF1 v1 v2 v3 => ?_
  simp only [push_cast, Nat.reduceAdd, Nat.reduceLeDiff, Nat.reduceLT, Int.reduceToNat, Nat.left_eq_add, Nat.add_eq_left, Nat.add_left_cancel_iff, Nat.reduceEqDiff, Nat.add_assoc, Nat.succ_ne_zero]
  refine pnew_spec _ (fun e => ?_) fun r1 r2 p pb o c ps w2 hf hF2 p1 p2 => ?_
  · simp only [push_cast, Nat.reduceAdd, Nat.reduceLeDiff, Nat.reduceLT, Int.reduceToNat, Nat.left_eq_add, Nat.add_eq_left, Nat.add_left_cancel_iff, Nat.reduceEqDiff, Nat.add_assoc, Nat.succ_ne_zero]
    have e1 : ((1 : Int) != 0) = true := by decide
    exact h0 _ hF1 (by omega)
  have hv2 := hv.fr0 hF2
  simp only [push_cast, Nat.reduceAdd, Nat.reduceLeDiff, Nat.reduceLT, Int.reduceToNat, Nat.left_eq_add, Nat.add_eq_left, Nat.add_left_cancel_iff, Nat.reduceEqDiff, Nat.add_assoc, Nat.succ_ne_zero, bne_self_eq_false, hw]
  have hF12 := hF1.trans hF2
  have hvl := hv2.lt
  have hfl := hf.fb.lt
  have hvl1 := hv.lt
  have hs1 := hF1.size
  have hs2 := hF2.size
  rw [opS_mks _ _ _ (by omega) (by omega) (by omega) (by rfl) (by decide)]
  simp only [push_cast, Nat.reduceAdd, Nat.reduceLeDiff, Nat.reduceLT, Int.reduceToNat, Nat.left_eq_add, Nat.add_eq_left, Nat.add_left_cancel_iff, Nat.reduceEqDiff, Nat.add_assoc, Nat.succ_ne_zero]
  rw [opS_build _ rfl]
  simp only [push_cast, Nat.reduceAdd, Nat.reduceLeDiff, Nat.reduceLT, Int.reduceToNat, Nat.left_eq_add, Nat.add_eq_left, Nat.add_left_cancel_iff, Nat.reduceEqDiff, Nat.add_assoc, Nat.succ_ne_zero]
  have hF3 : Fr none_ w2 ((w2.alloc (cellsO (zeros (ports + 1).toNat [Value.int .i64 0]) 3)).alloc (cellsO (brC vp p (.slice (some ⟨w2.heap.size, 0, none⟩) (ports + 1).toNat (ports + 1).toNat) (List.replicate 9 0) (List.replicate 3 0)) 83)) := (by repeat' first | with_reducible exact Fr.refl _ _ | with_reducible refine Fr.step_alloc ?_ ?_ | with_reducible refine Fr.step_drew ?_ | with_reducible refine Fr.step_wr ?_ ?_ _ _ | exact rfl | exact Or.inr (by omega) | exact Or.inl rfl | exact Or.inl (Or.inl rfl) | exact Or.inl (Or.inr rfl))
  have hlen : (newFS ports).S.length = (ports + 1).toNat := List.length_replicate ..
  have k1 : ((w2.alloc (cellsO (zeros (ports + 1).toNat [Value.int .i64 0]) 3)).alloc (cellsO (brC vp p (.slice (some ⟨w2.heap.size, 0, none⟩) (ports + 1).toNat (ports + 1).toNat) (List.replicate 9 0) (List.replicate 3 0)) 83)).heap[w2.heap.size]? = some (cellsO (zeros (ports + 1).toNat [Value.int .i64 0]) 3) := by simp only [push_cast, Nat.reduceAdd, Nat.reduceLeDiff, Nat.reduceLT, Int.reduceToNat, Nat.left_eq_add, Nat.add_eq_left, Nat.add_left_cancel_iff, Nat.reduceEqDiff, Nat.add_assoc, Nat.succ_ne_zero]
  have k2 : ((w2.alloc (cellsO (zeros (ports + 1).toNat [Value.int .i64 0]) 3)).alloc (cellsO (brC vp p (.slice (some ⟨w2.heap.size, 0, none⟩) (ports + 1).toNat (ports + 1).toNat) (List.replicate 9 0) (List.replicate 3 0)) 83)).heap[w2.heap.size + 1]? = some (cellsO (brC vp p (.slice (some ⟨w2.heap.size, 0, none⟩) (ports + 1).toNat (ports + 1).toNat) (List.replicate 9 0) (List.replicate 3 0)) 83) := by simp only [push_cast, Nat.reduceAdd, Nat.reduceLeDiff, Nat.reduceLT, Int.reduceToNat, Nat.left_eq_add, Nat.add_eq_left, Nat.add_left_cancel_iff, Nat.reduceEqDiff, Nat.add_assoc, Nat.succ_ne_zero]
  refine h1 (by omega) (by omega) r1 r2 _ (w2.heap.size + 1) vp vm vnb p pb o c w2.heap.size ps ⟨?_, hv2.fr0 hF3, hf.fr0 hF3, ?_, rfl, rfl, ?_, ?_, ?_, ?_, ?_⟩ (hF12.trans hF3)
  · rw [hlen]; exact k2
  · exact own_newI k1
  · rw [hlen]; omega
  all_goals omega

theorem rfnew_spec {D : Nat → Prop} {N0 : Nat} (ports room : Int) (hN : N0 ≤ w.heap.size) (hD : ∀ b, D b → b < w.heap.size) (h0 : ∀ w', Fr none_ w w' → ¬ (1 ≤ ports ∧ ports ≤ 63 ∧ 1 ≤ room ∧ room ≤ 1024) → K (.tuple #[.pointer none, i64 1]) w')
    (h1 : 1 ≤ ports → ports ≤ 63 → 1 ≤ room → room ≤ 1024 → ∀ w' rb vq vnb vL fq fL sb, RBR D N0 w' rb vq vnb vL fq fL sb 0 (ports + 1).toNat room.toNat (newFS ports) → Fr none_ w w' → K (.tuple #[pt rb 0, i64 0]) w') :
    CallsR Tryz.prog 26 #[i64 ports, i64 room] K w := by
  apply c26
  unfold p26
  simp only [push_cast, Nat.reduceAdd, Nat.reduceLeDiff, Nat.reduceLT, Int.reduceToNat, Nat.left_eq_add, Nat.add_eq_left, Nat.add_left_cancel_iff, Nat.reduceEqDiff, Nat.add_assoc, Nat.succ_ne_zero]
  have e1 : ((1 : Int) != 0) = true := by decide
  refine rnew_spec _ (fun e => ?_) fun r1 r2 fq fL w1 hf hF1 f1 f2 => ?_
  · simp only [push_cast, Nat.reduceAdd, Nat.reduceLeDiff, Nat.reduceLT, Int.reduceToNat, Nat.left_eq_add, Nat.add_eq_left, Nat.add_left_cancel_iff, Nat.reduceEqDiff, Nat.add_assoc, Nat.succ_ne_zero]
    refine br_dec (fun ha => h0 _ (Fr.refl _ _) (by omega)) fun ha => ?_
    refine br_dec (fun hb => h0 _ (Fr.refl _ _) (by omega)) fun hb => ?_
    exact h0 _ (Fr.refl _ _) (by omega)
  simp only [push_cast, Nat.reduceAdd, Nat.reduceLeDiff, Nat.reduceLT, Int.reduceToNat, Nat.left_eq_add, Nat.add_eq_left, Nat.add_left_cancel_iff, Nat.reduceEqDiff, Nat.add_assoc, Nat.succ_ne_zero]
  refine br_dec (fun ha => h0 _ hF1 (by omega)) fun ha => ?_
  refine br_dec (fun hb => h0 _ hF1 (by omega)) fun hb => ?_
  have hw : IntKind.i64.wrap (ports + 1) = ports + 1 := wrap_i64 (by omega)
  simp only [push_cast, Nat.reduceAdd, Nat.reduceLeDiff, Nat.reduceLT, Int.reduceToNat, Nat.left_eq_add, Nat.add_eq_left, Nat.add_left_cancel_iff, Nat.reduceEqDiff, Nat.add_assoc, Nat.succ_ne_zero, bne_self_eq_false, hw]
  refine Vl.rnew_spec _ (fun e => absurd ⟨by omega, by omega⟩ e) fun _ _ w2 vq vnb vL hv hF2 v1 v2 v3 => ?_
  have hf2 := hf.fr0 hF2
  simp only [push_cast, Nat.reduceAdd, Nat.reduceLeDiff, Nat.reduceLT, Int.reduceToNat, Nat.left_eq_add, Nat.add_eq_left, Nat.add_left_cancel_iff, Nat.reduceEqDiff, Nat.add_assoc, Nat.succ_ne_zero, hw]
  have hF12 := hF1.trans hF2
  have hvl := hv.lt
  have hfl := lt_of_heap hf2.blk
  have hfl1 := lt_of_heap hf.blk
  have hs1 := hF1.size
  have hs2 := hF2.size
  rw [opS_mks _ _ _ (by omega) (by omega) (by omega) (by rfl) (by decide)]
  simp only [push_cast, Nat.reduceAdd, Nat.reduceLeDiff, Nat.reduceLT, Int.reduceToNat, Nat.left_eq_add, Nat.add_eq_left, Nat.add_left_cancel_iff, Nat.reduceEqDiff, Nat.add_assoc, Nat.succ_ne_zero]
  rw [opS_build _ rfl]
  simp only [push_cast, Nat.reduceAdd, Nat.reduceLeDiff, Nat.reduceLT, Int.reduceToNat, Nat.left_eq_add, Nat.add_eq_left, Nat.add_left_cancel_iff, Nat.reduceEqDiff, Nat.add_assoc, Nat.succ_ne_zero]
  have hF3 : Fr none_ w2 ((w2.alloc (cellsO (zeros (ports + 1).toNat [Value.int .i64 0]) 3)).alloc (cellsO (rbC ports vq fq (.slice (some ⟨w2.heap.size, 0, none⟩) (ports + 1).toNat (ports + 1).toNat) (List.replicate 9 0) (List.replicate 3 0)) 113)) := (by repeat' first | with_reducible exact Fr.refl _ _ | with_reducible refine Fr.step_alloc ?_ ?_ | with_reducible refine Fr.step_drew ?_ | with_reducible refine Fr.step_wr ?_ ?_ _ _ | exact rfl | exact Or.inr (by omega) | exact Or.inl rfl | exact Or.inl (Or.inl rfl) | exact Or.inl (Or.inr rfl))
  have hlen : (newFS ports).S.length = (ports + 1).toNat := List.length_replicate ..
  have k1 : ((w2.alloc (cellsO (zeros (ports + 1).toNat [Value.int .i64 0]) 3)).alloc (cellsO (rbC ports vq fq (.slice (some ⟨w2.heap.size, 0, none⟩) (ports + 1).toNat (ports + 1).toNat) (List.replicate 9 0) (List.replicate 3 0)) 113)).heap[w2.heap.size]? = some (cellsO (zeros (ports + 1).toNat [Value.int .i64 0]) 3) := by simp only [push_cast, Nat.reduceAdd, Nat.reduceLeDiff, Nat.reduceLT, Int.reduceToNat, Nat.left_eq_add, Nat.add_eq_left, Nat.add_left_cancel_iff, Nat.reduceEqDiff, Nat.add_assoc, Nat.succ_ne_zero]
  have k2 : ((w2.alloc (cellsO (zeros (ports + 1).toNat [Value.int .i64 0]) 3)).alloc (cellsO (rbC ports vq fq (.slice (some ⟨w2.heap.size, 0, none⟩) (ports + 1).toNat (ports + 1).toNat) (List.replicate 9 0) (List.replicate 3 0)) 113)).heap[w2.heap.size + 1]? = some (cellsO (rbC ports vq fq (.slice (some ⟨w2.heap.size, 0, none⟩) (ports + 1).toNat (ports + 1).toNat) (List.replicate 9 0) (List.replicate 3 0)) 113) := by simp only [push_cast, Nat.reduceAdd, Nat.reduceLeDiff, Nat.reduceLT, Int.reduceToNat, Nat.left_eq_add, Nat.add_eq_left, Nat.add_left_cancel_iff, Nat.reduceEqDiff, Nat.add_assoc, Nat.succ_ne_zero]
  have hfLlt : ∀ b, blkS fL = some b → b < w1.heap.size := fun b hb => hf.own.lt hb
  have hvLlt : ∀ b, blkS vL = some b → b < w2.heap.size := fun b hb => hv.lst.lt hb
  have hrp : ∀ b, rp fq fL b → w.heap.size ≤ b ∧ b < w1.heap.size := fun b hb => by
    rcases hb with rfl | hb
    · exact ⟨f1, hfl1⟩
    · exact ⟨f2 b hb, hfLlt b hb⟩
  have hrv : ∀ b, Vl.rfp vq vnb vL b → w1.heap.size ≤ b ∧ b < w2.heap.size := fun b hb => by
    rcases hb with rfl | rfl | hb
    · exact ⟨v1, hvl.1⟩
    · exact ⟨v2, hvl.2⟩
    · exact ⟨v3 b hb, hvLlt b hb⟩
  have hDn : ∀ b, w.heap.size ≤ b → ¬ D b := fun b hb e => by have := hD b e; omega
  refine h1 (by omega) (by omega) r1 r2 _ (w2.heap.size + 1) vq vnb vL fq fL w2.heap.size ⟨?_, hv.fr0 hF3, hf2.fr0 hF3, ?_, rfl, rfl, ?_, ?_, fun b hb => ?_, fun b hb => ?_, ?_, ?_⟩ (hF12.trans hF3)
  · have e2 : ((newFS ports).S.length : Int) - 1 = ports := by rw [hlen]; omega
    rw [e2, hlen]; exact k2
  · exact own_newI k1
  · rw [hlen]; omega
  · show (List.replicate (ports + 1).toNat (0 : Int)).getD 0 0 = 0
    rw [List.getD_eq_getElem?_getD, List.getElem?_replicate]
    split <;> rfl
  · have := hrv b hb
    exact ⟨by omega, by omega, fun e => by have := hrp b e; omega, by omega, hDn b (by omega)⟩
  · have := hrp b hb
    exact ⟨by omega, by omega, by omega, hDn b (by omega)⟩
  · exact ⟨by omega, by omega, by omega, hDn _ (by omega), hDn _ (by omega)⟩
  · exact fun b hb => Nat.lt_of_lt_of_le (hD b hb) (Nat.le_trans hF12.size hF3.size)

end Go.Gx.S
end

section
/- Steps at both bridges. -/
set_option linter.unusedVariables false
set_option linter.unusedSimpArgs false
set_option maxRecDepth 100000
namespace Go.Gx.S
open Go Go.Gx Go.Proofs
variable {K : Value → World → Prop} {w : World}

/-! ### Rows of numbers are compared -/

theorem mapM_some {α β : Type} {f : α → Option β} : ∀ (L : List α), (∀ i ∈ L, ∃ y, f i = some y) → ∃ ys, L.mapM f = some ys
  | [], _ => ⟨[], rfl⟩
  | a :: L, h => by
    obtain ⟨y, hy⟩ := h a (List.mem_cons_self ..)
    obtain ⟨ys, hys⟩ := mapM_some L fun i hi => h i (List.mem_cons_of_mem _ hi)
    refine ⟨y :: ys, ?_⟩
    rw [List.mapM_cons, hy, hys]
    rfl
theorem ints_enc {P : Program} {T E n d : Nat} (hu : P.underlying T = some (.array n E)) (he : P.underlying E = some (.int .i64)) (h1 : P.cellsOf E = 1) (hT : P.cellsOf T = n) {l : List Int} (hl : l.length = n) (hok : ∀ x ∈ l, isI x) : ∃ ls, P.keyLits (d + 2) T (l.map i64) = some ls := by
  obtain ⟨ys, hys⟩ := mapM_some (f := fun i => P.keyLits (d + 1) E (((l.map i64).drop (i * P.cellsOf E)).take (P.cellsOf E))) (List.range n) fun i hi => by
    have hi : i < l.length := by rw [hl]; exact List.mem_range.1 hi
    rw [h1, Nat.mul_one]
    have : ((l.map i64).drop i).take 1 = [.int .i64 l[i]] := by
      rw [List.drop_eq_getElem_cons (by rw [List.length_map]; exact hi), List.take_succ_cons, List.take_zero, List.getElem_map]
    rw [this]
    exact ⟨_, kl_int_mk he (hok _ (List.getElem_mem hi))⟩
  exact ⟨_, kl_array_mk hu (by rw [List.length_map, hl, hT]) hys⟩
theorem ct9 : Tryz.prog.cellsOf 55 = 9 := by kernel_rfl
theorem ct3 : Tryz.prog.cellsOf 81 = 3 := by kernel_rfl
theorem ctI : Tryz.prog.cellsOf 3 = 1 := by kernel_rfl
theorem eq9 {l : List Int} (hl : l.length = 9) (hok : ∀ x ∈ l, isI x) (h : K (.bool true) w) : opS Tryz.prog (S.binG .eql 55 (.agg (l.map i64).toArray) (.agg (l.map i64).toArray)) K w := by
  obtain ⟨ls, hls⟩ := ints_enc (P := Tryz.prog) (d := 6) Tryz.underlying55 Tryz.underlying3 ctI ct9 hl hok
  refine s_eqG hls hls fun r hr => ?_
  rw [hr.2 rfl]
  exact h
theorem eq3 {l : List Int} (hl : l.length = 3) (hok : ∀ x ∈ l, isI x) (h : K (.bool true) w) : opS Tryz.prog (S.binG .eql 81 (.agg (l.map i64).toArray) (.agg (l.map i64).toArray)) K w := by
  obtain ⟨ls, hls⟩ := ints_enc (P := Tryz.prog) (d := 6) Tryz.underlying81 Tryz.underlying3 ctI ct3 hl hok
  refine s_eqG hls hls fun r hr => ?_
  rw [hr.2 rfl]
  exact h

/-! ### Steps -/

structure WStp where
  d : Int
  port : Int
  n : Int
  v : Int
  tg : Bool
  f : Frm
  now : Int
def WStp.cells (s : WStp) : List Value := i64 s.d :: i64 s.port :: i64 s.n :: i64 s.v :: .bool s.tg :: (s.f.cells ++ [i64 s.now])
theorem WStp.len (s : WStp) : s.cells.length = 23 := id rfl
theorem WStp.g0 (s : WStp) : s.cells[0]? = some (i64 s.d) := id rfl
theorem WStp.g1 (s : WStp) : s.cells[1]? = some (i64 s.port) := id rfl
theorem WStp.g2 (s : WStp) : s.cells[2]? = some (i64 s.n) := id rfl
theorem WStp.g3 (s : WStp) : s.cells[3]? = some (i64 s.v) := id rfl
theorem WStp.g4 (s : WStp) : s.cells[4]? = some (.bool s.tg) := id rfl
theorem WStp.d5 (s : WStp) : (s.cells.drop 5).take 17 = s.f.cells := id rfl
theorem WStp.d11 (s : WStp) : (s.cells.drop 11).take 6 = s.f.src.cells := id rfl
theorem WStp.d5d (s : WStp) : (s.cells.drop 5).take 6 = s.f.dst.cells := id rfl
theorem WStp.g21 (s : WStp) : s.cells[21]? = some s.f.body := id rfl
theorem WStp.g22 (s : WStp) : s.cells[22]? = some (i64 s.now) := id rfl
attribute [push_cast] WStp.len WStp.g0 WStp.g1 WStp.g2 WStp.g3 WStp.g4 WStp.d5 WStp.d11 WStp.d5d WStp.g21 WStp.g22
/-- a step that can be read; the body's bytes -/
structure StpR (N0 : Nat) (w : World) (s : WStp) (bs : List Int) : Prop where
  d : isI s.d
  port : isI s.port
  n : isI s.n
  v : isI s.v
  now : isI s.now
  f : FrmR w s.f bs
  lo : ∃ w0 : World, FrmR w0 s.f bs ∧ w0.heap.size ≤ N0
theorem StpR.fr {N0 : Nat} {w' : World} {s : WStp} {bs : List Int} (h : StpR N0 w s bs) (hF : Fr (fun b => N0 ≤ b) w w') : StpR N0 w' s bs :=
  by
  obtain ⟨w0, hw0, hn⟩ := h.lo
  exact ⟨h.d, h.port, h.n, h.v, h.now, frm_keep hw0 h.f hF fun b hb e => by omega, h.lo⟩
theorem StpR.fr0 {N0 : Nat} {w' : World} {s : WStp} {bs : List Int} (h : StpR N0 w s bs) (hF : Fr none_ w w') : StpR N0 w' s bs := h.fr (hF.mono fun _ _ e => e.elim)

def ageL (r : List Ent) (now lim : Int) : List Ent := if timedB now && timedB lim then r.filter fun e => !(ageA now lim e && !e.static) else r
def stepF (room : Nat) (fs : FS) (s : WStp) (n : Nat) : FS :=
  if s.d = 0 then (takeA room fs s.port s.f n s.now).1
  else if s.d = 1 then { fs with S := (setL' fs.S s.port s.n).1 }
  else if s.d = 2 then { fs with t := (fs.t.add s.v s.port s.tg).1 }
  else if s.d = 3 then { fs with t := (fs.t.native s.port s.v).1 }
  else if s.d = 4 then { fs with t := (fs.t.remove s.v s.port).1 }
  else if s.d = 5 then { fs with r := ageL fs.r s.now s.n }
  else if s.d = 6 then { fs with r := (putL room fs.r s.v s.f.src s.port).1 }
  else fs

/-! ### Both bridges -/

def pB (bp vp vm vnb p pb sb : Nat) : Nat → Prop := fun b => b = bp ∨ b = vp ∨ b = vm ∨ b = vnb ∨ b = p ∨ b = pb ∨ b = sb
def okN (fs : FS) : Prop := (∀ x ∈ fs.N, isI x) ∧ ∀ x ∈ fs.Ln, isI x
theorem wrap_isI (x : Int) : isI (IntKind.i64.wrap x) := by
  refine isI_iff.2 ?_
  unfold IntKind.wrap
  have e1 : (2 : Int) ^ IntKind.i64.bits = 18446744073709551616 := rfl
  have e2 : (2 : Int) ^ (IntKind.i64.bits - 1) = 9223372036854775808 := rfl
  have e3 : IntKind.i64.signed = true := rfl
  simp only [e1, e2, e3, Bool.true_and, decide_eq_true_eq]
  split <;> omega
theorem incr_ok {l : List Int} {k : Nat} (h : ∀ x ∈ l, isI x) : ∀ x ∈ incr l k, isI x := fun x hx => by
  unfold incr at hx
  rcases List.mem_or_eq_of_mem_set hx with e | e
  · exact h x e
  · rw [e]; exact wrap_isI _
theorem learnF_okN {room : Nat} {fs : FS} {v port now : Int} {m : Mac} (h : okN fs) : okN (learnF room fs v m port now) := by
  refine ⟨h.1, ?_⟩
  unfold learnF
  simp only
  split
  · exact incr_ok h.2
  · split
    · exact incr_ok h.2
    · split
      · exact incr_ok h.2
      · exact h.2
theorem takeA_okN {room : Nat} {fs : FS} {port now : Int} {f : Frm} {n : Nat} (h : okN fs) : okN (takeA room fs port f n now).1 := by
  unfold takeA
  split
  · exact ⟨incr_ok h.1, (learnF_okN h).2⟩
  · exact ⟨incr_ok h.1, h.2⟩
theorem stepF_okN {room : Nat} {fs : FS} {s : WStp} {n : Nat} (h : okN fs) : okN (stepF room fs s n) := by
  unfold stepF
  repeat' first | (split) | exact h | exact takeA_okN h

/-- stations, in any table of some room -/
def RPR (room : Nat) (r : List Ent) : Prop := Srt r ∧ r.length ≤ room ∧ ∀ e ∈ r, RngE e
theorem RPR.rp {room : Nat} {r : List Ent} (h : RPR room r) (hr : room ≤ 1024) : RP r := by
  refine ⟨h.1, by have := h.2.1; omega, fun e he => ?_⟩
  have := (h.2.2 e he).1
  unfold rightB at this
  simp only [Bool.and_eq_true, Bool.not_eq_true'] at this
  exact this.2.2.2.2
theorem RPR.with {room : Nat} {r : List Ent} {x : Ent} (h : RPR room r) (hx : x.ok) (hg : RngE x) (hc : (∃ y ∈ r, eKey y = eKey x) ∨ r.length < room) : RPR room (withL r x) := by
  refine ⟨h.1.with hx, ?_, fun e he => ?_⟩
  · rcases hc with ⟨y, hy, hk⟩ | hc
    · rw [with_len_old h.1 hy hk]; exact h.2.1
    · have := with_len r x; omega
  · rcases mem_with.1 he with rfl | he
    · exact hg
    · exact h.2.2 e he.1
theorem learnL_RPR {room : Nat} {r : List Ent} {v q t : Int} {m : Mac} (h : RPR room r) (hv : isI v) (hm : m.ok) (hq : isI q) (ht : isI t) : RPR room (learnL room r v m q t).1 := by
  unfold learnL
  split
  · rename_i h1
    rw [Bool.and_eq_true] at h1
    have hok : (⟨v, m, q, t, false⟩ : Ent).ok := ⟨hv, hm, hq, ht⟩
    have hrg : RngE ⟨v, m, q, t, false⟩ := ⟨h1.1, h1.2, fun e => by cases e⟩
    split
    · rename_i e he
      split
      · exact h
      · refine h.with hok hrg (.inl ⟨e, List.mem_of_find?_eq_some he, ?_⟩)
        have := List.find?_some he
        exact (by simpa using this : eKey e = (v, m))
    · split
      · exact h
      · exact h.with hok hrg (.inr (by omega))
  · exact h
theorem putL_RPR {room : Nat} {r : List Ent} {v q : Int} {m : Mac} (h : RPR room r) (hv : isI v) (hm : m.ok) (hq : isI q) : RPR room (putL room r v m q).1 := by
  unfold putL
  split
  · rename_i h1
    have hok : (⟨v, m, q, 0, true⟩ : Ent).ok := ⟨hv, hm, hq, isI_iff.2 (show -9223372036854775808 ≤ (0 : Int) ∧ (0 : Int) ≤ 9223372036854775807 by decide)⟩
    have hrg : RngE ⟨v, m, q, 0, true⟩ := ⟨h1, (by decide : timedB 0 = true), fun _ => rfl⟩
    split
    · rename_i e he
      refine h.with hok hrg (.inl ⟨e, List.mem_of_find?_eq_some he, ?_⟩)
      have := List.find?_some he
      exact (by simpa using this : eKey e = (v, m))
    · split
      · exact h
      · exact h.with hok hrg (.inr (by omega))
  · exact h
theorem RPR.filter {room : Nat} {r : List Ent} (h : RPR room r) (A : Ent → Bool) : RPR room (r.filter A) :=
  ⟨⟨h.1.1.filter _, fun e he => h.1.2 e (List.mem_filter.1 he).1⟩, Nat.le_trans (List.length_filter_le _ _) h.2.1, fun e he => h.2.2 e (List.mem_filter.1 he).1⟩
theorem ageL_RPR {room : Nat} {r : List Ent} {now lim : Int} (h : RPR room r) : RPR room (ageL r now lim) := by
  unfold ageL
  split
  · exact h.filter _
  · exact h
theorem takeA_RPR {room : Nat} {fs : FS} {port now : Int} {f : Frm} {n : Nat} (h : RPR room fs.r) (ht : fs.t.ok) (hf : f.ok) (hp : isI port) (hn : isI now) : RPR room (takeA room fs port f n now).1.r := by
  unfold takeA
  split
  · rename_i h0
    refine learnL_RPR h ?_ hf.2.1 hp hn
    rw [(refusedL_port h0).2.2.2.1]
    exact inn_isI ht hf
  · exact h
theorem stepF_RPR {room : Nat} {fs : FS} {N0 : Nat} {s : WStp} {bs : List Int} (h : RPR room fs.r) (ht : fs.t.ok) (hs : StpR N0 w s bs) : RPR room (stepF room fs s bs.length).r := by
  unfold stepF
  split
  · exact takeA_RPR h ht hs.f.1 hs.port hs.now
  · split
    · exact h
    · split
      · exact h
      · split
        · exact h
        · split
          · exact h
          · split
            · exact ageL_RPR h
            · split
              · exact putL_RPR h hs.v hs.f.1.2.1 hs.port
              · exact h

def BX (N0 : Nat) (w : World) (bp rb room : Nat) (fs gs : FS) : Prop :=
  okN fs ∧ RPR room gs.r ∧ ∃ vp vm vnb p pb o c sb so sc ps vq vnq vL fq fL sq soq scq, BR N0 w bp vp vm vnb p pb o c sb so sc room ps fs ∧ RBR (pB bp vp vm vnb p pb sb) N0 w rb vq vnq vL fq fL sq soq scq room gs
theorem BX.fr0 {N0 : Nat} {w' : World} {bp rb room : Nat} {fs gs : FS} (h : BX N0 w bp rb room fs gs) (hF : Fr none_ w w') : BX N0 w' bp rb room fs gs := by
  obtain ⟨h0, h00, vp, vm, vnb, p, pb, o, c, sb, so, sc, ps, vq, vnq, vL, fq, fL, sq, soq, scq, h1, h2⟩ := h
  exact ⟨h0, h00, vp, vm, vnb, p, pb, o, c, sb, so, sc, ps, vq, vnq, vL, fq, fL, sq, soq, scq, h1.fr0 hF, h2.fr0 hF⟩

theorem takeA_outs {room : Nat} {fs : FS} {port now : Int} {f : Frm} {n : Nat} : (takeA room fs port f n now).2.2.2.2 = [] ∨ ∃ (fs' : FS) (v tt : Int), (takeA room fs port f n now).2.2.2.2 = relayL fs'.t fs'.S v port tt f n ∧ fs'.S = fs.S ∧ v = (fs.t.inn port f n).1 := by
  unfold takeA
  split
  · rename_i h0
    have hv := (refusedL_port h0).2.2.2.1
    show (sentL _ _ _ _ _).2.2 = [] ∨ ∃ (fs' : FS) (v tt : Int), (sentL _ _ _ _ _).2.2 = _ ∧ _
    unfold sentL
    split
    · exact .inl rfl
    · have he : ∀ t l, (endL t l).2.2 = l := fun t l => by unfold endL; split <;> simp_all
      split
      · split
        · exact .inl rfl
        · rw [he]
          split
          · exact .inr ⟨_, _, _, rfl, rfl, hv⟩
          · exact .inl rfl
      · rw [he]
        exact .inr ⟨_, _, _, rfl, rfl, hv⟩
  · exact .inl rfl
theorem takeA_frmR {room : Nat} {fs : FS} {port now : Int} {f : Frm} {bs : List Int} (ht : fs.t.ok) (hf : FrmR w f bs) : ∀ o ∈ (takeA room fs port f bs.length now).2.2.2.2, ∃ cs, FrmR w o.2 cs := fun o ho => by
  rcases takeA_outs (room := room) (fs := fs) (port := port) (now := now) (f := f) (n := bs.length) with h | ⟨fs', v, tt, h, _, hv⟩
  · rw [h] at ho; cases ho
  · rw [h] at ho
    exact relayL_frmR hf (hv ▸ inn_isI ht hf.1) o ho
theorem relayL_len {t : VT} {S : List Int} {v frm target : Int} {f : Frm} {n : Nat} : (relayL t S v frm target f n).length ≤ S.length := Nat.le_trans (List.length_filter_le _ _) (sendN_len _)
theorem takeA_len {room : Nat} {fs : FS} {port now : Int} {f : Frm} {n : Nat} : (takeA room fs port f n now).2.2.2.2.length ≤ fs.S.length := by
  rcases takeA_outs (room := room) (fs := fs) (port := port) (now := now) (f := f) (n := n) with h | ⟨fs', v, tt, h, hs, _⟩
  · rw [h]; exact Nat.zero_le _
  · rw [h, ← hs]; exact relayL_len

section
variable {xb : Nat} {s : WStp}
theorem sp_vl {N0 bp vp vm vnb p pb o c sb so sc room : Nat} {ps : List Ent} {fs : FS} (h : BR N0 w bp vp vm vnb p pb o c sb so sc room ps fs) {R : Value → World → Prop} (hk : R (pt vp 0) w) : opS Tryz.prog (S.cl 29 [pt bp 0]) R w := by
  simp only [push_cast, Nat.reduceAdd, Nat.reduceLeDiff, Nat.reduceLT, Int.reduceToNat, Nat.left_eq_add, Nat.add_eq_left, Nat.add_left_cancel_iff, Nat.reduceEqDiff, Nat.add_assoc, Nat.succ_ne_zero]
  exact vlans_spec h hk
theorem sp_sta {N0 bp vp vm vnb p pb o c sb so sc room : Nat} {ps : List Ent} {fs : FS} (h : BR N0 w bp vp vm vnb p pb o c sb so sc room ps fs) {R : Value → World → Prop} (hk : R (pt p 0) w) : opS Tryz.prog (S.cl 14 [pt bp 0]) R w := by
  simp only [push_cast, Nat.reduceAdd, Nat.reduceLeDiff, Nat.reduceLT, Int.reduceToNat, Nat.left_eq_add, Nat.add_eq_left, Nat.add_left_cancel_iff, Nat.reduceEqDiff, Nat.add_assoc, Nat.succ_ne_zero]
  exact stations_spec h hk
theorem sp_1 (h : w.heap[xb]? = some (cellsO s.cells 29)) {R : Value → World → Prop} (hk : R (i64 s.port) w) : opS Tryz.prog (S.ld 3 (pt xb 1)) R w := by
  simp only [push_cast, Nat.reduceAdd, Nat.reduceLeDiff, Nat.reduceLT, Int.reduceToNat, Nat.left_eq_add, Nat.add_eq_left, Nat.add_left_cancel_iff, Nat.reduceEqDiff, Nat.add_assoc, Nat.succ_ne_zero, h]; exact hk
theorem sp_2 (h : w.heap[xb]? = some (cellsO s.cells 29)) {R : Value → World → Prop} (hk : R (i64 s.n) w) : opS Tryz.prog (S.ld 3 (pt xb 2)) R w := by
  simp only [push_cast, Nat.reduceAdd, Nat.reduceLeDiff, Nat.reduceLT, Int.reduceToNat, Nat.left_eq_add, Nat.add_eq_left, Nat.add_left_cancel_iff, Nat.reduceEqDiff, Nat.add_assoc, Nat.succ_ne_zero, h]; exact hk
theorem sp_3 (h : w.heap[xb]? = some (cellsO s.cells 29)) {R : Value → World → Prop} (hk : R (i64 s.v) w) : opS Tryz.prog (S.ld 3 (pt xb 3)) R w := by
  simp only [push_cast, Nat.reduceAdd, Nat.reduceLeDiff, Nat.reduceLT, Int.reduceToNat, Nat.left_eq_add, Nat.add_eq_left, Nat.add_left_cancel_iff, Nat.reduceEqDiff, Nat.add_assoc, Nat.succ_ne_zero, h]; exact hk
theorem sp_4 (h : w.heap[xb]? = some (cellsO s.cells 29)) {R : Value → World → Prop} (hk : R (.bool s.tg) w) : opS Tryz.prog (S.ld 4 (pt xb 4)) R w := by
  simp only [push_cast, Nat.reduceAdd, Nat.reduceLeDiff, Nat.reduceLT, Int.reduceToNat, Nat.left_eq_add, Nat.add_eq_left, Nat.add_left_cancel_iff, Nat.reduceEqDiff, Nat.add_assoc, Nat.succ_ne_zero, h]; exact hk
theorem sp_6 (h : w.heap[xb]? = some (cellsO s.cells 29)) {R : Value → World → Prop} (hk : R (i64 s.now) w) : opS Tryz.prog (S.ld 3 (pt xb 22)) R w := by
  simp only [push_cast, Nat.reduceAdd, Nat.reduceLeDiff, Nat.reduceLT, Int.reduceToNat, Nat.left_eq_add, Nat.add_eq_left, Nat.add_left_cancel_iff, Nat.reduceEqDiff, Nat.add_assoc, Nat.succ_ne_zero, h]; exact hk
theorem sp_src (h : w.heap[xb]? = some (cellsO s.cells 29)) {R : Value → World → Prop} (hk : R (.agg s.f.src.cells.toArray) w) : opS Tryz.prog (S.ld 24 (pt xb 11)) R w := by
  simp only [push_cast, Nat.reduceAdd, Nat.reduceLeDiff, Nat.reduceLT, Int.reduceToNat, Nat.left_eq_add, Nat.add_eq_left, Nat.add_left_cancel_iff, Nat.reduceEqDiff, Nat.add_assoc, Nat.succ_ne_zero, h]; exact hk
end

theorem step_spec {N0 bp rb room : Nat} {fs gs : FS} {s : WStp} {bs : List Int} (hj : BX N0 w bp rb room fs gs) (hN : N0 ≤ w.heap.size) (hs : StpR N0 w s bs) (hrm : room ≤ 1024) (hk : ∀ w' q, BX N0 w' bp rb room (stepF room fs s bs.length) (stepF room gs s bs.length) → (fs = gs → q = true) → Fr (fun b => N0 ≤ b) w w' → K (.bool q) w') :
    CallsR Tryz.prog 27 #[pt bp 0, pt rb 0, .agg s.cells.toArray] K w := by
  apply c27
  unfold p27
  have hF : Fr none_ w (w.alloc (cellsO s.cells 29)) := (by repeat' first | with_reducible exact Fr.refl _ _ | with_reducible refine Fr.step_alloc ?_ ?_ | with_reducible refine Fr.step_drew ?_ | with_reducible refine Fr.step_wr ?_ ?_ _ _ | exact rfl | exact Or.inr (by omega) | exact Or.inl rfl | exact Or.inl (Or.inl rfl) | exact Or.inl (Or.inr rfl))
  have hx : (w.alloc (cellsO s.cells 29)).heap[w.heap.size]? = some (cellsO s.cells 29) := by simp only [push_cast, Nat.reduceAdd, Nat.reduceLeDiff, Nat.reduceLT, Int.reduceToNat, Nat.left_eq_add, Nat.add_eq_left, Nat.add_left_cancel_iff, Nat.reduceEqDiff, Nat.add_assoc, Nat.succ_ne_zero]
  obtain ⟨hoN, hRPg, vp, vm, vnb, p, pb, o, c, sb, so, sc, ps, vq, vnq, vL, fq, fL, sq, soq, scq, hB, hR⟩ := hj
  have hlt := hB.lt
  have hge := hB.ge
  have hRlt : ∀ {b}, rwf rb sq vq vnq vL fq fL b → b < w.heap.size := fun hb => hR.lt hb
  simp only [opS_box, cells_agg, alloc_cellsO]
  replace hB := hB.fr0 hF
  replace hR := hR.fr0 hF
  replace hs := hs.fr0 hF
  have hxs := lt_of_heap hx
  generalize w.alloc (cellsO s.cells 29) = W at *
  generalize hxb : w.heap.size = xb at *
  have hok := hs.f.1
  have hto := hB.v.ok
  have htg := hR.v.ok
  have hrsrt := hB.f.ct.srt
  have hgsrt := hRPg.1
  have hrlen : fs.r.length ≤ 1024 := by have := hB.f.cap; omega
  have hglen : gs.r.length ≤ 1024 := by have := hRPg.2.1; omega
  have hRP : RP gs.r := hRPg.rp hrm
  -- the program's blocks are not the document's
  have dis : ∀ b, rwf rb sq vq vnq vL fq fL b → ¬ pB bp vp vm vnb p pb sb b := fun b hb => (hR.ge hb).2
  have pge : ∀ b, pB bp vp vm vnb p pb sb b → N0 ≤ b ∧ b < xb := fun b hb => by unfold pB at hb; omega
  have keepR : ∀ {fp : Nat → Prop} {w1 w2 : World}, Fr fp w1 w2 → (∀ b, fp b → pB bp vp vm vnb p pb sb b) → RBR (pB bp vp vm vnb p pb sb) N0 w1 rb vq vnq vL fq fL sq soq scq room gs → RBR (pB bp vp vm vnb p pb sb) N0 w2 rb vq vnq vL fq fL sq soq scq room gs := fun hF hfp h => h.fr hF fun b hb e => dis b hb (hfp b e)
  have keepX : ∀ {fp : Nat → Prop} {w1 w2 : World}, Fr fp w1 w2 → (∀ b, fp b → pB bp vp vm vnb p pb sb b) → w1.heap[xb]? = some (cellsO s.cells 29) → w2.heap[xb]? = some (cellsO s.cells 29) := fun hF hfp h => hF.heap h fun e => by have := pge _ (hfp _ e); omega
  have toN : ∀ {fp : Nat → Prop} {w1 w2 : World}, Fr fp w1 w2 → (∀ b, fp b → pB bp vp vm vnb p pb sb b) → Fr (fun b => N0 ≤ b) w1 w2 := fun hF hfp => hF.mono fun b _ e => (pge b (hfp b e)).1
  -- both at the end
  have fin : ∀ {w2 : World} {ps' : List Ent} {vL' fL' : Value} {fs' gs' : FS}, BR N0 w2 bp vp vm vnb p pb o c sb so sc room ps' fs' → RBR (pB bp vp vm vnb p pb sb) N0 w2 rb vq vnq vL' fq fL' sq soq scq room gs' → okN fs' → RPR room gs'.r → BX N0 w2 bp rb room fs' gs' := fun h1 h2 h3 h4 => ⟨h3, h4, vp, vm, vnb, p, pb, o, c, sb, so, sc, _, vq, vnq, _, fq, _, sq, soq, scq, h1, h2⟩
  -- the document's writes leave the program's
  have keepB : ∀ {fp : Nat → Prop} {w1 w2 : World} {ps' : List Ent} {fs' : FS}, Fr fp w1 w2 → (∀ b, fp b → rwf rb sq vq vnq vL fq fL b) → BR N0 w1 bp vp vm vnb p pb o c sb so sc room ps' fs' → BR N0 w2 bp vp vm vnb p pb o c sb so sc room ps' fs' := fun hF hfp h => h.fr hF fun b hb e => dis b (hfp b e) hb
  have toN2 : ∀ {fp : Nat → Prop} {w1 w2 : World}, Fr fp w1 w2 → (∀ b, fp b → rwf rb sq vq vnq vL fq fL b) → Fr (fun b => N0 ≤ b) w1 w2 := fun hF hfp => hF.mono fun b _ e => (hR.ge (hfp b e)).1
  have hoN2 := stepF_okN (room := room) (s := s) (n := bs.length) hoN
  have hoR2 := stepF_RPR hRPg htg hs
  unfold stepF at hk hoN2 hoR2
  have hFN : Fr (fun b => N0 ≤ b) w W := hF.mono fun _ _ e => e.elim
  simp only [push_cast, Nat.reduceAdd, Nat.reduceLeDiff, Nat.reduceLT, Int.reduceToNat, Nat.left_eq_add, Nat.add_eq_left, Nat.add_left_cancel_iff, Nat.reduceEqDiff, Nat.add_assoc, Nat.succ_ne_zero, hx]
  refine br_intro (fun h0 => ?_) fun h0 => ?_
  · have h0 : s.d = 0 := by simpa using h0
    simp only [if_pos h0] at hk hoN2 hoR2
    have hp2 : ∀ b, lfp bp p pb b → pB bp vp vm vnb p pb sb b := fun b e => by unfold lfp at e; unfold pB; omega
    refine btake_spec hto hB hs.f hs.lo hs.port hs.now fun x w2 ps2 hB2 hx2 hn2 hF2 => ?_
    have hR2 := keepR hF2 hp2 hR
    have hs2 := hs.fr (toN hF2 hp2)
    have hxx2 := keepX hF2 hp2 hx
    have hF02 := hFN.trans (toN hF2 hp2)
    have hll := takeA_len (room := room) (fs := fs) (port := s.port) (now := s.now) (f := s.f) (n := bs.length)
    have hsl := hB.sl
    have hRPA : RPR room (takeA room gs s.port s.f bs.length s.now).1.r := takeA_RPR hRPg htg hok hs.port hs.now
    have heq : fs = gs → takeA room fs s.port s.f bs.length s.now = takeA room gs s.port s.f bs.length s.now := fun e => by rw [e]
    generalize hA : takeA room fs s.port s.f bs.length s.now = A at *
    generalize hC : takeA room gs s.port s.f bs.length s.now = C at *
    obtain ⟨fs', cc, vv, tt, outs⟩ := A
    obtain ⟨gs', cc', vv', tt', outs'⟩ := C
    obtain ⟨xa, xc, rfl⟩ := hx2.form
    rw [List.length_map] at hx2 hn2
    simp only [List.length_map]
    refine way_slotG fun _ w3 hw3 hF3 => ?_
    replace hB2 := (hB2.fr0 hF3).fr0 (Fr.drew w3)
    replace hR2 := (hR2.fr0 hF3).fr0 (Fr.drew w3)
    replace hs2 := (hs2.fr0 hF3).fr0 (Fr.drew w3)
    replace hx2 := (hx2.fr hF3 fun _ _ h => h).fr (Fr.drew (fp := none_) w3) fun _ _ h => h
    replace hw3 := (Fr.drew (fp := none_) w3).heap hw3 fun h => h
    replace hxx2 := (Fr.drew (fp := none_) w3).heap (hF3.heap hxx2 fun h => h) fun h => h
    replace hF02 := (hF02.trans (hF3.mono fun _ _ e => e.elim)).step_drew
    have hs23 := hF2.size
    have hlw := lt_of_heap hw3
    rw [jn_1]
    simp only [drw_eq]
    generalize w3.drew = w4 at *
    generalize w2.heap.size = ws at *
    simp only [push_cast, Nat.reduceAdd, Nat.reduceLeDiff, Nat.reduceLT, Int.reduceToNat, Nat.left_eq_add, Nat.add_eq_left, Nat.add_left_cancel_iff, Nat.reduceEqDiff, Nat.add_assoc, Nat.succ_ne_zero, hxx2]
    have hp5 : ∀ b, (b = rb ∨ rp fq fL b) → rwf rb sq vq vnq vL fq fL b := fun b e => e.elim .inl fun e => .inr (.inr (.inr e))
    have both : ∀ {Q : Value → World → Prop}, (∀ y w5, w5.heap[ws]? = some (cellsO (wayC cc vv tt (.slice xa outs.length xc)) 37) → CallsR Tryz.prog 21 #[.agg (wayC cc vv tt (.slice xa outs.length xc)).toArray, .agg (wayC cc' vv' tt' y).toArray] K w5 → Q (.agg (wayC cc' vv' tt' y).toArray) w5) → CallsR Tryz.prog 54 #[pt rb 0, i64 s.port, .agg s.f.cells.toArray, i64 s.now] Q w4 := by
      intro Q hQ
      refine rbtake_spec hR2 (by omega) hRP (by rw [hC]; exact hRPA.rp hrm) htg hs2.f hs2.lo hs2.port hs2.now fun y w5 fL5 hR5 hy5 hn5 hF5 => ?_
      rw [hC] at hR5 hy5 ⊢
      refine hQ _ _ (hF5.heap hw3 fun e => by have := hRlt (hp5 _ e); omega) ?_
      have hs5 := hs2.fr (toN2 hF5 hp5)
      have hof : ∀ o ∈ outs, ∃ cs, FrmR w5 o.2 cs := by
        have := takeA_frmR (room := room) (fs := fs) (port := s.port) (now := s.now) hto hs5.f
        rw [hA] at this
        exact this
      have hog : ∀ o ∈ outs', ∃ cs, FrmR w5 o.2 cs := by
        have := takeA_frmR (room := room) (fs := gs) (port := s.port) (now := s.now) htg hs5.f
        rw [hC] at this
        exact this
      refine same_any (hx2.fr hF5 fun b hb e => ?_) hy5 hof hog (by omega) fun w6 q hF6 hq => ?_
      · have h8 := hn2 b hb
        have := hRlt (hp5 _ e)
        omega
      · refine hk _ _ ((fin (keepB hF5 hp5 hB2) hR5 hoN2 hoR2).fr0 hF6) (fun e => hq ?_) ((hF02.trans (toN2 hF5 hp5)).trans (hF6.mono fun _ _ e => e.elim))
        have := heq e
        simp only [Prod.mk.injEq] at this
        exact this.2
    refine allW_intro ?_ ?_
    · simp only [push_cast, Nat.reduceAdd, Nat.reduceLeDiff, Nat.reduceLT, Int.reduceToNat, Nat.left_eq_add, Nat.add_eq_left, Nat.add_left_cancel_iff, Nat.reduceEqDiff, Nat.add_assoc, Nat.succ_ne_zero, hw3]
      refine both fun y w5 hw5 hK => ?_
      simp only [push_cast, Nat.reduceAdd, Nat.reduceLeDiff, Nat.reduceLT, Int.reduceToNat, Nat.left_eq_add, Nat.add_eq_left, Nat.add_left_cancel_iff, Nat.reduceEqDiff, Nat.add_assoc, Nat.succ_ne_zero]
      exact hK
    · refine both fun y w5 hw5 hK => ?_
      simp only [push_cast, Nat.reduceAdd, Nat.reduceLeDiff, Nat.reduceLT, Int.reduceToNat, Nat.left_eq_add, Nat.add_eq_left, Nat.add_left_cancel_iff, Nat.reduceEqDiff, Nat.add_assoc, Nat.succ_ne_zero, hw5]
      exact hK
  have h0 : ¬ s.d = 0 := by simpa using h0
  simp only [if_neg h0] at hk hoN2 hoR2
  refine br_intro (fun h1 => ?_) fun h1 => ?_
  · have h1 : s.d = 1 := by simpa using h1
    simp only [if_pos h1] at hk hoN2 hoR2
    refine set_spec hB fun w2 hB2 hF2 => ?_
    have hp2 : ∀ b, b = sb → pB bp vp vm vnb p pb sb b := fun b e => by unfold pB; omega
    have hR2 := keepR hF2 hp2 hR
    have hx2 := keepX hF2 hp2 hx
    simp only [push_cast, Nat.reduceAdd, Nat.reduceLeDiff, Nat.reduceLT, Int.reduceToNat, Nat.left_eq_add, Nat.add_eq_left, Nat.add_left_cancel_iff, Nat.reduceEqDiff, Nat.add_assoc, Nat.succ_ne_zero, hx2]
    refine rset_spec hR2 fun w3 hR3 hF3 => ?_
    have hp3 : ∀ b, b = sq → rwf rb sq vq vnq vL fq fL b := fun b e => .inr (.inl e)
    simp only [push_cast, Nat.reduceAdd, Nat.reduceLeDiff, Nat.reduceLT, Int.reduceToNat, Nat.left_eq_add, Nat.add_eq_left, Nat.add_left_cancel_iff, Nat.reduceEqDiff, Nat.add_assoc, Nat.succ_ne_zero]
    exact hk _ _ (fin (keepB hF3 hp3 hB2) hR3 hoN2 hoR2) (fun e => by subst e; exact beq_self_eq_true _) ((hFN.trans (toN hF2 hp2)).trans (toN2 hF3 hp3))
  have h1 : ¬ s.d = 1 := by simpa using h1
  simp only [if_neg h1] at hk hoN2 hoR2
  have hvp : ∀ b, Vl.vfp vp vm vnb b → pB bp vp vm vnb p pb sb b := fun b e => by unfold Vl.vfp at e; unfold pB; omega
  have hvr : ∀ b, Vl.rfp vq vnq vL b → rwf rb sq vq vnq vL fq fL b := fun b e => .inr (.inr (.inl e))
  have hsp : ∀ b, pp p pb b → pB bp vp vm vnb p pb sb b := fun b e => by unfold pp at e; unfold pB; omega
  have hsr : ∀ b, rp fq fL b → rwf rb sq vq vnq vL fq fL b := fun b e => .inr (.inr (.inr e))
  refine br_intro (fun h2 => ?_) fun h2 => ?_
  · have h2 : s.d = 2 := by simpa using h2
    simp only [if_pos h2] at hk hoN2 hoR2
    refine jn1 (fun x w2 => x = i64 (fs.t.add s.v s.port s.tg).2 ∧ BR N0 w2 bp vp vm vnb p pb o c sb so sc room ps { fs with t := (fs.t.add s.v s.port s.tg).1 } ∧ RBR (pB bp vp vm vnb p pb sb) N0 w2 rb vq vnq vL fq fL sq soq scq room gs ∧ Fr (fun b => N0 ≤ b) w w2 ∧ w2.heap[xb]? = some (cellsO s.cells 29)) ?_ fun j hj => ?_
    · rintro x w2 ⟨rfl, hB2, hR2, hF2, hx2⟩
      simp only [drw_eq, push_cast, Nat.reduceAdd, Nat.reduceLeDiff, Nat.reduceLT, Int.reduceToNat, Nat.left_eq_add, Nat.add_eq_left, Nat.add_left_cancel_iff, Nat.reduceEqDiff, Nat.add_assoc, Nat.succ_ne_zero, hx2, hR2.blk]
      replace hB2 := hB2.fr0 (Fr.drew w2)
      replace hR2 := hR2.fr0 (Fr.drew w2)
      replace hF2 := hF2.step_drew
      generalize w2.drew = w2 at *
      refine Vl.radd_spec hR2.v fun w3 vL3 hv3 hF3 hn3 => ?_
      have hR3 := hR2.vl hF3 hv3 hn3
      simp only [push_cast, Nat.reduceAdd, Nat.reduceLeDiff, Nat.reduceLT, Int.reduceToNat, Nat.left_eq_add, Nat.add_eq_left, Nat.add_left_cancel_iff, Nat.reduceEqDiff, Nat.add_assoc, Nat.succ_ne_zero]
      exact hk _ _ (fin (keepB hF3 hvr hB2) hR3 hoN2 hoR2) (fun e => by subst e; exact beq_self_eq_true _) (hF2.trans (toN2 hF3 hvr))
    · have hd := Fr.drew (fp := none_) W
      replace hB := hB.fr0 hd
      replace hR := hR.fr0 hd
      replace hx := hd.heap hx fun h => h
      replace hFN := hFN.step_drew
      simp only [drw_eq, push_cast, Nat.reduceAdd, Nat.reduceLeDiff, Nat.reduceLT, Int.reduceToNat, Nat.left_eq_add, Nat.add_eq_left, Nat.add_left_cancel_iff, Nat.reduceEqDiff, Nat.add_assoc, Nat.succ_ne_zero]
      generalize W.drew = W at *
      have last : CallsR Tryz.prog 56 #[pt vp 0, i64 s.v, i64 s.port, .bool s.tg] (fun x16 => j x16) W := Vl.vadd_spec hB.v fun w2 hv2 hF2 => hj _ _ ⟨rfl, hB.vl hF2 hv2, keepR hF2 hvp hR, hFN.trans (toN hF2 hvp), keepX hF2 hvp hx⟩
      repeat' first
        | with_reducible refine allW_intro ?_ ?_
        | with_reducible refine sp_vl hB ?_
        | with_reducible refine sp_3 hx ?_
        | with_reducible refine sp_1 hx ?_
        | with_reducible refine sp_4 hx ?_
        | (simp only [push_cast, Nat.reduceAdd, Nat.reduceLeDiff, Nat.reduceLT, Int.reduceToNat, Nat.left_eq_add, Nat.add_eq_left, Nat.add_left_cancel_iff, Nat.reduceEqDiff, Nat.add_assoc, Nat.succ_ne_zero]; exact last)
  have h2 : ¬ s.d = 2 := by simpa using h2
  simp only [if_neg h2] at hk hoN2 hoR2
  refine br_intro (fun h3 => ?_) fun h3 => ?_
  · have h3 : s.d = 3 := by simpa using h3
    simp only [if_pos h3] at hk hoN2 hoR2
    refine jn1 (fun x w2 => x = i64 (fs.t.native s.port s.v).2 ∧ BR N0 w2 bp vp vm vnb p pb o c sb so sc room ps { fs with t := (fs.t.native s.port s.v).1 } ∧ RBR (pB bp vp vm vnb p pb sb) N0 w2 rb vq vnq vL fq fL sq soq scq room gs ∧ Fr (fun b => N0 ≤ b) w w2 ∧ w2.heap[xb]? = some (cellsO s.cells 29)) ?_ fun j hj => ?_
    · rintro x w2 ⟨rfl, hB2, hR2, hF2, hx2⟩
      simp only [drw_eq, push_cast, Nat.reduceAdd, Nat.reduceLeDiff, Nat.reduceLT, Int.reduceToNat, Nat.left_eq_add, Nat.add_eq_left, Nat.add_left_cancel_iff, Nat.reduceEqDiff, Nat.add_assoc, Nat.succ_ne_zero, hx2, hR2.blk]
      replace hB2 := hB2.fr0 (Fr.drew w2)
      replace hR2 := hR2.fr0 (Fr.drew w2)
      replace hF2 := hF2.step_drew
      generalize w2.drew = w2 at *
      refine Vl.rnative_spec hR2.v fun w3 hv3 hF3 => ?_
      have hR3 := hR2.vl hF3 hv3 (.inl rfl)
      simp only [push_cast, Nat.reduceAdd, Nat.reduceLeDiff, Nat.reduceLT, Int.reduceToNat, Nat.left_eq_add, Nat.add_eq_left, Nat.add_left_cancel_iff, Nat.reduceEqDiff, Nat.add_assoc, Nat.succ_ne_zero]
      exact hk _ _ (fin (keepB hF3 hvr hB2) hR3 hoN2 hoR2) (fun e => by subst e; exact beq_self_eq_true _) (hF2.trans (toN2 hF3 hvr))
    · have hd := Fr.drew (fp := none_) W
      replace hB := hB.fr0 hd
      replace hR := hR.fr0 hd
      replace hx := hd.heap hx fun h => h
      replace hFN := hFN.step_drew
      simp only [drw_eq, push_cast, Nat.reduceAdd, Nat.reduceLeDiff, Nat.reduceLT, Int.reduceToNat, Nat.left_eq_add, Nat.add_eq_left, Nat.add_left_cancel_iff, Nat.reduceEqDiff, Nat.add_assoc, Nat.succ_ne_zero]
      generalize W.drew = W at *
      have last : CallsR Tryz.prog 58 #[pt vp 0, i64 s.port, i64 s.v] (fun x16 => j x16) W := Vl.vnative_spec hB.v fun w2 hv2 hF2 => hj _ _ ⟨rfl, hB.vl hF2 hv2, keepR hF2 hvp hR, hFN.trans (toN hF2 hvp), keepX hF2 hvp hx⟩
      repeat' first
        | with_reducible refine allW_intro ?_ ?_
        | with_reducible refine sp_vl hB ?_
        | with_reducible refine sp_1 hx ?_
        | with_reducible refine sp_3 hx ?_
        | (simp only [push_cast, Nat.reduceAdd, Nat.reduceLeDiff, Nat.reduceLT, Int.reduceToNat, Nat.left_eq_add, Nat.add_eq_left, Nat.add_left_cancel_iff, Nat.reduceEqDiff, Nat.add_assoc, Nat.succ_ne_zero]; exact last)
  have h3 : ¬ s.d = 3 := by simpa using h3
  simp only [if_neg h3] at hk hoN2 hoR2
  refine br_intro (fun h4 => ?_) fun h4 => ?_
  · have h4 : s.d = 4 := by simpa using h4
    simp only [if_pos h4] at hk hoN2 hoR2
    refine jn1 (fun x w2 => x = i64 (fs.t.remove s.v s.port).2 ∧ BR N0 w2 bp vp vm vnb p pb o c sb so sc room ps { fs with t := (fs.t.remove s.v s.port).1 } ∧ RBR (pB bp vp vm vnb p pb sb) N0 w2 rb vq vnq vL fq fL sq soq scq room gs ∧ Fr (fun b => N0 ≤ b) w w2 ∧ w2.heap[xb]? = some (cellsO s.cells 29)) ?_ fun j hj => ?_
    · rintro x w2 ⟨rfl, hB2, hR2, hF2, hx2⟩
      simp only [drw_eq, push_cast, Nat.reduceAdd, Nat.reduceLeDiff, Nat.reduceLT, Int.reduceToNat, Nat.left_eq_add, Nat.add_eq_left, Nat.add_left_cancel_iff, Nat.reduceEqDiff, Nat.add_assoc, Nat.succ_ne_zero, hx2, hR2.blk]
      replace hB2 := hB2.fr0 (Fr.drew w2)
      replace hR2 := hR2.fr0 (Fr.drew w2)
      replace hF2 := hF2.step_drew
      generalize w2.drew = w2 at *
      refine Vl.rremove_spec hR2.v fun w3 vL3 hv3 hF3 hn3 => ?_
      have hR3 := hR2.vl hF3 hv3 hn3
      simp only [push_cast, Nat.reduceAdd, Nat.reduceLeDiff, Nat.reduceLT, Int.reduceToNat, Nat.left_eq_add, Nat.add_eq_left, Nat.add_left_cancel_iff, Nat.reduceEqDiff, Nat.add_assoc, Nat.succ_ne_zero]
      exact hk _ _ (fin (keepB hF3 hvr hB2) hR3 hoN2 hoR2) (fun e => by subst e; exact beq_self_eq_true _) (hF2.trans (toN2 hF3 hvr))
    · have hd := Fr.drew (fp := none_) W
      replace hB := hB.fr0 hd
      replace hR := hR.fr0 hd
      replace hx := hd.heap hx fun h => h
      replace hFN := hFN.step_drew
      simp only [drw_eq, push_cast, Nat.reduceAdd, Nat.reduceLeDiff, Nat.reduceLT, Int.reduceToNat, Nat.left_eq_add, Nat.add_eq_left, Nat.add_left_cancel_iff, Nat.reduceEqDiff, Nat.add_assoc, Nat.succ_ne_zero]
      generalize W.drew = W at *
      have last : CallsR Tryz.prog 60 #[pt vp 0, i64 s.v, i64 s.port] (fun x16 => j x16) W := Vl.vremove_spec hB.v fun w2 hv2 hF2 => hj _ _ ⟨rfl, hB.vl hF2 hv2, keepR hF2 hvp hR, hFN.trans (toN hF2 hvp), keepX hF2 hvp hx⟩
      repeat' first
        | with_reducible refine allW_intro ?_ ?_
        | with_reducible refine sp_vl hB ?_
        | with_reducible refine sp_3 hx ?_
        | with_reducible refine sp_1 hx ?_
        | (simp only [push_cast, Nat.reduceAdd, Nat.reduceLeDiff, Nat.reduceLT, Int.reduceToNat, Nat.left_eq_add, Nat.add_eq_left, Nat.add_left_cancel_iff, Nat.reduceEqDiff, Nat.add_assoc, Nat.succ_ne_zero]; exact last)
  have h4 : ¬ s.d = 4 := by simpa using h4
  simp only [if_neg h4] at hk hoN2 hoR2
  refine br_intro (fun h5 => ?_) fun h5 => ?_
  · have h5 : s.d = 5 := by simpa using h5
    simp only [if_pos h5] at hk hoN2 hoR2
    unfold ageL at hk hoN2 hoR2
    have hro := hrsrt.2
    have hgl : ∀ A : Ent → Bool, (fs.r.filter A).length ≤ fs.r.length := fun A => List.length_filter_le _ _
    have hgo : ∀ A : Ent → Bool, ∀ e ∈ fs.r.filter A, e.ok := fun A e he => hro e (List.mem_filter.1 he).1
    refine jn1 (fun x w2 => ∃ ps' g, BR N0 w2 bp vp vm vnb p pb o c sb so sc room ps' { fs with r := if timedB s.now && timedB s.n then fs.r.filter fun e => !(ageA s.now s.n e && !e.static) else fs.r } ∧ RBR (pB bp vp vm vnb p pb sb) N0 w2 rb vq vnq vL fq fL sq soq scq room gs ∧ Fr (fun b => N0 ≤ b) w w2 ∧ w2.heap[xb]? = some (cellsO s.cells 29) ∧ RdE 10 w2 x (g.map Ent.cells) ∧ (∀ b, blkS x = some b → xb ≤ b) ∧ g = (if timedB s.now && timedB s.n then fs.r.filter fun e => ageA s.now s.n e && !e.static else [])) ?_ fun j hj => ?_
    · rintro x w2 ⟨ps', g, hB2, hR2, hF2, hx2, hx, hxb2, rfl⟩
      simp only [drw_eq, push_cast, Nat.reduceAdd, Nat.reduceLeDiff, Nat.reduceLT, Int.reduceToNat, Nat.left_eq_add, Nat.add_eq_left, Nat.add_left_cancel_iff, Nat.reduceEqDiff, Nat.add_assoc, Nat.succ_ne_zero, hx2, hR2.blk]
      replace hB2 := hB2.fr0 (Fr.drew w2)
      replace hR2 := hR2.fr0 (Fr.drew w2)
      replace hF2 := hF2.step_drew
      replace hx := hx.fr (Fr.drew (fp := none_) w2) fun _ _ h => h
      generalize w2.drew = w2 at *
      refine rage_spec hR2.f hgsrt.2 (by omega) (fun hf => ?_) fun hf w3 L3 v hr3 hv3 hnL hnv hnvL hF3 => ?_
      · simp only [hf, Bool.false_eq_true, if_false] at hx hk hB2 hoN2 hoR2
        simp only [push_cast, Nat.reduceAdd, Nat.reduceLeDiff, Nat.reduceLT, Int.reduceToNat, Nat.left_eq_add, Nat.add_eq_left, Nat.add_left_cancel_iff, Nat.reduceEqDiff, Nat.add_assoc, Nat.succ_ne_zero]
        refine esame_yes hx (rd_nil _) (fun _ h => by cases h) (by decide) fun w3 hF3 => ?_
        exact hk _ _ ((fin hB2 hR2 hoN2 hoR2).fr0 hF3) (fun _ => rfl) (hF2.trans (hF3.mono fun _ _ e => e.elim))
      · simp only [hf, if_true] at hx hk hB2 hoN2 hoR2
        have hR3 := hR2.tab (hF3.mono fun b _ e => .inl e) hr3 (fun b hb => .inr (hnL b hb))
        have hq : ∀ b, b = fq → rwf rb sq vq vnq vL fq fL b := fun b e => .inr (.inr (.inr (.inl e)))
        have hfq := hRlt (hq _ rfl)
        simp only [push_cast, Nat.reduceAdd, Nat.reduceLeDiff, Nat.reduceLT, Int.reduceToNat, Nat.left_eq_add, Nat.add_eq_left, Nat.add_left_cancel_iff, Nat.reduceEqDiff, Nat.add_assoc, Nat.succ_ne_zero]
        refine esame_spec (hx.fr hF3 fun b hb e => by have := hxb2 b hb; omega) hv3 (hgo _) (fun e he => hgsrt.2 e (List.mem_filter.1 he).1) (by have := hgl (fun e => ageA s.now s.n e && !e.static); omega) fun w4 hF4 => ?_
        exact hk _ _ ((fin (keepB hF3 hq hB2) hR3 hoN2 hoR2).fr0 hF4) (fun e => by subst e; exact decide_eq_true rfl) ((hF2.trans (toN2 hF3 hq)).trans (hF4.mono fun _ _ e => e.elim))
    · have hd := Fr.drew (fp := none_) W
      replace hB := hB.fr0 hd
      replace hR := hR.fr0 hd
      replace hx := hd.heap hx fun h => h
      replace hFN := hFN.step_drew
      have hWs : xb ≤ W.drew.heap.size := by have : W.drew.heap.size = W.heap.size := rfl; omega
      simp only [drw_eq, push_cast, Nat.reduceAdd, Nat.reduceLeDiff, Nat.reduceLT, Int.reduceToNat, Nat.left_eq_add, Nat.add_eq_left, Nat.add_left_cancel_iff, Nat.reduceEqDiff, Nat.add_assoc, Nat.succ_ne_zero]
      generalize W.drew = W at *
      have last : CallsR Tryz.prog 62 #[pt p 0, i64 s.now, i64 s.n] (fun x16 => j x16) W := by
        refine age_spec hB.f (fun hf w2 hF2 => ?_) fun hf w2 ps2 u ht2 hu2 hub hF2 => ?_
        · refine hj _ _ ⟨ps, _, ?_, hR.fr0 hF2, hFN.trans (hF2.mono fun _ _ e => e.elim), hF2.heap hx fun h => h, ?_, (fun b hb => by cases hb), rfl⟩
          · simp only [hf, Bool.false_eq_true, if_false]
            exact hB.fr0 hF2
          · simp only [hf, Bool.false_eq_true, if_false]
            exact rd_nil _
        · refine hj _ _ ⟨ps2, _, ?_, keepR hF2 hsp hR, hFN.trans (toN hF2 hsp), keepX hF2 hsp hx, ?_, (fun b hb => by have := (hub b hb).2.2; omega), rfl⟩
          · simp only [hf, if_true]
            exact hB.tab hF2 ht2
          · simp only [hf, if_true]
            exact hu2
      repeat' first
        | with_reducible refine allW_intro ?_ ?_
        | with_reducible refine sp_sta hB ?_
        | with_reducible refine sp_6 hx ?_
        | with_reducible refine sp_2 hx ?_
        | (simp only [push_cast, Nat.reduceAdd, Nat.reduceLeDiff, Nat.reduceLT, Int.reduceToNat, Nat.left_eq_add, Nat.add_eq_left, Nat.add_left_cancel_iff, Nat.reduceEqDiff, Nat.add_assoc, Nat.succ_ne_zero]; exact last)
  have h5 : ¬ s.d = 5 := by simpa using h5
  simp only [if_neg h5] at hk hoN2 hoR2
  refine br_intro (fun h6 => ?_) fun h6 => ?_
  · have h6 : s.d = 6 := by simpa using h6
    simp only [if_pos h6] at hk hoN2 hoR2
    refine jn1 (fun x w2 => ∃ ps', x = i64 (putL room fs.r s.v s.f.src s.port).2 ∧ BR N0 w2 bp vp vm vnb p pb o c sb so sc room ps' { fs with r := (putL room fs.r s.v s.f.src s.port).1 } ∧ RBR (pB bp vp vm vnb p pb sb) N0 w2 rb vq vnq vL fq fL sq soq scq room gs ∧ Fr (fun b => N0 ≤ b) w w2 ∧ w2.heap[xb]? = some (cellsO s.cells 29)) ?_ fun j hj => ?_
    · rintro x w2 ⟨ps', rfl, hB2, hR2, hF2, hx2⟩
      simp only [drw_eq, push_cast, Nat.reduceAdd, Nat.reduceLeDiff, Nat.reduceLT, Int.reduceToNat, Nat.left_eq_add, Nat.add_eq_left, Nat.add_left_cancel_iff, Nat.reduceEqDiff, Nat.add_assoc, Nat.succ_ne_zero, hx2, hR2.blk]
      replace hB2 := hB2.fr0 (Fr.drew w2)
      replace hR2 := hR2.fr0 (Fr.drew w2)
      replace hF2 := hF2.step_drew
      generalize w2.drew = w2 at *
      refine rput_spec hR2.f hgsrt hs.v hok.2.1 hs.port (by omega) (by omega) fun w3 L3 hr3 hn3 hF3 => ?_
      have hR3 := hR2.tab hF3 hr3 hn3
      simp only [push_cast, Nat.reduceAdd, Nat.reduceLeDiff, Nat.reduceLT, Int.reduceToNat, Nat.left_eq_add, Nat.add_eq_left, Nat.add_left_cancel_iff, Nat.reduceEqDiff, Nat.add_assoc, Nat.succ_ne_zero]
      exact hk _ _ (fin (keepB hF3 hsr hB2) hR3 hoN2 hoR2) (fun e => by subst e; exact beq_self_eq_true _) (hF2.trans (toN2 hF3 hsr))
    · have hd := Fr.drew (fp := none_) W
      replace hB := hB.fr0 hd
      replace hR := hR.fr0 hd
      replace hx := hd.heap hx fun h => h
      replace hFN := hFN.step_drew
      simp only [drw_eq, push_cast, Nat.reduceAdd, Nat.reduceLeDiff, Nat.reduceLT, Int.reduceToNat, Nat.left_eq_add, Nat.add_eq_left, Nat.add_left_cancel_iff, Nat.reduceEqDiff, Nat.add_assoc, Nat.succ_ne_zero]
      generalize W.drew = W at *
      have last : CallsR Tryz.prog 64 #[pt p 0, i64 s.v, .agg s.f.src.cells.toArray, i64 s.port] (fun x16 => j x16) W := put_spec hB.f hs.v hok.2.1 hs.port fun w2 ps2 ht2 hF2 => hj _ _ ⟨ps2, rfl, hB.tab hF2 ht2, keepR hF2 hsp hR, hFN.trans (toN hF2 hsp), keepX hF2 hsp hx⟩
      repeat' first
        | with_reducible refine allW_intro ?_ ?_
        | with_reducible refine sp_sta hB ?_
        | with_reducible refine sp_3 hx ?_
        | with_reducible refine sp_src hx ?_
        | with_reducible refine sp_1 hx ?_
        | (simp only [push_cast, Nat.reduceAdd, Nat.reduceLeDiff, Nat.reduceLT, Int.reduceToNat, Nat.left_eq_add, Nat.add_eq_left, Nat.add_left_cancel_iff, Nat.reduceEqDiff, Nat.add_assoc, Nat.succ_ne_zero]; exact last)
  have h6 : ¬ s.d = 6 := by simpa using h6
  simp only [if_neg h6] at hk hoN2 hoR2
  refine relay_spec hB hs.f fun x w2 hx2 hn2 hF2 => ?_
  replace hB := hB.fr0 hF2
  replace hR := hR.fr0 hF2
  replace hs := hs.fr0 hF2
  replace hx := hF2.heap hx fun h => h
  replace hFN := hFN.trans (hF2.mono fun _ _ e => e.elim)
  simp only [push_cast, Nat.reduceAdd, Nat.reduceLeDiff, Nat.reduceLT, Int.reduceToNat, Nat.left_eq_add, Nat.add_eq_left, Nat.add_left_cancel_iff, Nat.reduceEqDiff, Nat.add_assoc, Nat.succ_ne_zero, hx]
  refine rrelay_spec hR hs.f fun y w3 hy3 hn3 hF3 => ?_
  replace hB := hB.fr0 hF3
  replace hR := hR.fr0 hF3
  replace hs := hs.fr0 hF3
  replace hFN := hFN.trans (hF3.mono fun _ _ e => e.elim)
  have hll := relayL_len (t := fs.t) (S := fs.S) (v := s.v) (frm := s.port) (target := s.n) (f := s.f) (n := bs.length)
  have hsl := hB.sl
  simp only [push_cast, Nat.reduceAdd, Nat.reduceLeDiff, Nat.reduceLT, Int.reduceToNat, Nat.left_eq_add, Nat.add_eq_left, Nat.add_left_cancel_iff, Nat.reduceEqDiff, Nat.add_assoc, Nat.succ_ne_zero]
  refine sameouts_any (hx2.fr hF3 fun _ _ h => h) hy3.rd (relayL_frmR hs.f hs.v) (relayL_frmR hs.f hs.v) (by omega) fun w4 q hF4 hq => ?_
  exact hk _ _ ((fin hB hR hoN2 hoR2).fr0 hF4) (fun e => hq (by subst e; rfl)) (hFN.trans (hF4.mono fun _ _ e => e.elim))

end Go.Gx.S
end
