/- Own texts, put together. -/
import Derived.Test.YtbaebhhengcdcaaGreatDoorC3
import Derived.Test.YtbaebhhengcdcaaGreatDoorC2
import Derived.Test.YtbaebhhengcdcaaGreatDoorC1
import Derived.RecoverIn
import Derived.LaidEqlPtr
section
/- A bridge: what comes of a frame. -/
set_option linter.unusedVariables false
set_option linter.unusedSimpArgs false
set_option maxRecDepth 100000
namespace Go.Gx.S
open Go Go.Gx Go.Proofs
variable {K : Value → World → Prop} {w : World}

def wayC (c v t : Int) (o : Value) : List Value := [i64 c, i64 v, i64 t, o]
theorem wayC.len (c v t : Int) (o : Value) : (wayC c v t o).length = 4 := id rfl
theorem wayC.g0 (c v t : Int) (o : Value) : (wayC c v t o)[0]? = some (i64 c) := id rfl
theorem wayC.g1 (c v t : Int) (o : Value) : (wayC c v t o)[1]? = some (i64 v) := id rfl
theorem wayC.g2 (c v t : Int) (o : Value) : (wayC c v t o)[2]? = some (i64 t) := id rfl
theorem wayC.g3 (c v t : Int) (o : Value) : (wayC c v t o)[3]? = some o := id rfl
theorem wayC.dw (c v t : Int) (o : Value) : ((wayC c v t o).drop 0).take 4 = wayC c v t o := id rfl
theorem wayC.s0 (c v t c' : Int) (o : Value) : splice (wayC c v t o) 0 [.int .i64 c'] = wayC c' v t o := id rfl
theorem wayC.s2 (c v t t' : Int) (o : Value) : splice (wayC c v t o) 2 [.int .i64 t'] = wayC c v t' o := id rfl
theorem wayC.s3 (c v t : Int) (o a : Value) : splice (wayC c v t o) 3 [a] = wayC c v t a := id rfl
theorem wayC.sw (c v t c' v' t' : Int) (o o' : Value) : splice (wayC c v t o) 0 (wayC c' v' t' o') = wayC c' v' t' o' := id rfl
theorem wayC.one (c v t : Int) (a : Option Addr) (n m : Nat) : (wayC c v t (.slice a n m)).all S.oneCell = true := id rfl
attribute [push_cast] wayC.len wayC.g0 wayC.g1 wayC.g2 wayC.g3 wayC.dw wayC.s0 wayC.s2 wayC.s3 wayC.sw wayC.one

theorem zalloc_way : opS Tryz.prog (S.alloc 141) K w = K (pt w.heap.size 0) (w.alloc (cellsO (wayC 0 0 0 (.slice none 0 0)) 141)) := by
  rw [opS_alloc]; rfl
theorem build_way1 (v : Int) : opS Tryz.prog (S.build 141 [(1, i64 v)]) K w = K (.agg (wayC 0 v 0 (.slice none 0 0)).toArray) w := by
  rw [opS_build _ rfl]; rfl
theorem build_way2 (c v : Int) : opS Tryz.prog (S.build 141 [(0, i64 c), (1, i64 v)]) K w = K (.agg (wayC c v 0 (.slice none 0 0)).toArray) w := by
  rw [opS_build _ rfl]; rfl
theorem way_slot {c v : Int} {R : Value → Value → World → Prop} (h : ∀ u w', w'.heap[w.heap.size]? = some (cellsO (wayC c v 0 (.slice none 0 0)) 141) → Fr none_ w w' → R (pt w.heap.size 0) u w') :
    opS Tryz.prog (S.alloc 141) (fun x => opS Tryz.prog (S.st 141 x (.agg (wayC c v 0 (.slice none 0 0)).toArray)) (R x)) w := by
  rw [zalloc_way, s_stA _ _ (wayC c v 0 (.slice none 0 0)) rfl rfl, heap_alloc_new, okAt_cells]
  rw [show decide (0 + (wayC c v 0 (.slice none 0 0)).length ≤ (wayC 0 0 0 (.slice none 0 0)).length) = true from rfl, onB_true]
  refine h _ _ ?_ (Fr.step_wr (Fr.step_alloc (Fr.refl _ _) rfl) (.inr (Nat.le_refl _)) _ _)
  rw [heap_wr, if_pos rfl, heap_alloc_new, putAt_cells]
  rfl

def endL (t : Int) (l : List (Int × Frm)) : Int × Int × List (Int × Frm) := if l = [] then (8, t, []) else (0, t, l)
def sentL (fs : FS) (v port : Int) (f : Frm) (n : Nat) : Int × Int × List (Int × Frm) :=
  if fs.S.getD port.toNat 0 = 1 then (6, 0, [])
  else match atK fs.r (v, f.dst) with
    | some x => if x.port = port then (7, 0, []) else endL x.port (if x.port > 0 then relayL fs.t fs.S v port x.port f n else [])
    | none => endL 0 (relayL fs.t fs.S v port 0 f n)

def endL2 (c t : Int) (l : List (Int × Frm)) : Int × Int × List (Int × Frm) := if c = 0 ∧ l = [] then (8, t, []) else (c, t, l)

def takeA (room : Nat) (fs : FS) (port : Int) (f : Frm) (n : Nat) (now : Int) : FS × Int × Int × Int × List (Int × Frm) :=
  if (refusedL fs port f n now).1 = 0 then
    ({ learnF room fs (refusedL fs port f n now).2 f.src port now with N := incr fs.N (sentL (learnF room fs (refusedL fs port f n now).2 f.src port now) (refusedL fs port f n now).2 port f n).1.toNat },
      (sentL (learnF room fs (refusedL fs port f n now).2 f.src port now) (refusedL fs port f n now).2 port f n).1, (refusedL fs port f n now).2, (sentL (learnF room fs (refusedL fs port f n now).2 f.src port now) (refusedL fs port f n now).2 port f n).2)
  else ({ fs with N := incr fs.N (refusedL fs port f n now).1.toNat }, (refusedL fs port f n now).1, (refusedL fs port f n now).2, 0, [])

theorem endL_range (t : Int) (l : List (Int × Frm)) : 0 ≤ (endL t l).1 ∧ (endL t l).1 < 9 := by
  unfold endL
  split
  · exact ⟨(by decide : (0 : Int) ≤ 8), (by decide : (8 : Int) < 9)⟩
  · exact ⟨(by decide : (0 : Int) ≤ 0), (by decide : (0 : Int) < 9)⟩
theorem sentL_range (fs : FS) (v port : Int) (f : Frm) (n : Nat) : 0 ≤ (sentL fs v port f n).1 ∧ (sentL fs v port f n).1 < 9 := by
  unfold sentL
  split
  · exact ⟨by decide, by decide⟩
  · split
    · split
      · exact ⟨by decide, by decide⟩
      · exact endL_range _ _
    · exact endL_range _ _
theorem refusedL_range (fs : FS) (port : Int) (f : Frm) (n : Nat) (now : Int) : 0 ≤ (refusedL fs port f n now).1 ∧ (refusedL fs port f n now).1 < 9 := by
  unfold refusedL
  split
  · simp
  · split
    · simp
    · split
      · simp
      · split
        · simp
        · split <;> simp
theorem refusedL_port {fs : FS} {port : Int} {f : Frm} {n : Nat} {now : Int} (h : (refusedL fs port f n now).1 = 0) : hasB fs.S port = true ∧ f.right n = true ∧ timedB now = true ∧ (refusedL fs port f n now).2 = (fs.t.inn port f n).1 ∧ (fs.t.inn port f n).2 = 0 ∧ grp f.src = false := by
  unfold refusedL at h ⊢
  split at h
  · cases h
  · rename_i h1
    rw [if_neg h1]
    simp only [Bool.or_eq_true, Bool.not_eq_true', not_or, Bool.not_eq_false] at h1
    split at h
    · cases h
    · rename_i h2
      rw [if_neg h2]
      split at h
      · cases h
      · rename_i h3
        rw [if_neg h3]
        split at h
        · cases h
        · rename_i h4
          rw [if_neg h4]
          split at h
          · cases h
          · rename_i h5
            rw [if_neg h5]
            exact ⟨h1.1, h1.2.1, h1.2.2, rfl, by simpa using h4, by simpa using h5⟩

theorem inn_isI {t : VT} {p : Int} {f : Frm} {n : Nat} (ht : t.ok) (hf : f.ok) : isI (t.inn p f n).1 := by
  have hz : isI 0 := isI_iff.2 (by decide)
  have hv : isI (if f.vlan = 0 then t.nat.getD p.toNat 0 else f.vlan) := by
    by_cases h0 : f.vlan = 0
    · rw [if_pos h0, List.getD_eq_getElem?_getD]
      cases hg : t.nat[p.toNat]? with
      | none => exact hz
      | some x =>
        have := ht.nat x (List.mem_of_getElem? hg)
        exact isI_iff.2 (by simp only [Option.getD_some]; omega)
    · rw [if_neg h0]
      exact hf.2.2.1
  unfold VT.inn
  by_cases h1 : t.port p ∧ f.right n = true
  · rw [if_pos h1]
    generalize (if f.vlan = 0 then t.nat.getD p.toNat 0 else f.vlan) = v at *
    simp only
    split
    · exact hv
    · exact hz
  · rw [if_neg h1]
    exact hz

section
variable {N0 bp vp vm vnb p pb o c sb so sc room : Nat} {ps : List Ent} {fs : FS}

section
variable {w0 : World} {f : Frm} {fb : Nat} {v : Int}
theorem se_ldT (h : BR N0 w0 bp vp vm vnb p pb o c sb so sc room ps fs) (hF : Fr none_ w0 w) {R : Value → World → Prop} (hk : R (pt p 0) w) : opS Tryz.prog (S.ld 82 (pt bp 1)) R w := by
  have := hF.heap h.blk fun h => h
  simp only [push_cast, Nat.reduceAdd, Nat.reduceLeDiff, Nat.reduceLT, Int.reduceToNat, Nat.left_eq_add, Nat.add_eq_left, Nat.add_left_cancel_iff, Nat.reduceEqDiff, Nat.add_assoc, Nat.succ_ne_zero, this]
  exact hk
theorem se_ldM (hb : w0.heap[fb]? = some (cellsO f.cells 61)) (hF : Fr none_ w0 w) {R : Value → World → Prop} (hk : R (.agg f.dst.cells.toArray) w) : opS Tryz.prog (S.ld 53 (pt fb 0)) R w := by
  have := hF.heap hb fun h => h
  have e : (f.cells.drop 0).take 6 = f.dst.cells := rfl
  simp only [push_cast, Nat.reduceAdd, Nat.reduceLeDiff, Nat.reduceLT, Int.reduceToNat, Nat.left_eq_add, Nat.add_eq_left, Nat.add_left_cancel_iff, Nat.reduceEqDiff, Nat.add_assoc, Nat.succ_ne_zero, this, frm_len, e]
  exact hk
theorem se_alloc (hF : Fr none_ w0 w) {R : Value → World → Prop} (hk : ∀ sl w', w'.heap[sl]? = some (cellsO zE.cells 80) → w0.heap.size ≤ sl → Fr none_ w0 w' → R (pt sl 0) w') : opS Tryz.prog (S.alloc 80) R w := by
  rw [zalloc_ent]
  refine hk _ _ ?_ hF.size (hF.trans ((Fr.refl _ _).step_alloc rfl))
  simp only [push_cast, Nat.reduceAdd, Nat.reduceLeDiff, Nat.reduceLT, Int.reduceToNat, Nat.left_eq_add, Nat.add_eq_left, Nat.add_left_cancel_iff, Nat.reduceEqDiff, Nat.add_assoc, Nat.succ_ne_zero]
theorem se_look (h : BR N0 w0 bp vp vm vnb p pb o c sb so sc room ps fs) (hv : isI v) (hm : f.dst.ok) (hF : Fr none_ w0 w) {R : Value → Value → World → Prop} (hk : ∀ w', Fr none_ w0 w' → Fr none_ w w' → R (.agg (lookL fs.r (v, f.dst)).1.cells.toArray) (.bool (lookL fs.r (v, f.dst)).2) w') :
    opS Tryz.prog (S.cl 29 [pt p 0, i64 v, .agg f.dst.cells.toArray]) (fun x => opS Tryz.prog (S.ext x 0) fun a => opS Tryz.prog (S.ext x 1) fun b => R a b) w := by
  simp only [push_cast, Nat.reduceAdd, Nat.reduceLeDiff, Nat.reduceLT, Int.reduceToNat, Nat.left_eq_add, Nat.add_eq_left, Nat.add_left_cancel_iff, Nat.reduceEqDiff, Nat.add_assoc, Nat.succ_ne_zero]
  refine look_spec (h.f.fr0 hF) hv hm fun w' hF' => ?_
  simp only [s_ext, List.getElem?_toArray, List.getElem?_cons_zero, List.getElem?_cons_succ, onS_some]
  exact hk w' (hF.trans hF') hF'
theorem se_st1 {g : Ent} {sl : Nat} {w1 : World} (hs : w1.heap[sl]? = some (cellsO zE.cells 80)) (hl : w0.heap.size ≤ sl) (hF1 : Fr none_ w1 w) (hF : Fr none_ w0 w) {R : Value → World → Prop} (hk : ∀ u w', w'.heap[sl]? = some (cellsO g.cells 80) → Fr none_ w0 w' → R u w') :
    opS Tryz.prog (S.st 80 (pt sl 0) (.agg g.cells.toArray)) R w := by
  have hs' := hF1.heap hs fun h => h
  rw [s_stA _ _ _ (Ent.cells_length g) (Ent.cells_one g), hs', okAt_cells]
  have e : splice zE.cells 0 g.cells = g.cells := rfl
  rw [show decide (0 + 10 ≤ zE.cells.length) = true from rfl, onB_true]
  refine hk _ _ ?_ (hF.step_wr (.inr hl) _ _)
  rw [heap_wr, if_pos rfl, hs', putAt_cells, e]
end

theorem sent_spec {v port : Int} {f : Frm} {bs : List Int} (h : BR N0 w bp vp vm vnb p pb o c sb so sc room ps fs) (hf : FrmR w f bs) (hv : isI v) (hpt : hasB fs.S port = true)
    (hk : ∀ x w', RdE 18 w' x ((sentL fs v port f bs.length).2.2.map outC) → New w x → Fr none_ w w' → K (.agg (wayC (sentL fs v port f bs.length).1 v (sentL fs v port f bs.length).2.1 x).toArray) w') :
    CallsR Tryz.prog 157 #[pt bp 0, i64 v, i64 port, .agg f.cells.toArray] K w := by
  apply c157
  unfold p157
  obtain ⟨hp1, hp2⟩ := hasB_iff.1 hpt
  have hlt0 := h.lt
  have hfw := hf
  rw [opS_box]
  show opS Tryz.prog (S.alloc 141) _ (w.alloc (cellsO f.cells 61))
  have hF1 : Fr none_ w (w.alloc (cellsO f.cells 61)) := (by repeat' first | with_reducible exact Fr.refl _ _ | with_reducible refine Fr.step_alloc ?_ ?_ | with_reducible refine Fr.step_drew ?_ | with_reducible refine Fr.step_wr ?_ ?_ _ _ | exact rfl | exact Or.inr (by omega) | exact Or.inl rfl | exact Or.inl (Or.inl rfl) | exact Or.inl (Or.inr rfl))
  have hf0 : (w.alloc (cellsO f.cells 61)).heap[w.heap.size]? = some (cellsO f.cells 61) := by simp only [push_cast, Nat.reduceAdd, Nat.reduceLeDiff, Nat.reduceLT, Int.reduceToNat, Nat.left_eq_add, Nat.add_eq_left, Nat.add_left_cancel_iff, Nat.reduceEqDiff, Nat.add_assoc, Nat.succ_ne_zero]
  replace h := h.fr0 hF1
  replace hf := hf.fr0 hF1
  have hs1 := lt_of_heap hf0
  generalize w.alloc (cellsO f.cells 61) = w1 at *
  rw [zalloc_way]
  have hF2 : Fr none_ w1 (w1.alloc (cellsO (wayC 0 0 0 (.slice none 0 0)) 141)) := (by repeat' first | with_reducible exact Fr.refl _ _ | with_reducible refine Fr.step_alloc ?_ ?_ | with_reducible refine Fr.step_drew ?_ | with_reducible refine Fr.step_wr ?_ ?_ _ _ | exact rfl | exact Or.inr (by omega) | exact Or.inl rfl | exact Or.inl (Or.inl rfl) | exact Or.inl (Or.inr rfl))
  have hr0 : (w1.alloc (cellsO (wayC 0 0 0 (.slice none 0 0)) 141)).heap[w1.heap.size]? = some (cellsO (wayC 0 0 0 (.slice none 0 0)) 141) := by simp only [push_cast, Nat.reduceAdd, Nat.reduceLeDiff, Nat.reduceLT, Int.reduceToNat, Nat.left_eq_add, Nat.add_eq_left, Nat.add_left_cancel_iff, Nat.reduceEqDiff, Nat.add_assoc, Nat.succ_ne_zero]
  replace h := h.fr0 hF2
  replace hf := hf.fr0 hF2
  replace hf0 := hF2.heap hf0 fun h => h
  have hF12 := hF1.trans hF2
  have hs2 := lt_of_heap hr0
  generalize w1.alloc (cellsO (wayC 0 0 0 (.slice none 0 0)) 141) = w2 at *
  rw [build_way1]
  refine way_slot fun _ w3 hw3 hF3 => ?_
  replace h := h.fr0 hF3
  replace hf := hf.fr0 hF3
  replace hf0 := hF3.heap hf0 fun h => h
  replace hr0 := hF3.heap hr0 fun h => h
  have hF03 := hF12.trans hF3
  have hs3 := lt_of_heap hw3
  have hrs : w1.heap.size ≠ w2.heap.size := by omega
  generalize hfb : w.heap.size = fb at *
  generalize hrb : w1.heap.size = rs at *
  generalize hwb : w2.heap.size = ws at *
  have hne1 : ws ≠ rs := fun e => hrs e.symm
  have hlo : w.heap.size ≤ rs ∧ w.heap.size ≤ ws := by omega
  have hok := hf.1
  -- behind the look
  have rest : ∀ sl w4, w4.heap[sl]? = some (cellsO (lookL fs.r (v, f.dst)).1.cells 80) → Fr none_ w3 w4 → sl ≠ ws → sl ≠ rs → BR N0 w4 bp vp vm vnb p pb o c sb so sc room ps fs ∧ FrmR w4 f bs ∧ w4.heap[fb]? = some (cellsO f.cells 61) ∧ w4.heap[rs]? = some (cellsO (wayC 0 0 0 (.slice none 0 0)) 141) ∧ w4.heap[ws]? = some (cellsO (wayC 0 v 0 (.slice none 0 0)) 141) ∧ Fr none_ w w4 :=
    fun sl w4 _ hF _ _ => ⟨h.fr0 hF, hf.fr0 hF, hF.heap hf0 fun h => h, hF.heap hr0 fun h => h, hF.heap hw3 fun h => h, hF03.trans hF⟩
  refine jn2 (fun a b w' => ∃ sl, a = pt sl 0 ∧ b = .bool (lookL fs.r (v, f.dst)).2 ∧ w'.heap[sl]? = some (cellsO (lookL fs.r (v, f.dst)).1.cells 80) ∧ w3.heap.size ≤ sl ∧ Fr none_ w3 w') ?_ fun j2 hj2 => ?_
  case refine_2 =>
    have hFd : Fr none_ w3 w3.drew := Fr.drew w3
    have hB2 := h.fr0 hFd
    have k4 := hFd.heap hf0 fun h => h
    simp only [push_cast, Nat.reduceAdd, Nat.reduceLeDiff, Nat.reduceLT, Int.reduceToNat, Nat.left_eq_add, Nat.add_eq_left, Nat.add_left_cancel_iff, Nat.reduceEqDiff, Nat.add_assoc, Nat.succ_ne_zero]
    have hds : w3.drew.heap.size = w3.heap.size := rfl
    generalize w3.drew = wd at *
    have hself : Fr none_ wd wd := Fr.refl _ _
    have hdst := hok.1
    have fin : ∀ sl w', w'.heap[sl]? = some (cellsO (lookL fs.r (v, f.dst)).1.cells 80) → wd.heap.size ≤ sl → Fr none_ wd w' → j2 (pt sl 0) (.bool (lookL fs.r (v, f.dst)).2) w' := fun sl w' hs hl hF => hj2 _ _ _ ⟨sl, rfl, rfl, hs, by omega, hFd.trans hF⟩
    clear rest hk
    repeat' first
      | with_reducible refine allW_intro ?_ ?_
      | with_reducible refine se_ldT hB2 (by assumption) ?_
      | with_reducible refine se_ldM k4 (by assumption) ?_
      | with_reducible refine se_alloc (w0 := wd) (by assumption) fun _ _ _ _ _ => ?_
      | with_reducible refine se_look hB2 hv hdst (by assumption) fun _ _ _ => ?_
      | (with_reducible refine se_st1 (w0 := wd) (by assumption) (by assumption) (by first | assumption | exact Fr.refl _ _) (by assumption) fun _ _ _ _ => ?_; exact fin _ _ (by assumption) (by assumption) (by assumption))
  rintro a b w4 ⟨sl, rfl, rfl, hsl, hsl3, hF4⟩
  obtain ⟨h4, hf4, hfb4, hr4, hw4, hF04⟩ := rest sl w4 hsl hF4 (by omega) (by omega)
  clear rest hF12 hF03 hF1 hF2 hF3 h hf hf0 hr0 hw3
  refine jn0 (fun w' => ∃ (cc tt : Int) (x : Value) (outs : List (Int × Frm)), w'.heap[ws]? = some (cellsO (wayC cc v tt x) 141) ∧ w'.heap[rs]? = some (cellsO (wayC 0 0 0 (.slice none 0 0)) 141) ∧ RdE 18 w' x (outs.map outC) ∧ (∀ b, blkS x = some b → ws < b) ∧ Fr none_ w w' ∧ endL2 cc tt outs = sentL fs v port f bs.length) ?_ fun j hj => ?_
  · rintro w5 ⟨cc, tt, x, outs, g1, g2, hx, hn, hF5, he⟩
    obtain ⟨xa, xc, rfl⟩ := hx.form
    rw [List.length_map] at hx hn g1
    rw [← he] at hk
    have fin : ∀ w' c', RdE 18 w' (.slice xa outs.length xc) (outs.map outC) → Fr none_ w w' → (c', tt, outs) = endL2 cc tt outs →
        K (.agg (wayC c' v tt (.slice xa outs.length xc)).toArray) (wr w' rs 0 (wayC c' v tt (.slice xa outs.length xc))) := by
      intro w' c' q3 q4 q5
      rw [← q5] at hk
      refine hk _ _ (q3.frame fun b hb => ?_) (fun b hb => by have := hn b hb; omega) (q4.step_wr (.inr hlo.1) _ _)
      have hb0 := hn b hb
      have e : b ≠ rs := by omega
      simp only [push_cast, Nat.reduceAdd, Nat.reduceLeDiff, Nat.reduceLT, Int.reduceToNat, Nat.left_eq_add, Nat.add_eq_left, Nat.add_left_cancel_iff, Nat.reduceEqDiff, Nat.add_assoc, Nat.succ_ne_zero, e]
    simp only [push_cast, Nat.reduceAdd, Nat.reduceLeDiff, Nat.reduceLT, Int.reduceToNat, Nat.left_eq_add, Nat.add_eq_left, Nat.add_left_cancel_iff, Nat.reduceEqDiff, Nat.add_assoc, Nat.succ_ne_zero, g1]
    refine br_intro (fun h0 => ?_) fun h0 => ?_
    · have h0 : cc = 0 := by simpa using h0
      refine br_intro (fun h1 => ?_) fun h1 => ?_
      · have h1 : outs = [] := by simpa using h1
        simp only [push_cast, Nat.reduceAdd, Nat.reduceLeDiff, Nat.reduceLT, Int.reduceToNat, Nat.left_eq_add, Nat.add_eq_left, Nat.add_left_cancel_iff, Nat.reduceEqDiff, Nat.add_assoc, Nat.succ_ne_zero, g1, g2, hne1, hne1.symm]
        refine fin _ 8 (hx.frame fun b hb => ?_) (hF5.step_wr (.inr hlo.2) _ _) (by unfold endL2; rw [if_pos ⟨h0, h1⟩, h1])
        have e : b ≠ ws := by
          have := hn b hb
          omega
        simp only [push_cast, Nat.reduceAdd, Nat.reduceLeDiff, Nat.reduceLT, Int.reduceToNat, Nat.left_eq_add, Nat.add_eq_left, Nat.add_left_cancel_iff, Nat.reduceEqDiff, Nat.add_assoc, Nat.succ_ne_zero, e]
      · have h1 : ¬ outs = [] := by simpa using h1
        simp only [push_cast, Nat.reduceAdd, Nat.reduceLeDiff, Nat.reduceLT, Int.reduceToNat, Nat.left_eq_add, Nat.add_eq_left, Nat.add_left_cancel_iff, Nat.reduceEqDiff, Nat.add_assoc, Nat.succ_ne_zero, g1, g2]
        exact fin _ cc hx hF5 (by unfold endL2; rw [if_neg (fun e => h1 e.2)])
    · have h0 : ¬ cc = 0 := by simpa using h0
      simp only [push_cast, Nat.reduceAdd, Nat.reduceLeDiff, Nat.reduceLT, Int.reduceToNat, Nat.left_eq_add, Nat.add_eq_left, Nat.add_left_cancel_iff, Nat.reduceEqDiff, Nat.add_assoc, Nat.succ_ne_zero, g1, g2]
      exact fin _ cc hx hF5 (by unfold endL2; rw [if_neg (fun e => h0 e.1)])
  · have hlt4 := h4.lt
    simp only [push_cast, Nat.reduceAdd, Nat.reduceLeDiff, Nat.reduceLT, Int.reduceToNat, Nat.left_eq_add, Nat.add_eq_left, Nat.add_left_cancel_iff, Nat.reduceEqDiff, Nat.add_assoc, Nat.succ_ne_zero, h4.blk, jn_0]
    refine st_get h4 (by omega) (by omega) ?_
    unfold sentL at hj
    simp only [push_cast, Nat.reduceAdd, Nat.reduceLeDiff, Nat.reduceLT, Int.reduceToNat, Nat.left_eq_add, Nat.add_eq_left, Nat.add_left_cancel_iff, Nat.reduceEqDiff, Nat.add_assoc, Nat.succ_ne_zero]
    refine br_intro (fun h0 => ?_) fun h0 => ?_
    · have h0 : fs.S.getD port.toNat 0 = 1 := by simpa using h0
      rw [if_pos h0] at hj
      simp only [push_cast, Nat.reduceAdd, Nat.reduceLeDiff, Nat.reduceLT, Int.reduceToNat, Nat.left_eq_add, Nat.add_eq_left, Nat.add_left_cancel_iff, Nat.reduceEqDiff, Nat.add_assoc, Nat.succ_ne_zero, hw4]
      refine hj _ ⟨6, 0, _, [], ?_, ?_, (own_nil 86 18 _).rd, (fun b hb => by cases hb), hF04.step_wr (.inr hlo.2) _ _, rfl⟩
      · simp only [push_cast, Nat.reduceAdd, Nat.reduceLeDiff, Nat.reduceLT, Int.reduceToNat, Nat.left_eq_add, Nat.add_eq_left, Nat.add_left_cancel_iff, Nat.reduceEqDiff, Nat.add_assoc, Nat.succ_ne_zero, hw4]
      · simp only [push_cast, Nat.reduceAdd, Nat.reduceLeDiff, Nat.reduceLT, Int.reduceToNat, Nat.left_eq_add, Nat.add_eq_left, Nat.add_left_cancel_iff, Nat.reduceEqDiff, Nat.add_assoc, Nat.succ_ne_zero, hr4, hne1, hne1.symm]
    have h0 : ¬ fs.S.getD port.toNat 0 = 1 := by simpa using h0
    rw [if_neg h0] at hj
    cases hat : atK fs.r (v, f.dst) with
    | none =>
      rw [hat] at hj
      have e2 : (lookL fs.r (v, f.dst)).2 = false := by unfold lookL; rw [hat]
      simp only [push_cast, Nat.reduceAdd, Nat.reduceLeDiff, Nat.reduceLT, Int.reduceToNat, Nat.left_eq_add, Nat.add_eq_left, Nat.add_left_cancel_iff, Nat.reduceEqDiff, Nat.add_assoc, Nat.succ_ne_zero, e2, hfb4, frm_len, frm_dw]
      refine relay_spec h4 hf4 fun x w5 hx hn hF5 => ?_
      have hn' : ∀ b, blkS x = some b → ws < b := fun b hb => by have := hn b hb; have := lt_of_heap hw4; omega
      have k1 := hF5.heap hw4 fun h => h
      have k2 := hF5.heap hr4 fun h => h
      obtain ⟨xa, xc, rfl⟩ := hx.form
      simp only [push_cast, Nat.reduceAdd, Nat.reduceLeDiff, Nat.reduceLT, Int.reduceToNat, Nat.left_eq_add, Nat.add_eq_left, Nat.add_left_cancel_iff, Nat.reduceEqDiff, Nat.add_assoc, Nat.succ_ne_zero, k1]
      refine hj _ ⟨0, 0, _, _, ?_, ?_, hx.frame fun b hb => ?_, hn', (hF04.trans hF5).step_wr (.inr hlo.2) _ _, ?_⟩
      · simp only [push_cast, Nat.reduceAdd, Nat.reduceLeDiff, Nat.reduceLT, Int.reduceToNat, Nat.left_eq_add, Nat.add_eq_left, Nat.add_left_cancel_iff, Nat.reduceEqDiff, Nat.add_assoc, Nat.succ_ne_zero, k1]
      · simp only [push_cast, Nat.reduceAdd, Nat.reduceLeDiff, Nat.reduceLT, Int.reduceToNat, Nat.left_eq_add, Nat.add_eq_left, Nat.add_left_cancel_iff, Nat.reduceEqDiff, Nat.add_assoc, Nat.succ_ne_zero, k2, hne1, hne1.symm]
      · have := hn' b hb
        have e : b ≠ ws := by omega
        simp only [push_cast, Nat.reduceAdd, Nat.reduceLeDiff, Nat.reduceLT, Int.reduceToNat, Nat.left_eq_add, Nat.add_eq_left, Nat.add_left_cancel_iff, Nat.reduceEqDiff, Nat.add_assoc, Nat.succ_ne_zero, e]
      · unfold endL2 endL
        simp only [true_and]
    | some g =>
      simp only [hat] at hj
      have e2 : lookL fs.r (v, f.dst) = (g, true) := by unfold lookL; rw [hat]
      rw [e2] at hsl
      simp only [push_cast, Nat.reduceAdd, Nat.reduceLeDiff, Nat.reduceLT, Int.reduceToNat, Nat.left_eq_add, Nat.add_eq_left, Nat.add_left_cancel_iff, Nat.reduceEqDiff, Nat.add_assoc, Nat.succ_ne_zero, e2, hsl]
      refine br_intro (fun h1 => ?_) fun h1 => ?_
      · have h1 : g.port = port := by simpa using h1
        rw [if_pos h1] at hj
        simp only [push_cast, Nat.reduceAdd, Nat.reduceLeDiff, Nat.reduceLT, Int.reduceToNat, Nat.left_eq_add, Nat.add_eq_left, Nat.add_left_cancel_iff, Nat.reduceEqDiff, Nat.add_assoc, Nat.succ_ne_zero, hw4]
        refine hj _ ⟨7, 0, _, [], ?_, ?_, (own_nil 86 18 _).rd, (fun b hb => by cases hb), hF04.step_wr (.inr hlo.2) _ _, rfl⟩
        · simp only [push_cast, Nat.reduceAdd, Nat.reduceLeDiff, Nat.reduceLT, Int.reduceToNat, Nat.left_eq_add, Nat.add_eq_left, Nat.add_left_cancel_iff, Nat.reduceEqDiff, Nat.add_assoc, Nat.succ_ne_zero, hw4]
        · simp only [push_cast, Nat.reduceAdd, Nat.reduceLeDiff, Nat.reduceLT, Int.reduceToNat, Nat.left_eq_add, Nat.add_eq_left, Nat.add_left_cancel_iff, Nat.reduceEqDiff, Nat.add_assoc, Nat.succ_ne_zero, hr4, hne1, hne1.symm]
      have h1 : ¬ g.port = port := by simpa using h1
      rw [if_neg h1] at hj
      simp only [push_cast, Nat.reduceAdd, Nat.reduceLeDiff, Nat.reduceLT, Int.reduceToNat, Nat.left_eq_add, Nat.add_eq_left, Nat.add_left_cancel_iff, Nat.reduceEqDiff, Nat.add_assoc, Nat.succ_ne_zero, hw4]
      refine br_dec (fun h2 => ?_) fun h2 => ?_
      · rw [if_pos h2] at hj
        generalize hwa : wr w4 ws 2 [i64 g.port] = wa at *
        have hFa : Fr (fun b => b = ws) w4 wa := by rw [← hwa]; exact Fr.step_wr (fp := fun b => b = ws) (Fr.refl _ _) (.inl rfl) _ _
        have hF0a : Fr none_ w wa := by rw [← hwa]; exact hF04.step_wr (.inr hlo.2) _ _
        have h5 : BR N0 wa bp vp vm vnb p pb o c sb so sc room ps fs := h4.fr hFa fun b hb => by omega
        have hf5 : FrmR wa f bs := frm_keep hfw hf4 hFa fun b hb => by omega
        have k0 : wa.heap[fb]? = some (cellsO f.cells 61) := hFa.heap hfb4 (by omega)
        have k1 : wa.heap[ws]? = some (cellsO (wayC 0 v g.port (.slice none 0 0)) 141) := by rw [← hwa]; simp only [push_cast, Nat.reduceAdd, Nat.reduceLeDiff, Nat.reduceLT, Int.reduceToNat, Nat.left_eq_add, Nat.add_eq_left, Nat.add_left_cancel_iff, Nat.reduceEqDiff, Nat.add_assoc, Nat.succ_ne_zero, hw4]
        have k2 : wa.heap[rs]? = some (cellsO (wayC 0 0 0 (.slice none 0 0)) 141) := hFa.heap hr4 (by omega)
        have hfs : fb ≠ ws := by omega
        rw [if_neg hfs, hfb4]
        simp only [push_cast, Nat.reduceAdd, Nat.reduceLeDiff, Nat.reduceLT, Int.reduceToNat, Nat.left_eq_add, Nat.add_eq_left, Nat.add_left_cancel_iff, Nat.reduceEqDiff, Nat.add_assoc, Nat.succ_ne_zero, frm_len, frm_dw]
        refine relay_spec h5 hf5 fun x w5 hx hn hF5 => ?_
        have hn' : ∀ b, blkS x = some b → ws < b := fun b hb => by have := hn b hb; have := lt_of_heap k1; omega
        replace k1 := hF5.heap k1 fun h => h
        replace k2 := hF5.heap k2 fun h => h
        obtain ⟨xa, xc, rfl⟩ := hx.form
        simp only [push_cast, Nat.reduceAdd, Nat.reduceLeDiff, Nat.reduceLT, Int.reduceToNat, Nat.left_eq_add, Nat.add_eq_left, Nat.add_left_cancel_iff, Nat.reduceEqDiff, Nat.add_assoc, Nat.succ_ne_zero, k1]
        refine hj _ ⟨0, g.port, _, _, ?_, ?_, hx.frame fun b hb => ?_, hn', (hF0a.trans hF5).step_wr (.inr hlo.2) _ _, ?_⟩
        · simp only [push_cast, Nat.reduceAdd, Nat.reduceLeDiff, Nat.reduceLT, Int.reduceToNat, Nat.left_eq_add, Nat.add_eq_left, Nat.add_left_cancel_iff, Nat.reduceEqDiff, Nat.add_assoc, Nat.succ_ne_zero, k1]
        · simp only [push_cast, Nat.reduceAdd, Nat.reduceLeDiff, Nat.reduceLT, Int.reduceToNat, Nat.left_eq_add, Nat.add_eq_left, Nat.add_left_cancel_iff, Nat.reduceEqDiff, Nat.add_assoc, Nat.succ_ne_zero, k2, hne1, hne1.symm]
        · have := hn' b hb
          have e : b ≠ ws := by omega
          simp only [push_cast, Nat.reduceAdd, Nat.reduceLeDiff, Nat.reduceLT, Int.reduceToNat, Nat.left_eq_add, Nat.add_eq_left, Nat.add_left_cancel_iff, Nat.reduceEqDiff, Nat.add_assoc, Nat.succ_ne_zero, e]
        · unfold endL2 endL
          simp only [true_and]
      · rw [if_neg h2] at hj
        refine hj _ ⟨0, g.port, _, [], ?_, ?_, (own_nil 86 18 _).rd, (fun b hb => by cases hb), hF04.step_wr (.inr hlo.2) _ _, ?_⟩
        · simp only [push_cast, Nat.reduceAdd, Nat.reduceLeDiff, Nat.reduceLT, Int.reduceToNat, Nat.left_eq_add, Nat.add_eq_left, Nat.add_left_cancel_iff, Nat.reduceEqDiff, Nat.add_assoc, Nat.succ_ne_zero, hw4]
        · simp only [push_cast, Nat.reduceAdd, Nat.reduceLeDiff, Nat.reduceLT, Int.reduceToNat, Nat.left_eq_add, Nat.add_eq_left, Nat.add_left_cancel_iff, Nat.reduceEqDiff, Nat.add_assoc, Nat.succ_ne_zero, hr4, hne1, hne1.symm]
        · rfl

end
end Go.Gx.S
end

section
/- A bridge: a frame is taken. -/
set_option linter.unusedVariables false
set_option linter.unusedSimpArgs false
set_option maxRecDepth 100000
namespace Go.Gx.S
open Go Go.Gx Go.Proofs
variable {K : Value → World → Prop} {w : World}

theorem way_cause {c v t : Int} {o : Value} {b : Nat} {R : Value → World → Prop} (h : w.heap[b]? = some (cellsO (wayC c v t o) 141)) (hk : R (i64 c) w) : opS Tryz.prog (S.fa 141 (pt b 0) 0) (fun x => opS Tryz.prog (S.ld 3 x) R) w := by
  simp only [push_cast, Nat.reduceAdd, Nat.reduceLeDiff, Nat.reduceLT, Int.reduceToNat, Nat.left_eq_add, Nat.add_eq_left, Nat.add_left_cancel_iff, Nat.reduceEqDiff, Nat.add_assoc, Nat.succ_ne_zero, h]
  exact hk

section
variable {N0 bp vp vm vnb p pb o c sb so sc room : Nat} {ps : List Ent} {fs : FS}

theorem btake_spec {port now : Int} {f : Frm} {bs : List Int} (ht : fs.t.ok) (h : BR N0 w bp vp vm vnb p pb o c sb so sc room ps fs) (hf : FrmR w f bs) (hfl : ∃ w0 : World, FrmR w0 f bs ∧ w0.heap.size ≤ N0) (hpi : isI port) (hni : isI now)
    (hk : ∀ x w' ps', BR N0 w' bp vp vm vnb p pb o c sb so sc room ps' (takeA room fs port f bs.length now).1 → RdE 18 w' x ((takeA room fs port f bs.length now).2.2.2.2.map outC) → New w x → Fr (lfp bp p pb) w w' →
      K (.agg (wayC (takeA room fs port f bs.length now).2.1 (takeA room fs port f bs.length now).2.2.1 (takeA room fs port f bs.length now).2.2.2.1 x).toArray) w') :
    CallsR Tryz.prog 77 #[pt bp 0, i64 port, .agg f.cells.toArray, i64 now] K w := by
  apply c77
  unfold p77
  have hlt0 := h.lt
  have hfw := hf
  rw [opS_box]
  show opS Tryz.prog (S.alloc 141) _ (w.alloc (cellsO f.cells 61))
  have hF1 : Fr none_ w (w.alloc (cellsO f.cells 61)) := (by repeat' first | with_reducible exact Fr.refl _ _ | with_reducible refine Fr.step_alloc ?_ ?_ | with_reducible refine Fr.step_drew ?_ | with_reducible refine Fr.step_wr ?_ ?_ _ _ | exact rfl | exact Or.inr (by omega) | exact Or.inl rfl | exact Or.inl (Or.inl rfl) | exact Or.inl (Or.inr rfl))
  have hf0 : (w.alloc (cellsO f.cells 61)).heap[w.heap.size]? = some (cellsO f.cells 61) := by simp only [push_cast, Nat.reduceAdd, Nat.reduceLeDiff, Nat.reduceLT, Int.reduceToNat, Nat.left_eq_add, Nat.add_eq_left, Nat.add_left_cancel_iff, Nat.reduceEqDiff, Nat.add_assoc, Nat.succ_ne_zero]
  replace h := h.fr0 hF1
  replace hf := hf.fr0 hF1
  have hs1 := lt_of_heap hf0
  generalize w.alloc (cellsO f.cells 61) = w1 at *
  rw [zalloc_way]
  have hF2 : Fr none_ w1 (w1.alloc (cellsO (wayC 0 0 0 (.slice none 0 0)) 141)) := (by repeat' first | with_reducible exact Fr.refl _ _ | with_reducible refine Fr.step_alloc ?_ ?_ | with_reducible refine Fr.step_drew ?_ | with_reducible refine Fr.step_wr ?_ ?_ _ _ | exact rfl | exact Or.inr (by omega) | exact Or.inl rfl | exact Or.inl (Or.inl rfl) | exact Or.inl (Or.inr rfl))
  have hr0 : (w1.alloc (cellsO (wayC 0 0 0 (.slice none 0 0)) 141)).heap[w1.heap.size]? = some (cellsO (wayC 0 0 0 (.slice none 0 0)) 141) := by simp only [push_cast, Nat.reduceAdd, Nat.reduceLeDiff, Nat.reduceLT, Int.reduceToNat, Nat.left_eq_add, Nat.add_eq_left, Nat.add_left_cancel_iff, Nat.reduceEqDiff, Nat.add_assoc, Nat.succ_ne_zero]
  replace h := h.fr0 hF2
  replace hf := hf.fr0 hF2
  replace hf0 := hF2.heap hf0 fun h => h
  replace hF1 := hF1.trans hF2
  have hs2 := lt_of_heap hr0
  generalize w1.alloc (cellsO (wayC 0 0 0 (.slice none 0 0)) 141) = w2 at *
  simp only [push_cast, Nat.reduceAdd, Nat.reduceLeDiff, Nat.reduceLT, Int.reduceToNat, Nat.left_eq_add, Nat.add_eq_left, Nat.add_left_cancel_iff, Nat.reduceEqDiff, Nat.add_assoc, Nat.succ_ne_zero, hf0, frm_len, frm_dw]
  refine refused_spec h hf fun w3 hF3 => ?_
  replace h := h.fr0 hF3
  replace hf := hf.fr0 hF3
  replace hf0 := hF3.heap hf0 fun h => h
  replace hr0 := hF3.heap hr0 fun h => h
  replace hF1 := hF1.trans hF3
  have hs3 := lt_of_heap hr0
  generalize hca : (refusedL fs port f bs.length now).1 = ca at *
  generalize hva : (refusedL fs port f bs.length now).2 = va at *
  simp only [s_ext, List.getElem?_toArray, List.getElem?_cons_zero, List.getElem?_cons_succ, onS_some]
  rw [build_way2]
  refine way_slot fun _ w4 hw4 hF4 => ?_
  replace h := h.fr0 hF4
  replace hf := hf.fr0 hF4
  replace hf0 := hF4.heap hf0 fun h => h
  replace hr0 := hF4.heap hr0 fun h => h
  replace hF1 := hF1.trans hF4
  have hs4 := lt_of_heap hw4
  generalize hfb : w.heap.size = fb at *
  generalize hrb : w1.heap.size = rs at *
  generalize hwb : w3.heap.size = ws at *
  have hrng := refusedL_range fs port f bs.length now
  rw [hca] at hrng
  refine jn0 (fun w' => ∃ (cc vv tt : Int) (x : Value) (outs : List (Int × Frm)) (fs' : FS) (ps' : List Ent), w'.heap[ws]? = some (cellsO (wayC cc vv tt x) 141) ∧ w'.heap[rs]? = some (cellsO (wayC 0 0 0 (.slice none 0 0)) 141) ∧ RdE 18 w' x (outs.map outC) ∧ (∀ b, blkS x = some b → ws < b) ∧ Fr (lfp bp p pb) w w' ∧ BR N0 w' bp vp vm vnb p pb o c sb so sc room ps' fs' ∧ 0 ≤ cc ∧ cc < 9 ∧ takeA room fs port f bs.length now = ({ fs' with N := incr fs'.N cc.toNat }, cc, vv, tt, outs)) ?_ fun j hj => ?_
  · rintro w5 ⟨cc, vv, tt, x, outs, fs', ps', g1, g2, hx, hn, hF5, h5, c1, c2, he⟩
    rw [he] at hk
    refine way_cause (w := w5.drew) g1 ?_
    refine cnt_n (k := cc.toNat) (by omega) (by omega) (h5.fr0 (Fr.drew w5)) fun w6 h6 hF6 => ?_
    have hF56 : Fr (fun b => b = bp) w5 w6 := ((Fr.drew w5 : Fr none_ w5 w5.drew).mono fun _ _ e => e.elim).trans_new hF6 fun b _ e => e
    have hb6 : bp < fb := hlt0.1
    replace g1 := hF56.heap g1 (by omega)
    replace g2 := hF56.heap g2 (by omega)
    obtain ⟨xa, xc, rfl⟩ := hx.form
    have hne : rs ≠ ws := by omega
    simp only [push_cast, Nat.reduceAdd, Nat.reduceLeDiff, Nat.reduceLT, Int.reduceToNat, Nat.left_eq_add, Nat.add_eq_left, Nat.add_left_cancel_iff, Nat.reduceEqDiff, Nat.add_assoc, Nat.succ_ne_zero, g1, g2]
    have hx6 := hx.fr hF56 fun b hb => by have := hn b hb; omega
    have hlo : w.heap.size ≤ rs := by omega
    refine hk _ _ ps' (h6.fr (Fr.step_wr (fp := fun b => b = rs) (Fr.refl _ _) (.inl rfl) _ _) fun b hb => by omega) (hx6.frame fun b hb => ?_) (fun b hb => by have := hn b hb; omega) ?_
    · have := hn b hb
      have e : b ≠ rs := by omega
      simp only [push_cast, Nat.reduceAdd, Nat.reduceLeDiff, Nat.reduceLT, Int.reduceToNat, Nat.left_eq_add, Nat.add_eq_left, Nat.add_left_cancel_iff, Nat.reduceEqDiff, Nat.add_assoc, Nat.succ_ne_zero, e]
    · exact (hF5.trans_new hF56 fun b _ e => .inl e).step_wr (.inr hlo) _ _
  · simp only [push_cast, Nat.reduceAdd, Nat.reduceLeDiff, Nat.reduceLT, Int.reduceToNat, Nat.left_eq_add, Nat.add_eq_left, Nat.add_left_cancel_iff, Nat.reduceEqDiff, Nat.add_assoc, Nat.succ_ne_zero]
    refine br_intro (fun h0 => ?_) fun h0 => ?_
    · have h0 : ca = 0 := by simpa using h0
      obtain ⟨e1, e2, e3, e4, e5, e6⟩ := refusedL_port (hca.trans h0)
      have hok := hf.1
      have hvi : isI va := by
        have := inn_isI (p := port) (n := bs.length) ht hok
        rw [← e4, hva] at this
        exact this
      have esrc : (f.cells.drop 6).take 6 = f.src.cells := rfl
      simp only [push_cast, Nat.reduceAdd, Nat.reduceLeDiff, Nat.reduceLT, Int.reduceToNat, Nat.left_eq_add, Nat.add_eq_left, Nat.add_left_cancel_iff, Nat.reduceEqDiff, Nat.add_assoc, Nat.succ_ne_zero, hf0, frm_len, frm_dw, esrc]
      refine blearn_spec h hvi hok.2.1 hpi hni fun w5 ps5 h5 hF5 => ?_
      have hge := h.ge
      obtain ⟨w0, hw0, hw0n⟩ := hfl
      have hf5 := frm_keep hw0 hf hF5 fun b hb e => by have : b = bp ∨ b = p ∨ b = pb := e; omega
      have hnl : ∀ b, ws ≤ b ∨ b = fb ∨ b = rs → ¬ lfp bp p pb b := fun b hb e => by have : b = bp ∨ b = p ∨ b = pb := e; omega
      replace hf0 := hF5.heap hf0 (hnl _ (.inr (.inl rfl)))
      replace hr0 := hF5.heap hr0 (hnl _ (.inr (.inr rfl)))
      replace hw4 := hF5.heap hw4 (hnl _ (.inl (Nat.le_refl _)))
      have hF05 : Fr (lfp bp p pb) w w5 := (hF1.mono fun _ _ e => e.elim).trans hF5
      have hs5 := lt_of_heap hw4
      simp only [push_cast, Nat.reduceAdd, Nat.reduceLeDiff, Nat.reduceLT, Int.reduceToNat, Nat.left_eq_add, Nat.add_eq_left, Nat.add_left_cancel_iff, Nat.reduceEqDiff, Nat.add_assoc, Nat.succ_ne_zero, hf0, frm_len, frm_dw]
      refine sent_spec h5 hf5 hvi e1 fun x w6 hx hn hF6 => ?_
      replace hr0 := hF6.heap hr0 fun h => h
      replace hw4 := hF6.heap hw4 fun h => h
      have hn' : ∀ b, blkS x = some b → ws < b := fun b hb => by have := hn b hb; omega
      have hr := sentL_range (learnF room fs va f.src port now) va port f bs.length
      obtain ⟨xa, xc, rfl⟩ := hx.form
      simp only [push_cast, Nat.reduceAdd, Nat.reduceLeDiff, Nat.reduceLT, Int.reduceToNat, Nat.left_eq_add, Nat.add_eq_left, Nat.add_left_cancel_iff, Nat.reduceEqDiff, Nat.add_assoc, Nat.succ_ne_zero, hw4]
      have hlo : w.heap.size ≤ ws := by omega
      refine hj _ ⟨_, va, (sentL (learnF room fs va f.src port now) va port f bs.length).2.1, _, _, learnF room fs va f.src port now, ps5, ?_, ?_, hx.frame fun b hb => ?_, hn', ((hF05.trans_new hF6 fun _ _ e => e.elim).step_wr (.inr hlo) _ _), (h5.fr0 hF6).fr (Fr.step_wr (fp := fun b => b = ws) (Fr.refl _ _) (.inl rfl) _ _) fun b hb => by omega, hr.1, hr.2, ?_⟩
      · simp only [push_cast, Nat.reduceAdd, Nat.reduceLeDiff, Nat.reduceLT, Int.reduceToNat, Nat.left_eq_add, Nat.add_eq_left, Nat.add_left_cancel_iff, Nat.reduceEqDiff, Nat.add_assoc, Nat.succ_ne_zero, hw4]
      · have hne : rs ≠ ws := by omega
        simp only [push_cast, Nat.reduceAdd, Nat.reduceLeDiff, Nat.reduceLT, Int.reduceToNat, Nat.left_eq_add, Nat.add_eq_left, Nat.add_left_cancel_iff, Nat.reduceEqDiff, Nat.add_assoc, Nat.succ_ne_zero, hr0, hne, hne.symm]
      · have := hn' b hb
        have e : b ≠ ws := by omega
        simp only [push_cast, Nat.reduceAdd, Nat.reduceLeDiff, Nat.reduceLT, Int.reduceToNat, Nat.left_eq_add, Nat.add_eq_left, Nat.add_left_cancel_iff, Nat.reduceEqDiff, Nat.add_assoc, Nat.succ_ne_zero, e]
      · unfold takeA
        rw [hca, hva, if_pos h0]
        rfl
    · have h0 : ¬ ca = 0 := by simpa using h0
      refine hj _ ⟨ca, va, 0, _, [], fs, ps, hw4, hr0, (own_nil 86 18 _).rd, (fun b hb => by cases hb), hF1.mono fun _ _ e => e.elim, h, hrng.1, hrng.2, ?_⟩
      unfold takeA
      rw [hca, hva, if_neg h0]

theorem ints_one (l : List Int) : (l.map i64).all S.oneCell = true := by
  rw [List.all_map]
  exact List.all_eq_true.2 fun x _ => rfl
theorem brC_dl {sl : Value} {N Ln : List Int} (hN : N.length = 9) (hL : Ln.length = 3) : ((brC vp p sl N Ln).drop 12).take 3 = Ln.map i64 := by
  show ((N.map i64 ++ Ln.map i64).drop 9).take 3 = _
  rw [List.drop_left' (by rw [List.length_map, hN]), List.take_of_length_le (by rw [List.length_map, hL]; omega)]
/-- all of a block that lies anew is written, and read -/
theorem new_put {T : TypeId} {n : Nat} [hs : Sz Tryz.prog T n true] {b : Nat} {x l : List Value} {R : Value → World → Prop} (h : w.heap[b]? = some (cellsO l T)) (hn : 0 < n) (hl : l.length = n) (hx : x.length = n) (h1 : x.all S.oneCell = true)
    (hk : R (.agg x.toArray) (wr w b 0 x)) : opS Tryz.prog (S.st T (pt b 0) (.agg x.toArray)) (fun _ => opS Tryz.prog (S.ld T (pt b 0)) R) w := by
  have e : (wr w b 0 x).heap[b]? = some (cellsO x T) := by
    rw [heap_wr, if_pos rfl, h, putAt_cells]
    have : splice l 0 x = x := by
      unfold splice
      simp [hl, hx]
    rw [this]
  rw [s_stA _ _ x hx h1, h, okAt_cells, decide_eq_true (by omega), onB_true, s_ldN hn, e, aggAt_cells, if_pos (by omega)]
  simp only [List.drop_zero, onS_some]
  rw [List.take_of_length_le (by omega)]
  exact hk
theorem learned_spec (h : BR N0 w bp vp vm vnb p pb o c sb so sc room ps fs) (hk : ∀ w', Fr none_ w w' → K (.agg (fs.Ln.map i64).toArray) w') : CallsR Tryz.prog 154 #[pt bp 0] K w := by
  apply c154
  unfold p154
  have hne : bp ≠ w.heap.size := by have := h.lt; omega
  have e := brC_dl (vp := vp) (p := p) (sl := .slice (some ⟨sb, so, none⟩) fs.S.length sc) h.nl h.ll
  have hl := h.len
  simp only [push_cast, Nat.reduceAdd, Nat.reduceLeDiff, Nat.reduceLT, Int.reduceToNat, Nat.left_eq_add, Nat.add_eq_left, Nat.add_left_cancel_iff, Nat.reduceEqDiff, Nat.add_assoc, Nat.succ_ne_zero, h.blk, hne, e, hl]
  refine new_put (l := List.replicate 3 (i64 0)) ?_ (by decide) (List.length_replicate ..) (by rw [List.length_map, h.ll]) (ints_one _) (hk _ (by repeat' first | with_reducible exact Fr.refl _ _ | with_reducible refine Fr.step_alloc ?_ ?_ | with_reducible refine Fr.step_drew ?_ | with_reducible refine Fr.step_wr ?_ ?_ _ _ | exact rfl | exact Or.inr (by omega) | exact Or.inl rfl | exact Or.inl (Or.inl rfl) | exact Or.inl (Or.inr rfl)))
  simp only [push_cast, Nat.reduceAdd, Nat.reduceLeDiff, Nat.reduceLT, Int.reduceToNat, Nat.left_eq_add, Nat.add_eq_left, Nat.add_left_cancel_iff, Nat.reduceEqDiff, Nat.add_assoc, Nat.succ_ne_zero]
  rfl
end
end Go.Gx.S
end

section
/- The document's bridge: its ports, and what it learns. -/
set_option linter.unusedVariables false
set_option linter.unusedSimpArgs false
set_option maxRecDepth 100000
namespace Go.Gx.S
open Go Go.Gx Go.Proofs
variable {K : Value → World → Prop} {w : World}

def rbC (n : Int) (vq fq : Nat) (sl : Value) (N Ln : List Int) : List Value := i64 n :: pt vq 0 :: pt fq 0 :: sl :: (N.map i64 ++ Ln.map i64)

structure RBR (D : Nat → Prop) (N0 : Nat) (w : World) (rb vq vnb : Nat) (vL : Value) (fq : Nat) (fL : Value) (sb so sc room : Nat) (fs : FS) : Prop where
  blk : w.heap[rb]? = some (cellsO (rbC ((fs.S.length : Int) - 1) vq fq (.slice (some ⟨sb, so, none⟩) fs.S.length sc) fs.N fs.Ln) 123)
  v : Vl.RRep w vq vnb vL fs.t
  f : RT w fq room fL fs.r
  s : OwnE 3 1 w (.slice (some ⟨sb, so, none⟩) fs.S.length sc) (fs.S.map cellI)
  nl : fs.N.length = 9
  ll : fs.Ln.length = 3
  sl : 2 ≤ fs.S.length ∧ fs.S.length ≤ 64
  z0 : fs.S.getD 0 0 = 0
  dv : ∀ b, Vl.rfp vq vnb vL b → b ≠ rb ∧ b ≠ sb ∧ ¬ rp fq fL b ∧ N0 ≤ b ∧ ¬ D b
  df : ∀ b, rp fq fL b → b ≠ rb ∧ b ≠ sb ∧ N0 ≤ b ∧ ¬ D b
  ds : rb ≠ sb ∧ N0 ≤ rb ∧ N0 ≤ sb ∧ ¬ D rb ∧ ¬ D sb
  dl : ∀ b, D b → b < w.heap.size

/-- its own blocks -/
def rwf (rb sb vq vnb : Nat) (vL : Value) (fq : Nat) (fL : Value) (b : Nat) : Prop := b = rb ∨ b = sb ∨ Vl.rfp vq vnb vL b ∨ rp fq fL b

section
variable {D : Nat → Prop} {N0 rb vq vnb : Nat} {vL : Value} {fq : Nat} {fL : Value} {sb so sc room : Nat} {fs : FS}
theorem RBR.fr {fp : Nat → Prop} {w' : World} (h : RBR D N0 w rb vq vnb vL fq fL sb so sc room fs) (hF : Fr fp w w') (hn : ∀ b, rwf rb sb vq vnb vL fq fL b → ¬ fp b) : RBR D N0 w' rb vq vnb vL fq fL sb so sc room fs :=
  ⟨hF.heap h.blk (hn _ (.inl rfl)), h.v.fr hF (hn _ (.inr (.inr (.inl (.inl rfl))))) (hn _ (.inr (.inr (.inl (.inr (.inl rfl)))))) (fun b hb => hn _ (.inr (.inr (.inl (.inr (.inr hb)))))),
    h.f.fr hF (hn _ (.inr (.inr (.inr (.inl rfl))))) (fun b hb => hn _ (.inr (.inr (.inr (.inr hb))))), h.s.fr hF (fun b hb => by simp only [blkS, Option.some.injEq] at hb; exact hn _ (.inr (.inl hb.symm))), h.nl, h.ll, h.sl, h.z0, h.dv, h.df, h.ds, fun b hb => Nat.lt_of_lt_of_le (h.dl b hb) hF.size⟩
theorem RBR.fr0 {w' : World} (h : RBR D N0 w rb vq vnb vL fq fL sb so sc room fs) (hF : Fr none_ w w') : RBR D N0 w' rb vq vnb vL fq fL sb so sc room fs := h.fr hF fun _ _ h => h
theorem RBR.ge (h : RBR D N0 w rb vq vnb vL fq fL sb so sc room fs) {b : Nat} (hb : rwf rb sb vq vnb vL fq fL b) : N0 ≤ b ∧ ¬ D b := by
  have hds := h.ds
  rcases hb with rfl | rfl | hb | hb
  · exact ⟨hds.2.1, hds.2.2.2.1⟩
  · exact ⟨hds.2.2.1, hds.2.2.2.2⟩
  · exact ⟨(h.dv b hb).2.2.2.1, (h.dv b hb).2.2.2.2⟩
  · exact ⟨(h.df b hb).2.2.1, (h.df b hb).2.2.2⟩
theorem RBR.lt (h : RBR D N0 w rb vq vnb vL fq fL sb so sc room fs) {b : Nat} (hb : rwf rb sb vq vnb vL fq fL b) : b < w.heap.size := by
  rcases hb with rfl | rfl | hb | hb
  · exact lt_of_heap h.blk
  · exact h.s.lt (b := b) rfl
  · rcases hb with rfl | rfl | hb
    · exact h.v.lt.1
    · exact h.v.lt.2
    · exact h.v.lst.lt hb
  · rcases hb with rfl | hb
    · exact lt_of_heap h.f.blk
    · exact h.f.own.lt hb
theorem RBR.len (h : RBR D N0 w rb vq vnb vL fq fL sb so sc room fs) : (rbC ((fs.S.length : Int) - 1) vq fq (.slice (some ⟨sb, so, none⟩) fs.S.length sc) fs.N fs.Ln).length = 16 := by
  simp [rbC, h.nl, h.ll]
/-- its own cells are written -/
theorem RBR.own {w' : World} {N' Ln' : List Int} (h : RBR D N0 w rb vq vnb vL fq fL sb so sc room fs) (hF : Fr (fun b => b = rb) w w') (hb : w'.heap[rb]? = some (cellsO (rbC ((fs.S.length : Int) - 1) vq fq (.slice (some ⟨sb, so, none⟩) fs.S.length sc) N' Ln') 123)) (hn : N'.length = 9) (hl : Ln'.length = 3) :
    RBR D N0 w' rb vq vnb vL fq fL sb so sc room { fs with N := N', Ln := Ln' } :=
  ⟨hb, h.v.fr hF (h.dv _ (.inl rfl)).1 (h.dv _ (.inr (.inl rfl))).1 (fun b hb => (h.dv _ (.inr (.inr hb))).1), h.f.fr hF (h.df _ (.inl rfl)).1 (fun b hb => (h.df _ (.inr hb)).1),
    h.s.fr hF (fun b hb e => by simp only [blkS, Option.some.injEq] at hb; exact h.ds.1 (by omega)), hn, hl, h.sl, h.z0, h.dv, h.df, h.ds, fun b hb => Nat.lt_of_lt_of_le (h.dl b hb) hF.size⟩
/-- its table of stations is -/
theorem RBR.tab {w' : World} {r' : List Ent} {fL' : Value} (h : RBR D N0 w rb vq vnb vL fq fL sb so sc room fs) (hF : Fr (rp fq fL) w w') (ht : RT w' fq room fL' r') (hn : NewOr w fL fL') : RBR D N0 w' rb vq vnb vL fq fL' sb so sc room { fs with r := r' } := by
  have hrb := h.lt (.inl rfl)
  have hsb := h.lt (b := sb) (.inr (.inl rfl))
  have hnew : ∀ b, rp fq fL' b → rp fq fL b ∨ w.heap.size ≤ b := fun b hb => by
    rcases hb with rfl | hb
    · exact .inl (.inl rfl)
    · rcases hn b hb with h1 | h1
      · exact .inl (.inr h1)
      · exact .inr h1
  refine ⟨hF.heap h.blk fun e => (h.df _ e).1 rfl, h.v.fr hF (h.dv _ (.inl rfl)).2.2.1 (h.dv _ (.inr (.inl rfl))).2.2.1 (fun b hb => (h.dv _ (.inr (.inr hb))).2.2.1), ht, h.s.fr hF (fun b hb e => by simp only [blkS, Option.some.injEq] at hb; exact (h.df _ e).2.1 hb.symm), h.nl, h.ll, h.sl, h.z0, fun b hb => ?_, fun b hb => ?_, h.ds, fun b hb => Nat.lt_of_lt_of_le (h.dl b hb) hF.size⟩
  · have h1 := h.dv b hb
    have h2 := h.lt (b := b) (.inr (.inr (.inl hb)))
    refine ⟨h1.1, h1.2.1, fun e => ?_, h1.2.2.2⟩
    rcases hnew b e with e | e
    · exact h1.2.2.1 e
    · omega
  · rcases hnew b hb with e | e
    · exact h.df b e
    · have h3 := h.ds
      exact ⟨by omega, by omega, by omega, fun e' => by have := h.dl b e'; omega⟩
/-- its VLANs are -/
theorem RBR.vl {w' : World} {t' : VT} {vL' : Value} (h : RBR D N0 w rb vq vnb vL fq fL sb so sc room fs) (hF : Fr (Vl.rfp vq vnb vL) w w') (ht : Vl.RRep w' vq vnb vL' t') (hn : blkS vL' = blkS vL ∨ New w vL') : RBR D N0 w' rb vq vnb vL' fq fL sb so sc room { fs with t := t' } := by
  have hrb := h.lt (.inl rfl)
  have hsb := h.lt (b := sb) (.inr (.inl rfl))
  have hnew : ∀ b, Vl.rfp vq vnb vL' b → Vl.rfp vq vnb vL b ∨ w.heap.size ≤ b := fun b hb => by
    rcases hb with rfl | rfl | hb
    · exact .inl (.inl rfl)
    · exact .inl (.inr (.inl rfl))
    · rcases hn with h1 | h1
      · exact .inl (.inr (.inr (h1 ▸ hb)))
      · exact .inr (h1 b hb)
  refine ⟨hF.heap h.blk fun e => (h.dv _ e).1 rfl, ht, h.f.fr hF (fun e => (h.dv _ e).2.2.1 (.inl rfl)) (fun b hb e => (h.dv _ e).2.2.1 (.inr hb)), h.s.fr hF (fun b hb e => by simp only [blkS, Option.some.injEq] at hb; exact (h.dv _ e).2.1 hb.symm), h.nl, h.ll, h.sl, h.z0, fun b hb => ?_, h.df, h.ds, fun b hb => Nat.lt_of_lt_of_le (h.dl b hb) hF.size⟩
  rcases hnew b hb with e | e
  · exact h.dv b e
  · have h3 := h.ds
    refine ⟨by omega, by omega, fun e' => ?_, by omega, fun e' => by have := h.dl b e'; omega⟩
    have := h.lt (b := b) (.inr (.inr (.inr e')))
    omega
/-- its states are -/
theorem RBR.st {w' : World} {S' : List Int} (h : RBR D N0 w rb vq vnb vL fq fL sb so sc room fs) (hF : Fr (fun b => b = sb) w w') (hl : S'.length = fs.S.length) (h0 : S'.getD 0 0 = 0) (hs : OwnE 3 1 w' (.slice (some ⟨sb, so, none⟩) fs.S.length sc) (S'.map cellI)) : RBR D N0 w' rb vq vnb vL fq fL sb so sc room { fs with S := S' } := by
  refine ⟨?_, h.v.fr hF (h.dv _ (.inl rfl)).2.1 (h.dv _ (.inr (.inl rfl))).2.1 (fun b hb => (h.dv _ (.inr (.inr hb))).2.1), h.f.fr hF (h.df _ (.inl rfl)).2.1 (fun b hb => (h.df _ (.inr hb)).2.1), ?_, h.nl, h.ll, ?_, h0, h.dv, h.df, h.ds, fun b hb => Nat.lt_of_lt_of_le (h.dl b hb) hF.size⟩
  · rw [hl]; exact hF.heap h.blk h.ds.1
  · rw [hl]; exact hs
  · rw [hl]; exact h.sl

theorem rbC_0 (n : Int) (sl : Value) (N Ln : List Int) : (rbC n vq fq sl N Ln)[0]? = some (i64 n) := id rfl
theorem rbC_1 (n : Int) (sl : Value) (N Ln : List Int) : (rbC n vq fq sl N Ln)[1]? = some (pt vq 0) := id rfl
theorem rbC_2 (n : Int) (sl : Value) (N Ln : List Int) : (rbC n vq fq sl N Ln)[2]? = some (pt fq 0) := id rfl
theorem rbC_3 (n : Int) (sl : Value) (N Ln : List Int) : (rbC n vq fq sl N Ln)[3]? = some sl := id rfl
attribute [push_cast] rbC_0 rbC_1 rbC_2 rbC_3
theorem rhas_spec {port : Int} (h : RBR D N0 w rb vq vnb vL fq fL sb so sc room fs) (hk : K (.bool (hasB fs.S port)) w) : CallsR Tryz.prog 107 #[pt rb 0, i64 port] K w := by
  apply c107
  unfold p107
  unfold hasB at hk
  simp only [push_cast, Nat.reduceAdd, Nat.reduceLeDiff, Nat.reduceLT, Int.reduceToNat, Nat.left_eq_add, Nat.add_eq_left, Nat.add_left_cancel_iff, Nat.reduceEqDiff, Nat.add_assoc, Nat.succ_ne_zero]
  refine br_dec (fun h1 => ?_) fun h1 => ?_
  · rw [decide_eq_true (show 1 ≤ port from h1), Bool.true_and] at hk
    simp only [push_cast, Nat.reduceAdd, Nat.reduceLeDiff, Nat.reduceLT, Int.reduceToNat, Nat.left_eq_add, Nat.add_eq_left, Nat.add_left_cancel_iff, Nat.reduceEqDiff, Nat.add_assoc, Nat.succ_ne_zero, h.blk]
    have e : decide (port ≤ (fs.S.length : Int) - 1) = decide (port < (fs.S.length : Int)) := decide_eq_decide.2 (by omega)
    rw [e]
    exact hk
  · rw [decide_eq_false (show ¬ 1 ≤ port from h1), Bool.false_and] at hk
    exact hk

theorem rset_spec {port st : Int} (h : RBR D N0 w rb vq vnb vL fq fL sb so sc room fs) (hk : ∀ w', RBR D N0 w' rb vq vnb vL fq fL sb so sc room { fs with S := (setL' fs.S port st).1 } → Fr (fun b => b = sb) w w' → K (i64 (setL' fs.S port st).2) w') :
    CallsR Tryz.prog 53 #[pt rb 0, i64 port, i64 st] K w := by
  apply c53
  unfold p53
  unfold setL' at hk
  simp only [push_cast, Nat.reduceAdd, Nat.reduceLeDiff, Nat.reduceLT, Int.reduceToNat, Nat.left_eq_add, Nat.add_eq_left, Nat.add_left_cancel_iff, Nat.reduceEqDiff, Nat.add_assoc, Nat.succ_ne_zero]
  refine rhas_spec h ?_
  simp only [push_cast, Nat.reduceAdd, Nat.reduceLeDiff, Nat.reduceLT, Int.reduceToNat, Nat.left_eq_add, Nat.add_eq_left, Nat.add_left_cancel_iff, Nat.reduceEqDiff, Nat.add_assoc, Nat.succ_ne_zero]
  cases hh : hasB fs.S port with
  | false =>
    rw [hh, Bool.false_and] at hk
    simp only [push_cast, Nat.reduceAdd, Nat.reduceLeDiff, Nat.reduceLT, Int.reduceToNat, Nat.left_eq_add, Nat.add_eq_left, Nat.add_left_cancel_iff, Nat.reduceEqDiff, Nat.add_assoc, Nat.succ_ne_zero, Bool.not_false]
    exact hk _ h (Fr.refl _ _)
  | true =>
  rw [hh, Bool.true_and] at hk
  obtain ⟨hp1, hp2⟩ := hasB_iff.1 hh
  simp only [push_cast, Nat.reduceAdd, Nat.reduceLeDiff, Nat.reduceLT, Int.reduceToNat, Nat.left_eq_add, Nat.add_eq_left, Nat.add_left_cancel_iff, Nat.reduceEqDiff, Nat.add_assoc, Nat.succ_ne_zero, Bool.not_true]
  refine br_dec (fun h1 => ?_) fun h1 => ?_
  · rw [decide_eq_false (by omega), Bool.false_and] at hk
    exact hk _ h (Fr.refl _ _)
  refine br_dec (fun h2 => ?_) fun h2 => ?_
  · rw [decide_eq_true (by omega), decide_eq_false (by omega), Bool.true_and] at hk
    exact hk _ h (Fr.refl _ _)
  rw [decide_eq_true (show 0 ≤ st by omega), decide_eq_true (show st ≤ 2 by omega), Bool.true_and, if_pos rfl] at hk
  simp only [push_cast, Nat.reduceAdd, Nat.reduceLeDiff, Nat.reduceLT, Int.reduceToNat, Nat.left_eq_add, Nat.add_eq_left, Nat.add_left_cancel_iff, Nat.reduceEqDiff, Nat.add_assoc, Nat.succ_ne_zero, h.blk]
  have hml : (fs.S.map cellI).length = fs.S.length := List.length_map _
  have ho := h.s
  rw [← hml] at ho ⊢
  refine s_iaE ho.rd (by omega) (by rw [hml]; omega) fun b' o' c' hv _ => ?_
  simp only [Value.slice.injEq, Option.some.injEq, Addr.mk.injEq] at hv
  obtain ⟨⟨rfl, rfl, _⟩, _, rfl⟩ := hv
  obtain ⟨hok, hput⟩ := ho.put (e := [i64 st]) rfl (show port.toNat < _ by rw [hml]; omega)
  simp only [push_cast, Nat.reduceAdd, Nat.reduceLeDiff, Nat.reduceLT, Int.reduceToNat, Nat.left_eq_add, Nat.add_eq_left, Nat.add_left_cancel_iff, Nat.reduceEqDiff, Nat.add_assoc, Nat.succ_ne_zero, hok]
  have hz := h.z0
  refine hk _ (h.st (Fr.step_wr (fp := fun b => b = sb) (Fr.refl _ _) (.inl rfl) _ _) (List.length_set ..) ?_ ?_) (Fr.step_wr (fp := fun b => b = sb) (Fr.refl _ _) (.inl rfl) _ _)
  · rw [List.getD_eq_getElem?_getD, List.getElem?_set_ne (by omega), ← List.getD_eq_getElem?_getD]
    exact hz
  · rw [List.map_set, ← hml]
    exact hput

end
end Go.Gx.S
end

section
/- The document's bridge: what it relays. -/
set_option linter.unusedVariables false
set_option linter.unusedSimpArgs false
set_option maxRecDepth 100000
namespace Go.Gx.S
open Go Go.Gx Go.Proofs
variable {K : Value → World → Prop} {w : World}

section
variable {D : Nat → Prop} {N0 rb vq vnb : Nat} {vL : Value} {fq : Nat} {fL : Value} {sb so sc room : Nat} {fs : FS}

section
variable {w0 : World} {f : Frm} {bs : List Int} {b4 : Nat} {v : Int}
end

end
end Go.Gx.S
end

section
/- The document's bridge: what comes of a frame. -/
set_option linter.unusedVariables false
set_option linter.unusedSimpArgs false
set_option maxRecDepth 100000
namespace Go.Gx.S
open Go Go.Gx Go.Proofs
variable {K : Value → World → Prop} {w : World}

/-- what a list of stations is, in any table -/
def RP (r : List Ent) : Prop := Srt r ∧ r.length ≤ 1024 ∧ ∀ e ∈ r, grp e.mac = false
theorem RP.of {p pb o c room : Nat} {ps r : List Ent} (h : FT w p pb o c room ps r) : RP r := by
  refine ⟨h.ct.srt, by have := h.cap; have := h.hi; omega, fun e he => ?_⟩
  have := (h.rng e he).1
  unfold rightB at this
  simp only [Bool.and_eq_true, Bool.not_eq_true'] at this
  exact this.2.2.2.2

section
variable {D : Nat → Prop} {N0 rb vq vnb : Nat} {vL : Value} {fq : Nat} {fL : Value} {sb so sc room : Nat} {fs : FS}

section
variable {w0 : World} {f : Frm} {v : Int}
end

end
end Go.Gx.S
end

section
/- Bridges are made; the document's takes a frame; two answers are compared. -/
set_option linter.unusedVariables false
set_option linter.unusedSimpArgs false
set_option maxRecDepth 100000
namespace Go.Gx.S
open Go Go.Gx Go.Proofs
variable {K : Value → World → Prop} {w : World}

theorem way_slotG {c v t : Int} {a : Option Addr} {n k : Nat} {R : Value → Value → World → Prop} (h : ∀ u w', w'.heap[w.heap.size]? = some (cellsO (wayC c v t (.slice a n k)) 141) → Fr none_ w w' → R (pt w.heap.size 0) u w') :
    opS Tryz.prog (S.alloc 141) (fun x => opS Tryz.prog (S.st 141 x (.agg (wayC c v t (.slice a n k)).toArray)) (R x)) w := by
  rw [zalloc_way, s_stA _ _ (wayC c v t (.slice a n k)) rfl rfl, heap_alloc_new, okAt_cells]
  rw [show decide (0 + (wayC c v t (.slice a n k)).length ≤ (wayC 0 0 0 (.slice none 0 0)).length) = true from rfl, onB_true]
  refine h _ _ ?_ (Fr.step_wr (Fr.step_alloc (Fr.refl _ _) rfl) (.inr (Nat.le_refl _)) _ _)
  rw [heap_wr, if_pos rfl, heap_alloc_new, putAt_cells]
  rfl

section
variable {D : Nat → Prop} {N0 rb vq vnb : Nat} {vL : Value} {fq : Nat} {fL : Value} {sb so sc room : Nat} {fs : FS}

end

theorem out_frmR {t : VT} {v n : Int} {f : Frm} {bs : List Int} (hf : FrmR w f bs) (hv : isI v) : ∃ cs, FrmR w (t.out v n f bs.length).1 cs := by
  obtain ⟨⟨h1, h2, h3, h4, h5⟩, hb⟩ := hf
  unfold VT.out
  split
  · split
    · exact ⟨[], zFrmR w⟩
    · exact ⟨bs, ⟨h1, h2, hv, h4, h5⟩, hb⟩
    · exact ⟨bs, ⟨h1, h2, isI_iff.2 (show -9223372036854775808 ≤ (0 : Int) ∧ (0 : Int) ≤ 9223372036854775807 by decide), isI_iff.2 (show -9223372036854775808 ≤ (0 : Int) ∧ (0 : Int) ≤ 9223372036854775807 by decide), h5⟩, hb⟩
  · exact ⟨[], zFrmR w⟩
theorem outAt_frmR {t : VT} {S : List Int} {v frm : Int} {f : Frm} {bs : List Int} {i : Nat} {o : Int × Frm} (hf : FrmR w f bs) (hv : isI v) (h : outAt t S v frm f bs.length i = some o) : o.1 = i ∧ (i : Int) ≠ frm ∧ S.getD i 0 = 2 ∧ (t.out v i f bs.length).2 = 0 ∧ o.2 = (t.out v i f bs.length).1 := by
  unfold outAt at h
  split at h
  · cases h
  · rename_i h1
    split at h
    · cases h
    · rename_i h2
      split at h
      · rename_i h3
        cases h
        exact ⟨rfl, h1, by simpa using h2, h3, rfl⟩
      · cases h
theorem sendN_mem {t : VT} {S : List Int} {v frm : Int} {f : Frm} {n : Nat} {o : Int × Frm} : ∀ {k}, o ∈ sendN t S v frm f n k → ∃ i, i < k ∧ outAt t S v frm f n i = some o
  | 0, h => by cases h
  | k + 1, h => by
    unfold sendN at h
    rcases List.mem_append.1 h with h | h
    · obtain ⟨i, h1, h2⟩ := sendN_mem h
      exact ⟨i, by omega, h2⟩
    · rw [Option.mem_toList] at h
      exact ⟨k, by omega, h⟩
theorem relayL_frmR {t : VT} {S : List Int} {v frm target : Int} {f : Frm} {bs : List Int} (hf : FrmR w f bs) (hv : isI v) : ∀ o ∈ relayL t S v frm target f bs.length, ∃ cs, FrmR w o.2 cs := fun o ho => by
  obtain ⟨i, _, h⟩ := sendN_mem (List.mem_filter.1 ho).1
  obtain ⟨_, _, _, _, h⟩ := outAt_frmR hf hv h
  rw [h]
  exact out_frmR hf hv

def newFS (ports : Int) : FS := ⟨VT.new (ports + 1).toNat, [], List.replicate (ports + 1).toNat 0, List.replicate 9 0, List.replicate 3 0⟩
theorem zeros_int (n : Nat) : zeros n [i64 0] = ((List.replicate n (0 : Int)).map cellI).flatten := by
  unfold zeros
  rw [List.map_replicate]
  rfl
theorem own_newI {b n : Nat} (h : w.heap[b]? = some (cellsO (zeros n [i64 0]) 3)) : OwnE 3 1 w (.slice (some ⟨b, 0, none⟩) (List.replicate n (0 : Int)).length n) ((List.replicate n (0 : Int)).map cellI) := by
  have hfl : ((List.replicate n (0 : Int)).map cellI).flatten.length = n := by
    rw [List.map_replicate, List.length_flatten, List.map_replicate]
    simp [cellI]
  refine ⟨.inr ⟨b, 0, n, _, ?_, h, ?_, ?_, ?_⟩, fun e he => ?_⟩
  · rw [List.length_map]
  · rw [List.length_map, List.length_replicate]; exact Nat.le_refl _
  · rw [zeros_int, List.size_toArray, hfl]; omega
  · rw [zeros_int, List.length_map, List.length_replicate, List.drop_zero, List.take_of_length_le (by rw [List.toList_toArray, hfl]; omega)]
  · obtain ⟨x, _, rfl⟩ := List.mem_map.1 he
    rfl

theorem fnew_spec {N0 : Nat} (ports room : Int) (hN : N0 ≤ w.heap.size) (h0 : ∀ w', Fr none_ w w' → ¬ (1 ≤ ports ∧ ports ≤ 63 ∧ 1 ≤ room ∧ room ≤ 1024) → K (.tuple #[.pointer none, i64 1]) w')
    (h1 : 1 ≤ ports → ports ≤ 63 → 1 ≤ room → room ≤ 1024 → ∀ w' bp vp vm vnb p pb o c sb ps, BR N0 w' bp vp vm vnb p pb o c sb 0 (ports + 1).toNat room.toNat ps (newFS ports) → Fr none_ w w' → K (.tuple #[pt bp 0, i64 0]) w') :
    CallsR Tryz.prog 37 #[i64 ports, i64 room] K w := by
  apply c37
  unfold p37
  simp only [push_cast, Nat.reduceAdd, Nat.reduceLeDiff, Nat.reduceLT, Int.reduceToNat, Nat.left_eq_add, Nat.add_eq_left, Nat.add_left_cancel_iff, Nat.reduceEqDiff, Nat.add_assoc, Nat.succ_ne_zero]
  refine br_dec (fun ha => h0 _ (Fr.refl _ _) (by omega)) fun ha => ?_
  refine br_dec (fun hb => h0 _ (Fr.refl _ _) (by omega)) fun hb => ?_
  have hw : IntKind.i64.wrap (ports + 1) = ports + 1 := wrap_i64 (by omega)
  rw [hw]
  refine Vl.vnew_spec _ (fun e => absurd ⟨by omega, by omega⟩ e) fun _ _ w1 vp vm vnb hv hF1 v1 v2 v3 => ?_
  simp only [push_cast, Nat.reduceAdd, Nat.reduceLeDiff, Nat.reduceLT, Int.reduceToNat, Nat.left_eq_add, Nat.add_eq_left, Nat.add_left_cancel_iff, Nat.reduceEqDiff, Nat.add_assoc, Nat.succ_ne_zero]
  refine pnew_spec _ (fun e => ?_) fun r1 r2 p pb o c ps w2 hf hF2 p1 p2 => ?_
  · simp only [push_cast, Nat.reduceAdd, Nat.reduceLeDiff, Nat.reduceLT, Int.reduceToNat, Nat.left_eq_add, Nat.add_eq_left, Nat.add_left_cancel_iff, Nat.reduceEqDiff, Nat.add_assoc, Nat.succ_ne_zero]
    have e1 : ((1 : Int) != 0) = true := by decide
    exact h0 _ hF1 (by omega)
  have hv2 := hv.fr0 hF2
  simp only [push_cast, Nat.reduceAdd, Nat.reduceLeDiff, Nat.reduceLT, Int.reduceToNat, Nat.left_eq_add, Nat.add_eq_left, Nat.add_left_cancel_iff, Nat.reduceEqDiff, Nat.add_assoc, Nat.succ_ne_zero, bne_self_eq_false, hw]
  have hF12 := hF1.trans hF2
  have hvl := hv2.lt
  have hfl := hf.fb.lt
  have hvl1 := hv.lt
  have hs1 := hF1.size
  have hs2 := hF2.size
  rw [opS_mks _ _ _ (by omega) (by omega) (by omega) (by rfl) (by decide)]
  simp only [push_cast, Nat.reduceAdd, Nat.reduceLeDiff, Nat.reduceLT, Int.reduceToNat, Nat.left_eq_add, Nat.add_eq_left, Nat.add_left_cancel_iff, Nat.reduceEqDiff, Nat.add_assoc, Nat.succ_ne_zero]
  rw [opS_build _ rfl]
  simp only [push_cast, Nat.reduceAdd, Nat.reduceLeDiff, Nat.reduceLT, Int.reduceToNat, Nat.left_eq_add, Nat.add_eq_left, Nat.add_left_cancel_iff, Nat.reduceEqDiff, Nat.add_assoc, Nat.succ_ne_zero]
  have hF3 : Fr none_ w2 ((w2.alloc (cellsO (zeros (ports + 1).toNat [Value.int .i64 0]) 3)).alloc (cellsO (brC vp p (.slice (some ⟨w2.heap.size, 0, none⟩) (ports + 1).toNat (ports + 1).toNat) (List.replicate 9 0) (List.replicate 3 0)) 116)) := (by repeat' first | with_reducible exact Fr.refl _ _ | with_reducible refine Fr.step_alloc ?_ ?_ | with_reducible refine Fr.step_drew ?_ | with_reducible refine Fr.step_wr ?_ ?_ _ _ | exact rfl | exact Or.inr (by omega) | exact Or.inl rfl | exact Or.inl (Or.inl rfl) | exact Or.inl (Or.inr rfl))
  have hlen : (newFS ports).S.length = (ports + 1).toNat := List.length_replicate ..
  have k1 : ((w2.alloc (cellsO (zeros (ports + 1).toNat [Value.int .i64 0]) 3)).alloc (cellsO (brC vp p (.slice (some ⟨w2.heap.size, 0, none⟩) (ports + 1).toNat (ports + 1).toNat) (List.replicate 9 0) (List.replicate 3 0)) 116)).heap[w2.heap.size]? = some (cellsO (zeros (ports + 1).toNat [Value.int .i64 0]) 3) := by simp only [push_cast, Nat.reduceAdd, Nat.reduceLeDiff, Nat.reduceLT, Int.reduceToNat, Nat.left_eq_add, Nat.add_eq_left, Nat.add_left_cancel_iff, Nat.reduceEqDiff, Nat.add_assoc, Nat.succ_ne_zero]
  have k2 : ((w2.alloc (cellsO (zeros (ports + 1).toNat [Value.int .i64 0]) 3)).alloc (cellsO (brC vp p (.slice (some ⟨w2.heap.size, 0, none⟩) (ports + 1).toNat (ports + 1).toNat) (List.replicate 9 0) (List.replicate 3 0)) 116)).heap[w2.heap.size + 1]? = some (cellsO (brC vp p (.slice (some ⟨w2.heap.size, 0, none⟩) (ports + 1).toNat (ports + 1).toNat) (List.replicate 9 0) (List.replicate 3 0)) 116) := by simp only [push_cast, Nat.reduceAdd, Nat.reduceLeDiff, Nat.reduceLT, Int.reduceToNat, Nat.left_eq_add, Nat.add_eq_left, Nat.add_left_cancel_iff, Nat.reduceEqDiff, Nat.add_assoc, Nat.succ_ne_zero]
  refine h1 (by omega) (by omega) r1 r2 _ (w2.heap.size + 1) vp vm vnb p pb o c w2.heap.size ps ⟨?_, hv2.fr0 hF3, hf.fr0 hF3, ?_, rfl, rfl, ?_, ?_, ?_, ?_, ?_⟩ (hF12.trans hF3)
  · rw [hlen]; exact k2
  · exact own_newI k1
  · rw [hlen]; omega
  all_goals omega

theorem rfnew_spec {D : Nat → Prop} {N0 : Nat} (ports room : Int) (hN : N0 ≤ w.heap.size) (hD : ∀ b, D b → b < w.heap.size) (h0 : ∀ w', Fr none_ w w' → ¬ (1 ≤ ports ∧ ports ≤ 63 ∧ 1 ≤ room ∧ room ≤ 1024) → K (.tuple #[.pointer none, i64 1]) w')
    (h1 : 1 ≤ ports → ports ≤ 63 → 1 ≤ room → room ≤ 1024 → ∀ w' rb vq vnb vL fq fL sb, RBR D N0 w' rb vq vnb vL fq fL sb 0 (ports + 1).toNat room.toNat (newFS ports) → Fr none_ w w' → K (.tuple #[pt rb 0, i64 0]) w') :
    CallsR Tryz.prog 40 #[i64 ports, i64 room] K w := by
  apply c40
  unfold p40
  simp only [push_cast, Nat.reduceAdd, Nat.reduceLeDiff, Nat.reduceLT, Int.reduceToNat, Nat.left_eq_add, Nat.add_eq_left, Nat.add_left_cancel_iff, Nat.reduceEqDiff, Nat.add_assoc, Nat.succ_ne_zero]
  have e1 : ((1 : Int) != 0) = true := by decide
  refine rnew_spec _ (fun e => ?_) fun r1 r2 fq fL w1 hf hF1 f1 f2 => ?_
  · simp only [push_cast, Nat.reduceAdd, Nat.reduceLeDiff, Nat.reduceLT, Int.reduceToNat, Nat.left_eq_add, Nat.add_eq_left, Nat.add_left_cancel_iff, Nat.reduceEqDiff, Nat.add_assoc, Nat.succ_ne_zero]
    refine br_dec (fun ha => h0 _ (Fr.refl _ _) (by omega)) fun ha => ?_
    refine br_dec (fun hb => h0 _ (Fr.refl _ _) (by omega)) fun hb => ?_
    exact h0 _ (Fr.refl _ _) (by omega)
  simp only [push_cast, Nat.reduceAdd, Nat.reduceLeDiff, Nat.reduceLT, Int.reduceToNat, Nat.left_eq_add, Nat.add_eq_left, Nat.add_left_cancel_iff, Nat.reduceEqDiff, Nat.add_assoc, Nat.succ_ne_zero]
  refine br_dec (fun ha => h0 _ hF1 (by omega)) fun ha => ?_
  refine br_dec (fun hb => h0 _ hF1 (by omega)) fun hb => ?_
  have hw : IntKind.i64.wrap (ports + 1) = ports + 1 := wrap_i64 (by omega)
  simp only [push_cast, Nat.reduceAdd, Nat.reduceLeDiff, Nat.reduceLT, Int.reduceToNat, Nat.left_eq_add, Nat.add_eq_left, Nat.add_left_cancel_iff, Nat.reduceEqDiff, Nat.add_assoc, Nat.succ_ne_zero, bne_self_eq_false, hw]
  refine Vl.rnew_spec _ (fun e => absurd ⟨by omega, by omega⟩ e) fun _ _ w2 vq vnb vL hv hF2 v1 v2 v3 => ?_
  have hf2 := hf.fr0 hF2
  simp only [push_cast, Nat.reduceAdd, Nat.reduceLeDiff, Nat.reduceLT, Int.reduceToNat, Nat.left_eq_add, Nat.add_eq_left, Nat.add_left_cancel_iff, Nat.reduceEqDiff, Nat.add_assoc, Nat.succ_ne_zero, hw]
  have hF12 := hF1.trans hF2
  have hvl := hv.lt
  have hfl := lt_of_heap hf2.blk
  have hfl1 := lt_of_heap hf.blk
  have hs1 := hF1.size
  have hs2 := hF2.size
  rw [opS_mks _ _ _ (by omega) (by omega) (by omega) (by rfl) (by decide)]
  simp only [push_cast, Nat.reduceAdd, Nat.reduceLeDiff, Nat.reduceLT, Int.reduceToNat, Nat.left_eq_add, Nat.add_eq_left, Nat.add_left_cancel_iff, Nat.reduceEqDiff, Nat.add_assoc, Nat.succ_ne_zero]
  rw [opS_build _ rfl]
  simp only [push_cast, Nat.reduceAdd, Nat.reduceLeDiff, Nat.reduceLT, Int.reduceToNat, Nat.left_eq_add, Nat.add_eq_left, Nat.add_left_cancel_iff, Nat.reduceEqDiff, Nat.add_assoc, Nat.succ_ne_zero]
  have hF3 : Fr none_ w2 ((w2.alloc (cellsO (zeros (ports + 1).toNat [Value.int .i64 0]) 3)).alloc (cellsO (rbC ports vq fq (.slice (some ⟨w2.heap.size, 0, none⟩) (ports + 1).toNat (ports + 1).toNat) (List.replicate 9 0) (List.replicate 3 0)) 123)) := (by repeat' first | with_reducible exact Fr.refl _ _ | with_reducible refine Fr.step_alloc ?_ ?_ | with_reducible refine Fr.step_drew ?_ | with_reducible refine Fr.step_wr ?_ ?_ _ _ | exact rfl | exact Or.inr (by omega) | exact Or.inl rfl | exact Or.inl (Or.inl rfl) | exact Or.inl (Or.inr rfl))
  have hlen : (newFS ports).S.length = (ports + 1).toNat := List.length_replicate ..
  have k1 : ((w2.alloc (cellsO (zeros (ports + 1).toNat [Value.int .i64 0]) 3)).alloc (cellsO (rbC ports vq fq (.slice (some ⟨w2.heap.size, 0, none⟩) (ports + 1).toNat (ports + 1).toNat) (List.replicate 9 0) (List.replicate 3 0)) 123)).heap[w2.heap.size]? = some (cellsO (zeros (ports + 1).toNat [Value.int .i64 0]) 3) := by simp only [push_cast, Nat.reduceAdd, Nat.reduceLeDiff, Nat.reduceLT, Int.reduceToNat, Nat.left_eq_add, Nat.add_eq_left, Nat.add_left_cancel_iff, Nat.reduceEqDiff, Nat.add_assoc, Nat.succ_ne_zero]
  have k2 : ((w2.alloc (cellsO (zeros (ports + 1).toNat [Value.int .i64 0]) 3)).alloc (cellsO (rbC ports vq fq (.slice (some ⟨w2.heap.size, 0, none⟩) (ports + 1).toNat (ports + 1).toNat) (List.replicate 9 0) (List.replicate 3 0)) 123)).heap[w2.heap.size + 1]? = some (cellsO (rbC ports vq fq (.slice (some ⟨w2.heap.size, 0, none⟩) (ports + 1).toNat (ports + 1).toNat) (List.replicate 9 0) (List.replicate 3 0)) 123) := by simp only [push_cast, Nat.reduceAdd, Nat.reduceLeDiff, Nat.reduceLT, Int.reduceToNat, Nat.left_eq_add, Nat.add_eq_left, Nat.add_left_cancel_iff, Nat.reduceEqDiff, Nat.add_assoc, Nat.succ_ne_zero]
  have hfLlt : ∀ b, blkS fL = some b → b < w1.heap.size := fun b hb => hf.own.lt hb
  have hvLlt : ∀ b, blkS vL = some b → b < w2.heap.size := fun b hb => hv.lst.lt hb
  have hrp : ∀ b, rp fq fL b → w.heap.size ≤ b ∧ b < w1.heap.size := fun b hb => by
    rcases hb with rfl | hb
    · exact ⟨f1, hfl1⟩
    · exact ⟨f2 b hb, hfLlt b hb⟩
  have hrv : ∀ b, Vl.rfp vq vnb vL b → w1.heap.size ≤ b ∧ b < w2.heap.size := fun b hb => by
    rcases hb with rfl | rfl | hb
    · exact ⟨v1, hvl.1⟩
    · exact ⟨v2, hvl.2⟩
    · exact ⟨v3 b hb, hvLlt b hb⟩
  have hDn : ∀ b, w.heap.size ≤ b → ¬ D b := fun b hb e => by have := hD b e; omega
  refine h1 (by omega) (by omega) r1 r2 _ (w2.heap.size + 1) vq vnb vL fq fL w2.heap.size ⟨?_, hv.fr0 hF3, hf2.fr0 hF3, ?_, rfl, rfl, ?_, ?_, fun b hb => ?_, fun b hb => ?_, ?_, ?_⟩ (hF12.trans hF3)
  · have e2 : ((newFS ports).S.length : Int) - 1 = ports := by rw [hlen]; omega
    rw [e2, hlen]; exact k2
  · exact own_newI k1
  · rw [hlen]; omega
  · show (List.replicate (ports + 1).toNat (0 : Int)).getD 0 0 = 0
    rw [List.getD_eq_getElem?_getD, List.getElem?_replicate]
    split <;> rfl
  · have := hrv b hb
    exact ⟨by omega, by omega, fun e => by have := hrp b e; omega, by omega, hDn b (by omega)⟩
  · have := hrp b hb
    exact ⟨by omega, by omega, by omega, hDn b (by omega)⟩
  · exact ⟨by omega, by omega, by omega, hDn _ (by omega), hDn _ (by omega)⟩
  · exact fun b hb => Nat.lt_of_lt_of_le (hD b hb) (Nat.le_trans hF12.size hF3.size)

end Go.Gx.S
end

section
/- Steps at both bridges. -/
set_option linter.unusedVariables false
set_option linter.unusedSimpArgs false
set_option maxRecDepth 100000
namespace Go.Gx.S
open Go Go.Gx Go.Proofs
variable {K : Value → World → Prop} {w : World}

/-! ### Rows of numbers are compared -/

theorem mapM_some {α β : Type} {f : α → Option β} : ∀ (L : List α), (∀ i ∈ L, ∃ y, f i = some y) → ∃ ys, L.mapM f = some ys
  | [], _ => ⟨[], rfl⟩
  | a :: L, h => by
    obtain ⟨y, hy⟩ := h a (List.mem_cons_self ..)
    obtain ⟨ys, hys⟩ := mapM_some L fun i hi => h i (List.mem_cons_of_mem _ hi)
    refine ⟨y :: ys, ?_⟩
    rw [List.mapM_cons, hy, hys]
    rfl
theorem ints_enc {P : Program} {T E n d : Nat} (hu : P.underlying T = some (.array n E)) (he : P.underlying E = some (.int .i64)) (h1 : P.cellsOf E = 1) (hT : P.cellsOf T = n) {l : List Int} (hl : l.length = n) (hok : ∀ x ∈ l, isI x) : ∃ ls, P.keyLits (d + 2) T (l.map i64) = some ls := by
  obtain ⟨ys, hys⟩ := mapM_some (f := fun i => P.keyLits (d + 1) E (((l.map i64).drop (i * P.cellsOf E)).take (P.cellsOf E))) (List.range n) fun i hi => by
    have hi : i < l.length := by rw [hl]; exact List.mem_range.1 hi
    rw [h1, Nat.mul_one]
    have : ((l.map i64).drop i).take 1 = [.int .i64 l[i]] := by
      rw [List.drop_eq_getElem_cons (by rw [List.length_map]; exact hi), List.take_succ_cons, List.take_zero, List.getElem_map]
    rw [this]
    exact ⟨_, kl_int_mk he (hok _ (List.getElem_mem hi))⟩
  exact ⟨_, kl_array_mk hu (by rw [List.length_map, hl, hT]) hys⟩
theorem ctI : Tryz.prog.cellsOf 3 = 1 := by kernel_rfl
/-! ### Steps -/

structure WStp where
  d : Int
  port : Int
  n : Int
  v : Int
  tg : Bool
  f : Frm
  now : Int
def WStp.cells (s : WStp) : List Value := i64 s.d :: i64 s.port :: i64 s.n :: i64 s.v :: .bool s.tg :: (s.f.cells ++ [i64 s.now])
theorem WStp.len (s : WStp) : s.cells.length = 23 := id rfl
theorem WStp.g0 (s : WStp) : s.cells[0]? = some (i64 s.d) := id rfl
theorem WStp.g1 (s : WStp) : s.cells[1]? = some (i64 s.port) := id rfl
theorem WStp.g2 (s : WStp) : s.cells[2]? = some (i64 s.n) := id rfl
theorem WStp.g3 (s : WStp) : s.cells[3]? = some (i64 s.v) := id rfl
theorem WStp.g4 (s : WStp) : s.cells[4]? = some (.bool s.tg) := id rfl
theorem WStp.d5 (s : WStp) : (s.cells.drop 5).take 17 = s.f.cells := id rfl
theorem WStp.d11 (s : WStp) : (s.cells.drop 11).take 6 = s.f.src.cells := id rfl
theorem WStp.d5d (s : WStp) : (s.cells.drop 5).take 6 = s.f.dst.cells := id rfl
theorem WStp.g21 (s : WStp) : s.cells[21]? = some s.f.body := id rfl
theorem WStp.g22 (s : WStp) : s.cells[22]? = some (i64 s.now) := id rfl
attribute [push_cast] WStp.len WStp.g0 WStp.g1 WStp.g2 WStp.g3 WStp.g4 WStp.d5 WStp.d11 WStp.d5d WStp.g21 WStp.g22
/-- a step that can be read; the body's bytes -/
structure StpR (N0 : Nat) (w : World) (s : WStp) (bs : List Int) : Prop where
  d : isI s.d
  port : isI s.port
  n : isI s.n
  v : isI s.v
  now : isI s.now
  f : FrmR w s.f bs
  lo : ∃ w0 : World, FrmR w0 s.f bs ∧ w0.heap.size ≤ N0
theorem StpR.fr {N0 : Nat} {w' : World} {s : WStp} {bs : List Int} (h : StpR N0 w s bs) (hF : Fr (fun b => N0 ≤ b) w w') : StpR N0 w' s bs :=
  by
  obtain ⟨w0, hw0, hn⟩ := h.lo
  exact ⟨h.d, h.port, h.n, h.v, h.now, frm_keep hw0 h.f hF fun b hb e => by omega, h.lo⟩
theorem StpR.fr0 {N0 : Nat} {w' : World} {s : WStp} {bs : List Int} (h : StpR N0 w s bs) (hF : Fr none_ w w') : StpR N0 w' s bs := h.fr (hF.mono fun _ _ e => e.elim)

def ageL (r : List Ent) (now lim : Int) : List Ent := if timedB now && timedB lim then r.filter fun e => !(ageA now lim e && !e.static) else r
def stepF (room : Nat) (fs : FS) (s : WStp) (n : Nat) : FS :=
  if s.d = 0 then (takeA room fs s.port s.f n s.now).1
  else if s.d = 1 then { fs with S := (setL' fs.S s.port s.n).1 }
  else if s.d = 2 then { fs with t := (fs.t.add s.v s.port s.tg).1 }
  else if s.d = 3 then { fs with t := (fs.t.native s.port s.v).1 }
  else if s.d = 4 then { fs with t := (fs.t.remove s.v s.port).1 }
  else if s.d = 5 then { fs with r := ageL fs.r s.now s.n }
  else if s.d = 6 then { fs with r := (putL room fs.r s.v s.f.src s.port).1 }
  else fs

/-! ### Both bridges -/

def pB (bp vp vm vnb p pb sb : Nat) : Nat → Prop := fun b => b = bp ∨ b = vp ∨ b = vm ∨ b = vnb ∨ b = p ∨ b = pb ∨ b = sb
def okN (fs : FS) : Prop := (∀ x ∈ fs.N, isI x) ∧ ∀ x ∈ fs.Ln, isI x
theorem wrap_isI (x : Int) : isI (IntKind.i64.wrap x) := by
  refine isI_iff.2 ?_
  unfold IntKind.wrap
  have e1 : (2 : Int) ^ IntKind.i64.bits = 18446744073709551616 := rfl
  have e2 : (2 : Int) ^ (IntKind.i64.bits - 1) = 9223372036854775808 := rfl
  have e3 : IntKind.i64.signed = true := rfl
  simp only [e1, e2, e3, Bool.true_and, decide_eq_true_eq]
  split <;> omega
theorem incr_ok {l : List Int} {k : Nat} (h : ∀ x ∈ l, isI x) : ∀ x ∈ incr l k, isI x := fun x hx => by
  unfold incr at hx
  rcases List.mem_or_eq_of_mem_set hx with e | e
  · exact h x e
  · rw [e]; exact wrap_isI _
theorem learnF_okN {room : Nat} {fs : FS} {v port now : Int} {m : Mac} (h : okN fs) : okN (learnF room fs v m port now) := by
  refine ⟨h.1, ?_⟩
  unfold learnF
  simp only
  split
  · exact incr_ok h.2
  · split
    · exact incr_ok h.2
    · split
      · exact incr_ok h.2
      · exact h.2
theorem takeA_okN {room : Nat} {fs : FS} {port now : Int} {f : Frm} {n : Nat} (h : okN fs) : okN (takeA room fs port f n now).1 := by
  unfold takeA
  split
  · exact ⟨incr_ok h.1, (learnF_okN h).2⟩
  · exact ⟨incr_ok h.1, h.2⟩
theorem stepF_okN {room : Nat} {fs : FS} {s : WStp} {n : Nat} (h : okN fs) : okN (stepF room fs s n) := by
  unfold stepF
  repeat' first | (split) | exact h | exact takeA_okN h

/-- stations, in any table of some room -/
def RPR (room : Nat) (r : List Ent) : Prop := Srt r ∧ r.length ≤ room ∧ ∀ e ∈ r, RngE e
theorem RPR.rp {room : Nat} {r : List Ent} (h : RPR room r) (hr : room ≤ 1024) : RP r := by
  refine ⟨h.1, by have := h.2.1; omega, fun e he => ?_⟩
  have := (h.2.2 e he).1
  unfold rightB at this
  simp only [Bool.and_eq_true, Bool.not_eq_true'] at this
  exact this.2.2.2.2
theorem RPR.with {room : Nat} {r : List Ent} {x : Ent} (h : RPR room r) (hx : x.ok) (hg : RngE x) (hc : (∃ y ∈ r, eKey y = eKey x) ∨ r.length < room) : RPR room (withL r x) := by
  refine ⟨h.1.with hx, ?_, fun e he => ?_⟩
  · rcases hc with ⟨y, hy, hk⟩ | hc
    · rw [with_len_old h.1 hy hk]; exact h.2.1
    · have := with_len r x; omega
  · rcases mem_with.1 he with rfl | he
    · exact hg
    · exact h.2.2 e he.1
theorem RPR.filter {room : Nat} {r : List Ent} (h : RPR room r) (A : Ent → Bool) : RPR room (r.filter A) :=
  ⟨⟨h.1.1.filter _, fun e he => h.1.2 e (List.mem_filter.1 he).1⟩, Nat.le_trans (List.length_filter_le _ _) h.2.1, fun e he => h.2.2 e (List.mem_filter.1 he).1⟩
def BX (N0 : Nat) (w : World) (bp rb room : Nat) (fs gs : FS) : Prop :=
  okN fs ∧ RPR room gs.r ∧ ∃ vp vm vnb p pb o c sb so sc ps vq vnq vL fq fL sq soq scq, BR N0 w bp vp vm vnb p pb o c sb so sc room ps fs ∧ RBR (pB bp vp vm vnb p pb sb) N0 w rb vq vnq vL fq fL sq soq scq room gs
theorem BX.fr0 {N0 : Nat} {w' : World} {bp rb room : Nat} {fs gs : FS} (h : BX N0 w bp rb room fs gs) (hF : Fr none_ w w') : BX N0 w' bp rb room fs gs := by
  obtain ⟨h0, h00, vp, vm, vnb, p, pb, o, c, sb, so, sc, ps, vq, vnq, vL, fq, fL, sq, soq, scq, h1, h2⟩ := h
  exact ⟨h0, h00, vp, vm, vnb, p, pb, o, c, sb, so, sc, ps, vq, vnq, vL, fq, fL, sq, soq, scq, h1.fr0 hF, h2.fr0 hF⟩

theorem takeA_outs {room : Nat} {fs : FS} {port now : Int} {f : Frm} {n : Nat} : (takeA room fs port f n now).2.2.2.2 = [] ∨ ∃ (fs' : FS) (v tt : Int), (takeA room fs port f n now).2.2.2.2 = relayL fs'.t fs'.S v port tt f n ∧ fs'.S = fs.S ∧ v = (fs.t.inn port f n).1 := by
  unfold takeA
  split
  · rename_i h0
    have hv := (refusedL_port h0).2.2.2.1
    show (sentL _ _ _ _ _).2.2 = [] ∨ ∃ (fs' : FS) (v tt : Int), (sentL _ _ _ _ _).2.2 = _ ∧ _
    unfold sentL
    split
    · exact .inl rfl
    · have he : ∀ t l, (endL t l).2.2 = l := fun t l => by unfold endL; split <;> simp_all
      split
      · split
        · exact .inl rfl
        · rw [he]
          split
          · exact .inr ⟨_, _, _, rfl, rfl, hv⟩
          · exact .inl rfl
      · rw [he]
        exact .inr ⟨_, _, _, rfl, rfl, hv⟩
  · exact .inl rfl
theorem takeA_frmR {room : Nat} {fs : FS} {port now : Int} {f : Frm} {bs : List Int} (ht : fs.t.ok) (hf : FrmR w f bs) : ∀ o ∈ (takeA room fs port f bs.length now).2.2.2.2, ∃ cs, FrmR w o.2 cs := fun o ho => by
  rcases takeA_outs (room := room) (fs := fs) (port := port) (now := now) (f := f) (n := bs.length) with h | ⟨fs', v, tt, h, _, hv⟩
  · rw [h] at ho; cases ho
  · rw [h] at ho
    exact relayL_frmR hf (hv ▸ inn_isI ht hf.1) o ho
theorem relayL_len {t : VT} {S : List Int} {v frm target : Int} {f : Frm} {n : Nat} : (relayL t S v frm target f n).length ≤ S.length := Nat.le_trans (List.length_filter_le _ _) (sendN_len _)
theorem takeA_len {room : Nat} {fs : FS} {port now : Int} {f : Frm} {n : Nat} : (takeA room fs port f n now).2.2.2.2.length ≤ fs.S.length := by
  rcases takeA_outs (room := room) (fs := fs) (port := port) (now := now) (f := f) (n := n) with h | ⟨fs', v, tt, h, hs, _⟩
  · rw [h]; exact Nat.zero_le _
  · rw [h, ← hs]; exact relayL_len

section
variable {xb : Nat} {s : WStp}
end

end Go.Gx.S
end

section
/- Two bridges are compared; a bridge is made. -/
set_option linter.unusedVariables false
set_option linter.unusedSimpArgs false
set_option maxRecDepth 100000
namespace Go.Gx.S
open Go Go.Gx Go.Proofs
variable {K : Value → World → Prop} {w : World}

section
variable {w0 : World} {N0 bp rb room vp vm vnb p pb o c sb so sc : Nat} {ps : List Ent} {vq vnq : Nat} {vL : Value} {fq : Nat} {fL : Value} {sq soq scq : Nat} {fs : FS} {D : Nat → Prop}
end

/-! ### The first bridges -/

/-! ### Is the program awake? -/

def mac1 (a : Int) : Mac := ⟨a, 0, 0, 0, 0, 0⟩
def awF (a b : Int) : Frm := ⟨mac1 a, mac1 b, false, 0, 0, 2048, .slice none 0 0⟩
theorem build_mac1 (a : Int) : opS Tryz.prog (S.build 53 [(0, .int .u8 a)]) K w = K (.agg (mac1 a).cells.toArray) w := by
  rw [opS_build _ rfl]; rfl
theorem build_awF (a b : Int) : opS Tryz.prog (S.build 61 [(0, .agg (mac1 a).cells.toArray), (1, .agg (mac1 b).cells.toArray), (5, i64 2048)]) K w = K (.agg (awF a b).cells.toArray) w := by
  rw [opS_build _ rfl]; rfl
theorem awF_ok {a b : Int} (ha : isB a) (hb : isB b) : FrmR w (awF a b) [] := by
  have hz : isB 0 := by unfold isB; decide
  have hI : ∀ x : Int, x = 0 ∨ x = 2048 → isI x := fun x h => isI_iff.2 (by omega)
  exact ⟨⟨⟨ha, hz, hz, hz, hz, hz⟩, ⟨hb, hz, hz, hz, hz, hz⟩, hI _ (.inl rfl), hI _ (.inl rfl), hI _ (.inr rfl)⟩, ByR.nil _ _ _⟩
end Go.Gx.S
end

section
/- A bridge that did any steps. -/
set_option linter.unusedVariables false
set_option linter.unusedSimpArgs false
set_option maxRecDepth 100000
namespace Go.Gx.S
open Go Go.Gx Go.Proofs
variable {K : Value → World → Prop} {w : World}

/-- what all bridges of a law are -/
structure Good (room : Nat) (fs : FS) : Prop where
  n : okN fs
  z : fs.S.getD 0 0 = 0
theorem setL'_S {S : List Int} {p st : Int} : (setL' S p st).1.length = S.length ∧ (S.getD 0 0 = 0 → (setL' S p st).1.getD 0 0 = 0) := by
  unfold setL'
  split
  · rename_i h
    rw [Bool.and_eq_true] at h
    have := (hasB_iff.1 h.1).1
    refine ⟨List.length_set .., fun h0 => ?_⟩
    rw [List.getD_eq_getElem?_getD, List.getElem?_set_ne (by omega), ← List.getD_eq_getElem?_getD]
    exact h0
  · exact ⟨rfl, fun h => h⟩
theorem takeA_S (room : Nat) (fs : FS) (port : Int) (f : Frm) (n : Nat) (now : Int) : (takeA room fs port f n now).1.S = fs.S ∧ (takeA room fs port f n now).1.t = fs.t := by
  unfold takeA
  split <;> exact ⟨rfl, rfl⟩
theorem stepF_S {room : Nat} {fs : FS} {s : WStp} {n : Nat} : (stepF room fs s n).S.length = fs.S.length ∧ (fs.S.getD 0 0 = 0 → (stepF room fs s n).S.getD 0 0 = 0) := by
  unfold stepF
  split
  · rw [(takeA_S room fs s.port s.f n s.now).1]; exact ⟨rfl, fun h => h⟩
  · split
    · exact setL'_S
    · split
      · exact ⟨rfl, fun h => h⟩
      · split
        · exact ⟨rfl, fun h => h⟩
        · split
          · exact ⟨rfl, fun h => h⟩
          · split
            · exact ⟨rfl, fun h => h⟩
            · split <;> exact ⟨rfl, fun h => h⟩
theorem Good.step {room : Nat} {fs : FS} {s : WStp} {n : Nat} (h : Good room fs) : Good room (stepF room fs s n) := ⟨stepF_okN h.n, stepF_S.2 h.z⟩
theorem Good.take {room : Nat} {fs : FS} {port now : Int} {f : Frm} {n : Nat} (h : Good room fs) : Good room (takeA room fs port f n now).1 := ⟨takeA_okN h.n, by rw [(takeA_S ..).1]; exact h.z⟩

end Go.Gx.S
end

section
/- What the functions of this program ask. -/
set_option linter.unusedVariables false
set_option maxRecDepth 100000
namespace Go.Gx.S
open Go Go.Gx Go.Proofs
-- gemel/shake.New
def p38 (P : Program) (K : Value → World → Prop) (x0 : Value) : World → Prop :=
  opS P (S.binI .lss x0 (.int .i64 1)) fun x1 =>
  brn x1 (
    K (.tuple #[(.pointer none), (.int .i64 1)])
  ) (
    opS P (S.binI .gtr x0 (.int .i64 63)) fun x2 =>
    brn x2 (
      K (.tuple #[(.pointer none), (.int .i64 1)])
    ) (
      opS P (S.mks 166 x0 x0) fun x3 =>
      opS P (S.build 168 [(0, x3)]) fun x4 =>
      opS P (S.box 168 x4) fun x5 =>
      K (.tuple #[x5, (.int .i64 0)])
    )
  )
instance fnb38 : FnB Tryz.prog 38 := ⟨Tryz.call38⟩
theorem e38 : p38 Tryz.prog = fun K x0 => denF Tryz.prog Tryz.f38 [x0] K := by kernel_rfl
theorem c38 {K : Value → World → Prop} {x0 : Value} {w : World} (h : p38 Tryz.prog K x0 w) : CallsR Tryz.prog 38 #[x0] K w := by
  rw [e38] at h
  exact denF_sound mixed Tryz.func38 h

-- gemel/gemelref22.New
def p41 (P : Program) (K : Value → World → Prop) (x0 : Value) : World → Prop :=
  opS P (S.binI .lss x0 (.int .i64 1)) fun x1 =>
  brn x1 (
    K (.tuple #[(.pointer none), (.int .i64 1)])
  ) (
    opS P (S.binI .gtr x0 (.int .i64 63)) fun x2 =>
    brn x2 (
      K (.tuple #[(.pointer none), (.int .i64 1)])
    ) (
      opS P (S.mks 173 x0 x0) fun x3 =>
      opS P (S.build 175 [(0, x3)]) fun x4 =>
      opS P (S.box 175 x4) fun x5 =>
      K (.tuple #[x5, (.int .i64 0)])
    )
  )
instance fnb41 : FnB Tryz.prog 41 := ⟨Tryz.call41⟩
theorem e41 : p41 Tryz.prog = fun K x0 => denF Tryz.prog Tryz.f41 [x0] K := by kernel_rfl
theorem c41 {K : Value → World → Prop} {x0 : Value} {w : World} (h : p41 Tryz.prog K x0 w) : CallsR Tryz.prog 41 #[x0] K w := by
  rw [e41] at h
  exact denF_sound mixed Tryz.func41 h

-- (*gemel/shake.Shake).Serves
def p44 (P : Program) (K : Value → World → Prop) (x0 : Value) (x1 : Value) : World → Prop :=
  opS P (S.cl 102 [x0, x1]) fun x2 =>
  opS P (S.binN .eql (S.isNilP x2)) fun x3 =>
  brn x3 (
    K (.bool false)
  ) (
    opS P (S.nc x2) fun x4 =>
    opS P (S.fa 179 x4 0) fun x5 =>
    opS P (S.ld 4 x5) fun x6 =>
    opS P (S.un .not x6) fun x7 =>
    brn x7 (
      K (.bool false)
    ) (
      opS P (S.nc x0) fun x8 =>
      opS P (S.fa 168 x8 1) fun x9 =>
      opS P (S.ld 4 x9) fun x10 =>
      brn x10 (
        opS P (S.nc x2) fun x11 =>
        opS P (S.fa 179 x11 1) fun x12 =>
        opS P (S.ld 3 x12) fun x13 =>
        opS P (S.binI .eql x13 (.int .i64 0)) fun x14 =>
        K x14
      ) (
        opS P (S.nc x0) fun x11 =>
        opS P (S.fa 168 x11 2) fun x12 =>
        opS P (S.ld 4 x12) fun x13 =>
        K x13
      )
    )
  )
instance fnb44 : FnB Tryz.prog 44 := ⟨Tryz.call44⟩
theorem e44 : p44 Tryz.prog = fun K x0 x1 => denF Tryz.prog Tryz.f44 [x0, x1] K := by kernel_rfl
theorem c44 {K : Value → World → Prop} {x0 x1 : Value} {w : World} (h : p44 Tryz.prog K x0 x1 w) : CallsR Tryz.prog 44 #[x0, x1] K w := by
  rw [e44] at h
  exact denF_sound mixed Tryz.func44 h

-- (*gemel/shake.Shake).Local
def p74 (P : Program) (K : Value → World → Prop) (x0 : Value) (x1 : Value) (x2 : Value) : World → Prop :=
  opS P (S.cl 102 [x0, x1]) fun x3 =>
  opS P (S.binN .eql (S.isNilP x3)) fun x4 =>
  brn x4 (
    K (.tuple #[(.slice none 0 0), (.int .i64 1)])
  ) (
    opS P (S.nc x3) fun x5 =>
    opS P (S.fa 179 x5 0) fun x6 =>
    opS P (S.ld 4 x6) fun x7 =>
    opS P (S.binB .eql x7 x2) fun x8 =>
    opS P (S.nc x3) fun x9 =>
    opS P (S.fa 179 x9 0) fun x10 =>
    opS P (S.st 4 x10 x2) fun x11 =>
    brn x8 (
      K (.tuple #[(.slice none 0 0), (.int .i64 0)])
    ) (
      opS P (S.nc x0) fun x12 =>
      opS P (S.fa 168 x12 1) fun x13 =>
      opS P (S.ld 4 x13) fun x14 =>
      opS P (S.un .not x14) fun x15 =>
      brn x15 (
        K (.tuple #[(.slice none 0 0), (.int .i64 0)])
      ) (
        opS P (S.buildS 22 1 [(0, x1)]) fun x16 =>
        opS P (S.cl 152 [x0, x16]) fun x17 =>
        K (.tuple #[x17, (.int .i64 0)])
      )
    )
  )
instance fnb74 : FnB Tryz.prog 74 := ⟨Tryz.call74⟩
theorem e74 : p74 Tryz.prog = fun K x0 x1 x2 => denF Tryz.prog Tryz.f74 [x0, x1, x2] K := by kernel_rfl
theorem c74 {K : Value → World → Prop} {x0 x1 x2 : Value} {w : World} (h : p74 Tryz.prog K x0 x1 x2 w) : CallsR Tryz.prog 74 #[x0, x1, x2] K w := by
  rw [e74] at h
  exact denF_sound mixed Tryz.func74 h

-- (*gemel/shake.Shake).at
def p102 (P : Program) (K : Value → World → Prop) (x0 : Value) (x1 : Value) : World → Prop :=
  opS P (S.binI .lss x1 (.int .i64 1)) fun x2 =>
  brn x2 (
    K (.pointer none)
  ) (
    opS P (S.nc x0) fun x3 =>
    opS P (S.fa 168 x3 0) fun x4 =>
    opS P (S.ld 166 x4) fun x5 =>
    opS P (S.len x5) fun x6 =>
    opS P (S.binI .gtr x1 x6) fun x7 =>
    brn x7 (
      K (.pointer none)
    ) (
      opS P (S.nc x0) fun x8 =>
      opS P (S.fa 168 x8 0) fun x9 =>
      opS P (S.ld 166 x9) fun x10 =>
      opS P (S.binI .sub x1 (.int .i64 1)) fun x11 =>
      opS P (S.ia 166 x10 x11) fun x12 =>
      K x12
    )
  )
instance fnb102 : FnB Tryz.prog 102 := ⟨Tryz.call102⟩
theorem e102 : p102 Tryz.prog = fun K x0 x1 => denF Tryz.prog Tryz.f102 [x0, x1] K := by kernel_rfl
theorem c102 {K : Value → World → Prop} {x0 x1 : Value} {w : World} (h : p102 Tryz.prog K x0 x1 w) : CallsR Tryz.prog 102 #[x0, x1] K w := by
  rw [e102] at h
  exact denF_sound mixed Tryz.func102 h

-- (*gemel/gemelref22.Shake).Local
def p108 (P : Program) (K : Value → World → Prop) (x0 : Value) (x1 : Value) (x2 : Value) : World → Prop :=
  opS P (S.cl 181 [x0, x1]) fun x3 =>
  opS P (S.un .not x3) fun x4 =>
  brn x4 (
    K (.tuple #[(.slice none 0 0), (.int .i64 1)])
  ) (
    opS P (S.nc x0) fun x5 =>
    opS P (S.fa 175 x5 0) fun x6 =>
    opS P (S.ld 173 x6) fun x7 =>
    opS P (S.binI .sub x1 (.int .i64 1)) fun x8 =>
    opS P (S.ia 173 x7 x8) fun x9 =>
    opS P (S.fa 244 x9 0) fun x10 =>
    opS P (S.ld 4 x10) fun x11 =>
    opS P (S.binB .eql x11 x2) fun x12 =>
    brn x12 (
      K (.tuple #[(.slice none 0 0), (.int .i64 0)])
    ) (
      opS P (S.nc x0) fun x13 =>
      opS P (S.fa 175 x13 0) fun x14 =>
      opS P (S.ld 173 x14) fun x15 =>
      opS P (S.binI .sub x1 (.int .i64 1)) fun x16 =>
      opS P (S.ia 173 x15 x16) fun x17 =>
      opS P (S.fa 244 x17 0) fun x18 =>
      opS P (S.st 4 x18 x2) fun x19 =>
      opS P (S.nc x0) fun x20 =>
      opS P (S.fa 175 x20 1) fun x21 =>
      opS P (S.ld 4 x21) fun x22 =>
      opS P (S.un .not x22) fun x23 =>
      brn x23 (
        K (.tuple #[(.slice none 0 0), (.int .i64 0)])
      ) (
        opS P (S.binI .sub x1 (.int .i64 1)) fun x24 =>
        opS P (S.cl 182 [x0, x24]) fun x25 =>
        opS P (S.buildS 135 1 [(0, x25)]) fun x26 =>
        K (.tuple #[x26, (.int .i64 0)])
      )
    )
  )
instance fnb108 : FnB Tryz.prog 108 := ⟨Tryz.call108⟩
theorem e108 : p108 Tryz.prog = fun K x0 x1 x2 => denF Tryz.prog Tryz.f108 [x0, x1, x2] K := by kernel_rfl
theorem c108 {K : Value → World → Prop} {x0 x1 x2 : Value} {w : World} (h : p108 Tryz.prog K x0 x1 x2 w) : CallsR Tryz.prog 108 #[x0, x1, x2] K w := by
  rw [e108] at h
  exact denF_sound mixed Tryz.func108 h

-- (*gemel/shake.Shake).Stop
def p179 (P : Program) (K : Value → World → Prop) (x0 : Value) (x1 : Value) : World → Prop :=
  opS P (S.nc x0) fun x2 =>
  opS P (S.fa 168 x2 1) fun x3 =>
  opS P (S.st 4 x3 (.bool false)) fun x4 =>
  opS P (S.nc x0) fun x5 =>
  opS P (S.fa 168 x5 2) fun x6 =>
  opS P (S.st 4 x6 x1) fun x7 =>
  opS P (S.nc x0) fun x8 =>
  opS P (S.fa 168 x8 0) fun x9 =>
  opS P (S.ld 166 x9) fun x10 =>
  opS P (S.len x10) fun x11 =>
  jnJ 0 (
    K (.tuple #[])
  ) fun j0 =>
  loopJ 1 (fun j1 x12 =>
    opS P (S.binI .lss x12 x11) fun x13 =>
    brn x13 (
      drw <|
      opS P (S.nc x0) fun x14 =>
      opS P (S.fa 168 x14 0) fun x15 =>
      opS P (S.ld 166 x15) fun x16 =>
      opS P (S.nc x0) fun x17 =>
      opS P (S.fa 168 x17 0) fun x18 =>
      opS P (S.ld 166 x18) fun x19 =>
      opS P (S.ia 166 x19 x12) fun x20 =>
      opS P (S.fa 179 x20 0) fun x21 =>
      opS P (S.ld 4 x21) fun x22 =>
      opS P (S.build 179 [(0, x22)]) fun x23 =>
      opS P (S.ia 166 x16 x12) fun x24 =>
      opS P (S.st 179 x24 x23) fun x25 =>
      opS P (S.binI .add x12 (.int .i64 1)) fun x26 =>
      j1 x26
    ) (
      j0
    )
  ) (.int .i64 0)
instance fnb179 : FnB Tryz.prog 179 := ⟨Tryz.call179⟩
theorem e179 : p179 Tryz.prog = fun K x0 x1 => denF Tryz.prog Tryz.f179 [x0, x1] K := by kernel_rfl
theorem c179 {K : Value → World → Prop} {x0 x1 : Value} {w : World} (h : p179 Tryz.prog K x0 x1 w) : CallsR Tryz.prog 179 #[x0, x1] K w := by
  rw [e179] at h
  exact denF_sound mixed Tryz.func179 h

-- (*gemel/gemelref22.Shake).has
def p181 (P : Program) (K : Value → World → Prop) (x0 : Value) (x1 : Value) : World → Prop :=
  opS P (S.binI .geq x1 (.int .i64 1)) fun x2 =>
  brn x2 (
    opS P (S.nc x0) fun x3 =>
    opS P (S.fa 175 x3 0) fun x4 =>
    opS P (S.ld 173 x4) fun x5 =>
    opS P (S.len x5) fun x6 =>
    opS P (S.binI .leq x1 x6) fun x7 =>
    K x7
  ) (
    K (.bool false)
  )
instance fnb181 : FnB Tryz.prog 181 := ⟨Tryz.call181⟩
theorem e181 : p181 Tryz.prog = fun K x0 x1 => denF Tryz.prog Tryz.f181 [x0, x1] K := by kernel_rfl
theorem c181 {K : Value → World → Prop} {x0 x1 : Value} {w : World} (h : p181 Tryz.prog K x0 x1 w) : CallsR Tryz.prog 181 #[x0, x1] K w := by
  rw [e181] at h
  exact denF_sound mixed Tryz.func181 h

end Go.Gx.S
-- 38 41 102 74 179 44 181 108
end

section
/- What the functions of this program ask. -/
set_option linter.unusedVariables false
set_option maxRecDepth 100000
namespace Go.Gx.S
open Go Go.Gx Go.Proofs
-- (*gemel/session.Session).Life
def p13 (P : Program) (K : Value → World → Prop) (x0 : Value) : World → Prop :=
  opS P (S.nc x0) fun x1 =>
  opS P (S.fa 112 x1 2) fun x2 =>
  opS P (S.ld 3 x2) fun x3 =>
  K x3
instance fnb13 : FnB Tryz.prog 13 := ⟨Tryz.call13⟩
theorem e13 : p13 Tryz.prog = fun K x0 => denF Tryz.prog Tryz.f13 [x0] K := by kernel_rfl
theorem c13 {K : Value → World → Prop} {x0 : Value} {w : World} (h : p13 Tryz.prog K x0 w) : CallsR Tryz.prog 13 #[x0] K w := by
  rw [e13] at h
  exact denF_sound mixed Tryz.func13 h

-- (*gemel/session.Session).Epoch
instance fnb21 : FnB Tryz.prog 21 := ⟨Tryz.call21⟩
def p22 (P : Program) (K : Value → World → Prop) (x0 : Value) : World → Prop :=
  opS P (S.nc x0) fun x1 =>
  opS P (S.fa 112 x1 4) fun x2 =>
  opS P (S.ld 4 x2) fun x3 =>
  K x3
instance fnb22 : FnB Tryz.prog 22 := ⟨Tryz.call22⟩
theorem e22 : p22 Tryz.prog = fun K x0 => denF Tryz.prog Tryz.f22 [x0] K := by kernel_rfl
theorem c22 {K : Value → World → Prop} {x0 : Value} {w : World} (h : p22 Tryz.prog K x0 w) : CallsR Tryz.prog 22 #[x0] K w := by
  rw [e22] at h
  exact denF_sound mixed Tryz.func22 h

-- (*gemel/session.Session).Role
def p33 (P : Program) (K : Value → World → Prop) (x0 : Value) : World → Prop :=
  opS P (S.nc x0) fun x1 =>
  opS P (S.fa 112 x1 5) fun x2 =>
  opS P (S.ld 3 x2) fun x3 =>
  K x3
instance fnb33 : FnB Tryz.prog 33 := ⟨Tryz.call33⟩
theorem e33 : p33 Tryz.prog = fun K x0 => denF Tryz.prog Tryz.f33 [x0] K := by kernel_rfl
theorem c33 {K : Value → World → Prop} {x0 : Value} {w : World} (h : p33 Tryz.prog K x0 w) : CallsR Tryz.prog 33 #[x0] K w := by
  rw [e33] at h
  exact denF_sound mixed Tryz.func33 h

-- gemel/session.New
def p36 (P : Program) (K : Value → World → Prop) (x0 : Value) (x1 : Value) (x2 : Value) : World → Prop :=
  opS P (S.binI .lss x0 (.int .i64 0)) fun x3 =>
  brn x3 (
    K (.tuple #[(.pointer none), (.int .i64 1)])
  ) (
    opS P (S.binI .gtr x0 (.int .i64 1)) fun x4 =>
    brn x4 (
      K (.tuple #[(.pointer none), (.int .i64 1)])
    ) (
      opS P (S.binI .lss x1 (.int .i64 0)) fun x5 =>
      brn x5 (
        K (.tuple #[(.pointer none), (.int .i64 1)])
      ) (
        opS P (S.binI .gtr x1 (.int .i64 1000)) fun x6 =>
        brn x6 (
          K (.tuple #[(.pointer none), (.int .i64 1)])
        ) (
          opS P (S.binI .lss x2 (.int .i64 1)) fun x7 =>
          brn x7 (
            K (.tuple #[(.pointer none), (.int .i64 1)])
          ) (
            opS P (S.binI .gtr x2 (.int .i64 536870912)) fun x8 =>
            brn x8 (
              K (.tuple #[(.pointer none), (.int .i64 1)])
            ) (
              opS P (S.build 110 [(0, x1), (1, x0)]) fun x9 =>
              opS P (S.binI .sub (.int .i64 1) x0) fun x10 =>
              opS P (S.build 110 [(0, (.int .i64 0)), (1, x10)]) fun x11 =>
              opS P (S.build 112 [(0, x9), (1, x11), (2, x2)]) fun x12 =>
              opS P (S.box 112 x12) fun x13 =>
              K (.tuple #[x13, (.int .i64 0)])
            )
          )
        )
      )
    )
  )
instance fnb36 : FnB Tryz.prog 36 := ⟨Tryz.call36⟩
theorem e36 : p36 Tryz.prog = fun K x0 x1 x2 => denF Tryz.prog Tryz.f36 [x0, x1, x2] K := by kernel_rfl
theorem c36 {K : Value → World → Prop} {x0 x1 x2 : Value} {w : World} (h : p36 Tryz.prog K x0 x1 x2 w) : CallsR Tryz.prog 36 #[x0, x1, x2] K w := by
  rw [e36] at h
  exact denF_sound mixed Tryz.func36 h

-- gemel/gemelref21.New
def p39 (P : Program) (K : Value → World → Prop) (x0 : Value) (x1 : Value) (x2 : Value) : World → Prop :=
  opS P (S.binI .lss x0 (.int .i64 0)) fun x3 =>
  brn x3 (
    K (.tuple #[(.pointer none), (.int .i64 1)])
  ) (
    opS P (S.binI .gtr x0 (.int .i64 1)) fun x4 =>
    brn x4 (
      K (.tuple #[(.pointer none), (.int .i64 1)])
    ) (
      opS P (S.binI .lss x1 (.int .i64 0)) fun x5 =>
      brn x5 (
        K (.tuple #[(.pointer none), (.int .i64 1)])
      ) (
        opS P (S.binI .gtr x1 (.int .i64 1000)) fun x6 =>
        brn x6 (
          K (.tuple #[(.pointer none), (.int .i64 1)])
        ) (
          opS P (S.binI .lss x2 (.int .i64 1)) fun x7 =>
          brn x7 (
            K (.tuple #[(.pointer none), (.int .i64 1)])
          ) (
            opS P (S.binI .gtr x2 (.int .i64 536870912)) fun x8 =>
            brn x8 (
              K (.tuple #[(.pointer none), (.int .i64 1)])
            ) (
              opS P (S.build 37 [(0, x0), (1, x1), (2, x2)]) fun x9 =>
              opS P (S.box 37 x9) fun x10 =>
              K (.tuple #[x10, (.int .i64 0)])
            )
          )
        )
      )
    )
  )
instance fnb39 : FnB Tryz.prog 39 := ⟨Tryz.call39⟩
theorem e39 : p39 Tryz.prog = fun K x0 x1 x2 => denF Tryz.prog Tryz.f39 [x0, x1, x2] K := by kernel_rfl
theorem c39 {K : Value → World → Prop} {x0 x1 x2 : Value} {w : World} (h : p39 Tryz.prog K x0 x1 x2 w) : CallsR Tryz.prog 39 #[x0, x1, x2] K w := by
  rw [e39] at h
  exact denF_sound mixed Tryz.func39 h

-- (*gemel/session.Session).Tick
def p92 (P : Program) (K : Value → World → Prop) (x0 : Value) (x1 : Value) : World → Prop :=
  opS P (S.cl 114 [x1]) fun x2 =>
  opS P (S.un .not x2) fun x3 =>
  brn x3 (
    K (.tuple #[(.bool false), (.int .i64 1)])
  ) (
    drw <|
    opS P (S.nc x0) fun x4 =>
    opS P (S.fa 112 x4 7) fun x5 =>
    opS P (S.ld 3 x5) fun x6 =>
    opS P (S.binI .sub x1 x6) fun x7 =>
    opS P (S.binI .geq x7 (.int .i64 6)) fun x8 =>
    opS P (S.nc x0) fun x9 =>
    opS P (S.fa 112 x9 8) fun x10 =>
    opS P (S.ld 3 x10) fun x11 =>
    opS P (S.binI .sub x1 x11) fun x12 =>
    opS P (S.binI .geq x12 (.int .i64 6)) fun x13 =>
    jnJ 0 (
      brn x8 (
        brn x13 (
          opS P (S.nc x0) fun x14 =>
          opS P (S.fa 112 x14 5) fun x15 =>
          opS P (S.ld 3 x15) fun x16 =>
          opS P (S.binI .neq x16 (.int .i64 2)) fun x17 =>
          brn x17 (
            opS P (S.nc x0) fun x18 =>
            opS P (S.fa 112 x18 5) fun x19 =>
            opS P (S.st 3 x19 (.int .i64 2)) fun x20 =>
            opS P (S.cl 178 [x0]) fun x21 =>
            K (.tuple #[(.bool false), (.int .i64 0)])
          ) (
            K (.tuple #[(.bool false), (.int .i64 0)])
          )
        ) (
          K (.tuple #[(.bool false), (.int .i64 0)])
        )
      ) (
        K (.tuple #[(.bool false), (.int .i64 0)])
      )
    ) fun j0 =>
    brn x8 (
      opS P (S.nc x0) fun x14 =>
      opS P (S.fa 112 x14 4) fun x15 =>
      opS P (S.ld 4 x15) fun x16 =>
      brn x16 (
        opS P (S.cl 178 [x0]) fun x17 =>
        K (.tuple #[(.bool true), (.int .i64 0)])
      ) (
        j0
      )
    ) (
      j0
    )
  )
instance fnb92 : FnB Tryz.prog 92 := ⟨Tryz.call92⟩
theorem e92 : p92 Tryz.prog = fun K x0 x1 => denF Tryz.prog Tryz.f92 [x0, x1] K := by kernel_rfl
theorem c92 {K : Value → World → Prop} {x0 x1 : Value} {w : World} (h : p92 Tryz.prog K x0 x1 w) : CallsR Tryz.prog 92 #[x0, x1] K w := by
  rw [e92] at h
  exact denF_sound mixed Tryz.func92 h

-- (*gemel/session.Session).Hello
def p95 (P : Program) (K : Value → World → Prop) (x0 : Value) : World → Prop :=
  opS P (S.alloc 63) fun x1 =>
  drw <|
  opS P (S.nc x0) fun x2 =>
  opS P (S.fa 112 x2 2) fun x3 =>
  opS P (S.ld 3 x3) fun x4 =>
  opS P (S.nc x0) fun x5 =>
  opS P (S.fa 112 x5 3) fun x6 =>
  opS P (S.ld 3 x6) fun x7 =>
  opS P (S.nc x0) fun x8 =>
  opS P (S.fa 112 x8 0) fun x9 =>
  opS P (S.ia 110 x9 (.int .i64 0)) fun x10 =>
  opS P (S.ld 3 x10) fun x11 =>
  opS P (S.nc x0) fun x12 =>
  opS P (S.fa 112 x12 6) fun x13 =>
  opS P (S.ld 3 x13) fun x14 =>
  opS P (S.build 56 [(0, (.int .i64 6)), (3, x11), (4, x14)]) fun x15 =>
  opS P (S.build 63 [(0, x4), (2, x7), (3, x15)]) fun x16 =>
  opS P (S.st 63 x1 x16) fun x17 =>
  opS P (S.ld 63 x1) fun x18 =>
  K x18
instance fnb95 : FnB Tryz.prog 95 := ⟨Tryz.call95⟩
theorem e95 : p95 Tryz.prog = fun K x0 => denF Tryz.prog Tryz.f95 [x0] K := by kernel_rfl
theorem c95 {K : Value → World → Prop} {x0 : Value} {w : World} (h : p95 Tryz.prog K x0 w) : CallsR Tryz.prog 95 #[x0] K w := by
  rw [e95] at h
  exact denF_sound mixed Tryz.func95 h

-- gemel/session.moment
def p114 (P : Program) (K : Value → World → Prop) (x0 : Value) : World → Prop :=
  opS P (S.binI .geq x0 (.int .i64 0)) fun x1 =>
  brn x1 (
    opS P (S.binI .leq x0 (.int .i64 1099511627776)) fun x2 =>
    K x2
  ) (
    K (.bool false)
  )
instance fnb114 : FnB Tryz.prog 114 := ⟨Tryz.call114⟩
theorem e114 : p114 Tryz.prog = fun K x0 => denF Tryz.prog Tryz.f114 [x0] K := by kernel_rfl
theorem c114 {K : Value → World → Prop} {x0 : Value} {w : World} (h : p114 Tryz.prog K x0 w) : CallsR Tryz.prog 114 #[x0] K w := by
  rw [e114] at h
  exact denF_sound mixed Tryz.func114 h

-- (*gemel/session.Session).reborn
def p178 (P : Program) (K : Value → World → Prop) (x0 : Value) : World → Prop :=
  opS P (S.nc x0) fun x1 =>
  opS P (S.fa 112 x1 5) fun x2 =>
  opS P (S.ld 3 x2) fun x3 =>
  opS P (S.nc x0) fun x4 =>
  opS P (S.fa 112 x4 4) fun x5 =>
  opS P (S.st 4 x5 (.bool false)) fun x6 =>
  opS P (S.nc x0) fun x7 =>
  opS P (S.fa 112 x7 6) fun x8 =>
  opS P (S.st 3 x8 x3) fun x9 =>
  opS P (S.nc x0) fun x10 =>
  opS P (S.fa 112 x10 2) fun x11 =>
  opS P (S.ld 3 x11) fun x12 =>
  opS P (S.binI .add x12 (.int .i64 1)) fun x13 =>
  opS P (S.bi .min #[3, 3] 3 [x13, (.int .i64 536870912)]) fun x14 =>
  opS P (S.nc x0) fun x15 =>
  opS P (S.fa 112 x15 2) fun x16 =>
  opS P (S.st 3 x16 x14) fun x17 =>
  K (.tuple #[])
instance fnb178 : FnB Tryz.prog 178 := ⟨Tryz.call178⟩
theorem e178 : p178 Tryz.prog = fun K x0 => denF Tryz.prog Tryz.f178 [x0] K := by kernel_rfl
theorem c178 {K : Value → World → Prop} {x0 : Value} {w : World} (h : p178 Tryz.prog K x0 w) : CallsR Tryz.prog 178 #[x0] K w := by
  rw [e178] at h
  exact denF_sound mixed Tryz.func178 h

end Go.Gx.S
-- 36 39 114 178 92 22 21 33 13 95
end

section
/- Bridges of a tree: what they are, and their cells. -/
namespace Go.Gx
open Go

@[ext] structure Idn where
  prio : Int
  mac : Mac
  deriving DecidableEq, Inhabited

def Idn.cells (x : Idn) : List Value := [i64 x.prio, u8 x.mac.b0, u8 x.mac.b1, u8 x.mac.b2, u8 x.mac.b3, u8 x.mac.b4, u8 x.mac.b5]
theorem Idn.len (x : Idn) : x.cells.length = 7 := id rfl
theorem Idn.one (x : Idn) : x.cells.all S.oneCell = true := id rfl
theorem Idn.dw (x : Idn) : (x.cells.drop 0).take 7 = x.cells := id rfl
theorem Idn.sw (x y : Idn) : splice x.cells 0 y.cells = y.cells := id rfl
theorem Idn.g_prio (x : Idn) : x.cells[0]? = some (i64 x.prio) := id rfl
theorem Idn.s_prio (x : Idn) (v : Int) : splice x.cells 0 [i64 v] = ({ x with prio := v } : Idn).cells := id rfl
theorem Idn.d_mac (x : Idn) : (x.cells.drop 1).take 6 = x.mac.cells := id rfl
theorem Idn.s_mac (x : Idn) (v : Mac) : splice x.cells 1 v.cells = ({ x with mac := v } : Idn).cells := id rfl

@[ext] structure Vec where
  root : Idn
  cost : Int
  br : Idn
  port : Int
  own : Int
  deriving DecidableEq, Inhabited

def Vec.cells (x : Vec) : List Value := [i64 x.root.prio, u8 x.root.mac.b0, u8 x.root.mac.b1, u8 x.root.mac.b2, u8 x.root.mac.b3, u8 x.root.mac.b4, u8 x.root.mac.b5, i64 x.cost, i64 x.br.prio, u8 x.br.mac.b0, u8 x.br.mac.b1, u8 x.br.mac.b2, u8 x.br.mac.b3, u8 x.br.mac.b4, u8 x.br.mac.b5, i64 x.port, i64 x.own]
theorem Vec.len (x : Vec) : x.cells.length = 17 := id rfl
theorem Vec.one (x : Vec) : x.cells.all S.oneCell = true := id rfl
theorem Vec.dw (x : Vec) : (x.cells.drop 0).take 17 = x.cells := id rfl
theorem Vec.sw (x y : Vec) : splice x.cells 0 y.cells = y.cells := id rfl
theorem Vec.d_root (x : Vec) : (x.cells.drop 0).take 7 = x.root.cells := id rfl
theorem Vec.s_root (x : Vec) (v : Idn) : splice x.cells 0 v.cells = ({ x with root := v } : Vec).cells := id rfl
theorem Vec.g_root_prio (x : Vec) : x.cells[0]? = some (i64 x.root.prio) := id rfl
theorem Vec.s_root_prio (x : Vec) (v : Int) : splice x.cells 0 [i64 v] = ({ x with root := { x.root with prio := v } } : Vec).cells := id rfl
theorem Vec.d_root_mac (x : Vec) : (x.cells.drop 1).take 6 = x.root.mac.cells := id rfl
theorem Vec.s_root_mac (x : Vec) (v : Mac) : splice x.cells 1 v.cells = ({ x with root := { x.root with mac := v } } : Vec).cells := id rfl
theorem Vec.g_cost (x : Vec) : x.cells[7]? = some (i64 x.cost) := id rfl
theorem Vec.s_cost (x : Vec) (v : Int) : splice x.cells 7 [i64 v] = ({ x with cost := v } : Vec).cells := id rfl
theorem Vec.d_br (x : Vec) : (x.cells.drop 8).take 7 = x.br.cells := id rfl
theorem Vec.s_br (x : Vec) (v : Idn) : splice x.cells 8 v.cells = ({ x with br := v } : Vec).cells := id rfl
theorem Vec.g_br_prio (x : Vec) : x.cells[8]? = some (i64 x.br.prio) := id rfl
theorem Vec.s_br_prio (x : Vec) (v : Int) : splice x.cells 8 [i64 v] = ({ x with br := { x.br with prio := v } } : Vec).cells := id rfl
theorem Vec.d_br_mac (x : Vec) : (x.cells.drop 9).take 6 = x.br.mac.cells := id rfl
theorem Vec.s_br_mac (x : Vec) (v : Mac) : splice x.cells 9 v.cells = ({ x with br := { x.br with mac := v } } : Vec).cells := id rfl
theorem Vec.g_port (x : Vec) : x.cells[15]? = some (i64 x.port) := id rfl
theorem Vec.s_port (x : Vec) (v : Int) : splice x.cells 15 [i64 v] = ({ x with port := v } : Vec).cells := id rfl
theorem Vec.g_own (x : Vec) : x.cells[16]? = some (i64 x.own) := id rfl
theorem Vec.s_own (x : Vec) (v : Int) : splice x.cells 16 [i64 v] = ({ x with own := v } : Vec).cells := id rfl

@[ext] structure Hrd where
  port : Int
  cost : Int
  up : Bool
  has : Bool
  v : Vec
  deriving DecidableEq, Inhabited

def Hrd.cells (x : Hrd) : List Value := [i64 x.port, i64 x.cost, .bool x.up, .bool x.has, i64 x.v.root.prio, u8 x.v.root.mac.b0, u8 x.v.root.mac.b1, u8 x.v.root.mac.b2, u8 x.v.root.mac.b3, u8 x.v.root.mac.b4, u8 x.v.root.mac.b5, i64 x.v.cost, i64 x.v.br.prio, u8 x.v.br.mac.b0, u8 x.v.br.mac.b1, u8 x.v.br.mac.b2, u8 x.v.br.mac.b3, u8 x.v.br.mac.b4, u8 x.v.br.mac.b5, i64 x.v.port, i64 x.v.own]
theorem Hrd.len (x : Hrd) : x.cells.length = 21 := id rfl
theorem Hrd.one (x : Hrd) : x.cells.all S.oneCell = true := id rfl
theorem Hrd.dw (x : Hrd) : (x.cells.drop 0).take 21 = x.cells := id rfl
theorem Hrd.sw (x y : Hrd) : splice x.cells 0 y.cells = y.cells := id rfl
theorem Hrd.g_port (x : Hrd) : x.cells[0]? = some (i64 x.port) := id rfl
theorem Hrd.s_port (x : Hrd) (v : Int) : splice x.cells 0 [i64 v] = ({ x with port := v } : Hrd).cells := id rfl
theorem Hrd.g_cost (x : Hrd) : x.cells[1]? = some (i64 x.cost) := id rfl
theorem Hrd.s_cost (x : Hrd) (v : Int) : splice x.cells 1 [i64 v] = ({ x with cost := v } : Hrd).cells := id rfl
theorem Hrd.g_up (x : Hrd) : x.cells[2]? = some (.bool x.up) := id rfl
theorem Hrd.s_up (x : Hrd) (v : Bool) : splice x.cells 2 [.bool v] = ({ x with up := v } : Hrd).cells := id rfl
theorem Hrd.g_has (x : Hrd) : x.cells[3]? = some (.bool x.has) := id rfl
theorem Hrd.s_has (x : Hrd) (v : Bool) : splice x.cells 3 [.bool v] = ({ x with has := v } : Hrd).cells := id rfl
theorem Hrd.d_v (x : Hrd) : (x.cells.drop 4).take 17 = x.v.cells := id rfl
theorem Hrd.s_v (x : Hrd) (v : Vec) : splice x.cells 4 v.cells = ({ x with v := v } : Hrd).cells := id rfl
theorem Hrd.d_v_root (x : Hrd) : (x.cells.drop 4).take 7 = x.v.root.cells := id rfl
theorem Hrd.s_v_root (x : Hrd) (v : Idn) : splice x.cells 4 v.cells = ({ x with v := { x.v with root := v } } : Hrd).cells := id rfl
theorem Hrd.g_v_root_prio (x : Hrd) : x.cells[4]? = some (i64 x.v.root.prio) := id rfl
theorem Hrd.s_v_root_prio (x : Hrd) (v : Int) : splice x.cells 4 [i64 v] = ({ x with v := { x.v with root := { x.v.root with prio := v } } } : Hrd).cells := id rfl
theorem Hrd.d_v_root_mac (x : Hrd) : (x.cells.drop 5).take 6 = x.v.root.mac.cells := id rfl
theorem Hrd.s_v_root_mac (x : Hrd) (v : Mac) : splice x.cells 5 v.cells = ({ x with v := { x.v with root := { x.v.root with mac := v } } } : Hrd).cells := id rfl
theorem Hrd.g_v_cost (x : Hrd) : x.cells[11]? = some (i64 x.v.cost) := id rfl
theorem Hrd.s_v_cost (x : Hrd) (v : Int) : splice x.cells 11 [i64 v] = ({ x with v := { x.v with cost := v } } : Hrd).cells := id rfl
theorem Hrd.d_v_br (x : Hrd) : (x.cells.drop 12).take 7 = x.v.br.cells := id rfl
theorem Hrd.s_v_br (x : Hrd) (v : Idn) : splice x.cells 12 v.cells = ({ x with v := { x.v with br := v } } : Hrd).cells := id rfl
theorem Hrd.g_v_br_prio (x : Hrd) : x.cells[12]? = some (i64 x.v.br.prio) := id rfl
theorem Hrd.s_v_br_prio (x : Hrd) (v : Int) : splice x.cells 12 [i64 v] = ({ x with v := { x.v with br := { x.v.br with prio := v } } } : Hrd).cells := id rfl
theorem Hrd.d_v_br_mac (x : Hrd) : (x.cells.drop 13).take 6 = x.v.br.mac.cells := id rfl
theorem Hrd.s_v_br_mac (x : Hrd) (v : Mac) : splice x.cells 13 v.cells = ({ x with v := { x.v with br := { x.v.br with mac := v } } } : Hrd).cells := id rfl
theorem Hrd.g_v_port (x : Hrd) : x.cells[19]? = some (i64 x.v.port) := id rfl
theorem Hrd.s_v_port (x : Hrd) (v : Int) : splice x.cells 19 [i64 v] = ({ x with v := { x.v with port := v } } : Hrd).cells := id rfl
theorem Hrd.g_v_own (x : Hrd) : x.cells[20]? = some (i64 x.v.own) := id rfl
theorem Hrd.s_v_own (x : Hrd) (v : Int) : splice x.cells 20 [i64 v] = ({ x with v := { x.v with own := v } } : Hrd).cells := id rfl

@[ext] structure Prt where
  h : Hrd
  age : Int
  until_ : Int
  edge : Bool
  role : Int
  state : Int
  on : Int
  agreed : Bool
  reply : Bool
  deriving DecidableEq, Inhabited

def Prt.cells (x : Prt) : List Value := [i64 x.h.port, i64 x.h.cost, .bool x.h.up, .bool x.h.has, i64 x.h.v.root.prio, u8 x.h.v.root.mac.b0, u8 x.h.v.root.mac.b1, u8 x.h.v.root.mac.b2, u8 x.h.v.root.mac.b3, u8 x.h.v.root.mac.b4, u8 x.h.v.root.mac.b5, i64 x.h.v.cost, i64 x.h.v.br.prio, u8 x.h.v.br.mac.b0, u8 x.h.v.br.mac.b1, u8 x.h.v.br.mac.b2, u8 x.h.v.br.mac.b3, u8 x.h.v.br.mac.b4, u8 x.h.v.br.mac.b5, i64 x.h.v.port, i64 x.h.v.own, i64 x.age, i64 x.until_, .bool x.edge, i64 x.role, i64 x.state, i64 x.on, .bool x.agreed, .bool x.reply]
theorem Prt.len (x : Prt) : x.cells.length = 29 := id rfl
theorem Prt.one (x : Prt) : x.cells.all S.oneCell = true := id rfl
theorem Prt.dw (x : Prt) : (x.cells.drop 0).take 29 = x.cells := id rfl
theorem Prt.sw (x y : Prt) : splice x.cells 0 y.cells = y.cells := id rfl
theorem Prt.d_h (x : Prt) : (x.cells.drop 0).take 21 = x.h.cells := id rfl
theorem Prt.s_h (x : Prt) (v : Hrd) : splice x.cells 0 v.cells = ({ x with h := v } : Prt).cells := id rfl
theorem Prt.g_h_port (x : Prt) : x.cells[0]? = some (i64 x.h.port) := id rfl
theorem Prt.s_h_port (x : Prt) (v : Int) : splice x.cells 0 [i64 v] = ({ x with h := { x.h with port := v } } : Prt).cells := id rfl
theorem Prt.g_h_cost (x : Prt) : x.cells[1]? = some (i64 x.h.cost) := id rfl
theorem Prt.s_h_cost (x : Prt) (v : Int) : splice x.cells 1 [i64 v] = ({ x with h := { x.h with cost := v } } : Prt).cells := id rfl
theorem Prt.g_h_up (x : Prt) : x.cells[2]? = some (.bool x.h.up) := id rfl
theorem Prt.s_h_up (x : Prt) (v : Bool) : splice x.cells 2 [.bool v] = ({ x with h := { x.h with up := v } } : Prt).cells := id rfl
theorem Prt.g_h_has (x : Prt) : x.cells[3]? = some (.bool x.h.has) := id rfl
theorem Prt.s_h_has (x : Prt) (v : Bool) : splice x.cells 3 [.bool v] = ({ x with h := { x.h with has := v } } : Prt).cells := id rfl
theorem Prt.d_h_v (x : Prt) : (x.cells.drop 4).take 17 = x.h.v.cells := id rfl
theorem Prt.s_h_v (x : Prt) (v : Vec) : splice x.cells 4 v.cells = ({ x with h := { x.h with v := v } } : Prt).cells := id rfl
theorem Prt.d_h_v_root (x : Prt) : (x.cells.drop 4).take 7 = x.h.v.root.cells := id rfl
theorem Prt.s_h_v_root (x : Prt) (v : Idn) : splice x.cells 4 v.cells = ({ x with h := { x.h with v := { x.h.v with root := v } } } : Prt).cells := id rfl
theorem Prt.g_h_v_root_prio (x : Prt) : x.cells[4]? = some (i64 x.h.v.root.prio) := id rfl
theorem Prt.s_h_v_root_prio (x : Prt) (v : Int) : splice x.cells 4 [i64 v] = ({ x with h := { x.h with v := { x.h.v with root := { x.h.v.root with prio := v } } } } : Prt).cells := id rfl
theorem Prt.d_h_v_root_mac (x : Prt) : (x.cells.drop 5).take 6 = x.h.v.root.mac.cells := id rfl
theorem Prt.s_h_v_root_mac (x : Prt) (v : Mac) : splice x.cells 5 v.cells = ({ x with h := { x.h with v := { x.h.v with root := { x.h.v.root with mac := v } } } } : Prt).cells := id rfl
theorem Prt.g_h_v_cost (x : Prt) : x.cells[11]? = some (i64 x.h.v.cost) := id rfl
theorem Prt.s_h_v_cost (x : Prt) (v : Int) : splice x.cells 11 [i64 v] = ({ x with h := { x.h with v := { x.h.v with cost := v } } } : Prt).cells := id rfl
theorem Prt.d_h_v_br (x : Prt) : (x.cells.drop 12).take 7 = x.h.v.br.cells := id rfl
theorem Prt.s_h_v_br (x : Prt) (v : Idn) : splice x.cells 12 v.cells = ({ x with h := { x.h with v := { x.h.v with br := v } } } : Prt).cells := id rfl
theorem Prt.g_h_v_br_prio (x : Prt) : x.cells[12]? = some (i64 x.h.v.br.prio) := id rfl
theorem Prt.s_h_v_br_prio (x : Prt) (v : Int) : splice x.cells 12 [i64 v] = ({ x with h := { x.h with v := { x.h.v with br := { x.h.v.br with prio := v } } } } : Prt).cells := id rfl
theorem Prt.d_h_v_br_mac (x : Prt) : (x.cells.drop 13).take 6 = x.h.v.br.mac.cells := id rfl
theorem Prt.s_h_v_br_mac (x : Prt) (v : Mac) : splice x.cells 13 v.cells = ({ x with h := { x.h with v := { x.h.v with br := { x.h.v.br with mac := v } } } } : Prt).cells := id rfl
theorem Prt.g_h_v_port (x : Prt) : x.cells[19]? = some (i64 x.h.v.port) := id rfl
theorem Prt.s_h_v_port (x : Prt) (v : Int) : splice x.cells 19 [i64 v] = ({ x with h := { x.h with v := { x.h.v with port := v } } } : Prt).cells := id rfl
theorem Prt.g_h_v_own (x : Prt) : x.cells[20]? = some (i64 x.h.v.own) := id rfl
theorem Prt.s_h_v_own (x : Prt) (v : Int) : splice x.cells 20 [i64 v] = ({ x with h := { x.h with v := { x.h.v with own := v } } } : Prt).cells := id rfl
theorem Prt.g_age (x : Prt) : x.cells[21]? = some (i64 x.age) := id rfl
theorem Prt.s_age (x : Prt) (v : Int) : splice x.cells 21 [i64 v] = ({ x with age := v } : Prt).cells := id rfl
theorem Prt.g_until (x : Prt) : x.cells[22]? = some (i64 x.until_) := id rfl
theorem Prt.s_until (x : Prt) (v : Int) : splice x.cells 22 [i64 v] = ({ x with until_ := v } : Prt).cells := id rfl
theorem Prt.g_edge (x : Prt) : x.cells[23]? = some (.bool x.edge) := id rfl
theorem Prt.s_edge (x : Prt) (v : Bool) : splice x.cells 23 [.bool v] = ({ x with edge := v } : Prt).cells := id rfl
theorem Prt.g_role (x : Prt) : x.cells[24]? = some (i64 x.role) := id rfl
theorem Prt.s_role (x : Prt) (v : Int) : splice x.cells 24 [i64 v] = ({ x with role := v } : Prt).cells := id rfl
theorem Prt.g_state (x : Prt) : x.cells[25]? = some (i64 x.state) := id rfl
theorem Prt.s_state (x : Prt) (v : Int) : splice x.cells 25 [i64 v] = ({ x with state := v } : Prt).cells := id rfl
theorem Prt.g_on (x : Prt) : x.cells[26]? = some (i64 x.on) := id rfl
theorem Prt.s_on (x : Prt) (v : Int) : splice x.cells 26 [i64 v] = ({ x with on := v } : Prt).cells := id rfl
theorem Prt.g_agreed (x : Prt) : x.cells[27]? = some (.bool x.agreed) := id rfl
theorem Prt.s_agreed (x : Prt) (v : Bool) : splice x.cells 27 [.bool v] = ({ x with agreed := v } : Prt).cells := id rfl
theorem Prt.g_reply (x : Prt) : x.cells[28]? = some (.bool x.reply) := id rfl
theorem Prt.s_reply (x : Prt) (v : Bool) : splice x.cells 28 [.bool v] = ({ x with reply := v } : Prt).cells := id rfl

@[ext] structure Bpd where
  kind : Int
  flags : Int
  root : Idn
  cost : Int
  br : Idn
  port : Int
  age : Int
  maxAge : Int
  hello : Int
  forward : Int
  deriving DecidableEq, Inhabited

def Bpd.cells (x : Bpd) : List Value := [i64 x.kind, i64 x.flags, i64 x.root.prio, u8 x.root.mac.b0, u8 x.root.mac.b1, u8 x.root.mac.b2, u8 x.root.mac.b3, u8 x.root.mac.b4, u8 x.root.mac.b5, i64 x.cost, i64 x.br.prio, u8 x.br.mac.b0, u8 x.br.mac.b1, u8 x.br.mac.b2, u8 x.br.mac.b3, u8 x.br.mac.b4, u8 x.br.mac.b5, i64 x.port, i64 x.age, i64 x.maxAge, i64 x.hello, i64 x.forward]
theorem Bpd.len (x : Bpd) : x.cells.length = 22 := id rfl
theorem Bpd.one (x : Bpd) : x.cells.all S.oneCell = true := id rfl
theorem Bpd.dw (x : Bpd) : (x.cells.drop 0).take 22 = x.cells := id rfl
theorem Bpd.sw (x y : Bpd) : splice x.cells 0 y.cells = y.cells := id rfl
theorem Bpd.g_kind (x : Bpd) : x.cells[0]? = some (i64 x.kind) := id rfl
theorem Bpd.s_kind (x : Bpd) (v : Int) : splice x.cells 0 [i64 v] = ({ x with kind := v } : Bpd).cells := id rfl
theorem Bpd.g_flags (x : Bpd) : x.cells[1]? = some (i64 x.flags) := id rfl
theorem Bpd.s_flags (x : Bpd) (v : Int) : splice x.cells 1 [i64 v] = ({ x with flags := v } : Bpd).cells := id rfl
theorem Bpd.d_root (x : Bpd) : (x.cells.drop 2).take 7 = x.root.cells := id rfl
theorem Bpd.s_root (x : Bpd) (v : Idn) : splice x.cells 2 v.cells = ({ x with root := v } : Bpd).cells := id rfl
theorem Bpd.g_root_prio (x : Bpd) : x.cells[2]? = some (i64 x.root.prio) := id rfl
theorem Bpd.s_root_prio (x : Bpd) (v : Int) : splice x.cells 2 [i64 v] = ({ x with root := { x.root with prio := v } } : Bpd).cells := id rfl
theorem Bpd.d_root_mac (x : Bpd) : (x.cells.drop 3).take 6 = x.root.mac.cells := id rfl
theorem Bpd.s_root_mac (x : Bpd) (v : Mac) : splice x.cells 3 v.cells = ({ x with root := { x.root with mac := v } } : Bpd).cells := id rfl
theorem Bpd.g_cost (x : Bpd) : x.cells[9]? = some (i64 x.cost) := id rfl
theorem Bpd.s_cost (x : Bpd) (v : Int) : splice x.cells 9 [i64 v] = ({ x with cost := v } : Bpd).cells := id rfl
theorem Bpd.d_br (x : Bpd) : (x.cells.drop 10).take 7 = x.br.cells := id rfl
theorem Bpd.s_br (x : Bpd) (v : Idn) : splice x.cells 10 v.cells = ({ x with br := v } : Bpd).cells := id rfl
theorem Bpd.g_br_prio (x : Bpd) : x.cells[10]? = some (i64 x.br.prio) := id rfl
theorem Bpd.s_br_prio (x : Bpd) (v : Int) : splice x.cells 10 [i64 v] = ({ x with br := { x.br with prio := v } } : Bpd).cells := id rfl
theorem Bpd.d_br_mac (x : Bpd) : (x.cells.drop 11).take 6 = x.br.mac.cells := id rfl
theorem Bpd.s_br_mac (x : Bpd) (v : Mac) : splice x.cells 11 v.cells = ({ x with br := { x.br with mac := v } } : Bpd).cells := id rfl
theorem Bpd.g_port (x : Bpd) : x.cells[17]? = some (i64 x.port) := id rfl
theorem Bpd.s_port (x : Bpd) (v : Int) : splice x.cells 17 [i64 v] = ({ x with port := v } : Bpd).cells := id rfl
theorem Bpd.g_age (x : Bpd) : x.cells[18]? = some (i64 x.age) := id rfl
theorem Bpd.s_age (x : Bpd) (v : Int) : splice x.cells 18 [i64 v] = ({ x with age := v } : Bpd).cells := id rfl
theorem Bpd.g_maxAge (x : Bpd) : x.cells[19]? = some (i64 x.maxAge) := id rfl
theorem Bpd.s_maxAge (x : Bpd) (v : Int) : splice x.cells 19 [i64 v] = ({ x with maxAge := v } : Bpd).cells := id rfl
theorem Bpd.g_hello (x : Bpd) : x.cells[20]? = some (i64 x.hello) := id rfl
theorem Bpd.s_hello (x : Bpd) (v : Int) : splice x.cells 20 [i64 v] = ({ x with hello := v } : Bpd).cells := id rfl
theorem Bpd.g_forward (x : Bpd) : x.cells[21]? = some (i64 x.forward) := id rfl
theorem Bpd.s_forward (x : Bpd) (v : Int) : splice x.cells 21 [i64 v] = ({ x with forward := v } : Bpd).cells := id rfl

@[ext] structure Spk where
  port : Int
  b : Bpd
  deriving DecidableEq, Inhabited

def Spk.cells (x : Spk) : List Value := [i64 x.port, i64 x.b.kind, i64 x.b.flags, i64 x.b.root.prio, u8 x.b.root.mac.b0, u8 x.b.root.mac.b1, u8 x.b.root.mac.b2, u8 x.b.root.mac.b3, u8 x.b.root.mac.b4, u8 x.b.root.mac.b5, i64 x.b.cost, i64 x.b.br.prio, u8 x.b.br.mac.b0, u8 x.b.br.mac.b1, u8 x.b.br.mac.b2, u8 x.b.br.mac.b3, u8 x.b.br.mac.b4, u8 x.b.br.mac.b5, i64 x.b.port, i64 x.b.age, i64 x.b.maxAge, i64 x.b.hello, i64 x.b.forward]
theorem Spk.len (x : Spk) : x.cells.length = 23 := id rfl
theorem Spk.one (x : Spk) : x.cells.all S.oneCell = true := id rfl
theorem Spk.dw (x : Spk) : (x.cells.drop 0).take 23 = x.cells := id rfl
theorem Spk.sw (x y : Spk) : splice x.cells 0 y.cells = y.cells := id rfl
theorem Spk.g_port (x : Spk) : x.cells[0]? = some (i64 x.port) := id rfl
theorem Spk.s_port (x : Spk) (v : Int) : splice x.cells 0 [i64 v] = ({ x with port := v } : Spk).cells := id rfl
theorem Spk.d_b (x : Spk) : (x.cells.drop 1).take 22 = x.b.cells := id rfl
theorem Spk.s_b (x : Spk) (v : Bpd) : splice x.cells 1 v.cells = ({ x with b := v } : Spk).cells := id rfl
theorem Spk.g_b_kind (x : Spk) : x.cells[1]? = some (i64 x.b.kind) := id rfl
theorem Spk.s_b_kind (x : Spk) (v : Int) : splice x.cells 1 [i64 v] = ({ x with b := { x.b with kind := v } } : Spk).cells := id rfl
theorem Spk.g_b_flags (x : Spk) : x.cells[2]? = some (i64 x.b.flags) := id rfl
theorem Spk.s_b_flags (x : Spk) (v : Int) : splice x.cells 2 [i64 v] = ({ x with b := { x.b with flags := v } } : Spk).cells := id rfl
theorem Spk.d_b_root (x : Spk) : (x.cells.drop 3).take 7 = x.b.root.cells := id rfl
theorem Spk.s_b_root (x : Spk) (v : Idn) : splice x.cells 3 v.cells = ({ x with b := { x.b with root := v } } : Spk).cells := id rfl
theorem Spk.g_b_root_prio (x : Spk) : x.cells[3]? = some (i64 x.b.root.prio) := id rfl
theorem Spk.s_b_root_prio (x : Spk) (v : Int) : splice x.cells 3 [i64 v] = ({ x with b := { x.b with root := { x.b.root with prio := v } } } : Spk).cells := id rfl
theorem Spk.d_b_root_mac (x : Spk) : (x.cells.drop 4).take 6 = x.b.root.mac.cells := id rfl
theorem Spk.s_b_root_mac (x : Spk) (v : Mac) : splice x.cells 4 v.cells = ({ x with b := { x.b with root := { x.b.root with mac := v } } } : Spk).cells := id rfl
theorem Spk.g_b_cost (x : Spk) : x.cells[10]? = some (i64 x.b.cost) := id rfl
theorem Spk.s_b_cost (x : Spk) (v : Int) : splice x.cells 10 [i64 v] = ({ x with b := { x.b with cost := v } } : Spk).cells := id rfl
theorem Spk.d_b_br (x : Spk) : (x.cells.drop 11).take 7 = x.b.br.cells := id rfl
theorem Spk.s_b_br (x : Spk) (v : Idn) : splice x.cells 11 v.cells = ({ x with b := { x.b with br := v } } : Spk).cells := id rfl
theorem Spk.g_b_br_prio (x : Spk) : x.cells[11]? = some (i64 x.b.br.prio) := id rfl
theorem Spk.s_b_br_prio (x : Spk) (v : Int) : splice x.cells 11 [i64 v] = ({ x with b := { x.b with br := { x.b.br with prio := v } } } : Spk).cells := id rfl
theorem Spk.d_b_br_mac (x : Spk) : (x.cells.drop 12).take 6 = x.b.br.mac.cells := id rfl
theorem Spk.s_b_br_mac (x : Spk) (v : Mac) : splice x.cells 12 v.cells = ({ x with b := { x.b with br := { x.b.br with mac := v } } } : Spk).cells := id rfl
theorem Spk.g_b_port (x : Spk) : x.cells[18]? = some (i64 x.b.port) := id rfl
theorem Spk.s_b_port (x : Spk) (v : Int) : splice x.cells 18 [i64 v] = ({ x with b := { x.b with port := v } } : Spk).cells := id rfl
theorem Spk.g_b_age (x : Spk) : x.cells[19]? = some (i64 x.b.age) := id rfl
theorem Spk.s_b_age (x : Spk) (v : Int) : splice x.cells 19 [i64 v] = ({ x with b := { x.b with age := v } } : Spk).cells := id rfl
theorem Spk.g_b_maxAge (x : Spk) : x.cells[20]? = some (i64 x.b.maxAge) := id rfl
theorem Spk.s_b_maxAge (x : Spk) (v : Int) : splice x.cells 20 [i64 v] = ({ x with b := { x.b with maxAge := v } } : Spk).cells := id rfl
theorem Spk.g_b_hello (x : Spk) : x.cells[21]? = some (i64 x.b.hello) := id rfl
theorem Spk.s_b_hello (x : Spk) (v : Int) : splice x.cells 21 [i64 v] = ({ x with b := { x.b with hello := v } } : Spk).cells := id rfl
theorem Spk.g_b_forward (x : Spk) : x.cells[22]? = some (i64 x.b.forward) := id rfl
theorem Spk.s_b_forward (x : Spk) (v : Int) : splice x.cells 22 [i64 v] = ({ x with b := { x.b with forward := v } } : Spk).cells := id rfl

attribute [push_cast] Idn.len Idn.one Idn.dw Idn.sw Idn.g_prio Idn.s_prio Idn.d_mac Idn.s_mac Vec.len Vec.one Vec.dw Vec.sw Vec.d_root Vec.s_root Vec.g_root_prio Vec.s_root_prio Vec.d_root_mac Vec.s_root_mac Vec.g_cost Vec.s_cost Vec.d_br Vec.s_br Vec.g_br_prio Vec.s_br_prio Vec.d_br_mac Vec.s_br_mac Vec.g_port Vec.s_port Vec.g_own Vec.s_own Hrd.len Hrd.one Hrd.dw Hrd.sw Hrd.g_port Hrd.s_port Hrd.g_cost Hrd.s_cost Hrd.g_up Hrd.s_up Hrd.g_has Hrd.s_has Hrd.d_v Hrd.s_v Hrd.d_v_root Hrd.s_v_root Hrd.g_v_root_prio Hrd.s_v_root_prio Hrd.d_v_root_mac Hrd.s_v_root_mac Hrd.g_v_cost Hrd.s_v_cost Hrd.d_v_br Hrd.s_v_br Hrd.g_v_br_prio Hrd.s_v_br_prio Hrd.d_v_br_mac Hrd.s_v_br_mac Hrd.g_v_port Hrd.s_v_port Hrd.g_v_own Hrd.s_v_own Prt.len Prt.one Prt.dw Prt.sw Prt.d_h Prt.s_h Prt.g_h_port Prt.s_h_port Prt.g_h_cost Prt.s_h_cost Prt.g_h_up Prt.s_h_up Prt.g_h_has Prt.s_h_has Prt.d_h_v Prt.s_h_v Prt.d_h_v_root Prt.s_h_v_root Prt.g_h_v_root_prio Prt.s_h_v_root_prio Prt.d_h_v_root_mac Prt.s_h_v_root_mac Prt.g_h_v_cost Prt.s_h_v_cost Prt.d_h_v_br Prt.s_h_v_br Prt.g_h_v_br_prio Prt.s_h_v_br_prio Prt.d_h_v_br_mac Prt.s_h_v_br_mac Prt.g_h_v_port Prt.s_h_v_port Prt.g_h_v_own Prt.s_h_v_own Prt.g_age Prt.s_age Prt.g_until Prt.s_until Prt.g_edge Prt.s_edge Prt.g_role Prt.s_role Prt.g_state Prt.s_state Prt.g_on Prt.s_on Prt.g_agreed Prt.s_agreed Prt.g_reply Prt.s_reply Bpd.len Bpd.one Bpd.dw Bpd.sw Bpd.g_kind Bpd.s_kind Bpd.g_flags Bpd.s_flags Bpd.d_root Bpd.s_root Bpd.g_root_prio Bpd.s_root_prio Bpd.d_root_mac Bpd.s_root_mac Bpd.g_cost Bpd.s_cost Bpd.d_br Bpd.s_br Bpd.g_br_prio Bpd.s_br_prio Bpd.d_br_mac Bpd.s_br_mac Bpd.g_port Bpd.s_port Bpd.g_age Bpd.s_age Bpd.g_maxAge Bpd.s_maxAge Bpd.g_hello Bpd.s_hello Bpd.g_forward Bpd.s_forward Spk.len Spk.one Spk.dw Spk.sw Spk.g_port Spk.s_port Spk.d_b Spk.s_b Spk.g_b_kind Spk.s_b_kind Spk.g_b_flags Spk.s_b_flags Spk.d_b_root Spk.s_b_root Spk.g_b_root_prio Spk.s_b_root_prio Spk.d_b_root_mac Spk.s_b_root_mac Spk.g_b_cost Spk.s_b_cost Spk.d_b_br Spk.s_b_br Spk.g_b_br_prio Spk.s_b_br_prio Spk.d_b_br_mac Spk.s_b_br_mac Spk.g_b_port Spk.s_b_port Spk.g_b_age Spk.s_b_age Spk.g_b_maxAge Spk.s_b_maxAge Spk.g_b_hello Spk.s_b_hello Spk.g_b_forward Spk.s_b_forward

def Idn.lits (x : Idn) : List Lit := [.int .i64 x.prio, .int .u8 x.mac.b0, .int .u8 x.mac.b1, .int .u8 x.mac.b2, .int .u8 x.mac.b3, .int .u8 x.mac.b4, .int .u8 x.mac.b5]
def Vec.lits (x : Vec) : List Lit := [.int .i64 x.root.prio, .int .u8 x.root.mac.b0, .int .u8 x.root.mac.b1, .int .u8 x.root.mac.b2, .int .u8 x.root.mac.b3, .int .u8 x.root.mac.b4, .int .u8 x.root.mac.b5, .int .i64 x.cost, .int .i64 x.br.prio, .int .u8 x.br.mac.b0, .int .u8 x.br.mac.b1, .int .u8 x.br.mac.b2, .int .u8 x.br.mac.b3, .int .u8 x.br.mac.b4, .int .u8 x.br.mac.b5, .int .i64 x.port, .int .i64 x.own]
def Bpd.lits (x : Bpd) : List Lit := [.int .i64 x.kind, .int .i64 x.flags, .int .i64 x.root.prio, .int .u8 x.root.mac.b0, .int .u8 x.root.mac.b1, .int .u8 x.root.mac.b2, .int .u8 x.root.mac.b3, .int .u8 x.root.mac.b4, .int .u8 x.root.mac.b5, .int .i64 x.cost, .int .i64 x.br.prio, .int .u8 x.br.mac.b0, .int .u8 x.br.mac.b1, .int .u8 x.br.mac.b2, .int .u8 x.br.mac.b3, .int .u8 x.br.mac.b4, .int .u8 x.br.mac.b5, .int .i64 x.port, .int .i64 x.age, .int .i64 x.maxAge, .int .i64 x.hello, .int .i64 x.forward]
def Spk.lits (x : Spk) : List Lit := [.int .i64 x.port, .int .i64 x.b.kind, .int .i64 x.b.flags, .int .i64 x.b.root.prio, .int .u8 x.b.root.mac.b0, .int .u8 x.b.root.mac.b1, .int .u8 x.b.root.mac.b2, .int .u8 x.b.root.mac.b3, .int .u8 x.b.root.mac.b4, .int .u8 x.b.root.mac.b5, .int .i64 x.b.cost, .int .i64 x.b.br.prio, .int .u8 x.b.br.mac.b0, .int .u8 x.b.br.mac.b1, .int .u8 x.b.br.mac.b2, .int .u8 x.b.br.mac.b3, .int .u8 x.b.br.mac.b4, .int .u8 x.b.br.mac.b5, .int .i64 x.b.port, .int .i64 x.b.age, .int .i64 x.b.maxAge, .int .i64 x.b.hello, .int .i64 x.b.forward]
def Idn.ok (x : Idn) : Prop := isI x.prio ∧ x.mac.ok
def Vec.ok (x : Vec) : Prop := x.root.ok ∧ isI x.cost ∧ x.br.ok ∧ isI x.port ∧ isI x.own
def Hrd.ok (x : Hrd) : Prop := isI x.port ∧ isI x.cost ∧ x.v.ok
def Prt.ok (x : Prt) : Prop := x.h.ok ∧ isI x.age ∧ isI x.until_ ∧ isI x.role ∧ isI x.state ∧ isI x.on
def Bpd.ok (x : Bpd) : Prop := isI x.kind ∧ isI x.flags ∧ x.root.ok ∧ isI x.cost ∧ x.br.ok ∧ isI x.port ∧ isI x.age ∧ isI x.maxAge ∧ isI x.hello ∧ isI x.forward
def Spk.ok (x : Spk) : Prop := isI x.port ∧ x.b.ok

theorem Idn.lits_inj {a b : Idn} : a.lits = b.lits ↔ a = b := by
  constructor
  · intro h
    simp only [Idn.lits, List.cons.injEq, Lit.int.injEq, Lit.bool.injEq, true_and, and_true] at h
    obtain ⟨h0, h1, h2, h3, h4, h5, h6⟩ := h
    exact (Idn.ext h0 (Mac.ext h1 h2 h3 h4 h5 h6))
  · rintro rfl; rfl
theorem Vec.lits_inj {a b : Vec} : a.lits = b.lits ↔ a = b := by
  constructor
  · intro h
    simp only [Vec.lits, List.cons.injEq, Lit.int.injEq, Lit.bool.injEq, true_and, and_true] at h
    obtain ⟨h0, h1, h2, h3, h4, h5, h6, h7, h8, h9, h10, h11, h12, h13, h14, h15, h16⟩ := h
    exact (Vec.ext (Idn.ext h0 (Mac.ext h1 h2 h3 h4 h5 h6)) h7 (Idn.ext h8 (Mac.ext h9 h10 h11 h12 h13 h14)) h15 h16)
  · rintro rfl; rfl
theorem Bpd.lits_inj {a b : Bpd} : a.lits = b.lits ↔ a = b := by
  constructor
  · intro h
    simp only [Bpd.lits, List.cons.injEq, Lit.int.injEq, Lit.bool.injEq, true_and, and_true] at h
    obtain ⟨h0, h1, h2, h3, h4, h5, h6, h7, h8, h9, h10, h11, h12, h13, h14, h15, h16, h17, h18, h19, h20, h21⟩ := h
    exact (Bpd.ext h0 h1 (Idn.ext h2 (Mac.ext h3 h4 h5 h6 h7 h8)) h9 (Idn.ext h10 (Mac.ext h11 h12 h13 h14 h15 h16)) h17 h18 h19 h20 h21)
  · rintro rfl; rfl
theorem Spk.lits_inj {a b : Spk} : a.lits = b.lits ↔ a = b := by
  constructor
  · intro h
    simp only [Spk.lits, List.cons.injEq, Lit.int.injEq, Lit.bool.injEq, true_and, and_true] at h
    obtain ⟨h0, h1, h2, h3, h4, h5, h6, h7, h8, h9, h10, h11, h12, h13, h14, h15, h16, h17, h18, h19, h20, h21, h22⟩ := h
    exact (Spk.ext h0 (Bpd.ext h1 h2 (Idn.ext h3 (Mac.ext h4 h5 h6 h7 h8 h9)) h10 (Idn.ext h11 (Mac.ext h12 h13 h14 h15 h16 h17)) h18 h19 h20 h21 h22))
  · rintro rfl; rfl

end Go.Gx
end

section
/- Ends of links: what they are, and their cells. -/
namespace Go.Gx
open Go

@[ext] structure Inf where
  prio : Int
  sys : Mac
  key : Int
  pprio : Int
  port : Int
  state : Int
  deriving DecidableEq, Inhabited

def Inf.cells (x : Inf) : List Value := [i64 x.prio, u8 x.sys.b0, u8 x.sys.b1, u8 x.sys.b2, u8 x.sys.b3, u8 x.sys.b4, u8 x.sys.b5, i64 x.key, i64 x.pprio, i64 x.port, i64 x.state]
theorem Inf.len (x : Inf) : x.cells.length = 11 := id rfl
theorem Inf.one (x : Inf) : x.cells.all S.oneCell = true := id rfl
theorem Inf.dw (x : Inf) : (x.cells.drop 0).take 11 = x.cells := id rfl
theorem Inf.sw (x y : Inf) : splice x.cells 0 y.cells = y.cells := id rfl
theorem Inf.g_prio (x : Inf) : x.cells[0]? = some (i64 x.prio) := id rfl
theorem Inf.s_prio (x : Inf) (v : Int) : splice x.cells 0 [i64 v] = ({ x with prio := v } : Inf).cells := id rfl
theorem Inf.d_sys (x : Inf) : (x.cells.drop 1).take 6 = x.sys.cells := id rfl
theorem Inf.s_sys (x : Inf) (v : Mac) : splice x.cells 1 v.cells = ({ x with sys := v } : Inf).cells := id rfl
theorem Inf.g_key (x : Inf) : x.cells[7]? = some (i64 x.key) := id rfl
theorem Inf.s_key (x : Inf) (v : Int) : splice x.cells 7 [i64 v] = ({ x with key := v } : Inf).cells := id rfl
theorem Inf.g_pprio (x : Inf) : x.cells[8]? = some (i64 x.pprio) := id rfl
theorem Inf.s_pprio (x : Inf) (v : Int) : splice x.cells 8 [i64 v] = ({ x with pprio := v } : Inf).cells := id rfl
theorem Inf.g_port (x : Inf) : x.cells[9]? = some (i64 x.port) := id rfl
theorem Inf.s_port (x : Inf) (v : Int) : splice x.cells 9 [i64 v] = ({ x with port := v } : Inf).cells := id rfl
theorem Inf.g_state (x : Inf) : x.cells[10]? = some (i64 x.state) := id rfl
theorem Inf.s_state (x : Inf) (v : Int) : splice x.cells 10 [i64 v] = ({ x with state := v } : Inf).cells := id rfl

@[ext] structure Lcp where
  actor : Inf
  partner : Inf
  delay : Int
  deriving DecidableEq, Inhabited

def Lcp.cells (x : Lcp) : List Value := [i64 x.actor.prio, u8 x.actor.sys.b0, u8 x.actor.sys.b1, u8 x.actor.sys.b2, u8 x.actor.sys.b3, u8 x.actor.sys.b4, u8 x.actor.sys.b5, i64 x.actor.key, i64 x.actor.pprio, i64 x.actor.port, i64 x.actor.state, i64 x.partner.prio, u8 x.partner.sys.b0, u8 x.partner.sys.b1, u8 x.partner.sys.b2, u8 x.partner.sys.b3, u8 x.partner.sys.b4, u8 x.partner.sys.b5, i64 x.partner.key, i64 x.partner.pprio, i64 x.partner.port, i64 x.partner.state, i64 x.delay]
theorem Lcp.len (x : Lcp) : x.cells.length = 23 := id rfl
theorem Lcp.one (x : Lcp) : x.cells.all S.oneCell = true := id rfl
theorem Lcp.dw (x : Lcp) : (x.cells.drop 0).take 23 = x.cells := id rfl
theorem Lcp.sw (x y : Lcp) : splice x.cells 0 y.cells = y.cells := id rfl
theorem Lcp.d_actor (x : Lcp) : (x.cells.drop 0).take 11 = x.actor.cells := id rfl
theorem Lcp.s_actor (x : Lcp) (v : Inf) : splice x.cells 0 v.cells = ({ x with actor := v } : Lcp).cells := id rfl
theorem Lcp.g_actor_prio (x : Lcp) : x.cells[0]? = some (i64 x.actor.prio) := id rfl
theorem Lcp.s_actor_prio (x : Lcp) (v : Int) : splice x.cells 0 [i64 v] = ({ x with actor := { x.actor with prio := v } } : Lcp).cells := id rfl
theorem Lcp.d_actor_sys (x : Lcp) : (x.cells.drop 1).take 6 = x.actor.sys.cells := id rfl
theorem Lcp.s_actor_sys (x : Lcp) (v : Mac) : splice x.cells 1 v.cells = ({ x with actor := { x.actor with sys := v } } : Lcp).cells := id rfl
theorem Lcp.g_actor_key (x : Lcp) : x.cells[7]? = some (i64 x.actor.key) := id rfl
theorem Lcp.s_actor_key (x : Lcp) (v : Int) : splice x.cells 7 [i64 v] = ({ x with actor := { x.actor with key := v } } : Lcp).cells := id rfl
theorem Lcp.g_actor_pprio (x : Lcp) : x.cells[8]? = some (i64 x.actor.pprio) := id rfl
theorem Lcp.s_actor_pprio (x : Lcp) (v : Int) : splice x.cells 8 [i64 v] = ({ x with actor := { x.actor with pprio := v } } : Lcp).cells := id rfl
theorem Lcp.g_actor_port (x : Lcp) : x.cells[9]? = some (i64 x.actor.port) := id rfl
theorem Lcp.s_actor_port (x : Lcp) (v : Int) : splice x.cells 9 [i64 v] = ({ x with actor := { x.actor with port := v } } : Lcp).cells := id rfl
theorem Lcp.g_actor_state (x : Lcp) : x.cells[10]? = some (i64 x.actor.state) := id rfl
theorem Lcp.s_actor_state (x : Lcp) (v : Int) : splice x.cells 10 [i64 v] = ({ x with actor := { x.actor with state := v } } : Lcp).cells := id rfl
theorem Lcp.d_partner (x : Lcp) : (x.cells.drop 11).take 11 = x.partner.cells := id rfl
theorem Lcp.s_partner (x : Lcp) (v : Inf) : splice x.cells 11 v.cells = ({ x with partner := v } : Lcp).cells := id rfl
theorem Lcp.g_partner_prio (x : Lcp) : x.cells[11]? = some (i64 x.partner.prio) := id rfl
theorem Lcp.s_partner_prio (x : Lcp) (v : Int) : splice x.cells 11 [i64 v] = ({ x with partner := { x.partner with prio := v } } : Lcp).cells := id rfl
theorem Lcp.d_partner_sys (x : Lcp) : (x.cells.drop 12).take 6 = x.partner.sys.cells := id rfl
theorem Lcp.s_partner_sys (x : Lcp) (v : Mac) : splice x.cells 12 v.cells = ({ x with partner := { x.partner with sys := v } } : Lcp).cells := id rfl
theorem Lcp.g_partner_key (x : Lcp) : x.cells[18]? = some (i64 x.partner.key) := id rfl
theorem Lcp.s_partner_key (x : Lcp) (v : Int) : splice x.cells 18 [i64 v] = ({ x with partner := { x.partner with key := v } } : Lcp).cells := id rfl
theorem Lcp.g_partner_pprio (x : Lcp) : x.cells[19]? = some (i64 x.partner.pprio) := id rfl
theorem Lcp.s_partner_pprio (x : Lcp) (v : Int) : splice x.cells 19 [i64 v] = ({ x with partner := { x.partner with pprio := v } } : Lcp).cells := id rfl
theorem Lcp.g_partner_port (x : Lcp) : x.cells[20]? = some (i64 x.partner.port) := id rfl
theorem Lcp.s_partner_port (x : Lcp) (v : Int) : splice x.cells 20 [i64 v] = ({ x with partner := { x.partner with port := v } } : Lcp).cells := id rfl
theorem Lcp.g_partner_state (x : Lcp) : x.cells[21]? = some (i64 x.partner.state) := id rfl
theorem Lcp.s_partner_state (x : Lcp) (v : Int) : splice x.cells 21 [i64 v] = ({ x with partner := { x.partner with state := v } } : Lcp).cells := id rfl
theorem Lcp.g_delay (x : Lcp) : x.cells[22]? = some (i64 x.delay) := id rfl
theorem Lcp.s_delay (x : Lcp) (v : Int) : splice x.cells 22 [i64 v] = ({ x with delay := v } : Lcp).cells := id rfl

@[ext] structure Tld where
  port : Int
  l : Lcp
  deriving DecidableEq, Inhabited

def Tld.cells (x : Tld) : List Value := [i64 x.port, i64 x.l.actor.prio, u8 x.l.actor.sys.b0, u8 x.l.actor.sys.b1, u8 x.l.actor.sys.b2, u8 x.l.actor.sys.b3, u8 x.l.actor.sys.b4, u8 x.l.actor.sys.b5, i64 x.l.actor.key, i64 x.l.actor.pprio, i64 x.l.actor.port, i64 x.l.actor.state, i64 x.l.partner.prio, u8 x.l.partner.sys.b0, u8 x.l.partner.sys.b1, u8 x.l.partner.sys.b2, u8 x.l.partner.sys.b3, u8 x.l.partner.sys.b4, u8 x.l.partner.sys.b5, i64 x.l.partner.key, i64 x.l.partner.pprio, i64 x.l.partner.port, i64 x.l.partner.state, i64 x.l.delay]
theorem Tld.len (x : Tld) : x.cells.length = 24 := id rfl
theorem Tld.one (x : Tld) : x.cells.all S.oneCell = true := id rfl
theorem Tld.dw (x : Tld) : (x.cells.drop 0).take 24 = x.cells := id rfl
theorem Tld.sw (x y : Tld) : splice x.cells 0 y.cells = y.cells := id rfl
theorem Tld.g_port (x : Tld) : x.cells[0]? = some (i64 x.port) := id rfl
theorem Tld.s_port (x : Tld) (v : Int) : splice x.cells 0 [i64 v] = ({ x with port := v } : Tld).cells := id rfl
theorem Tld.d_l (x : Tld) : (x.cells.drop 1).take 23 = x.l.cells := id rfl
theorem Tld.s_l (x : Tld) (v : Lcp) : splice x.cells 1 v.cells = ({ x with l := v } : Tld).cells := id rfl
theorem Tld.d_l_actor (x : Tld) : (x.cells.drop 1).take 11 = x.l.actor.cells := id rfl
theorem Tld.s_l_actor (x : Tld) (v : Inf) : splice x.cells 1 v.cells = ({ x with l := { x.l with actor := v } } : Tld).cells := id rfl
theorem Tld.g_l_actor_prio (x : Tld) : x.cells[1]? = some (i64 x.l.actor.prio) := id rfl
theorem Tld.s_l_actor_prio (x : Tld) (v : Int) : splice x.cells 1 [i64 v] = ({ x with l := { x.l with actor := { x.l.actor with prio := v } } } : Tld).cells := id rfl
theorem Tld.d_l_actor_sys (x : Tld) : (x.cells.drop 2).take 6 = x.l.actor.sys.cells := id rfl
theorem Tld.s_l_actor_sys (x : Tld) (v : Mac) : splice x.cells 2 v.cells = ({ x with l := { x.l with actor := { x.l.actor with sys := v } } } : Tld).cells := id rfl
theorem Tld.g_l_actor_key (x : Tld) : x.cells[8]? = some (i64 x.l.actor.key) := id rfl
theorem Tld.s_l_actor_key (x : Tld) (v : Int) : splice x.cells 8 [i64 v] = ({ x with l := { x.l with actor := { x.l.actor with key := v } } } : Tld).cells := id rfl
theorem Tld.g_l_actor_pprio (x : Tld) : x.cells[9]? = some (i64 x.l.actor.pprio) := id rfl
theorem Tld.s_l_actor_pprio (x : Tld) (v : Int) : splice x.cells 9 [i64 v] = ({ x with l := { x.l with actor := { x.l.actor with pprio := v } } } : Tld).cells := id rfl
theorem Tld.g_l_actor_port (x : Tld) : x.cells[10]? = some (i64 x.l.actor.port) := id rfl
theorem Tld.s_l_actor_port (x : Tld) (v : Int) : splice x.cells 10 [i64 v] = ({ x with l := { x.l with actor := { x.l.actor with port := v } } } : Tld).cells := id rfl
theorem Tld.g_l_actor_state (x : Tld) : x.cells[11]? = some (i64 x.l.actor.state) := id rfl
theorem Tld.s_l_actor_state (x : Tld) (v : Int) : splice x.cells 11 [i64 v] = ({ x with l := { x.l with actor := { x.l.actor with state := v } } } : Tld).cells := id rfl
theorem Tld.d_l_partner (x : Tld) : (x.cells.drop 12).take 11 = x.l.partner.cells := id rfl
theorem Tld.s_l_partner (x : Tld) (v : Inf) : splice x.cells 12 v.cells = ({ x with l := { x.l with partner := v } } : Tld).cells := id rfl
theorem Tld.g_l_partner_prio (x : Tld) : x.cells[12]? = some (i64 x.l.partner.prio) := id rfl
theorem Tld.s_l_partner_prio (x : Tld) (v : Int) : splice x.cells 12 [i64 v] = ({ x with l := { x.l with partner := { x.l.partner with prio := v } } } : Tld).cells := id rfl
theorem Tld.d_l_partner_sys (x : Tld) : (x.cells.drop 13).take 6 = x.l.partner.sys.cells := id rfl
theorem Tld.s_l_partner_sys (x : Tld) (v : Mac) : splice x.cells 13 v.cells = ({ x with l := { x.l with partner := { x.l.partner with sys := v } } } : Tld).cells := id rfl
theorem Tld.g_l_partner_key (x : Tld) : x.cells[19]? = some (i64 x.l.partner.key) := id rfl
theorem Tld.s_l_partner_key (x : Tld) (v : Int) : splice x.cells 19 [i64 v] = ({ x with l := { x.l with partner := { x.l.partner with key := v } } } : Tld).cells := id rfl
theorem Tld.g_l_partner_pprio (x : Tld) : x.cells[20]? = some (i64 x.l.partner.pprio) := id rfl
theorem Tld.s_l_partner_pprio (x : Tld) (v : Int) : splice x.cells 20 [i64 v] = ({ x with l := { x.l with partner := { x.l.partner with pprio := v } } } : Tld).cells := id rfl
theorem Tld.g_l_partner_port (x : Tld) : x.cells[21]? = some (i64 x.l.partner.port) := id rfl
theorem Tld.s_l_partner_port (x : Tld) (v : Int) : splice x.cells 21 [i64 v] = ({ x with l := { x.l with partner := { x.l.partner with port := v } } } : Tld).cells := id rfl
theorem Tld.g_l_partner_state (x : Tld) : x.cells[22]? = some (i64 x.l.partner.state) := id rfl
theorem Tld.s_l_partner_state (x : Tld) (v : Int) : splice x.cells 22 [i64 v] = ({ x with l := { x.l with partner := { x.l.partner with state := v } } } : Tld).cells := id rfl
theorem Tld.g_l_delay (x : Tld) : x.cells[23]? = some (i64 x.l.delay) := id rfl
theorem Tld.s_l_delay (x : Tld) (v : Int) : splice x.cells 23 [i64 v] = ({ x with l := { x.l with delay := v } } : Tld).cells := id rfl

@[ext] structure Edp where
  own : Inf
  partner : Inf
  state : Int
  mux : Int
  from_ : Int
  deriving DecidableEq, Inhabited

def Edp.cells (x : Edp) : List Value := [i64 x.own.prio, u8 x.own.sys.b0, u8 x.own.sys.b1, u8 x.own.sys.b2, u8 x.own.sys.b3, u8 x.own.sys.b4, u8 x.own.sys.b5, i64 x.own.key, i64 x.own.pprio, i64 x.own.port, i64 x.own.state, i64 x.partner.prio, u8 x.partner.sys.b0, u8 x.partner.sys.b1, u8 x.partner.sys.b2, u8 x.partner.sys.b3, u8 x.partner.sys.b4, u8 x.partner.sys.b5, i64 x.partner.key, i64 x.partner.pprio, i64 x.partner.port, i64 x.partner.state, i64 x.state, i64 x.mux, i64 x.from_]
theorem Edp.len (x : Edp) : x.cells.length = 25 := id rfl
theorem Edp.one (x : Edp) : x.cells.all S.oneCell = true := id rfl
theorem Edp.dw (x : Edp) : (x.cells.drop 0).take 25 = x.cells := id rfl
theorem Edp.sw (x y : Edp) : splice x.cells 0 y.cells = y.cells := id rfl
theorem Edp.d_own (x : Edp) : (x.cells.drop 0).take 11 = x.own.cells := id rfl
theorem Edp.s_own (x : Edp) (v : Inf) : splice x.cells 0 v.cells = ({ x with own := v } : Edp).cells := id rfl
theorem Edp.g_own_prio (x : Edp) : x.cells[0]? = some (i64 x.own.prio) := id rfl
theorem Edp.s_own_prio (x : Edp) (v : Int) : splice x.cells 0 [i64 v] = ({ x with own := { x.own with prio := v } } : Edp).cells := id rfl
theorem Edp.d_own_sys (x : Edp) : (x.cells.drop 1).take 6 = x.own.sys.cells := id rfl
theorem Edp.s_own_sys (x : Edp) (v : Mac) : splice x.cells 1 v.cells = ({ x with own := { x.own with sys := v } } : Edp).cells := id rfl
theorem Edp.g_own_key (x : Edp) : x.cells[7]? = some (i64 x.own.key) := id rfl
theorem Edp.s_own_key (x : Edp) (v : Int) : splice x.cells 7 [i64 v] = ({ x with own := { x.own with key := v } } : Edp).cells := id rfl
theorem Edp.g_own_pprio (x : Edp) : x.cells[8]? = some (i64 x.own.pprio) := id rfl
theorem Edp.s_own_pprio (x : Edp) (v : Int) : splice x.cells 8 [i64 v] = ({ x with own := { x.own with pprio := v } } : Edp).cells := id rfl
theorem Edp.g_own_port (x : Edp) : x.cells[9]? = some (i64 x.own.port) := id rfl
theorem Edp.s_own_port (x : Edp) (v : Int) : splice x.cells 9 [i64 v] = ({ x with own := { x.own with port := v } } : Edp).cells := id rfl
theorem Edp.g_own_state (x : Edp) : x.cells[10]? = some (i64 x.own.state) := id rfl
theorem Edp.s_own_state (x : Edp) (v : Int) : splice x.cells 10 [i64 v] = ({ x with own := { x.own with state := v } } : Edp).cells := id rfl
theorem Edp.d_partner (x : Edp) : (x.cells.drop 11).take 11 = x.partner.cells := id rfl
theorem Edp.s_partner (x : Edp) (v : Inf) : splice x.cells 11 v.cells = ({ x with partner := v } : Edp).cells := id rfl
theorem Edp.g_partner_prio (x : Edp) : x.cells[11]? = some (i64 x.partner.prio) := id rfl
theorem Edp.s_partner_prio (x : Edp) (v : Int) : splice x.cells 11 [i64 v] = ({ x with partner := { x.partner with prio := v } } : Edp).cells := id rfl
theorem Edp.d_partner_sys (x : Edp) : (x.cells.drop 12).take 6 = x.partner.sys.cells := id rfl
theorem Edp.s_partner_sys (x : Edp) (v : Mac) : splice x.cells 12 v.cells = ({ x with partner := { x.partner with sys := v } } : Edp).cells := id rfl
theorem Edp.g_partner_key (x : Edp) : x.cells[18]? = some (i64 x.partner.key) := id rfl
theorem Edp.s_partner_key (x : Edp) (v : Int) : splice x.cells 18 [i64 v] = ({ x with partner := { x.partner with key := v } } : Edp).cells := id rfl
theorem Edp.g_partner_pprio (x : Edp) : x.cells[19]? = some (i64 x.partner.pprio) := id rfl
theorem Edp.s_partner_pprio (x : Edp) (v : Int) : splice x.cells 19 [i64 v] = ({ x with partner := { x.partner with pprio := v } } : Edp).cells := id rfl
theorem Edp.g_partner_port (x : Edp) : x.cells[20]? = some (i64 x.partner.port) := id rfl
theorem Edp.s_partner_port (x : Edp) (v : Int) : splice x.cells 20 [i64 v] = ({ x with partner := { x.partner with port := v } } : Edp).cells := id rfl
theorem Edp.g_partner_state (x : Edp) : x.cells[21]? = some (i64 x.partner.state) := id rfl
theorem Edp.s_partner_state (x : Edp) (v : Int) : splice x.cells 21 [i64 v] = ({ x with partner := { x.partner with state := v } } : Edp).cells := id rfl
theorem Edp.g_state (x : Edp) : x.cells[22]? = some (i64 x.state) := id rfl
theorem Edp.s_state (x : Edp) (v : Int) : splice x.cells 22 [i64 v] = ({ x with state := v } : Edp).cells := id rfl
theorem Edp.g_mux (x : Edp) : x.cells[23]? = some (i64 x.mux) := id rfl
theorem Edp.s_mux (x : Edp) (v : Int) : splice x.cells 23 [i64 v] = ({ x with mux := v } : Edp).cells := id rfl
theorem Edp.g_from (x : Edp) : x.cells[24]? = some (i64 x.from_) := id rfl
theorem Edp.s_from (x : Edp) (v : Int) : splice x.cells 24 [i64 v] = ({ x with from_ := v } : Edp).cells := id rfl

@[ext] structure Mxx where
  state : Int
  from_ : Int
  deriving DecidableEq, Inhabited

def Mxx.cells (x : Mxx) : List Value := [i64 x.state, i64 x.from_]
theorem Mxx.len (x : Mxx) : x.cells.length = 2 := id rfl
theorem Mxx.one (x : Mxx) : x.cells.all S.oneCell = true := id rfl
theorem Mxx.dw (x : Mxx) : (x.cells.drop 0).take 2 = x.cells := id rfl
theorem Mxx.sw (x y : Mxx) : splice x.cells 0 y.cells = y.cells := id rfl
theorem Mxx.g_state (x : Mxx) : x.cells[0]? = some (i64 x.state) := id rfl
theorem Mxx.s_state (x : Mxx) (v : Int) : splice x.cells 0 [i64 v] = ({ x with state := v } : Mxx).cells := id rfl
theorem Mxx.g_from (x : Mxx) : x.cells[1]? = some (i64 x.from_) := id rfl
theorem Mxx.s_from (x : Mxx) (v : Int) : splice x.cells 1 [i64 v] = ({ x with from_ := v } : Mxx).cells := id rfl

@[ext] structure Ast where
  dO : Int
  port : Int
  now : Int
  is_ : Bool
  l : Lcp
  deriving DecidableEq, Inhabited

def Ast.cells (x : Ast) : List Value := [i64 x.dO, i64 x.port, i64 x.now, .bool x.is_, i64 x.l.actor.prio, u8 x.l.actor.sys.b0, u8 x.l.actor.sys.b1, u8 x.l.actor.sys.b2, u8 x.l.actor.sys.b3, u8 x.l.actor.sys.b4, u8 x.l.actor.sys.b5, i64 x.l.actor.key, i64 x.l.actor.pprio, i64 x.l.actor.port, i64 x.l.actor.state, i64 x.l.partner.prio, u8 x.l.partner.sys.b0, u8 x.l.partner.sys.b1, u8 x.l.partner.sys.b2, u8 x.l.partner.sys.b3, u8 x.l.partner.sys.b4, u8 x.l.partner.sys.b5, i64 x.l.partner.key, i64 x.l.partner.pprio, i64 x.l.partner.port, i64 x.l.partner.state, i64 x.l.delay]
theorem Ast.len (x : Ast) : x.cells.length = 27 := id rfl
theorem Ast.one (x : Ast) : x.cells.all S.oneCell = true := id rfl
theorem Ast.dw (x : Ast) : (x.cells.drop 0).take 27 = x.cells := id rfl
theorem Ast.sw (x y : Ast) : splice x.cells 0 y.cells = y.cells := id rfl
theorem Ast.g_dO (x : Ast) : x.cells[0]? = some (i64 x.dO) := id rfl
theorem Ast.s_dO (x : Ast) (v : Int) : splice x.cells 0 [i64 v] = ({ x with dO := v } : Ast).cells := id rfl
theorem Ast.g_port (x : Ast) : x.cells[1]? = some (i64 x.port) := id rfl
theorem Ast.s_port (x : Ast) (v : Int) : splice x.cells 1 [i64 v] = ({ x with port := v } : Ast).cells := id rfl
theorem Ast.g_now (x : Ast) : x.cells[2]? = some (i64 x.now) := id rfl
theorem Ast.s_now (x : Ast) (v : Int) : splice x.cells 2 [i64 v] = ({ x with now := v } : Ast).cells := id rfl
theorem Ast.g_is (x : Ast) : x.cells[3]? = some (.bool x.is_) := id rfl
theorem Ast.s_is (x : Ast) (v : Bool) : splice x.cells 3 [.bool v] = ({ x with is_ := v } : Ast).cells := id rfl
theorem Ast.d_l (x : Ast) : (x.cells.drop 4).take 23 = x.l.cells := id rfl
theorem Ast.s_l (x : Ast) (v : Lcp) : splice x.cells 4 v.cells = ({ x with l := v } : Ast).cells := id rfl
theorem Ast.d_l_actor (x : Ast) : (x.cells.drop 4).take 11 = x.l.actor.cells := id rfl
theorem Ast.s_l_actor (x : Ast) (v : Inf) : splice x.cells 4 v.cells = ({ x with l := { x.l with actor := v } } : Ast).cells := id rfl
theorem Ast.g_l_actor_prio (x : Ast) : x.cells[4]? = some (i64 x.l.actor.prio) := id rfl
theorem Ast.s_l_actor_prio (x : Ast) (v : Int) : splice x.cells 4 [i64 v] = ({ x with l := { x.l with actor := { x.l.actor with prio := v } } } : Ast).cells := id rfl
theorem Ast.d_l_actor_sys (x : Ast) : (x.cells.drop 5).take 6 = x.l.actor.sys.cells := id rfl
theorem Ast.s_l_actor_sys (x : Ast) (v : Mac) : splice x.cells 5 v.cells = ({ x with l := { x.l with actor := { x.l.actor with sys := v } } } : Ast).cells := id rfl
theorem Ast.g_l_actor_key (x : Ast) : x.cells[11]? = some (i64 x.l.actor.key) := id rfl
theorem Ast.s_l_actor_key (x : Ast) (v : Int) : splice x.cells 11 [i64 v] = ({ x with l := { x.l with actor := { x.l.actor with key := v } } } : Ast).cells := id rfl
theorem Ast.g_l_actor_pprio (x : Ast) : x.cells[12]? = some (i64 x.l.actor.pprio) := id rfl
theorem Ast.s_l_actor_pprio (x : Ast) (v : Int) : splice x.cells 12 [i64 v] = ({ x with l := { x.l with actor := { x.l.actor with pprio := v } } } : Ast).cells := id rfl
theorem Ast.g_l_actor_port (x : Ast) : x.cells[13]? = some (i64 x.l.actor.port) := id rfl
theorem Ast.s_l_actor_port (x : Ast) (v : Int) : splice x.cells 13 [i64 v] = ({ x with l := { x.l with actor := { x.l.actor with port := v } } } : Ast).cells := id rfl
theorem Ast.g_l_actor_state (x : Ast) : x.cells[14]? = some (i64 x.l.actor.state) := id rfl
theorem Ast.s_l_actor_state (x : Ast) (v : Int) : splice x.cells 14 [i64 v] = ({ x with l := { x.l with actor := { x.l.actor with state := v } } } : Ast).cells := id rfl
theorem Ast.d_l_partner (x : Ast) : (x.cells.drop 15).take 11 = x.l.partner.cells := id rfl
theorem Ast.s_l_partner (x : Ast) (v : Inf) : splice x.cells 15 v.cells = ({ x with l := { x.l with partner := v } } : Ast).cells := id rfl
theorem Ast.g_l_partner_prio (x : Ast) : x.cells[15]? = some (i64 x.l.partner.prio) := id rfl
theorem Ast.s_l_partner_prio (x : Ast) (v : Int) : splice x.cells 15 [i64 v] = ({ x with l := { x.l with partner := { x.l.partner with prio := v } } } : Ast).cells := id rfl
theorem Ast.d_l_partner_sys (x : Ast) : (x.cells.drop 16).take 6 = x.l.partner.sys.cells := id rfl
theorem Ast.s_l_partner_sys (x : Ast) (v : Mac) : splice x.cells 16 v.cells = ({ x with l := { x.l with partner := { x.l.partner with sys := v } } } : Ast).cells := id rfl
theorem Ast.g_l_partner_key (x : Ast) : x.cells[22]? = some (i64 x.l.partner.key) := id rfl
theorem Ast.s_l_partner_key (x : Ast) (v : Int) : splice x.cells 22 [i64 v] = ({ x with l := { x.l with partner := { x.l.partner with key := v } } } : Ast).cells := id rfl
theorem Ast.g_l_partner_pprio (x : Ast) : x.cells[23]? = some (i64 x.l.partner.pprio) := id rfl
theorem Ast.s_l_partner_pprio (x : Ast) (v : Int) : splice x.cells 23 [i64 v] = ({ x with l := { x.l with partner := { x.l.partner with pprio := v } } } : Ast).cells := id rfl
theorem Ast.g_l_partner_port (x : Ast) : x.cells[24]? = some (i64 x.l.partner.port) := id rfl
theorem Ast.s_l_partner_port (x : Ast) (v : Int) : splice x.cells 24 [i64 v] = ({ x with l := { x.l with partner := { x.l.partner with port := v } } } : Ast).cells := id rfl
theorem Ast.g_l_partner_state (x : Ast) : x.cells[25]? = some (i64 x.l.partner.state) := id rfl
theorem Ast.s_l_partner_state (x : Ast) (v : Int) : splice x.cells 25 [i64 v] = ({ x with l := { x.l with partner := { x.l.partner with state := v } } } : Ast).cells := id rfl
theorem Ast.g_l_delay (x : Ast) : x.cells[26]? = some (i64 x.l.delay) := id rfl
theorem Ast.s_l_delay (x : Ast) (v : Int) : splice x.cells 26 [i64 v] = ({ x with l := { x.l with delay := v } } : Ast).cells := id rfl

attribute [push_cast] Inf.len Inf.one Inf.dw Inf.sw Inf.g_prio Inf.s_prio Inf.d_sys Inf.s_sys Inf.g_key Inf.s_key Inf.g_pprio Inf.s_pprio Inf.g_port Inf.s_port Inf.g_state Inf.s_state Lcp.len Lcp.one Lcp.dw Lcp.sw Lcp.d_actor Lcp.s_actor Lcp.g_actor_prio Lcp.s_actor_prio Lcp.d_actor_sys Lcp.s_actor_sys Lcp.g_actor_key Lcp.s_actor_key Lcp.g_actor_pprio Lcp.s_actor_pprio Lcp.g_actor_port Lcp.s_actor_port Lcp.g_actor_state Lcp.s_actor_state Lcp.d_partner Lcp.s_partner Lcp.g_partner_prio Lcp.s_partner_prio Lcp.d_partner_sys Lcp.s_partner_sys Lcp.g_partner_key Lcp.s_partner_key Lcp.g_partner_pprio Lcp.s_partner_pprio Lcp.g_partner_port Lcp.s_partner_port Lcp.g_partner_state Lcp.s_partner_state Lcp.g_delay Lcp.s_delay Tld.len Tld.one Tld.dw Tld.sw Tld.g_port Tld.s_port Tld.d_l Tld.s_l Tld.d_l_actor Tld.s_l_actor Tld.g_l_actor_prio Tld.s_l_actor_prio Tld.d_l_actor_sys Tld.s_l_actor_sys Tld.g_l_actor_key Tld.s_l_actor_key Tld.g_l_actor_pprio Tld.s_l_actor_pprio Tld.g_l_actor_port Tld.s_l_actor_port Tld.g_l_actor_state Tld.s_l_actor_state Tld.d_l_partner Tld.s_l_partner Tld.g_l_partner_prio Tld.s_l_partner_prio Tld.d_l_partner_sys Tld.s_l_partner_sys Tld.g_l_partner_key Tld.s_l_partner_key Tld.g_l_partner_pprio Tld.s_l_partner_pprio Tld.g_l_partner_port Tld.s_l_partner_port Tld.g_l_partner_state Tld.s_l_partner_state Tld.g_l_delay Tld.s_l_delay Edp.len Edp.one Edp.dw Edp.sw Edp.d_own Edp.s_own Edp.g_own_prio Edp.s_own_prio Edp.d_own_sys Edp.s_own_sys Edp.g_own_key Edp.s_own_key Edp.g_own_pprio Edp.s_own_pprio Edp.g_own_port Edp.s_own_port Edp.g_own_state Edp.s_own_state Edp.d_partner Edp.s_partner Edp.g_partner_prio Edp.s_partner_prio Edp.d_partner_sys Edp.s_partner_sys Edp.g_partner_key Edp.s_partner_key Edp.g_partner_pprio Edp.s_partner_pprio Edp.g_partner_port Edp.s_partner_port Edp.g_partner_state Edp.s_partner_state Edp.g_state Edp.s_state Edp.g_mux Edp.s_mux Edp.g_from Edp.s_from Mxx.len Mxx.one Mxx.dw Mxx.sw Mxx.g_state Mxx.s_state Mxx.g_from Mxx.s_from Ast.len Ast.one Ast.dw Ast.sw Ast.g_dO Ast.s_dO Ast.g_port Ast.s_port Ast.g_now Ast.s_now Ast.g_is Ast.s_is Ast.d_l Ast.s_l Ast.d_l_actor Ast.s_l_actor Ast.g_l_actor_prio Ast.s_l_actor_prio Ast.d_l_actor_sys Ast.s_l_actor_sys Ast.g_l_actor_key Ast.s_l_actor_key Ast.g_l_actor_pprio Ast.s_l_actor_pprio Ast.g_l_actor_port Ast.s_l_actor_port Ast.g_l_actor_state Ast.s_l_actor_state Ast.d_l_partner Ast.s_l_partner Ast.g_l_partner_prio Ast.s_l_partner_prio Ast.d_l_partner_sys Ast.s_l_partner_sys Ast.g_l_partner_key Ast.s_l_partner_key Ast.g_l_partner_pprio Ast.s_l_partner_pprio Ast.g_l_partner_port Ast.s_l_partner_port Ast.g_l_partner_state Ast.s_l_partner_state Ast.g_l_delay Ast.s_l_delay

def Inf.lits (x : Inf) : List Lit := [.int .i64 x.prio, .int .u8 x.sys.b0, .int .u8 x.sys.b1, .int .u8 x.sys.b2, .int .u8 x.sys.b3, .int .u8 x.sys.b4, .int .u8 x.sys.b5, .int .i64 x.key, .int .i64 x.pprio, .int .i64 x.port, .int .i64 x.state]
def Lcp.lits (x : Lcp) : List Lit := [.int .i64 x.actor.prio, .int .u8 x.actor.sys.b0, .int .u8 x.actor.sys.b1, .int .u8 x.actor.sys.b2, .int .u8 x.actor.sys.b3, .int .u8 x.actor.sys.b4, .int .u8 x.actor.sys.b5, .int .i64 x.actor.key, .int .i64 x.actor.pprio, .int .i64 x.actor.port, .int .i64 x.actor.state, .int .i64 x.partner.prio, .int .u8 x.partner.sys.b0, .int .u8 x.partner.sys.b1, .int .u8 x.partner.sys.b2, .int .u8 x.partner.sys.b3, .int .u8 x.partner.sys.b4, .int .u8 x.partner.sys.b5, .int .i64 x.partner.key, .int .i64 x.partner.pprio, .int .i64 x.partner.port, .int .i64 x.partner.state, .int .i64 x.delay]
def Tld.lits (x : Tld) : List Lit := [.int .i64 x.port, .int .i64 x.l.actor.prio, .int .u8 x.l.actor.sys.b0, .int .u8 x.l.actor.sys.b1, .int .u8 x.l.actor.sys.b2, .int .u8 x.l.actor.sys.b3, .int .u8 x.l.actor.sys.b4, .int .u8 x.l.actor.sys.b5, .int .i64 x.l.actor.key, .int .i64 x.l.actor.pprio, .int .i64 x.l.actor.port, .int .i64 x.l.actor.state, .int .i64 x.l.partner.prio, .int .u8 x.l.partner.sys.b0, .int .u8 x.l.partner.sys.b1, .int .u8 x.l.partner.sys.b2, .int .u8 x.l.partner.sys.b3, .int .u8 x.l.partner.sys.b4, .int .u8 x.l.partner.sys.b5, .int .i64 x.l.partner.key, .int .i64 x.l.partner.pprio, .int .i64 x.l.partner.port, .int .i64 x.l.partner.state, .int .i64 x.l.delay]
def Inf.ok (x : Inf) : Prop := isI x.prio ∧ x.sys.ok ∧ isI x.key ∧ isI x.pprio ∧ isI x.port ∧ isI x.state
def Lcp.ok (x : Lcp) : Prop := x.actor.ok ∧ x.partner.ok ∧ isI x.delay
def Tld.ok (x : Tld) : Prop := isI x.port ∧ x.l.ok
def Edp.ok (x : Edp) : Prop := x.own.ok ∧ x.partner.ok ∧ isI x.state ∧ isI x.mux ∧ isI x.from_
def Mxx.ok (x : Mxx) : Prop := isI x.state ∧ isI x.from_
def Ast.ok (x : Ast) : Prop := isI x.dO ∧ isI x.port ∧ isI x.now ∧ x.l.ok

theorem Inf.lits_inj {a b : Inf} : a.lits = b.lits ↔ a = b := by
  constructor
  · intro h
    simp only [Inf.lits, List.cons.injEq, Lit.int.injEq, Lit.bool.injEq, true_and, and_true] at h
    obtain ⟨h0, h1, h2, h3, h4, h5, h6, h7, h8, h9, h10⟩ := h
    exact (Inf.ext h0 (Mac.ext h1 h2 h3 h4 h5 h6) h7 h8 h9 h10)
  · rintro rfl; rfl
theorem Lcp.lits_inj {a b : Lcp} : a.lits = b.lits ↔ a = b := by
  constructor
  · intro h
    simp only [Lcp.lits, List.cons.injEq, Lit.int.injEq, Lit.bool.injEq, true_and, and_true] at h
    obtain ⟨h0, h1, h2, h3, h4, h5, h6, h7, h8, h9, h10, h11, h12, h13, h14, h15, h16, h17, h18, h19, h20, h21, h22⟩ := h
    exact (Lcp.ext (Inf.ext h0 (Mac.ext h1 h2 h3 h4 h5 h6) h7 h8 h9 h10) (Inf.ext h11 (Mac.ext h12 h13 h14 h15 h16 h17) h18 h19 h20 h21) h22)
  · rintro rfl; rfl
theorem Tld.lits_inj {a b : Tld} : a.lits = b.lits ↔ a = b := by
  constructor
  · intro h
    simp only [Tld.lits, List.cons.injEq, Lit.int.injEq, Lit.bool.injEq, true_and, and_true] at h
    obtain ⟨h0, h1, h2, h3, h4, h5, h6, h7, h8, h9, h10, h11, h12, h13, h14, h15, h16, h17, h18, h19, h20, h21, h22, h23⟩ := h
    exact (Tld.ext h0 (Lcp.ext (Inf.ext h1 (Mac.ext h2 h3 h4 h5 h6 h7) h8 h9 h10 h11) (Inf.ext h12 (Mac.ext h13 h14 h15 h16 h17 h18) h19 h20 h21 h22) h23))
  · rintro rfl; rfl

end Go.Gx
end

section
/- What may panic, and is let go. -/
namespace Go.Gx
open Go
variable {P : Program} {K Z : Value → World → Prop} {w : World}

theorem opZ_congr {P : Program} {s s' : Sem Next} (h : s = s') (K Z : Value → World → Prop) (w : World) : opZ P s K Z w = opZ P s' K Z w := by rw [h]
theorem pifS_congr {x x' : Value} (h : x = x') (k : World → Prop) (w : World) : pifS x k w = pifS x' k w := by rw [h]
attribute [congr] opZ_congr pifS_congr

theorem opZ_cl {f : FuncId} [hf : FnB P f] (args : List Value) : opZ P (S.cl f args) K Z w = CallsZ P f args.toArray K Z w := by
  unfold S.cl S.call opZ
  have : (do
      let d ← Deferred.ofValue (.func (.func f) #[] #[]) args.toArray
      invoke d.target d.args : Sem Next) = callFunc f (#[] ++ args.toArray ++ #[]) := rfl
  rw [this, hf.enter]
  simp [uponZ]

theorem opZ_call {f : FuncId} [hf : FnB P f] (cap : Array Value) (args : List Value) : opZ P (S.call (.func (.func f) #[] cap) args) K Z w = CallsZ P f (args.toArray ++ cap) K Z w := by
  unfold S.call opZ
  have : (do
      let d ← Deferred.ofValue (.func (.func f) #[] cap) args.toArray
      invoke d.target d.args : Sem Next) = callFunc f (#[] ++ args.toArray ++ cap) := rfl
  rw [this, hf.enter]
  simp [uponZ]

theorem pifS_iface (t : TypeId) (x : Value) (k : World → Prop) (w : World) : pifS (.iface t x) k w = k w := id rfl
attribute [push_cast] opZ_cl opZ_call pifS_iface

end Go.Gx
end

section
/- Operations that tell one value each, in worlds that grow. -/
namespace Go.Gx
open Go
variable {P : Program} {K : Value → World → Prop} {w : World}

/-- a value as it is -/
def S.mv (v : Value) : Sem Next := pure (.value v)
theorem opS_mv (v : Value) : opS P (S.mv v) K w = K v w := id rfl
attribute [push_cast] opS_mv
variable {W0 : World}
/-! ### The lesser one -/

theorem opS_min {x y : Int} {k : IntKind} {ats : Array TypeId} {ty : TypeId} : opS P (S.bi .min ats ty [.int k x, .int k y]) K w = K (.int k (if x ≤ y then x else y)) w := by
  show opS P (do pure (Next.value (← Builtin.min_ ats ty #[.int k x, .int k y]))) K w = _
  rw [opS_bind]
  have : (Builtin.min_ ats ty #[.int k x, .int k y]).run P w = .ok (.int k (if x ≤ y then x else y)) w := by
    simp [Builtin.min_, Builtin.min2]
    try (split <;> simp_all <;> omega)
  rw [this]
theorem opS_max {x y : Int} {k : IntKind} {ats : Array TypeId} {ty : TypeId} : opS P (S.bi .max ats ty [.int k x, .int k y]) K w = K (.int k (if x ≤ y then y else x)) w := by
  show opS P (do pure (Next.value (← Builtin.max_ ats ty #[.int k x, .int k y]))) K w = _
  rw [opS_bind]
  have : (Builtin.max_ ats ty #[.int k x, .int k y]).run P w = .ok (.int k (if x ≤ y then y else x)) w := by
    simp [Builtin.max_, Builtin.max2]
    try (split <;> simp_all <;> omega)
  rw [this]
attribute [push_cast] opS_min opS_max

/-! ### Slices of so many elements -/

theorem mergeF_full {z : List Value} : ∀ (vs : List Value) (i : Nat), (∀ v ∈ vs, v.cells.toList.length = z.length) → mergeF i (List.replicate vs.length z) ((List.range' i vs.length).zip vs) = some (vs.flatMap fun v => v.cells.toList)
  | [], i, _ => rfl
  | v :: vs, i, h => by
    simp only [List.length_cons, List.replicate_succ, List.range'_succ, List.zip_cons_cons, mergeF, if_pos]
    rw [if_pos (h v (by simp)), mergeF_full vs (i + 1) fun u hu => h u (by simp [hu])]
    rfl

/-- a slice of elements that are given, all of them -/
theorem s_bsN {T E sz : Nat} {ag : Bool} {z : Value} [hT : SlT P T E] [hs : Sz P E sz ag] [hz : ZV P E z] (vs : List Value) (h0 : 0 < vs.length) (hsz : 0 < sz) (h24 : vs.length * sz ≤ 2 ^ 24) (hzn : z.cells.size = sz) (hv : ∀ v ∈ vs, v.cells.toList.length = sz)
    (h : ∀ v' w', OwnE E sz w' v' (vs.map fun v => v.cells.toList) → Fr none_ w w' → New w v' → K v' w') : opS P (S.buildS T vs.length ((List.range' 0 vs.length).zip vs)) K w := by
  unfold S.buildS
  rw [opS_bind]
  unfold Instr.buildSlice
  rw [Sem.run_bind, run_underlying_of hT.und, Result.andThen_ok]
  simp only []
  rw [Sem.run_bind, hs.size w, Result.andThen_ok]
  have hpos : 0 < vs.length * sz := Nat.mul_pos h0 hsz
  rw [if_neg (by omega), if_neg (by omega), Sem.run_bind, hz.zero w, Result.andThen_ok]
  have hr := range_zeros vs.length z.cells
  rw [hzn] at hr
  simp only [pure_bind, hzn, hr]
  have hzl : z.cells.toList.length = sz := by rw [Array.length_toList, hzn]
  have hm := fill_merge (place := fun i => some (i * sz, sz)) (List.replicate vs.length z.cells.toList) 0 [] ((List.range' 0 vs.length).zip vs) (vs.flatMap fun v => v.cells.toList) (fun k hk => by
    have h2 := offs_rep (z := z.cells.toList) vs.length 0 k (by simpa using hk)
    simp only [List.length_nil] at h2 ⊢
    rw [h2, hzl]; simp) (mergeF_full vs 0 fun v hvv => by rw [hv v hvv, hzl])
  simp only [List.nil_append] at hm
  have e : (zeros vs.length z.cells.toList).toArray = (List.replicate vs.length z.cells.toList).flatten.toArray := rfl
  rw [e, hm]
  have hfl : (vs.map fun v => v.cells.toList).flatten = vs.flatMap fun v => v.cells.toList := rfl
  refine h _ _ ⟨.inr ⟨w.heap.size, 0, vs.length, (vs.flatMap fun v => v.cells.toList).toArray, by rw [List.length_map], heap_alloc_new _ _, by rw [List.length_map]; exact Nat.le_refl _, ?_, ?_⟩, ?_⟩ (Fr.alloc _ _ rfl) fun b hb => by cases hb; exact Nat.le_refl _
  · rw [← hfl, List.size_toArray, flatten_len (sz := sz) (by intro x hx; obtain ⟨v, hvv, rfl⟩ := List.mem_map.1 hx; exact hv v hvv), List.length_map]; omega
  · rw [List.drop_zero, List.length_map, hfl, List.take_of_length_le]
    rw [← hfl, flatten_len (sz := sz) (by intro x hx; obtain ⟨v, hvv, rfl⟩ := List.mem_map.1 hx; exact hv v hvv), List.length_map]
    exact Nat.le_refl _
  · intro x hx; obtain ⟨v, hvv, rfl⟩ := List.mem_map.1 hx; exact hv v hvv

end Go.Gx
end

section
/- Pointers that are compared. -/
namespace Go.Gx
open Go
variable {P : Program} {K : Value → World → Prop} {w : World}

/-- a type of pointers to what has cells -/
class PtT (P : Program) (T : TypeId) : Prop where
  und : ∃ E j, P.underlying T = some (.pointer E) ∧ P.info? E = some j ∧ j.size ≠ 0

end Go.Gx
end

section
/- Links that are one: what they do, plainly. -/
set_option maxRecDepth 100000
namespace Go.Gx
open Go

/-! ### Bits -/

def bAnd (a b : Int) : Int := IntKind.i64.wrap (BitVec.ofInt 64 a &&& BitVec.ofInt 64 b).toNat
def bOr (a b : Int) : Int := IntKind.i64.wrap (BitVec.ofInt 64 a ||| BitVec.ofInt 64 b).toNat
def bXor (a b : Int) : Int := IntKind.i64.wrap (BitVec.ofInt 64 a ^^^ BitVec.ofInt 64 b).toNat
def bClr (a b : Int) : Int := IntKind.i64.wrap (BitVec.ofInt 64 a &&& ~~~ BitVec.ofInt 64 b).toNat

section
variable {P : Program} {K : Value → World → Prop} {w : World}
theorem s_bAnd (a b : Int) : opS P (S.binI .and (.int .i64 a) (.int .i64 b)) K w = K (.int .i64 (bAnd a b)) w := id rfl
theorem s_bOr (a b : Int) : opS P (S.binI .or (.int .i64 a) (.int .i64 b)) K w = K (.int .i64 (bOr a b)) w := id rfl
theorem s_bXor (a b : Int) : opS P (S.binI .xor (.int .i64 a) (.int .i64 b)) K w = K (.int .i64 (bXor a b)) w := id rfl
theorem s_bClr (a b : Int) : opS P (S.binI .andNot (.int .i64 a) (.int .i64 b)) K w = K (.int .i64 (bClr a b)) w := id rfl
end
attribute [push_cast] s_bAnd s_bOr s_bXor s_bClr

def isSt (n : Int) : Prop := 0 ≤ n ∧ n ≤ 255
instance (n : Int) : Decidable (isSt n) := by unfold isSt; infer_instance
theorem isSt.fin {n : Int} (h : isSt n) : ∃ k : Fin 256, n = (k.1 : Int) := by
  obtain ⟨h0, h1⟩ := h
  exact ⟨⟨n.toNat, by omega⟩, by simp; omega⟩
theorem isSt.i {n : Int} (h : isSt n) : isI n := by unfold isSt at h; exact isI_iff.2 (by omega)
theorem st_all {p : Int → Prop} (h : ∀ k : Fin 256, p (k.1 : Int)) {n : Int} (hn : isSt n) : p n := by
  obtain ⟨k, rfl⟩ := hn.fin
  exact h k

theorem st_clr8 {n : Int} (h : isSt n) : isSt (bClr n 8) := st_all (p := fun n => isSt (bClr n 8)) (by decide +kernel) h
theorem st_old {n : Int} (h : isSt n) : isSt (bOr (bClr n 8) 2) := st_all (p := fun n => isSt (bOr (bClr n 8) 2)) (by decide +kernel) h
theorem st_or64 {n : Int} (h : isSt n) : isSt (bOr n 64) := st_all (p := fun n => isSt (bOr n 64)) (by decide +kernel) h
theorem st_or128 {n : Int} (h : isSt n) : isSt (bOr n 128) := st_all (p := fun n => isSt (bOr n 128)) (by decide +kernel) h
/-! ### An end -/

def momOk (n : Int) : Prop := 0 ≤ n ∧ n ≤ 1099511627776
instance (n : Int) : Decidable (momOk n) := by unfold momOk; infer_instance
theorem momOk.i {n : Int} (h : momOk n) : isI n := by unfold momOk at h; exact isI_iff.2 (by omega)

def wth (most n : Int) : Prop := 0 ≤ n ∧ n ≤ most
instance (m n : Int) : Decidable (wth m n) := by unfold wth; infer_instance
def Inf.right (x : Inf) : Prop := wth 65535 x.prio ∧ wth 65535 x.key ∧ wth 65535 x.pprio ∧ wth 65535 x.port ∧ wth 255 x.state
instance (x : Inf) : Decidable x.right := by unfold Inf.right; infer_instance
def Lcp.right (x : Lcp) : Prop := x.actor.right ∧ x.partner.right ∧ wth 65535 x.delay
instance (x : Lcp) : Decidable x.right := by unfold Lcp.right; infer_instance

/-- whether one end knows the other one -/
def knowsP (p a : Inf) : Bool :=
  decide ({ p with state := 0 } = { a with state := 0 }) && decide (bAnd (bXor p.state a.state) 4 = 0) && decide (bAnd (bClr p.state a.state) 8 = 0)

def Inf.zero : Inf := ⟨0, ⟨0, 0, 0, 0, 0, 0⟩, 0, 0, 0, 0⟩
def Inf.setS (x : Inf) (s : Int) : Inf := { x with state := s }

def Edp.expire (x : Edp) (now : Int) : Edp := { x with state := 1, from_ := now, partner := x.partner.setS (bOr (bClr x.partner.state 8) 2) }
def momE (now : Int) : Int := if momOk now then 0 else 1
def Edp.actorS (x : Edp) : Int := if x.state = 2 then bOr (bOr x.own.state x.mux) 64 else if x.state = 1 then bOr (bOr x.own.state x.mux) 128 else bOr x.own.state x.mux
def Edp.actor (x : Edp) : Inf := x.own.setS x.actorS
def Edp.wait (x : Edp) : Int := if x.state = 1 ∨ bAnd x.own.state 2 ≠ 0 then 3 else 90
def Edp.tickP (x : Edp) (now : Int) : Edp :=
  if momOk now then (if now - x.from_ < x.wait then x else if x.state = 3 then x.expire now else if x.state = 1 then { x with state := 2, partner := Inf.zero } else x) else x
def bareP (x : Inf) : Inf := x.setS (bAnd x.state 15)
def Edp.takeE (x : Edp) (l : Lcp) (now : Int) : Int :=
  if momOk now then (if x.state = 0 then 7 else if l.right then (if l.actor.sys = x.own.sys ∧ l.actor.port = x.own.port then 5 else 0) else 2) else 1
def Edp.takeT (x : Edp) (l : Lcp) (now : Int) : Bool := decide (x.takeE l now = 0) && !decide (bareP l.partner = bareP x.actor)
def Edp.takeP (x : Edp) (l : Lcp) (now : Int) : Edp :=
  if x.takeE l now = 0 then
    { x with state := 3, from_ := now, partner := if bAnd l.actor.state 4 ≠ 0 ∧ knowsP l.partner x.actor = false then l.actor.setS (bClr l.actor.state 8) else l.actor }
  else x
def Edp.muxP (x : Edp) (b : Int) : Edp := { x with mux := b }

structure Edp.wf (x : Edp) : Prop where
  own : x.own.right
  partner : x.partner.right
  state : 0 ≤ x.state ∧ x.state ≤ 3
  mux : x.mux = 0 ∨ x.mux = 8 ∨ x.mux = 24 ∨ x.mux = 56
  from_ : momOk x.from_
  st : x.own.state = 7
  sys : x.own.sys.ok
  psys : x.partner.sys.ok

theorem Inf.right.ok {x : Inf} (h : x.right) (hs : x.sys.ok) : x.ok := by
  obtain ⟨h1, h2, h3, h4, h5⟩ := h
  unfold wth at *
  refine ⟨?_, hs, ?_, ?_, ?_, ?_⟩ <;> exact isI_iff.2 (by omega)
theorem Inf.right.st {x : Inf} (h : x.right) : isSt x.state := h.2.2.2.2
theorem Inf.right.setS {x : Inf} (h : x.right) {s : Int} (hs : isSt s) : (x.setS s).right := ⟨h.1, h.2.1, h.2.2.1, h.2.2.2.1, hs⟩
theorem Inf.zero_right : Inf.zero.right := by decide
theorem Inf.zero_ok : Inf.zero.sys.ok := by refine ⟨?_, ?_, ?_, ?_, ?_, ?_⟩ <;> (unfold isB; decide)
theorem mux_st {s m : Int} (hs : s = 7) (h : m = 0 ∨ m = 8 ∨ m = 24 ∨ m = 56) : isSt (bOr s m) := by
  subst hs; rcases h with rfl | rfl | rfl | rfl <;> decide +kernel
theorem Edp.wf.actor {x : Edp} (h : x.wf) : x.actor.right ∧ x.actor.sys.ok := by
  refine ⟨h.own.setS ?_, h.sys⟩
  have := mux_st h.st h.mux
  unfold Edp.actorS
  split
  · exact st_or64 this
  · split
    · exact st_or128 this
    · exact this
theorem Edp.wf.expire {x : Edp} (h : x.wf) {now : Int} (hn : momOk now) : (x.expire now).wf :=
  ⟨h.own, h.partner.setS (st_old h.partner.st), by show (0 : Int) ≤ 1 ∧ (1 : Int) ≤ 3; decide, h.mux, hn, h.st, h.sys, h.psys⟩
theorem Edp.wf.tick {x : Edp} (h : x.wf) (now : Int) : (x.tickP now).wf := by
  unfold Edp.tickP
  split
  · rename_i hm
    split
    · exact h
    · split
      · exact h.expire hm
      · split
        · exact ⟨h.own, Inf.zero_right, by show (0 : Int) ≤ 2 ∧ (2 : Int) ≤ 3; decide, h.mux, h.from_, h.st, h.sys, Inf.zero_ok⟩
        · exact h
  · exact h
theorem Edp.takeE_0 {x : Edp} {l : Lcp} {now : Int} (h : x.takeE l now = 0) : momOk now ∧ x.state ≠ 0 ∧ l.right := by
  unfold Edp.takeE at h
  by_cases h1 : momOk now
  · rw [if_pos h1] at h
    by_cases h2 : x.state = 0
    · rw [if_pos h2] at h; omega
    · rw [if_neg h2] at h
      by_cases h3 : l.right
      · exact ⟨h1, h2, h3⟩
      · rw [if_neg h3] at h; omega
  · rw [if_neg h1] at h; omega
theorem Edp.wf.take {x : Edp} (h : x.wf) {l : Lcp} (hl : l.actor.sys.ok) (now : Int) : (x.takeP l now).wf := by
  unfold Edp.takeP
  split
  · rename_i he
    obtain ⟨h1, _, h3⟩ := Edp.takeE_0 he
    refine ⟨h.own, ?_, by show (0 : Int) ≤ 3 ∧ (3 : Int) ≤ 3; decide, h.mux, h1, h.st, h.sys, ?_⟩
    · show (if _ then _ else _ : Inf).right
      split
      · exact h3.1.setS (st_clr8 h3.1.st)
      · exact h3.1
    · show (if _ then _ else _ : Inf).sys.ok
      split <;> exact hl
  · exact h

/-! ### What a link has come to -/

def Mxx.next (m : Mxx) (sel : Bool) (p now : Int) : Option Int :=
  if sel = false ∧ m.state ≠ 0 then some 0 else if sel = true ∧ m.state = 0 then some 1
  else if m.state = 1 ∧ now - m.from_ ≥ 2 then some 2
  else if (m.state = 3 ∨ m.state = 4) ∧ bAnd p 8 = 0 then some 2
  else if m.state = 4 ∧ bAnd p 16 = 0 then some 3
  else if m.state = 2 ∧ bAnd p 8 ≠ 0 then some 3
  else if m.state = 3 ∧ bAnd p 16 ≠ 0 then some 4 else none
def Mxx.goto (m : Mxx) (to now : Int) : Mxx := { state := to, from_ := if to = 1 then now else m.from_ }
def Mxx.bits (m : Mxx) : Int := if m.state = 4 then 56 else if m.state = 3 then 24 else if m.state = 2 then 8 else 0
structure Mxx.wf (m : Mxx) : Prop where
  state : 0 ≤ m.state ∧ m.state ≤ 4
  from_ : momOk m.from_

theorem Mxx.next_st {m : Mxx} {sel : Bool} {p now t : Int} (h : m.next sel p now = some t) : 0 ≤ t ∧ t ≤ 4 := by
  unfold Mxx.next at h
  repeat' split at h
  all_goals first | (cases h; decide) | cases h
theorem Mxx.wf.goto {m : Mxx} (h : m.wf) {t now : Int} (ht : 0 ≤ t ∧ t ≤ 4) (hn : momOk now) : (m.goto t now).wf := by
  refine ⟨ht, ?_⟩
  show momOk (if _ then _ else _)
  split
  · exact hn
  · exact h.from_

/-- it settles: what it comes to, and whether it went on -/
def Mxx.settle (sel : Bool) (p now : Int) : Nat → Mxx → Mxx × Bool
  | 0, m => (m, false)
  | n + 1, m => match m.next sel p now with | none => (m, false) | some t => ((Mxx.settle sel p now n (m.goto t now)).1, true)
theorem Mxx.settle_wf {sel : Bool} {p now : Int} : ∀ (n : Nat) {m : Mxx}, m.wf → momOk now → (Mxx.settle sel p now n m).1.wf
  | 0, m, hw, hn => hw
  | n + 1, m, hw, hn => by
    rw [Mxx.settle]
    cases e : m.next sel p now with
    | none => exact hw
    | some t => exact Mxx.settle_wf n (hw.goto (Mxx.next_st e) hn) hn
theorem Mxx.wf.bits {m : Mxx} : m.bits = 0 ∨ m.bits = 8 ∨ m.bits = 24 ∨ m.bits = 56 := by
  unfold Mxx.bits; split
  · simp
  · split
    · simp
    · split <;> simp

/-! ### Links, and what is one of these -/

structure Lk where
  e : Edp
  m : Mxx
  port : Int
  picked : Bool
  due : Bool
  last : Int
  deriving DecidableEq, Inhabited

structure Grp where
  l : List Lk
  most : Int
  deriving DecidableEq, Inhabited

structure Lk.wf (x : Lk) : Prop where
  e : x.e.wf
  m : x.m.wf
  port : x.e.own.port = x.port
  last : x.last = -1 ∨ momOk x.last

def Lk.sound (x : Lk) : Bool := decide (x.e.state = 3) && decide (bAnd x.e.partner.state 4 ≠ 0)
def sysI (x : Inf) : Inf := { x with pprio := 0, port := 0, state := 0 }

def Lk.takeP (x : Lk) (l : Lcp) (now : Int) : Lk := { x with e := x.e.takeP l now, due := x.due || x.e.takeT l now }
def Lk.tickP (x : Lk) (now : Int) : Lk := { x with e := x.e.tickP now, due := x.due || (decide (x.e.state = 3) && decide ((x.e.tickP now).state = 1)) }

def Lk.keep (x : Lk) : Lk := { x with picked := x.picked && x.sound }
def lead (l : List Lk) : Option Nat := (l.findIdx? (·.picked)) <|> (l.findIdx? (·.sound))
/-- links are selected behind the k-th, whose partner's system is s, as long as some are left -/
def pickL (k : Nat) (s : Inf) : Nat → Int → List Lk → List Lk
  | _, _, [] => []
  | i, left, x :: l =>
    if i = k then { x with picked := true } :: pickL k s (i + 1) left l
    else if x.sound = true ∧ 0 < left ∧ sysI x.e.partner = s then { x with picked := true } :: pickL k s (i + 1) (left - 1) l
    else { x with picked := false } :: pickL k s (i + 1) left l
def pickP (g : Grp) : Grp :=
  let l1 := g.l.map Lk.keep
  match lead l1 with
  | none => { g with l := l1 }
  | some k => { g with l := pickL k (sysI (l1.getD k default).e.partner) 0 (g.most - 1) l1 }

def Lk.settleP (x : Lk) (now : Int) : Lk :=
  let r := Mxx.settle x.picked x.e.partner.state now 5 x.m
  { x with m := r.1, due := x.due || r.2, e := x.e.muxP r.1.bits }
def Lk.wait (x : Lk) : Int := if bAnd x.e.partner.state 2 ≠ 0 then 1 else 30
def Lk.tells (x : Lk) (now : Int) : Bool := !decide (x.e.state = 0) && (x.due || decide (x.last = -1) || decide (now - x.last ≥ x.wait))
def Lk.told (x : Lk) : Tld := ⟨x.port, ⟨x.e.actor, x.e.partner, 0⟩⟩
def Lk.says (x : Lk) (now : Int) : Lk := if x.tells now = true then { x with due := false, last := now } else x
def Grp.ticked (g : Grp) (now : Int) : Grp := { g with l := (pickP { g with l := g.l.map (·.tickP now) }).l.map (·.settleP now) }
def Grp.tickP (g : Grp) (now : Int) : Grp := if momOk now then { g with l := (g.ticked now).l.map (·.says now) } else g
def Grp.at_ (g : Grp) (port : Int) : Option Nat := g.l.findIdx? fun x => decide (x.port = port)
def Grp.on (g : Grp) (port : Int) (f : Lk → Lk) : Grp := match g.at_ port with | none => g | some i => { g with l := g.l.modify i f }
def Grp.takeP (g : Grp) (port : Int) (l : Lcp) (now : Int) : Grp := g.on port (·.takeP l now)
def Grp.takeE (g : Grp) (port : Int) (l : Lcp) (now : Int) : Int := match g.at_ port with | none => 4 | some i => (g.l.getD i default).e.takeE l now

def Grp.up (g : Grp) : List Int := (g.l.filter fun x => decide (x.m.state = 4)).map (·.port)
def Grp.partner (g : Grp) : Inf × Bool := match g.l.findIdx? (·.picked) with | none => (Inf.zero, false) | some i => ((g.l.getD i default).e.partner, true)

structure Grp.wf (g : Grp) : Prop where
  l : ∀ x ∈ g.l, x.wf
  most : 1 ≤ g.most ∧ g.most ≤ 32
  len : g.l.length ≤ 32

/-! #### It stays so -/

theorem Lk.wf.take {x : Lk} (h : x.wf) {l : Lcp} (hl : l.actor.sys.ok) (now : Int) : (x.takeP l now).wf := by
  refine ⟨h.e.take hl now, h.m, ?_, h.last⟩
  show (x.e.takeP l now).own.port = x.port
  rw [← h.port]
  unfold Edp.takeP
  split <;> rfl
theorem Lk.wf.tick {x : Lk} (h : x.wf) (now : Int) : (x.tickP now).wf := by
  refine ⟨h.e.tick now, h.m, ?_, h.last⟩
  show (x.e.tickP now).own.port = x.port
  rw [← h.port]
  unfold Edp.tickP
  repeat' split
  all_goals rfl
theorem Lk.wf.pick {x : Lk} (h : x.wf) (b : Bool) : ({ x with picked := b } : Lk).wf := ⟨h.e, h.m, h.port, h.last⟩
theorem Edp.wf.muxP {x : Edp} (h : x.wf) {b : Int} (hb : b = 0 ∨ b = 8 ∨ b = 24 ∨ b = 56) : (x.muxP b).wf := ⟨h.own, h.partner, h.state, hb, h.from_, h.st, h.sys, h.psys⟩
theorem Lk.wf.settle {x : Lk} (h : x.wf) {now : Int} (hn : momOk now) : (x.settleP now).wf :=
  ⟨h.e.muxP Mxx.wf.bits, Mxx.settle_wf 5 h.m hn, h.port, h.last⟩
theorem Lk.wf.says {x : Lk} (h : x.wf) {now : Int} (hn : momOk now) : (x.says now).wf := by
  unfold Lk.says
  split
  · exact ⟨h.e, h.m, h.port, .inr hn⟩
  · exact h
theorem pickL_len (k : Nat) (s : Inf) : ∀ (i : Nat) (left : Int) (l : List Lk), (pickL k s i left l).length = l.length
  | _, _, [] => rfl
  | i, left, x :: l => by
    unfold pickL
    split
    · simp [pickL_len k s (i + 1) left l]
    · split
      · simp [pickL_len k s (i + 1) (left - 1) l]
      · simp [pickL_len k s (i + 1) left l]
theorem pickL_wf (k : Nat) (s : Inf) : ∀ (i : Nat) (left : Int) (l : List Lk), (∀ x ∈ l, x.wf) → ∀ x ∈ pickL k s i left l, x.wf
  | _, _, [], h => by simp [pickL]
  | i, left, x :: l, h => by
    have hx := h x (List.mem_cons_self ..)
    have hl : ∀ y ∈ l, y.wf := fun y hy => h y (List.mem_cons_of_mem _ hy)
    unfold pickL
    intro y hy
    split at hy
    · rcases List.mem_cons.1 hy with rfl | hy
      · exact hx.pick _
      · exact pickL_wf k s _ _ l hl y hy
    · split at hy
      · rcases List.mem_cons.1 hy with rfl | hy
        · exact hx.pick _
        · exact pickL_wf k s _ _ l hl y hy
      · rcases List.mem_cons.1 hy with rfl | hy
        · exact hx.pick _
        · exact pickL_wf k s _ _ l hl y hy
theorem map_wf {l : List Lk} {f : Lk → Lk} (h : ∀ x ∈ l, x.wf) (hf : ∀ x : Lk, x.wf → (f x).wf) : ∀ x ∈ l.map f, x.wf := by
  intro x hx
  obtain ⟨y, hy, rfl⟩ := List.mem_map.1 hx
  exact hf y (h y hy)
theorem Grp.wf.pick {g : Grp} (h : g.wf) : (pickP g).wf := by
  have hk : ∀ x ∈ g.l.map Lk.keep, x.wf := map_wf h.l fun x hx => hx.pick _
  unfold pickP
  simp only []
  split
  · exact ⟨hk, h.most, by show (g.l.map _).length ≤ 32; rw [List.length_map]; exact h.len⟩
  · exact ⟨pickL_wf _ _ _ _ _ hk, h.most, by show (pickL _ _ _ _ _).length ≤ 32; rw [pickL_len, List.length_map]; exact h.len⟩
theorem Grp.wf.mapL {g : Grp} (h : g.wf) {f : Lk → Lk} (hf : ∀ x : Lk, x.wf → (f x).wf) : ({ g with l := g.l.map f } : Grp).wf :=
  ⟨map_wf h.l hf, h.most, by show (g.l.map _).length ≤ 32; rw [List.length_map]; exact h.len⟩
theorem Grp.wf.ticked {g : Grp} (h : g.wf) {now : Int} (hn : momOk now) : (g.ticked now).wf := by
  have h2 := (h.mapL (f := (·.tickP now)) fun x hx => hx.tick now).pick
  have h3 := h2.mapL (f := (·.settleP now)) fun x hx => hx.settle hn
  refine ⟨h3.l, h.most, h3.len⟩
theorem Grp.wf.tick {g : Grp} (h : g.wf) (now : Int) : (g.tickP now).wf := by
  unfold Grp.tickP
  split
  · rename_i hn
    have h3 := (h.ticked hn).mapL (f := (·.says now)) fun x hx => hx.says hn
    exact ⟨h3.l, h.most, h3.len⟩
  · exact h
theorem Grp.wf.on {g : Grp} (h : g.wf) (port : Int) {f : Lk → Lk} (hf : ∀ x : Lk, x.wf → (f x).wf) : (g.on port f).wf := by
  unfold Grp.on
  split
  · exact h
  · refine ⟨fun x hx => ?_, h.most, by show (g.l.modify _ f).length ≤ 32; rw [List.length_modify]; exact h.len⟩
    have hx : x ∈ g.l.modify _ f := hx
    rw [List.mem_iff_getElem?] at hx
    obtain ⟨k, hk⟩ := hx
    rw [List.getElem?_modify] at hk
    cases e : g.l[k]? with
    | none => rw [e] at hk; cases hk
    | some y =>
      rw [e] at hk
      have hy := h.l y (List.mem_of_getElem? e)
      simp at hk
      split at hk
      · rw [← hk]; exact hf y hy
      · rw [← hk]; exact hy

end Go.Gx
end

section
/- A part of an element of a slice is written. -/
set_option linter.unusedVariables false
namespace Go.Gx
open Go
variable {P : Program} {K : Value → World → Prop} {w : World}

theorem splice_win {l e vs : List Value} {p f n : Nat} (hl : p + n ≤ l.length) (he : (l.drop p).take n = e) (hf : f + vs.length ≤ n) : splice l (p + f) vs = splice l p (splice e f vs) := by
  subst he
  have h0 : ((l.drop p).take n).length = n := by rw [List.length_take, List.length_drop]; omega
  have h1 : (splice ((l.drop p).take n) f vs).length = n := by
    unfold splice
    simp only [List.length_append, List.length_take, List.length_drop]
    omega
  unfold splice at h1 ⊢
  apply List.ext_getElem?
  intro i
  simp only [List.getElem?_append, List.length_append, List.length_take, List.length_drop, List.getElem?_take, List.getElem?_drop]
  by_cases c1 : i < p
  · have a1 : i < min (p + f) l.length := by omega
    have a2 : i < min (p + f) l.length + vs.length := by omega
    have a3 : i < min p l.length := by omega
    have a4 : i < min p l.length + (min f (min n (l.length - p)) + vs.length + (min n (l.length - p) - (f + vs.length))) := by omega
    simp only [a1, a2, a3, a4, if_true, if_pos c1, if_pos (show i < p + f by omega)]
  · by_cases c2 : i < p + f
    · have a1 : i < min (p + f) l.length := by omega
      have a2 : i < min (p + f) l.length + vs.length := by omega
      have a3 : ¬ i < min p l.length := by omega
      have a4 : i < min p l.length + (min f (min n (l.length - p)) + vs.length + (min n (l.length - p) - (f + vs.length))) := by omega
      have a5 : i - min p l.length < min f (min n (l.length - p)) + vs.length := by omega
      have a6 : i - min p l.length < min f (min n (l.length - p)) := by omega
      simp only [a1, a2, a3, a4, a5, a6, if_true, if_false, if_pos c2, if_pos (show i - min p l.length < f by omega), if_pos (show i - min p l.length < n by omega)]
      congr 1; omega
    · by_cases c3 : i < p + f + vs.length
      · have a1 : ¬ i < min (p + f) l.length := by omega
        have a2 : i < min (p + f) l.length + vs.length := by omega
        have a3 : ¬ i < min p l.length := by omega
        have a4 : i < min p l.length + (min f (min n (l.length - p)) + vs.length + (min n (l.length - p) - (f + vs.length))) := by omega
        have a5 : i - min p l.length < min f (min n (l.length - p)) + vs.length := by omega
        have a6 : ¬ i - min p l.length < min f (min n (l.length - p)) := by omega
        simp only [a1, a2, a3, a4, a5, a6, if_true, if_false]
        congr 1; omega
      · have a2 : ¬ i < min (p + f) l.length + vs.length := by omega
        have a3 : ¬ i < min p l.length := by omega
        have a5 : ¬ i - min p l.length < min f (min n (l.length - p)) + vs.length := by omega
        by_cases c4 : i < p + n
        · have a4 : i < min p l.length + (min f (min n (l.length - p)) + vs.length + (min n (l.length - p) - (f + vs.length))) := by omega
          simp only [a2, a3, a4, a5, if_true, if_false, if_pos (show f + vs.length + (i - min p l.length - (min f (min n (l.length - p)) + vs.length)) < n by omega)]
          congr 1; omega
        · have a4 : ¬ i < min p l.length + (min f (min n (l.length - p)) + vs.length + (min n (l.length - p) - (f + vs.length))) := by omega
          simp only [a2, a3, a4, a5, if_false]
          congr 1; omega

theorem OwnE.put1 {E sz : Nat} {b o c i f : Nat} {es : List (List Value)} {vs : List Value} (h : OwnE E sz w (.slice (some ⟨b, o, none⟩) es.length c) es) (hi : i < es.length) (hf : f + vs.length ≤ sz) :
    okAt w.heap[b]? (o + i * sz + f) vs.length = true ∧ OwnE E sz (wr w b (o + i * sz + f) vs) (.slice (some ⟨b, o, none⟩) es.length c) (es.set i (splice es[i] f vs)) := by
  have h1 := h.1
  have h2 := h.2
  have hlen := h2 _ (List.getElem_mem hi)
  rcases h1 with ⟨h1, _⟩ | ⟨b', o', c', cs, hv, hb, hc, ho, hl⟩
  · cases h1
  · simp only [Value.slice.injEq, Option.some.injEq, Addr.mk.injEq] at hv
    obtain ⟨⟨rfl, rfl, _⟩, _, rfl⟩ := hv
    have hm : i * sz + sz ≤ es.length * sz := by
      rw [← Nat.succ_mul]; exact Nat.mul_le_mul_right _ hi
    have hm2 : es.length * sz ≤ c * sz := Nat.mul_le_mul_right _ hc
    have hcs : cs.toList.length = cs.size := Array.length_toList
    have hwin : (cs.toList.drop (o + i * sz)).take sz = es[i] := by
      have := flatten_elem h2 hi 0 sz (by omega)
      rw [hl, Nat.add_zero, List.drop_zero, List.drop_take, List.drop_drop, List.take_take, Nat.min_eq_left (by omega)] at this
      rw [this, List.take_of_length_le (by omega)]
    have hsp := splice_win (l := cs.toList) (p := o + i * sz) (f := f) (vs := vs) (n := sz) (by omega) hwin hf
    have hle : (splice es[i] f vs).length = sz := by
      unfold splice
      simp only [List.length_append, List.length_take, List.length_drop]
      omega
    obtain ⟨g1, g2⟩ := OwnE.put h hle hi
    have hw : wr w b (o + i * sz + f) vs = wr w b (o + i * sz) (splice es[i] f vs) := by
      unfold wr
      rw [hb]
      simp only
      rw [hsp]
    refine ⟨?_, by rw [hw]; exact g2⟩
    rw [hb]
    show (decide (o + i * sz + f + vs.length ≤ cs.size) && _) = true
    simp only [Bool.and_eq_true, decide_eq_true_eq, List.all_eq_true]
    exact ⟨by omega, fun x _ => by simp⟩

end Go.Gx
end

section
/- Whether two hear one another, and which is the first; links that both have a member of: what they are, their cells, and what they do, plainly. -/
set_option maxRecDepth 100000
set_option linter.unusedVariables false
namespace Go.Gx
open Go

@[ext] structure Ses where
  id : Int
  prio : Int
  oprio : Int
  life : Int
  known : Int
  up : Bool
  role : Int
  claim : Int
  link : Int
  beat : Int
  deriving DecidableEq, Inhabited

def Ses.c (x : Ses) : List Value := [i64 x.prio, i64 x.id, i64 x.oprio, (i64 (1 - x.id)), i64 x.life, i64 x.known, .bool x.up, i64 x.role, i64 x.claim, i64 x.link, i64 x.beat]
theorem Ses.c_len (x : Ses) : (x.c).length = 11 := _root_.id rfl
theorem Ses.c_one (x : Ses) : (x.c).all S.oneCell = true := _root_.id rfl
theorem Ses.c_dw (x : Ses) : ((x.c).drop 0).take 11 = x.c := _root_.id rfl
theorem Ses.c_sw (x y : Ses) : splice (x.c) 0 y.c = y.c := _root_.id rfl
theorem Ses.c_g0 (x : Ses) : (x.c)[0]? = some (i64 x.prio) := _root_.id rfl
theorem Ses.c_s0 (x : Ses) (v : Int) : splice (x.c) 0 [i64 v] = ({ x with prio := v } : Ses).c := _root_.id rfl
theorem Ses.c_g1 (x : Ses) : (x.c)[1]? = some (i64 x.id) := _root_.id rfl
theorem Ses.c_g2 (x : Ses) : (x.c)[2]? = some (i64 x.oprio) := _root_.id rfl
theorem Ses.c_s2 (x : Ses) (v : Int) : splice (x.c) 2 [i64 v] = ({ x with oprio := v } : Ses).c := _root_.id rfl
theorem Ses.c_g3 (x : Ses) : (x.c)[3]? = some ((i64 (1 - x.id))) := _root_.id rfl
theorem Ses.c_g4 (x : Ses) : (x.c)[4]? = some (i64 x.life) := _root_.id rfl
theorem Ses.c_s4 (x : Ses) (v : Int) : splice (x.c) 4 [i64 v] = ({ x with life := v } : Ses).c := _root_.id rfl
theorem Ses.c_g5 (x : Ses) : (x.c)[5]? = some (i64 x.known) := _root_.id rfl
theorem Ses.c_s5 (x : Ses) (v : Int) : splice (x.c) 5 [i64 v] = ({ x with known := v } : Ses).c := _root_.id rfl
theorem Ses.c_g6 (x : Ses) : (x.c)[6]? = some (.bool x.up) := _root_.id rfl
theorem Ses.c_s6 (x : Ses) (v : Bool) : splice (x.c) 6 [.bool v] = ({ x with up := v } : Ses).c := _root_.id rfl
theorem Ses.c_g7 (x : Ses) : (x.c)[7]? = some (i64 x.role) := _root_.id rfl
theorem Ses.c_s7 (x : Ses) (v : Int) : splice (x.c) 7 [i64 v] = ({ x with role := v } : Ses).c := _root_.id rfl
theorem Ses.c_g8 (x : Ses) : (x.c)[8]? = some (i64 x.claim) := _root_.id rfl
theorem Ses.c_s8 (x : Ses) (v : Int) : splice (x.c) 8 [i64 v] = ({ x with claim := v } : Ses).c := _root_.id rfl
theorem Ses.c_g9 (x : Ses) : (x.c)[9]? = some (i64 x.link) := _root_.id rfl
theorem Ses.c_s9 (x : Ses) (v : Int) : splice (x.c) 9 [i64 v] = ({ x with link := v } : Ses).c := _root_.id rfl
theorem Ses.c_g10 (x : Ses) : (x.c)[10]? = some (i64 x.beat) := _root_.id rfl
theorem Ses.c_s10 (x : Ses) (v : Int) : splice (x.c) 10 [i64 v] = ({ x with beat := v } : Ses).c := _root_.id rfl

def Ses.r (x : Ses) : List Value := [i64 x.id, i64 x.prio, i64 x.life, i64 x.known, .bool x.up, i64 x.role, i64 x.claim, i64 x.link, i64 x.beat]
theorem Ses.r_len (x : Ses) : (x.r).length = 9 := _root_.id rfl
theorem Ses.r_one (x : Ses) : (x.r).all S.oneCell = true := _root_.id rfl
theorem Ses.r_dw (x : Ses) : ((x.r).drop 0).take 9 = x.r := _root_.id rfl
theorem Ses.r_sw (x y : Ses) : splice (x.r) 0 y.r = y.r := _root_.id rfl
theorem Ses.r_g0 (x : Ses) : (x.r)[0]? = some (i64 x.id) := _root_.id rfl
theorem Ses.r_s0 (x : Ses) (v : Int) : splice (x.r) 0 [i64 v] = ({ x with id := v } : Ses).r := _root_.id rfl
theorem Ses.r_g1 (x : Ses) : (x.r)[1]? = some (i64 x.prio) := _root_.id rfl
theorem Ses.r_s1 (x : Ses) (v : Int) : splice (x.r) 1 [i64 v] = ({ x with prio := v } : Ses).r := _root_.id rfl
theorem Ses.r_g2 (x : Ses) : (x.r)[2]? = some (i64 x.life) := _root_.id rfl
theorem Ses.r_s2 (x : Ses) (v : Int) : splice (x.r) 2 [i64 v] = ({ x with life := v } : Ses).r := _root_.id rfl
theorem Ses.r_g3 (x : Ses) : (x.r)[3]? = some (i64 x.known) := _root_.id rfl
theorem Ses.r_s3 (x : Ses) (v : Int) : splice (x.r) 3 [i64 v] = ({ x with known := v } : Ses).r := _root_.id rfl
theorem Ses.r_g4 (x : Ses) : (x.r)[4]? = some (.bool x.up) := _root_.id rfl
theorem Ses.r_s4 (x : Ses) (v : Bool) : splice (x.r) 4 [.bool v] = ({ x with up := v } : Ses).r := _root_.id rfl
theorem Ses.r_g5 (x : Ses) : (x.r)[5]? = some (i64 x.role) := _root_.id rfl
theorem Ses.r_s5 (x : Ses) (v : Int) : splice (x.r) 5 [i64 v] = ({ x with role := v } : Ses).r := _root_.id rfl
theorem Ses.r_g6 (x : Ses) : (x.r)[6]? = some (i64 x.claim) := _root_.id rfl
theorem Ses.r_s6 (x : Ses) (v : Int) : splice (x.r) 6 [i64 v] = ({ x with claim := v } : Ses).r := _root_.id rfl
theorem Ses.r_g7 (x : Ses) : (x.r)[7]? = some (i64 x.link) := _root_.id rfl
theorem Ses.r_s7 (x : Ses) (v : Int) : splice (x.r) 7 [i64 v] = ({ x with link := v } : Ses).r := _root_.id rfl
theorem Ses.r_g8 (x : Ses) : (x.r)[8]? = some (i64 x.beat) := _root_.id rfl
theorem Ses.r_s8 (x : Ses) (v : Int) : splice (x.r) 8 [i64 v] = ({ x with beat := v } : Ses).r := _root_.id rfl

@[ext] structure Mlk where
  up : Bool
  owed : Int
  down : Bool
  deriving DecidableEq, Inhabited

def Mlk.cells (x : Mlk) : List Value := [.bool x.up, i64 x.owed, .bool x.down]
theorem Mlk.cells_len (x : Mlk) : (x.cells).length = 3 := _root_.id rfl
theorem Mlk.cells_one (x : Mlk) : (x.cells).all S.oneCell = true := _root_.id rfl
theorem Mlk.cells_dw (x : Mlk) : ((x.cells).drop 0).take 3 = x.cells := _root_.id rfl
theorem Mlk.cells_sw (x y : Mlk) : splice (x.cells) 0 y.cells = y.cells := _root_.id rfl
theorem Mlk.cells_g0 (x : Mlk) : (x.cells)[0]? = some (.bool x.up) := _root_.id rfl
theorem Mlk.cells_s0 (x : Mlk) (v : Bool) : splice (x.cells) 0 [.bool v] = ({ x with up := v } : Mlk).cells := _root_.id rfl
theorem Mlk.cells_g1 (x : Mlk) : (x.cells)[1]? = some (i64 x.owed) := _root_.id rfl
theorem Mlk.cells_s1 (x : Mlk) (v : Int) : splice (x.cells) 1 [i64 v] = ({ x with owed := v } : Mlk).cells := _root_.id rfl
theorem Mlk.cells_g2 (x : Mlk) : (x.cells)[2]? = some (.bool x.down) := _root_.id rfl
theorem Mlk.cells_s2 (x : Mlk) (v : Bool) : splice (x.cells) 2 [.bool v] = ({ x with down := v } : Mlk).cells := _root_.id rfl

/-- a note: its body lies elsewhere -/
@[ext] structure Nt where
  kind : Int
  vlan : Int
  mac : Mac
  port : Int
  state : Int
  body : List Int
  deriving DecidableEq
def Nt.cells (n : Nt) (v : Value) : List Value := i64 n.kind :: i64 n.vlan :: (n.mac.cells ++ [i64 n.port, i64 n.state, v])
@[ext] structure Pk where
  epoch : Int
  seq : Int
  ack : Int
  n : Nt
  deriving DecidableEq
def Pk.cells (p : Pk) (v : Value) : List Value := i64 p.epoch :: i64 p.seq :: i64 p.ack :: p.n.cells v
section
variable (n : Nt) (p : Pk) (v : Value)
theorem Nt.len : (n.cells v).length = 11 := _root_.id rfl
theorem Nt.g0 : (n.cells v)[0]? = some (i64 n.kind) := _root_.id rfl
theorem Nt.g1 : (n.cells v)[1]? = some (i64 n.vlan) := _root_.id rfl
theorem Nt.d2 : ((n.cells v).drop 2).take 6 = n.mac.cells := _root_.id rfl
theorem Nt.g8 : (n.cells v)[8]? = some (i64 n.port) := _root_.id rfl
theorem Nt.g9 : (n.cells v)[9]? = some (i64 n.state) := _root_.id rfl
theorem Nt.g10 : (n.cells v)[10]? = some v := _root_.id rfl
theorem Nt.dw : ((n.cells v).drop 0).take 11 = n.cells v := _root_.id rfl
theorem Nt.sw (m : Nt) (u : Value) : splice (n.cells v) 0 (m.cells u) = m.cells u := _root_.id rfl
theorem Nt.s9 (x : Int) : splice (n.cells v) 9 [i64 x] = ({ n with state := x } : Nt).cells v := _root_.id rfl
theorem Nt.s10 (u : Value) : splice (n.cells v) 10 [u] = n.cells u := _root_.id rfl
theorem Pk.len : (p.cells v).length = 14 := _root_.id rfl
theorem Pk.g0 : (p.cells v)[0]? = some (i64 p.epoch) := _root_.id rfl
theorem Pk.g1 : (p.cells v)[1]? = some (i64 p.seq) := _root_.id rfl
theorem Pk.g2 : (p.cells v)[2]? = some (i64 p.ack) := _root_.id rfl
theorem Pk.g3 : (p.cells v)[3]? = some (i64 p.n.kind) := _root_.id rfl
theorem Pk.g4 : (p.cells v)[4]? = some (i64 p.n.vlan) := _root_.id rfl
theorem Pk.d5 : ((p.cells v).drop 5).take 6 = p.n.mac.cells := _root_.id rfl
theorem Pk.g11 : (p.cells v)[11]? = some (i64 p.n.port) := _root_.id rfl
theorem Pk.g12 : (p.cells v)[12]? = some (i64 p.n.state) := _root_.id rfl
theorem Pk.g13 : (p.cells v)[13]? = some v := _root_.id rfl
theorem Pk.d3 : ((p.cells v).drop 3).take 11 = p.n.cells v := _root_.id rfl
theorem Pk.dw : ((p.cells v).drop 0).take 14 = p.cells v := _root_.id rfl
theorem Nt.one (h : S.oneCell v = true) : (n.cells v).all S.oneCell = true := by
  unfold Nt.cells
  simp only [List.all_cons, List.all_append, List.all_nil, h, Mac.one, Bool.and_true, Bool.and_self]
  rfl
theorem Pk.one (h : S.oneCell v = true) : (p.cells v).all S.oneCell = true := by
  unfold Pk.cells
  simp only [List.all_cons, Nt.one _ v h, Bool.and_true]
  rfl
theorem Pk.sw (q : Pk) (u : Value) : splice (p.cells v) 0 (q.cells u) = q.cells u := _root_.id rfl
end
def Nt.z : Nt := ⟨0, 0, zMac, 0, 0, []⟩
def Ses.hello (s : Ses) : Pk := ⟨s.life, 0, s.known, ⟨6, 0, zMac, s.prio, s.claim, []⟩⟩

attribute [push_cast] Ses.c_len Ses.c_one Ses.c_dw Ses.c_sw Ses.c_g0 Ses.c_s0 Ses.c_g1 Ses.c_g2 Ses.c_s2 Ses.c_g3 Ses.c_g4 Ses.c_s4 Ses.c_g5 Ses.c_s5 Ses.c_g6 Ses.c_s6 Ses.c_g7 Ses.c_s7 Ses.c_g8 Ses.c_s8 Ses.c_g9 Ses.c_s9 Ses.c_g10 Ses.c_s10 Ses.r_len Ses.r_one Ses.r_dw Ses.r_sw Ses.r_g0 Ses.r_s0 Ses.r_g1 Ses.r_s1 Ses.r_g2 Ses.r_s2 Ses.r_g3 Ses.r_s3 Ses.r_g4 Ses.r_s4 Ses.r_g5 Ses.r_s5 Ses.r_g6 Ses.r_s6 Ses.r_g7 Ses.r_s7 Ses.r_g8 Ses.r_s8 Mlk.cells_len Mlk.cells_one Mlk.cells_dw Mlk.cells_sw Mlk.cells_g0 Mlk.cells_s0 Mlk.cells_g1 Mlk.cells_s1 Mlk.cells_g2 Mlk.cells_s2 Nt.len Nt.one Nt.g0 Nt.g1 Nt.d2 Nt.g8 Nt.g9 Nt.g10 Nt.dw Nt.sw Nt.s9 Nt.s10 Pk.len Pk.one Pk.g0 Pk.g1 Pk.g2 Pk.g3 Pk.g4 Pk.d5 Pk.g11 Pk.g12 Pk.g13 Pk.d3 Pk.dw Pk.sw

/-! ### A session -/

def Ses.new (id prio life : Int) : Ses := ⟨id, prio, 0, life, 0, false, 0, 0, 0, 0⟩
def Ses.argOk (id prio life : Int) : Prop := (0 ≤ id ∧ id ≤ 1) ∧ (0 ≤ prio ∧ prio ≤ 1000) ∧ 1 ≤ life ∧ life ≤ 536870912
instance (id prio life : Int) : Decidable (Ses.argOk id prio life) := by unfold Ses.argOk; infer_instance
def Ses.reborn (x : Ses) : Ses := { x with up := false, claim := x.role, life := if x.life + 1 ≤ 536870912 then x.life + 1 else 536870912 }
def Ses.epoch (x : Ses) : Int := if x.up = true then x.life + x.known else 0
def Ses.seenP (x : Ses) (now : Int) : Ses := if momOk now then { x with link := now } else x
def Ses.tickP (x : Ses) (now : Int) : Ses :=
  if momOk now then (if now - x.link ≥ 6 then (if x.up = true then x.reborn else if now - x.beat ≥ 6 ∧ x.role ≠ 2 then ({ x with role := 2 } : Ses).reborn else x) else x) else x
def Ses.tickB (x : Ses) (now : Int) : Bool := decide (momOk now) && (decide (now - x.link ≥ 6) && x.up)

structure Ses.wf (x : Ses) : Prop where
  id : x.id = 0 ∨ x.id = 1
  prio : 0 ≤ x.prio ∧ x.prio ≤ 1000
  life : 1 ≤ x.life ∧ x.life ≤ 536870912
  known : 0 ≤ x.known ∧ x.known ≤ 536870912
  role : 0 ≤ x.role ∧ x.role ≤ 2
  claim : 0 ≤ x.claim ∧ x.claim ≤ 2
  link : momOk x.link
  beat : momOk x.beat
theorem Ses.new_wf {id prio life : Int} (h : Ses.argOk id prio life) : (Ses.new id prio life).wf := by
  obtain ⟨⟨h1, h2⟩, h3, h4, h5⟩ := h
  refine ⟨?_, h3, ⟨h4, h5⟩, by show (0 : Int) ≤ 0 ∧ (0 : Int) ≤ 536870912; decide, by show (0 : Int) ≤ 0 ∧ (0 : Int) ≤ 2; decide, by show (0 : Int) ≤ 0 ∧ (0 : Int) ≤ 2; decide, by show momOk 0; decide, by show momOk 0; decide⟩
  show id = 0 ∨ id = 1
  omega
theorem Ses.wf.reborn {x : Ses} (h : x.wf) : x.reborn.wf := by
  refine ⟨h.id, h.prio, ?_, h.known, h.role, h.role, h.link, h.beat⟩
  have := h.life
  show 1 ≤ (if x.life + 1 ≤ 536870912 then x.life + 1 else 536870912) ∧ (if x.life + 1 ≤ 536870912 then x.life + 1 else 536870912) ≤ 536870912
  split <;> omega
theorem Ses.wf.seen {x : Ses} (h : x.wf) (now : Int) : (x.seenP now).wf := by
  unfold Ses.seenP
  split
  · rename_i hm; exact ⟨h.id, h.prio, h.life, h.known, h.role, h.claim, hm, h.beat⟩
  · exact h
theorem Ses.wf.tick {x : Ses} (h : x.wf) (now : Int) : (x.tickP now).wf := by
  unfold Ses.tickP
  split
  · split
    · split
      · exact h.reborn
      · split
        · exact Ses.wf.reborn (x := { x with role := 2 }) ⟨h.id, h.prio, h.life, h.known, by show (0 : Int) ≤ 2 ∧ (2 : Int) ≤ 2; decide, h.claim, h.link, h.beat⟩
        · exact h
    · exact h
  · exact h

/-! ### Links that both have a member of -/

@[ext] structure Shk where
  l : List Mlk
  session : Bool
  alone : Bool
  deriving DecidableEq, Inhabited
def Shk.new (n : Nat) : Shk := ⟨List.replicate n ⟨false, 0, false⟩, false, false⟩
def Mlk.rest (x : Mlk) : Mlk := ⟨x.up, 0, false⟩
def Shk.stopP (s : Shk) (serve : Bool) : Shk := ⟨s.l.map Mlk.rest, false, serve⟩
def Shk.servesP (s : Shk) (link : Int) : Bool :=
  if 1 ≤ link ∧ link ≤ s.l.length then (let x := s.l.getD (link - 1).toNat default; x.up && (if s.session = true then decide (x.owed = 0) else s.alone)) else false

end Go.Gx
end
