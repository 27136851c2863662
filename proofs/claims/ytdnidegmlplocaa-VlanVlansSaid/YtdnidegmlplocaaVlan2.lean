/- Tables of VLANs: what the document's functions do. -/
import Derived.Test.YtdnidegmlplocaaVlan2T
import Derived.Test.YtdnidegmlplocaaVlan1
set_option linter.unusedVariables false
set_option linter.unusedSimpArgs false
set_option maxRecDepth 100000
namespace Go.Gx.S
open Go Go.Gx Go.Proofs
variable {K : Value → World → Prop} {w : World}

def memC (x : (Int × Int) × Bool) : List Value := [i64 x.1.1, i64 x.1.2, .bool x.2]
theorem memC_one (l : List ((Int × Int) × Bool)) : (l.map memC).flatten.all S.oneCell = true := by
  rw [List.all_eq_true]
  intro x hx
  obtain ⟨e, he, hx⟩ := List.mem_flatten.1 hx
  obtain ⟨y, hy, rfl⟩ := List.mem_map.1 he
  simp [memC] at hx
  rcases hx with rfl | rfl | rfl <;> rfl

structure RRep (w : World) (q nb : Nat) (Lv : Value) (t : VT) : Prop where
  blk : w.heap[q]? = some (cellsO [i64 t.nat.length, Lv, .slice (some ⟨nb, 0, none⟩) t.nat.length t.nat.length] 69)
  lst : OwnE 75 3 w Lv (t.tab.map memC)
  nat : w.heap[nb]? = some (cellsO (t.nat.map i64) 3)
  qn : q ≠ nb
  lq : ∀ b, blkS Lv = some b → b ≠ q ∧ b ≠ nb
  ok : t.ok

def rfp (q nb : Nat) (Lv : Value) (b : Nat) : Prop := b = q ∨ b = nb ∨ blkS Lv = some b
theorem RRep.fr {fp : Nat → Prop} {w w' : World} {q nb : Nat} {Lv : Value} {t : VT} (h : RRep w q nb Lv t) (hf : Fr fp w w') (h1 : ¬ fp q) (h2 : ¬ fp nb) (h3 : ∀ b, blkS Lv = some b → ¬ fp b) : RRep w' q nb Lv t :=
  ⟨hf.heap h.blk h1, h.lst.fr hf h3, hf.heap h.nat h2, h.qn, h.lq, h.ok⟩
theorem RRep.fr0 {w w' : World} {q nb : Nat} {Lv : Value} {t : VT} (h : RRep w q nb Lv t) (hf : Fr none_ w w') : RRep w' q nb Lv t := h.fr hf (fun h => h) (fun h => h) (fun _ _ h => h)
theorem RRep.lt {w : World} {q nb : Nat} {Lv : Value} {t : VT} (h : RRep w q nb Lv t) : q < w.heap.size ∧ nb < w.heap.size := ⟨lt_of_heap h.blk, lt_of_heap h.nat⟩

theorem rright_spec' {q nb : Nat} {Lv : Value} {t : VT} {v n : Int} (hv : RRep w q nb Lv t) (h : K (.bool (decide (t.right v n))) w) : CallsR Try.prog 35 #[pt q 0, i64 v, i64 n] K w := by
  apply c35
  unfold p35
  simp only [push_cast, Nat.reduceAdd, Nat.reduceLeDiff, Nat.reduceLT, Int.reduceToNat, Nat.left_eq_add, Nat.add_eq_left, Nat.add_left_cancel_iff, Nat.reduceEqDiff, Nat.add_assoc, Nat.succ_ne_zero, hv.blk]
  have h' : ∀ b, decide (t.right v n) = b → K (.bool b) w := fun b e => e ▸ h
  clear h
  repeat' first | with_reducible refine br_dec (fun _ => ?_) fun _ => ?_
  all_goals
    refine h' _ ?_
    unfold VT.right VT.port
    first | exact decide_eq_false (by omega) | exact decide_eq_decide.2 (by omega)

theorem rnew_spec (n : Int) (h0 : ¬ (1 ≤ n ∧ n ≤ 64) → K (.tuple #[.pointer none, i64 1]) w)
    (h1 : 1 ≤ n → n ≤ 64 → ∀ w' q nb Lv, RRep w' q nb Lv (VT.new n.toNat) → Fr none_ w w' → w.heap.size ≤ q → w.heap.size ≤ nb → New w Lv → K (.tuple #[pt q 0, i64 0]) w') :
    CallsR Try.prog 26 #[i64 n] K w := by
  apply c26
  unfold p26
  simp only [push_cast, Nat.reduceAdd, Nat.reduceLeDiff, Nat.reduceLT, Int.reduceToNat, Nat.left_eq_add, Nat.add_eq_left, Nat.add_left_cancel_iff, Nat.reduceEqDiff, Nat.add_assoc, Nat.succ_ne_zero]
  refine br_dec (fun ha => h0 (by omega)) fun ha => ?_
  refine br_dec (fun hb => h0 (by omega)) fun hb => ?_
  rw [opS_mks _ _ _ (by omega) (by omega) (by omega) (by rfl) (by decide)]
  simp only [push_cast, Nat.reduceAdd, Nat.reduceLeDiff, Nat.reduceLT, Int.reduceToNat, Nat.left_eq_add, Nat.add_eq_left, Nat.add_left_cancel_iff, Nat.reduceEqDiff, Nat.add_assoc, Nat.succ_ne_zero]
  rw [opS_build _ rfl]
  have e : zeros n.toNat (Value.int .i64 0).cells.toList = (List.replicate n.toNat (0 : Int)).map i64 := by
    simp [zeros, Value.cells]
  simp only [push_cast, Nat.reduceAdd, Nat.reduceLeDiff, Nat.reduceLT, Int.reduceToNat, Nat.left_eq_add, Nat.add_eq_left, Nat.add_left_cancel_iff, Nat.reduceEqDiff, Nat.add_assoc, Nat.succ_ne_zero]
  refine h1 (by omega) (by omega) _ (w.heap.size + 1) w.heap.size (.slice none 0 0) ⟨?_, own_nil _ _ _, ?_, by omega, fun b hb => (by cases hb), VT.ok_new (by omega)⟩ (by repeat' first | with_reducible exact Fr.refl _ _ | with_reducible refine Fr.step_alloc ?_ ?_ | with_reducible refine Fr.step_drew ?_ | with_reducible refine Fr.step_wr ?_ ?_ _ _ | exact rfl | exact Or.inr (by omega) | exact Or.inl rfl | exact Or.inl (Or.inl rfl) | exact Or.inl (Or.inr rfl)) (by omega) (Nat.le_refl _) (fun b hb => by cases hb)
  · simp only [push_cast, Nat.reduceAdd, Nat.reduceLeDiff, Nat.reduceLT, Int.reduceToNat, Nat.left_eq_add, Nat.add_eq_left, Nat.add_left_cancel_iff, Nat.reduceEqDiff, Nat.add_assoc, Nat.succ_ne_zero, VT.new, List.length_replicate]
    have : ((n.toNat : Nat) : Int) = n := by omega
    rw [this]
    rfl
  · simp only [push_cast, Nat.reduceAdd, Nat.reduceLeDiff, Nat.reduceLT, Int.reduceToNat, Nat.left_eq_add, Nat.add_eq_left, Nat.add_left_cancel_iff, Nat.reduceEqDiff, Nat.add_assoc, Nat.succ_ne_zero, VT.new]
    rw [← e]
    rfl

theorem rfind_spec {q nb : Nat} {Lv : Value} {t : VT} {v n : Int} (hv : RRep w q nb Lv t) (h0 : getL t.tab (v, n) = none → K (i64 (-1)) w) (h1 : ∀ (k : Nat) b, t.tab[k]? = some ((v, n), b) → getL t.tab (v, n) = some b → K (i64 k) w) :
    CallsR Try.prog 31 #[pt q 0, i64 v, i64 n] K w := by
  apply c31
  unfold p31
  have hsmall := VT.small hv.ok
  obtain ⟨a, c, hL⟩ := hv.lst.rd.form
  rw [List.length_map] at hL
  refine jn0 (fun w' => w' = w ∧ getL t.tab (v, n) = none) (fun w' ⟨e, hn⟩ => by subst e; exact h0 hn) fun j hj => ?_
  refine loop1 (fun m x w' => ∃ i : Nat, x = i64 i ∧ i + m = t.tab.length ∧ w' = w ∧ ∀ k p, k < i → t.tab[k]? = some p → p.1 ≠ (v, n)) ?_ t.tab.length ⟨0, rfl, by omega, rfl, fun k p hk => by omega⟩
  rintro m x w' X ⟨i, rfl, hi, rfl, hno⟩ hX
  have hlst := hv.lst
  rw [hL] at hlst
  simp only [push_cast, Nat.reduceAdd, Nat.reduceLeDiff, Nat.reduceLT, Int.reduceToNat, Nat.left_eq_add, Nat.add_eq_left, Nat.add_left_cancel_iff, Nat.reduceEqDiff, Nat.add_assoc, Nat.succ_ne_zero, hv.blk, hL]
  refine br_dec (fun hlt => ?_) fun hge => hj _ ⟨rfl, lookup_none fun p hp => ?_⟩
  · have hlt2 : i < t.tab.length := by omega
    have hnext : t.tab[i].1 ≠ (v, n) → X (i64 (i + 1 : Nat)) w' := fun hne => hX (m - 1) _ _ (by omega) ⟨i + 1, rfl, by omega, rfl, fun k p hk hp => by
      by_cases e : k = i
      · subst e
        rw [List.getElem?_eq_getElem hlt2] at hp
        cases hp
        exact hne
      · exact hno k p (by omega) hp⟩
    have hw : IntKind.i64.wrap ((i : Int) + 1) = ((i + 1 : Nat) : Int) := by rw [wrap_i64 (by omega)]; omega
    refine s_iaE hlst.rd (by omega) (by simpa using hlt2) fun b1 o1 c1 _ hE => ?_
    simp only [Int.toNat_natCast, List.getElem_map] at hE ⊢
    have hg0 : (memC t.tab[i])[0]? = some (i64 t.tab[i].1.1) := rfl
    have hg1 : (memC t.tab[i])[1]? = some (i64 t.tab[i].1.2) := rfl
    have hE0 := hE.cell 0 (show 0 < 3 by decide)
    simp only [push_cast, Nat.reduceAdd, Nat.reduceLeDiff, Nat.reduceLT, Int.reduceToNat, Nat.left_eq_add, Nat.add_eq_left, Nat.add_left_cancel_iff, Nat.reduceEqDiff, Nat.add_assoc, Nat.succ_ne_zero, hg0] at hE0
    simp only [push_cast, Nat.reduceAdd, Nat.reduceLeDiff, Nat.reduceLT, Int.reduceToNat, Nat.left_eq_add, Nat.add_eq_left, Nat.add_left_cancel_iff, Nat.reduceEqDiff, Nat.add_assoc, Nat.succ_ne_zero, hE0]
    refine br_intro (fun e1 => ?_) fun e1 => ?_
    · simp only [push_cast, Nat.reduceAdd, Nat.reduceLeDiff, Nat.reduceLT, Int.reduceToNat, Nat.left_eq_add, Nat.add_eq_left, Nat.add_left_cancel_iff, Nat.reduceEqDiff, Nat.add_assoc, Nat.succ_ne_zero, hv.blk, hL]
      refine s_iaE hlst.rd (by omega) (by simpa using hlt2) fun b1 o1 c1 _ hE => ?_
      simp only [Int.toNat_natCast, List.getElem_map] at hE ⊢
      have hE1 := hE.cell 1 (show 1 < 3 by decide)
      simp only [push_cast, Nat.reduceAdd, Nat.reduceLeDiff, Nat.reduceLT, Int.reduceToNat, Nat.left_eq_add, Nat.add_eq_left, Nat.add_left_cancel_iff, Nat.reduceEqDiff, Nat.add_assoc, Nat.succ_ne_zero, hg1] at hE1
      simp only [push_cast, Nat.reduceAdd, Nat.reduceLeDiff, Nat.reduceLT, Int.reduceToNat, Nat.left_eq_add, Nat.add_eq_left, Nat.add_left_cancel_iff, Nat.reduceEqDiff, Nat.add_assoc, Nat.succ_ne_zero, hE1]
      refine br_intro (fun e2 => ?_) fun e2 => ?_
      · have e : t.tab[i].1 = (v, n) := by
          simp at e1 e2
          exact Prod.ext e1 e2
        have hat : t.tab[i]? = some ((v, n), t.tab[i].2) := by
          rw [List.getElem?_eq_getElem hlt2, ← e]
        refine h1 i t.tab[i].2 hat ?_
        have := lookup_of_mem hv.ok.nd (List.getElem_mem hlt2)
        rw [e] at this
        exact this
      · simp only [push_cast, Nat.reduceAdd, Nat.reduceLeDiff, Nat.reduceLT, Int.reduceToNat, Nat.left_eq_add, Nat.add_eq_left, Nat.add_left_cancel_iff, Nat.reduceEqDiff, Nat.add_assoc, Nat.succ_ne_zero, hw]
        refine hnext fun e => ?_
        rw [e] at e2
        simp at e2
    · simp only [push_cast, Nat.reduceAdd, Nat.reduceLeDiff, Nat.reduceLT, Int.reduceToNat, Nat.left_eq_add, Nat.add_eq_left, Nat.add_left_cancel_iff, Nat.reduceEqDiff, Nat.add_assoc, Nat.succ_ne_zero, hw]
      refine hnext fun e => ?_
      rw [e] at e1
      simp at e1
  · obtain ⟨k, hk⟩ := List.mem_iff_getElem?.1 hp
    exact hno k p (by have := (List.getElem?_eq_some_iff.1 hk).1; omega) hk

theorem build_mem (v n : Int) (b : Bool) : opS Try.prog (S.build 75 [(0, i64 v), (1, i64 n), (2, .bool b)]) K w = K (.agg (memC ((v, n), b)).toArray) w := by
  rw [opS_build _ rfl]; rfl

theorem radd_spec {q nb : Nat} {Lv : Value} {t : VT} {v n : Int} {b : Bool} (hv : RRep w q nb Lv t) (h : ∀ w' Lv', RRep w' q nb Lv' (t.add v n b).1 → Fr (rfp q nb Lv) w w' → (blkS Lv' = blkS Lv ∨ New w Lv') → K (i64 (t.add v n b).2) w') :
    CallsR Try.prog 41 #[pt q 0, i64 v, i64 n, .bool b] K w := by
  apply c41
  unfold p41
  simp only [push_cast, Nat.reduceAdd, Nat.reduceLeDiff, Nat.reduceLT, Int.reduceToNat, Nat.left_eq_add, Nat.add_eq_left, Nat.add_left_cancel_iff, Nat.reduceEqDiff, Nat.add_assoc, Nat.succ_ne_zero]
  refine rright_spec' hv ?_
  have hok := VT.ok_add hv.ok v n b
  have hsmall := VT.small hv.ok
  by_cases hr : t.right v n
  · rw [VT.add, if_pos hr] at h hok
    simp only [hr, push_cast, Nat.reduceAdd, Nat.reduceLeDiff, Nat.reduceLT, Int.reduceToNat, Nat.left_eq_add, Nat.add_eq_left, Nat.add_left_cancel_iff, Nat.reduceEqDiff, Nat.add_assoc, Nat.succ_ne_zero]
    refine rfind_spec hv (fun hg => ?_) fun k b0 hat hg => ?_
    · rw [VT.setL_new hg] at h hok
      have b1 : decide ((-1 : Int) ≥ 0) = false := rfl
      simp only [push_cast, Nat.reduceAdd, Nat.reduceLeDiff, Nat.reduceLT, Int.reduceToNat, Nat.left_eq_add, Nat.add_eq_left, Nat.add_left_cancel_iff, Nat.reduceEqDiff, Nat.add_assoc, Nat.succ_ne_zero, b1]
      refine s_bs0 fun vA WA hA fA nA => ?_
      have hpA := fA.heap hv.blk (fun h => h)
      simp only [push_cast, Nat.reduceAdd, Nat.reduceLeDiff, Nat.reduceLT, Int.reduceToNat, Nat.left_eq_add, Nat.add_eq_left, Nat.add_left_cancel_iff, Nat.reduceEqDiff, Nat.add_assoc, Nat.succ_ne_zero, hpA]
      refine s_app (sz := 3) (by_ := 24) (by rfl) (by decide) hA (hv.lst.rd.fr fA (fun _ _ h => h)) (memC_one _) (by simp; omega) fun vB WB hB bB fB => ?_
      rw [List.nil_append] at hB
      simp only [build_mem, push_cast, Nat.reduceAdd, Nat.reduceLeDiff, Nat.reduceLT, Int.reduceToNat, Nat.left_eq_add, Nat.add_eq_left, Nat.add_left_cancel_iff, Nat.reduceEqDiff, Nat.add_assoc, Nat.succ_ne_zero]
      refine s_bs1 (sz := 3) (x := memC ((v, n), b)) rfl (by rfl) (by decide) (by decide) fun vC WC hC fC nC => ?_
      have hB' := hB.fr fC (fun _ _ h => h)
      refine s_app (sz := 3) (by_ := 24) (by rfl) (by decide) hB' hC.rd (by simp [memC]; exact ⟨rfl, rfl, rfl⟩) (by simp; omega) fun vD WD hD bD fD => ?_
      have hnB : New w vB := fun x hx => by
        rcases bB with bB | bB
        · exact nA x (bB ▸ hx)
        · exact Nat.le_trans fA.size (bB x hx)
      have hnD : New w vD := fun x hx => by
        rcases bD with bD | bD
        · exact hnB x (bD ▸ hx)
        · exact Nat.le_trans (Nat.le_trans fA.size (Nat.le_trans fB.size fC.size)) (bD x hx)
      have hF : Fr none_ w WD := ((fA.trans_new fB (fun x hx hh => by have := nA x hh; omega)).trans fC).trans_new fD (fun x hx hh => by have := hnB x hh; omega)
      have hp := hF.heap hv.blk (fun h => h)
      have hoD := hD.one
      have hq := hv.lt
      simp only [push_cast, Nat.reduceAdd, Nat.reduceLeDiff, Nat.reduceLT, Int.reduceToNat, Nat.left_eq_add, Nat.add_eq_left, Nat.add_left_cancel_iff, Nat.reduceEqDiff, Nat.add_assoc, Nat.succ_ne_zero, hp, hoD]
      have hqn := hv.qn
      refine h _ vD ⟨?_, ?_, ?_, hv.qn, fun x hx => ⟨fun e => by have := hnD x hx; omega, fun e => by have := hnD x hx; omega⟩, hok⟩ (Fr.trans (hF.mono fun _ _ h => h.elim) (Fr.wr _ _ _ _ (.inl rfl))) (.inr hnD)
      · simp only [push_cast, Nat.reduceAdd, Nat.reduceLeDiff, Nat.reduceLT, Int.reduceToNat, Nat.left_eq_add, Nat.add_eq_left, Nat.add_left_cancel_iff, Nat.reduceEqDiff, Nat.add_assoc, Nat.succ_ne_zero, hp]
      · rw [List.map_append]
        exact hD.fr (Fr.wr (fp := fun x => x = q) WD q 1 [vD] rfl) (fun x hx e => by have := hnD x hx; omega)
      · have := hF.heap hv.nat (fun h => h)
        have hne : nb ≠ q := fun e => hqn e.symm
        simp only [push_cast, Nat.reduceAdd, Nat.reduceLeDiff, Nat.reduceLT, Int.reduceToNat, Nat.left_eq_add, Nat.add_eq_left, Nat.add_left_cancel_iff, Nat.reduceEqDiff, Nat.add_assoc, Nat.succ_ne_zero, hne, this]
    · rw [VT.setL_at hv.ok.nd hat] at h hok
      have hk := (List.getElem?_eq_some_iff.1 hat).1
      obtain ⟨a, c, hL⟩ := hv.lst.rd.form
      rw [List.length_map] at hL
      have hlst := hv.lst
      rw [hL] at hlst
      have b1 : decide ((k : Int) ≥ 0) = true := decide_eq_true (by omega)
      simp only [push_cast, Nat.reduceAdd, Nat.reduceLeDiff, Nat.reduceLT, Int.reduceToNat, Nat.left_eq_add, Nat.add_eq_left, Nat.add_left_cancel_iff, Nat.reduceEqDiff, Nat.add_assoc, Nat.succ_ne_zero, b1, hv.blk, hL]
      refine s_iaE hlst.rd (by omega) (by simpa using hk) fun b1 o1 c1 hv1 _ => ?_
      simp only [Int.toNat_natCast]
      rw [List.length_map, Value.slice.injEq] at hv1
      obtain ⟨rfl, _, rfl⟩ := hv1
      have hl2 : OwnE 75 3 w (.slice (some ⟨b1, o1, none⟩) (t.tab.map memC).length c) (t.tab.map memC) := by rw [List.length_map]; exact hlst
      obtain ⟨g1, g2⟩ := hl2.putF (i := k) (f := 2) (by simpa using hk) (by decide) (.bool b)
      have hlq := hv.lq b1 (by rw [hL]; rfl)
      have ne1 : q ≠ b1 := fun e => hlq.1 e.symm
      have ne2 : nb ≠ b1 := fun e => hlq.2 e.symm
      rw [Nat.add_assoc] at g1 g2
      simp only [push_cast, Nat.reduceAdd, Nat.reduceLeDiff, Nat.reduceLT, Int.reduceToNat, Nat.left_eq_add, Nat.add_eq_left, Nat.add_left_cancel_iff, Nat.reduceEqDiff, Nat.add_assoc, Nat.succ_ne_zero, g1]
      refine h _ (.slice (some ⟨b1, o1, none⟩) t.tab.length c) ⟨?_, ?_, ?_, hv.qn, fun x hx => by cases hx; exact hlq, hok⟩ (Fr.wr _ _ _ _ (.inr (.inr (by rw [hL]; rfl)))) (.inl (by rw [hL]))
      · simp only [push_cast, Nat.reduceAdd, Nat.reduceLeDiff, Nat.reduceLT, Int.reduceToNat, Nat.left_eq_add, Nat.add_eq_left, Nat.add_left_cancel_iff, Nat.reduceEqDiff, Nat.add_assoc, Nat.succ_ne_zero, ne1, hv.blk, hL]
      · have e : (t.tab.map memC).set k (((t.tab.map memC)[k]'(by simpa using hk)).set 2 (.bool b)) = (t.tab.set k ((v, n), b)).map memC := by
          rw [List.map_set]
          congr 1
          rw [List.getElem_map]
          have : t.tab[k] = ((v, n), b0) := (List.getElem?_eq_some_iff.1 hat).2
          rw [this]
          rfl
        rw [e, List.length_map] at g2
        exact g2
      · simp only [push_cast, Nat.reduceAdd, Nat.reduceLeDiff, Nat.reduceLT, Int.reduceToNat, Nat.left_eq_add, Nat.add_eq_left, Nat.add_left_cancel_iff, Nat.reduceEqDiff, Nat.add_assoc, Nat.succ_ne_zero, ne2, hv.nat]
  · rw [VT.add, if_neg hr] at h
    simp only [hr, push_cast, Nat.reduceAdd, Nat.reduceLeDiff, Nat.reduceLT, Int.reduceToNat, Nat.left_eq_add, Nat.add_eq_left, Nat.add_left_cancel_iff, Nat.reduceEqDiff, Nat.add_assoc, Nat.succ_ne_zero]
    exact h w Lv hv (Fr.refl _ _) (.inl rfl)

theorem rnative_spec {q nb : Nat} {Lv : Value} {t : VT} {n v : Int} (hv : RRep w q nb Lv t) (h : ∀ w', RRep w' q nb Lv (t.native n v).1 → Fr (rfp q nb Lv) w w' → K (i64 (t.native n v).2) w') :
    CallsR Try.prog 43 #[pt q 0, i64 n, i64 v] K w := by
  apply c43
  unfold p43
  simp only [push_cast, Nat.reduceAdd, Nat.reduceLeDiff, Nat.reduceLT, Int.reduceToNat, Nat.left_eq_add, Nat.add_eq_left, Nat.add_left_cancel_iff, Nat.reduceEqDiff, Nat.add_assoc, Nat.succ_ne_zero, hv.blk]
  have hbad : ¬ (t.port n ∧ 0 ≤ v ∧ v ≤ 4094) → K (i64 1) w := fun hb => by
    have := h w
    rw [VT.native, if_neg hb] at this
    exact this hv (Fr.refl _ _)
  refine br_dec (fun h1 => hbad fun h2 => by have := h2.1.1; omega) fun h1 => ?_
  refine br_dec (fun h2 => hbad fun h3 => by have := h3.1.2; omega) fun h2 => ?_
  have hp : t.port n := ⟨by omega, by omega⟩
  refine br_dec (fun h2 => hbad (by omega)) fun h2 => ?_
  refine br_dec (fun h3 => hbad (by omega)) fun h3 => ?_
  rw [VT.native, if_pos ⟨hp, by omega, by omega⟩] at h
  have hok := VT.ok_native hv.ok n v
  rw [VT.native, if_pos ⟨hp, by omega, by omega⟩] at hok
  rw [opS_iaS, if_pos (show 0 ≤ n ∧ n < _ from hp)]
  have hlt : n.toNat < t.nat.length := by have := hp.1; have := hp.2; omega
  simp only [push_cast, Nat.reduceAdd, Nat.reduceLeDiff, Nat.reduceLT, Int.reduceToNat, Nat.left_eq_add, Nat.add_eq_left, Nat.add_left_cancel_iff, Nat.reduceEqDiff, Nat.add_assoc, Nat.succ_ne_zero, hv.nat, Nat.mul_one, List.length_map]
  have hle : decide (n.toNat + 1 ≤ t.nat.length) = true := decide_eq_true (by omega)
  have hqn := hv.qn
  simp only [hle, push_cast, Nat.reduceAdd, Nat.reduceLeDiff, Nat.reduceLT, Int.reduceToNat, Nat.left_eq_add, Nat.add_eq_left, Nat.add_left_cancel_iff, Nat.reduceEqDiff, Nat.add_assoc, Nat.succ_ne_zero]
  refine h _ ⟨?_, hv.lst.fr (Fr.wr (fp := fun b => b = nb) w nb n.toNat [i64 v] rfl) (fun b hb e => (hv.lq b hb).2 e), ?_, hqn, hv.lq, hok⟩ (Fr.wr _ _ _ _ (.inr (.inl rfl)))
  · simp only [push_cast, Nat.reduceAdd, Nat.reduceLeDiff, Nat.reduceLT, Int.reduceToNat, Nat.left_eq_add, Nat.add_eq_left, Nat.add_left_cancel_iff, Nat.reduceEqDiff, Nat.add_assoc, Nat.succ_ne_zero, hqn, hv.blk, List.length_set]
  · simp only [push_cast, Nat.reduceAdd, Nat.reduceLeDiff, Nat.reduceLT, Int.reduceToNat, Nat.left_eq_add, Nat.add_eq_left, Nat.add_left_cancel_iff, Nat.reduceEqDiff, Nat.add_assoc, Nat.succ_ne_zero, hv.nat]
    rw [splice_ints _ _ hlt]

theorem rmembers_spec {q nb : Nat} {Lv : Value} {t : VT} {v : Int} (hv : RRep w q nb Lv t) (h : ∀ w' x, OwnE 3 1 w' x ((t.members v).map cellI) → Fr none_ w w' → New w x → K x w') :
    CallsR Try.prog 22 #[pt q 0, i64 v] K w := by
  apply c22
  unfold p22
  refine jn1 K (fun _ _ h => h) fun j hj => ?_
  have hlen := hv.ok.len
  have hsmall := VT.small hv.ok
  refine loop2 (fun mm x y w' => ∃ i : Nat, y = i64 i ∧ i + mm = t.nat.length ∧ Fr none_ w w' ∧ OwnE 3 1 w' x ((((List.range i).map Int.ofNat).filter fun p => t.is v p).map cellI) ∧ New w x) ?_ t.nat.length ⟨0, rfl, by omega, Fr.refl _ _, own_nil _ _ _, fun b hb => by cases hb⟩
  rintro mm x y w' X ⟨i, rfl, hi, hF, hx, hN⟩ hX
  have hv' := hv.fr0 hF
  simp only [push_cast, Nat.reduceAdd, Nat.reduceLeDiff, Nat.reduceLT, Int.reduceToNat, Nat.left_eq_add, Nat.add_eq_left, Nat.add_left_cancel_iff, Nat.reduceEqDiff, Nat.add_assoc, Nat.succ_ne_zero, hv'.blk]
  refine br_dec (fun hlt => ?_) fun hge => ?_
  · have hstep : (((List.range (i + 1)).map Int.ofNat).filter fun p => t.is v p) = (((List.range i).map Int.ofNat).filter fun p => t.is v p) ++ (if t.is v i then [(i : Int)] else []) := by
      rw [List.range_succ, List.map_append, List.filter_append]
      congr 1
      by_cases hti : t.is v i <;> simp [hti]
    have hl2 : (((List.range i).map Int.ofNat).filter fun p => t.is v p).length ≤ i := by
      refine Nat.le_trans (List.length_filter_le _ _) ?_
      simp
    have hw : IntKind.i64.wrap ((i : Int) + 1) = ((i + 1 : Nat) : Int) := by rw [wrap_i64 (by omega)]; omega
    refine rfind_spec hv' (fun hg => ?_) fun k b0 hat hg => ?_
    · have hti : t.is v i = false := by unfold VT.is; rw [hg]; rfl
      rw [hti] at hstep
      have b1 : decide ((-1 : Int) ≥ 0) = false := rfl
      simp only [push_cast, Nat.reduceAdd, Nat.reduceLeDiff, Nat.reduceLT, Int.reduceToNat, Nat.left_eq_add, Nat.add_eq_left, Nat.add_left_cancel_iff, Nat.reduceEqDiff, Nat.add_assoc, Nat.succ_ne_zero, hw, b1]
      refine hX (mm - 1) _ _ _ (by omega) ⟨i + 1, rfl, by omega, hF, ?_, hN⟩
      rw [hstep]
      simpa using hx
    · have hti : t.is v i = true := by unfold VT.is; rw [hg]; rfl
      rw [hti] at hstep
      have b1 : decide ((k : Int) ≥ 0) = true := decide_eq_true (by omega)
      simp only [push_cast, Nat.reduceAdd, Nat.reduceLeDiff, Nat.reduceLT, Int.reduceToNat, Nat.left_eq_add, Nat.add_eq_left, Nat.add_left_cancel_iff, Nat.reduceEqDiff, Nat.add_assoc, Nat.succ_ne_zero, b1]
      refine s_app1 (by rfl) (by rfl) (by decide) hx (by rw [List.length_map]; omega) fun x' w2 hx' hb hF2 => ?_
      simp only [push_cast, Nat.reduceAdd, Nat.reduceLeDiff, Nat.reduceLT, Int.reduceToNat, Nat.left_eq_add, Nat.add_eq_left, Nat.add_left_cancel_iff, Nat.reduceEqDiff, Nat.add_assoc, Nat.succ_ne_zero, hw]
      refine hX (mm - 1) _ _ _ (by omega) ⟨i + 1, rfl, by omega, hF.trans_new hF2 (fun b hb h => by have := hN b h; omega), ?_, ?_⟩
      · rw [hstep, List.map_append]; exact hx'
      · intro b hb'
        rcases hb with hb | hb
        · exact hN b (hb ▸ hb')
        · exact Nat.le_trans hF.size (hb b hb')
  · obtain rfl : i = t.nat.length := by omega
    exact hj _ _ (h _ _ hx hF hN)

theorem rremove_spec {q nb : Nat} {Lv : Value} {t : VT} {v n : Int} (hv : RRep w q nb Lv t) (h : ∀ w' Lv', RRep w' q nb Lv' (t.remove v n).1 → Fr (rfp q nb Lv) w w' → (blkS Lv' = blkS Lv ∨ New w Lv') → K (i64 (t.remove v n).2) w') :
    CallsR Try.prog 42 #[pt q 0, i64 v, i64 n] K w := by
  apply c42
  unfold p42
  simp only [push_cast, Nat.reduceAdd, Nat.reduceLeDiff, Nat.reduceLT, Int.reduceToNat, Nat.left_eq_add, Nat.add_eq_left, Nat.add_left_cancel_iff, Nat.reduceEqDiff, Nat.add_assoc, Nat.succ_ne_zero]
  refine rright_spec' hv ?_
  have hok := VT.ok_remove hv.ok v n
  have hsmall := VT.small hv.ok
  by_cases hr : t.right v n
  · rw [VT.remove, if_pos hr] at h hok
    simp only [hr, push_cast, Nat.reduceAdd, Nat.reduceLeDiff, Nat.reduceLT, Int.reduceToNat, Nat.left_eq_add, Nat.add_eq_left, Nat.add_left_cancel_iff, Nat.reduceEqDiff, Nat.add_assoc, Nat.succ_ne_zero]
    refine rfind_spec hv (fun hg => ?_) fun k b0 hat hg => ?_
    · rw [hg] at h
      have b1 : decide ((-1 : Int) < 0) = true := rfl
      simp only [push_cast, Nat.reduceAdd, Nat.reduceLeDiff, Nat.reduceLT, Int.reduceToNat, Nat.left_eq_add, Nat.add_eq_left, Nat.add_left_cancel_iff, Nat.reduceEqDiff, Nat.add_assoc, Nat.succ_ne_zero, b1]
      exact h w Lv hv (Fr.refl _ _) (.inl rfl)
    · rw [hg] at h hok
      simp only [Option.isSome_some, if_true] at h hok
      rw [VT.delL_at hv.ok.nd hat] at h hok
      have hk := (List.getElem?_eq_some_iff.1 hat).1
      have b1 : decide ((k : Int) < 0) = false := decide_eq_false (by omega)
      simp only [push_cast, Nat.reduceAdd, Nat.reduceLeDiff, Nat.reduceLT, Int.reduceToNat, Nat.left_eq_add, Nat.add_eq_left, Nat.add_left_cancel_iff, Nat.reduceEqDiff, Nat.add_assoc, Nat.succ_ne_zero, b1]
      obtain ⟨a, c, hLv⟩ := hv.lst.rd.form
      have hL : RdE 3 w.drew Lv (t.tab.map memC) := hv.lst.rd
      have hp : w.drew.heap[q]? = _ := hv.blk
      have hF : Fr none_ w w.drew := Fr.drew w
      have hqlt := hv.lt.1
      have hLold : ∀ b, blkS Lv = some b → b < w.heap.size := fun b hb => hv.lst.lt hb
      have hqn := hv.qn
      have hML : (t.tab.map memC).length = t.tab.length := List.length_map ..
      have ek1 : IntKind.i64.wrap ((k : Int) + 1) = (k : Int) + 1 := wrap_i64 (by omega)
      have e6 : ((t.tab.map memC).take k).flatten.all S.oneCell = true := by rw [← List.map_take]; exact memC_one _
      have e7 : ((t.tab.map memC).drop (k + 1)).flatten.all S.oneCell = true := by rw [← List.map_drop]; exact memC_one _
      have e8 : ([] : List (List Value)).length + ((t.tab.map memC).take k).length ≤ 300000 := by simp; omega
      have e9 : ((t.tab.map memC).take k).length + ((t.tab.map memC).drop (k + 1)).length ≤ 300000 := by simp; omega
      have hfin : (t.tab.map memC).take k ++ (t.tab.map memC).drop (k + 1) = (t.tab.take k ++ t.tab.drop (k + 1)).map memC := by
        rw [List.map_append, List.map_take, List.map_drop]
      rw [hML] at hLv
      generalize hM : t.tab.map memC = M at *
      have S1 : ∀ (K : Value → World → Prop) (w : World), K (.slice (if c = 0 then a else a.map (·.add (0 * 3))) (k - 0) (c - 0)) w → k ≤ c → opS Try.prog (S.slc 67 Lv none (some (i64 k)) none) K w := by
        intro K w h hc
        rw [hLv, opS_slice (run_boundsH (by omega) (by omega)), Int.toNat_natCast]
        exact h
      have S2 : ∀ (K : Value → World → Prop) (w : World), K (.slice (if c = k + 1 then a else a.map (·.add ((k + 1) * 3))) (t.tab.length - (k + 1)) (c - (k + 1))) w → opS Try.prog (S.slc 67 Lv (some (i64 ((k : Int) + 1))) none none) K w := by
        intro K w h
        have e : ((k : Int) + 1).toNat = k + 1 := by omega
        rw [hLv, opS_slice (run_boundsL (by omega) (by omega)), e]
        exact h
      have hc : k ≤ c := by
        have := hv.lst.1
        rw [hLv] at this
        rcases this with ⟨h1, h2, _⟩ | ⟨_, _, _, _, h1, _, h2, _⟩
        · rw [hM] at h2; omega
        · simp only [Value.slice.injEq] at h1
          rw [hM] at h2; omega
      have P1 : ∀ W, RdE 3 W Lv M → RdE 3 W (.slice (if c = 0 then a else a.map (·.add (0 * 3))) (k - 0) (c - 0)) (M.take k) := by
        intro W hW
        rw [hLv, ← hML] at hW
        have := hW.part (l := 0) (m := k) (by omega) (by omega)
        rwa [List.drop_zero] at this
      have P2 : ∀ W, RdE 3 W Lv M → RdE 3 W (.slice (if c = k + 1 then a else a.map (·.add ((k + 1) * 3))) (t.tab.length - (k + 1)) (c - (k + 1))) (M.drop (k + 1)) := by
        intro W hW
        rw [hLv, ← hML] at hW
        have := hW.part (l := k + 1) (m := M.length) (by omega) (by omega)
        rwa [List.take_length, hML] at this
      have B0 : ∀ (K : Value → World → Prop) (w : World), (∀ v' w', OwnE 75 3 w' v' [] → Fr none_ w w' → New w v' → K v' w') → opS Try.prog (S.buildS 67 0 []) K w := fun K w h => s_bs0 h
      have B2 : ∀ (K : Value → World → Prop) (w : World) (v u : Value) (es fs : List (List Value)), OwnE 75 3 w v es → RdE 3 w u fs → fs.flatten.all S.oneCell = true → es.length + fs.length ≤ 300000 →
          (∀ v' w', OwnE 75 3 w' v' (es ++ fs) → (blkS v' = blkS v ∨ New w v') → Fr (fun b => blkS v = some b) w w' → K v' w') → opS Try.prog (S.bi .append #[67, 67] 67 [v, u]) K w :=
        fun K w v u es fs h1 h2 h3 h4 h => s_app (sz := 3) (by_ := 24) (by rfl) (by decide) h1 h2 h3 (by omega) h
      have hfinal : ∀ W vD, W.heap[q]? = some (cellsO [i64 t.nat.length, Lv, .slice (some ⟨nb, 0, none⟩) t.nat.length t.nat.length] 69) → OwnE 75 3 W vD ((t.tab.take k ++ t.tab.drop (k + 1)).map memC) → Fr none_ w W → New w vD → K (i64 0) (wr W q 1 [vD]) := by
        intro W vD hp hD hF hN
        have hq := hv.lt
        refine h _ vD ⟨?_, hD.fr (Fr.wr (fp := fun x => x = q) W q 1 [vD] rfl) (fun x hx e => by have := hN x hx; omega), ?_, hqn, fun x hx => ⟨fun e => by have := hN x hx; omega, fun e => by have := hN x hx; omega⟩, hok⟩ (Fr.trans (hF.mono fun _ _ h => h.elim) (Fr.wr _ _ _ _ (.inl rfl))) (.inr hN)
        · simp only [push_cast, Nat.reduceAdd, Nat.reduceLeDiff, Nat.reduceLT, Int.reduceToNat, Nat.left_eq_add, Nat.add_eq_left, Nat.add_left_cancel_iff, Nat.reduceEqDiff, Nat.add_assoc, Nat.succ_ne_zero, hp]
        · have := hF.heap hv.nat (fun h => h)
          have hne : nb ≠ q := fun e => hqn e.symm
          simp only [push_cast, Nat.reduceAdd, Nat.reduceLeDiff, Nat.reduceLT, Int.reduceToNat, Nat.left_eq_add, Nat.add_eq_left, Nat.add_left_cancel_iff, Nat.reduceEqDiff, Nat.add_assoc, Nat.succ_ne_zero, hne, this]
      clear h hM hv
      generalize w.drew = W at *
      simp only [push_cast, Nat.reduceAdd, Nat.reduceLeDiff, Nat.reduceLT, Int.reduceToNat, Nat.left_eq_add, Nat.add_eq_left, Nat.add_left_cancel_iff, Nat.reduceEqDiff, Nat.add_assoc, Nat.succ_ne_zero, hp, ek1]
      repeat' first
        | with_reducible refine allW_intro ?_ ?_
        | (with_reducible refine B0 _ _ fun vA WA hA fA nA => ?_
           have hAn : New w vA := fun b hb => Nat.le_trans hF.size (nA b hb)
           replace hp := fA.heap hp (fun h => h)
           replace hL := hL.fr fA (fun _ _ h => h)
           replace hF := hF.trans_new fA (fun _ _ h => h.elim)
           clear fA nA)
        | with_reducible refine S1 _ _ ?_ hc
        | with_reducible refine S2 _ _ ?_
        | (with_reducible refine B2 _ _ _ _ _ _ hA (P1 _ hL) e6 e8 fun vC WC hC bC fC => ?_
           rw [List.nil_append] at hC
           have hCn : New w vC := fun b hb => by
             rcases bC with bC | bC
             · exact hAn b (bC ▸ hb)
             · exact Nat.le_trans hF.size (bC b hb)
           replace hp := fC.heap hp (fun hh => by have := hAn _ hh; omega)
           replace hL := hL.fr fC (fun b hb hh => by have := hAn b hh; have := hLold b hb; omega)
           replace hF := hF.trans_new fC (fun b hb hh => by have := hAn b hh; omega)
           clear fC bC hA)
        | (with_reducible refine B2 _ _ _ _ _ _ hC (P2 _ hL) e7 e9 fun vD WD hD bD fD => ?_
           rw [hfin] at hD
           have hDn : New w vD := fun b hb => by
             rcases bD with bD | bD
             · exact hCn b (bD ▸ hb)
             · exact Nat.le_trans hF.size (bD b hb)
           replace hp := fD.heap hp (fun hh => by have := hCn _ hh; omega)
           replace hF := hF.trans_new fD (fun b hb hh => by have := hCn b hh; omega)
           have hoD := hD.one
           clear fD bD hC
           simp only [push_cast, Nat.reduceAdd, Nat.reduceLeDiff, Nat.reduceLT, Int.reduceToNat, Nat.left_eq_add, Nat.add_eq_left, Nat.add_left_cancel_iff, Nat.reduceEqDiff, Nat.add_assoc, Nat.succ_ne_zero, hp, hoD]
           exact hfinal _ _ hp hD hF hDn)
        | simp only [push_cast, Nat.reduceAdd, Nat.reduceLeDiff, Nat.reduceLT, Int.reduceToNat, Nat.left_eq_add, Nat.add_eq_left, Nat.add_left_cancel_iff, Nat.reduceEqDiff, Nat.add_assoc, Nat.succ_ne_zero, hp, ek1]
  · rw [VT.remove, if_neg hr] at h
    simp only [hr, push_cast, Nat.reduceAdd, Nat.reduceLeDiff, Nat.reduceLT, Int.reduceToNat, Nat.left_eq_add, Nat.add_eq_left, Nat.add_left_cancel_iff, Nat.reduceEqDiff, Nat.add_assoc, Nat.succ_ne_zero]
    exact h w Lv hv (Fr.refl _ _) (.inl rfl)

theorem rin_spec {q nb : Nat} {Lv : Value} {t : VT} {n : Int} {f : Frm} {bs : List Int} (hv : RRep w q nb Lv t) (hf : FrmR w f bs) (h : ∀ w', Fr none_ w w' → K (.tuple #[i64 (t.inn n f bs.length).1, i64 (t.inn n f bs.length).2]) w') :
    CallsR Try.prog 13 #[pt q 0, i64 n, .agg f.cells.toArray] K w := by
  apply c13
  unfold p13
  obtain ⟨a, c, hbd⟩ := hf.2.form
  have h0 : (w.alloc (cellsO f.cells 27)).heap[w.heap.size]? = some (cellsO f.cells 27) := by simp only [push_cast, Nat.reduceAdd, Nat.reduceLeDiff, Nat.reduceLT, Int.reduceToNat, Nat.left_eq_add, Nat.add_eq_left, Nat.add_left_cancel_iff, Nat.reduceEqDiff, Nat.add_assoc, Nat.succ_ne_zero]
  have hF : Fr none_ w (w.alloc (cellsO f.cells 27)) := (by repeat' first | with_reducible exact Fr.refl _ _ | with_reducible refine Fr.step_alloc ?_ ?_ | with_reducible refine Fr.step_drew ?_ | with_reducible refine Fr.step_wr ?_ ?_ _ _ | exact rfl | exact Or.inr (by omega) | exact Or.inl rfl | exact Or.inl (Or.inl rfl) | exact Or.inl (Or.inr rfl))
  simp only [opS_box, cells_agg, alloc_cellsO]
  generalize w.alloc (cellsO f.cells 27) = W at *
  simp only [push_cast, Nat.reduceAdd, Nat.reduceLeDiff, Nat.reduceLT, Int.reduceToNat, Nat.left_eq_add, Nat.add_eq_left, Nat.add_left_cancel_iff, Nat.reduceEqDiff, Nat.add_assoc, Nat.succ_ne_zero, h0]
  refine rright_spec hbd fun W2 hF2 => ?_
  replace hF := hF.trans hF2
  replace h0 := hF2.heap h0 (fun h => h)
  have hv2 := hv.fr0 hF
  simp only [push_cast, Nat.reduceAdd, Nat.reduceLeDiff, Nat.reduceLT, Int.reduceToNat, Nat.left_eq_add, Nat.add_eq_left, Nat.add_left_cancel_iff, Nat.reduceEqDiff, Nat.add_assoc, Nat.succ_ne_zero, hv2.blk]
  have hbad : ¬ (t.port n ∧ f.right bs.length = true) → K (.tuple #[.int .i64 0, .int .i64 1]) W2 := fun hb => by
    rw [VT.inn, if_neg hb] at h
    exact h _ hF
  refine br_intro (fun hr => hbad fun h => by rw [h.2] at hr; cases hr) fun hr => ?_
  have hr : f.right bs.length = true := by simpa using hr
  refine br_dec (fun h1 => hbad fun h => by have := h.1.1; omega) fun h1 => ?_
  refine br_dec (fun h2 => hbad fun h => by have := h.1.2; omega) fun h2 => ?_
  have hp : t.port n := ⟨by omega, by omega⟩
  have hlt : n.toNat < t.nat.length := by have := hp.1; have := hp.2; omega
  rw [VT.inn, if_pos ⟨hp, hr⟩] at h
  rw [opS_iaS, if_pos (show 0 ≤ n ∧ n < _ from hp)]
  have hg : t.nat.getD n.toNat 0 = t.nat[n.toNat] := by simp [List.getD, List.getElem?_eq_getElem hlt]
  rw [hg] at h
  simp only [push_cast, Nat.reduceAdd, Nat.reduceLeDiff, Nat.reduceLT, Int.reduceToNat, Nat.left_eq_add, Nat.add_eq_left, Nat.add_left_cancel_iff, Nat.reduceEqDiff, Nat.add_assoc, Nat.succ_ne_zero, hv2.nat, Nat.mul_one, List.getElem?_map, List.getElem?_eq_getElem hlt, Option.map_some]
  have key : ∀ u : Int, (u = if f.vlan = 0 then t.nat[n.toNat] else f.vlan) →
      opS Try.prog (S.binI .eql (i64 u) (.int .i64 0)) (fun x18 => brn x18 (K (.tuple #[.int .i64 0, .int .i64 4])) (opS Try.prog (S.cl 31 [pt q 0, i64 u, i64 n]) fun x19 => opS Try.prog (S.binI .lss x19 (.int .i64 0)) fun x20 =>
        brn x20 (K (.tuple #[.int .i64 0, .int .i64 4])) (K (.tuple #[i64 u, .int .i64 0])))) W2 := by
    rintro u rfl
    simp only [] at h
    generalize (if f.vlan = 0 then t.nat[n.toNat] else f.vlan) = u at *
    simp only [push_cast, Nat.reduceAdd, Nat.reduceLeDiff, Nat.reduceLT, Int.reduceToNat, Nat.left_eq_add, Nat.add_eq_left, Nat.add_left_cancel_iff, Nat.reduceEqDiff, Nat.add_assoc, Nat.succ_ne_zero]
    have hno : getL t.tab (u, n) = none → K (.tuple #[.int .i64 0, .int .i64 4]) W2 := fun hg => by
      have : t.is u n = false := by unfold VT.is; rw [hg]; rfl
      rw [this] at h
      exact h _ hF
    refine br_intro (fun h3 => hno ?_) fun h3 => ?_
    · have h3 : u = 0 := by simpa using h3
      cases hg : getL t.tab (u, n) with
      | none => rfl
      | some b =>
        have := hv.ok.key _ (lookup_some_mem hg)
        have := this.1
        simp only [] at this
        omega
    · refine rfind_spec hv2 (fun hg => ?_) fun k b hk hg => ?_
      · have b1 : decide ((-1 : Int) < 0) = true := rfl
        simp only [push_cast, Nat.reduceAdd, Nat.reduceLeDiff, Nat.reduceLT, Int.reduceToNat, Nat.left_eq_add, Nat.add_eq_left, Nat.add_left_cancel_iff, Nat.reduceEqDiff, Nat.add_assoc, Nat.succ_ne_zero, b1]
        exact hno hg
      · have b1 : decide ((k : Int) < 0) = false := decide_eq_false (by omega)
        simp only [push_cast, Nat.reduceAdd, Nat.reduceLeDiff, Nat.reduceLT, Int.reduceToNat, Nat.left_eq_add, Nat.add_eq_left, Nat.add_left_cancel_iff, Nat.reduceEqDiff, Nat.add_assoc, Nat.succ_ne_zero, b1]
        have : t.is u n = true := by unfold VT.is; rw [hg]; rfl
        rw [this] at h
        exact h _ hF
  clear h
  refine jn1 (fun v w' => w' = W2 ∧ ∃ u : Int, v = i64 u ∧ u = if f.vlan = 0 then t.nat[n.toNat] else f.vlan) ?_ fun j hj => ?_
  · rintro v w' ⟨rfl, u, rfl, hu⟩
    exact key u hu
  · refine jn0 (fun w' => w' = W2 ∧ f.vlan = 0) ?_ fun j2 hj2 => ?_
    · rintro w' ⟨e, hz0⟩
      exact hj _ _ ⟨e, _, rfl, by rw [if_pos hz0]⟩
    · simp only [push_cast, Nat.reduceAdd, Nat.reduceLeDiff, Nat.reduceLT, Int.reduceToNat, Nat.left_eq_add, Nat.add_eq_left, Nat.add_left_cancel_iff, Nat.reduceEqDiff, Nat.add_assoc, Nat.succ_ne_zero, h0]
      refine br_intro (fun ht => ?_) fun ht => hj2 _ ⟨rfl, ?_⟩
      · refine br_intro (fun h3 => ?_) fun h3 => hj2 _ ⟨rfl, by simpa using h3⟩
        have h3 : f.vlan ≠ 0 := by simpa using h3
        exact hj _ _ ⟨rfl, _, rfl, by rw [if_neg h3]⟩
      · unfold Frm.right at hr
        rw [ht] at hr
        simp at hr
        exact hr.2.1

theorem rout_spec {q nb : Nat} {Lv : Value} {t : VT} {v n : Int} {f : Frm} {bs : List Int} (hv : RRep w q nb Lv t) (hf : FrmR w f bs) (h : ∀ w', Fr none_ w w' → K (.tuple #[.agg (t.out v n f bs.length).1.cells.toArray, i64 (t.out v n f bs.length).2]) w') :
    CallsR Try.prog 15 #[pt q 0, i64 v, i64 n, .agg f.cells.toArray] K w := by
  apply c15
  unfold p15
  obtain ⟨a, c, hbd⟩ := hf.2.form
  have hone : f.cells.all S.oneCell = true := Frm.one _ hf.2.one
  have hone0 : zFrm.cells.all S.oneCell = true := rfl
  have hz : ∀ w : World, w.alloc (cellsO [Value.int IntKind.u8 0, Value.int IntKind.u8 0, Value.int IntKind.u8 0, Value.int IntKind.u8 0, Value.int IntKind.u8 0, Value.int IntKind.u8 0, Value.int IntKind.u8 0, Value.int IntKind.u8 0, Value.int IntKind.u8 0, Value.int IntKind.u8 0, Value.int IntKind.u8 0, Value.int IntKind.u8 0,
    Value.bool false, Value.int IntKind.i64 0, Value.int IntKind.i64 0, Value.int IntKind.i64 0, Value.slice none 0 0] 27) = w.alloc (cellsO zFrm.cells 27) := fun _ => rfl
  simp only [push_cast, Nat.reduceAdd, Nat.reduceLeDiff, Nat.reduceLT, Int.reduceToNat, Nat.left_eq_add, Nat.add_eq_left, Nat.add_left_cancel_iff, Nat.reduceEqDiff, Nat.add_assoc, Nat.succ_ne_zero, hz]
  have h0 : ((w.alloc (cellsO f.cells 27)).alloc (cellsO zFrm.cells 27)).heap[w.heap.size]? = some (cellsO f.cells 27) := by simp only [push_cast, Nat.reduceAdd, Nat.reduceLeDiff, Nat.reduceLT, Int.reduceToNat, Nat.left_eq_add, Nat.add_eq_left, Nat.add_left_cancel_iff, Nat.reduceEqDiff, Nat.add_assoc, Nat.succ_ne_zero]
  have h1 : ((w.alloc (cellsO f.cells 27)).alloc (cellsO zFrm.cells 27)).heap[w.heap.size + 1]? = some (cellsO zFrm.cells 27) := by simp only [push_cast, Nat.reduceAdd, Nat.reduceLeDiff, Nat.reduceLT, Int.reduceToNat, Nat.left_eq_add, Nat.add_eq_left, Nat.add_left_cancel_iff, Nat.reduceEqDiff, Nat.add_assoc, Nat.succ_ne_zero]
  have hF : Fr none_ w ((w.alloc (cellsO f.cells 27)).alloc (cellsO zFrm.cells 27)) := (by repeat' first | with_reducible exact Fr.refl _ _ | with_reducible refine Fr.step_alloc ?_ ?_ | with_reducible refine Fr.step_drew ?_ | with_reducible refine Fr.step_wr ?_ ?_ _ _ | exact rfl | exact Or.inr (by omega) | exact Or.inl rfl | exact Or.inl (Or.inl rfl) | exact Or.inl (Or.inr rfl))
  generalize (w.alloc (cellsO f.cells 27)).alloc (cellsO zFrm.cells 27) = W at *
  refine rright_spec hbd fun W2 hF2 => ?_
  replace hF := hF.trans hF2
  replace h0 := hF2.heap h0 (fun h => h)
  replace h1 := hF2.heap h1 (fun h => h)
  have hv2 := hv.fr0 hF
  refine rright_spec' hv2 ?_
  simp only [push_cast, Nat.reduceAdd, Nat.reduceLeDiff, Nat.reduceLT, Int.reduceToNat, Nat.left_eq_add, Nat.add_eq_left, Nat.add_left_cancel_iff, Nat.reduceEqDiff, Nat.add_assoc, Nat.succ_ne_zero, h0, h1, hone, hone0, build_zFrm]
  refine br_intro (fun hr => ?_) fun hr => ?_
  · rw [VT.out, if_neg (fun h => by rw [h.2] at hr; cases hr)] at h
    exact h _ (hF.step_wr (Or.inr (by omega)) _ _)
  have hr : f.right bs.length = true := by simpa using hr
  refine br_intro (fun hp => ?_) fun hp => ?_
  · have hp : ¬ t.right v n := by simpa using hp
    rw [VT.out, if_neg (fun h => hp h.1)] at h
    exact h _ (hF.step_wr (Or.inr (by omega)) _ _)
  have hp : t.right v n := by simpa using hp
  rw [VT.out, if_pos ⟨hp, hr⟩] at h
  refine rfind_spec hv2 (fun hg => ?_) fun k b hk hg => ?_
  · rw [hg] at h
    have b1 : decide ((-1 : Int) < 0) = true := rfl
    simp only [push_cast, Nat.reduceAdd, Nat.reduceLeDiff, Nat.reduceLT, Int.reduceToNat, Nat.left_eq_add, Nat.add_eq_left, Nat.add_left_cancel_iff, Nat.reduceEqDiff, Nat.add_assoc, Nat.succ_ne_zero, b1, h0, h1, hone, hone0, build_zFrm]
    exact h _ (hF.step_wr (Or.inr (by omega)) _ _)
  · rw [hg] at h
    have hk2 := (List.getElem?_eq_some_iff.1 hk).1
    have b1 : decide ((k : Int) < 0) = false := decide_eq_false (by omega)
    obtain ⟨a2, c2, hL⟩ := hv2.lst.rd.form
    rw [List.length_map] at hL
    have hlst := hv2.lst
    rw [hL] at hlst
    simp only [push_cast, Nat.reduceAdd, Nat.reduceLeDiff, Nat.reduceLT, Int.reduceToNat, Nat.left_eq_add, Nat.add_eq_left, Nat.add_left_cancel_iff, Nat.reduceEqDiff, Nat.add_assoc, Nat.succ_ne_zero, b1, hv2.blk, hL]
    refine s_iaE hlst.rd (by omega) (by simpa using hk2) fun b1 o1 c1 _ hE => ?_
    have he : (t.tab.map memC)[k]'(by simpa using hk2) = memC ((v, n), b) := by
      rw [List.getElem_map, (List.getElem?_eq_some_iff.1 hk).2]
    simp only [Int.toNat_natCast, he] at hE ⊢
    have hE2 := hE.cell 2 (show 2 < 3 by decide)
    have hg2 : (memC ((v, n), b))[2]? = some (.bool b) := rfl
    rw [hg2] at hE2
    rw [Nat.add_assoc] at hE2
    simp only [push_cast, Nat.reduceAdd, Nat.reduceLeDiff, Nat.reduceLT, Int.reduceToNat, Nat.left_eq_add, Nat.add_eq_left, Nat.add_left_cancel_iff, Nat.reduceEqDiff, Nat.add_assoc, Nat.succ_ne_zero, hE2, h0]
    cases b with
    | true =>
      simp only [push_cast, Nat.reduceAdd, Nat.reduceLeDiff, Nat.reduceLT, Int.reduceToNat, Nat.left_eq_add, Nat.add_eq_left, Nat.add_left_cancel_iff, Nat.reduceEqDiff, Nat.add_assoc, Nat.succ_ne_zero, h0, h1, hone, hone0, build_zFrm]
      refine rtag_spec (hf.fr0 hF) fun W3 hF3 => ?_
      replace h0 := hF3.heap h0 (fun h => h)
      replace h1 := hF3.heap h1 (fun h => h)
      replace hF := hF.trans hF3
      rw [if_pos (VT.tag_right hr hp.1 hp.2.1)]
      have hone2 : (f.tag v f.prio).cells.all S.oneCell = true := Frm.one _ hf.2.one
      have hlt := lt_of_heap h1
      have hne : w.heap.size + 1 ≠ W3.heap.size := by omega
      have hne2 : W3.heap.size ≠ w.heap.size + 1 := by omega
      have hz3 : ∀ w : World, w.alloc (cellsO [Value.int IntKind.u8 0, Value.int IntKind.u8 0, Value.int IntKind.u8 0, Value.int IntKind.u8 0, Value.int IntKind.u8 0, Value.int IntKind.u8 0, Value.int IntKind.u8 0, Value.int IntKind.u8 0, Value.int IntKind.u8 0, Value.int IntKind.u8 0, Value.int IntKind.u8 0, Value.int IntKind.u8 0,
        Value.bool false, Value.int IntKind.i64 0, Value.int IntKind.i64 0, Value.int IntKind.i64 0, Value.slice none 0 0] 27) = w.alloc (cellsO zFrm.cells 27) := fun _ => rfl
      simp only [push_cast, Nat.reduceAdd, Nat.reduceLeDiff, Nat.reduceLT, Int.reduceToNat, Nat.left_eq_add, Nat.add_eq_left, Nat.add_left_cancel_iff, Nat.reduceEqDiff, Nat.add_assoc, Nat.succ_ne_zero, h0, h1, hone2, hz3, hne, hne2]
      exact h _ (((hF.step_alloc rfl).step_wr (Or.inr (by omega)) _ _).step_wr (Or.inr (by omega)) _ _)
    | false =>
      simp only [push_cast, Nat.reduceAdd, Nat.reduceLeDiff, Nat.reduceLT, Int.reduceToNat, Nat.left_eq_add, Nat.add_eq_left, Nat.add_left_cancel_iff, Nat.reduceEqDiff, Nat.add_assoc, Nat.succ_ne_zero, h0, h1, hone, hone0, build_zFrm]
      refine runtag_spec (hf.fr0 hF) fun W3 hF3 => ?_
      replace h0 := hF3.heap h0 (fun h => h)
      replace h1 := hF3.heap h1 (fun h => h)
      replace hF := hF.trans hF3
      have hone2 : f.untag.cells.all S.oneCell = true := Frm.one _ hf.2.one
      simp only [push_cast, Nat.reduceAdd, Nat.reduceLeDiff, Nat.reduceLT, Int.reduceToNat, Nat.left_eq_add, Nat.add_eq_left, Nat.add_left_cancel_iff, Nat.reduceEqDiff, Nat.add_assoc, Nat.succ_ne_zero, h0, h1, hone2]
      exact h _ (hF.step_wr (Or.inr (by omega)) _ _)

theorem sameints_spec {a b : Value} {l r : List Int} (ha : RdE 1 w a (l.map cellI)) (hb : RdE 1 w b (r.map cellI)) (hn : l.length < 2 ^ 62) (h : ∀ w', Fr none_ w w' → K (.bool (decide (l = r))) w') : CallsR Try.prog 21 #[a, b] K w := by
  apply c21
  unfold p21
  obtain ⟨aa, ac, rfl⟩ := ha.form
  obtain ⟨ba, bc, rfl⟩ := hb.form
  rw [List.length_map] at ha hb ⊢
  rw [List.length_map]
  simp only [push_cast, Nat.reduceAdd, Nat.reduceLeDiff, Nat.reduceLT, Int.reduceToNat, Nat.left_eq_add, Nat.add_eq_left, Nat.add_left_cancel_iff, Nat.reduceEqDiff, Nat.add_assoc, Nat.succ_ne_zero]
  refine br_intro (fun hne => ?_) fun heq => ?_
  · have : l ≠ r := fun e => by subst e; simp at hne
    rw [decide_eq_false this] at h
    exact h _ (Fr.refl _ _)
  · have hl : l.length = r.length := by
      have : (l.length : Int) = r.length := by simpa using heq
      omega
    refine jn0 (fun w' => Fr none_ w w' ∧ l = r) (fun w' ⟨hF, e⟩ => ?_) fun j hj => ?_
    · rw [decide_eq_true e] at h
      exact h _ hF
    refine loop1 (fun m v w' => ∃ i : Nat, v = i64 i ∧ i + m = l.length ∧ Fr none_ w w' ∧ l.take i = r.take i) ?_ l.length ⟨0, rfl, by omega, Fr.refl _ _, rfl⟩
    rintro m v w' X ⟨i, rfl, hi, hF, htk⟩ hX
    simp only [push_cast, Nat.reduceAdd, Nat.reduceLeDiff, Nat.reduceLT, Int.reduceToNat, Nat.left_eq_add, Nat.add_eq_left, Nat.add_left_cancel_iff, Nat.reduceEqDiff, Nat.add_assoc, Nat.succ_ne_zero]
    refine br_dec (fun hlt => ?_) fun hge => hj _ ⟨hF, ?_⟩
    · have hi2 : i < l.length := by omega
      have ha' : RdE 1 w'.drew _ (l.map cellI) := ha.fr hF.step_drew (fun _ _ h => h)
      have hb' : RdE 1 w'.drew _ (r.map cellI) := hb.fr hF.step_drew (fun _ _ h => h)
      rw [← List.length_map (f := cellI)] at ha'
      rw [← List.length_map (f := cellI)] at hb'
      refine s_iaE (es := l.map cellI) (ha.fr hF.step_drew (fun _ _ h => h)) (by omega) (by simpa using hi2) fun b1 o1 c1 _ hE => ?_
      simp only [Int.toNat_natCast, List.getElem_map] at hE ⊢
      have hE0 := hE.cell0 (show 0 < 1 by decide)
      simp only [push_cast, Nat.reduceAdd, Nat.reduceLeDiff, Nat.reduceLT, Int.reduceToNat, Nat.left_eq_add, Nat.add_eq_left, Nat.add_left_cancel_iff, Nat.reduceEqDiff, Nat.add_assoc, Nat.succ_ne_zero, cellI] at hE0
      simp only [push_cast, Nat.reduceAdd, Nat.reduceLeDiff, Nat.reduceLT, Int.reduceToNat, Nat.left_eq_add, Nat.add_eq_left, Nat.add_left_cancel_iff, Nat.reduceEqDiff, Nat.add_assoc, Nat.succ_ne_zero, hE0]
      refine s_iaE (es := r.map cellI) (hb.fr hF.step_drew (fun _ _ h => h)) (by omega) (by simpa using hl ▸ hi2) fun b2 o2 c2 _ hE2 => ?_
      simp only [Int.toNat_natCast, List.getElem_map] at hE2 ⊢
      have hE3 := hE2.cell0 (show 0 < 1 by decide)
      simp only [push_cast, Nat.reduceAdd, Nat.reduceLeDiff, Nat.reduceLT, Int.reduceToNat, Nat.left_eq_add, Nat.add_eq_left, Nat.add_left_cancel_iff, Nat.reduceEqDiff, Nat.add_assoc, Nat.succ_ne_zero, cellI] at hE3
      simp only [push_cast, Nat.reduceAdd, Nat.reduceLeDiff, Nat.reduceLT, Int.reduceToNat, Nat.left_eq_add, Nat.add_eq_left, Nat.add_left_cancel_iff, Nat.reduceEqDiff, Nat.add_assoc, Nat.succ_ne_zero, hE3]
      have hw : IntKind.i64.wrap ((i : Int) + 1) = ((i + 1 : Nat) : Int) := by rw [wrap_i64 (by omega)]; omega
      refine br_intro (fun hd => ?_) fun hd => ?_
      · have : l ≠ r := fun e => by subst e; simp at hd
        rw [decide_eq_false this] at h
        exact h _ hF.step_drew
      · have he : l[i] = r[i] := by simpa using hd
        simp only [push_cast, Nat.reduceAdd, Nat.reduceLeDiff, Nat.reduceLT, Int.reduceToNat, Nat.left_eq_add, Nat.add_eq_left, Nat.add_left_cancel_iff, Nat.reduceEqDiff, Nat.add_assoc, Nat.succ_ne_zero, hw]
        refine hX (m - 1) _ _ (by omega) ⟨i + 1, rfl, by omega, hF.step_drew, ?_⟩
        rw [List.take_add_one, List.take_add_one, htk, List.getElem?_eq_getElem hi2, List.getElem?_eq_getElem (hl ▸ hi2), he]
    · rw [List.take_of_length_le (by omega), List.take_of_length_le (by omega)] at htk
      exact htk

end Go.Gx.S
