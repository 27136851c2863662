/- Own texts, put together. -/
import Derived.Test.YtadgfomgnohokaaGreatS6
import Derived.Test.YtadgfomgnohokaaGreatS2
import Derived.Test.YtadgfomgnohokaaGreatS3
import Derived.Test.YtadgfomgnohokaaGreatRows
section
/- Bridges do any steps. -/
set_option linter.unusedVariables false
set_option linter.unusedSimpArgs false
set_option maxRecDepth 100000
namespace Go.Gx.S
open Go Go.Gx Go.Proofs
variable {K : Value → World → Prop} {w : World} {sp mb : Nat} {bs : List Nat} {pv fv : Value} {s : Sp}

theorem news_spec {me : Idn} {costs : List Int} {cv : Value} (hm : me.ok) (hc : RdE 1 w cv (costs.map cellI)) (hci : ∀ c ∈ costs, isI c) (hl : costs.length ≤ 2 ^ 20) {R : Value → Value → Value → Value → World → Prop}
    (h0 : newB me costs = false → ∀ w', Fr none_ w w' → R (.pointer none) (i64 1) (.pointer none) (i64 1) w')
    (h1 : newB me costs = true → ∀ spA bsA pvA mbA spB bsB pvB fvB w', Both w' spA bsA pvA mbA spB bsB pvB fvB (newS me costs) → (∀ b, fB spA bsA mbA spB bsB fvB b → w.heap.size ≤ b) → Fr none_ w w' → R (pt spA 0) (i64 0) (pt spB 0) (i64 0) w')
    {xb : Nat} (hx : w.heap[xb]? = some (cellsO me.cells 25)) :
    opS Tryz.prog (S.cl 6 [.agg me.cells.toArray, cv]) (fun x9 => opS Tryz.prog (S.ext x9 0) fun x10 => opS Tryz.prog (S.ext x9 1) fun x11 => opS Tryz.prog (S.ld 25 (pt xb 0)) fun x12 => opS Tryz.prog (S.cl 7 [x12, cv]) fun x13 => opS Tryz.prog (S.ext x13 0) fun x14 => opS Tryz.prog (S.ext x13 1) fun x15 => R x10 x11 x14 x15) w := by
  simp only [push_cast, Nat.reduceAdd, Nat.reduceLeDiff, Nat.reduceLT, Int.reduceToNat, Nat.left_eq_add, Nat.add_eq_left, Nat.add_left_cancel_iff, Nat.reduceEqDiff, Nat.add_assoc, Nat.succ_ne_zero]
  refine new_spec hm hc hci hl (fun e w1 f1 => ?_) fun e spA bsA pvA mbA w1 hA a1 a2 f1 => ?_
  · simp only [push_cast, Nat.reduceAdd, Nat.reduceLeDiff, Nat.reduceLT, Int.reduceToNat, Nat.left_eq_add, Nat.add_eq_left, Nat.add_left_cancel_iff, Nat.reduceEqDiff, Nat.add_assoc, Nat.succ_ne_zero, f1.heap hx fun h => h]
    refine rnew_spec hm (hc.fr f1 fun _ _ h => h) hci hl (fun e w2 f2 => ?_) fun e2 => by rw [e] at e2; cases e2
    simp only [push_cast, Nat.reduceAdd, Nat.reduceLeDiff, Nat.reduceLT, Int.reduceToNat, Nat.left_eq_add, Nat.add_eq_left, Nat.add_left_cancel_iff, Nat.reduceEqDiff, Nat.add_assoc, Nat.succ_ne_zero]
    exact h0 e w2 (f1.trans f2)
  · simp only [push_cast, Nat.reduceAdd, Nat.reduceLeDiff, Nat.reduceLT, Int.reduceToNat, Nat.left_eq_add, Nat.add_eq_left, Nat.add_left_cancel_iff, Nat.reduceEqDiff, Nat.add_assoc, Nat.succ_ne_zero, f1.heap hx fun h => h]
    refine rnew_spec hm (hc.fr f1 fun _ _ h => h) hci hl (fun e2 => by rw [e] at e2; cases e2) fun _ spB bsB pvB fvB w2 hB b1 b2 f2 => ?_
    have s1 := f1.size
    have hl0 : 0 < (newS me costs).l.length := by
      rw [newS_len]
      unfold newB at e
      simp only [Bool.and_eq_true, decide_eq_true_eq] at e
      omega
    have hsep : SepR spA bsA pvA mbA spB bsB pvB fvB := ⟨fun c h1 h2 => by have := hA.lt c h1; have := b1 c h2; omega, fun c h1 h2 => by have := hA.ps.pv_lt hl0 c h1; have := b1 c h2; omega, fun c h1 h2 => by have := hA.lt c h2; have := b2 c h1; omega⟩
    simp only [push_cast, Nat.reduceAdd, Nat.reduceLeDiff, Nat.reduceLT, Int.reduceToNat, Nat.left_eq_add, Nat.add_eq_left, Nat.add_left_cancel_iff, Nat.reduceEqDiff, Nat.add_assoc, Nat.succ_ne_zero]
    exact h1 e spA bsA pvA mbA spB bsB pvB fvB w2 ⟨hA.fr0 f2, hB, hsep, newS_wf hm e⟩ (fun c hc => hc.elim (a1 c) fun h => by have := b1 c h; omega) (f1.trans f2)

theorem scripts_law {me : Idn} {costs : List Int} {cv sv : Value} {st : List SStp} (hm : me.ok) (hc : RdE 1 w cv (costs.map cellI)) (hci : ∀ c ∈ costs, isI c) (hst : RdE 27 w sv (st.map SStp.cells)) (hso : ∀ x ∈ st, x.ok)
    (hk : ∀ w', Fr none_ w w' → K (.bool true) w') : CallsR Tryz.prog 3 #[.agg me.cells.toArray, cv, sv] K w := by
  apply c3
  unfold p3
  have elen : ∀ (R : Value → World → Prop) W, opS Tryz.prog (S.len cv) R W = R (i64 costs.length) W := fun R W => by
    obtain ⟨a, c, e⟩ := hc.form
    rw [e, List.length_map]; rfl
  have slen : ∀ (R : Value → World → Prop) W, opS Tryz.prog (S.len sv) R W = R (i64 st.length) W := fun R W => by
    obtain ⟨a, c, e⟩ := hst.form
    rw [e, List.length_map]; rfl
  have hx0 : (w.alloc (cellsO me.cells 25)).heap[w.heap.size]? = some (cellsO me.cells 25) := by simp only [push_cast, Nat.reduceAdd, Nat.reduceLeDiff, Nat.reduceLT, Int.reduceToNat, Nat.left_eq_add, Nat.add_eq_left, Nat.add_left_cancel_iff, Nat.reduceEqDiff, Nat.add_assoc, Nat.succ_ne_zero]
  have hF0 : Fr none_ w (w.alloc (cellsO me.cells 25)) := (by repeat' first | with_reducible exact Fr.refl _ _ | with_reducible refine Fr.step_alloc ?_ ?_ | with_reducible refine Fr.step_drew ?_ | with_reducible refine Fr.step_wr ?_ ?_ _ _ | exact rfl | exact Or.inr (by omega) | exact Or.inl rfl | exact Or.inl (Or.inl rfl) | exact Or.inl (Or.inr rfl))
  simp only [push_cast, Nat.reduceAdd, Nat.reduceLeDiff, Nat.reduceLT, Int.reduceToNat, Nat.left_eq_add, Nat.add_eq_left, Nat.add_left_cancel_iff, Nat.reduceEqDiff, Nat.add_assoc, Nat.succ_ne_zero]
  generalize w.alloc (cellsO me.cells 25) = W0 at *
  have hxe : w.heap.size ≤ w.heap.size := Nat.le_refl _
  generalize w.heap.size = xb at hx0 ⊢
  refine awake_spec fun w1 f1 => ?_
  have F1 := hF0.trans f1
  have hx1 := f1.heap hx0 fun h => h
  simp only [push_cast, Nat.reduceAdd, Nat.reduceLeDiff, Nat.reduceLT, Int.reduceToNat, Nat.left_eq_add, Nat.add_eq_left, Nat.add_left_cancel_iff, Nat.reduceEqDiff, Nat.add_assoc, Nat.succ_ne_zero]
  rw [elen]
  simp only [push_cast, Nat.reduceAdd, Nat.reduceLeDiff, Nat.reduceLT, Int.reduceToNat, Nat.left_eq_add, Nat.add_eq_left, Nat.add_left_cancel_iff, Nat.reduceEqDiff, Nat.add_assoc, Nat.succ_ne_zero]
  refine br_dec (fun e => hk _ F1) fun e => ?_
  simp only [push_cast, Nat.reduceAdd, Nat.reduceLeDiff, Nat.reduceLT, Int.reduceToNat, Nat.left_eq_add, Nat.add_eq_left, Nat.add_left_cancel_iff, Nat.reduceEqDiff, Nat.add_assoc, Nat.succ_ne_zero, hx1]
  refine news_spec hm (hc.fr F1 fun _ _ h => h) hci (by omega) (fun e w2 f2 => ?_) (fun e spA bsA pvA mbA spB bsB pvB fvB w2 hb hbn f2 => ?_) hx1
  · simp only [push_cast, Nat.reduceAdd, Nat.reduceLeDiff, Nat.reduceLT, Int.reduceToNat, Nat.left_eq_add, Nat.add_eq_left, Nat.add_left_cancel_iff, Nat.reduceEqDiff, Nat.add_assoc, Nat.succ_ne_zero]
    refine br_intro (fun e => absurd e (by decide)) fun _ => ?_
    refine br_intro (fun e => absurd e (by decide)) fun _ => ?_
    refine jn0 (fun W => Fr none_ w W) (fun W h => hk W h) fun j hj => ?_
    refine loop1 (fun n u W => u = i64 0 ∧ W = w2) ?_ 0 ⟨rfl, rfl⟩
    rintro n u W X ⟨rfl, rfl⟩ hX
    have F2 := F1.trans f2
    rw [slen]
    simp only [push_cast, Nat.reduceAdd, Nat.reduceLeDiff, Nat.reduceLT, Int.reduceToNat, Nat.left_eq_add, Nat.add_eq_left, Nat.add_left_cancel_iff, Nat.reduceEqDiff, Nat.add_assoc, Nat.succ_ne_zero]
    refine br_dec (fun _ => ?_) fun _ => hj _ F2
    refine br_dec (fun _ => ?_) fun _ => hj _ F2
    exact hj _ F2
  · simp only [push_cast, Nat.reduceAdd, Nat.reduceLeDiff, Nat.reduceLT, Int.reduceToNat, Nat.left_eq_add, Nat.add_eq_left, Nat.add_left_cancel_iff, Nat.reduceEqDiff, Nat.add_assoc, Nat.succ_ne_zero]
    refine br_intro (fun e => absurd e (by decide)) fun _ => ?_
    refine br_intro (fun e => absurd e (by decide)) fun _ => ?_
    refine jn0 (fun W => Fr none_ w W) (fun W h => hk W h) fun j hj => ?_
    refine loop1 (fun n u W => ∃ (i : Nat) (s : Sp), u = i64 i ∧ i + n = st.length ∧ Both W spA bsA pvA mbA spB bsB pvB fvB s ∧ Fr none_ w W) ?_ st.length ⟨0, _, rfl, by omega, hb, F1.trans f2⟩
    rintro n u W X ⟨i, s, rfl, hin, hb, hF⟩ hX
    rw [slen]
    simp only [push_cast, Nat.reduceAdd, Nat.reduceLeDiff, Nat.reduceLT, Int.reduceToNat, Nat.left_eq_add, Nat.add_eq_left, Nat.add_left_cancel_iff, Nat.reduceEqDiff, Nat.add_assoc, Nat.succ_ne_zero]
    refine br_dec (fun hlt => ?_) fun _ => hj _ hF
    have hil : i < st.length := by omega
    refine br_dec (fun h120 => ?_) fun _ => hj _ hF
    have hwk : IntKind.i64.wrap ((i : Int) + 1) = ((i + 1 : Nat) : Int) := by rw [wrap_i64 (by omega)]; rfl
    refine s_iaE (es := st.map SStp.cells) (hst.fr hF fun _ _ h => h) (by omega) (by simpa using hil) fun b1 o1 c1 _ hE => ?_
    simp only [Int.toNat_natCast, List.getElem_map] at hE ⊢
    have hag := hE.agg0 (SStp.len _)
    simp only [push_cast, Nat.reduceAdd, Nat.reduceLeDiff, Nat.reduceLT, Int.reduceToNat, Nat.left_eq_add, Nat.add_eq_left, Nat.add_left_cancel_iff, Nat.reduceEqDiff, Nat.add_assoc, Nat.succ_ne_zero, hag]
    refine step_spec hb (hso _ (List.getElem_mem hil)) fun W1 hb1 g1 => ?_
    have hF1 : Fr none_ w W1 := hF.trans_new g1 fun c hc e => by have := hbn c e; have := F1.size; omega
    generalize s.step st[i] = s1 at *
    simp only [push_cast, Nat.reduceAdd, Nat.reduceLeDiff, Nat.reduceLT, Int.reduceToNat, Nat.left_eq_add, Nat.add_eq_left, Nat.add_left_cancel_iff, Nat.reduceEqDiff, Nat.add_assoc, Nat.succ_ne_zero]
    refine roles_spec hb1.c hb1.wf fun x W2 hx nx g2 => ?_
    have hb2 := hb1.fr0 g2
    simp only [push_cast, Nat.reduceAdd, Nat.reduceLeDiff, Nat.reduceLT, Int.reduceToNat, Nat.left_eq_add, Nat.add_eq_left, Nat.add_left_cancel_iff, Nat.reduceEqDiff, Nat.add_assoc, Nat.succ_ne_zero]
    refine rroles_spec hb2.r hb2.wf fun y W3 hy ny g3 => ?_
    have hb3 := hb2.fr0 g3
    have h64 := hb1.wf.n64
    simp only [push_cast, Nat.reduceAdd, Nat.reduceLeDiff, Nat.reduceLT, Int.reduceToNat, Nat.left_eq_add, Nat.add_eq_left, Nat.add_left_cancel_iff, Nat.reduceEqDiff, Nat.add_assoc, Nat.succ_ne_zero]
    refine sameints_spec (hx.fr g3 fun _ _ h => h).rd hy.rd (by rw [rolesOf_len]; omega) fun W4 g4 => ?_
    rw [decide_eq_true rfl]
    have hF4 := ((hF1.trans g2).trans g3).trans g4
    have hb4 := hb3.fr0 g4
    simp only [push_cast, Nat.reduceAdd, Nat.reduceLeDiff, Nat.reduceLT, Int.reduceToNat, Nat.left_eq_add, Nat.add_eq_left, Nat.add_left_cancel_iff, Nat.reduceEqDiff, Nat.add_assoc, Nat.succ_ne_zero]
    have hb5 := hb4.fr0 (Fr.drew W4)
    have hF5 := hF4.trans (Fr.drew (fp := none_) W4)
    generalize W4.drew = W5 at *
    have hbest := hb5.wf.best
    have htail : ∀ W6, Both W6 spA bsA pvA mbA spB bsB pvB fvB s1 → Fr none_ w W6 → opS Tryz.prog (S.cl 13 [pt spA 0]) (fun x38 => opS Tryz.prog (S.cl 14 [pt spB 0]) fun x39 => opS Tryz.prog (S.cl 9 [x38, x39]) fun x40 => opS Tryz.prog (S.un .not x40) fun x41 => brn x41 (K (.bool false)) (opS Tryz.prog (S.binI .add (i64 i) (.int .i64 1)) fun x42 => X x42)) W6 := by
      intro W6 hb6 hF6
      simp only [push_cast, Nat.reduceAdd, Nat.reduceLeDiff, Nat.reduceLT, Int.reduceToNat, Nat.left_eq_add, Nat.add_eq_left, Nat.add_left_cancel_iff, Nat.reduceEqDiff, Nat.add_assoc, Nat.succ_ne_zero]
      refine states_spec hb6.c hb6.wf fun x W2 hx nx g2 => ?_
      have hb2 := hb6.fr0 g2
      simp only [push_cast, Nat.reduceAdd, Nat.reduceLeDiff, Nat.reduceLT, Int.reduceToNat, Nat.left_eq_add, Nat.add_eq_left, Nat.add_left_cancel_iff, Nat.reduceEqDiff, Nat.add_assoc, Nat.succ_ne_zero]
      refine rstates_spec hb2.r hb2.wf fun y W3 hy ny g3 => ?_
      have hb3 := hb2.fr0 g3
      simp only [push_cast, Nat.reduceAdd, Nat.reduceLeDiff, Nat.reduceLT, Int.reduceToNat, Nat.left_eq_add, Nat.add_eq_left, Nat.add_left_cancel_iff, Nat.reduceEqDiff, Nat.add_assoc, Nat.succ_ne_zero]
      refine sameints_spec (hx.fr g3 fun _ _ h => h).rd hy.rd (by unfold Sp.statesOf; rw [List.length_map]; omega) fun W4 g4 => ?_
      rw [decide_eq_true rfl]
      simp only [push_cast, Nat.reduceAdd, Nat.reduceLeDiff, Nat.reduceLT, Int.reduceToNat, Nat.left_eq_add, Nat.add_eq_left, Nat.add_left_cancel_iff, Nat.reduceEqDiff, Nat.add_assoc, Nat.succ_ne_zero, hwk]
      exact hX (n - 1) _ _ (by omega) ⟨i + 1, s1, rfl, by omega, hb3.fr0 g4, ((hF6.trans g2).trans g3).trans g4⟩
    have hb0 : brn (.bool (!true)) (K (.bool false)) = fun q => q := by funext q W; rfl
    refine allW_intro ?_ ?_
    · rw [opS_cl]
      refine best_spec hb5.c fun W6 g6 => ?_
      have hb6 := hb5.fr0 g6
      have hl : ∀ {R : Value → World → Prop}, R (.agg s1.best.cells.toArray) W6 → opS Tryz.prog (S.ld 44 (pt spB 8)) R W6 := fun h => by simp only [push_cast, Nat.reduceAdd, Nat.reduceLeDiff, Nat.reduceLT, Int.reduceToNat, Nat.left_eq_add, Nat.add_eq_left, Nat.add_left_cancel_iff, Nat.reduceEqDiff, Nat.add_assoc, Nat.succ_ne_zero, hb6.r.ps.main]; exact h
      refine hl ?_
      refine s_neVec hbest hbest ?_
      rw [decide_eq_true rfl, hb0]
      exact htail _ hb6 (hF5.trans g6)
    · have hl : ∀ {R : Value → World → Prop}, R (.agg s1.best.cells.toArray) W5 → opS Tryz.prog (S.ld 44 (pt spB 8)) R W5 := fun h => by simp only [push_cast, Nat.reduceAdd, Nat.reduceLeDiff, Nat.reduceLT, Int.reduceToNat, Nat.left_eq_add, Nat.add_eq_left, Nat.add_left_cancel_iff, Nat.reduceEqDiff, Nat.add_assoc, Nat.succ_ne_zero, hb5.r.ps.main]; exact h
      refine hl ?_
      rw [opS_cl]
      refine best_spec hb5.c fun W6 g6 => ?_
      have hb6 := hb5.fr0 g6
      refine s_neVec hbest hbest ?_
      rw [decide_eq_true rfl, hb0]
      exact htail _ hb6 (hF5.trans g6)

end Go.Gx.S
end

section
/- What holds of a bridge, whatever it does. -/
set_option linter.unusedVariables false
set_option linter.unusedSimpArgs false
set_option maxRecDepth 100000
namespace Go.Gx.S
open Go Go.Gx Go.Proofs
variable {s t : Sp}

/-! ### Ports in order -/

def stP (p : Prt) : Prop := (p.role ≠ 1 → p.role ≠ 2 → p.state = 0) ∧ (p.role = 1 → p.state = 2)
structure Keeps (s t : Sp) : Prop where
  me : t.me = s.me
  best : t.best = s.best
  roles : t.rolesOf = s.rolesOf
  st : (∀ p ∈ s.l, stP p) → ∀ p ∈ t.l, stP p
theorem Keeps.refl (s : Sp) : Keeps s s := ⟨rfl, rfl, rfl, fun h => h⟩
theorem Keeps.trans {u : Sp} (h : Keeps s t) (k : Keeps t u) : Keeps s u := ⟨k.me.trans h.me, k.best.trans h.best, k.roles.trans h.roles, fun e => k.st (h.st e)⟩
theorem Keeps.setP {i : Nat} {p q : Prt} (hp : s.l[i]? = some p) (hr : q.role = p.role) (hs : stP p → stP q) : Keeps s (s.setP i q) := ⟨rfl, rfl, rolesOf_setS hp hr, fun h x hx => by
  rcases List.mem_or_eq_of_mem_set hx with hx | rfl
  · exact h x hx
  · exact hs (h p (List.mem_of_getElem? hp))⟩
theorem Keeps.changeP (s : Sp) (i : Nat) (now : Int) : Keeps s (s.changeP i now) := ⟨rfl, rfl, rfl, fun h => h⟩
theorem Keeps.same {i : Nat} {p q : Prt} (hp : s.l[i]? = some p) (hr : q.role = p.role) (hs : q.state = p.state) : Keeps s (s.setP i q) := Keeps.setP hp hr fun h => ⟨by rw [hr, hs]; exact h.1, by rw [hr, hs]; exact h.2⟩
theorem Keeps.forwQ {i : Nat} {p : Prt} (hp : s.l[i]? = some p) (h2 : p.role = 2) (now : Int) : Keeps s (s.forwQ i p now) := by
  have hs : stP p → stP { p with state := 2 } := fun _ => ⟨fun _ e => absurd h2 e, fun _ => rfl⟩
  unfold Sp.forwQ
  split
  · exact (Keeps.changeP s i now).trans (Keeps.setP hp rfl hs)
  · exact Keeps.setP hp rfl hs
theorem Keeps.holdP {i : Nat} {p : Prt} (hp : s.l[i]? = some p) (h2 : p.role = 2) (now : Int) : Keeps s (s.setP i (holdP p now)) :=
  Keeps.setP hp rfl fun _ => ⟨fun _ e => absurd h2 e, fun e => by have e : p.role = 1 := e; omega⟩
theorem Keeps.goesQ {i : Nat} {p : Prt} (hp : s.l[i]? = some p) (now : Int) : Keeps s (s.goesQ i p now) := by
  unfold Sp.goesQ
  split
  · rename_i hc
    split
    · exact Keeps.setP hp rfl fun _ => ⟨fun _ e => absurd hc.1 e, fun e => by have e : p.role = 1 := e; omega⟩
    · split
      · exact Keeps.forwQ hp hc.1 now
      · exact Keeps.refl s
  · exact Keeps.refl s
theorem Keeps.hasK (s : Sp) (now : Int) : ∀ k, Keeps s (s.hasK now k)
  | 0 => Keeps.refl s
  | k + 1 => by
    refine (Keeps.hasK s now k).trans ?_
    show Keeps _ ((s.hasK now k).onP k _)
    unfold Sp.onP
    split
    · rename_i p hp
      exact Keeps.same hp rfl rfl
    · exact Keeps.refl _
theorem Keeps.goesK (s : Sp) (now : Int) : ∀ k, Keeps s (s.goesK now k)
  | 0 => Keeps.refl s
  | k + 1 => by
    refine (Keeps.goesK s now k).trans ?_
    show Keeps _ ((s.goesK now k).onP k _)
    unfold Sp.onP
    split
    · rename_i p hp
      exact Keeps.goesQ hp now
    · exact Keeps.refl _
theorem Keeps.dueS (s : Sp) (now : Int) : Keeps s (s.dueS now) := by
  unfold Sp.dueS
  split
  · exact ⟨rfl, rfl, rfl, fun h => h⟩
  · exact Keeps.refl s
theorem Keeps.sayK (s : Sp) (due : Bool) (now : Int) : ∀ k, Keeps s (s.sayK due now k).1
  | 0 => Keeps.refl s
  | k + 1 => by
    refine (Keeps.sayK s due now k).trans ?_
    show Keeps _ (match (s.sayK due now k).1.l[k]? with
      | none => s.sayK due now k
      | some p => sayN (s.sayK due now k) k p ((s.sayK due now k).1.says p due now)).1
    split
    · exact Keeps.refl _
    · rename_i p hp
      unfold sayN
      split
      · exact Keeps.refl _
      · exact Keeps.same hp rfl rfl
theorem Keeps.propS (s : Sp) (r0 : Int) (k : Nat) (now : Int) : Keeps s (s.propS r0 k now) := by
  unfold Sp.propS
  split
  · exact Keeps.refl s
  · rename_i q hq
    split
    · rename_i hc
      exact Keeps.holdP hq hc.2.1 now
    · exact Keeps.refl s
theorem Keeps.propK (s : Sp) (r0 now : Int) : ∀ k, Keeps s (s.propK r0 now k)
  | 0 => Keeps.refl s
  | k + 1 => (Keeps.propK s r0 now k).trans (Keeps.propS _ r0 k now)
/-- the port itself is not held -/
theorem propK_get {i : Nat} {p : Prt} (hp : s.l[i]? = some p) (now : Int) : ∀ k, (s.propK p.role now k).l[i]? = some p
  | 0 => hp
  | k + 1 => by
    have ih := propK_get hp now k
    show ((s.propK p.role now k).propS p.role k now).l[i]? = _
    unfold Sp.propS
    split
    · exact ih
    · rename_i q hq
      split
      · rename_i hc
        by_cases e : k = i
        · subst e
          rw [ih] at hq
          cases hq
          omega
        · rw [Sp.setP_ne _ e]; exact ih
      · exact ih
theorem Keeps.propP {i : Nat} {p : Prt} (hp : s.l[i]? = some p) (now : Int) : Keeps s (s.propP i p now) :=
  (Keeps.propK s p.role now _).trans (Keeps.same (propK_get hp now _) rfl rfl)

/-! ### All that holds -/

def ownV (me : Idn) : Vec := ⟨me, 0, me, 0, 0⟩
structure Sp.St (s : Sp) : Prop where
  st : ∀ p ∈ s.l, stP p
  one : s.one
  bst : (∀ i : Nat, s.rolesOf[i]? ≠ some 1) ↔ s.best = ownV s.me
theorem Sp.St.keeps (h : s.St) (k : Keeps s t) : t.St := ⟨k.st h.st, one_same h.one k.roles, by rw [k.roles, k.best, k.me]; exact h.bst⟩

theorem bestK_own (me : Idn) {l : List Hrd} (hn : numbered l) : ∀ k, ((bestK me l k).2 = -1 ∧ (bestK me l k).1 = ownV me) ∨ ∃ (i : Nat) (h : Hrd), (bestK me l k).2 = i ∧ l[i]? = some h ∧ cntB h = true ∧ (bestK me l k).1 = candV h
  | 0 => .inl ⟨rfl, rfl⟩
  | k + 1 => by
    have ih := bestK_own me hn k
    cases hk : l[k]? with
    | none =>
      have e : bestK me l (k + 1) = bestK me l k := by
        show (match l[k]? with | some h => bestStep me (bestK me l k) k h | none => bestK me l k) = _
        rw [hk]
      rw [e]; exact ih
    | some h =>
      have e : bestK me l (k + 1) = bestStep me (bestK me l k) k h := by
        show (match l[k]? with | some h => bestStep me (bestK me l k) k h | none => bestK me l k) = _
        rw [hk]
      rw [e]
      unfold bestStep
      split
      · rename_i hc
        exact .inr ⟨k, h, rfl, hk, hc.1, rfl⟩
      · exact ih
theorem cand_own {me : Idn} {h : Hrd} (hp : 1 ≤ h.port) : candV h ≠ ownV me := fun e => by
  have := congrArg Vec.own e
  have e2 : h.port = 0 := this
  omega
theorem roles_own {me : Idn} {l : List Hrd} (hn : numbered l) : (∀ i : Nat, (rolesL me l)[i]? ≠ some 1) ↔ (bestL me l).1 = ownV me := by
  rcases bestK_own me hn l.length with ⟨h1, h2⟩ | ⟨i, h, h1, h2, h3, h4⟩
  · refine ⟨fun _ => h2, fun _ i hi => ?_⟩
    have := rolesL_root hi
    unfold bestL at this
    omega
  · refine ⟨fun hno => absurd ?_ (hno i), fun e => ?_⟩
    · unfold rolesL
      rw [List.getElem?_mapIdx, h2]
      show some (roleOf me (bestL me l).1 (bestL me l).2 i h) = some 1
      have hup : h.up = true := by
        unfold cntB at h3
        rw [Bool.and_eq_true] at h3
        exact h3.1
      unfold roleOf
      rw [if_neg (by simp [hup]), if_pos]
      unfold bestL
      exact h1.symm
    · unfold bestL at e
      rw [h4] at e
      have := hn i h h2
      exact absurd e (cand_own (by omega))

theorem stepQ_get (s : Sp) {k i : Nat} (h : k ≠ i) (p : Prt) (r now : Int) : (s.stepQ k p r now).l[i]? = s.l[i]? := by
  have hf : ∀ (t : Sp) (q : Prt), (t.forwQ k q now).l[i]? = t.l[i]? := fun t q => by
    unfold Sp.forwQ
    rw [Sp.setP_ne _ h]
    split <;> rfl
  unfold Sp.stepQ
  split
  · rw [hf, Sp.setP_ne _ h]
  · split
    · rw [Sp.setP_ne _ h]
    · split <;> rw [Sp.setP_ne _ h]
theorem stepQ_st {i : Nat} {p : Prt} (hp : s.l[i]? = some p) (hs : stP p) (r now : Int) : ∃ q, (s.stepQ i p r now).l[i]? = some q ∧ stP q := by
  have hf : ∀ (t : Sp) (q0 q : Prt), t.l[i]? = some q0 → (q.role = 1 ∨ q.role = 2) → ∃ q', (t.forwQ i q now).l[i]? = some q' ∧ stP q' := fun t q0 q h0 hr => by
    refine ⟨{ q with state := 2 }, ?_, fun h1 h2 => absurd hr (by rintro (h | h); exact h1 h; exact h2 h), fun _ => rfl⟩
    unfold Sp.forwQ
    split
    · exact Sp.setP_get _ (show (t.changeP i now).l[i]? = some q0 from h0) _
    · exact Sp.setP_get _ h0 _
  unfold Sp.stepQ
  split
  · rename_i hc
    exact hf _ _ _ (s.setP_get hp _) (hc.imp id fun h => h.1)
  · rename_i hc
    split
    · rename_i hc2
      exact ⟨_, s.setP_get hp _, fun _ h => absurd hc2.1 h, fun h => by have h : r = 1 := h; omega⟩
    · rename_i hc2
      split
      · rename_i hc3
        exact ⟨_, s.setP_get hp _, fun _ _ => rfl, fun h => absurd (.inl h) hc⟩
      · rename_i hc3
        have hr : r = 2 := by omega
        exact ⟨_, s.setP_get hp _, fun _ h => absurd hr h, fun h => absurd (.inl h) hc⟩
theorem reckK_st (h : ∀ p ∈ s.l, stP p) (rs : List Int) (now : Int) : ∀ k, ∀ p ∈ (s.reckK rs now k).l, stP p
  | 0 => h
  | k + 1 => by
    have ih := reckK_st h rs now k
    show ∀ p ∈ ((s.reckK rs now k).stepR k _ now).l, stP p
    unfold Sp.stepR
    split
    · exact ih
    · rename_i q hq
      intro p hp
      obtain ⟨i, hi⟩ := List.mem_iff_getElem?.1 hp
      by_cases e : k = i
      · subst e
        obtain ⟨q', h1, h2⟩ := stepQ_st hq (ih q (List.mem_of_getElem? hq)) (rs[k]?.getD 0) now
        rw [h1] at hi
        cases hi
        exact h2
      · rw [stepQ_get _ e] at hi
        exact ih p (List.mem_of_getElem? hi)
theorem forwQ_meb (s : Sp) (i : Nat) (p : Prt) (now : Int) : (s.forwQ i p now).me = s.me ∧ (s.forwQ i p now).best = s.best := by
  unfold Sp.forwQ
  split <;> exact ⟨rfl, rfl⟩
theorem stepQ_meb (s : Sp) (i : Nat) (p : Prt) (r now : Int) : (s.stepQ i p r now).me = s.me ∧ (s.stepQ i p r now).best = s.best := by
  unfold Sp.stepQ
  split
  · exact forwQ_meb _ _ _ _
  · split
    · exact ⟨rfl, rfl⟩
    · split <;> exact ⟨rfl, rfl⟩
theorem reckK_meb (s : Sp) (rs : List Int) (now : Int) : ∀ k, (s.reckK rs now k).me = s.me ∧ (s.reckK rs now k).best = s.best
  | 0 => ⟨rfl, rfl⟩
  | k + 1 => by
    have ih := reckK_meb s rs now k
    show ((s.reckK rs now k).stepR k _ now).me = _ ∧ ((s.reckK rs now k).stepR k _ now).best = _
    unfold Sp.stepR
    split
    · exact ih
    · have := stepQ_meb (s.reckK rs now k) k (by assumption) (rs[k]?.getD 0) now
      exact ⟨this.1.trans ih.1, this.2.trans ih.2⟩
theorem reckon_me (s : Sp) (now : Int) : (s.reckon now).me = s.me := (reckK_meb _ _ _ _).1
theorem reckon_best (s : Sp) (now : Int) : (s.reckon now).best = (bestL s.me s.hs).1 := (reckK_meb _ _ _ _).2
theorem reckon_St (hn : numbered s.hs) (h : ∀ p ∈ s.l, stP p) (now : Int) : (s.reckon now).St :=
  ⟨reckK_st (s := { s with best := (bestL s.me s.hs).1 }) h _ _ _, one_reckon s now, by rw [rolesOf_reckon, reckon_best, reckon_me]; exact roles_own hn⟩

/-! ### Each step -/

theorem Sp.St.tickP (h : s.St) (hw : s.wf) {now : Int} (hn : momB now) : (s.tickP now).1.St := by
  have h1 := h.keeps (Keeps.hasK s now s.l.length)
  have h2 := reckon_St (hw.hasK now s.l.length).num h1.st now
  exact ((h2.keeps (Keeps.goesK _ now s.l.length)).keeps (Keeps.dueS _ now)).keeps (Keeps.sayK _ _ now _)
theorem Sp.St.upAt (h : s.St) (hw : s.wf) (i : Nat) (up edge : Bool) (now : Int) : (s.upAt i up edge now).St := by
  unfold Sp.upAt Sp.onP
  split
  · rename_i p hp
    have h1 := h.keeps (Keeps.same (q := upQ p up edge) hp rfl rfl)
    exact reckon_St (hw.setP (q := upQ p up edge) hp ⟨rfl, rfl⟩ (upQ_ok (hw.l p (List.mem_of_getElem? hp)) _ _)).num h1.st now
  · exact h
theorem hearP_rs (p : Prt) (b : Bpd) (now : Int) : (hearP p b now).role = p.role ∧ (hearP p b now).state = p.state := by
  unfold hearP
  split <;> exact ⟨rfl, rfl⟩
theorem Sp.St.take1 (h : s.St) (hw : s.wf) {i : Nat} {p : Prt} (hp : s.l[i]? = some p) {b : Bpd} (hb : b.ok) {now : Int} (hn : momB now) (hr : 0 ≤ b.age ∧ b.age ≤ 65535) : (s.take1 i p b now).St := by
  have h1 := h.keeps (Keeps.same (q := hearP p b now) hp (hearP_rs p b now).1 (hearP_rs p b now).2)
  have h2 := reckon_St (hw.hearP hp hb hn hr).num h1.st now
  unfold Sp.take1
  split
  · split
    · unfold Sp.onP
      split
      · rename_i q hq
        exact h2.keeps (Keeps.propP hq now)
      · exact h2
    · exact h2
  · exact h
theorem Keeps.take2 (s : Sp) (i : Nat) (b : Bpd) (now : Int) : Keeps s (s.take2 i b now) := by
  unfold Sp.take2
  split
  · unfold Sp.onP
    split
    · rename_i q hq
      show Keeps s (if q.role = 2 ∧ b.root = s.best.root then _ else _)
      split
      · rename_i hc
        exact (Keeps.same (q := { q with agreed := true }) hq rfl rfl).trans (Keeps.forwQ (p := { q with agreed := true }) (s.setP_get hq _) hc.1 now)
      · exact Keeps.refl s
    · exact Keeps.refl s
  · exact Keeps.refl s
theorem Keeps.take3 (s : Sp) (i : Nat) (b : Bpd) (now : Int) : Keeps s (s.take3 i b now) := by
  unfold Sp.take3
  split
  · exact Keeps.changeP s i now
  · exact Keeps.refl s
theorem Sp.St.take (h : s.St) (hw : s.wf) (n : Int) {b : Bpd} (hb : b.ok) (now : Int) : (s.take n b now).1.St := by
  unfold Sp.take
  split
  · rename_i hc
    split
    · rename_i p hp
      unfold Sp.takeQ
      split
      · exact h
      · split
        · exact h.keeps (Keeps.changeP s _ now)
        · have h0 := h.keeps (Keeps.same (q := { p with edge := false }) hp rfl rfl)
          have h1 := h0.take1 (hw.edge hp false) (s.setP_get hp _) hb hc.2.1 (rightP_age hc.2.2 (by assumption))
          exact (h1.keeps (Keeps.take2 _ _ b now)).keeps (Keeps.take3 _ _ b now)
    · exact h
  · exact h
theorem Sp.St.step (h : s.St) (hw : s.wf) {x : SStp} (hx : x.ok) : (s.step x).St := by
  unfold Sp.step
  split
  · exact h.take hw _ hx.2.2.2 _
  · split
    · split
      · exact h.tickP hw (by assumption)
      · exact h
    · split
      · unfold Sp.up
        split
        · exact h.upAt hw _ _ _ _
        · exact h
      · exact h.keeps ⟨rfl, rfl, rfl, fun h => h⟩
theorem newS_St (me : Idn) (costs : List Int) : (newS me costs).St := by
  have hr : ∀ i : Nat, (newS me costs).rolesOf[i]? ≠ some 1 := fun i hi => by
    unfold Sp.rolesOf at hi
    rw [List.getElem?_map] at hi
    cases hp : (newS me costs).l[i]? with
    | none => rw [hp] at hi; cases hi
    | some p =>
      rw [hp] at hi
      obtain ⟨k, c, _, rfl⟩ := newS_mem (List.mem_of_getElem? hp)
      have : (0 : Int) = 1 := Option.some.inj hi
      omega
  refine ⟨fun p hp => ?_, fun i j hi => absurd hi (hr i), ⟨fun _ => rfl, fun _ => hr⟩⟩
  obtain ⟨k, c, _, rfl⟩ := newS_mem hp
  exact ⟨fun _ _ => rfl, fun h => by have h : (0 : Int) = 1 := h; omega⟩

end Go.Gx.S
end

section
/- Just ports that are root or designated are ever Learning or Forwarding. -/
set_option linter.unusedVariables false
set_option linter.unusedSimpArgs false
set_option maxRecDepth 100000
namespace Go.Gx.S
open Go Go.Gx Go.Proofs
variable {K : Value → World → Prop} {w : World} {sp mb : Nat} {bs : List Nat} {pv fv : Value} {s : Sp}

theorem count_succ {l : List Int} {k : Nat} {r : Int} (h : l[k]? = some r) : ((l.take (k + 1)).count 1 : Nat) = (l.take k).count 1 + if r = 1 then 1 else 0 := by
  rw [List.take_add_one, h, List.count_append]
  show _ + List.count 1 [r] = _
  rw [List.count_singleton]
  congr 1
  by_cases e : r = 1 <;> simp [e]
theorem count_one {l : List Int} (h : ∀ i j : Nat, l[i]? = some 1 → l[j]? = some 1 → i = j) : ∀ k, (l.take k).count 1 ≤ 1 ∧ ((l.take k).count 1 = 1 → ∃ i, i < k ∧ l[i]? = some 1)
  | 0 => by simp
  | k + 1 => by
    obtain ⟨h1, h2⟩ := count_one h k
    cases hk : l[k]? with
    | none =>
      have : l.take (k + 1) = l.take k := by rw [List.take_add_one, hk]; simp
      rw [this]
      exact ⟨h1, fun e => by obtain ⟨i, hi, e2⟩ := h2 e; exact ⟨i, by omega, e2⟩⟩
    | some r =>
      rw [count_succ hk]
      by_cases e : r = 1
      · subst e
        rw [if_pos rfl]
        have h0 : (l.take k).count 1 = 0 := by
          by_cases e0 : (l.take k).count 1 = 1
          · obtain ⟨i, hi, e2⟩ := h2 e0
            have := h i k e2 hk
            omega
          · omega
        rw [h0]
        exact ⟨by omega, fun _ => ⟨k, by omega, hk⟩⟩
      · rw [if_neg e]
        exact ⟨by omega, fun e => by obtain ⟨i, hi, e2⟩ := h2 (by omega); exact ⟨i, by omega, e2⟩⟩
theorem count_zero {l : List Int} : l.count 1 = 0 ↔ ∀ i : Nat, l[i]? ≠ some 1 := by
  rw [List.count_eq_zero]
  constructor
  · intro h i hi
    exact h (List.mem_of_getElem? hi)
  · intro h hm
    obtain ⟨i, hi⟩ := List.mem_iff_getElem?.1 hm
    exact h i hi

theorem step_len (s : Sp) (x : SStp) : (s.step x).l.length = s.l.length := by
  have hk : ∀ {t : Sp}, Keeps s t → t.l.length = s.l.length := fun h => by rw [← rolesOf_len, ← rolesOf_len, h.roles]
  unfold Sp.step
  split
  · unfold Sp.take
    split
    · split
      · unfold Sp.takeQ
        split
        · rfl
        · split
          · rfl
          · show (((s.setP _ _).take1 _ _ _ _).take2 _ _ _ |>.take3 _ _ _).l.length = _
            rw [← rolesOf_len, (Keeps.take3 _ _ _ _).roles, (Keeps.take2 _ _ _ _).roles, rolesOf_len, take1_len, setP_len]
      · rfl
    · rfl
  · split
    · split
      · exact tickP_len s _
      · rfl
    · split
      · unfold Sp.up
        split
        · exact upAt_len _ _ _ _ _
        · rfl
      · rfl

theorem take_me (s : Sp) (n : Int) (b : Bpd) (now : Int) : (s.take n b now).1.me = s.me := by
  unfold Sp.take
  split
  · split
    · rename_i p hp
      unfold Sp.takeQ
      split
      · rfl
      · split
        · rfl
        · show (((s.setP _ _).take1 _ _ _ _).take2 _ _ _ |>.take3 _ _ _).me = _
          rw [(Keeps.take3 _ _ _ _).me, (Keeps.take2 _ _ _ _).me]
          unfold Sp.take1
          split
          · split
            · unfold Sp.onP
              split
              · rename_i q hq
                rw [(Keeps.propP hq now).me, reckon_me]; rfl
              · rw [reckon_me]; rfl
            · rw [reckon_me]; rfl
          · rfl
    · rfl
  · rfl
theorem tickP_me (s : Sp) (now : Int) : (s.tickP now).1.me = s.me := by
  unfold Sp.tickP
  rw [(Keeps.sayK _ _ _ _).me, (Keeps.dueS _ _).me]
  unfold Sp.tick3
  rw [(Keeps.goesK _ _ _).me, reckon_me, (Keeps.hasK _ _ _).me]
theorem upAt_me (s : Sp) (i : Nat) (up edge : Bool) (now : Int) : (s.upAt i up edge now).me = s.me := by
  unfold Sp.upAt Sp.onP
  split
  · rw [reckon_me]; rfl
  · rfl
theorem step_me (s : Sp) (x : SStp) : (s.step x).me = s.me := by
  unfold Sp.step
  split
  · exact take_me _ _ _ _
  · split
    · split
      · exact tickP_me _ _
      · rfl
    · split
      · unfold Sp.up
        split
        · exact upAt_me _ _ _ _ _
        · rfl
      · rfl

theorem states_law {me : Idn} {costs : List Int} {cv sv : Value} {st : List SStp} (hm : me.ok) (hc : RdE 1 w cv (costs.map cellI)) (hci : ∀ c ∈ costs, isI c) (hst : RdE 27 w sv (st.map SStp.cells)) (hso : ∀ x ∈ st, x.ok)
    (hk : ∀ w', Fr none_ w w' → K (.bool true) w') : CallsR Tryz.prog 4 #[.agg me.cells.toArray, cv, sv] K w := by
  apply c4
  unfold p4
  have elen : ∀ (R : Value → World → Prop) W, opS Tryz.prog (S.len cv) R W = R (i64 costs.length) W := fun R W => by
    obtain ⟨a, c, e⟩ := hc.form
    rw [e, List.length_map]; rfl
  have slen : ∀ (R : Value → World → Prop) W, opS Tryz.prog (S.len sv) R W = R (i64 st.length) W := fun R W => by
    obtain ⟨a, c, e⟩ := hst.form
    rw [e, List.length_map]; rfl
  have hx0 : (w.alloc (cellsO me.cells 25)).heap[w.heap.size]? = some (cellsO me.cells 25) := by simp only [push_cast, Nat.reduceAdd, Nat.reduceLeDiff, Nat.reduceLT, Int.reduceToNat, Nat.left_eq_add, Nat.add_eq_left, Nat.add_left_cancel_iff, Nat.reduceEqDiff, Nat.add_assoc, Nat.succ_ne_zero]
  have hF0 : Fr none_ w (w.alloc (cellsO me.cells 25)) := (by repeat' first | with_reducible exact Fr.refl _ _ | with_reducible refine Fr.step_alloc ?_ ?_ | with_reducible refine Fr.step_drew ?_ | with_reducible refine Fr.step_wr ?_ ?_ _ _ | exact rfl | exact Or.inr (by omega) | exact Or.inl rfl | exact Or.inl (Or.inl rfl) | exact Or.inl (Or.inr rfl))
  simp only [push_cast, Nat.reduceAdd, Nat.reduceLeDiff, Nat.reduceLT, Int.reduceToNat, Nat.left_eq_add, Nat.add_eq_left, Nat.add_left_cancel_iff, Nat.reduceEqDiff, Nat.add_assoc, Nat.succ_ne_zero]
  have hxl := lt_of_heap hx0
  generalize w.alloc (cellsO me.cells 25) = W0 at *
  have hxe : w.heap.size ≤ w.heap.size := Nat.le_refl _
  generalize hxb : w.heap.size = xb at hx0 hxl ⊢
  refine awake_spec fun w1 f1 => ?_
  have F1 := hF0.trans f1
  have hx1 := f1.heap hx0 fun h => h
  have hs1 := f1.size
  simp only [push_cast, Nat.reduceAdd, Nat.reduceLeDiff, Nat.reduceLT, Int.reduceToNat, Nat.left_eq_add, Nat.add_eq_left, Nat.add_left_cancel_iff, Nat.reduceEqDiff, Nat.add_assoc, Nat.succ_ne_zero]
  rw [elen]
  simp only [push_cast, Nat.reduceAdd, Nat.reduceLeDiff, Nat.reduceLT, Int.reduceToNat, Nat.left_eq_add, Nat.add_eq_left, Nat.add_left_cancel_iff, Nat.reduceEqDiff, Nat.add_assoc, Nat.succ_ne_zero]
  refine br_dec (fun e => hk _ F1) fun e => ?_
  simp only [push_cast, Nat.reduceAdd, Nat.reduceLeDiff, Nat.reduceLT, Int.reduceToNat, Nat.left_eq_add, Nat.add_eq_left, Nat.add_left_cancel_iff, Nat.reduceEqDiff, Nat.add_assoc, Nat.succ_ne_zero, hx1]
  refine new_spec hm (hc.fr F1 fun _ _ h => h) hci (by omega) (fun e w2 f2 => ?_) fun e spA bsA pvA mbA w2 hA a1 a2 f2 => ?_
  · simp only [push_cast, Nat.reduceAdd, Nat.reduceLeDiff, Nat.reduceLT, Int.reduceToNat, Nat.left_eq_add, Nat.add_eq_left, Nat.add_left_cancel_iff, Nat.reduceEqDiff, Nat.add_assoc, Nat.succ_ne_zero]
    refine br_intro (fun _ => ?_) fun e => absurd e (by decide)
    exact hk _ (F1.trans f2)
  · simp only [push_cast, Nat.reduceAdd, Nat.reduceLeDiff, Nat.reduceLT, Int.reduceToNat, Nat.left_eq_add, Nat.add_eq_left, Nat.add_left_cancel_iff, Nat.reduceEqDiff, Nat.add_assoc, Nat.succ_ne_zero]
    refine br_intro (fun e => absurd e (by decide)) fun _ => ?_
    have F2 := F1.trans f2
    have hx2 := f2.heap hx1 fun h => h
    simp only [push_cast, Nat.reduceAdd, Nat.reduceLeDiff, Nat.reduceLT, Int.reduceToNat, Nat.left_eq_add, Nat.add_eq_left, Nat.add_left_cancel_iff, Nat.reduceEqDiff, Nat.add_assoc, Nat.succ_ne_zero, hx2]
    refine rnew_spec hm (hc.fr F2 fun _ _ h => h) hci (by omega) (fun e2 => by rw [e] at e2; cases e2) fun _ spB bsB pvB fvB w3 hB b1 b2 f3 => ?_
    have s2 := f2.size
    have hl0 : 0 < (newS me costs).l.length := by
      rw [newS_len]
      unfold newB at e
      simp only [Bool.and_eq_true, decide_eq_true_eq] at e
      omega
    have hsep : SepR spA bsA pvA mbA spB bsB pvB fvB := ⟨fun c h1 h2 => by have := hA.lt c h1; have := b1 c h2; omega, fun c h1 h2 => by have := hA.ps.pv_lt hl0 c h1; have := b1 c h2; omega, fun c h1 h2 => by have := hA.lt c h2; have := b2 c h1; omega⟩
    have hb : Both w3 spA bsA pvA mbA spB bsB pvB fvB (newS me costs) := ⟨hA.fr0 f3, hB, hsep, newS_wf hm e⟩
    have hbn : ∀ c, fB spA bsA mbA spB bsB fvB c → w1.heap.size ≤ c := fun c hc => hc.elim (a1 c) fun h => by have := b1 c h; omega
    have hx3 := f3.heap hx2 fun h => h
    simp only [push_cast, Nat.reduceAdd, Nat.reduceLeDiff, Nat.reduceLT, Int.reduceToNat, Nat.left_eq_add, Nat.add_eq_left, Nat.add_left_cancel_iff, Nat.reduceEqDiff, Nat.add_assoc, Nat.succ_ne_zero]
    refine jn0 (fun W => Fr none_ w W) (fun W h => hk W h) fun j hj => ?_
    refine loop1 (fun n u W => ∃ (i : Nat) (s : Sp), u = i64 i ∧ i + n = st.length ∧ Both W spA bsA pvA mbA spB bsB pvB fvB s ∧ s.St ∧ s.l.length = costs.length ∧ s.me = me ∧ Fr none_ w W ∧ W.heap[xb]? = some (cellsO me.cells 25)) ?_ st.length ⟨0, _, rfl, by omega, hb, newS_St me costs, newS_len me costs, rfl, F2.trans f3, hx3⟩
    rintro n u W X ⟨i, s, rfl, hin, hb, hS, hsl, hme, hF, hx⟩ hX
    rw [slen]
    simp only [push_cast, Nat.reduceAdd, Nat.reduceLeDiff, Nat.reduceLT, Int.reduceToNat, Nat.left_eq_add, Nat.add_eq_left, Nat.add_left_cancel_iff, Nat.reduceEqDiff, Nat.add_assoc, Nat.succ_ne_zero]
    refine br_dec (fun hlt => ?_) fun _ => hj _ hF
    have hil : i < st.length := by omega
    refine br_dec (fun h120 => ?_) fun _ => hj _ hF
    have hwk : IntKind.i64.wrap ((i : Int) + 1) = ((i + 1 : Nat) : Int) := by rw [wrap_i64 (by omega)]; rfl
    have hxn : ¬ fB spA bsA mbA spB bsB fvB xb := fun e => by have := hbn xb e; omega
    have hS1 := hS.step hb.wf (hso _ (List.getElem_mem hil))
    have hl1 := step_len s st[i]
    have hm1 := step_me s st[i]
    rw [hsl] at hl1
    rw [hme] at hm1
    refine jn0 (fun W => Both W spA bsA pvA mbA spB bsB pvB fvB (s.step st[i]) ∧ Fr none_ w W ∧ W.heap[xb]? = some (cellsO me.cells 25)) ?_ fun j2 hj2 => ?_
    · rintro W ⟨hb, hF, hx⟩
      simp only [push_cast, Nat.reduceAdd, Nat.reduceLeDiff, Nat.reduceLT, Int.reduceToNat, Nat.left_eq_add, Nat.add_eq_left, Nat.add_left_cancel_iff, Nat.reduceEqDiff, Nat.add_assoc, Nat.succ_ne_zero, hwk]
      exact hX (n - 1) _ _ (by omega) ⟨i + 1, _, rfl, by omega, hb, hS1, hl1, hm1, hF, hx⟩
    refine s_iaE (es := st.map SStp.cells) (hst.fr hF fun _ _ h => h) (by omega) (by simpa using hil) fun b1 o1 c1 _ hE => ?_
    simp only [Int.toNat_natCast, List.getElem_map] at hE ⊢
    have hag := hE.agg0 (SStp.len _)
    simp only [push_cast, Nat.reduceAdd, Nat.reduceLeDiff, Nat.reduceLT, Int.reduceToNat, Nat.left_eq_add, Nat.add_eq_left, Nat.add_left_cancel_iff, Nat.reduceEqDiff, Nat.add_assoc, Nat.succ_ne_zero, hag]
    refine step_spec hb (hso _ (List.getElem_mem hil)) fun W1 hb1 g1 => ?_
    have hF1 : Fr none_ w W1 := hF.trans_new g1 fun c hc e => by have := hbn c e; have := F1.size; omega
    have hx1 := g1.heap hx hxn
    generalize s.step st[i] = s1 at *
    simp only [push_cast, Nat.reduceAdd, Nat.reduceLeDiff, Nat.reduceLT, Int.reduceToNat, Nat.left_eq_add, Nat.add_eq_left, Nat.add_left_cancel_iff, Nat.reduceEqDiff, Nat.add_assoc, Nat.succ_ne_zero]
    refine roles_spec hb1.c hb1.wf fun x W2 hx' nx g2 => ?_
    have hb2 := hb1.fr0 g2
    simp only [push_cast, Nat.reduceAdd, Nat.reduceLeDiff, Nat.reduceLT, Int.reduceToNat, Nat.left_eq_add, Nat.add_eq_left, Nat.add_left_cancel_iff, Nat.reduceEqDiff, Nat.add_assoc, Nat.succ_ne_zero]
    refine states_spec hb2.c hb2.wf fun y W3 hy ny g3 => ?_
    have hb3 := hb2.fr0 g3
    have h64 := hb1.wf.n64
    have hF3 := (hF1.trans g2).trans g3
    have hx3 := g3.heap (g2.heap hx1 fun h => h) fun h => h
    have hx'3 := hx'.fr g3 fun _ _ h => h
    have hrl := rolesOf_len s1
    have htl : s1.statesOf.length = s1.l.length := by unfold Sp.statesOf; rw [List.length_map]
    have xlen : ∀ (R : Value → World → Prop) W, opS Tryz.prog (S.len x) R W = R (i64 costs.length) W := fun R W => by
      obtain ⟨a, c, e⟩ := hx'3.rd.form
      rw [e, List.length_map, hrl, hl1]; rfl
    have ylen : ∀ (R : Value → World → Prop) W, opS Tryz.prog (S.len y) R W = R (i64 costs.length) W := fun R W => by
      obtain ⟨a, c, e⟩ := hy.rd.form
      rw [e, List.length_map, htl, hl1]; rfl
    rw [xlen, elen]
    simp only [push_cast, Nat.reduceAdd, Nat.reduceLeDiff, Nat.reduceLT, Int.reduceToNat, Nat.left_eq_add, Nat.add_eq_left, Nat.add_left_cancel_iff, Nat.reduceEqDiff, Nat.add_assoc, Nat.succ_ne_zero]
    refine br_intro (fun e => by simp at e) fun _ => ?_
    rw [ylen, elen]
    simp only [push_cast, Nat.reduceAdd, Nat.reduceLeDiff, Nat.reduceLT, Int.reduceToNat, Nat.left_eq_add, Nat.add_eq_left, Nat.add_left_cancel_iff, Nat.reduceEqDiff, Nat.add_assoc, Nat.succ_ne_zero]
    refine br_intro (fun e => by simp at e) fun _ => ?_
    refine jn1 (fun v W => v = i64 ((s1.rolesOf.count 1 : Nat) : Int) ∧ W = W3) ?_ fun j3 hj3 => ?_
    · rintro v W ⟨rfl, rfl⟩
      have hc1 := (count_one hS1.one s1.rolesOf.length).1
      rw [List.take_length] at hc1
      simp only [push_cast, Nat.reduceAdd, Nat.reduceLeDiff, Nat.reduceLT, Int.reduceToNat, Nat.left_eq_add, Nat.add_eq_left, Nat.add_left_cancel_iff, Nat.reduceEqDiff, Nat.add_assoc, Nat.succ_ne_zero]
      refine br_dec (fun h => absurd h (by omega)) fun _ => ?_
      have hxd : W.drew.heap[xb]? = some (cellsO me.cells 25) := hx3
      have hbd := hb3.fr0 (Fr.drew W)
      have hFd := hF3.trans (Fr.drew (fp := none_) W)
      generalize W.drew = W4 at *
      have rb : ∀ {R : Value → World → Prop} {W'}, Both W' spA bsA pvA mbA spB bsB pvB fvB s1 ∧ Fr none_ w W' ∧ W'.heap[xb]? = some (cellsO me.cells 25) → (∀ W'', Both W'' spA bsA pvA mbA spB bsB pvB fvB s1 ∧ Fr none_ w W'' ∧ W''.heap[xb]? = some (cellsO me.cells 25) → R (.agg s1.best.cells.toArray) W'') → opS Tryz.prog (S.cl 12 [pt spA 0]) R W' := by
        rintro R W' ⟨g1, g2, g3⟩ hR
        rw [opS_cl]
        exact best_spec g1.c fun W6 g6 => hR _ ⟨g1.fr0 g6, g2.trans g6, g6.heap g3 fun h => h⟩
      have rl : ∀ {R : Value → World → Prop} {W'}, Both W' spA bsA pvA mbA spB bsB pvB fvB s1 ∧ Fr none_ w W' ∧ W'.heap[xb]? = some (cellsO me.cells 25) → R (.agg me.cells.toArray) W' → opS Tryz.prog (S.ld 25 (pt xb 0)) R W' := by
        rintro R W' ⟨g1, g2, g3⟩ hR
        simp only [push_cast, Nat.reduceAdd, Nat.reduceLeDiff, Nat.reduceLT, Int.reduceToNat, Nat.left_eq_add, Nat.add_eq_left, Nat.add_left_cancel_iff, Nat.reduceEqDiff, Nat.add_assoc, Nat.succ_ne_zero, g3]
        exact hR
      have hown : ∀ {W'}, Both W' spA bsA pvA mbA spB bsB pvB fvB s1 ∧ Fr none_ w W' ∧ W'.heap[xb]? = some (cellsO me.cells 25) → opS Tryz.prog (S.build 44 [(0, .agg me.cells.toArray), (2, .agg me.cells.toArray)]) (fun x39 => opS Tryz.prog (S.binG .eql 44 (.agg s1.best.cells.toArray) x39) fun x40 => opS Tryz.prog (S.binB .neq (.bool (((s1.rolesOf.count 1 : Nat) : Int) == 0)) x40) fun x41 => brn x41 (K (.bool false)) j2) W' := by
        rintro W' ⟨g1, g2, g3⟩
        rw [build_vec2]
        refine s_eqVec g1.wf.best ⟨hm, isI0, hm, isI0, isI0⟩ ?_
        have hz : (((s1.rolesOf.count 1 : Nat) : Int) == 0) = decide (s1.best = ⟨me, 0, me, 0, 0⟩) := by
          have hbst := hS1.bst
          rw [hm1, ← count_zero] at hbst
          rw [Bool.eq_iff_iff, decide_eq_true_iff, beq_iff_eq]
          constructor
          · intro h; exact hbst.1 (by omega)
          · intro h; have := hbst.2 h; omega
        rw [hz]
        simp only [push_cast, Nat.reduceAdd, Nat.reduceLeDiff, Nat.reduceLT, Int.reduceToNat, Nat.left_eq_add, Nat.add_eq_left, Nat.add_left_cancel_iff, Nat.reduceEqDiff, Nat.add_assoc, Nat.succ_ne_zero]
        refine br_intro (fun e => by simp at e) fun _ => ?_
        exact hj2 _ ⟨g1, g2, g3⟩
      have h0 : Both W4 spA bsA pvA mbA spB bsB pvB fvB s1 ∧ Fr none_ w W4 ∧ W4.heap[xb]? = some (cellsO me.cells 25) := ⟨hbd, hFd, hxd⟩
      repeat' first
        | with_reducible refine allW_intro ?_ ?_
        | with_reducible refine rb (by assumption) fun _ _ => ?_
        | with_reducible refine rl (by assumption) ?_
        | with_reducible exact hown (by assumption)
    · refine loop2 (fun m x0 u W => ∃ k : Nat, k + m = costs.length ∧ u = i64 k ∧ x0 = i64 (((s1.rolesOf.take k).count 1 : Nat) : Int) ∧ W = W3) ?_ costs.length ⟨0, by omega, rfl, rfl, rfl⟩
      rintro m x0 u W X ⟨k, hkm, rfl, rfl, rfl⟩ hX
      rw [xlen]
      simp only [push_cast, Nat.reduceAdd, Nat.reduceLeDiff, Nat.reduceLT, Int.reduceToNat, Nat.left_eq_add, Nat.add_eq_left, Nat.add_left_cancel_iff, Nat.reduceEqDiff, Nat.add_assoc, Nat.succ_ne_zero]
      refine br_dec (fun hlt => ?_) fun hge => ?_
      · have hkl : k < s1.l.length := by omega
        have hwk2 : IntKind.i64.wrap ((k : Int) + 1) = ((k + 1 : Nat) : Int) := by rw [wrap_i64 (by omega)]; rfl
        obtain ⟨p, hp⟩ : ∃ p, s1.l[k]? = some p := ⟨_, List.getElem?_eq_getElem hkl⟩
        have hr := rolesOf_get hp
        have ht : s1.statesOf[k]? = some p.state := by unfold Sp.statesOf; rw [List.getElem?_map, hp]; rfl
        have hsp := hS1.st p (List.mem_of_getElem? hp)
        have hcs := count_succ hr
        refine jn1 (fun v W' => v = i64 (((s1.rolesOf.take (k + 1)).count 1 : Nat) : Int) ∧ W' = W) ?_ fun j5 hj5 => ?_
        · rintro v W' ⟨rfl, rfl⟩
          have hnext : opS Tryz.prog (S.binI .add (i64 k) (.int .i64 1)) (fun x => X (i64 (((s1.rolesOf.take (k + 1)).count 1 : Nat) : Int)) x) W' := by
            simp only [push_cast, Nat.reduceAdd, Nat.reduceLeDiff, Nat.reduceLT, Int.reduceToNat, Nat.left_eq_add, Nat.add_eq_left, Nat.add_left_cancel_iff, Nat.reduceEqDiff, Nat.add_assoc, Nat.succ_ne_zero, hwk2]
            exact hX (m - 1) _ _ _ (by omega) ⟨k + 1, by omega, rfl, rfl, rfl⟩
          refine ld_int hx'3.rd hr ?_
          simp only [push_cast, Nat.reduceAdd, Nat.reduceLeDiff, Nat.reduceLT, Int.reduceToNat, Nat.left_eq_add, Nat.add_eq_left, Nat.add_left_cancel_iff, Nat.reduceEqDiff, Nat.add_assoc, Nat.succ_ne_zero]
          refine br_intro (fun e1 => ?_) fun e1 => ?_
          · have e1 : p.role ≠ 1 := by simpa using e1
            refine ld_int hx'3.rd hr ?_
            simp only [push_cast, Nat.reduceAdd, Nat.reduceLeDiff, Nat.reduceLT, Int.reduceToNat, Nat.left_eq_add, Nat.add_eq_left, Nat.add_left_cancel_iff, Nat.reduceEqDiff, Nat.add_assoc, Nat.succ_ne_zero]
            refine br_intro (fun e2 => ?_) fun e2 => ?_
            · have e2 : p.role ≠ 2 := by simpa using e2
              refine ld_int hy.rd ht ?_
              simp only [push_cast, Nat.reduceAdd, Nat.reduceLeDiff, Nat.reduceLT, Int.reduceToNat, Nat.left_eq_add, Nat.add_eq_left, Nat.add_left_cancel_iff, Nat.reduceEqDiff, Nat.add_assoc, Nat.succ_ne_zero]
              refine br_intro (fun e3 => ?_) fun e3 => ?_
              · exact absurd (hsp.1 e1 e2) (by simpa using e3)
              · refine ld_int hx'3.rd hr ?_
                simp only [push_cast, Nat.reduceAdd, Nat.reduceLeDiff, Nat.reduceLT, Int.reduceToNat, Nat.left_eq_add, Nat.add_eq_left, Nat.add_left_cancel_iff, Nat.reduceEqDiff, Nat.add_assoc, Nat.succ_ne_zero]
                refine br_dec (fun e4 => absurd e4 e1) fun _ => ?_
                exact hnext
            · refine ld_int hx'3.rd hr ?_
              simp only [push_cast, Nat.reduceAdd, Nat.reduceLeDiff, Nat.reduceLT, Int.reduceToNat, Nat.left_eq_add, Nat.add_eq_left, Nat.add_left_cancel_iff, Nat.reduceEqDiff, Nat.add_assoc, Nat.succ_ne_zero]
              refine br_dec (fun e4 => absurd e4 e1) fun _ => ?_
              exact hnext
          · have e1 : p.role = 1 := by simpa using e1
            refine ld_int hx'3.rd hr ?_
            simp only [push_cast, Nat.reduceAdd, Nat.reduceLeDiff, Nat.reduceLT, Int.reduceToNat, Nat.left_eq_add, Nat.add_eq_left, Nat.add_left_cancel_iff, Nat.reduceEqDiff, Nat.add_assoc, Nat.succ_ne_zero]
            refine br_dec (fun e4 => ?_) fun e4 => absurd e1 e4
            refine ld_int hy.rd ht ?_
            simp only [push_cast, Nat.reduceAdd, Nat.reduceLeDiff, Nat.reduceLT, Int.reduceToNat, Nat.left_eq_add, Nat.add_eq_left, Nat.add_left_cancel_iff, Nat.reduceEqDiff, Nat.add_assoc, Nat.succ_ne_zero]
            refine br_intro (fun e3 => ?_) fun e3 => ?_
            · exact absurd (hsp.2 e1) (by simpa using e3)
            · exact hnext
        · refine ld_int hx'3.rd hr ?_
          simp only [push_cast, Nat.reduceAdd, Nat.reduceLeDiff, Nat.reduceLT, Int.reduceToNat, Nat.left_eq_add, Nat.add_eq_left, Nat.add_left_cancel_iff, Nat.reduceEqDiff, Nat.add_assoc, Nat.succ_ne_zero]
          refine br_dec (fun e => ?_) fun e => ?_
          · rw [if_pos e] at hcs
            have hw3 : IntKind.i64.wrap ((((s1.rolesOf.take k).count 1 : Nat) : Int) + 1) = (((s1.rolesOf.take (k + 1)).count 1 : Nat) : Int) := by
              have := (count_one hS1.one k).1
              rw [hcs, wrap_i64 (by omega)]; rfl
            simp only [push_cast, Nat.reduceAdd, Nat.reduceLeDiff, Nat.reduceLT, Int.reduceToNat, Nat.left_eq_add, Nat.add_eq_left, Nat.add_left_cancel_iff, Nat.reduceEqDiff, Nat.add_assoc, Nat.succ_ne_zero, hw3]
            exact hj5 _ _ ⟨rfl, rfl⟩
          · rw [if_neg e] at hcs
            have hcs' : (s1.rolesOf.take (k + 1)).count 1 = (s1.rolesOf.take k).count 1 := by omega
            rw [← hcs']
            exact hj5 _ _ ⟨rfl, rfl⟩
      · obtain rfl : k = costs.length := by omega
        rw [← hl1, ← hrl, List.take_length]
        exact hj3 _ _ ⟨rfl, rfl⟩

end Go.Gx.S
end

section
/- Tables of VLANs: the plain laws. -/
namespace Go.Gx
open Go
namespace VT

theorem mem_members {t : VT} {v p : Int} : p ∈ t.members v ↔ t.port p ∧ t.is v p = true := by
  unfold members port
  rw [List.mem_filter, List.mem_map]
  constructor
  · rintro ⟨⟨n, hn, rfl⟩, h⟩
    rw [List.mem_range] at hn
    exact ⟨⟨by simp, by simpa using hn⟩, h⟩
  · rintro ⟨⟨h1, h2⟩, h⟩
    exact ⟨⟨p.toNat, by rw [List.mem_range]; omega, by simp; omega⟩, h⟩

theorem inn_eq {t : VT} {p : Int} {f : Frm} {n : Nat} : ∃ u, t.inn p f n = if t.port p ∧ f.right n = true then (if t.is u p = true then (u, 0) else (0, 4)) else (0, 1) := ⟨_, rfl⟩

theorem inn_none {t : VT} {p : Int} {f : Frm} {n : Nat} (h : (t.inn p f n).2 ≠ 0) : (t.inn p f n).1 = 0 := by
  obtain ⟨u, hu⟩ := inn_eq (t := t) (p := p) (f := f) (n := n)
  rw [hu] at h ⊢
  by_cases h1 : t.port p ∧ f.right n = true
  · rw [if_pos h1] at h ⊢
    by_cases h2 : t.is u p = true
    · rw [if_pos h2] at h
      exact absurd rfl h
    · rw [if_neg h2]
  · rw [if_neg h1]

theorem inn_some {t : VT} {p : Int} {f : Frm} {n : Nat} (h : (t.inn p f n).2 = 0) : t.port p ∧ f.right n = true ∧ t.is (t.inn p f n).1 p = true := by
  obtain ⟨u, hu⟩ := inn_eq (t := t) (p := p) (f := f) (n := n)
  rw [hu] at h ⊢
  by_cases h1 : t.port p ∧ f.right n = true
  · rw [if_pos h1] at h ⊢
    by_cases h2 : t.is u p = true
    · rw [if_pos h2]
      exact ⟨h1.1, h1.2, h2⟩
    · rw [if_neg h2] at h
      cases h
  · rw [if_neg h1] at h
    cases h

theorem out_some {t : VT} {v p : Int} {f : Frm} {n : Nat} (h : (t.out v p f n).2 = 0) : t.right v p ∧ f.right n = true ∧ ((getL t.tab (v, p) = some true ∧ (t.out v p f n).1 = f.tag v f.prio) ∨ (getL t.tab (v, p) = some false ∧ (t.out v p f n).1 = f.untag)) := by
  unfold out at *
  split at h
  · rename_i hc
    rw [if_pos hc]
    refine ⟨hc.1, hc.2, ?_⟩
    split at h
    · cases h
    · rename_i hl
      rw [hl]; exact .inl ⟨rfl, rfl⟩
    · rename_i hl
      rw [hl]; exact .inr ⟨rfl, rfl⟩
  · cases h

theorem out_is {t : VT} {v p : Int} {f : Frm} {n : Nat} (hr : t.right v p) (hf : f.right n = true) (hi : t.is v p = true) : (t.out v p f n).2 = 0 := by
  unfold out
  rw [if_pos ⟨hr, hf⟩]
  obtain ⟨b, hb⟩ := Option.isSome_iff_exists.1 hi
  rw [hb]
  cases b <;> rfl

theorem right_untag {f : Frm} {n : Nat} (h : f.right n = true) : f.untag.right n = true := by
  unfold Frm.right Frm.untag at *
  simp only [Bool.and_eq_true] at h ⊢
  exact ⟨h.1, by simp⟩

/-- it comes in as what it went out as -/
theorem back_tag {t : VT} {v p : Int} {f : Frm} {n : Nat} (hr : t.right v p) (hf : f.right n = true) (hi : t.is v p = true) : t.inn p (f.tag v f.prio) n = (v, 0) := by
  unfold inn
  rw [if_pos ⟨hr.2.2, tag_right hf hr.1 hr.2.1⟩]
  have h1 := hr.1
  have e : (f.tag v f.prio).vlan = v := rfl
  have h0 : v ≠ 0 := by omega
  rw [e, if_neg h0]
  simp only []
  rw [if_pos hi]

theorem back_untag {t : VT} {v p : Int} {f : Frm} {n : Nat} (hr : t.right v p) (hf : f.right n = true) (hi : t.is v p = true) : (t.native p v).1.inn p f.untag n = (v, 0) := by
  have h1 := hr.1
  have h2 := hr.2.1
  have h3 := hr.2.2
  unfold native
  rw [if_pos ⟨h3, by omega, by omega⟩]
  unfold inn
  have hp : (⟨t.tab, t.nat.set p.toNat v⟩ : VT).port p := by unfold port at *; simpa using h3
  simp only []
  rw [if_pos ⟨hp, right_untag hf⟩]
  have e : f.untag.vlan = 0 := rfl
  have hlt : p.toNat < t.nat.length := by unfold port at h3; omega
  have hg : (t.nat.set p.toNat v).getD p.toNat 0 = v := by
    rw [List.getD_eq_getElem?_getD, List.getElem?_set_self hlt]; rfl
  rw [e, if_pos rfl, hg, if_pos (by exact hi)]

theorem members_native {t : VT} (p v u : Int) : (t.native p v).1.members u = t.members u := by
  unfold native
  split
  · unfold members is; simp
  · rfl

theorem members_step {t t' : VT} {u : Int} (hn : t'.nat.length = t.nat.length) (h : ∀ p, t'.is u p = t.is u p) : t'.members u = t.members u := by
  unfold members
  rw [hn]
  exact List.filter_congr fun p _ => h p

theorem members_add {t : VT} {v p u : Int} {b : Bool} (h : v ≠ u) : (t.add v p b).1.members u = t.members u := by
  unfold add
  split
  · refine members_step rfl fun q => ?_
    unfold is
    simp only []
    rw [lookup_setL, if_neg]
    intro e
    exact h (congrArg Prod.fst e).symm
  · rfl

theorem members_remove {t : VT} {v p u : Int} (h : v ≠ u) : (t.remove v p).1.members u = t.members u := by
  unfold remove
  split
  · split
    · refine members_step rfl fun q => ?_
      unfold is
      simp only []
      rw [lookup_delL, if_neg]
      intro e
      exact h (congrArg Prod.fst e).symm
    · rfl
  · rfl

theorem filter_one_less {l : List Int} {f g : Int → Bool} {p : Int} (hn : l.Nodup) (hp : p ∈ l) (hf : f p = true) (hg : g p = false) (h : ∀ q, q ≠ p → g q = f q) : (l.filter g).length + 1 = (l.filter f).length := by
  induction l with
  | nil => cases hp
  | cons a l ih =>
    rw [List.nodup_cons] at hn
    by_cases e : a = p
    · subst e
      rw [List.filter_cons, List.filter_cons, if_neg (by simp [hg]), if_pos hf, List.length_cons]
      have : l.filter g = l.filter f := List.filter_congr fun q hq => h q fun e => hn.1 (e ▸ hq)
      rw [this]
    · have hp' : p ∈ l := by
        rcases List.mem_cons.1 hp with rfl | hp
        · exact absurd rfl e
        · exact hp
      rw [List.filter_cons, List.filter_cons, h a e]
      have := ih hn.2 hp'
      split
      · simp only [List.length_cons]; omega
      · exact this

theorem range_nodup (n : Nat) : ((List.range n).map Int.ofNat).Nodup := by
  refine List.Pairwise.map (R := (· < ·)) _ ?_ List.pairwise_lt_range
  intro a b hab e
  have : (a : Int) = b := e
  omega

theorem members_rise (t : VT) (v : Int) : (t.members v).Pairwise (· < ·) := by
  unfold members
  refine List.Pairwise.filter _ ?_
  refine List.Pairwise.map (R := (· < ·)) _ ?_ List.pairwise_lt_range
  intro a b hab
  show (a : Int) < b
  omega

theorem native_none {t : VT} (h : t.ok) (p : Int) (f : Frm) (hf : f.vlan = 0) (n : Nat) :
    ((t.native p 0).1.inn p f n).1 = 0 ∧ ((t.native p 0).1.inn p f n).2 ≠ 0 ∧ ((t.inn p f n).2 = 1 ∨ (t.native p 0).2 = 0) := by
  by_cases hp : t.port p
  · have hlt : p.toNat < t.nat.length := by unfold port at hp; omega
    have hn : t.native p 0 = ({ t with nat := t.nat.set p.toNat 0 }, 0) := by unfold native; rw [if_pos ⟨hp, by omega, by omega⟩]
    rw [hn]
    have hok := ok_native h p 0
    rw [hn] at hok
    have hno : (⟨t.tab, t.nat.set p.toNat 0⟩ : VT).is 0 p = false := by
      cases hi : (⟨t.tab, t.nat.set p.toNat 0⟩ : VT).is 0 p with
      | false => rfl
      | true =>
        have := is_right hok hi
        have := this.1
        omega
    have hg : (t.nat.set p.toNat 0).getD p.toNat 0 = 0 := by
      rw [List.getD_eq_getElem?_getD, List.getElem?_set_self hlt]; rfl
    refine ⟨?_, ?_, .inr rfl⟩
    all_goals
      unfold inn
      simp only [hf, if_true, hg, hno]
      split <;> simp
  · have hn : t.native p 0 = (t, 1) := by unfold native; rw [if_neg (fun h => hp h.1)]
    rw [hn]
    have : t.inn p f n = (0, 1) := by unfold inn; rw [if_neg (fun h => hp h.1)]
    rw [this]
    exact ⟨rfl, by decide, .inl rfl⟩

end VT
end Go.Gx
end

section
/- What comes in: keys, structs. -/
namespace Go.Gx
open Go Go.ChangeShapes Go.WideShapes Go.ChangeAt Go.RowKit
section
variable {H : Type} {enc : TypeId × Value → H} {P : Program} {w : World} {base : Nat} {spare : Nat → Bool} {held : Bool}

/-- a struct, or an array, that comes in -/
theorem arg_agg {t base' : Nat} {v : Value} {d : DataW H} {ps : List MemPlace} {r : Reach} (hu : (∃ fs, P.underlying t = some (.struct fs)) ∨ ∃ n e, P.underlying t = some (.array n e)) (hok : Value.okWide P w r base' t v) (h : DataW.Trod enc P w base spare held t v d ps) :
    ∃ cs : List Value, v = .agg cs.toArray ∧ ∃ n, DataW.trod enc P w base spare held n t cs = some (d, ps) := by
  obtain ⟨fuel, h⟩ := h
  unfold Value.okWide at hok
  rcases hu with ⟨fs, hu⟩ | ⟨n, e, hu⟩
  · simp only [hu] at hok
    obtain ⟨cs, rfl, _⟩ := hok
    exact ⟨cs.toList, by simp, fuel, h⟩
  · simp only [hu] at hok
    obtain ⟨cs, rfl, _⟩ := hok
    exact ⟨cs.toList, by simp, fuel, h⟩

/-- .. that may be a key -/
theorem arg_key {t base' : Nat} {v : Value} {d : DataW H} {ps : List MemPlace} {r : Reach} (hu : (∃ fs, P.underlying t = some (.struct fs)) ∨ ∃ n e, P.underlying t = some (.array n e)) (hk : P.keyTypeAt 8 t = true) (hok : Value.okWide P w r base' t v) (h : DataW.Trod enc P w base spare held t v d ps) :
    ∃ cs : List Value, v = .agg cs.toArray ∧ ∃ l, P.keyLits 8 t cs = some l := by
  obtain ⟨cs, h1, n, h2⟩ := arg_agg hu hok h
  exact ⟨cs, h1, _, (keyLits_of_trod 8 t hk n cs _ h2).1⟩

/-- bytes that come in -/
theorem trod_bytes {t e n : Nat} {v : Value} {x : DataW H × List MemPlace} (ht : P.underlying t = some (.slice e)) (he : P.underlying e = some (.int .u8)) (hc : P.cellsOf e = 1) (h : DataW.trod enc P w base spare held n t [v] = some x) :
    ∃ bs, ByR w v bs ∧ bs.length ≤ maxLen := by
  obtain ⟨es, h1, h2, h3⟩ := open_rd ht hc (by decide) h
  have key : ∃ bs : List Int, es = bs.map cell1 ∧ ∀ b ∈ bs, isB b := by
    clear h1 h2
    induction es with
    | nil => exact ⟨[], rfl, by simp⟩
    | cons c es ih =>
      obtain ⟨bs, hb, hbs⟩ := ih fun c hc => h3 c (List.mem_cons_of_mem _ hc)
      obtain ⟨m, y, hy⟩ := h3 c (List.mem_cons_self ..)
      obtain ⟨z, rfl, _, hw⟩ := DataW.trod_int he hy
      refine ⟨z :: bs, by rw [hb]; rfl, fun b hb => ?_⟩
      rcases List.mem_cons.1 hb with rfl | hb
      · simp only [Lit.wf, Bool.and_eq_true, decide_eq_true_eq] at hw
        exact hw
      · exact hbs b hb
  obtain ⟨bs, rfl, hbs⟩ := key
  exact ⟨bs, ⟨h1, hbs⟩, by simpa using h2⟩

theorem arg_bytes {t e base' : Nat} {v : Value} {d : DataW H} {ps : List MemPlace} {r : Reach} (ht : P.underlying t = some (.slice e)) (he : P.underlying e = some (.int .u8)) (hc : P.cellsOf e = 1) (hok : Value.okWide P w r base' t v) (h : DataW.Trod enc P w base spare held t v d ps) :
    ∃ bs, ByR w v bs ∧ bs.length ≤ maxLen := by
  obtain ⟨fuel, h⟩ := h
  rw [okWide_slice ht hok] at h
  exact trod_bytes ht he hc h

end
end Go.Gx
end

section
/- Steps that come in. -/
set_option linter.unusedVariables false
set_option maxRecDepth 100000
namespace Go.Gx.S
open Go Go.Gx Go.Proofs

theorem ctStep : Tryz.prog.cellsOf 40 = 27 := by kernel_rfl
theorem ktStep : Tryz.prog.keyTypeAt 8 40 = true := by kernel_rfl
theorem ktId : Tryz.prog.keyTypeAt 8 25 = true := by kernel_rfl
theorem ktInt : Tryz.prog.keyTypeAt 8 3 = true := by kernel_rfl

theorem id_dec {d : Nat} {cs : List Value} {l : List Lit} (h : Tryz.prog.keyLits (d + 3) 25 cs = some l) : ∃ x : Idn, x.ok ∧ cs = x.cells := by
  obtain ⟨hl, ls, h1, rfl⟩ := kl_struct Tryz.underlying25 h
  rw [ctId] at hl
  match cs, hl with
  | [c0, c1, c2, c3, c4, c5, c6], _ =>
  simp only [List.mapM_cons, List.mapM_nil, ctInt, ctMac, bind, Option.bind_eq_some_iff, pure, Option.some.injEq, List.drop_succ_cons, List.drop_zero, List.take_succ_cons, List.take_zero] at h1
  obtain ⟨y0, g0, _, ⟨y1, g1, _, rfl, rfl⟩, rfl⟩ := h1
  obtain ⟨k0, e0, rfl, b0⟩ := kl_int uInt g0
  obtain ⟨m, hm, e2, _⟩ := MacT.dec (d := d) g1
  simp only [List.cons.injEq, and_true] at e0
  subst e0
  refine ⟨⟨k0, m⟩, ⟨b0, hm⟩, ?_⟩
  rw [e2]
  rfl
theorem bpd_dec {d : Nat} {cs : List Value} {l : List Lit} (h : Tryz.prog.keyLits (d + 4) 38 cs = some l) : ∃ x : Bpd, x.ok ∧ cs = x.cells := by
  obtain ⟨hl, ls, h1, rfl⟩ := kl_struct Tryz.underlying38 h
  rw [ctBpd] at hl
  match cs, hl with
  | [c0, c1, r0, r1, r2, r3, r4, r5, r6, c3, b0, b1, b2, b3, b4, b5, b6, c5, c6, c7, c8, c9], _ =>
  simp only [List.mapM_cons, List.mapM_nil, ctInt, ctId, bind, Option.bind_eq_some_iff, pure, Option.some.injEq, List.drop_succ_cons, List.drop_zero, List.take_succ_cons, List.take_zero] at h1
  obtain ⟨y0, g0, _, ⟨y1, g1, _, ⟨y2, g2, _, ⟨y3, g3, _, ⟨y4, g4, _, ⟨y5, g5, _, ⟨y6, g6, _, ⟨y7, g7, _, ⟨y8, g8, _, ⟨y9, g9, _, rfl, rfl⟩, rfl⟩, rfl⟩, rfl⟩, rfl⟩, rfl⟩, rfl⟩, rfl⟩, rfl⟩, rfl⟩ := h1
  obtain ⟨k0, e0, _, o0⟩ := kl_int uInt g0
  obtain ⟨k1, e1, _, o1⟩ := kl_int uInt g1
  obtain ⟨k2, o2, e2⟩ := id_dec g2
  obtain ⟨k3, e3, _, o3⟩ := kl_int uInt g3
  obtain ⟨k4, o4, e4⟩ := id_dec g4
  obtain ⟨k5, e5, _, o5⟩ := kl_int uInt g5
  obtain ⟨k6, e6, _, o6⟩ := kl_int uInt g6
  obtain ⟨k7, e7, _, o7⟩ := kl_int uInt g7
  obtain ⟨k8, e8, _, o8⟩ := kl_int uInt g8
  obtain ⟨k9, e9, _, o9⟩ := kl_int uInt g9
  simp only [List.cons.injEq, and_true, Idn.cells] at e0 e1 e2 e3 e4 e5 e6 e7 e8 e9
  obtain ⟨rfl, rfl, rfl, rfl, rfl, rfl, rfl⟩ := e2
  obtain ⟨rfl, rfl, rfl, rfl, rfl, rfl, rfl⟩ := e4
  subst e0 e1 e3 e5 e6 e7 e8 e9
  exact ⟨⟨k0, k1, k2, k3, k4, k5, k6, k7, k8, k9⟩, ⟨o0, o1, o2, o3, o4, o5, o6, o7, o8, o9⟩, rfl⟩
theorem step_dec {cs : List Value} {l : List Lit} (h : Tryz.prog.keyLits 8 40 cs = some l) : ∃ s : SStp, s.ok ∧ cs = s.cells := by
  obtain ⟨hl, ls, h1, rfl⟩ := kl_struct Tryz.underlying40 h
  rw [ctStep] at hl
  match cs, hl with
  | [s0, s1, s2, s3, s4, c0, c1, r0, r1, r2, r3, r4, r5, r6, c3, b0, b1, b2, b3, b4, b5, b6, c5, c6, c7, c8, c9], _ =>
  simp only [List.mapM_cons, List.mapM_nil, ctInt, ctBool, ctBpd, bind, Option.bind_eq_some_iff, pure, Option.some.injEq, List.drop_succ_cons, List.drop_zero, List.take_succ_cons, List.take_zero] at h1
  obtain ⟨y0, g0, _, ⟨y1, g1, _, ⟨y2, g2, _, ⟨y3, g3, _, ⟨y4, g4, _, ⟨y5, g5, _, rfl, rfl⟩, rfl⟩, rfl⟩, rfl⟩, rfl⟩, rfl⟩ := h1
  obtain ⟨k0, e0, _, o0⟩ := kl_int uInt g0
  obtain ⟨k1, e1, _, o1⟩ := kl_int uInt g1
  obtain ⟨k2, e2, _, o2⟩ := kl_int uInt g2
  obtain ⟨k3, e3, _⟩ := kl_bool uBool g3
  obtain ⟨k4, e4, _⟩ := kl_bool uBool g4
  obtain ⟨p, hp, e5⟩ := bpd_dec g5
  simp only [List.cons.injEq, and_true] at e0 e1 e2 e3 e4
  subst e0 e1 e2 e3 e4
  refine ⟨⟨k0, k1, k2, k3, k4, p⟩, ⟨o0, o1, o2, hp⟩, ?_⟩
  show _ = i64 k0 :: i64 k1 :: i64 k2 :: .bool k3 :: .bool k4 :: p.cells
  rw [← e5]

theorem sstps_dec {es : List (List Value)} (h : ∀ c ∈ es, ∃ l, Tryz.prog.keyLits 8 40 c = some l) : ∃ st : List SStp, (∀ s ∈ st, s.ok) ∧ es = st.map SStp.cells := by
  induction es with
  | nil => exact ⟨[], by simp, rfl⟩
  | cons c es ih =>
    obtain ⟨st, h1, h2⟩ := ih fun c hc => h c (List.mem_cons_of_mem _ hc)
    obtain ⟨l, hl⟩ := h c (List.mem_cons_self ..)
    obtain ⟨s, hs, rfl⟩ := step_dec hl
    refine ⟨s :: st, fun x hx => ?_, by rw [h2]; rfl⟩
    rcases List.mem_cons.1 hx with rfl | hx
    · exact hs
    · exact h1 x hx
theorem ints_dec {es : List (List Value)} (h : ∀ c ∈ es, ∃ l, Tryz.prog.keyLits 8 3 c = some l) : ∃ st : List Int, (∀ s ∈ st, isI s) ∧ es = st.map cellI := by
  induction es with
  | nil => exact ⟨[], by simp, rfl⟩
  | cons c es ih =>
    obtain ⟨st, h1, h2⟩ := ih fun c hc => h c (List.mem_cons_of_mem _ hc)
    obtain ⟨l, hl⟩ := h c (List.mem_cons_self ..)
    obtain ⟨s, rfl, _, hs⟩ := kl_int uInt hl
    refine ⟨s :: st, fun x hx => ?_, by rw [h2]; rfl⟩
    rcases List.mem_cons.1 hx with rfl | hx
    · exact hs
    · exact h1 x hx

section
variable {H : Type} {enc : TypeId × Value → H} {w : World} {base : Nat} {spare : Nat → Bool} {held : Bool}
theorem arg_sstps {base' : Nat} {v : Value} {d : DataW H} {ps : List MemPlace} {r : Reach} (hok : Value.okWide Tryz.prog w r base' 27 v) (h : DataW.Trod enc Tryz.prog w base spare held 27 v d ps) : ∃ st : List SStp, (∀ s ∈ st, s.ok) ∧ RdE 27 w v (st.map SStp.cells) := by
  obtain ⟨es, hes, _, hk⟩ := arg_keys Tryz.underlying27 ktStep ctStep (by decide) hok h
  obtain ⟨st, h1, rfl⟩ := sstps_dec hk
  exact ⟨st, h1, hes⟩
theorem arg_ints {base' : Nat} {v : Value} {d : DataW H} {ps : List MemPlace} {r : Reach} (hok : Value.okWide Tryz.prog w r base' 26 v) (h : DataW.Trod enc Tryz.prog w base spare held 26 v d ps) : ∃ st : List Int, (∀ s ∈ st, isI s) ∧ RdE 1 w v (st.map cellI) := by
  obtain ⟨es, hes, _, hk⟩ := arg_keys Tryz.underlying26 ktInt ctInt (by decide) hok h
  obtain ⟨st, h1, rfl⟩ := ints_dec hk
  exact ⟨st, h1, hes⟩
theorem arg_id {base' : Nat} {v : Value} {d : DataW H} {ps : List MemPlace} {r : Reach} (hok : Value.okWide Tryz.prog w r base' 25 v) (h : DataW.Trod enc Tryz.prog w base spare held 25 v d ps) : ∃ s : Idn, s.ok ∧ v = .agg s.cells.toArray := by
  obtain ⟨cs, rfl, l, hk⟩ := arg_key (.inl ⟨_, Tryz.underlying25⟩) ktId hok h
  obtain ⟨s, hs, rfl⟩ := id_dec (d := 5) hk
  exact ⟨s, hs, rfl⟩
end
end Go.Gx.S
end
