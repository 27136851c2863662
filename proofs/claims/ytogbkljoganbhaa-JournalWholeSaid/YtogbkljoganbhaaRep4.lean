/- Steps as changes; the entry of a pair. -/
import Derived.Test.YtogbkljoganbhaaRep3
set_option linter.unusedVariables false
set_option linter.unusedSimpArgs false
set_option maxRecDepth 100000
namespace Go.Gx.S
open Go Go.Gx Go.Proofs
variable {K : Value → World → Prop} {w : World}

/-- a step's cells -/
def stE (s : Ent × Bool) : List Value := s.1.cells ++ [.bool s.2]
theorem stE.len (s : Ent × Bool) : (stE s).length = 11 := id rfl
theorem stE.d0 (s : Ent × Bool) : ((stE s).drop 0).take 10 = s.1.cells := id rfl
theorem stE.g10 (s : Ent × Bool) : (stE s)[10]? = some (.bool s.2) := id rfl
attribute [push_cast] stE.len stE.d0 stE.g10

theorem build_chg (a : Int) (e : Ent) (g : Bool) : opS Try.prog (S.build 48 [(0, i64 a), (1, .agg e.cells.toArray), (2, .bool g)]) K w = K (.agg (chgC (a, e, g)).toArray) w := by
  rw [opS_build _ rfl]; rfl
theorem build_zent : opS Try.prog (S.build 36 []) K w = K (.agg (Ent.cells ⟨0, zMac, 0, 0, false⟩).toArray) w := by
  rw [opS_build _ rfl]; rfl
theorem chgC.one (c : Int × Ent × Bool) : (chgC c).all S.oneCell = true := id rfl

theorem list_spec {v : Value} {st : List (Ent × Bool)} {f : Int} (hv : RdE 11 w v (st.map stE)) (hf0 : 0 ≤ f) (hf : f ≤ 2 ^ 20) (hn : st.length ≤ 2 ^ 20) (h : ∀ v' (cs : List (Int × Ent × Bool)) w', cs.map Prod.snd = st → OwnE 48 12 w' v' (cs.map chgC) → Fr none_ w w' → New w v' → K v' w') :
    CallsR Try.prog 18 #[v, i64 f] K w := by
  apply c18
  unfold p18
  obtain ⟨a, c, rfl⟩ := hv.form
  rw [List.length_map] at hv ⊢
  refine jn1 (fun y w' => ∃ cs : List (Int × Ent × Bool), cs.map Prod.snd = st ∧ OwnE 48 12 w' y (cs.map chgC) ∧ Fr none_ w w' ∧ New w y) (fun y w' ⟨cs, h1, h2, h3, h4⟩ => h y cs w' h1 h2 h3 h4) fun j hj => ?_
  refine loop2 (fun n y x w' => ∃ (i : Nat) (cs : List (Int × Ent × Bool)), x = i64 i ∧ n + i = st.length ∧ cs.map Prod.snd = st.take i ∧ OwnE 48 12 w' y (cs.map chgC) ∧ Fr none_ w w' ∧ New w y) ?_ st.length ⟨0, [], rfl, rfl, rfl, own_nil _ _ _, Fr.refl _ _, fun b hb => by cases hb⟩
  rintro n y x w1 X ⟨i, cs, rfl, hi, hcs, ho, hF, hN⟩ hX
  simp only [push_cast, Nat.reduceAdd, Nat.reduceLeDiff, Nat.reduceLT, Int.reduceToNat, Nat.left_eq_add, Nat.add_eq_left, Nat.add_left_cancel_iff, Nat.reduceEqDiff, Nat.add_assoc, Nat.succ_ne_zero]
  refine br_dec (fun hlt => ?_) fun hge => ?_
  case refine_2 =>
    have : i = st.length := by omega
    subst this
    rw [List.take_length] at hcs
    exact hj _ _ ⟨cs, hcs, ho, hF, hN⟩
  have hil : i < st.length := by omega
  have hcl := congrArg List.length hcs
  rw [List.length_map, List.length_take] at hcl
  have hFd : Fr none_ w1 w1.drew := Fr.drew _
  generalize w1.drew = wd at *
  have hrd := hv.fr (hF.trans hFd) fun _ _ h => h
  refine s_iaE hrd (by omega) (by simpa using hil) fun b o c _ he => ?_
  simp only [Int.toNat_natCast, List.getElem_map] at he ⊢
  have h0 := he.agg 0 10 (by rw [stE.len]; decide)
  rw [Nat.add_zero] at h0
  simp only [push_cast, Nat.reduceAdd, Nat.reduceLeDiff, Nat.reduceLT, Int.reduceToNat, Nat.left_eq_add, Nat.add_eq_left, Nat.add_left_cancel_iff, Nat.reduceEqDiff, Nat.add_assoc, Nat.succ_ne_zero, h0]
  refine s_iaE hrd (by omega) (by simpa using hil) fun b o c _ he => ?_
  simp only [Int.toNat_natCast, List.getElem_map] at he ⊢
  have h1 := he.cell 10 (by rw [stE.len]; decide)
  rw [Nat.add_assoc] at h1
  simp only [push_cast, Nat.reduceAdd, Nat.reduceLeDiff, Nat.reduceLT, Int.reduceToNat, Nat.left_eq_add, Nat.add_eq_left, Nat.add_left_cancel_iff, Nat.reduceEqDiff, Nat.add_assoc, Nat.succ_ne_zero, h1]
  rw [build_chg]
  refine s_bs1 (sz := 12) (z := .agg (chgC (0, ⟨0, zMac, 0, 0, false⟩, false)).toArray) (chgC.len _) rfl (by decide) (by decide) fun y2 w3 hy hF3 hN3 => ?_
  refine s_app (sz := 12) (by_ := 56) (z := .agg (chgC (0, ⟨0, zMac, 0, 0, false⟩, false)).toArray) rfl (by decide) (ho.fr (hFd.trans hF3) fun _ _ h => h) hy.rd (by simp [chgC.one]) (by rw [List.length_map]; simp only [List.length_cons, List.length_nil]; omega) fun v4 w4 ho4 hb4 hF4 => ?_
  simp only [push_cast, Nat.reduceAdd, Nat.reduceLeDiff, Nat.reduceLT, Int.reduceToNat, Nat.left_eq_add, Nat.add_eq_left, Nat.add_left_cancel_iff, Nat.reduceEqDiff, Nat.add_assoc, Nat.succ_ne_zero]
  rw [wrap_i64 (x := (i : Int) + 1) (by omega)]
  refine hX (n - 1) _ _ _ (by omega) ⟨i + 1, cs ++ [(_, st[i].1, st[i].2)], by simp, by omega, ?_, by rw [List.map_append]; exact ho4, ((hF.trans hFd).trans hF3).trans_new hF4 fun b hb e => by have := hN _ e; omega, fun b hb => ?_⟩
  · rw [List.map_append, hcs, List.take_succ_eq_append_getElem hil]; rfl
  · rcases hb4 with hb4 | hb4
    · exact hN b (hb4 ▸ hb)
    · have := hb4 b hb; have := ((hF.trans hFd).trans hF3).size; omega

theorem find_spec {v : Value} {l : List Ent} {x : Ent} (hv : RdE 10 w v (l.map Ent.cells)) (hlo : ∀ e ∈ l, e.ok) (hx : x.ok) (hn : l.length < 2 ^ 62)
    (h0 : (∀ e ∈ l, eKey e ≠ eKey x) → ∀ w', Fr none_ w w' → K (.tuple #[.agg (Ent.cells ⟨0, zMac, 0, 0, false⟩).toArray, .bool false]) w')
    (h1 : ∀ e ∈ l, eKey e = eKey x → ∀ w', Fr none_ w w' → K (.tuple #[.agg e.cells.toArray, .bool true]) w') : CallsR Try.prog 22 #[v, .agg x.cells.toArray] K w := by
  apply c22
  unfold p22
  obtain ⟨a, c, rfl⟩ := hv.form
  rw [List.length_map] at hv ⊢
  rw [opS_box]
  show opS Try.prog (S.alloc 36) _ (w.alloc (cellsO x.cells 36))
  rw [zalloc_ent, size_alloc]
  have hF1 : Fr none_ w ((w.alloc (cellsO x.cells 36)).alloc (cellsO (Ent.cells ⟨0, zMac, 0, 0, false⟩) 36)) := (by repeat' first | with_reducible exact Fr.refl _ _ | with_reducible refine Fr.step_alloc ?_ ?_ | with_reducible refine Fr.step_drew ?_ | with_reducible refine Fr.step_wr ?_ ?_ _ _ | exact rfl | exact Or.inr (by omega) | exact Or.inl rfl | exact Or.inl (Or.inl rfl) | exact Or.inl (Or.inr rfl))
  have hx1 : ((w.alloc (cellsO x.cells 36)).alloc (cellsO (Ent.cells ⟨0, zMac, 0, 0, false⟩) 36)).heap[w.heap.size]? = some (cellsO x.cells 36) := by simp only [push_cast, Nat.reduceAdd, Nat.reduceLeDiff, Nat.reduceLT, Int.reduceToNat, Nat.left_eq_add, Nat.add_eq_left, Nat.add_left_cancel_iff, Nat.reduceEqDiff, Nat.add_assoc, Nat.succ_ne_zero]
  have hz1 : ((w.alloc (cellsO x.cells 36)).alloc (cellsO (Ent.cells ⟨0, zMac, 0, 0, false⟩) 36)).heap[w.heap.size + 1]? = some (cellsO (Ent.cells ⟨0, zMac, 0, 0, false⟩) 36) := by simp only [push_cast, Nat.reduceAdd, Nat.reduceLeDiff, Nat.reduceLT, Int.reduceToNat, Nat.left_eq_add, Nat.add_eq_left, Nat.add_left_cancel_iff, Nat.reduceEqDiff, Nat.add_assoc, Nat.succ_ne_zero]
  generalize (w.alloc (cellsO x.cells 36)).alloc (cellsO (Ent.cells ⟨0, zMac, 0, 0, false⟩) 36) = w1 at *
  refine jn0 (fun w' => Fr none_ w1 w' ∧ ∀ e ∈ l, eKey e ≠ eKey x) ?_ fun j hj => ?_
  · rintro w2 ⟨hF2, hno⟩
    have hz2 := hF2.heap hz1 fun h => h
    rw [build_zent, s_stA _ _ _ (Ent.cells_length _) (Ent.cells_one _)]
    simp only [push_cast, Nat.reduceAdd, Nat.reduceLeDiff, Nat.reduceLT, Int.reduceToNat, Nat.left_eq_add, Nat.add_eq_left, Nat.add_left_cancel_iff, Nat.reduceEqDiff, Nat.add_assoc, Nat.succ_ne_zero, hz2]
    exact h0 hno _ ((hF1.trans hF2).step_wr (.inr (by omega)) _ _)
  refine loop1 (fun n y w' => ∃ i : Nat, y = i64 i ∧ n + i = l.length ∧ Fr none_ w1 w' ∧ ∀ k (h : k < l.length), k < i → eKey l[k] ≠ eKey x) ?_ l.length ⟨0, rfl, rfl, Fr.refl _ _, fun _ _ h => by omega⟩
  rintro n y w2 X ⟨i, rfl, hi, hF2, hno⟩ hX
  simp only [push_cast, Nat.reduceAdd, Nat.reduceLeDiff, Nat.reduceLT, Int.reduceToNat, Nat.left_eq_add, Nat.add_eq_left, Nat.add_left_cancel_iff, Nat.reduceEqDiff, Nat.add_assoc, Nat.succ_ne_zero]
  refine br_dec (fun hlt => ?_) fun hge => hj _ ⟨hF2, fun e he => ?_⟩
  case refine_2 =>
    obtain ⟨k, hk, rfl⟩ := List.getElem_of_mem he
    exact hno k hk (by omega)
  have hil : i < l.length := by omega
  have hok := hlo _ (List.getElem_mem hil)
  have hFd : Fr none_ w1 w2.drew := hF2.step_drew
  generalize w2.drew = wd at *
  have hxd := hFd.heap hx1 fun h => h
  have hzd := hFd.heap hz1 fun h => h
  have hrd := hv.fr (hF1.trans hFd) fun _ _ h => h
  have hgo : eKey l[i] ≠ eKey x → X (i64 ((i : Int) + 1)) wd := fun hp => hX (n - 1) _ _ (by omega) ⟨i + 1, by simp, by omega, hFd, fun k h hk => by
    rcases Nat.lt_or_ge k i with h1 | h1
    · exact hno k h h1
    · have : k = i := by omega
      subst this
      exact hp⟩
  refine s_iaE hrd (by omega) (by simpa using hil) fun b o c _ he => ?_
  simp only [Int.toNat_natCast, List.getElem_map] at he ⊢
  have hv := he.cell 0 (by simp [Ent.cells])
  rw [Nat.add_zero] at hv
  simp only [push_cast, Nat.reduceAdd, Nat.reduceLeDiff, Nat.reduceLT, Int.reduceToNat, Nat.left_eq_add, Nat.add_eq_left, Nat.add_left_cancel_iff, Nat.reduceEqDiff, Nat.add_assoc, Nat.succ_ne_zero, hv, hxd]
  refine br_intro (fun h2 => ?_) fun h2 => ?_
  case refine_2 =>
    rw [wrap_i64 (by omega)]
    refine hgo fun e => ?_
    unfold eKey at e
    simp only [Prod.mk.injEq] at e
    simp [e.1] at h2
  have h2 : l[i].vlan = x.vlan := by simpa using h2
  refine s_iaE hrd (by omega) (by simpa using hil) fun b o c _ he => ?_
  simp only [Int.toNat_natCast, List.getElem_map] at he ⊢
  have hm := he.agg 1 6 (by simp [Ent.cells])
  rw [Nat.add_assoc] at hm
  simp only [push_cast, Nat.reduceAdd, Nat.reduceLeDiff, Nat.reduceLT, Int.reduceToNat, Nat.left_eq_add, Nat.add_eq_left, Nat.add_left_cancel_iff, Nat.reduceEqDiff, Nat.add_assoc, Nat.succ_ne_zero, hm, hxd]
  refine s_eqG (MacT.enc (P := Try.prog) (T := 34) (d := 6) hok.2.1) (MacT.enc (P := Try.prog) (T := 34) (d := 6) hx.2.1) fun r hr => ?_
  rw [Mac.lits_inj] at hr
  simp only [push_cast, Nat.reduceAdd, Nat.reduceLeDiff, Nat.reduceLT, Int.reduceToNat, Nat.left_eq_add, Nat.add_eq_left, Nat.add_left_cancel_iff, Nat.reduceEqDiff, Nat.add_assoc, Nat.succ_ne_zero]
  refine br_intro (fun h3 => ?_) fun h3 => ?_
  · have h3 : l[i].mac = x.mac := hr.1 h3
    refine s_iaE hrd (by omega) (by simpa using hil) fun b o c _ he => ?_
    simp only [Int.toNat_natCast, List.getElem_map] at he ⊢
    rw [s_ldN (by decide), he.agg0 (Ent.cells_length _), onS_some, s_stA _ _ _ (Ent.cells_length _) (Ent.cells_one _)]
    simp only [push_cast, Nat.reduceAdd, Nat.reduceLeDiff, Nat.reduceLT, Int.reduceToNat, Nat.left_eq_add, Nat.add_eq_left, Nat.add_left_cancel_iff, Nat.reduceEqDiff, Nat.add_assoc, Nat.succ_ne_zero, hzd]
    exact h1 _ (List.getElem_mem hil) (by unfold eKey; rw [h2, h3]) _ ((hF1.trans hFd).step_wr (.inr (by omega)) _ _)
  · rw [wrap_i64 (by omega)]
    refine hgo fun e => ?_
    unfold eKey at e
    simp only [Prod.mk.injEq] at e
    rw [hr.2 e.2] at h3
    cases h3

end Go.Gx.S
