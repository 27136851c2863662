/- What changes make of entries: the document. -/
import Derived.Test.YtogbkljoganbhaaRep3T
import Derived.Test.YtogbkljoganbhaaRep1
import Derived.Test.YtogbkljoganbhaaRep2
import Derived.Test.YtogbkljoganbhaaBaseEnt
import Derived.Test.YtogbkljoganbhaaGxBuf
set_option linter.unusedVariables false
set_option linter.unusedSimpArgs false
set_option maxRecDepth 100000
namespace Go.Gx.S
open Go Go.Gx Go.Proofs
variable {K : Value → World → Prop} {w : World}

theorem esame_spec {a b : Value} {l r : List Ent} (ha : RdE 10 w a (l.map Ent.cells)) (hb : RdE 10 w b (r.map Ent.cells)) (hlo : ∀ e ∈ l, e.ok) (hro : ∀ e ∈ r, e.ok) (hn : l.length < 2 ^ 62) (h : ∀ w', Fr none_ w w' → K (.bool (decide (l = r))) w') :
    CallsR Try.prog 19 #[a, b] K w := by
  apply c19
  unfold p19
  obtain ⟨aa, ac, rfl⟩ := ha.form
  obtain ⟨ba, bc, rfl⟩ := hb.form
  rw [List.length_map] at ha hb ⊢
  rw [List.length_map]
  simp only [push_cast, Nat.reduceAdd, Nat.reduceLeDiff, Nat.reduceLT, Int.reduceToNat, Nat.left_eq_add, Nat.add_eq_left, Nat.add_left_cancel_iff, Nat.reduceEqDiff, Nat.add_assoc, Nat.succ_ne_zero]
  refine br_intro (fun hne => ?_) fun heq => ?_
  · have : l ≠ r := fun e => by subst e; simp at hne
    rw [decide_eq_false this] at h
    exact h _ (Fr.refl _ _)
  · have hl : l.length = r.length := by
      have : (l.length : Int) = r.length := by simpa using heq
      omega
    refine jn0 (fun w' => Fr none_ w w' ∧ l = r) (fun w' ⟨hF, e⟩ => ?_) fun j hj => ?_
    · rw [decide_eq_true e] at h
      exact h _ hF
    refine loop1 (fun m v w' => ∃ i : Nat, v = i64 i ∧ i + m = l.length ∧ Fr none_ w w' ∧ l.take i = r.take i) ?_ l.length ⟨0, rfl, by omega, Fr.refl _ _, rfl⟩
    rintro m v w' X ⟨i, rfl, hi, hF, htk⟩ hX
    simp only [push_cast, Nat.reduceAdd, Nat.reduceLeDiff, Nat.reduceLT, Int.reduceToNat, Nat.left_eq_add, Nat.add_eq_left, Nat.add_left_cancel_iff, Nat.reduceEqDiff, Nat.add_assoc, Nat.succ_ne_zero]
    refine br_dec (fun hlt => ?_) fun hge => hj _ ⟨hF, ?_⟩
    · have hi2 : i < l.length := by omega
      have hi3 : i < r.length := by omega
      refine s_iaE (es := l.map Ent.cells) (ha.fr hF.step_drew (fun _ _ h => h)) (by omega) (by simpa using hi2) fun b1 o1 c1 _ hE => ?_
      simp only [Int.toNat_natCast, List.getElem_map] at hE ⊢
      rw [s_ldN (by decide), hE.agg0 (Ent.cells_length _), onS_some]
      refine s_iaE (es := r.map Ent.cells) (hb.fr hF.step_drew (fun _ _ h => h)) (by omega) (by simpa using hi3) fun b2 o2 c2 _ hE2 => ?_
      simp only [Int.toNat_natCast, List.getElem_map] at hE2 ⊢
      rw [s_ldN (by decide), hE2.agg0 (Ent.cells_length _), onS_some]
      refine s_neqG (EntT.enc (d := 5) (hlo _ (List.getElem_mem hi2))) (EntT.enc (d := 5) (hro _ (List.getElem_mem hi3))) fun q hq => ?_
      rw [Ent.lits_inj] at hq
      simp only [push_cast, Nat.reduceAdd, Nat.reduceLeDiff, Nat.reduceLT, Int.reduceToNat, Nat.left_eq_add, Nat.add_eq_left, Nat.add_left_cancel_iff, Nat.reduceEqDiff, Nat.add_assoc, Nat.succ_ne_zero]
      refine br_intro (fun hd => ?_) fun hd => ?_
      · have hne : l[i] ≠ r[i] := fun e => by rw [hq.2 e] at hd; cases hd
        have : l ≠ r := fun e => by subst e; exact hne rfl
        rw [decide_eq_false this] at h
        exact h _ hF.step_drew
      · have he : l[i] = r[i] := hq.1 (by simpa using hd)
        rw [wrap_i64 (by omega)]
        refine hX (m - 1) _ _ (by omega) ⟨i + 1, by simp, by omega, hF.step_drew, ?_⟩
        rw [List.take_add_one, List.take_add_one, htk, List.getElem?_eq_getElem hi2, List.getElem?_eq_getElem hi3, he]
    · rw [List.take_of_length_le (by omega), List.take_of_length_le (by omega)] at htk
      exact htk

theorem rwithout_spec {lv : Value} {l : List Ent} {x : Ent} (hl : RdE 10 w lv (l.map Ent.cells)) (hlo : ∀ e ∈ l, e.ok) (hx : x.ok) (hn : l.length ≤ 2 ^ 20) (h : ∀ v w', OwnE 36 10 w' v ((withoutL l x).map Ent.cells) → Fr none_ w w' → New w v → K v w') :
    CallsR Try.prog 31 #[lv, .agg x.cells.toArray] K w := by
  apply c31
  unfold p31
  obtain ⟨la, lc, rfl⟩ := hl.form
  rw [List.length_map] at hl ⊢
  simp only [push_cast, Nat.reduceAdd, Nat.reduceLeDiff, Nat.reduceLT, Int.reduceToNat, Nat.left_eq_add, Nat.add_eq_left, Nat.add_left_cancel_iff, Nat.reduceEqDiff, Nat.add_assoc, Nat.succ_ne_zero]
  have hF0 : Fr none_ w (w.alloc (cellsO x.cells 36)) := (by repeat' first | with_reducible exact Fr.refl _ _ | with_reducible refine Fr.step_alloc ?_ ?_ | with_reducible refine Fr.step_drew ?_ | with_reducible refine Fr.step_wr ?_ ?_ _ _ | exact rfl | exact Or.inr (by omega) | exact Or.inl rfl | exact Or.inl (Or.inl rfl) | exact Or.inl (Or.inr rfl))
  have hx0 : (w.alloc (cellsO x.cells 36)).heap[w.heap.size]? = some (cellsO x.cells 36) := by simp only [push_cast, Nat.reduceAdd, Nat.reduceLeDiff, Nat.reduceLT, Int.reduceToNat, Nat.left_eq_add, Nat.add_eq_left, Nat.add_left_cancel_iff, Nat.reduceEqDiff, Nat.add_assoc, Nat.succ_ne_zero]
  generalize w.alloc (cellsO x.cells 36) = w0 at *
  refine jn1 (fun v w' => OwnE 36 10 w' v ((withoutL l x).map Ent.cells) ∧ Fr none_ w w' ∧ New w0 v) (fun v w' ⟨h1, h2, h3⟩ => h v w' h1 h2 fun b hb => Nat.le_trans hF0.size (h3 b hb)) fun j hj => ?_
  refine loop2 (fun n v y w' => ∃ i : Nat, y = i64 i ∧ n + i = l.length ∧ OwnE 36 10 w' v ((withoutL (l.take i) x).map Ent.cells) ∧ Fr none_ w0 w' ∧ New w0 v) ?_ l.length ⟨0, rfl, rfl, own_nil _ _ _, Fr.refl _ _, fun b hb => by cases hb⟩
  rintro n v y w1 X ⟨i, rfl, hi, ho, hF1, hN⟩ hX
  simp only [push_cast, Nat.reduceAdd, Nat.reduceLeDiff, Nat.reduceLT, Int.reduceToNat, Nat.left_eq_add, Nat.add_eq_left, Nat.add_left_cancel_iff, Nat.reduceEqDiff, Nat.add_assoc, Nat.succ_ne_zero]
  refine br_dec (fun hlt => ?_) fun hge => ?_
  case refine_2 =>
    have : i = l.length := by omega
    subst this
    rw [List.take_length] at ho
    exact hj _ _ ⟨ho, hF0.trans hF1, hN⟩
  have hil : i < l.length := by omega
  have htk : withoutL (l.take (i + 1)) x = withoutL (l.take i) x ++ if eKey l[i] ≠ eKey x then [l[i]] else [] := by
    unfold withoutL
    rw [List.take_succ_eq_append_getElem hil, List.filter_append]
    congr 1
    by_cases e : eKey l[i] ≠ eKey x <;> simp [e]
  have hok := hlo _ (List.getElem_mem hil)
  have hrd : ∀ w', Fr none_ w1 w' → RdE 10 w' (.slice la l.length lc) (l.map Ent.cells) := fun w' hF => hl.fr ((hF0.trans hF1).trans hF) fun _ _ h => h
  have hwl := without_len (l.take i) x
  rw [List.length_take] at hwl
  refine jn0 (fun w' => Fr none_ w1 w' ∧ eKey l[i] ≠ eKey x) ?_ fun j2 hj2 => ?_
  · rintro w2 ⟨hF2, hk⟩
    rw [if_pos hk] at htk
    refine s_iaE (hrd _ hF2) (by omega) (by simpa using hil) fun b o c _ he => ?_
    simp only [Int.toNat_natCast, List.getElem_map] at he ⊢
    rw [s_ldN (by decide), he.agg0 (Ent.cells_length _), onS_some]
    refine s_bs1 (sz := 10) (z := .agg (Ent.cells ⟨0, zMac, 0, 0, false⟩).toArray) (Ent.cells_length _) rfl (by decide) (by decide) fun y w3 hy hF3 hN3 => ?_
    refine s_app (sz := 10) (by_ := 40) (z := .agg (Ent.cells ⟨0, zMac, 0, 0, false⟩).toArray) rfl (by decide) (ho.fr (hF2.trans hF3) fun _ _ h => h) hy.rd (by simp [Ent.cells_one]) (by rw [List.length_map]; simp only [List.length_cons, List.length_nil]; omega) fun v4 w4 ho4 hb4 hF4 => ?_
    simp only [push_cast, Nat.reduceAdd, Nat.reduceLeDiff, Nat.reduceLT, Int.reduceToNat, Nat.left_eq_add, Nat.add_eq_left, Nat.add_left_cancel_iff, Nat.reduceEqDiff, Nat.add_assoc, Nat.succ_ne_zero]
    rw [wrap_i64 (by omega)]
    have hF04 : Fr none_ w0 w4 := ((hF1.trans hF2).trans hF3).trans_new hF4 fun b hb e => by have := hN _ e; omega
    refine hX (n - 1) _ _ _ (by omega) ⟨i + 1, by simp, by omega, by rw [htk, List.map_append]; exact ho4, hF04, fun b hb => ?_⟩
    rcases hb4 with hb4 | hb4
    · exact hN b (hb4 ▸ hb)
    · have := hb4 b hb; have := ((hF1.trans hF2).trans hF3).size; omega
  · simp only [drw_eq]
    have hFd : Fr none_ w1 w1.drew := Fr.drew _
    have hxd : w1.drew.heap[w.heap.size]? = some (cellsO x.cells 36) := (hF1.trans hFd).heap hx0 fun h => h
    generalize w1.drew = wd at *
    refine s_iaE (hrd _ hFd) (by omega) (by simpa using hil) fun b o c _ he => ?_
    simp only [Int.toNat_natCast, List.getElem_map] at he ⊢
    have hv := he.cell 0 (by simp [Ent.cells])
    rw [Nat.add_zero] at hv
    simp only [push_cast, Nat.reduceAdd, Nat.reduceLeDiff, Nat.reduceLT, Int.reduceToNat, Nat.left_eq_add, Nat.add_eq_left, Nat.add_left_cancel_iff, Nat.reduceEqDiff, Nat.add_assoc, Nat.succ_ne_zero, hv, hxd]
    refine br_intro (fun e => hj2 _ ⟨hFd, fun h2 => ?_⟩) fun e => ?_
    · unfold eKey at h2
      simp only [Prod.mk.injEq] at h2
      rw [h2.1] at e
      simp at e
    have hvl : l[i].vlan = x.vlan := by simpa using e
    refine s_iaE (hrd _ hFd) (by omega) (by simpa using hil) fun b o c _ he => ?_
    simp only [Int.toNat_natCast, List.getElem_map] at he ⊢
    have hm := he.agg 1 6 (by simp [Ent.cells])
    rw [Nat.add_assoc] at hm
    simp only [push_cast, Nat.reduceAdd, Nat.reduceLeDiff, Nat.reduceLT, Int.reduceToNat, Nat.left_eq_add, Nat.add_eq_left, Nat.add_left_cancel_iff, Nat.reduceEqDiff, Nat.add_assoc, Nat.succ_ne_zero, hm, hxd]
    refine s_neqG (MacT.enc (P := Try.prog) (T := 34) (d := 6) hok.2.1) (MacT.enc (P := Try.prog) (T := 34) (d := 6) hx.2.1) fun r hr => ?_
    rw [Mac.lits_inj] at hr
    simp only [push_cast, Nat.reduceAdd, Nat.reduceLeDiff, Nat.reduceLT, Int.reduceToNat, Nat.left_eq_add, Nat.add_eq_left, Nat.add_left_cancel_iff, Nat.reduceEqDiff, Nat.add_assoc, Nat.succ_ne_zero]
    refine br_intro (fun e => hj2 _ ⟨hFd, fun h2 => ?_⟩) fun e => ?_
    · unfold eKey at h2
      simp only [Prod.mk.injEq] at h2
      rw [hr.2 h2.2] at e
      cases e
    have hml : l[i].mac = x.mac := hr.1 (by simpa using e)
    rw [wrap_i64 (by omega)]
    have hk : ¬ eKey l[i] ≠ eKey x := fun h2 => h2 (by unfold eKey; rw [hvl, hml])
    rw [if_neg hk, List.append_nil] at htk
    exact hX (n - 1) _ _ _ (by omega) ⟨i + 1, by simp, by omega, by rw [htk]; exact ho.fr hFd fun _ _ h => h, hF1.trans hFd, hN⟩

theorem while_eq {p : Ent → Bool} : ∀ {l : List Ent} {k : Nat}, (∀ i (h : i < l.length), i < k → p l[i] = true) → (∀ h : k < l.length, p l[k] = false) → k ≤ l.length → l.takeWhile p = l.take k ∧ l.dropWhile p = l.drop k
  | [], k, _, _, hk => by
    have : k = 0 := by simpa using hk
    subst this; exact ⟨rfl, rfl⟩
  | a :: l, 0, _, h2, _ => by
    have := h2 (by simp)
    simp only [List.getElem_cons_zero] at this
    simp [List.takeWhile_cons, List.dropWhile_cons, this]
  | a :: l, k + 1, h1, h2, hk => by
    have ha := h1 0 (by simp) (by omega)
    simp only [List.getElem_cons_zero] at ha
    have ih := while_eq (p := p) (l := l) (k := k) (fun i h hi => by have := h1 (i + 1) (by simpa using h) (by omega); simpa using this) (fun h => by have := h2 (by simpa using h); simpa using this) (by simpa using hk)
    simp [List.takeWhile_cons, List.dropWhile_cons, ha, ih.1, ih.2]

theorem ents_one (l : List Ent) : (l.map Ent.cells).flatten.all S.oneCell = true := by
  rw [List.all_eq_true]
  intro v hv
  obtain ⟨e, he, hv⟩ := List.mem_flatten.1 hv
  obtain ⟨y, _, rfl⟩ := List.mem_map.1 he
  exact List.all_eq_true.1 (Ent.cells_one y) v hv
theorem ent_one' {l : List Ent} (k : Nat) : ((l.map Ent.cells).take k).flatten.all S.oneCell = true := by rw [← List.map_take]; exact ents_one _
theorem ent_one2 {l : List Ent} (k : Nat) : ((l.map Ent.cells).drop k).flatten.all S.oneCell = true := by rw [← List.map_drop]; exact ents_one _

theorem rwith_spec {lv : Value} {l : List Ent} {x : Ent} (hl : RdE 10 w lv (l.map Ent.cells)) (hlo : ∀ e ∈ l, e.ok) (hx : x.ok) (hn : l.length ≤ 2 ^ 20) (h : ∀ v w', OwnE 36 10 w' v ((withL l x).map Ent.cells) → Fr none_ w w' → New w v → K v w') :
    CallsR Try.prog 30 #[lv, .agg x.cells.toArray] K w := by
  apply c30
  unfold p30
  simp only [push_cast, Nat.reduceAdd, Nat.reduceLeDiff, Nat.reduceLT, Int.reduceToNat, Nat.left_eq_add, Nat.add_eq_left, Nat.add_left_cancel_iff, Nat.reduceEqDiff, Nat.add_assoc, Nat.succ_ne_zero]
  have hF0 : Fr none_ w (w.alloc (cellsO x.cells 36)) := (by repeat' first | with_reducible exact Fr.refl _ _ | with_reducible refine Fr.step_alloc ?_ ?_ | with_reducible refine Fr.step_drew ?_ | with_reducible refine Fr.step_wr ?_ ?_ _ _ | exact rfl | exact Or.inr (by omega) | exact Or.inl rfl | exact Or.inl (Or.inl rfl) | exact Or.inl (Or.inr rfl))
  have hx0 : (w.alloc (cellsO x.cells 36)).heap[w.heap.size]? = some (cellsO x.cells 36) := by simp only [push_cast, Nat.reduceAdd, Nat.reduceLeDiff, Nat.reduceLT, Int.reduceToNat, Nat.left_eq_add, Nat.add_eq_left, Nat.add_left_cancel_iff, Nat.reduceEqDiff, Nat.add_assoc, Nat.succ_ne_zero]
  generalize w.alloc (cellsO x.cells 36) = w0 at *
  refine rwithout_spec (hl.fr hF0 fun _ _ h => h) hlo hx hn fun v1 w1 ho1 hF1 hN1 => ?_
  replace hx0 := hF1.heap hx0 fun h => h
  replace hF0 := hF0.trans hF1
  have hwlen := without_len l x
  have hwok : ∀ e ∈ withoutL l x, e.ok := fun e he => hlo e (mem_without.1 he).1
  have hdef : withL l x = (withoutL l x).takeWhile (fun e => decide (ltE e x)) ++ x :: (withoutL l x).dropWhile (fun e => decide (ltE e x)) := rfl
  rw [hdef] at h
  generalize withoutL l x = q at *
  obtain ⟨qa, qc, hqe⟩ := ho1.rd.form
  rw [List.length_map] at hqe
  subst hqe
  have hq := ho1.rd
  refine jn1 (fun y w' => ∃ k : Nat, y = i64 k ∧ k ≤ q.length ∧ (∀ i (h : i < q.length), i < k → decide (ltE q[i] x) = true) ∧ (∀ h : k < q.length, decide (ltE q[k] x) = false) ∧ Fr none_ w1 w') ?_ fun j hj => ?_
  · rintro y w2 ⟨k, rfl, hk, hk1, hk2, hF2⟩
    obtain ⟨e1, e2⟩ := while_eq (p := fun e => decide (ltE e x)) hk1 hk2 hk
    rw [e1, e2] at h
    refine s_bs0 (sz := 10) fun v3 w3 ho3 hF3 hN3 => ?_
    have hq3 := hq.fr (hF2.trans hF3) fun _ _ h => h
    refine s_slcH hq3 (by rw [List.length_map]; exact hk) fun v4 h4 => ?_
    refine s_app (sz := 10) (by_ := 40) (z := .agg (Ent.cells ⟨0, zMac, 0, 0, false⟩).toArray) rfl (by decide) ho3 h4 (ent_one' _) (by simp; omega) fun v5 w5 ho5 hb5 hF5 => ?_
    have hF5' : Fr none_ w2 w5 := hF3.trans_new hF5 fun b hb e => by have := hN3 _ e; omega
    have hx5 := (hF2.trans hF5').heap hx0 fun h => h
    simp only [push_cast, Nat.reduceAdd, Nat.reduceLeDiff, Nat.reduceLT, Int.reduceToNat, Nat.left_eq_add, Nat.add_eq_left, Nat.add_left_cancel_iff, Nat.reduceEqDiff, Nat.add_assoc, Nat.succ_ne_zero, hx5]
    refine s_bs1 (sz := 10) (z := .agg (Ent.cells ⟨0, zMac, 0, 0, false⟩).toArray) (Ent.cells_length _) rfl (by decide) (by decide) fun y w6 hy hF6 hN6 => ?_
    refine s_app (sz := 10) (by_ := 40) (z := .agg (Ent.cells ⟨0, zMac, 0, 0, false⟩).toArray) rfl (by decide) (ho5.fr hF6 fun _ _ h => h) hy.rd (by simp [Ent.cells_one]) (by simp; omega) fun v7 w7 ho7 hb7 hF7 => ?_
    have hN5 : New w2 v5 := fun b hb => by
      rcases hb5 with hb5 | hb5
      · exact hN3 b (hb5 ▸ hb)
      · have := hb5 b hb; have := hF3.size; omega
    have hF7' : Fr none_ w2 w7 := (hF5'.trans hF6).trans_new hF7 fun b hb e => by have := hN5 _ e; omega
    have hN7 : New w2 v7 := fun b hb => by
      rcases hb7 with hb7 | hb7
      · exact hN5 b (hb7 ▸ hb)
      · have := hb7 b hb; have := (hF5'.trans hF6).size; omega
    refine s_slcL (hq.fr (hF2.trans hF7') fun _ _ h => h) (by rw [List.length_map]; exact hk) fun v8 h8 => ?_
    refine s_app (sz := 10) (by_ := 40) (z := .agg (Ent.cells ⟨0, zMac, 0, 0, false⟩).toArray) rfl (by decide) ho7 h8 (ent_one2 _) (by simp; omega) fun v9 w9 ho9 hb9 hF9 => ?_
    refine h v9 w9 ?_ (((hF0.trans hF2).trans hF7').trans_new hF9 fun b hb e => by have := hN7 _ e; have := (hF0.trans hF2).size; omega) fun b hb => ?_
    · rw [List.map_append, List.map_cons, List.map_take, List.map_drop]
      simpa using ho9
    · have hsz := (hF0.trans hF2).size
      rcases hb9 with hb9 | hb9
      · have := hN7 b (hb9 ▸ hb); omega
      · have := hb9 b hb; have := hF7'.size; omega
  · refine loop1 (fun n y w' => ∃ k : Nat, y = i64 k ∧ n + k = q.length ∧ (∀ i (h : i < q.length), i < k → decide (ltE q[i] x) = true) ∧ Fr none_ w1 w') ?_ q.length ⟨0, rfl, rfl, fun _ _ h => by omega, Fr.refl _ _⟩
    rintro n y w2 X ⟨k, rfl, hi, hk, hF2⟩ hX
    simp only [push_cast, Nat.reduceAdd, Nat.reduceLeDiff, Nat.reduceLT, Int.reduceToNat, Nat.left_eq_add, Nat.add_eq_left, Nat.add_left_cancel_iff, Nat.reduceEqDiff, Nat.add_assoc, Nat.succ_ne_zero]
    have hFd : Fr none_ w1 w2.drew := hF2.step_drew
    have hxd := hFd.heap hx0 fun h => h
    have hqd := hq.fr hFd fun _ _ h => h
    generalize w2.drew = wd at *
    refine br_dec (fun hlt => ?_) fun hge => hj _ _ ⟨k, rfl, by omega, hk, fun h => by omega, hFd⟩
    have hkl : k < q.length := by omega
    have hok := hwok _ (List.getElem_mem hkl)
    have hend : ¬ ltE q[k] x → ∀ w', Fr none_ w1 w' → j (i64 k) w' := fun hn w' hF => hj _ _ ⟨k, rfl, by omega, hk, fun h => decide_eq_false hn, hF⟩
    have hgo : ltE q[k] x → ∀ w', Fr none_ w1 w' → X (i64 ((k : Int) + 1)) w' := fun hp w' hF => hX (n - 1) _ _ (by omega) ⟨k + 1, by simp, by omega, fun i h hi => by
      rcases Nat.lt_or_ge i k with h1 | h1
      · exact hk i h h1
      · have : i = k := by omega
        subst this
        exact decide_eq_true hp, hF⟩
    refine s_iaE hqd (by omega) (by simpa using hkl) fun b o c _ he => ?_
    simp only [Int.toNat_natCast, List.getElem_map] at he ⊢
    have hv := he.cell 0 (by simp [Ent.cells])
    rw [Nat.add_zero] at hv
    simp only [push_cast, Nat.reduceAdd, Nat.reduceLeDiff, Nat.reduceLT, Int.reduceToNat, Nat.left_eq_add, Nat.add_eq_left, Nat.add_left_cancel_iff, Nat.reduceEqDiff, Nat.add_assoc, Nat.succ_ne_zero, hv, hxd]
    refine br_dec (fun h1 => ?_) fun h1 => ?_
    · rw [wrap_i64 (by omega)]
      exact hgo (.inl h1) _ hFd
    refine s_iaE hqd (by omega) (by simpa using hkl) fun b o c _ he => ?_
    simp only [Int.toNat_natCast, List.getElem_map] at he ⊢
    have hv := he.cell 0 (by simp [Ent.cells])
    rw [Nat.add_zero] at hv
    simp only [push_cast, Nat.reduceAdd, Nat.reduceLeDiff, Nat.reduceLT, Int.reduceToNat, Nat.left_eq_add, Nat.add_eq_left, Nat.add_left_cancel_iff, Nat.reduceEqDiff, Nat.add_assoc, Nat.succ_ne_zero, hv, hxd]
    refine br_intro (fun h2 => ?_) fun h2 => ?_
    case refine_2 =>
      refine hend (fun hl => ?_) _ hFd
      rcases hl with hl | hl
      · exact h1 hl
      · simp [hl.1] at h2
    have h2 : q[k].vlan = x.vlan := by simpa using h2
    refine s_iaE hqd (by omega) (by simpa using hkl) fun b o c _ he => ?_
    simp only [Int.toNat_natCast, List.getElem_map] at he ⊢
    have hm := he.agg 1 6 (by simp [Ent.cells])
    rw [Nat.add_assoc] at hm
    simp only [push_cast, Nat.reduceAdd, Nat.reduceLeDiff, Nat.reduceLT, Int.reduceToNat, Nat.left_eq_add, Nat.add_eq_left, Nat.add_left_cancel_iff, Nat.reduceEqDiff, Nat.add_assoc, Nat.succ_ne_zero, hm, hxd]
    refine rcmp_spec hok.2.1 hx.2.1 fun w3 hF3 => ?_
    simp only [push_cast, Nat.reduceAdd, Nat.reduceLeDiff, Nat.reduceLT, Int.reduceToNat, Nat.left_eq_add, Nat.add_eq_left, Nat.add_left_cancel_iff, Nat.reduceEqDiff, Nat.add_assoc, Nat.succ_ne_zero]
    have hcm : cmpM q[k].mac x.mac < 0 ↔ macN q[k].mac < macN x.mac := by unfold cmpM; exact cmpI_lt
    refine br_dec (fun h3 => ?_) fun h3 => ?_
    · rw [wrap_i64 (by omega)]
      exact hgo (.inr ⟨h2, hcm.1 h3⟩) _ (hFd.trans hF3)
    · refine hend (fun hl => ?_) _ (hFd.trans hF3)
      rcases hl with hl | hl
      · exact h1 hl
      · exact h3 (hcm.2 hl.2)

theorem rreplay_spec {lv cv : Value} {l : List Ent} {cs : List (Int × Ent × Bool)} (hl : RdE 10 w lv (l.map Ent.cells)) (hc : RdE 12 w cv (cs.map chgC)) (hlo : ∀ e ∈ l, e.ok) (hco : ∀ c ∈ cs, c.2.1.ok) (hll : l.length ≤ 2 ^ 19) (hcl : cs.length ≤ 2 ^ 19)
    (h : ∀ v w', OwnE 36 10 w' v ((replayL l (cs.map Prod.snd)).map Ent.cells) → Fr none_ w w' → New w v → K v w') : CallsR Try.prog 21 #[lv, cv] K w := by
  apply c21
  unfold p21
  obtain ⟨la, lc, rfl⟩ := hl.form
  obtain ⟨ca, cc, rfl⟩ := hc.form
  rw [List.length_map] at hl hc ⊢
  rw [List.length_map]
  refine jn1 (fun y w' => OwnE 36 10 w' y ((l.foldl withL []).map Ent.cells) ∧ Fr none_ w w' ∧ New w y) ?_ fun j hj => ?_
  · rintro y w1 ⟨ho1, hF1, hN1⟩
    refine jn1 (fun y w' => OwnE 36 10 w' y ((replayL l (cs.map Prod.snd)).map Ent.cells) ∧ Fr none_ w w' ∧ New w y) (fun y w' ⟨h1, h2, h3⟩ => h y w' h1 h2 h3) fun j hj => ?_
    refine loop2 (fun n y x w' => ∃ i : Nat, x = i64 i ∧ n + i = cs.length ∧ OwnE 36 10 w' y ((((cs.map Prod.snd).take i).foldl chL (l.foldl withL [])).map Ent.cells) ∧ Fr none_ w w' ∧ New w y) ?_ cs.length ⟨0, rfl, rfl, ho1, hF1, hN1⟩
    rintro n y x w2 X ⟨i, rfl, hi, ho, hF, hN⟩ hX
    simp only [push_cast, Nat.reduceAdd, Nat.reduceLeDiff, Nat.reduceLT, Int.reduceToNat, Nat.left_eq_add, Nat.add_eq_left, Nat.add_left_cancel_iff, Nat.reduceEqDiff, Nat.add_assoc, Nat.succ_ne_zero]
    refine br_dec (fun hlt => ?_) fun hge => ?_
    case refine_2 =>
      have : i = cs.length := by omega
      subst this
      rw [List.take_of_length_le (by rw [List.length_map]; omega)] at ho
      exact hj _ _ ⟨ho, hF, hN⟩
    have hil : i < cs.length := by omega
    have hcr := hc.fr hF fun _ _ h => h
    have hcok := hco _ (List.getElem_mem hil)
    have htk : (cs.map Prod.snd).take (i + 1) = (cs.map Prod.snd).take i ++ [cs[i].2] := by
      rw [List.take_succ_eq_append_getElem (by rw [List.length_map]; exact hil), List.getElem_map]
    have hch : ((cs.map Prod.snd).take (i + 1)).foldl chL (l.foldl withL []) = chL (((cs.map Prod.snd).take i).foldl chL (l.foldl withL [])) cs[i].2 := by rw [htk, List.foldl_append]; rfl
    have hgok : ∀ e ∈ ((cs.map Prod.snd).take i).foldl chL (l.foldl withL []), e.ok := (Srt.chs (Srt.nil.ents hlo) fun c hc => by
      obtain ⟨d, hd, rfl⟩ := List.mem_map.1 (List.mem_of_mem_take hc)
      exact hco d hd).2
    have hglen : (((cs.map Prod.snd).take i).foldl chL (l.foldl withL [])).length ≤ 2 ^ 20 := by
      have h1 := chs_len ((cs.map Prod.snd).take i) (l.foldl withL [])
      have h2 := ents_len l []
      rw [List.length_take, List.length_map] at h1
      simp only [List.length_nil] at h2
      omega
    generalize ((cs.map Prod.snd).take i).foldl chL (l.foldl withL []) = g at *
    refine s_iaE hcr (by omega) (by simpa using hil) fun b o c _ he => ?_
    simp only [Int.toNat_natCast, List.getElem_map] at he ⊢
    have hg := he.cell 11 (by rw [chgC.len]; decide)
    rw [Nat.add_assoc] at hg
    simp only [push_cast, Nat.reduceAdd, Nat.reduceLeDiff, Nat.reduceLT, Int.reduceToNat, Nat.left_eq_add, Nat.add_eq_left, Nat.add_left_cancel_iff, Nat.reduceEqDiff, Nat.add_assoc, Nat.succ_ne_zero, hg]
    refine br_intro (fun hg => ?_) fun hg => ?_
    · refine s_iaE hcr (by omega) (by simpa using hil) fun b o c _ he => ?_
      simp only [Int.toNat_natCast, List.getElem_map] at he ⊢
      have ha := he.agg 1 10 (by rw [chgC.len]; decide)
      rw [Nat.add_assoc] at ha
      simp only [push_cast, Nat.reduceAdd, Nat.reduceLeDiff, Nat.reduceLT, Int.reduceToNat, Nat.left_eq_add, Nat.add_eq_left, Nat.add_left_cancel_iff, Nat.reduceEqDiff, Nat.add_assoc, Nat.succ_ne_zero, ha]
      refine rwithout_spec ho.rd hgok hcok hglen fun v w3 ho3 hF3 hN3 => ?_
      simp only [push_cast, Nat.reduceAdd, Nat.reduceLeDiff, Nat.reduceLT, Int.reduceToNat, Nat.left_eq_add, Nat.add_eq_left, Nat.add_left_cancel_iff, Nat.reduceEqDiff, Nat.add_assoc, Nat.succ_ne_zero]
      rw [wrap_i64 (by omega)]
      refine hX (n - 1) _ _ _ (by omega) ⟨i + 1, by simp, by omega, ?_, hF.trans hF3, fun b hb => Nat.le_trans hF.size (hN3 b hb)⟩
      rw [hch]; unfold chL; rw [if_pos hg]; exact ho3
    · refine s_iaE hcr (by omega) (by simpa using hil) fun b o c _ he => ?_
      simp only [Int.toNat_natCast, List.getElem_map] at he ⊢
      have ha := he.agg 1 10 (by rw [chgC.len]; decide)
      rw [Nat.add_assoc] at ha
      simp only [push_cast, Nat.reduceAdd, Nat.reduceLeDiff, Nat.reduceLT, Int.reduceToNat, Nat.left_eq_add, Nat.add_eq_left, Nat.add_left_cancel_iff, Nat.reduceEqDiff, Nat.add_assoc, Nat.succ_ne_zero, ha]
      refine rwith_spec ho.rd hgok hcok hglen fun v w3 ho3 hF3 hN3 => ?_
      simp only [push_cast, Nat.reduceAdd, Nat.reduceLeDiff, Nat.reduceLT, Int.reduceToNat, Nat.left_eq_add, Nat.add_eq_left, Nat.add_left_cancel_iff, Nat.reduceEqDiff, Nat.add_assoc, Nat.succ_ne_zero]
      rw [wrap_i64 (by omega)]
      refine hX (n - 1) _ _ _ (by omega) ⟨i + 1, by simp, by omega, ?_, hF.trans hF3, fun b hb => Nat.le_trans hF.size (hN3 b hb)⟩
      rw [hch]; unfold chL; rw [if_neg (by rw [hg]; simp)]; exact ho3
  · refine loop2 (fun n y x w' => ∃ i : Nat, x = i64 i ∧ n + i = l.length ∧ OwnE 36 10 w' y (((l.take i).foldl withL []).map Ent.cells) ∧ Fr none_ w w' ∧ New w y) ?_ l.length ⟨0, rfl, rfl, own_nil _ _ _, Fr.refl _ _, fun b hb => by cases hb⟩
    rintro n y x w2 X ⟨i, rfl, hi, ho, hF, hN⟩ hX
    simp only [push_cast, Nat.reduceAdd, Nat.reduceLeDiff, Nat.reduceLT, Int.reduceToNat, Nat.left_eq_add, Nat.add_eq_left, Nat.add_left_cancel_iff, Nat.reduceEqDiff, Nat.add_assoc, Nat.succ_ne_zero]
    refine br_dec (fun hlt => ?_) fun hge => ?_
    case refine_2 =>
      have : i = l.length := by omega
      subst this
      rw [List.take_length] at ho
      exact hj _ _ ⟨ho, hF, hN⟩
    have hil : i < l.length := by omega
    have hlr := hl.fr hF fun _ _ h => h
    have hcok := hlo _ (List.getElem_mem hil)
    have hch : (l.take (i + 1)).foldl withL [] = withL ((l.take i).foldl withL []) l[i] := by rw [List.take_succ_eq_append_getElem hil, List.foldl_append]; rfl
    have hgok : ∀ e ∈ (l.take i).foldl withL [], e.ok := (Srt.nil.ents fun c hc => hlo c (List.mem_of_mem_take hc)).2
    have hglen : ((l.take i).foldl withL []).length ≤ 2 ^ 20 := by
      have h2 := ents_len (l.take i) []
      rw [List.length_take] at h2
      simp only [List.length_nil] at h2
      omega
    generalize (l.take i).foldl withL [] = g at *
    refine s_iaE hlr (by omega) (by simpa using hil) fun b o c _ he => ?_
    simp only [Int.toNat_natCast, List.getElem_map] at he ⊢
    rw [s_ldN (by decide), he.agg0 (Ent.cells_length _), onS_some]
    simp only [push_cast, Nat.reduceAdd, Nat.reduceLeDiff, Nat.reduceLT, Int.reduceToNat, Nat.left_eq_add, Nat.add_eq_left, Nat.add_left_cancel_iff, Nat.reduceEqDiff, Nat.add_assoc, Nat.succ_ne_zero]
    refine rwith_spec ho.rd hgok hcok hglen fun v w3 ho3 hF3 hN3 => ?_
    simp only [push_cast, Nat.reduceAdd, Nat.reduceLeDiff, Nat.reduceLT, Int.reduceToNat, Nat.left_eq_add, Nat.add_eq_left, Nat.add_left_cancel_iff, Nat.reduceEqDiff, Nat.add_assoc, Nat.succ_ne_zero]
    rw [wrap_i64 (by omega)]
    refine hX (n - 1) _ _ _ (by omega) ⟨i + 1, by simp, by omega, ?_, hF.trans hF3, fun b hb => Nat.le_trans hF.size (hN3 b hb)⟩
    rw [hch]; exact ho3

end Go.Gx.S
