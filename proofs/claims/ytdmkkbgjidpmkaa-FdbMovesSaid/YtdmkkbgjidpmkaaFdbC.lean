/- The document's table. -/
import Derived.Test.YtdmkkbgjidpmkaaFdbCT
import Derived.Test.YtdmkkbgjidpmkaaFdbB
set_option linter.unusedVariables false
set_option linter.unusedSimpArgs false
set_option maxRecDepth 100000
namespace Go.Gx.S
open Go Go.Gx Go.Proofs
variable {K : Value → World → Prop} {w : World}

structure RT (w : World) (q room : Nat) (L : Value) (r : List Ent) : Prop where
  blk : w.heap[q]? = some (cellsO [i64 room, L] 40)
  own : OwnE 33 10 w L (r.map Ent.cells)
  ne : ∀ b, blkS L = some b → b ≠ q

theorem RT.fr {fp : Nat → Prop} {w w' : World} {q room : Nat} {L : Value} {r : List Ent} (h : RT w q room L r) (hf : Fr fp w w') (h1 : ¬ fp q) (h2 : ∀ b, blkS L = some b → ¬ fp b) : RT w' q room L r :=
  ⟨hf.heap h.blk h1, h.own.fr hf h2, h.ne⟩
theorem RT.fr0 {w w' : World} {q room : Nat} {L : Value} {r : List Ent} (h : RT w q room L r) (hf : Fr none_ w w') : RT w' q room L r := h.fr hf (fun h => h) fun _ _ h => h
/-- what a step may write -/
def rp (q : Nat) (L : Value) : Nat → Prop := fun b => b = q ∨ blkS L = some b
/-- the new list's block -/
def NewOr (w : World) (L L' : Value) : Prop := ∀ b, blkS L' = some b → blkS L = some b ∨ w.heap.size ≤ b

theorem Srt.idx {r : List Ent} (h : Srt r) {i j : Nat} (hi : i < r.length) (hj : j < r.length) (hk : eKey r[i] = eKey r[j]) : i = j := by
  have hp := List.pairwise_iff_getElem.1 h.1
  rcases Nat.lt_trichotomy i j with hij | hij | hij
  · exact absurd hk (ltE_key (hp i j hi hj hij))
  · exact hij
  · exact absurd hk.symm (ltE_key (hp j i hj hi hij))

theorem set_with {r : List Ent} (h : Srt r) {i : Nat} (hi : i < r.length) {x : Ent} (hk : eKey r[i] = eKey x) (hx : x.ok) : r.set i x = withL r x := by
  have hlt : ∀ a b c d : Ent, eKey a = eKey c → eKey b = eKey d → ltE a b → ltE c d := by
    intro a b c d h1 h2 h3
    unfold eKey at h1 h2
    simp only [Prod.mk.injEq] at h1 h2
    unfold ltE at *
    rw [← h1.1, ← h1.2, ← h2.1, ← h2.2]
    exact h3
  have hkey : ∀ j (hj : j < (r.set i x).length), eKey (r.set i x)[j] = eKey (r[j]'(by simpa using hj)) := fun j hj => by
    rw [List.getElem_set]
    split
    · rename_i e; subst e; exact hk.symm
    · rfl
  refine Srt.eq ⟨?_, fun e he => ?_⟩ (h.with hx) fun e => ?_
  · rw [List.pairwise_iff_getElem]
    intro a b ha hb hab
    have := List.pairwise_iff_getElem.1 h.1 a b (by simpa using ha) (by simpa using hb) hab
    exact hlt _ _ _ _ (hkey a ha).symm (hkey b hb).symm this
  · rcases List.mem_or_eq_of_mem_set he with h1 | h1
    · exact h.2 e h1
    · rw [h1]; exact hx
  · rw [mem_with]
    constructor
    · intro he
      obtain ⟨j, hj, rfl⟩ := List.getElem_of_mem he
      rw [List.getElem_set]
      split
      · exact .inl rfl
      · rename_i e
        refine .inr ⟨List.getElem_mem _, fun hkk => e ?_⟩
        exact (Srt.idx h (by simpa using hj) hi (hkk.trans hk.symm)).symm
    · rintro (rfl | ⟨h1, h2⟩)
      · exact List.mem_iff_getElem.2 ⟨i, by simpa using hi, by rw [List.getElem_set_self]⟩
      · obtain ⟨j, hj, rfl⟩ := List.getElem_of_mem h1
        refine List.mem_iff_getElem.2 ⟨j, by simpa using hj, ?_⟩
        rw [List.getElem_set, if_neg]
        intro e
        subst e
        exact h2 hk
theorem ins_with {r : List Ent} {x : Ent} (h : ∀ e ∈ r, eKey e ≠ eKey x) : withL r x = r.takeWhile (fun e => decide (ltE e x)) ++ x :: r.dropWhile (fun e => decide (ltE e x)) := by
  unfold withL
  rw [without_none h]
  rfl
theorem drop_without {r : List Ent} (h : Srt r) {i : Nat} (hi : i < r.length) : r.take i ++ r.drop (i + 1) = withoutL r r[i] := by
  rw [← List.eraseIdx_eq_take_drop_succ]
  refine Srt.eq ⟨h.1.sublist (List.eraseIdx_sublist ..), fun e he => h.2 e ((List.eraseIdx_sublist ..).subset he)⟩ (h.without _) fun e => ?_
  rw [mem_without, List.mem_eraseIdx_iff_getElem]
  constructor
  · rintro ⟨j, hj, hne, rfl⟩
    exact ⟨List.getElem_mem _, fun hk => hne (Srt.idx h hj hi hk)⟩
  · rintro ⟨h1, h2⟩
    obtain ⟨j, hj, rfl⟩ := List.getElem_of_mem h1
    exact ⟨j, hj, fun e => h2 (by subst e; rfl), rfl⟩

theorem rfind_spec {q room : Nat} {L : Value} {r : List Ent} {k : Key} (ht : RT w q room L r) (hro : ∀ e ∈ r, e.ok) (hk : isI k.1 ∧ k.2.ok) (hn : r.length < 2 ^ 30)
    (h0 : (∀ e ∈ r, eKey e ≠ k) → ∀ w', Fr none_ w w' → K (i64 (-1)) w')
    (h1 : ∀ i (hi : i < r.length), eKey r[i] = k → ∀ w', Fr none_ w w' → K (i64 i) w') :
    CallsR Try.prog 27 #[pt q 0, i64 k.1, .agg k.2.cells.toArray] K w := by
  apply c27
  unfold p27
  simp only [push_cast, Nat.reduceAdd, Nat.reduceLeDiff, Nat.reduceLT, Int.reduceToNat, Nat.left_eq_add, Nat.add_eq_left, Nat.add_left_cancel_iff, Nat.reduceEqDiff, Nat.add_assoc, Nat.succ_ne_zero]
  have hF1 : Fr none_ w (w.alloc (cellsO k.2.cells 24)) := (by repeat' first | with_reducible exact Fr.refl _ _ | with_reducible refine Fr.step_alloc ?_ ?_ | with_reducible refine Fr.step_drew ?_ | with_reducible refine Fr.step_wr ?_ ?_ _ _ | exact rfl | exact Or.inr (by omega) | exact Or.inl rfl | exact Or.inl (Or.inl rfl) | exact Or.inl (Or.inr rfl))
  have hx1 : (w.alloc (cellsO k.2.cells 24)).heap[w.heap.size]? = some (cellsO k.2.cells 24) := by simp only [push_cast, Nat.reduceAdd, Nat.reduceLeDiff, Nat.reduceLT, Int.reduceToNat, Nat.left_eq_add, Nat.add_eq_left, Nat.add_left_cancel_iff, Nat.reduceEqDiff, Nat.add_assoc, Nat.succ_ne_zero]
  replace ht := ht.fr0 hF1
  generalize w.alloc (cellsO k.2.cells 24) = w1 at *
  obtain ⟨la, lc, hL⟩ := ht.own.rd.form
  rw [List.length_map] at hL
  subst hL
  refine jn0 (fun w' => Fr none_ w1 w' ∧ ∀ e ∈ r, eKey e ≠ k) (fun w' ⟨hF, hd⟩ => h0 hd w' (hF1.trans hF)) fun j hj => ?_
  refine loop1 (fun n y w' => ∃ i : Nat, y = i64 i ∧ n + i = r.length ∧ Fr none_ w1 w' ∧ ∀ k' (h : k' < r.length), k' < i → eKey r[k'] ≠ k) ?_ r.length ⟨0, rfl, rfl, Fr.refl _ _, fun _ _ h => by omega⟩
  rintro n y w2 X ⟨i, rfl, hi, hF2, hno⟩ hX
  have ht2 := ht.fr0 hF2
  have hx2 := hF2.heap hx1 fun h => h
  simp only [push_cast, Nat.reduceAdd, Nat.reduceLeDiff, Nat.reduceLT, Int.reduceToNat, Nat.left_eq_add, Nat.add_eq_left, Nat.add_left_cancel_iff, Nat.reduceEqDiff, Nat.add_assoc, Nat.succ_ne_zero, ht2.blk]
  refine br_dec (fun hlt => ?_) fun hge => hj _ ⟨hF2, fun e he => ?_⟩
  case refine_2 =>
    obtain ⟨k', hk', rfl⟩ := List.getElem_of_mem he
    exact hno k' hk' (by omega)
  have hil : i < r.length := by omega
  have hok := hro _ (List.getElem_mem hil)
  have hFd : Fr none_ w1 w2.drew := hF2.step_drew
  have htd := ht2.fr0 (Fr.drew w2)
  have hxd := (Fr.drew (fp := none_) w2).heap hx2 fun h => h
  generalize w2.drew = wd at *
  have hgo : eKey r[i] ≠ k → X (i64 ((i : Int) + 1)) wd := fun hp => hX (n - 1) _ _ (by omega) ⟨i + 1, by simp, by omega, hFd, fun k' h hk' => by
    rcases Nat.lt_or_ge k' i with h1 | h1
    · exact hno k' h h1
    · have : k' = i := by omega
      subst this
      exact hp⟩
  have hrd := htd.own.rd
  refine s_iaE hrd (by omega) (by simpa using hil) fun b o c _ he => ?_
  simp only [Int.toNat_natCast, List.getElem_map] at he ⊢
  have hv := he.cell 0 (by simp [Ent.cells])
  rw [Nat.add_zero] at hv
  simp only [push_cast, Nat.reduceAdd, Nat.reduceLeDiff, Nat.reduceLT, Int.reduceToNat, Nat.left_eq_add, Nat.add_eq_left, Nat.add_left_cancel_iff, Nat.reduceEqDiff, Nat.add_assoc, Nat.succ_ne_zero, hv]
  refine br_intro (fun h2 => ?_) fun h2 => ?_
  case refine_2 =>
    rw [wrap_i64 (by omega)]
    refine hgo fun e => ?_
    rw [← e] at h2
    simp [eKey] at h2
  have h2 : r[i].vlan = k.1 := by simpa using h2
  simp only [push_cast, Nat.reduceAdd, Nat.reduceLeDiff, Nat.reduceLT, Int.reduceToNat, Nat.left_eq_add, Nat.add_eq_left, Nat.add_left_cancel_iff, Nat.reduceEqDiff, Nat.add_assoc, Nat.succ_ne_zero, htd.blk]
  refine s_iaE hrd (by omega) (by simpa using hil) fun b o c _ he => ?_
  simp only [Int.toNat_natCast, List.getElem_map] at he ⊢
  have hm := he.agg 1 6 (by simp [Ent.cells])
  rw [Nat.add_assoc] at hm
  simp only [push_cast, Nat.reduceAdd, Nat.reduceLeDiff, Nat.reduceLT, Int.reduceToNat, Nat.left_eq_add, Nat.add_eq_left, Nat.add_left_cancel_iff, Nat.reduceEqDiff, Nat.add_assoc, Nat.succ_ne_zero, hm, hxd]
  refine s_eqG (MacT.enc (P := Try.prog) (T := 24) (d := 6) hok.2.1) (MacT.enc (P := Try.prog) (T := 24) (d := 6) hk.2) fun y hy => ?_
  rw [Mac.lits_inj] at hy
  simp only [push_cast, Nat.reduceAdd, Nat.reduceLeDiff, Nat.reduceLT, Int.reduceToNat, Nat.left_eq_add, Nat.add_eq_left, Nat.add_left_cancel_iff, Nat.reduceEqDiff, Nat.add_assoc, Nat.succ_ne_zero]
  refine br_intro (fun h3 => ?_) fun h3 => ?_
  · exact h1 i hil (Prod.ext h2 (hy.1 h3)) _ (hF1.trans hFd)
  · rw [wrap_i64 (by omega)]
    refine hgo fun e => ?_
    rw [hy.2 (congrArg Prod.snd e)] at h3
    cases h3

end Go.Gx.S

namespace Go.Gx.S
open Go Go.Gx Go.Proofs
variable {K : Value → World → Prop} {w : World}

theorem while_eq {p : Ent → Bool} : ∀ {l : List Ent} {k : Nat}, (∀ i (h : i < l.length), i < k → p l[i] = true) → (∀ h : k < l.length, p l[k] = false) → k ≤ l.length → l.takeWhile p = l.take k ∧ l.dropWhile p = l.drop k
  | [], k, _, _, hk => by
    have : k = 0 := by simpa using hk
    subst this; exact ⟨rfl, rfl⟩
  | a :: l, 0, _, h2, _ => by
    have := h2 (by simp)
    simp only [List.getElem_cons_zero] at this
    simp [List.takeWhile_cons, List.dropWhile_cons, this]
  | a :: l, k + 1, h1, h2, hk => by
    have ha := h1 0 (by simp) (by omega)
    simp only [List.getElem_cons_zero] at ha
    have ih := while_eq (p := p) (l := l) (k := k) (fun i h hi => by have := h1 (i + 1) (by simpa using h) (by omega); simpa using this) (fun h => by have := h2 (by simpa using h); simpa using this) (by simpa using hk)
    simp [List.takeWhile_cons, List.dropWhile_cons, ha, ih.1, ih.2]
theorem ent_one' {l : List Ent} (k : Nat) : ((l.map Ent.cells).take k).flatten.all S.oneCell = true := by rw [← List.map_take]; exact ents_one _
theorem ent_one2 {l : List Ent} (k : Nat) : ((l.map Ent.cells).drop k).flatten.all S.oneCell = true := by rw [← List.map_drop]; exact ents_one _

theorem rins_spec {q room : Nat} {L : Value} {r : List Ent} {x : Ent} (ht : RT w q room L r) (hro : ∀ e ∈ r, e.ok) (hx : x.ok) (hno : ∀ e ∈ r, eKey e ≠ eKey x) (hn : r.length ≤ 2 ^ 20)
    (h : ∀ w' L', RT w' q room L' (withL r x) → New w L' → Fr (fun b => b = q) w w' → K (.tuple #[]) w') :
    CallsR Try.prog 61 #[pt q 0, .agg x.cells.toArray] K w := by
  apply c61
  unfold p61
  simp only [push_cast, Nat.reduceAdd, Nat.reduceLeDiff, Nat.reduceLT, Int.reduceToNat, Nat.left_eq_add, Nat.add_eq_left, Nat.add_left_cancel_iff, Nat.reduceEqDiff, Nat.add_assoc, Nat.succ_ne_zero]
  have hq0 := lt_of_heap ht.blk
  have hF1 : Fr none_ w (w.alloc (cellsO x.cells 33)) := (by repeat' first | with_reducible exact Fr.refl _ _ | with_reducible refine Fr.step_alloc ?_ ?_ | with_reducible refine Fr.step_drew ?_ | with_reducible refine Fr.step_wr ?_ ?_ _ _ | exact rfl | exact Or.inr (by omega) | exact Or.inl rfl | exact Or.inl (Or.inl rfl) | exact Or.inl (Or.inr rfl))
  have hx0 : (w.alloc (cellsO x.cells 33)).heap[w.heap.size]? = some (cellsO x.cells 33) := by simp only [push_cast, Nat.reduceAdd, Nat.reduceLeDiff, Nat.reduceLT, Int.reduceToNat, Nat.left_eq_add, Nat.add_eq_left, Nat.add_left_cancel_iff, Nat.reduceEqDiff, Nat.add_assoc, Nat.succ_ne_zero]
  replace ht := ht.fr0 hF1
  have hxs := lt_of_heap hx0
  generalize w.alloc (cellsO x.cells 33) = w1 at *
  rw [ins_with hno] at h
  obtain ⟨qa, qc, hqe⟩ := ht.own.rd.form
  rw [List.length_map] at hqe
  subst hqe
  have hq := ht.own.rd
  refine jn1 (fun y w' => ∃ k : Nat, y = i64 k ∧ k ≤ r.length ∧ (∀ i (h : i < r.length), i < k → decide (ltE r[i] x) = true) ∧ (∀ h : k < r.length, decide (ltE r[k] x) = false) ∧ Fr none_ w1 w') ?_ fun j hj => ?_
  · rintro y w2 ⟨k, rfl, hk, hk1, hk2, hF2⟩
    obtain ⟨e1, e2⟩ := while_eq (p := fun e => decide (ltE e x)) hk1 hk2 hk
    rw [e1, e2] at h
    refine s_bs0 (sz := 10) fun v3 w3 ho3 hF3 hN3 => ?_
    have ht3 := ht.fr0 (hF2.trans hF3)
    simp only [push_cast, Nat.reduceAdd, Nat.reduceLeDiff, Nat.reduceLT, Int.reduceToNat, Nat.left_eq_add, Nat.add_eq_left, Nat.add_left_cancel_iff, Nat.reduceEqDiff, Nat.add_assoc, Nat.succ_ne_zero, ht3.blk]
    refine s_slcH ht3.own.rd (by rw [List.length_map]; exact hk) fun v4 h4 => ?_
    refine s_app (sz := 10) (by_ := 40) (z := .agg zE.cells.toArray) rfl (by decide) ho3 h4 (ent_one' _) (by simp; omega) fun v5 w5 ho5 hb5 hF5 => ?_
    have hF5' : Fr none_ w2 w5 := hF3.trans_new hF5 fun b hb e => by have := hN3 _ e; omega
    have hx5 := (hF2.trans hF5').heap hx0 fun h => h
    simp only [push_cast, Nat.reduceAdd, Nat.reduceLeDiff, Nat.reduceLT, Int.reduceToNat, Nat.left_eq_add, Nat.add_eq_left, Nat.add_left_cancel_iff, Nat.reduceEqDiff, Nat.add_assoc, Nat.succ_ne_zero, hx5]
    refine s_bs1 (sz := 10) (z := .agg zE.cells.toArray) (Ent.cells_length _) rfl (by decide) (by decide) fun y w6 hy hF6 hN6 => ?_
    refine s_app (sz := 10) (by_ := 40) (z := .agg zE.cells.toArray) rfl (by decide) (ho5.fr hF6 fun _ _ h => h) hy.rd (by simp [Ent.cells_one]) (by simp; omega) fun v7 w7 ho7 hb7 hF7 => ?_
    have hN5 : New w2 v5 := fun b hb => by
      rcases hb5 with hb5 | hb5
      · exact hN3 b (hb5 ▸ hb)
      · have := hb5 b hb; have := hF3.size; omega
    have hF7' : Fr none_ w2 w7 := (hF5'.trans hF6).trans_new hF7 fun b hb e => by have := hN5 _ e; omega
    have hN7 : New w2 v7 := fun b hb => by
      rcases hb7 with hb7 | hb7
      · exact hN5 b (hb7 ▸ hb)
      · have := hb7 b hb; have := (hF5'.trans hF6).size; omega
    have ht7 := ht.fr0 (hF2.trans hF7')
    simp only [push_cast, Nat.reduceAdd, Nat.reduceLeDiff, Nat.reduceLT, Int.reduceToNat, Nat.left_eq_add, Nat.add_eq_left, Nat.add_left_cancel_iff, Nat.reduceEqDiff, Nat.add_assoc, Nat.succ_ne_zero, ht7.blk]
    refine s_slcL ht7.own.rd (by rw [List.length_map]; exact hk) fun v8 h8 => ?_
    refine s_app (sz := 10) (by_ := 40) (z := .agg zE.cells.toArray) rfl (by decide) ho7 h8 (ent_one2 _) (by simp; omega) fun v9 w9 ho9 hb9 hF9 => ?_
    have hF19 : Fr none_ w w9 := ((hF1.trans hF2).trans hF7').trans_new hF9 fun b hb e => by have := hN7 _ e; have := (hF1.trans hF2).size; omega
    have hN9 : New w v9 := fun b hb => by
      have hsz := (hF1.trans hF2).size
      rcases hb9 with hb9 | hb9
      · have := hN7 b (hb9 ▸ hb); omega
      · have := hb9 b hb; have := hF7'.size; omega
    have ht9 := hF9.heap ht7.blk fun e => by have := hN7 _ e; have := (hF1.trans hF2).size; omega
    obtain ⟨a9, c9, hv9⟩ := ho9.rd.form
    have hone := ho9.one
    simp only [push_cast, Nat.reduceAdd, Nat.reduceLeDiff, Nat.reduceLT, Int.reduceToNat, Nat.left_eq_add, Nat.add_eq_left, Nat.add_left_cancel_iff, Nat.reduceEqDiff, Nat.add_assoc, Nat.succ_ne_zero, ht9, hone]
    refine h _ v9 ⟨?_, ?_, fun b hb e => by have := hN9 b hb; omega⟩ hN9 (Fr.step_wr (fp := fun b => b = q) (hF19.mono fun _ _ e => e.elim) (.inl rfl) _ _)
    · simp only [push_cast, Nat.reduceAdd, Nat.reduceLeDiff, Nat.reduceLT, Int.reduceToNat, Nat.left_eq_add, Nat.add_eq_left, Nat.add_left_cancel_iff, Nat.reduceEqDiff, Nat.add_assoc, Nat.succ_ne_zero, ht9]
    · have : OwnE 33 10 w9 v9 ((r.take k ++ x :: r.drop k).map Ent.cells) := by
        rw [List.map_append, List.map_cons, List.map_take, List.map_drop]
        simpa using ho9
      refine this.frame fun b hb => ?_
      have hbq : ¬ b = q := fun e => by have := hN9 b hb; omega
      simp only [push_cast, Nat.reduceAdd, Nat.reduceLeDiff, Nat.reduceLT, Int.reduceToNat, Nat.left_eq_add, Nat.add_eq_left, Nat.add_left_cancel_iff, Nat.reduceEqDiff, Nat.add_assoc, Nat.succ_ne_zero, hbq]
  · refine loop1 (fun n y w' => ∃ k : Nat, y = i64 k ∧ n + k = r.length ∧ (∀ i (h : i < r.length), i < k → decide (ltE r[i] x) = true) ∧ Fr none_ w1 w') ?_ r.length ⟨0, rfl, rfl, fun _ _ h => by omega, Fr.refl _ _⟩
    rintro n y w2 X ⟨k, rfl, hi, hk, hF2⟩ hX
    have ht2 := ht.fr0 hF2
    simp only [push_cast, Nat.reduceAdd, Nat.reduceLeDiff, Nat.reduceLT, Int.reduceToNat, Nat.left_eq_add, Nat.add_eq_left, Nat.add_left_cancel_iff, Nat.reduceEqDiff, Nat.add_assoc, Nat.succ_ne_zero, ht2.blk]
    have hFd : Fr none_ w1 w2.drew := hF2.step_drew
    have hxd := hFd.heap hx0 fun h => h
    have htd := ht.fr0 hFd
    generalize w2.drew = wd at *
    have hqd := htd.own.rd
    refine br_dec (fun hlt => ?_) fun hge => hj _ _ ⟨k, rfl, by omega, hk, fun h => by omega, hFd⟩
    have hkl : k < r.length := by omega
    have hok := hro _ (List.getElem_mem hkl)
    have hend : ¬ ltE r[k] x → ∀ w', Fr none_ w1 w' → j (i64 k) w' := fun hn w' hF => hj _ _ ⟨k, rfl, by omega, hk, fun h => decide_eq_false hn, hF⟩
    have hgo : ltE r[k] x → ∀ w', Fr none_ w1 w' → X (i64 ((k : Int) + 1)) w' := fun hp w' hF => hX (n - 1) _ _ (by omega) ⟨k + 1, by simp, by omega, fun i h hi => by
      rcases Nat.lt_or_ge i k with h1 | h1
      · exact hk i h h1
      · have : i = k := by omega
        subst this
        exact decide_eq_true hp, hF⟩
    refine s_iaE hqd (by omega) (by simpa using hkl) fun b o c _ he => ?_
    simp only [Int.toNat_natCast, List.getElem_map] at he ⊢
    have hv := he.cell 0 (by simp [Ent.cells])
    rw [Nat.add_zero] at hv
    simp only [push_cast, Nat.reduceAdd, Nat.reduceLeDiff, Nat.reduceLT, Int.reduceToNat, Nat.left_eq_add, Nat.add_eq_left, Nat.add_left_cancel_iff, Nat.reduceEqDiff, Nat.add_assoc, Nat.succ_ne_zero, hv, hxd]
    refine br_dec (fun h1 => ?_) fun h1 => ?_
    · rw [wrap_i64 (by omega)]
      exact hgo (.inl h1) _ hFd
    simp only [push_cast, Nat.reduceAdd, Nat.reduceLeDiff, Nat.reduceLT, Int.reduceToNat, Nat.left_eq_add, Nat.add_eq_left, Nat.add_left_cancel_iff, Nat.reduceEqDiff, Nat.add_assoc, Nat.succ_ne_zero, htd.blk]
    refine s_iaE hqd (by omega) (by simpa using hkl) fun b o c _ he => ?_
    simp only [Int.toNat_natCast, List.getElem_map] at he ⊢
    have hv := he.cell 0 (by simp [Ent.cells])
    rw [Nat.add_zero] at hv
    simp only [push_cast, Nat.reduceAdd, Nat.reduceLeDiff, Nat.reduceLT, Int.reduceToNat, Nat.left_eq_add, Nat.add_eq_left, Nat.add_left_cancel_iff, Nat.reduceEqDiff, Nat.add_assoc, Nat.succ_ne_zero, hv, hxd]
    refine br_intro (fun h2 => ?_) fun h2 => ?_
    case refine_2 =>
      refine hend (fun hl => ?_) _ hFd
      rcases hl with hl | hl
      · exact h1 hl
      · simp [hl.1] at h2
    have h2 : r[k].vlan = x.vlan := by simpa using h2
    simp only [push_cast, Nat.reduceAdd, Nat.reduceLeDiff, Nat.reduceLT, Int.reduceToNat, Nat.left_eq_add, Nat.add_eq_left, Nat.add_left_cancel_iff, Nat.reduceEqDiff, Nat.add_assoc, Nat.succ_ne_zero, htd.blk]
    refine s_iaE hqd (by omega) (by simpa using hkl) fun b o c _ he => ?_
    simp only [Int.toNat_natCast, List.getElem_map] at he ⊢
    have hm := he.agg 1 6 (by simp [Ent.cells])
    rw [Nat.add_assoc] at hm
    simp only [push_cast, Nat.reduceAdd, Nat.reduceLeDiff, Nat.reduceLT, Int.reduceToNat, Nat.left_eq_add, Nat.add_eq_left, Nat.add_left_cancel_iff, Nat.reduceEqDiff, Nat.add_assoc, Nat.succ_ne_zero, hm, hxd]
    refine rcmp_spec hok.2.1 hx.2.1 fun w3 hF3 => ?_
    simp only [push_cast, Nat.reduceAdd, Nat.reduceLeDiff, Nat.reduceLT, Int.reduceToNat, Nat.left_eq_add, Nat.add_eq_left, Nat.add_left_cancel_iff, Nat.reduceEqDiff, Nat.add_assoc, Nat.succ_ne_zero]
    have hcm : cmpM r[k].mac x.mac < 0 ↔ macN r[k].mac < macN x.mac := by unfold cmpM; exact cmpI_lt
    refine br_dec (fun h3 => ?_) fun h3 => ?_
    · rw [wrap_i64 (by omega)]
      exact hgo (.inr ⟨h2, hcm.1 h3⟩) _ (hFd.trans hF3)
    · refine hend (fun hl => ?_) _ (hFd.trans hF3)
      rcases hl with hl | hl
      · exact h1 hl
      · exact h3 (hcm.2 hl.2)

theorem own_port {b o c n i : Nat} {es : List Ent} (ho : OwnE 33 10 w (.slice (some ⟨b, o, none⟩) n c) (es.map Ent.cells)) (hn : es.length = n) (hi : i < es.length) (v : Int) :
    okAt w.heap[b]? (o + i * 10 + 7) 1 = true ∧ OwnE 33 10 (wr w b (o + i * 10 + 7) [i64 v]) (.slice (some ⟨b, o, none⟩) n c) ((es.set i { es[i] with port := v }).map Ent.cells) := by
  have hl : (es.map Ent.cells).length = n := by rw [List.length_map]; exact hn
  rw [← hl] at ho ⊢
  obtain ⟨h1, h2⟩ := ho.putF (i := i) (f := 7) (by rw [List.length_map]; exact hi) (by decide) (i64 v)
  refine ⟨h1, ?_⟩
  have e : (es.set i { es[i] with port := v }).map Ent.cells = (es.map Ent.cells).set i ((es.map Ent.cells)[i].set 7 (i64 v)) := by
    rw [List.map_set, List.getElem_map]; rfl
  rw [e]
  exact h2
theorem own_at {b o c n i : Nat} {es : List Ent} (ho : OwnE 33 10 w (.slice (some ⟨b, o, none⟩) n c) (es.map Ent.cells)) (hn : es.length = n) (hi : i < es.length) (v : Int) :
    okAt w.heap[b]? (o + i * 10 + 8) 1 = true ∧ OwnE 33 10 (wr w b (o + i * 10 + 8) [i64 v]) (.slice (some ⟨b, o, none⟩) n c) ((es.set i { es[i] with at_ := v }).map Ent.cells) := by
  have hl : (es.map Ent.cells).length = n := by rw [List.length_map]; exact hn
  rw [← hl] at ho ⊢
  obtain ⟨h1, h2⟩ := ho.putF (i := i) (f := 8) (by rw [List.length_map]; exact hi) (by decide) (i64 v)
  refine ⟨h1, ?_⟩
  have e : (es.set i { es[i] with at_ := v }).map Ent.cells = (es.map Ent.cells).set i ((es.map Ent.cells)[i].set 8 (i64 v)) := by
    rw [List.map_set, List.getElem_map]; rfl
  rw [e]
  exact h2

theorem rlook_spec {q room : Nat} {L : Value} {r : List Ent} {v : Int} {m : Mac} (ht : RT w q room L r) (hs : Srt r) (hv : isI v) (hm : m.ok) (hn : r.length < 2 ^ 30)
    (h : ∀ w', Fr none_ w w' → K (.tuple #[.agg (lookL r (v, m)).1.cells.toArray, .bool (lookL r (v, m)).2]) w') :
    CallsR Try.prog 12 #[pt q 0, i64 v, .agg m.cells.toArray] K w := by
  apply c12
  unfold p12
  rw [opS_box]
  show opS Try.prog (S.alloc 33) _ (w.alloc (cellsO m.cells 24))
  have hF1 : Fr none_ w (w.alloc (cellsO m.cells 24)) := (by repeat' first | with_reducible exact Fr.refl _ _ | with_reducible refine Fr.step_alloc ?_ ?_ | with_reducible refine Fr.step_drew ?_ | with_reducible refine Fr.step_wr ?_ ?_ _ _ | exact rfl | exact Or.inr (by omega) | exact Or.inl rfl | exact Or.inl (Or.inl rfl) | exact Or.inl (Or.inr rfl))
  have hm0 : (w.alloc (cellsO m.cells 24)).heap[w.heap.size]? = some (cellsO m.cells 24) := by simp only [push_cast, Nat.reduceAdd, Nat.reduceLeDiff, Nat.reduceLT, Int.reduceToNat, Nat.left_eq_add, Nat.add_eq_left, Nat.add_left_cancel_iff, Nat.reduceEqDiff, Nat.add_assoc, Nat.succ_ne_zero]
  replace ht := ht.fr0 hF1
  generalize w.alloc (cellsO m.cells 24) = W at *
  rw [zalloc_ent]
  have hF2 : Fr none_ W (W.alloc (cellsO zE.cells 33)) := (by repeat' first | with_reducible exact Fr.refl _ _ | with_reducible refine Fr.step_alloc ?_ ?_ | with_reducible refine Fr.step_drew ?_ | with_reducible refine Fr.step_wr ?_ ?_ _ _ | exact rfl | exact Or.inr (by omega) | exact Or.inl rfl | exact Or.inl (Or.inl rfl) | exact Or.inl (Or.inr rfl))
  have hz0 : (W.alloc (cellsO zE.cells 33)).heap[W.heap.size]? = some (cellsO zE.cells 33) := by simp only [push_cast, Nat.reduceAdd, Nat.reduceLeDiff, Nat.reduceLT, Int.reduceToNat, Nat.left_eq_add, Nat.add_eq_left, Nat.add_left_cancel_iff, Nat.reduceEqDiff, Nat.add_assoc, Nat.succ_ne_zero]
  replace hm0 := hF2.heap hm0 fun h => h
  replace ht := ht.fr0 hF2
  have hF := hF1.trans hF2
  have hwW := hF1.size
  generalize W.alloc (cellsO zE.cells 33) = w1 at *
  generalize W.heap.size = sl at *
  simp only [push_cast, Nat.reduceAdd, Nat.reduceLeDiff, Nat.reduceLT, Int.reduceToNat, Nat.left_eq_add, Nat.add_eq_left, Nat.add_left_cancel_iff, Nat.reduceEqDiff, Nat.add_assoc, Nat.succ_ne_zero, hm0]
  unfold lookL at h
  refine rfind_spec (k := (v, m)) ht hs.2 ⟨hv, hm⟩ hn (fun hno w3 hF3 => ?_) fun i hi hk w3 hF3 => ?_
  · rw [atK_none hno] at h
    have hz3 := hF3.heap hz0 fun h => h
    simp only [push_cast, Nat.reduceAdd, Nat.reduceLeDiff, Nat.reduceLT, Int.reduceToNat, Nat.left_eq_add, Nat.add_eq_left, Nat.add_left_cancel_iff, Nat.reduceEqDiff, Nat.add_assoc, Nat.succ_ne_zero]
    refine br_dec (fun _ => ?_) fun hg => absurd (by decide) hg
    rw [build_zE, s_stA _ _ _ (Ent.cells_length _) (Ent.cells_one _)]
    simp only [push_cast, Nat.reduceAdd, Nat.reduceLeDiff, Nat.reduceLT, Int.reduceToNat, Nat.left_eq_add, Nat.add_eq_left, Nat.add_left_cancel_iff, Nat.reduceEqDiff, Nat.add_assoc, Nat.succ_ne_zero, hz3]
    exact h _ ((hF.trans hF3).step_wr (.inr (by omega)) _ _)
  · rw [atK_some hs (List.getElem_mem hi) hk] at h
    have hz3 := hF3.heap hz0 fun h => h
    have ht3 := ht.fr0 hF3
    simp only [push_cast, Nat.reduceAdd, Nat.reduceLeDiff, Nat.reduceLT, Int.reduceToNat, Nat.left_eq_add, Nat.add_eq_left, Nat.add_left_cancel_iff, Nat.reduceEqDiff, Nat.add_assoc, Nat.succ_ne_zero]
    refine br_dec (fun hg => by omega) fun _ => ?_
    simp only [push_cast, Nat.reduceAdd, Nat.reduceLeDiff, Nat.reduceLT, Int.reduceToNat, Nat.left_eq_add, Nat.add_eq_left, Nat.add_left_cancel_iff, Nat.reduceEqDiff, Nat.add_assoc, Nat.succ_ne_zero, ht3.blk]
    refine s_iaE ht3.own.rd (by omega) (by simpa using hi) fun b o c _ he => ?_
    simp only [Int.toNat_natCast, List.getElem_map] at he ⊢
    rw [s_ldN (by decide), he.agg0 (Ent.cells_length _), onS_some, s_stA _ _ _ (Ent.cells_length _) (Ent.cells_one _)]
    simp only [push_cast, Nat.reduceAdd, Nat.reduceLeDiff, Nat.reduceLT, Int.reduceToNat, Nat.left_eq_add, Nat.add_eq_left, Nat.add_left_cancel_iff, Nat.reduceEqDiff, Nat.add_assoc, Nat.succ_ne_zero, hz3]
    exact h _ ((hF.trans hF3).step_wr (.inr (by omega)) _ _)

end Go.Gx.S

namespace Go.Gx.S
open Go Go.Gx Go.Proofs
variable {K : Value → World → Prop} {w : World}

theorem RT.none {fp : Nat → Prop} {w w' : World} (h : Fr none_ w w') : Fr fp w w' := h.mono fun _ _ e => e.elim

theorem rlearn_spec {q room : Nat} {L : Value} {r : List Ent} {v a t : Int} {m : Mac} (ht : RT w q room L r) (hs : Srt r) (hv : isI v) (hm : m.ok) (ha : isI a) (htt : isI t) (hn : r.length ≤ 2 ^ 20) (hrm : room ≤ 2 ^ 20)
    (h : ∀ w' L', RT w' q room L' (learnL room r v m a t).1 → NewOr w L L' → Fr (rp q L) w w' → K (.tuple #[i64 (learnL room r v m a t).2.1, i64 (learnL room r v m a t).2.2]) w') :
    CallsR Try.prog 44 #[pt q 0, i64 v, .agg m.cells.toArray, i64 a, i64 t] K w := by
  apply c44
  unfold p44
  simp only [push_cast, Nat.reduceAdd, Nat.reduceLeDiff, Nat.reduceLT, Int.reduceToNat, Nat.left_eq_add, Nat.add_eq_left, Nat.add_left_cancel_iff, Nat.reduceEqDiff, Nat.add_assoc, Nat.succ_ne_zero]
  have hq0 := lt_of_heap ht.blk
  have hF : Fr none_ w (w.alloc (cellsO m.cells 24)) := (by repeat' first | with_reducible exact Fr.refl _ _ | with_reducible refine Fr.step_alloc ?_ ?_ | with_reducible refine Fr.step_drew ?_ | with_reducible refine Fr.step_wr ?_ ?_ _ _ | exact rfl | exact Or.inr (by omega) | exact Or.inl rfl | exact Or.inl (Or.inl rfl) | exact Or.inl (Or.inr rfl))
  have hm0 : (w.alloc (cellsO m.cells 24)).heap[w.heap.size]? = some (cellsO m.cells 24) := by simp only [push_cast, Nat.reduceAdd, Nat.reduceLeDiff, Nat.reduceLT, Int.reduceToNat, Nat.left_eq_add, Nat.add_eq_left, Nat.add_left_cancel_iff, Nat.reduceEqDiff, Nat.add_assoc, Nat.succ_ne_zero]
  replace ht := ht.fr0 hF
  generalize w.alloc (cellsO m.cells 24) = W at *
  refine rright_spec hm fun w2 hF2 => ?_
  replace ht := ht.fr0 hF2
  replace hm0 := hF2.heap hm0 fun h => h
  replace hF := hF.trans hF2
  unfold learnL at h
  have same : NewOr w L L := fun b hb => .inl hb
  simp only [push_cast, Nat.reduceAdd, Nat.reduceLeDiff, Nat.reduceLT, Int.reduceToNat, Nat.left_eq_add, Nat.add_eq_left, Nat.add_left_cancel_iff, Nat.reduceEqDiff, Nat.add_assoc, Nat.succ_ne_zero]
  cases hr : rightB v m a with
  | false =>
    rw [hr, Bool.false_and] at h
    simp only [push_cast, Nat.reduceAdd, Nat.reduceLeDiff, Nat.reduceLT, Int.reduceToNat, Nat.left_eq_add, Nat.add_eq_left, Nat.add_left_cancel_iff, Nat.reduceEqDiff, Nat.add_assoc, Nat.succ_ne_zero, Bool.not_false]
    exact h _ L ht same (RT.none hF)
  | true =>
  rw [hr, Bool.true_and] at h
  simp only [push_cast, Nat.reduceAdd, Nat.reduceLeDiff, Nat.reduceLT, Int.reduceToNat, Nat.left_eq_add, Nat.add_eq_left, Nat.add_left_cancel_iff, Nat.reduceEqDiff, Nat.add_assoc, Nat.succ_ne_zero, Bool.not_true]
  refine br_dec (fun h1 => ?_) fun h1 => ?_
  · have : timedB t = false := by
      cases e : timedB t
      · rfl
      · have := timedB_iff.1 e; omega
    rw [this] at h
    exact h _ L ht same (RT.none hF)
  refine br_dec (fun h2 => ?_) fun h2 => ?_
  · have : timedB t = false := by
      cases e : timedB t
      · rfl
      · have := timedB_iff.1 e; omega
    rw [this] at h
    exact h _ L ht same (RT.none hF)
  have htm : timedB t = true := timedB_iff.2 ⟨by omega, by omega⟩
  rw [htm, if_pos rfl] at h
  simp only [push_cast, Nat.reduceAdd, Nat.reduceLeDiff, Nat.reduceLT, Int.reduceToNat, Nat.left_eq_add, Nat.add_eq_left, Nat.add_left_cancel_iff, Nat.reduceEqDiff, Nat.add_assoc, Nat.succ_ne_zero, hm0]
  have hok : (⟨v, m, a, t, false⟩ : Ent).ok := ⟨hv, hm, ha, htt⟩
  refine rfind_spec (k := (v, m)) ht hs.2 ⟨hv, hm⟩ (by omega) (fun hno w3 hF3 => ?_) fun i hi hk w3 hF3 => ?_
  · rw [atK_none hno] at h
    replace ht := ht.fr0 hF3
    replace hm0 := hF3.heap hm0 fun h => h
    replace hF := hF.trans hF3
    have hblk := ht.blk
    obtain ⟨la, lc, hL⟩ := ht.own.rd.form
    rw [List.length_map] at hL
    simp only [push_cast, Nat.reduceAdd, Nat.reduceLeDiff, Nat.reduceLT, Int.reduceToNat, Nat.left_eq_add, Nat.add_eq_left, Nat.add_left_cancel_iff, Nat.reduceEqDiff, Nat.add_assoc, Nat.succ_ne_zero]
    refine br_dec (fun hg => absurd hg (by decide)) fun _ => ?_
    rw [hL] at hblk
    simp only [push_cast, Nat.reduceAdd, Nat.reduceLeDiff, Nat.reduceLT, Int.reduceToNat, Nat.left_eq_add, Nat.add_eq_left, Nat.add_left_cancel_iff, Nat.reduceEqDiff, Nat.add_assoc, Nat.succ_ne_zero, hblk]
    refine br_dec (fun hfull => ?_) fun hfull => ?_
    · simp only [if_pos (show room ≤ r.length by omega)] at h
      exact h _ L (ht.fr0 (Fr.drew w3)) same (RT.none (hF.trans (Fr.drew w3)))
    simp only [if_neg (show ¬ room ≤ r.length by omega)] at h
    simp only [push_cast, Nat.reduceAdd, Nat.reduceLeDiff, Nat.reduceLT, Int.reduceToNat, Nat.left_eq_add, Nat.add_eq_left, Nat.add_left_cancel_iff, Nat.reduceEqDiff, Nat.add_assoc, Nat.succ_ne_zero, hm0]
    rw [build_lrn]
    simp only [push_cast, Nat.reduceAdd, Nat.reduceLeDiff, Nat.reduceLT, Int.reduceToNat, Nat.left_eq_add, Nat.add_eq_left, Nat.add_left_cancel_iff, Nat.reduceEqDiff, Nat.add_assoc, Nat.succ_ne_zero]
    refine rins_spec (ht.fr0 (Fr.drew w3)) hs.2 hok hno (by omega) fun w4 L' ht4 hN4 hF4 => ?_
    have hsz := (hF.trans (Fr.drew w3)).size
    exact h _ L' ht4 (fun b hb => .inr (Nat.le_trans hsz (hN4 b hb))) ((RT.none (hF.trans (Fr.drew w3))).trans_new hF4 fun b _ e => .inl e)
  · rw [atK_some hs (List.getElem_mem hi) hk] at h
    replace ht := ht.fr0 hF3
    replace hF := hF.trans hF3
    obtain ⟨lb, lo, lc, hL⟩ := ht.own.form' (by rw [List.length_map]; omega)
    rw [List.length_map] at hL
    subst hL
    simp only [push_cast, Nat.reduceAdd, Nat.reduceLeDiff, Nat.reduceLT, Int.reduceToNat, Nat.left_eq_add, Nat.add_eq_left, Nat.add_left_cancel_iff, Nat.reduceEqDiff, Nat.add_assoc, Nat.succ_ne_zero]
    refine br_dec (fun _ => ?_) fun hg => absurd (by omega) hg
    simp only [push_cast, Nat.reduceAdd, Nat.reduceLeDiff, Nat.reduceLT, Int.reduceToNat, Nat.left_eq_add, Nat.add_eq_left, Nat.add_left_cancel_iff, Nat.reduceEqDiff, Nat.add_assoc, Nat.succ_ne_zero, ht.blk]
    have hml : r.length = (r.map Ent.cells).length := (List.length_map _).symm
    refine s_iaE ht.own.rd (by omega) (by simpa using hi) fun b o c hvv he => ?_
    simp only [Value.slice.injEq, Option.some.injEq, Addr.mk.injEq] at hvv
    obtain ⟨⟨rfl, rfl, _⟩, _, rfl⟩ := hvv
    simp only [Int.toNat_natCast, List.getElem_map] at he ⊢
    have hst := he.cell 9 (by simp [Ent.cells])
    rw [Nat.add_assoc] at hst
    simp only [push_cast, Nat.reduceAdd, Nat.reduceLeDiff, Nat.reduceLT, Int.reduceToNat, Nat.left_eq_add, Nat.add_eq_left, Nat.add_left_cancel_iff, Nat.reduceEqDiff, Nat.add_assoc, Nat.succ_ne_zero, hst]
    refine br_intro (fun hs2 => ?_) fun hs2 => ?_
    · simp only [hs2, if_true] at h
      exact h _ _ ht same (RT.none hF)
    simp only [hs2, Bool.false_eq_true, if_false] at h
    have hlq : lb ≠ q := ht.ne lb rfl
    have hql : ¬ q = lb := fun e => hlq e.symm
    simp only [push_cast, Nat.reduceAdd, Nat.reduceLeDiff, Nat.reduceLT, Int.reduceToNat, Nat.left_eq_add, Nat.add_eq_left, Nat.add_left_cancel_iff, Nat.reduceEqDiff, Nat.add_assoc, Nat.succ_ne_zero, ht.blk]
    refine s_iaE ht.own.rd (by omega) (by simpa using hi) fun b o c hvv he => ?_
    simp only [Value.slice.injEq, Option.some.injEq, Addr.mk.injEq] at hvv
    obtain ⟨⟨rfl, rfl, _⟩, _, rfl⟩ := hvv
    simp only [Int.toNat_natCast, List.getElem_map] at he ⊢
    have hpo := he.cell 7 (by simp [Ent.cells])
    rw [Nat.add_assoc] at hpo
    simp only [push_cast, Nat.reduceAdd, Nat.reduceLeDiff, Nat.reduceLT, Int.reduceToNat, Nat.left_eq_add, Nat.add_eq_left, Nat.add_left_cancel_iff, Nat.reduceEqDiff, Nat.add_assoc, Nat.succ_ne_zero, hpo, ht.blk]
    refine s_iaE ht.own.rd (by omega) (by simpa using hi) fun b o c hvv _ => ?_
    simp only [Value.slice.injEq, Option.some.injEq, Addr.mk.injEq] at hvv
    obtain ⟨⟨rfl, rfl, _⟩, _, rfl⟩ := hvv
    obtain ⟨ok1, own1⟩ := own_port ht.own rfl hi a
    rw [Nat.add_assoc] at ok1 own1
    simp only [Int.toNat_natCast]
    simp only [push_cast, Nat.reduceAdd, Nat.reduceLeDiff, Nat.reduceLT, Int.reduceToNat, Nat.left_eq_add, Nat.add_eq_left, Nat.add_left_cancel_iff, Nat.reduceEqDiff, Nat.add_assoc, Nat.succ_ne_zero, ok1, hql, ht.blk]
    have hb1 : (wr w3 lb (lo + (i * 10 + 7)) [i64 a]).heap[q]? = some (cellsO [i64 room, .slice (some ⟨lb, lo, none⟩) r.length lc] 40) := by simp only [push_cast, Nat.reduceAdd, Nat.reduceLeDiff, Nat.reduceLT, Int.reduceToNat, Nat.left_eq_add, Nat.add_eq_left, Nat.add_left_cancel_iff, Nat.reduceEqDiff, Nat.add_assoc, Nat.succ_ne_zero, hql, ht.blk]
    have hF4 : Fr (rp q (.slice (some ⟨lb, lo, none⟩) r.length lc)) w (wr w3 lb (lo + (i * 10 + 7)) [i64 a]) := (RT.none hF).step_wr (.inl (.inr rfl)) _ _
    generalize wr w3 lb (lo + (i * 10 + 7)) [i64 a] = w4 at *
    refine s_iaE own1.rd (by omega) (by simpa using hi) fun b o c hvv _ => ?_
    simp only [Value.slice.injEq, Option.some.injEq, Addr.mk.injEq] at hvv
    obtain ⟨⟨rfl, rfl, _⟩, _, rfl⟩ := hvv
    obtain ⟨ok2, own2⟩ := own_at own1 (by rw [List.length_set]) (show i < _ by rw [List.length_set]; exact hi) t
    rw [Nat.add_assoc] at ok2 own2
    simp only [Int.toNat_natCast]
    simp only [push_cast, Nat.reduceAdd, Nat.reduceLeDiff, Nat.reduceLT, Int.reduceToNat, Nat.left_eq_add, Nat.add_eq_left, Nat.add_left_cancel_iff, Nat.reduceEqDiff, Nat.add_assoc, Nat.succ_ne_zero, ok2]
    rw [List.getElem_set_self, List.set_set] at own2
    have hent : ({ { r[i] with port := a } with at_ := t } : Ent) = ⟨v, m, a, t, false⟩ := by
      have h3 := congrArg Prod.fst hk
      have h4 := congrArg Prod.snd hk
      unfold eKey at h3 h4
      simp only at h3 h4
      rw [← h3, ← h4]
      exact Ent.ext rfl rfl rfl rfl hs2
    rw [hent, set_with hs hi (x := ⟨v, m, a, t, false⟩) hk hok] at own2
    have hb2 : (wr w4 lb (lo + (i * 10 + 8)) [i64 t]).heap[q]? = some (cellsO [i64 room, .slice (some ⟨lb, lo, none⟩) r.length lc] 40) := by simp only [push_cast, Nat.reduceAdd, Nat.reduceLeDiff, Nat.reduceLT, Int.reduceToNat, Nat.left_eq_add, Nat.add_eq_left, Nat.add_left_cancel_iff, Nat.reduceEqDiff, Nat.add_assoc, Nat.succ_ne_zero, hql, hb1]
    have hF5 : Fr (rp q (.slice (some ⟨lb, lo, none⟩) r.length lc)) w (wr w4 lb (lo + (i * 10 + 8)) [i64 t]) := hF4.step_wr (.inl (.inr rfl)) _ _
    have h' := h _ _ ⟨hb2, own2, ht.ne⟩ same hF5
    refine br_intro (fun hne => ?_) fun hne => ?_
    · rw [if_pos (by simpa using hne)] at h'
      exact h'
    · rw [if_neg (by simpa using hne)] at h'
      exact h'

theorem rput_spec {q room : Nat} {L : Value} {r : List Ent} {v a : Int} {m : Mac} (ht : RT w q room L r) (hs : Srt r) (hv : isI v) (hm : m.ok) (ha : isI a) (hn : r.length ≤ 2 ^ 20) (hrm : room ≤ 2 ^ 20)
    (h : ∀ w' L', RT w' q room L' (putL room r v m a).1 → NewOr w L L' → Fr (rp q L) w w' → K (i64 (putL room r v m a).2) w') :
    CallsR Try.prog 45 #[pt q 0, i64 v, .agg m.cells.toArray, i64 a] K w := by
  apply c45
  unfold p45
  simp only [push_cast, Nat.reduceAdd, Nat.reduceLeDiff, Nat.reduceLT, Int.reduceToNat, Nat.left_eq_add, Nat.add_eq_left, Nat.add_left_cancel_iff, Nat.reduceEqDiff, Nat.add_assoc, Nat.succ_ne_zero]
  have hq0 := lt_of_heap ht.blk
  have hF : Fr none_ w (w.alloc (cellsO m.cells 24)) := (by repeat' first | with_reducible exact Fr.refl _ _ | with_reducible refine Fr.step_alloc ?_ ?_ | with_reducible refine Fr.step_drew ?_ | with_reducible refine Fr.step_wr ?_ ?_ _ _ | exact rfl | exact Or.inr (by omega) | exact Or.inl rfl | exact Or.inl (Or.inl rfl) | exact Or.inl (Or.inr rfl))
  have hm0 : (w.alloc (cellsO m.cells 24)).heap[w.heap.size]? = some (cellsO m.cells 24) := by simp only [push_cast, Nat.reduceAdd, Nat.reduceLeDiff, Nat.reduceLT, Int.reduceToNat, Nat.left_eq_add, Nat.add_eq_left, Nat.add_left_cancel_iff, Nat.reduceEqDiff, Nat.add_assoc, Nat.succ_ne_zero]
  replace ht := ht.fr0 hF
  generalize w.alloc (cellsO m.cells 24) = W at *
  refine rright_spec hm fun w2 hF2 => ?_
  replace ht := ht.fr0 hF2
  replace hm0 := hF2.heap hm0 fun h => h
  replace hF := hF.trans hF2
  unfold putL at h
  have same : NewOr w L L := fun b hb => .inl hb
  simp only [push_cast, Nat.reduceAdd, Nat.reduceLeDiff, Nat.reduceLT, Int.reduceToNat, Nat.left_eq_add, Nat.add_eq_left, Nat.add_left_cancel_iff, Nat.reduceEqDiff, Nat.add_assoc, Nat.succ_ne_zero]
  cases hr : rightB v m a with
  | false =>
    rw [hr] at h
    simp only [push_cast, Nat.reduceAdd, Nat.reduceLeDiff, Nat.reduceLT, Int.reduceToNat, Nat.left_eq_add, Nat.add_eq_left, Nat.add_left_cancel_iff, Nat.reduceEqDiff, Nat.add_assoc, Nat.succ_ne_zero, Bool.not_false]
    exact h _ L ht same (RT.none hF)
  | true =>
  rw [hr, if_pos rfl] at h
  simp only [push_cast, Nat.reduceAdd, Nat.reduceLeDiff, Nat.reduceLT, Int.reduceToNat, Nat.left_eq_add, Nat.add_eq_left, Nat.add_left_cancel_iff, Nat.reduceEqDiff, Nat.add_assoc, Nat.succ_ne_zero, Bool.not_true, hm0]
  have hok : (⟨v, m, a, 0, true⟩ : Ent).ok := ⟨hv, hm, ha, isI_iff.2 (show (-9223372036854775808 : Int) ≤ 0 ∧ (0 : Int) ≤ 9223372036854775807 by decide)⟩
  rw [build_put]
  refine ent_slot fun _ w3 hx3 hF3 => ?_
  replace ht := ht.fr0 hF3
  replace hm0 := hF3.heap hm0 fun h => h
  replace hF := hF.trans hF3
  generalize w2.heap.size = sl at *
  simp only [push_cast, Nat.reduceAdd, Nat.reduceLeDiff, Nat.reduceLT, Int.reduceToNat, Nat.left_eq_add, Nat.add_eq_left, Nat.add_left_cancel_iff, Nat.reduceEqDiff, Nat.add_assoc, Nat.succ_ne_zero, hm0]
  refine rfind_spec (k := (v, m)) ht hs.2 ⟨hv, hm⟩ (by omega) (fun hno w4 hF4 => ?_) fun i hi hk w4 hF4 => ?_
  · rw [atK_none hno] at h
    replace ht := ht.fr0 hF4
    replace hx3 := hF4.heap hx3 fun h => h
    replace hF := hF.trans hF4
    have hblk := ht.blk
    obtain ⟨la, lc, hL⟩ := ht.own.rd.form
    rw [List.length_map] at hL
    simp only [push_cast, Nat.reduceAdd, Nat.reduceLeDiff, Nat.reduceLT, Int.reduceToNat, Nat.left_eq_add, Nat.add_eq_left, Nat.add_left_cancel_iff, Nat.reduceEqDiff, Nat.add_assoc, Nat.succ_ne_zero]
    refine br_dec (fun hg => absurd hg (by decide)) fun _ => ?_
    rw [hL] at hblk
    simp only [push_cast, Nat.reduceAdd, Nat.reduceLeDiff, Nat.reduceLT, Int.reduceToNat, Nat.left_eq_add, Nat.add_eq_left, Nat.add_left_cancel_iff, Nat.reduceEqDiff, Nat.add_assoc, Nat.succ_ne_zero, hblk]
    refine br_dec (fun hfull => ?_) fun hfull => ?_
    · simp only [if_pos (show room ≤ r.length by omega)] at h
      exact h _ L (ht.fr0 (Fr.drew w4)) same (RT.none (hF.trans (Fr.drew w4)))
    simp only [if_neg (show ¬ room ≤ r.length by omega)] at h
    simp only [push_cast, Nat.reduceAdd, Nat.reduceLeDiff, Nat.reduceLT, Int.reduceToNat, Nat.left_eq_add, Nat.add_eq_left, Nat.add_left_cancel_iff, Nat.reduceEqDiff, Nat.add_assoc, Nat.succ_ne_zero, hx3]
    refine rins_spec (ht.fr0 (Fr.drew w4)) hs.2 hok hno (by omega) fun w5 L' ht5 hN5 hF5 => ?_
    have hsz := (hF.trans (Fr.drew w4)).size
    exact h _ L' ht5 (fun b hb => .inr (Nat.le_trans hsz (hN5 b hb))) ((RT.none (hF.trans (Fr.drew w4))).trans_new hF5 fun b _ e => .inl e)
  · rw [atK_some hs (List.getElem_mem hi) hk] at h
    replace ht := ht.fr0 hF4
    replace hx3 := hF4.heap hx3 fun h => h
    replace hF := hF.trans hF4
    obtain ⟨lb, lo, lc, hL⟩ := ht.own.form' (by rw [List.length_map]; omega)
    rw [List.length_map] at hL
    subst hL
    simp only [push_cast, Nat.reduceAdd, Nat.reduceLeDiff, Nat.reduceLT, Int.reduceToNat, Nat.left_eq_add, Nat.add_eq_left, Nat.add_left_cancel_iff, Nat.reduceEqDiff, Nat.add_assoc, Nat.succ_ne_zero]
    refine br_dec (fun _ => ?_) fun hg => absurd (by omega) hg
    simp only [push_cast, Nat.reduceAdd, Nat.reduceLeDiff, Nat.reduceLT, Int.reduceToNat, Nat.left_eq_add, Nat.add_eq_left, Nat.add_left_cancel_iff, Nat.reduceEqDiff, Nat.add_assoc, Nat.succ_ne_zero, ht.blk, hx3]
    refine s_putE (ht.own.fr (Fr.drew (fp := none_) w4) fun _ _ h => h) rfl hi fun w5 ho5 hF5 => ?_
    rw [set_with hs hi (x := ⟨v, m, a, 0, true⟩) hk hok] at ho5
    have hlq : lb ≠ q := ht.ne lb rfl
    have hb5 := hF5.heap ((Fr.drew (fp := none_) w4).heap ht.blk fun h => h) fun e => hlq e.symm
    exact h _ _ ⟨hb5, ho5, ht.ne⟩ same ((RT.none (hF.trans (Fr.drew w4))).trans_new hF5 fun b _ e => .inr (by rw [e]; rfl))

/-! ### Remove: in any order -/

section
variable {w0 : World} {q room : Nat} {L : Value} {r : List Ent}
theorem rm_ld (hR : RT w0 q room L r) (hF : Fr none_ w0 w) (hk : K L w) : opS Try.prog (S.ld 37 (pt q 1)) K w := by
  have := hF.heap hR.blk fun h => h
  simp only [push_cast, Nat.reduceAdd, Nat.reduceLeDiff, Nat.reduceLT, Int.reduceToNat, Nat.left_eq_add, Nat.add_eq_left, Nat.add_left_cancel_iff, Nat.reduceEqDiff, Nat.add_assoc, Nat.succ_ne_zero, this]
  exact hk
theorem rm_bs (hF : Fr none_ w0 w) (hk : ∀ v w', OwnE 33 10 w' v (([] : List Ent).map Ent.cells) → New w0 v → Fr none_ w0 w' → K v w') : opS Try.prog (S.buildS 37 0 []) K w :=
  s_bs0 (sz := 10) fun v w' ho hF' hN => hk v w' ho (fun b hb => Nat.le_trans hF.size (hN b hb)) (hF.trans hF')
theorem rm_slcH (hR : RT w0 q room L r) {i : Nat} (hi : i ≤ r.length) (hk : ∀ v, RdE 10 w0 v ((r.take i).map Ent.cells) → K v w) : opS Try.prog (S.slc 37 L none (some (i64 i)) none) K w := by
  have hr := hR.own.rd
  obtain ⟨a, c, rfl, hc⟩ := hr.cap
  have hl : (r.map Ent.cells).length = r.length := List.length_map _
  rw [opS_slice (run_boundsH (hi := (i : Int)) (by omega) (by omega))]
  have := hr.part (l := 0) (m := i) (by omega) (by omega)
  have e : (r.map Ent.cells).take i = (r.take i).map Ent.cells := List.map_take.symm
  rw [List.drop_zero, e] at this
  exact hk _ this
theorem rm_slcL (hR : RT w0 q room L r) {i : Nat} {x : Int} (hx : x = i) (hi : i ≤ r.length) (hk : ∀ v, RdE 10 w0 v ((r.drop i).map Ent.cells) → K v w) : opS Try.prog (S.slc 37 L (some (i64 x)) none none) K w := by
  subst hx
  have hr := hR.own.rd
  obtain ⟨a, c, rfl, hc⟩ := hr.cap
  have hl : (r.map Ent.cells).length = r.length := List.length_map _
  rw [opS_slice (run_boundsL (lo := (i : Int)) (by omega) (by omega))]
  have := hr.part (l := i) (m := (r.map Ent.cells).length) (by omega) (Nat.le_refl _)
  have e : (r.map Ent.cells).drop i = (r.drop i).map Ent.cells := List.map_drop.symm
  rw [List.take_length, e] at this
  exact hk _ this
theorem rm_app {l g : List Ent} {v u : Value} (ho : OwnE 33 10 w v (l.map Ent.cells)) (hN : New w0 v) (hF : Fr none_ w0 w) (hu : RdE 10 w0 u (g.map Ent.cells)) (hl : l.length + g.length ≤ 2 ^ 21)
    (hk : ∀ v' w', OwnE 33 10 w' v' ((l ++ g).map Ent.cells) → New w0 v' → Fr none_ w0 w' → K v' w') : opS Try.prog (S.bi .append #[37, 37] 37 [v, u]) K w := by
  refine s_app (sz := 10) (by_ := 40) (z := .agg zE.cells.toArray) rfl (by decide) ho (hu.fr hF fun _ _ h => h) (ents_one _) (by rw [List.length_map, List.length_map]; omega) fun v' w' ho' hb' hF' => hk v' w' (by rw [List.map_append]; exact ho') (fun b hb => ?_) (hF.trans_new hF' fun b hb e => by have := hN _ e; omega)
  rcases hb' with hb' | hb'
  · exact hN b (hb' ▸ hb)
  · exact Nat.le_trans hF.size (hb' b hb)
end

theorem rremove_spec {q room : Nat} {L : Value} {r : List Ent} {v : Int} {m : Mac} (ht : RT w q room L r) (hs : Srt r) (hv : isI v) (hm : m.ok) (hn : r.length ≤ 2 ^ 20)
    (h : ∀ w' L', RT w' q room L' (removeL r (v, m)).1 → NewOr w L L' → Fr (rp q L) w w' → K (.bool (removeL r (v, m)).2) w') :
    CallsR Try.prog 47 #[pt q 0, i64 v, .agg m.cells.toArray] K w := by
  apply c47
  unfold p47
  simp only [push_cast, Nat.reduceAdd, Nat.reduceLeDiff, Nat.reduceLT, Int.reduceToNat, Nat.left_eq_add, Nat.add_eq_left, Nat.add_left_cancel_iff, Nat.reduceEqDiff, Nat.add_assoc, Nat.succ_ne_zero]
  have hq0 := lt_of_heap ht.blk
  have hF : Fr none_ w (w.alloc (cellsO m.cells 24)) := (by repeat' first | with_reducible exact Fr.refl _ _ | with_reducible refine Fr.step_alloc ?_ ?_ | with_reducible refine Fr.step_drew ?_ | with_reducible refine Fr.step_wr ?_ ?_ _ _ | exact rfl | exact Or.inr (by omega) | exact Or.inl rfl | exact Or.inl (Or.inl rfl) | exact Or.inl (Or.inr rfl))
  replace ht := ht.fr0 hF
  generalize w.alloc (cellsO m.cells 24) = W at *
  unfold removeL at h
  have same : NewOr w L L := fun b hb => .inl hb
  refine rfind_spec (k := (v, m)) ht hs.2 ⟨hv, hm⟩ (by omega) (fun hno w3 hF3 => ?_) fun i hi hk w3 hF3 => ?_
  · rw [atK_none hno] at h
    simp only [push_cast, Nat.reduceAdd, Nat.reduceLeDiff, Nat.reduceLT, Int.reduceToNat, Nat.left_eq_add, Nat.add_eq_left, Nat.add_left_cancel_iff, Nat.reduceEqDiff, Nat.add_assoc, Nat.succ_ne_zero]
    refine br_dec (fun _ => ?_) fun hg => absurd (by decide) hg
    exact h _ L (ht.fr0 hF3) same (RT.none (hF.trans hF3))
  rw [atK_some hs (List.getElem_mem hi) hk] at h
  have ht3 := (ht.fr0 hF3).fr0 (Fr.drew w3)
  have hF03 := (hF.trans hF3).trans (Fr.drew w3)
  simp only [push_cast, Nat.reduceAdd, Nat.reduceLeDiff, Nat.reduceLT, Int.reduceToNat, Nat.left_eq_add, Nat.add_eq_left, Nat.add_left_cancel_iff, Nat.reduceEqDiff, Nat.add_assoc, Nat.succ_ne_zero]
  refine br_dec (fun hg => by omega) fun _ => ?_
  rw [wrap_i64 (by omega)]
  have hsz := hF03.size
  generalize w3.drew = w4 at *
  have hx1 : ((i : Int) + 1) = ((i + 1 : Nat) : Int) := by simp
  have hself : Fr none_ w4 w4 := Fr.refl _ _
  have hi1 : i + 1 ≤ r.length := hi
  have hi0 : i ≤ r.length := Nat.le_of_lt hi
  have fin : ∀ v9 w9, OwnE 33 10 w9 v9 ((([] ++ r.take i) ++ r.drop (i + 1)).map Ent.cells) → New w4 v9 → Fr none_ w4 w9 → opS Try.prog (S.nc (pt q 0)) (fun x19 => opS Try.prog (S.fa 40 x19 1) fun x20 => opS Try.prog (S.st 37 x20 v9) fun _ => K (.bool true)) w9 := by
    intro v9 w9 ho9 hN9 hF9
    have ht9 := hF9.heap ht3.blk fun h => h
    have hone := ho9.one
    rw [List.nil_append, drop_without hs hi] at ho9
    simp only [push_cast, Nat.reduceAdd, Nat.reduceLeDiff, Nat.reduceLT, Int.reduceToNat, Nat.left_eq_add, Nat.add_eq_left, Nat.add_left_cancel_iff, Nat.reduceEqDiff, Nat.add_assoc, Nat.succ_ne_zero, ht9, hone]
    refine h _ v9 ⟨?_, ?_, fun b hb e => ?_⟩ (fun b hb => .inr (Nat.le_trans hsz (hN9 b hb))) ((RT.none (hF03.trans hF9)).step_wr (.inl (.inl rfl)) _ _)
    · simp only [push_cast, Nat.reduceAdd, Nat.reduceLeDiff, Nat.reduceLT, Int.reduceToNat, Nat.left_eq_add, Nat.add_eq_left, Nat.add_left_cancel_iff, Nat.reduceEqDiff, Nat.add_assoc, Nat.succ_ne_zero, ht9]
    · refine ho9.frame fun b hb => ?_
      have hbq : ¬ b = q := fun e => by have := hN9 b hb; omega
      simp only [push_cast, Nat.reduceAdd, Nat.reduceLeDiff, Nat.reduceLT, Int.reduceToNat, Nat.left_eq_add, Nat.add_eq_left, Nat.add_left_cancel_iff, Nat.reduceEqDiff, Nat.add_assoc, Nat.succ_ne_zero, hbq]
    · have := hN9 b hb; omega
  have hl1 : (r.take i).length ≤ r.length := by rw [List.length_take]; omega
  have hl2 : (r.drop (i + 1)).length ≤ r.length := by rw [List.length_drop]; omega
  repeat' first
    | with_reducible refine allW_intro ?_ ?_
    | with_reducible refine rm_ld ht3 (by assumption) ?_
    | with_reducible refine rm_bs (w0 := w4) (by assumption) fun _ _ _ _ _ => ?_
    | with_reducible refine rm_slcH ht3 hi0 fun _ _ => ?_
    | with_reducible refine rm_slcL ht3 hx1 hi1 fun _ _ => ?_
    | (with_reducible refine rm_app (w0 := w4) (l := [] ++ r.take i) (g := r.drop (i + 1)) (by assumption) (by assumption) (by assumption) (by assumption) (by rw [List.nil_append]; omega) fun _ _ _ _ _ => ?_; exact fin _ _ (by assumption) (by assumption) (by assumption))
    | with_reducible refine rm_app (w0 := w4) (l := []) (g := r.take i) (by assumption) (by assumption) (by assumption) (by assumption) (by simp; omega) fun _ _ _ _ _ => ?_

end Go.Gx.S

namespace Go.Gx.S
open Go Go.Gx Go.Proofs
variable {K : Value → World → Prop} {w : World}

/-- how it is told of a kind: 0 old, 1 a port, 2 a VLAN -/
def KindA (kind a b : Int) (A : Ent → Bool) (r : List Ent) : Prop :=
  (kind = 0 ∧ (-4611686018427387904 ≤ a - b ∧ a - b ≤ 4611686018427387904) ∧ ∀ e ∈ r, A e = decide (e.at_ ≤ a - b)) ∨ (kind = 1 ∧ ∀ e, A e = (e.port == a)) ∨ (kind = 2 ∧ ∀ e, A e = (e.vlan == a))

theorem rforget_spec {q room : Nat} {L : Value} {r : List Ent} {A : Ent → Bool} {kind a b : Int} (ht : RT w q room L r) (hro : ∀ e ∈ r, e.ok) (hA : KindA kind a b A r) (hn : r.length ≤ 2 ^ 20)
    (h : ∀ w' L' v, RT w' q room L' (r.filter fun e => !(A e && !e.static)) → RdE 10 w' v ((r.filter fun e => A e && !e.static).map Ent.cells) → New w L' → New w v → (∀ x, blkS v = some x → blkS L' ≠ some x) → Fr (fun x => x = q) w w' → K v w') :
    CallsR Try.prog 63 #[pt q 0, i64 kind, i64 a, i64 b] K w := by
  apply c63
  unfold p63
  have hq0 := lt_of_heap ht.blk
  obtain ⟨la, lc, hL⟩ := ht.own.rd.form
  rw [List.length_map] at hL
  subst hL
  refine jn2 (fun x y w' => OwnE 33 10 w' x ((r.filter fun e => !(A e && !e.static)).map Ent.cells) ∧ OwnE 33 10 w' y ((r.filter fun e => A e && !e.static).map Ent.cells) ∧ New w x ∧ New w y ∧ (∀ z, blkS x = some z → blkS y ≠ some z) ∧ Fr none_ w w') ?_ fun j hj => ?_
  · rintro x y w2 ⟨ox, oy, nx, ny, nxy, hF2⟩
    have ht2 := ht.fr0 hF2
    have hone := ox.one
    simp only [push_cast, Nat.reduceAdd, Nat.reduceLeDiff, Nat.reduceLT, Int.reduceToNat, Nat.left_eq_add, Nat.add_eq_left, Nat.add_left_cancel_iff, Nat.reduceEqDiff, Nat.add_assoc, Nat.succ_ne_zero, ht2.blk, hone]
    refine h _ x y ⟨?_, ?_, fun b hb e => by have := nx b hb; omega⟩ ?_ nx ny (fun z hz hx => nxy z hx hz) (Fr.step_wr (fp := fun x => x = q) (RT.none hF2) (.inl rfl) _ _)
    · simp only [push_cast, Nat.reduceAdd, Nat.reduceLeDiff, Nat.reduceLT, Int.reduceToNat, Nat.left_eq_add, Nat.add_eq_left, Nat.add_left_cancel_iff, Nat.reduceEqDiff, Nat.add_assoc, Nat.succ_ne_zero, ht2.blk]
    · refine ox.frame fun b hb => ?_
      have hbq : ¬ b = q := fun e => by have := nx b hb; omega
      simp only [push_cast, Nat.reduceAdd, Nat.reduceLeDiff, Nat.reduceLT, Int.reduceToNat, Nat.left_eq_add, Nat.add_eq_left, Nat.add_left_cancel_iff, Nat.reduceEqDiff, Nat.add_assoc, Nat.succ_ne_zero, hbq]
    · refine (oy.frame fun b hb => ?_).rd
      have hbq : ¬ b = q := fun e => by have := ny b hb; omega
      simp only [push_cast, Nat.reduceAdd, Nat.reduceLeDiff, Nat.reduceLT, Int.reduceToNat, Nat.left_eq_add, Nat.add_eq_left, Nat.add_left_cancel_iff, Nat.reduceEqDiff, Nat.add_assoc, Nat.succ_ne_zero, hbq]
  refine loop3 (fun n x y z w' => ∃ i : Nat, z = i64 i ∧ n + i = r.length ∧ OwnE 33 10 w' x (((r.take i).filter fun e => !(A e && !e.static)).map Ent.cells) ∧ OwnE 33 10 w' y (((r.take i).filter fun e => A e && !e.static).map Ent.cells) ∧ New w x ∧ New w y ∧ (∀ z, blkS x = some z → blkS y ≠ some z) ∧ Fr none_ w w') ?_ r.length
    ⟨0, rfl, rfl, own_nil _ _ _, own_nil _ _ _, (fun _ hb => by cases hb), (fun _ hb => by cases hb), (fun _ hb => by cases hb), Fr.refl _ _⟩
  rintro n x y z w2 X ⟨i, rfl, hi, ox, oy, nx, ny, nxy, hF2⟩ hX
  have ht2 := ht.fr0 hF2
  simp only [push_cast, Nat.reduceAdd, Nat.reduceLeDiff, Nat.reduceLT, Int.reduceToNat, Nat.left_eq_add, Nat.add_eq_left, Nat.add_left_cancel_iff, Nat.reduceEqDiff, Nat.add_assoc, Nat.succ_ne_zero, ht2.blk]
  refine br_dec (fun hlt => ?_) fun hge => ?_
  case refine_2 =>
    have : i = r.length := by omega
    subst this
    rw [List.take_length] at ox oy
    exact hj _ _ _ ⟨ox, oy, nx, ny, nxy, hF2⟩
  have hil : i < r.length := by omega
  have hok := hro _ (List.getElem_mem hil)
  have hAe : KindA kind a b A [r[i]] := by
    rcases hA with ⟨h1, h2, h3⟩ | h1 | h1
    · exact .inl ⟨h1, h2, fun e he => h3 e (by simp at he; rw [he]; exact List.getElem_mem hil)⟩
    · exact .inr (.inl h1)
    · exact .inr (.inr h1)
  refine s_getE ht2.own.rd hil ?_
  refine ent_slot fun _ w3 hw3 hF3 => ?_
  have hsz2 := hF2.size
  have htk : ∀ P : Ent → Bool, (r.take (i + 1)).filter P = (r.take i).filter P ++ if P r[i] = true then [r[i]] else [] := fun P => by
    rw [List.take_succ_eq_append_getElem hil, List.filter_append]
    congr 1
    by_cases e : P r[i] = true <;> simp [e]
  have hlk : ∀ P : Ent → Bool, ((r.take i).filter P).length ≤ i := fun P => Nat.le_trans (List.length_filter_le _ _) (by rw [List.length_take]; omega)
  replace ox := ox.fr hF3 fun _ _ h => h
  replace oy := oy.fr hF3 fun _ _ h => h
  have hF23 := hF2.trans hF3
  generalize hsl : w2.heap.size = sl at *
  generalize r[i] = e at *
  clear ht2 hF3
  refine jn1 (fun v w' => v = .bool (A e) ∧ Fr none_ w3 w') ?_ fun j2 hj2 => ?_
  · rintro v w4 ⟨rfl, hF4⟩
    refine jn0 (fun w' => Fr none_ w3 w' ∧ (A e && !e.static) = false) ?_ fun j3 hj3 => ?_
    · rintro w5 ⟨hF5, hk⟩
      have hw5 := hF5.heap hw3 fun h => h
      have hF25 := hF23.trans hF5
      simp only [push_cast, Nat.reduceAdd, Nat.reduceLeDiff, Nat.reduceLT, Int.reduceToNat, Nat.left_eq_add, Nat.add_eq_left, Nat.add_left_cancel_iff, Nat.reduceEqDiff, Nat.add_assoc, Nat.succ_ne_zero, hw5]
      refine s_bs1 (sz := 10) (z := .agg zE.cells.toArray) (Ent.cells_length _) rfl (by decide) (by decide) fun u w6 hu hF6 hN6 => ?_
      refine s_app (sz := 10) (by_ := 40) (z := .agg zE.cells.toArray) rfl (by decide) (ox.fr (hF5.trans hF6) fun _ _ h => h) hu.rd (by simp [Ent.cells_one]) (by have := hlk fun e => !(A e && !e.static); rw [List.length_map]; simp only [List.length_cons, List.length_nil]; omega) fun v7 w7 ho7 hb7 hF7 => ?_
      have hF27 : Fr none_ w w7 := (hF25.trans hF6).trans_new hF7 fun b hb e => by have := nx _ e; omega
      have hs6 := (hF25.trans hF6).size
      have h36 := hF5.trans hF6
      have oy7 : OwnE 33 10 w7 y _ := (oy.fr h36 fun _ _ h => h).fr hF7 fun b hb e => nxy b e hb
      have hlt36 := h36.size
      simp only [push_cast, Nat.reduceAdd, Nat.reduceLeDiff, Nat.reduceLT, Int.reduceToNat, Nat.left_eq_add, Nat.add_eq_left, Nat.add_left_cancel_iff, Nat.reduceEqDiff, Nat.add_assoc, Nat.succ_ne_zero]
      rw [wrap_i64 (by omega)]
      refine hX (n - 1) _ _ _ _ (by omega) ⟨i + 1, by simp, by omega, ?_, ?_, fun b hb => ?_, ny, fun z hz hy => ?_, hF27⟩
      · rw [htk, hk]; simpa using ho7
      · rw [htk, hk]; simpa using oy7
      · rcases hb7 with hb7 | hb7
        · exact nx b (hb7 ▸ hb)
        · have := hb7 b hb; omega
      · rcases hb7 with hb7 | hb7
        · exact nxy z (hb7 ▸ hz) hy
        · have h8 := hb7 z hz
          have h9 := oy.lt hy
          omega
    · simp only [push_cast, Nat.reduceAdd, Nat.reduceLeDiff, Nat.reduceLT, Int.reduceToNat, Nat.left_eq_add, Nat.add_eq_left, Nat.add_left_cancel_iff, Nat.reduceEqDiff, Nat.add_assoc, Nat.succ_ne_zero]
      refine br_intro (fun hAt => ?_) fun hAt => hj3 _ ⟨hF4, by rw [hAt]; rfl⟩
      have hw4 := hF4.heap hw3 fun h => h
      simp only [push_cast, Nat.reduceAdd, Nat.reduceLeDiff, Nat.reduceLT, Int.reduceToNat, Nat.left_eq_add, Nat.add_eq_left, Nat.add_left_cancel_iff, Nat.reduceEqDiff, Nat.add_assoc, Nat.succ_ne_zero, hw4]
      refine br_intro (fun hst => ?_) fun hst => hj3 _ ⟨hF4, by simp at hst; simp [hst]⟩
      have hk : (A e && !e.static) = true := by rw [hAt]; simpa using hst
      have hF24 := hF23.trans hF4
      refine s_bs1 (sz := 10) (z := .agg zE.cells.toArray) (Ent.cells_length _) rfl (by decide) (by decide) fun u w6 hu hF6 hN6 => ?_
      refine s_app (sz := 10) (by_ := 40) (z := .agg zE.cells.toArray) rfl (by decide) (oy.fr (hF4.trans hF6) fun _ _ h => h) hu.rd (by simp [Ent.cells_one]) (by have := hlk fun e => A e && !e.static; rw [List.length_map]; simp only [List.length_cons, List.length_nil]; omega) fun v7 w7 ho7 hb7 hF7 => ?_
      have hF27 : Fr none_ w w7 := (hF24.trans hF6).trans_new hF7 fun b hb e => by have := ny _ e; omega
      have hs6 := (hF24.trans hF6).size
      have h36 := hF4.trans hF6
      have ox7 : OwnE 33 10 w7 x _ := (ox.fr h36 fun _ _ h => h).fr hF7 fun b hb e => nxy b hb e
      have hlt36 := h36.size
      simp only [push_cast, Nat.reduceAdd, Nat.reduceLeDiff, Nat.reduceLT, Int.reduceToNat, Nat.left_eq_add, Nat.add_eq_left, Nat.add_left_cancel_iff, Nat.reduceEqDiff, Nat.add_assoc, Nat.succ_ne_zero]
      rw [wrap_i64 (by omega)]
      refine hX (n - 1) _ _ _ _ (by omega) ⟨i + 1, by simp, by omega, ?_, ?_, nx, fun b hb => ?_, fun z hz hy => ?_, hF27⟩
      · rw [htk, hk]; simpa using ox7
      · rw [htk, hk]; simpa using ho7
      · rcases hb7 with hb7 | hb7
        · exact ny b (hb7 ▸ hb)
        · have := hb7 b hb; omega
      · rcases hb7 with hb7 | hb7
        · exact nxy z hz (hb7 ▸ hy)
        · have h8 := hb7 z hy
          have h9 := ox.lt hz
          omega
  · rcases hAe with ⟨rfl, h2, h3⟩ | ⟨rfl, h3⟩ | ⟨rfl, h3⟩
    · have h3 := h3 e (by simp)
      simp only [push_cast, Nat.reduceAdd, Nat.reduceLeDiff, Nat.reduceLT, Int.reduceToNat, Nat.left_eq_add, Nat.add_eq_left, Nat.add_left_cancel_iff, Nat.reduceEqDiff, Nat.add_assoc, Nat.succ_ne_zero]
      refine br_intro (fun _ => ?_) fun e => by simp at e
      simp only [push_cast, Nat.reduceAdd, Nat.reduceLeDiff, Nat.reduceLT, Int.reduceToNat, Nat.left_eq_add, Nat.add_eq_left, Nat.add_left_cancel_iff, Nat.reduceEqDiff, Nat.add_assoc, Nat.succ_ne_zero, hw3]
      rw [wrap_i64 (by omega), ← h3]
      exact hj2 _ _ ⟨rfl, Fr.refl _ _⟩
    · simp only [push_cast, Nat.reduceAdd, Nat.reduceLeDiff, Nat.reduceLT, Int.reduceToNat, Nat.left_eq_add, Nat.add_eq_left, Nat.add_left_cancel_iff, Nat.reduceEqDiff, Nat.add_assoc, Nat.succ_ne_zero]
      refine br_intro (fun e => by simp at e) fun _ => ?_
      rw [jn_1]
      simp only [push_cast, Nat.reduceAdd, Nat.reduceLeDiff, Nat.reduceLT, Int.reduceToNat, Nat.left_eq_add, Nat.add_eq_left, Nat.add_left_cancel_iff, Nat.reduceEqDiff, Nat.add_assoc, Nat.succ_ne_zero]
      refine br_intro (fun _ => ?_) fun e => by simp at e
      simp only [push_cast, Nat.reduceAdd, Nat.reduceLeDiff, Nat.reduceLT, Int.reduceToNat, Nat.left_eq_add, Nat.add_eq_left, Nat.add_left_cancel_iff, Nat.reduceEqDiff, Nat.add_assoc, Nat.succ_ne_zero, hw3]
      rw [← h3]
      exact hj2 _ _ ⟨rfl, Fr.refl _ _⟩
    · simp only [push_cast, Nat.reduceAdd, Nat.reduceLeDiff, Nat.reduceLT, Int.reduceToNat, Nat.left_eq_add, Nat.add_eq_left, Nat.add_left_cancel_iff, Nat.reduceEqDiff, Nat.add_assoc, Nat.succ_ne_zero]
      refine br_intro (fun e => by simp at e) fun _ => ?_
      rw [jn_1]
      simp only [push_cast, Nat.reduceAdd, Nat.reduceLeDiff, Nat.reduceLT, Int.reduceToNat, Nat.left_eq_add, Nat.add_eq_left, Nat.add_left_cancel_iff, Nat.reduceEqDiff, Nat.add_assoc, Nat.succ_ne_zero]
      refine br_intro (fun e => by simp at e) fun _ => ?_
      rw [jn_1]
      simp only [push_cast, Nat.reduceAdd, Nat.reduceLeDiff, Nat.reduceLT, Int.reduceToNat, Nat.left_eq_add, Nat.add_eq_left, Nat.add_left_cancel_iff, Nat.reduceEqDiff, Nat.add_assoc, Nat.succ_ne_zero]
      refine br_intro (fun _ => ?_) fun e => by simp at e
      simp only [push_cast, Nat.reduceAdd, Nat.reduceLeDiff, Nat.reduceLT, Int.reduceToNat, Nat.left_eq_add, Nat.add_eq_left, Nat.add_left_cancel_iff, Nat.reduceEqDiff, Nat.add_assoc, Nat.succ_ne_zero, hw3]
      rw [← h3]
      exact hj2 _ _ ⟨rfl, Fr.refl _ _⟩

theorem timedB_no {t : Int} (hn : ¬ (0 ≤ t ∧ t ≤ 1099511627776)) : timedB t = false := by
  cases e : timedB t with
  | false => rfl
  | true => exact absurd (timedB_iff.1 e) hn

theorem rage_spec {q room : Nat} {L : Value} {r : List Ent} {now lim : Int} (ht : RT w q room L r) (hro : ∀ e ∈ r, e.ok) (hn : r.length ≤ 2 ^ 20)
    (h0 : (timedB now && timedB lim) = false → K (.slice none 0 0) w)
    (h : (timedB now && timedB lim) = true → ∀ w' L' v, RT w' q room L' (r.filter fun e => !(ageA now lim e && !e.static)) → RdE 10 w' v ((r.filter fun e => ageA now lim e && !e.static).map Ent.cells) → New w L' → New w v → (∀ x, blkS v = some x → blkS L' ≠ some x) → Fr (fun x => x = q) w w' → K v w') :
    CallsR Try.prog 48 #[pt q 0, i64 now, i64 lim] K w := by
  apply c48
  unfold p48
  simp only [push_cast, Nat.reduceAdd, Nat.reduceLeDiff, Nat.reduceLT, Int.reduceToNat, Nat.left_eq_add, Nat.add_eq_left, Nat.add_left_cancel_iff, Nat.reduceEqDiff, Nat.add_assoc, Nat.succ_ne_zero]
  refine br_dec (fun h1 => h0 (by rw [timedB_no (t := now) (by omega)]; rfl)) fun h1 => ?_
  refine br_dec (fun h2 => h0 (by rw [timedB_no (t := now) (by omega)]; rfl)) fun h2 => ?_
  refine br_dec (fun h3 => h0 (by rw [Bool.and_comm, timedB_no (t := lim) (by omega)]; rfl)) fun h3 => ?_
  refine br_dec (fun h4 => h0 (by rw [Bool.and_comm, timedB_no (t := lim) (by omega)]; rfl)) fun h4 => ?_
  refine rforget_spec (A := ageA now lim) ht hro (.inl ⟨rfl, by omega, fun e he => decide_eq_decide.2 (by omega)⟩) hn (h ?_)
  rw [timedB_iff.2 ⟨by omega, by omega⟩, timedB_iff.2 ⟨by omega, by omega⟩]; rfl
theorem rfport_spec {q room : Nat} {L : Value} {r : List Ent} {a : Int} (ht : RT w q room L r) (hro : ∀ e ∈ r, e.ok) (hn : r.length ≤ 2 ^ 20)
    (h : ∀ w' L' v, RT w' q room L' (r.filter fun e => !(portA a e && !e.static)) → RdE 10 w' v ((r.filter fun e => portA a e && !e.static).map Ent.cells) → New w L' → New w v → (∀ x, blkS v = some x → blkS L' ≠ some x) → Fr (fun x => x = q) w w' → K v w') :
    CallsR Try.prog 49 #[pt q 0, i64 a] K w := by
  apply c49
  unfold p49
  simp only [push_cast, Nat.reduceAdd, Nat.reduceLeDiff, Nat.reduceLT, Int.reduceToNat, Nat.left_eq_add, Nat.add_eq_left, Nat.add_left_cancel_iff, Nat.reduceEqDiff, Nat.add_assoc, Nat.succ_ne_zero]
  exact rforget_spec (A := portA a) ht hro (.inr (.inl ⟨rfl, fun _ => rfl⟩)) hn h
theorem rfvlan_spec {q room : Nat} {L : Value} {r : List Ent} {a : Int} (ht : RT w q room L r) (hro : ∀ e ∈ r, e.ok) (hn : r.length ≤ 2 ^ 20)
    (h : ∀ w' L' v, RT w' q room L' (r.filter fun e => !(vlanA a e && !e.static)) → RdE 10 w' v ((r.filter fun e => vlanA a e && !e.static).map Ent.cells) → New w L' → New w v → (∀ x, blkS v = some x → blkS L' ≠ some x) → Fr (fun x => x = q) w w' → K v w') :
    CallsR Try.prog 50 #[pt q 0, i64 a] K w := by
  apply c50
  unfold p50
  simp only [push_cast, Nat.reduceAdd, Nat.reduceLeDiff, Nat.reduceLT, Int.reduceToNat, Nat.left_eq_add, Nat.add_eq_left, Nat.add_left_cancel_iff, Nat.reduceEqDiff, Nat.add_assoc, Nat.succ_ne_zero]
  exact rforget_spec (A := vlanA a) ht hro (.inr (.inr ⟨rfl, fun _ => rfl⟩)) hn h

/-! ### New -/

theorem pAt_rep (n i : Nat) : pAt (List.replicate n zE) i = zE := by
  by_cases h : i < n
  · rw [pAt_eq (by simpa using h), List.getElem_replicate]
  · rw [pAt_ge (by simpa using h)]

theorem pnew_spec (room : Int) (h0 : room < 1 ∨ 1024 < room → K (.tuple #[.pointer none, i64 1]) w)
    (h1 : 1 ≤ room → room ≤ 1024 → ∀ (p pb o c : Nat) (ps : List Ent) (w' : World), FT w' p pb o c room.toNat ps [] → Fr none_ w w' → w.heap.size ≤ p → w.heap.size ≤ pb → K (.tuple #[pt p 0, i64 0]) w') :
    CallsR Try.prog 17 #[i64 room] K w := by
  apply c17
  unfold p17
  simp only [push_cast, Nat.reduceAdd, Nat.reduceLeDiff, Nat.reduceLT, Int.reduceToNat, Nat.left_eq_add, Nat.add_eq_left, Nat.add_left_cancel_iff, Nat.reduceEqDiff, Nat.add_assoc, Nat.succ_ne_zero]
  refine br_dec (fun ha => h0 (.inl ha)) fun ha => ?_
  refine br_dec (fun hb => h0 (.inr hb)) fun hb => ?_
  obtain ⟨n, rfl⟩ : ∃ n : Nat, room = n := ⟨room.toNat, by omega⟩
  simp only [Int.toNat_natCast] at h1
  rw [wrap_i64 (by omega)]
  rw [opS_mks _ _ _ (by omega) (by omega) (by omega) (by rfl) (by decide)]
  have e2 : (2 * (n : Int)).toNat = 2 * n := by omega
  rw [e2]
  simp only [push_cast, Nat.reduceAdd, Nat.reduceLeDiff, Nat.reduceLT, Int.reduceToNat, Nat.left_eq_add, Nat.add_eq_left, Nat.add_left_cancel_iff, Nat.reduceEqDiff, Nat.add_assoc, Nat.succ_ne_zero]
  rw [opS_build _ rfl]
  simp only [push_cast, Nat.reduceAdd, Nat.reduceLeDiff, Nat.reduceLT, Int.reduceToNat, Nat.left_eq_add, Nat.add_eq_left, Nat.add_left_cancel_iff, Nat.reduceEqDiff, Nat.add_assoc, Nat.succ_ne_zero]
  refine h1 (by omega) (by omega) (w.heap.size + 1) w.heap.size 0 (2 * n) (List.replicate (2 * n) zE) ((w.alloc _).alloc _) ⟨⟨?_, ?_, by omega, fun e he => ?_⟩, List.length_replicate, ⟨List.length_replicate, by omega, fun k => hmF_lt (by omega) k, fun p _ hz => absurd (pAt_rep _ _) hz, fun p _ _ _ hz => absurd (pAt_rep _ _) hz⟩, ⟨Srt.nil, fun _ h => (by cases h), fun e => ⟨fun h => (by cases h), fun ⟨h1, p, _, h2⟩ => absurd ((pAt_rep (2 * n) p).symm.trans h2).symm h1⟩, fun p _ _ _ hz => absurd (pAt_rep _ _) hz⟩, Nat.zero_le _, by omega, by omega, fun _ h => by cases h⟩ ?_ (by omega) (by omega)
  · simp only [push_cast, Nat.reduceAdd, Nat.reduceLeDiff, Nat.reduceLT, Int.reduceToNat, Nat.left_eq_add, Nat.add_eq_left, Nat.add_left_cancel_iff, Nat.reduceEqDiff, Nat.add_assoc, Nat.succ_ne_zero, List.length_replicate]; rfl
  · have hzl : (zeros (2 * n) zE.cells).length = 2 * n * 10 := by rw [zeros_length]; rfl
    rw [List.length_replicate, List.map_replicate]
    refine ⟨.inr ⟨w.heap.size, 0, 2 * n, (zeros (2 * n) zE.cells).toArray, by rw [List.length_replicate], ?_, by rw [List.length_replicate]; exact Nat.le_refl _, ?_, ?_⟩, fun e he => ?_⟩
    · simp only [push_cast, Nat.reduceAdd, Nat.reduceLeDiff, Nat.reduceLT, Int.reduceToNat, Nat.left_eq_add, Nat.add_eq_left, Nat.add_left_cancel_iff, Nat.reduceEqDiff, Nat.add_assoc, Nat.succ_ne_zero]
      rfl
    · rw [List.size_toArray, hzl]; omega
    · rw [List.length_replicate, List.drop_zero, List.take_of_length_le (by rw [hzl]; exact Nat.le_refl _)]; rfl
    · rw [List.eq_of_mem_replicate he]; rfl
  · rw [List.eq_of_mem_replicate he]; exact zE_ok
  · exact ((Fr.refl _ _).step_alloc rfl).step_alloc rfl

theorem rnew_spec (room : Int) (h0 : room < 1 ∨ 1024 < room → K (.tuple #[.pointer none, i64 1]) w)
    (h1 : 1 ≤ room → room ≤ 1024 → ∀ (q : Nat) (L : Value) (w' : World), RT w' q room.toNat L [] → Fr none_ w w' → w.heap.size ≤ q → New w L → K (.tuple #[pt q 0, i64 0]) w') :
    CallsR Try.prog 24 #[i64 room] K w := by
  apply c24
  unfold p24
  simp only [push_cast, Nat.reduceAdd, Nat.reduceLeDiff, Nat.reduceLT, Int.reduceToNat, Nat.left_eq_add, Nat.add_eq_left, Nat.add_left_cancel_iff, Nat.reduceEqDiff, Nat.add_assoc, Nat.succ_ne_zero]
  refine br_dec (fun ha => h0 (.inl ha)) fun ha => ?_
  refine br_dec (fun hb => h0 (.inr hb)) fun hb => ?_
  rw [opS_build _ rfl]
  simp only [push_cast, Nat.reduceAdd, Nat.reduceLeDiff, Nat.reduceLT, Int.reduceToNat, Nat.left_eq_add, Nat.add_eq_left, Nat.add_left_cancel_iff, Nat.reduceEqDiff, Nat.add_assoc, Nat.succ_ne_zero]
  obtain ⟨n, rfl⟩ : ∃ n : Nat, room = n := ⟨room.toNat, by omega⟩
  refine h1 (by omega) (by omega) w.heap.size (.slice none 0 0) (w.alloc _) ⟨?_, own_nil _ _ _, fun b hb => (by cases hb)⟩ ?_ (Nat.le_refl _) fun b hb => by cases hb
  · simp only [push_cast, Nat.reduceAdd, Nat.reduceLeDiff, Nat.reduceLT, Int.reduceToNat, Nat.left_eq_add, Nat.add_eq_left, Nat.add_left_cancel_iff, Nat.reduceEqDiff, Nat.add_assoc, Nat.succ_ne_zero, Int.toNat_natCast]; rfl
  · exact (Fr.refl _ _).step_alloc rfl

end Go.Gx.S
