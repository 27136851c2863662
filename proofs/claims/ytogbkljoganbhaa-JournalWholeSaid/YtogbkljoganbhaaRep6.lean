/- What a table has now is what it had, and the changes since. -/
import Derived.Test.YtogbkljoganbhaaRep5
set_option linter.unusedVariables false
set_option linter.unusedSimpArgs false
set_option maxRecDepth 100000
namespace Go.Gx.S
open Go Go.Gx Go.Proofs
variable {K : Value → World → Prop} {w : World}

theorem ia2_0 (b : Nat) : opS Try.prog (S.ia 54 (pt b 0) (.int .i64 0)) K w = K (pt b 0) w := opS_iaA (T := 54) (E := 3) (m := 2) (n := 1) b 0 .i64 0 (by decide)
theorem ia2_1 (b : Nat) : opS Try.prog (S.ia 54 (pt b 0) (.int .i64 1)) K w = K (pt b 1) w := opS_iaA (T := 54) (E := 3) (m := 2) (n := 1) b 0 .i64 1 (by decide)

def jst (s : Ent × Bool) : List Value × Bool := (s.1.cells, s.2)
def numS (st : List (Ent × Bool)) : List (Int × Ent × Bool) := st.mapIdx fun i s => (((i + 1 : Nat) : Int), s)
theorem numS_snd (st : List (Ent × Bool)) : (numS st).map Prod.snd = st := by
  unfold numS
  refine List.ext_getElem? fun i => ?_
  rw [List.getElem?_map, List.getElem?_mapIdx]
  cases st[i]? <;> rfl
theorem chs_jst (st : List (Ent × Bool)) : Jour.chs (st.map jst) = (numS st).map chgC := by
  unfold Jour.chs numS
  refine List.ext_getElem? fun i => ?_
  rw [List.getElem?_mapIdx, List.getElem?_map, List.getElem?_map, List.getElem?_mapIdx]
  cases st[i]? <;> rfl
theorem jst_ok {st : List (Ent × Bool)} : ∀ h ∈ st.map jst, h.1.length = 10 ∧ h.1.all S.oneCell = true := fun h hh => by
  obtain ⟨s, _, rfl⟩ := List.mem_map.1 hh
  exact ⟨Ent.cells_length _, Ent.cells_one _⟩

def thenL (b : Int) (st : List (Ent × Bool)) (i : Nat) : List (Ent × Bool) := if 1 ≤ b ∧ b ≤ i then st.take b.toNat else []

theorem whole_law {lv sv : Value} {a b : Int} {l : List Ent} {st : List (Ent × Bool)} (hl : RdE 10 w lv (l.map Ent.cells)) (hs : RdE 11 w sv (st.map stE)) (hlo : ∀ e ∈ l, e.ok) (hso : ∀ s ∈ st, s.1.ok) (ha : isI a) (hb : isI b) (h : ∀ w', Fr none_ w w' → K (.bool true) w') :
    CallsR Try.prog 6 #[.agg #[i64 a, i64 b], lv, sv] K w := by
  apply c6
  unfold p6
  obtain ⟨la, lc, rfl⟩ := hl.form
  obtain ⟨sa, sc, rfl⟩ := hs.form
  rw [List.length_map] at hl hs ⊢
  rw [List.length_map]
  have hF : Fr none_ w (w.alloc (cellsO [i64 a, i64 b] 54)) := (by repeat' first | with_reducible exact Fr.refl _ _ | with_reducible refine Fr.step_alloc ?_ ?_ | with_reducible refine Fr.step_drew ?_ | with_reducible refine Fr.step_wr ?_ ?_ _ _ | exact rfl | exact Or.inr (by omega) | exact Or.inl rfl | exact Or.inl (Or.inl rfl) | exact Or.inl (Or.inr rfl))
  have h0 : (w.alloc (cellsO [i64 a, i64 b] 54)).heap[w.heap.size]? = some (cellsO [i64 a, i64 b] 54) := by simp only [push_cast, Nat.reduceAdd, Nat.reduceLeDiff, Nat.reduceLT, Int.reduceToNat, Nat.left_eq_add, Nat.add_eq_left, Nat.add_left_cancel_iff, Nat.reduceEqDiff, Nat.add_assoc, Nat.succ_ne_zero]
  simp only [opS_box, cells_agg, alloc_cellsO]
  generalize w.alloc (cellsO [i64 a, i64 b] 54) = W at *
  simp only [push_cast, Nat.reduceAdd, Nat.reduceLeDiff, Nat.reduceLT, Int.reduceToNat, Nat.left_eq_add, Nat.add_eq_left, Nat.add_left_cancel_iff, Nat.reduceEqDiff, Nat.add_assoc, Nat.succ_ne_zero]
  refine Jour.awake_spec fun w1 hF1 => ?_
  replace h0 := hF1.heap h0 fun h => h
  replace hF := hF.trans hF1
  have hold : w.heap.size < w1.heap.size := lt_of_heap h0
  clear hF1
  simp only [push_cast, Nat.reduceAdd, Nat.reduceLeDiff, Nat.reduceLT, Int.reduceToNat, Nat.left_eq_add, Nat.add_eq_left, Nat.add_left_cancel_iff, Nat.reduceEqDiff, Nat.add_assoc, Nat.succ_ne_zero, h0, ia2_0]
  refine Jour.new_spec a (fun hbad => ?_) fun hr1 hr2 p rb w2 o c es hJ hF2 hp hrb => ?_
  · simp only [push_cast, Nat.reduceAdd, Nat.reduceLeDiff, Nat.reduceLT, Int.reduceToNat, Nat.left_eq_add, Nat.add_eq_left, Nat.add_left_cancel_iff, Nat.reduceEqDiff, Nat.add_assoc, Nat.succ_ne_zero]
    refine jn0 (fun w' => Fr none_ w w') (fun w' hF => ?_) fun j hj => ?_
    · rw [jn_1]
      simp only [push_cast, Nat.reduceAdd, Nat.reduceLeDiff, Nat.reduceLT, Int.reduceToNat, Nat.left_eq_add, Nat.add_eq_left, Nat.add_left_cancel_iff, Nat.reduceEqDiff, Nat.add_assoc, Nat.succ_ne_zero]
      exact h _ hF
    · simp only [push_cast, Nat.reduceAdd, Nat.reduceLeDiff, Nat.reduceLT, Int.reduceToNat, Nat.left_eq_add, Nat.add_eq_left, Nat.add_left_cancel_iff, Nat.reduceEqDiff, Nat.add_assoc, Nat.succ_ne_zero]
      exact hj _ hF
  replace h0 := hF2.heap h0 fun h => h
  replace hF := hF.trans hF2
  simp only [push_cast, Nat.reduceAdd, Nat.reduceLeDiff, Nat.reduceLT, Int.reduceToNat, Nat.left_eq_add, Nat.add_eq_left, Nat.add_left_cancel_iff, Nat.reduceEqDiff, Nat.add_assoc, Nat.succ_ne_zero]
  refine jn0 (fun w' => Fr none_ w w') (fun w' hF => ?_) fun j hj => ?_
  · rw [jn_1]
    simp only [push_cast, Nat.reduceAdd, Nat.reduceLeDiff, Nat.reduceLT, Int.reduceToNat, Nat.left_eq_add, Nat.add_eq_left, Nat.add_left_cancel_iff, Nat.reduceEqDiff, Nat.add_assoc, Nat.succ_ne_zero]
    exact h _ hF
  simp only [push_cast, Nat.reduceAdd, Nat.reduceLeDiff, Nat.reduceLT, Int.reduceToNat, Nat.left_eq_add, Nat.add_eq_left, Nat.add_left_cancel_iff, Nat.reduceEqDiff, Nat.add_assoc, Nat.succ_ne_zero]
  refine br_dec (fun h1 => hj _ hF) fun h1 => ?_
  refine br_dec (fun h2 => hj _ hF) fun h2 => ?_
  have hz : RdE 12 w2 (.slice none 0 0) (([] : List (Int × Ent × Bool)).map chgC) := (own_nil 48 12 w2).rd
  refine replay_spec (hl.fr hF fun _ _ h => h) hz hlo (by simp) (by omega) (by simp) fun tv w3 ht hF3 hN3 => ?_
  replace h0 := hF3.heap h0 fun h => h
  have hpl := lt_of_heap hJ.blk
  have hrl := hJ.ring.lt (b := rb) rfl
  replace hJ := hJ.fr hF3 (fun h => h) (fun h => h)
  replace hF := hF.trans hF3
  have hsz := hF3.size
  refine jn2 (fun t n w' => ∃ es', Jour.JRep w' p rb a.toNat (st.map jst) o c es' ∧ RdE 10 w' t ((replayL l (thenL b st st.length)).map Ent.cells) ∧ RdE 10 w' n ((replayL l st).map Ent.cells) ∧ w'.heap[w.heap.size]? = some (cellsO [i64 a, i64 b] 54) ∧ Fr none_ w w') ?_ fun j1 hj1 => ?_
  · rintro t n w4 ⟨es', hJ4, ht4, hn4, h4, hF4⟩
    have hgl : (st.map jst).length = st.length := List.length_map _
    refine jn0 (fun w' => Jour.JRep w' p rb a.toNat (st.map jst) o c es' ∧ (b < 0 ∨ (st.length : Int) < b) ∧ w'.heap[w.heap.size]? = some (cellsO [i64 a, i64 b] 54) ∧ Fr none_ w w') ?_ fun j2 hj2 => ?_
    · rintro w5 ⟨hJ5, hbad, h5, hF5⟩
      simp only [push_cast, Nat.reduceAdd, Nat.reduceLeDiff, Nat.reduceLT, Int.reduceToNat, Nat.left_eq_add, Nat.add_eq_left, Nat.add_left_cancel_iff, Nat.reduceEqDiff, Nat.add_assoc, Nat.succ_ne_zero, h5, ia2_1]
      refine Jour.since_spec hJ5 (by omega) (by omega) (by omega) jst_ok (fun _ w6 hF6 => ?_) fun g1 g2 _ => ?_
      · simp only [push_cast, Nat.reduceAdd, Nat.reduceLeDiff, Nat.reduceLT, Int.reduceToNat, Nat.left_eq_add, Nat.add_eq_left, Nat.add_left_cancel_iff, Nat.reduceEqDiff, Nat.add_assoc, Nat.succ_ne_zero]
        exact h _ (hF5.trans hF6)
      · rw [hgl] at g2
        omega
    simp only [push_cast, Nat.reduceAdd, Nat.reduceLeDiff, Nat.reduceLT, Int.reduceToNat, Nat.left_eq_add, Nat.add_eq_left, Nat.add_left_cancel_iff, Nat.reduceEqDiff, Nat.add_assoc, Nat.succ_ne_zero, h4, ia2_1]
    refine br_dec (fun g1 => hj2 _ ⟨hJ4, .inl g1, h4, hF4⟩) fun g1 => ?_
    refine br_dec (fun g2 => hj2 _ ⟨hJ4, .inr g2, h4, hF4⟩) fun g2 => ?_
    have hth : thenL b st st.length = st.take b.toNat := by
      unfold thenL
      by_cases e : 1 ≤ b
      · rw [if_pos ⟨e, by omega⟩]
      · rw [if_neg (by omega)]
        have : b = 0 := by omega
        subst this
        rfl
    rw [hth] at ht4
    refine Jour.since_spec hJ4 (by omega) (by omega) (by omega) jst_ok (fun hno w6 hF6 => ?_) fun _ _ hroom w6 v6 hv6 hF6 => ?_
    · have h6 := hF6.heap h4 fun h => h
      simp only [push_cast, Nat.reduceAdd, Nat.reduceLeDiff, Nat.reduceLT, Int.reduceToNat, Nat.left_eq_add, Nat.add_eq_left, Nat.add_left_cancel_iff, Nat.reduceEqDiff, Nat.add_assoc, Nat.succ_ne_zero, h6, ia2_0, ia2_1]
      rw [wrap_i64 (by omega), decide_eq_false (by rw [hgl] at hno; omega)]
      refine br_intro (fun e => by simp at e) fun _ => ?_
      exact h _ (hF4.trans hF6)
    · have h6 := hF6.heap h4 fun h => h
      simp only [push_cast, Nat.reduceAdd, Nat.reduceLeDiff, Nat.reduceLT, Int.reduceToNat, Nat.left_eq_add, Nat.add_eq_left, Nat.add_left_cancel_iff, Nat.reduceEqDiff, Nat.add_assoc, Nat.succ_ne_zero, h6, ia2_0, ia2_1]
      rw [wrap_i64 (by omega), decide_eq_true (by rw [hgl] at hroom; omega)]
      refine br_intro (fun e => by simp at e) fun _ => ?_
      rw [chs_jst, ← List.map_drop] at hv6
      have hsd : ((numS st).drop b.toNat).map Prod.snd = st.drop b.toNat := by rw [List.map_drop, numS_snd]
      have htk : ∀ s ∈ st.take b.toNat, s.1.ok := fun s hs => hso s (List.mem_of_mem_take hs)
      have hdk : ∀ s ∈ st.drop b.toNat, s.1.ok := fun s hs => hso s (List.mem_of_mem_drop hs)
      have hdl := cs_len hsd
      have hdl2 : (st.drop b.toNat).length ≤ st.length := by rw [List.length_drop]; omega
      have hrl := replay_len l (st.take b.toNat)
      rw [List.length_take] at hrl
      refine replay_spec (ht4.fr hF6 fun _ _ h => h) hv6 (Srt.replay hlo htk).2 (cs_ok hsd hdk) (by omega) (by omega) fun v7 w7 hv7 hF7 _ => ?_
      simp only [push_cast, Nat.reduceAdd, Nat.reduceLeDiff, Nat.reduceLT, Int.reduceToNat, Nat.left_eq_add, Nat.add_eq_left, Nat.add_left_cancel_iff, Nat.reduceEqDiff, Nat.add_assoc, Nat.succ_ne_zero]
      rw [hsd, replay_parts hlo htk, List.take_append_drop] at hv7
      have hrl2 := replay_len l st
      exact esame_yes hv7.rd (hn4.fr (hF6.trans hF7) fun _ _ h => h) (Srt.replay hlo hso).2 (by omega) fun w8 hF8 => h _ (((hF4.trans hF6).trans hF7).trans hF8)
  · have hbn : ∀ {v : Value}, New w2 v → ∀ x, blkS v = some x → ¬ (x = p ∨ x = rb) := fun hN x hx e => by have := hN x hx; omega
    refine loop3 (fun n t y x w' => ∃ (i : Nat) (es' : List (List Value)), x = i64 i ∧ n + i = st.length ∧ Jour.JRep w' p rb a.toNat ((st.take i).map jst) o c es' ∧ RdE 10 w' t ((replayL l (thenL b st i)).map Ent.cells) ∧ RdE 10 w' y ((replayL l (st.take i)).map Ent.cells) ∧ New w2 t ∧ New w2 y ∧ w2.heap.size ≤ w'.heap.size ∧ w'.heap[w.heap.size]? = some (cellsO [i64 a, i64 b] 54) ∧ Fr none_ w w') ?_ st.length ⟨0, es, rfl, rfl, hJ, ?_, ht.rd, hN3, hN3, hsz, h0, hF⟩
    case refine_2 =>
      unfold thenL
      rw [if_neg (by omega)]
      exact ht.rd
    rintro n t y x w4 X ⟨i, es', rfl, hi, hJ4, ht4, hy4, hNt, hNy, hs24, h4, hF4⟩ hX
    simp only [push_cast, Nat.reduceAdd, Nat.reduceLeDiff, Nat.reduceLT, Int.reduceToNat, Nat.left_eq_add, Nat.add_eq_left, Nat.add_left_cancel_iff, Nat.reduceEqDiff, Nat.add_assoc, Nat.succ_ne_zero]
    refine br_dec (fun hlt => ?_) fun hge => ?_
    case refine_2 =>
      have : i = st.length := by omega
      subst this
      rw [List.take_length] at hJ4 hy4
      exact hj1 _ _ _ ⟨es', hJ4, ht4, hy4, h4, hF4⟩
    have hil : i < st.length := by omega
    have hFd : Fr none_ w4 w4.drew := Fr.drew _
    have hsz4 := hF4.size
    replace hJ4 := hJ4.fr hFd (fun h => h) (fun h => h)
    replace ht4 := ht4.fr hFd fun _ _ h => h
    replace hy4 := hy4.fr hFd fun _ _ h => h
    replace h4 := hFd.heap h4 fun h => h
    replace hF4 := hF4.trans hFd
    replace hs24 := Nat.le_trans hs24 hFd.size
    generalize w4.drew = w5 at *
    refine s_iaE (hs.fr hF4 fun _ _ h => h) (by omega) (by simpa using hil) fun _ _ _ _ he => ?_
    simp only [Int.toNat_natCast, List.getElem_map] at he ⊢
    have g0 := he.agg 0 10 (by rw [stE.len]; decide)
    rw [Nat.add_zero] at g0
    simp only [push_cast, Nat.reduceAdd, Nat.reduceLeDiff, Nat.reduceLT, Int.reduceToNat, Nat.left_eq_add, Nat.add_eq_left, Nat.add_left_cancel_iff, Nat.reduceEqDiff, Nat.add_assoc, Nat.succ_ne_zero, g0]
    refine s_iaE (hs.fr hF4 fun _ _ h => h) (by omega) (by simpa using hil) fun _ _ _ _ he => ?_
    simp only [Int.toNat_natCast, List.getElem_map] at he ⊢
    have g1 := he.cell 10 (by rw [stE.len]; decide)
    rw [Nat.add_assoc] at g1
    simp only [push_cast, Nat.reduceAdd, Nat.reduceLeDiff, Nat.reduceLT, Int.reduceToNat, Nat.left_eq_add, Nat.add_eq_left, Nat.add_left_cancel_iff, Nat.reduceEqDiff, Nat.add_assoc, Nat.succ_ne_zero, g1]
    have hgl : ((st.take i).map jst).length = i := by rw [List.length_map, List.length_take]; omega
    refine Jour.put_spec hJ4 (by omega) (by omega) (Ent.cells_length _) (Ent.cells_one _) (by omega) fun w6 es6 hJ6 hF6 => ?_
    rw [hgl]
    simp only [push_cast, Nat.reduceAdd, Nat.reduceLeDiff, Nat.reduceLT, Int.reduceToNat, Nat.left_eq_add, Nat.add_eq_left, Nat.add_left_cancel_iff, Nat.reduceEqDiff, Nat.add_assoc, Nat.succ_ne_zero]
    rw [wrap_i64 (by omega)]
    refine br_intro (fun e => by simp at e) fun _ => ?_
    refine br_intro (fun e => by simp at e) fun _ => ?_
    have hF56 : Fr none_ w w6.drew := (hF4.trans_new hF6 fun b hb e => by omega).step_drew
    have h66 : w6.drew.heap[w.heap.size]? = some (cellsO [i64 a, i64 b] 54) := (hF6.step_drew).heap h4 (by omega)
    have ht6 := ht4.fr hF6.step_drew fun x hx => hbn hNt x hx
    have hy6 := hy4.fr hF6.step_drew fun x hx => hbn hNy x hx
    have hsz6 := hF6.size
    replace hJ6 := hJ6.fr (Fr.drew (fp := none_) w6) (fun h => h) (fun h => h)
    have hsz7 : w6.drew.heap.size = w6.heap.size := rfl
    generalize w6.drew = w7 at *
    refine s_iaE (hs.fr hF56 fun _ _ h => h) (by omega) (by simpa using hil) fun _ _ _ _ he => ?_
    simp only [Int.toNat_natCast, List.getElem_map] at he ⊢
    have g0 := he.agg 0 10 (by rw [stE.len]; decide)
    rw [Nat.add_zero] at g0
    simp only [push_cast, Nat.reduceAdd, Nat.reduceLeDiff, Nat.reduceLT, Int.reduceToNat, Nat.left_eq_add, Nat.add_eq_left, Nat.add_left_cancel_iff, Nat.reduceEqDiff, Nat.add_assoc, Nat.succ_ne_zero, g0]
    refine s_iaE (hs.fr hF56 fun _ _ h => h) (by omega) (by simpa using hil) fun _ _ _ _ he => ?_
    simp only [Int.toNat_natCast, List.getElem_map] at he ⊢
    have g1 := he.cell 10 (by rw [stE.len]; decide)
    rw [Nat.add_assoc] at g1
    simp only [push_cast, Nat.reduceAdd, Nat.reduceLeDiff, Nat.reduceLT, Int.reduceToNat, Nat.left_eq_add, Nat.add_eq_left, Nat.add_left_cancel_iff, Nat.reduceEqDiff, Nat.add_assoc, Nat.succ_ne_zero, g1]
    rw [build_chg]
    refine s_bs1 (sz := 12) (z := .agg (chgC (0, ⟨0, zMac, 0, 0, false⟩, false)).toArray) (chgC.len _) rfl (by decide) (by decide) fun v8 w8 hv8 hF8 hN8 => ?_
    have hsok := hso _ (List.getElem_mem hil)
    have htk : ∀ s ∈ st.take i, s.1.ok := fun s hs => hso s (List.mem_of_mem_take hs)
    have hrl2 := replay_len l (st.take i)
    rw [List.length_take] at hrl2
    have hv8' : RdE 12 w8 v8 ([((i : Int) + 1, st[i].1, st[i].2)].map chgC) := hv8.rd
    refine replay_spec (hy6.fr hF8 fun _ _ h => h) hv8' (Srt.replay hlo htk).2 (by simpa using hsok) (by omega) (by simp) fun v9 w9 hv9 hF9 hN9 => ?_
    have hre : replayL (replayL l (st.take i)) ([((i : Int) + 1, st[i].1, st[i].2)].map Prod.snd) = replayL l (st.take (i + 1)) := by
      rw [replay_parts hlo htk, List.take_succ_eq_append_getElem hil]; rfl
    rw [hre] at hv9
    have hF89 := hF8.trans hF9
    have h9 := hF89.heap h66 fun h => h
    have hJ9 := hJ6.fr hF89 (fun h => h) (fun h => h)
    have hsz8 := hF8.size
    have hsz9 := hF9.size
    have hN9' : New w2 v9 := fun x hx => by have := hN9 x hx; omega
    have hst : (st.take i).map jst ++ [(st[i].1.cells, st[i].2)] = (st.take (i + 1)).map jst := by
      rw [List.take_succ_eq_append_getElem hil, List.map_append]; rfl
    rw [hst] at hJ9
    simp only [push_cast, Nat.reduceAdd, Nat.reduceLeDiff, Nat.reduceLT, Int.reduceToNat, Nat.left_eq_add, Nat.add_eq_left, Nat.add_left_cancel_iff, Nat.reduceEqDiff, Nat.add_assoc, Nat.succ_ne_zero, h9, ia2_1]
    rw [wrap_i64 (by omega)]
    refine br_intro (fun e => ?_) fun e => ?_
    · have e : (i : Int) + 1 = b := by simpa using e
      refine hX (n - 1) _ _ _ _ (by omega) ⟨i + 1, es6, by simp, by omega, hJ9, ?_, hv9.rd, hN9', hN9', by omega, h9, hF56.trans hF89⟩
      have : thenL b st (i + 1) = st.take (i + 1) := by
        unfold thenL
        rw [if_pos (by omega)]
        have : b.toNat = i + 1 := by omega
        rw [this]
      rw [this]
      exact hv9.rd
    · have e : (i : Int) + 1 ≠ b := by simpa using e
      refine hX (n - 1) _ _ _ _ (by omega) ⟨i + 1, es6, by simp, by omega, hJ9, ?_, hv9.rd, hNt, hN9', by omega, h9, hF56.trans hF89⟩
      have : thenL b st (i + 1) = thenL b st i := by
        unfold thenL
        by_cases g : 1 ≤ b ∧ b ≤ i
        · rw [if_pos (by omega), if_pos g]
        · rw [if_neg (by omega), if_neg g]
      rw [this]
      exact ht6.fr hF89 fun _ _ h => h

end Go.Gx.S
