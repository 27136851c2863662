/- The laws on what changes make of entries. -/
import Derived.Test.YtogbkljoganbhaaRep5T
import Derived.Test.YtogbkljoganbhaaRep4
import Derived.Test.YtogbkljoganbhaaJour6
set_option linter.unusedVariables false
set_option linter.unusedSimpArgs false
set_option maxRecDepth 100000
namespace Go.Gx.S
open Go Go.Gx Go.Proofs
variable {K : Value → World → Prop} {w : World}

/-! ### What changes make of entries, twice -/

theorem ch_same {r r' : List Ent} {c : Ent × Bool} {k : Int × Mac} (h : eKey c.1 = k ∨ ∀ e, eKey e = k → (e ∈ r ↔ e ∈ r')) : ∀ e, eKey e = k → (e ∈ chL r c ↔ e ∈ chL r' c) := by
  intro e he
  unfold chL
  split
  · rw [mem_without, mem_without]
    rcases h with h | h
    · rw [he, h]; simp
    · rw [h e he]
  · rw [mem_with, mem_with]
    rcases h with h | h
    · rw [he, h]; simp
    · rw [h e he]
theorem chs_same {k : Int × Mac} : ∀ (cs : List (Ent × Bool)) (r r' : List Ent), ((∃ c ∈ cs, eKey c.1 = k) ∨ ∀ e, eKey e = k → (e ∈ r ↔ e ∈ r')) → ∀ e, eKey e = k → (e ∈ cs.foldl chL r ↔ e ∈ cs.foldl chL r')
  | [], r, r', h => by
    rcases h with ⟨c, hc, _⟩ | h
    · cases hc
    · exact h
  | c :: cs, r, r', h => by
    rw [List.foldl_cons, List.foldl_cons]
    refine chs_same cs _ _ ?_
    rcases h with ⟨d, hd, hk⟩ | h
    · rcases List.mem_cons.1 hd with rfl | hd
      · exact .inr (ch_same (.inl hk))
      · exact .inl ⟨d, hd, hk⟩
    · exact .inr (ch_same (.inr h))
theorem chs_other {k : Int × Mac} : ∀ (cs : List (Ent × Bool)) (r : List Ent), (∀ c ∈ cs, eKey c.1 ≠ k) → ∀ e, eKey e = k → (e ∈ cs.foldl chL r ↔ e ∈ r)
  | [], r, _, e, _ => Iff.rfl
  | c :: cs, r, h, e, he => by
    rw [List.foldl_cons, chs_other cs _ (fun d hd => h d (List.mem_cons_of_mem _ hd)) e he]
    have hc := h c (List.mem_cons_self ..)
    unfold chL
    split
    · rw [mem_without, he]
      exact ⟨fun h => h.1, fun h => ⟨h, fun e => hc e.symm⟩⟩
    · rw [mem_with, he]
      constructor
      · rintro (rfl | h)
        · exact absurd he hc
        · exact h.1
      · exact fun h => .inr ⟨h, fun e => hc e.symm⟩
theorem chs_twice {r : List Ent} (h : Srt r) {cs : List (Ent × Bool)} (hc : ∀ c ∈ cs, c.1.ok) : cs.foldl chL (cs.foldl chL r) = cs.foldl chL r := by
  refine Srt.eq ((h.chs hc).chs hc) (h.chs hc) fun e => ?_
  by_cases hk : ∃ c ∈ cs, eKey c.1 = eKey e
  · exact chs_same cs _ _ (.inl hk) e rfl
  · exact chs_other cs _ (fun c hc e2 => hk ⟨c, hc, e2⟩) e rfl

theorem replay_parts {l : List Ent} (hl : ∀ e ∈ l, e.ok) {a b : List (Ent × Bool)} (ha : ∀ c ∈ a, c.1.ok) : replayL (replayL l a) b = replayL l (a ++ b) := by
  rw [replay_self (Srt.replay hl ha)]
  unfold replayL
  rw [List.foldl_append]

/-! ### The laws -/

theorem esame_yes {a b : Value} {l : List Ent} (ha : RdE 10 w a (l.map Ent.cells)) (hb : RdE 10 w b (l.map Ent.cells)) (hlo : ∀ e ∈ l, e.ok) (hn : l.length < 2 ^ 62) (h : ∀ w', Fr none_ w w' → K (.bool true) w') :
    CallsR Try.prog 19 #[a, b] K w := by
  refine esame_spec ha hb hlo hlo hn fun w' hF => ?_
  rw [decide_eq_true rfl]
  exact h w' hF

theorem cs_ok {cs : List (Int × Ent × Bool)} {st : List (Ent × Bool)} (h : cs.map Prod.snd = st) (hs : ∀ s ∈ st, s.1.ok) : ∀ c ∈ cs, c.2.1.ok := fun c hc => hs _ (h ▸ List.mem_map_of_mem hc)
theorem cs_len {cs : List (Int × Ent × Bool)} {st : List (Ent × Bool)} (h : cs.map Prod.snd = st) : cs.length = st.length := by rw [← h, List.length_map]

theorem replays_law {lv sv : Value} {l : List Ent} {st : List (Ent × Bool)} (hl : RdE 10 w lv (l.map Ent.cells)) (hs : RdE 11 w sv (st.map stE)) (hlo : ∀ e ∈ l, e.ok) (hso : ∀ s ∈ st, s.1.ok) (h : ∀ w', Fr none_ w w' → K (.bool true) w') :
    CallsR Try.prog 5 #[lv, sv] K w := by
  apply c5
  unfold p5
  obtain ⟨la, lc, rfl⟩ := hl.form
  obtain ⟨sa, sc, rfl⟩ := hs.form
  rw [List.length_map] at hl hs ⊢
  rw [List.length_map]
  simp only [push_cast, Nat.reduceAdd, Nat.reduceLeDiff, Nat.reduceLT, Int.reduceToNat, Nat.left_eq_add, Nat.add_eq_left, Nat.add_left_cancel_iff, Nat.reduceEqDiff, Nat.add_assoc, Nat.succ_ne_zero]
  refine Jour.awake_spec fun w1 hF1 => ?_
  simp only [push_cast, Nat.reduceAdd, Nat.reduceLeDiff, Nat.reduceLT, Int.reduceToNat, Nat.left_eq_add, Nat.add_eq_left, Nat.add_left_cancel_iff, Nat.reduceEqDiff, Nat.add_assoc, Nat.succ_ne_zero]
  refine br_dec (fun h1 => h _ hF1) fun h1 => ?_
  refine br_dec (fun h2 => h _ hF1) fun h2 => ?_
  refine list_spec (f := 0) (hs.fr hF1 fun _ _ h => h) (by omega) (by omega) (by omega) fun cv cs w2 hcs hc hF2 hN2 => ?_
  have hF02 := hF1.trans hF2
  simp only [push_cast, Nat.reduceAdd, Nat.reduceLeDiff, Nat.reduceLT, Int.reduceToNat, Nat.left_eq_add, Nat.add_eq_left, Nat.add_left_cancel_iff, Nat.reduceEqDiff, Nat.add_assoc, Nat.succ_ne_zero]
  have hcl := cs_len hcs
  have hrl := replay_len l st
  refine replay_spec (hl.fr hF02 fun _ _ h => h) hc.rd hlo (cs_ok hcs hso) (by omega) (by omega) fun v w3 hv3 hF3 hN3 => ?_
  simp only [push_cast, Nat.reduceAdd, Nat.reduceLeDiff, Nat.reduceLT, Int.reduceToNat, Nat.left_eq_add, Nat.add_eq_left, Nat.add_left_cancel_iff, Nat.reduceEqDiff, Nat.add_assoc, Nat.succ_ne_zero]
  have hF03 := hF02.trans hF3
  refine rreplay_spec (hl.fr hF03 fun _ _ h => h) (hc.rd.fr hF3 fun _ _ h => h) hlo (cs_ok hcs hso) (by omega) (by omega) fun v4 w4 hv4 hF4 hN4 => ?_
  simp only [push_cast, Nat.reduceAdd, Nat.reduceLeDiff, Nat.reduceLT, Int.reduceToNat, Nat.left_eq_add, Nat.add_eq_left, Nat.add_left_cancel_iff, Nat.reduceEqDiff, Nat.add_assoc, Nat.succ_ne_zero]
  rw [hcs] at hv3 hv4
  refine esame_yes (hv3.rd.fr hF4 fun _ _ h => h) hv4.rd (Srt.replay hlo hso).2 (by omega) fun w5 hF5 => ?_
  exact h _ ((hF03.trans hF4).trans hF5)

theorem parts_law {lv sv tv : Value} {l : List Ent} {st tt : List (Ent × Bool)} (hl : RdE 10 w lv (l.map Ent.cells)) (hs : RdE 11 w sv (st.map stE)) (ht : RdE 11 w tv (tt.map stE)) (hlo : ∀ e ∈ l, e.ok) (hso : ∀ s ∈ st, s.1.ok) (hto : ∀ s ∈ tt, s.1.ok) (h : ∀ w', Fr none_ w w' → K (.bool true) w') :
    CallsR Try.prog 8 #[lv, sv, tv] K w := by
  apply c8
  unfold p8
  obtain ⟨la, lc, rfl⟩ := hl.form
  obtain ⟨sa, sc, rfl⟩ := hs.form
  obtain ⟨ta, tc, rfl⟩ := ht.form
  rw [List.length_map] at hl hs ht ⊢
  rw [List.length_map, List.length_map]
  simp only [push_cast, Nat.reduceAdd, Nat.reduceLeDiff, Nat.reduceLT, Int.reduceToNat, Nat.left_eq_add, Nat.add_eq_left, Nat.add_left_cancel_iff, Nat.reduceEqDiff, Nat.add_assoc, Nat.succ_ne_zero]
  refine Jour.awake_spec fun w1 hF1 => ?_
  simp only [push_cast, Nat.reduceAdd, Nat.reduceLeDiff, Nat.reduceLT, Int.reduceToNat, Nat.left_eq_add, Nat.add_eq_left, Nat.add_left_cancel_iff, Nat.reduceEqDiff, Nat.add_assoc, Nat.succ_ne_zero]
  refine br_dec (fun h1 => h _ hF1) fun h1 => ?_
  refine br_dec (fun h2 => h _ hF1) fun h2 => ?_
  refine br_dec (fun h3 => h _ hF1) fun h3 => ?_
  refine list_spec (f := 0) (hs.fr hF1 fun _ _ h => h) (by omega) (by omega) (by omega) fun cv cs w2 hcs hc hF2 hN2 => ?_
  have hF02 := hF1.trans hF2
  simp only [push_cast, Nat.reduceAdd, Nat.reduceLeDiff, Nat.reduceLT, Int.reduceToNat, Nat.left_eq_add, Nat.add_eq_left, Nat.add_left_cancel_iff, Nat.reduceEqDiff, Nat.add_assoc, Nat.succ_ne_zero]
  refine list_spec (f := st.length) (ht.fr hF02 fun _ _ h => h) (by omega) (by omega) (by omega) fun dv ds w3 hds hd hF3 hN3 => ?_
  have hF03 := hF02.trans hF3
  have hcl := cs_len hcs
  have hdl := cs_len hds
  have hone : ∀ (q : List (Int × Ent × Bool)), (q.map chgC).flatten.all S.oneCell = true := fun q => by
    rw [List.all_eq_true]
    intro v hv
    obtain ⟨e, he, hv⟩ := List.mem_flatten.1 hv
    obtain ⟨y, _, rfl⟩ := List.mem_map.1 he
    exact List.all_eq_true.1 (chgC.one y) v hv
  refine s_bs0 (sz := 12) fun v4 w4 ho4 hF4 hN4 => ?_
  have hF04 := hF03.trans hF4
  refine s_app (sz := 12) (by_ := 56) (z := .agg (chgC (0, ⟨0, zMac, 0, 0, false⟩, false)).toArray) rfl (by decide) ho4 (hc.rd.fr (hF3.trans hF4) fun _ _ h => h) (hone _) (by simp; omega) fun v5 w5 ho5 hb5 hF5 => ?_
  have hF5' : Fr none_ w3 w5 := hF4.trans_new hF5 fun b hb e => by have := hN4 _ e; omega
  have hN5 : New w3 v5 := fun b hb => by
    rcases hb5 with hb5 | hb5
    · exact hN4 b (hb5 ▸ hb)
    · have := hb5 b hb; have := hF4.size; omega
  refine s_app (sz := 12) (by_ := 56) (z := .agg (chgC (0, ⟨0, zMac, 0, 0, false⟩, false)).toArray) rfl (by decide) ho5 (hd.rd.fr hF5' fun _ _ h => h) (hone _) (by simp; omega) fun v6 w6 ho6 hb6 hF6 => ?_
  have hF6' : Fr none_ w3 w6 := hF5'.trans_new hF6 fun b hb e => by have := hN5 _ e; omega
  have hF06 := hF03.trans hF6'
  have ho6 : RdE 12 w6 v6 ((cs ++ ds).map chgC) := by
    have := ho6.rd
    rw [List.map_append]
    simpa using this
  have hco := cs_ok hcs hso
  have hdo := cs_ok hds hto
  simp only [push_cast, Nat.reduceAdd, Nat.reduceLeDiff, Nat.reduceLT, Int.reduceToNat, Nat.left_eq_add, Nat.add_eq_left, Nat.add_left_cancel_iff, Nat.reduceEqDiff, Nat.add_assoc, Nat.succ_ne_zero]
  refine replay_spec (hl.fr hF06 fun _ _ h => h) ho6 hlo (fun c hc => (List.mem_append.1 hc).elim (hco c) (hdo c)) (by omega) (by rw [List.length_append]; omega) fun v7 w7 hv7 hF7 hN7 => ?_
  simp only [push_cast, Nat.reduceAdd, Nat.reduceLeDiff, Nat.reduceLT, Int.reduceToNat, Nat.left_eq_add, Nat.add_eq_left, Nat.add_left_cancel_iff, Nat.reduceEqDiff, Nat.add_assoc, Nat.succ_ne_zero]
  have hF07 := hF06.trans hF7
  have hc7 := hc.rd.fr ((hF3.trans hF6').trans hF7) fun _ _ h => h
  have hd7 := hd.rd.fr (hF6'.trans hF7) fun _ _ h => h
  refine replay_spec (hl.fr hF07 fun _ _ h => h) hc7 hlo hco (by omega) (by omega) fun v8 w8 hv8 hF8 hN8 => ?_
  simp only [push_cast, Nat.reduceAdd, Nat.reduceLeDiff, Nat.reduceLT, Int.reduceToNat, Nat.left_eq_add, Nat.add_eq_left, Nat.add_left_cancel_iff, Nat.reduceEqDiff, Nat.add_assoc, Nat.succ_ne_zero]
  rw [List.map_append, hcs, hds] at hv7
  rw [hcs] at hv8
  have hrl := replay_len l st
  refine replay_spec hv8.rd (hd7.fr hF8 fun _ _ h => h) (Srt.replay hlo hso).2 hdo (by omega) (by omega) fun v9 w9 hv9 hF9 hN9 => ?_
  simp only [push_cast, Nat.reduceAdd, Nat.reduceLeDiff, Nat.reduceLT, Int.reduceToNat, Nat.left_eq_add, Nat.add_eq_left, Nat.add_left_cancel_iff, Nat.reduceEqDiff, Nat.add_assoc, Nat.succ_ne_zero]
  rw [hds, replay_parts hlo hso] at hv9
  have hrl := replay_len l (st ++ tt)
  rw [List.length_append] at hrl
  refine esame_yes (hv7.rd.fr (hF8.trans hF9) fun _ _ h => h) hv9.rd (Srt.replay hlo fun c hc => (List.mem_append.1 hc).elim (hso c) (hto c)).2 (by omega) fun w10 hF10 => ?_
  exact h _ (((hF07.trans hF8).trans hF9).trans hF10)

/-! ### What is found -/

def zEnt : Ent := ⟨0, zMac, 0, 0, false⟩
theorem zEnt.ok : zEnt.ok := ⟨isI_iff.2 (by decide), by simp [zEnt, zMac, Mac.ok, isB], isI_iff.2 (by decide), isI_iff.2 (by decide)⟩
def findR (l : List Ent) (x : Ent) : Ent × Bool := match l.find? (fun e => decide (eKey e = eKey x)) with | some e => (e, true) | none => (zEnt, false)
theorem findR_some {l : List Ent} {x e : Ent} (h : Srt l) (he : e ∈ l) (hk : eKey e = eKey x) : findR l x = (e, true) := by
  unfold findR
  cases hf : l.find? (fun e => decide (eKey e = eKey x)) with
  | none =>
    have := List.find?_eq_none.1 hf e he
    simp [hk] at this
  | some f =>
    have h1 := List.mem_of_find?_eq_some hf
    have h2 := List.find?_some hf
    simp only [decide_eq_true_eq] at h2
    rw [h.key h1 he (h2.trans hk.symm)]
theorem findR_none {l : List Ent} {x : Ent} (h : ∀ e ∈ l, eKey e ≠ eKey x) : findR l x = (zEnt, false) := by
  unfold findR
  rw [List.find?_eq_none.2 (fun e he => by simpa using h e he)]
theorem findR_ok {l : List Ent} {x : Ent} (h : ∀ e ∈ l, e.ok) : (findR l x).1.ok := by
  unfold findR
  split
  · rename_i hf
    exact h _ (List.mem_of_find?_eq_some hf)
  · exact zEnt.ok
theorem findR_eq {l r : List Ent} {x : Ent} (hl : Srt l) (hr : Srt r) (h : ∀ e, eKey e = eKey x → (e ∈ l ↔ e ∈ r)) : findR l x = findR r x := by
  by_cases hx : ∃ e ∈ l, eKey e = eKey x
  · obtain ⟨e, he, hk⟩ := hx
    rw [findR_some hl he hk, findR_some hr ((h e hk).1 he) hk]
  · rw [findR_none (fun e he hk => hx ⟨e, he, hk⟩), findR_none (fun e he hk => hx ⟨e, (h e hk).2 he, hk⟩)]
theorem findS_spec {v : Value} {l : List Ent} {x : Ent} (hv : RdE 10 w v (l.map Ent.cells)) (hs : Srt l) (hx : x.ok) (hn : l.length < 2 ^ 62) (h : ∀ w', Fr none_ w w' → K (.tuple #[.agg (findR l x).1.cells.toArray, .bool (findR l x).2]) w') :
    CallsR Try.prog 22 #[v, .agg x.cells.toArray] K w :=
  find_spec hv hs.2 hx hn (fun h0 w' hF => by have := h w' hF; rw [findR_none h0] at this; exact this) fun e he hk w' hF => by have := h w' hF; rw [findR_some hs he hk] at this; exact this

theorem twice_law {av bv sv : Value} {a b : List Ent} {st : List (Ent × Bool)} (ha : RdE 10 w av (a.map Ent.cells)) (hb : RdE 10 w bv (b.map Ent.cells)) (hs : RdE 11 w sv (st.map stE)) (hao : ∀ e ∈ a, e.ok) (hbo : ∀ e ∈ b, e.ok) (hso : ∀ s ∈ st, s.1.ok) (h : ∀ w', Fr none_ w w' → K (.bool true) w') :
    CallsR Try.prog 7 #[av, bv, sv] K w := by
  apply c7
  unfold p7
  obtain ⟨aa, ac, rfl⟩ := ha.form
  obtain ⟨ba, bc, rfl⟩ := hb.form
  obtain ⟨sa, sc, rfl⟩ := hs.form
  rw [List.length_map] at ha hb hs ⊢
  rw [List.length_map, List.length_map]
  simp only [push_cast, Nat.reduceAdd, Nat.reduceLeDiff, Nat.reduceLT, Int.reduceToNat, Nat.left_eq_add, Nat.add_eq_left, Nat.add_left_cancel_iff, Nat.reduceEqDiff, Nat.add_assoc, Nat.succ_ne_zero]
  refine Jour.awake_spec fun w1 hF1 => ?_
  simp only [push_cast, Nat.reduceAdd, Nat.reduceLeDiff, Nat.reduceLT, Int.reduceToNat, Nat.left_eq_add, Nat.add_eq_left, Nat.add_left_cancel_iff, Nat.reduceEqDiff, Nat.add_assoc, Nat.succ_ne_zero]
  refine br_dec (fun h1 => h _ hF1) fun h1 => ?_
  refine br_dec (fun h2 => h _ hF1) fun h2 => ?_
  refine br_dec (fun h3 => h _ hF1) fun h3 => ?_
  refine list_spec (f := 5) (hs.fr hF1 fun _ _ h => h) (by omega) (by omega) (by omega) fun cv cs w2 hcs hc hF2 hN2 => ?_
  have hF02 := hF1.trans hF2
  simp only [push_cast, Nat.reduceAdd, Nat.reduceLeDiff, Nat.reduceLT, Int.reduceToNat, Nat.left_eq_add, Nat.add_eq_left, Nat.add_left_cancel_iff, Nat.reduceEqDiff, Nat.add_assoc, Nat.succ_ne_zero]
  have hcl := cs_len hcs
  have hco := cs_ok hcs hso
  refine replay_spec (ha.fr hF02 fun _ _ h => h) hc.rd hao hco (by omega) (by omega) fun xv w3 hxv hF3 _ => ?_
  simp only [push_cast, Nat.reduceAdd, Nat.reduceLeDiff, Nat.reduceLT, Int.reduceToNat, Nat.left_eq_add, Nat.add_eq_left, Nat.add_left_cancel_iff, Nat.reduceEqDiff, Nat.add_assoc, Nat.succ_ne_zero]
  refine replay_spec (hb.fr (hF02.trans hF3) fun _ _ h => h) (hc.rd.fr hF3 fun _ _ h => h) hbo hco (by omega) (by omega) fun yv w4 hyv hF4 _ => ?_
  simp only [push_cast, Nat.reduceAdd, Nat.reduceLeDiff, Nat.reduceLT, Int.reduceToNat, Nat.left_eq_add, Nat.add_eq_left, Nat.add_left_cancel_iff, Nat.reduceEqDiff, Nat.add_assoc, Nat.succ_ne_zero]
  rw [hcs] at hxv hyv
  have hral := replay_len a st
  have hrbl := replay_len b st
  have hax := Srt.replay hao hso
  have hbx := Srt.replay hbo hso
  have hx4 := hxv.rd.fr hF4 fun _ _ h => h
  refine replay_spec hx4 (hc.rd.fr (hF3.trans hF4) fun _ _ h => h) hax.2 hco (by omega) (by omega) fun zv w5 hzv hF5 _ => ?_
  simp only [push_cast, Nat.reduceAdd, Nat.reduceLeDiff, Nat.reduceLT, Int.reduceToNat, Nat.left_eq_add, Nat.add_eq_left, Nat.add_left_cancel_iff, Nat.reduceEqDiff, Nat.add_assoc, Nat.succ_ne_zero]
  have htw : replayL (replayL a st) st = replayL a st := by
    rw [replay_self hax]
    exact chs_twice (Srt.nil.ents hao) hso
  rw [hcs, htw] at hzv
  refine esame_yes hzv.rd (hx4.fr hF5 fun _ _ h => h) hax.2 (by omega) fun w6 hF6 => ?_
  have hF06 := (((hF02.trans hF3).trans hF4).trans hF5).trans hF6
  have hx6 := hx4.fr (hF5.trans hF6) fun _ _ h => h
  have hy6 := hyv.rd.fr (hF5.trans hF6) fun _ _ h => h
  have heq : ∀ s ∈ st, findR (replayL a st) s.1 = findR (replayL b st) s.1 := fun s hs => findR_eq hax hbx (chs_same st _ _ (.inl ⟨s, hs, rfl⟩))
  refine jn0 (fun w' => Fr none_ w w') (fun w' hF => h w' hF) fun j hj => ?_
  refine loop1 (fun n y w' => ∃ i : Nat, y = i64 i ∧ n + i = st.length ∧ Fr none_ w6 w') ?_ st.length ⟨0, rfl, rfl, Fr.refl _ _⟩
  rintro n y w7 X ⟨i, rfl, hi, hF7⟩ hX
  simp only [push_cast, Nat.reduceAdd, Nat.reduceLeDiff, Nat.reduceLT, Int.reduceToNat, Nat.left_eq_add, Nat.add_eq_left, Nat.add_left_cancel_iff, Nat.reduceEqDiff, Nat.add_assoc, Nat.succ_ne_zero]
  refine br_dec (fun hlt => ?_) fun hge => hj _ (hF06.trans hF7)
  have hil : i < st.length := by omega
  have hsok := hso _ (List.getElem_mem hil)
  have hfe := heq _ (List.getElem_mem hil)
  have hfo := findR_ok (x := st[i].1) hbx.2
  refine s_iaE (hs.fr (hF06.trans hF7) fun _ _ h => h) (by omega) (by simpa using hil) fun _ _ _ _ he => ?_
  simp only [Int.toNat_natCast, List.getElem_map] at he ⊢
  have h0 := he.agg 0 10 (by rw [stE.len]; decide)
  rw [Nat.add_zero] at h0
  simp only [push_cast, Nat.reduceAdd, Nat.reduceLeDiff, Nat.reduceLT, Int.reduceToNat, Nat.left_eq_add, Nat.add_eq_left, Nat.add_left_cancel_iff, Nat.reduceEqDiff, Nat.add_assoc, Nat.succ_ne_zero, h0]
  refine findS_spec (hx6.fr hF7 fun _ _ h => h) hax hsok (by omega) fun w8 hF8 => ?_
  rw [hfe]
  simp only [s_ext, List.getElem?_toArray, List.getElem?_cons_zero, List.getElem?_cons_succ, onS_some]
  refine ent_slot fun _ w9 hw9 hF9 => ?_
  have hF79 := (hF7.trans hF8).trans hF9
  refine s_iaE (hs.fr (hF06.trans hF79) fun _ _ h => h) (by omega) (by simpa using hil) fun _ _ _ _ he => ?_
  simp only [Int.toNat_natCast, List.getElem_map] at he ⊢
  have h0 := he.agg 0 10 (by rw [stE.len]; decide)
  rw [Nat.add_zero] at h0
  simp only [push_cast, Nat.reduceAdd, Nat.reduceLeDiff, Nat.reduceLT, Int.reduceToNat, Nat.left_eq_add, Nat.add_eq_left, Nat.add_left_cancel_iff, Nat.reduceEqDiff, Nat.add_assoc, Nat.succ_ne_zero, h0]
  refine findS_spec (hy6.fr hF79 fun _ _ h => h) hbx hsok (by omega) fun w10 hF10 => ?_
  simp only [s_ext, List.getElem?_toArray, List.getElem?_cons_zero, List.getElem?_cons_succ, onS_some]
  refine ent_slot fun _ w11 hw11 hF11 => ?_
  have hw9' := (hF10.trans hF11).heap hw9 fun h => h
  simp only [push_cast, Nat.reduceAdd, Nat.reduceLeDiff, Nat.reduceLT, Int.reduceToNat, Nat.left_eq_add, Nat.add_eq_left, Nat.add_left_cancel_iff, Nat.reduceEqDiff, Nat.add_assoc, Nat.succ_ne_zero]
  refine br_intro (fun e => by simp at e) fun _ => ?_
  simp only [push_cast, Nat.reduceAdd, Nat.reduceLeDiff, Nat.reduceLT, Int.reduceToNat, Nat.left_eq_add, Nat.add_eq_left, Nat.add_left_cancel_iff, Nat.reduceEqDiff, Nat.add_assoc, Nat.succ_ne_zero, hw9', hw11]
  refine s_neqG (EntT.enc (d := 5) hfo) (EntT.enc (d := 5) hfo) fun q hq => ?_
  rw [Ent.lits_inj] at hq
  simp only [push_cast, Nat.reduceAdd, Nat.reduceLeDiff, Nat.reduceLT, Int.reduceToNat, Nat.left_eq_add, Nat.add_eq_left, Nat.add_left_cancel_iff, Nat.reduceEqDiff, Nat.add_assoc, Nat.succ_ne_zero]
  refine br_intro (fun e => ?_) fun _ => ?_
  · rw [hq.2 rfl] at e
    cases e
  rw [wrap_i64 (by omega)]
  exact hX (n - 1) _ _ (by omega) ⟨i + 1, by simp, by omega, (hF79.trans hF10).trans hF11⟩

end Go.Gx.S
