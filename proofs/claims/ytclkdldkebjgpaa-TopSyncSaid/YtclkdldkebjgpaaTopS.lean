/- A table whose changes are journalled, and replayed, is told as it is. -/
import Derived.Test.YtclkdldkebjgpaaTopST
import Derived.Test.YtclkdldkebjgpaaTopRp
import Derived.Test.YtclkdldkebjgpaaTopJ
set_option linter.unusedVariables false
set_option linter.unusedSimpArgs false
set_option maxRecDepth 100000
namespace Go.Gx.S
open Go Go.Gx Go.Proofs
variable {K : Value → World → Prop} {w : World}

structure FStp where
  d : Int
  v : Int
  m : Mac
  p : Int
  t : Int
  n : Int
def FStp.cells (s : FStp) : List Value := i64 s.d :: i64 s.v :: (s.m.cells ++ [i64 s.p, i64 s.t, i64 s.n])
def FStp.ok (s : FStp) : Prop := isI s.d ∧ isI s.v ∧ s.m.ok ∧ isI s.p ∧ isI s.t ∧ isI s.n
theorem FStp.len (s : FStp) : s.cells.length = 11 := id rfl
theorem FStp.one (s : FStp) : s.cells.all S.oneCell = true := id rfl
theorem FStp.g0 (s : FStp) : s.cells[0]? = some (i64 s.d) := id rfl
theorem FStp.g1 (s : FStp) : s.cells[1]? = some (i64 s.v) := id rfl
theorem FStp.d2 (s : FStp) : (s.cells.drop 2).take 6 = s.m.cells := id rfl
theorem FStp.g8 (s : FStp) : s.cells[8]? = some (i64 s.p) := id rfl
theorem FStp.g9 (s : FStp) : s.cells[9]? = some (i64 s.t) := id rfl
theorem FStp.g10 (s : FStp) : s.cells[10]? = some (i64 s.n) := id rfl
attribute [push_cast] FStp.len FStp.g0 FStp.g1 FStp.d2 FStp.g8 FStp.g9 FStp.g10

theorem stp_slot {s : FStp} {R : Value → Value → World → Prop} (h : ∀ u w', w'.heap[w.heap.size]? = some (cellsO s.cells 36) → Fr none_ w w' → R (pt w.heap.size 0) u w') :
    opS Try.prog (S.alloc 36) (fun x => opS Try.prog (S.st 36 x (.agg s.cells.toArray)) (R x)) w := by
  have hz : opS Try.prog (S.alloc 36) (fun x => opS Try.prog (S.st 36 x (.agg s.cells.toArray)) (R x)) w = opS Try.prog (S.st 36 (pt w.heap.size 0) (.agg s.cells.toArray)) (R (pt w.heap.size 0)) (w.alloc (cellsO (FStp.cells ⟨0, 0, zMac, 0, 0, 0⟩) 36)) := by
    rw [opS_alloc]; rfl
  rw [hz, s_stA _ _ s.cells rfl rfl, heap_alloc_new, okAt_cells]
  have e : splice (FStp.cells ⟨0, 0, zMac, 0, 0, 0⟩) 0 s.cells = s.cells := rfl
  rw [show decide (0 + s.cells.length ≤ (FStp.cells ⟨0, 0, zMac, 0, 0, 0⟩).length) = true from rfl, onB_true]
  refine h _ _ ?_ (Fr.step_wr (Fr.step_alloc (Fr.refl _ _) rfl) (.inr (Nat.le_refl _)) _ _)
  rw [heap_wr, if_pos rfl, heap_alloc_new, putAt_cells, e]

/-! ### Plain -/

def jst (s : Ent × Bool) : List Value × Bool := (s.1.cells, s.2)
def numS (st : List (Ent × Bool)) : List (Int × Ent × Bool) := st.mapIdx fun i s => (((i + 1 : Nat) : Int), s)
theorem numS_snd (st : List (Ent × Bool)) : (numS st).map Prod.snd = st := by
  unfold numS
  refine List.ext_getElem? fun i => ?_
  rw [List.getElem?_map, List.getElem?_mapIdx]
  cases st[i]? <;> rfl
theorem chs_jst (st : List (Ent × Bool)) : Jour.chs (st.map jst) = (numS st).map Rp.chgC := by
  unfold Jour.chs numS
  refine List.ext_getElem? fun i => ?_
  rw [List.getElem?_mapIdx, List.getElem?_map, List.getElem?_map, List.getElem?_mapIdx]
  cases st[i]? <;> rfl
theorem jst_ok {st : List (Ent × Bool)} : ∀ h ∈ st.map jst, h.1.length = 10 ∧ h.1.all S.oneCell = true := fun h hh => by
  obtain ⟨s, _, rfl⟩ := List.mem_map.1 hh
  exact ⟨Ent.cells_length _, Ent.cells_one _⟩

theorem with_self {r : List Ent} (h : Srt r) {x : Ent} (hx : x ∈ r) : withL r x = r := by
  refine (h.with (h.2 x hx)).eq h fun e => ?_
  rw [mem_with]
  constructor
  · rintro (rfl | h1)
    · exact hx
    · exact h1.1
  · intro he
    by_cases hk : eKey e = eKey x
    · exact .inl (h.key he hx hk)
    · exact .inr ⟨he, hk⟩
theorem learn_put {room : Nat} {r : List Ent} {v p t : Int} {m : Mac} (h : Srt r) (hv : isI v) (hm : m.ok) (hp : isI p) (ht : isI t) (he : (learnL room r v m p t).2.2 = 0) :
    ∃ x, x.ok ∧ atK (learnL room r v m p t).1 (v, m) = some x ∧ (learnL room r v m p t).1 = withL r x := by
  have hx : (⟨v, m, p, t, false⟩ : Ent).ok := ⟨hv, hm, hp, ht⟩
  have hw : atK (withL r ⟨v, m, p, t, false⟩) (v, m) = some ⟨v, m, p, t, false⟩ := by
    rw [atK_with h hx]
    exact if_pos rfl
  unfold learnL at he ⊢
  split at he
  · rename_i hc
    rw [if_pos hc]
    split at he
    · rename_i e ha
      split at he
      · rename_i hst
        simp only [ha, hst, if_true]
        have hm := (atK_mem ha).1
        exact ⟨e, h.2 e hm, rfl, (with_self h hm).symm⟩
      · rename_i hst
        simp only [ha, hst, if_false]
        exact ⟨_, hx, hw, rfl⟩
    · rename_i ha
      split at he
      · cases he
      · rename_i hfull
        simp only [ha, if_neg hfull]
        exact ⟨_, hx, hw, rfl⟩
  · cases he
theorem rem_chs (g : List Ent) (r : List Ent) : (g.map fun e => (e, true)).foldl chL r = remAll r g := by
  unfold remAll
  rw [List.foldl_map]
  rfl

/-! ### Both -/

structure TJ (N : Nat) (w : World) (p pb o c jp rb jo jc : Nat) (ps r : List Ent) (hs : List (Ent × Bool)) (es : List (List Value)) : Prop where
  t : FT w p pb o c 8 ps r
  j : Jour.JRep w jp rb 200 (hs.map jst) jo jc es
  n1 : jp ≠ p ∧ jp ≠ pb ∧ rb ≠ p ∧ rb ≠ pb
  n2 : N ≤ p ∧ N ≤ pb ∧ N ≤ jp ∧ N ≤ rb
  ok : ∀ h ∈ hs, h.1.ok
/-- a block that is none of these -/
def free4 (p pb jp rb : Nat) (v : Value) : Prop := ∀ b, blkS v = some b → b ≠ p ∧ b ≠ pb ∧ b ≠ jp ∧ b ≠ rb

section
variable {N p pb o c jp rb jo jc : Nat} {ps r : List Ent} {hs : List (Ent × Bool)} {es : List (List Value)}
theorem TJ.fr0 {w' : World} (h : TJ N w p pb o c jp rb jo jc ps r hs es) (hF : Fr none_ w w') : TJ N w' p pb o c jp rb jo jc ps r hs es := ⟨h.t.fr0 hF, h.j.fr hF (fun h => h) (fun h => h), h.n1, h.n2, h.ok⟩
theorem TJ.tab {w' : World} {ps' r' : List Ent} (h : TJ N w p pb o c jp rb jo jc ps r hs es) (hF : Fr (pp p pb) w w') (ht : FT w' p pb o c 8 ps' r') : TJ N w' p pb o c jp rb jo jc ps' r' hs es := by
  have h1 := h.n1
  exact ⟨ht, h.j.fr hF (fun e => by unfold pp at e; omega) (fun e => by unfold pp at e; omega), h.n1, h.n2, h.ok⟩
theorem TJ.jour {w' : World} {es' : List (List Value)} {x : Ent} {g : Bool} (h : TJ N w p pb o c jp rb jo jc ps r hs es) (hx : x.ok) (hF : Fr (fun b => b = jp ∨ b = rb) w w') (hj : Jour.JRep w' jp rb 200 (hs.map jst ++ [(x.cells, g)]) jo jc es') : TJ N w' p pb o c jp rb jo jc ps r (hs ++ [(x, g)]) es' := by
  have h1 := h.n1
  refine ⟨h.t.fr hF (fun e => by omega) (fun e => by omega), ?_, h.n1, h.n2, fun y hy => ?_⟩
  · rw [List.map_append]; exact hj
  · rcases List.mem_append.1 hy with hy | hy
    · exact h.ok y hy
    · simp at hy; rw [hy]; exact hx
theorem TJ.none {w0 w' : World} {fp : Nat → Prop} (h : TJ N w p pb o c jp rb jo jc ps r hs es) (hN : w0.heap.size ≤ N) (hF0 : Fr none_ w0 w) (hF : Fr fp w w') (hfp : ∀ b, fp b → b = p ∨ b = pb ∨ b = jp ∨ b = rb) : Fr none_ w0 w' := hF0.trans_new hF fun b hb e => by
  have h2 := h.n2
  have := hfp b e
  omega
end

theorem sync_law {lv : Value} {st : List FStp} {begin : Int} (hl : RdE 11 w lv (st.map FStp.cells)) (hso : ∀ s ∈ st, s.ok) (h : ∀ w', Fr none_ w w' → K (.bool true) w') : CallsR Try.prog 3 #[lv, i64 begin] K w := by
  apply c3
  unfold p3
  obtain ⟨la, lc, rfl⟩ := hl.form
  rw [List.length_map] at hl ⊢
  simp only [push_cast, Nat.reduceAdd, Nat.reduceLeDiff, Nat.reduceLT, Int.reduceToNat, Nat.left_eq_add, Nat.add_eq_left, Nat.add_left_cancel_iff, Nat.reduceEqDiff, Nat.add_assoc, Nat.succ_ne_zero]
  refine pnew_spec 8 (fun hbad => absurd hbad (by decide)) fun _ _ p pb o c ps w1 ht hF1 hp hpb => ?_
  have e8 : Int.toNat 8 = 8 := rfl
  rw [e8] at ht
  simp only [push_cast, Nat.reduceAdd, Nat.reduceLeDiff, Nat.reduceLT, Int.reduceToNat, Nat.left_eq_add, Nat.add_eq_left, Nat.add_left_cancel_iff, Nat.reduceEqDiff, Nat.add_assoc, Nat.succ_ne_zero]
  refine Jour.new_spec 200 (fun hbad => absurd hbad (by decide)) fun _ _ jp rb w2 jo jc es hJ hF2 hjp hrb => ?_
  have e200 : Int.toNat 200 = 200 := rfl
  rw [e200] at hJ
  simp only [push_cast, Nat.reduceAdd, Nat.reduceLeDiff, Nat.reduceLT, Int.reduceToNat, Nat.left_eq_add, Nat.add_eq_left, Nat.add_left_cancel_iff, Nat.reduceEqDiff, Nat.add_assoc, Nat.succ_ne_zero]
  refine br_intro (fun e => by simp at e) fun _ => ?_
  refine br_intro (fun e => by simp at e) fun _ => ?_
  have hlt := ht.fb.lt
  have hs1 := hF1.size
  have hT0 : TJ w.heap.size w2 p pb o c jp rb jo jc ps [] [] es := ⟨ht.fr0 hF2, hJ, by omega, by omega, fun _ h => by cases h⟩
  have hF0 : Fr none_ w w2 := hF1.trans hF2
  clear ht hJ
  refine jn2 (fun x y w' => ∃ (k : Nat) (ps' r' : List Ent) (hs : List (Ent × Bool)) (es' : List (List Value)), y = i64 k ∧ k ≤ hs.length ∧ hs.length ≤ 2000 ∧ r' = hs.foldl chL [] ∧ RdE 10 w' x (((hs.take k).foldl chL []).map Ent.cells) ∧ TJ w.heap.size w' p pb o c jp rb jo jc ps' r' hs es' ∧ Fr none_ w w') ?_ fun j hj => ?_
  · rintro x y w3 ⟨k, ps', r', hs, es', rfl, hk, hh, hr, hx, hT, hF3⟩
    have hlen : (hs.map jst).length = hs.length := List.length_map _
    refine Jour.since_spec hT.j (by omega) (by omega) (by omega) jst_ok (fun _ w4 hF4 => ?_) fun _ _ _ w4 v hv hF4 => ?_
    · simp only [push_cast, Nat.reduceAdd, Nat.reduceLeDiff, Nat.reduceLT, Int.reduceToNat, Nat.left_eq_add, Nat.add_eq_left, Nat.add_left_cancel_iff, Nat.reduceEqDiff, Nat.add_assoc, Nat.succ_ne_zero, Bool.not_false]
      exact h _ (hF3.trans hF4)
    · simp only [push_cast, Nat.reduceAdd, Nat.reduceLeDiff, Nat.reduceLT, Int.reduceToNat, Nat.left_eq_add, Nat.add_eq_left, Nat.add_left_cancel_iff, Nat.reduceEqDiff, Nat.add_assoc, Nat.succ_ne_zero, Bool.not_true]
      rw [chs_jst, ← List.map_drop, Int.toNat_natCast] at hv
      have hsd : ((numS hs).drop k).map Prod.snd = hs.drop k := by rw [List.map_drop, numS_snd]
      have hl1 : ((numS hs).drop k).length ≤ hs.length := by
        have h1 := congrArg List.length hsd
        rw [List.length_map] at h1
        have h2 : (hs.drop k).length ≤ hs.length := by rw [List.length_drop]; omega
        omega
      have htk : ∀ c ∈ hs.take k, c.1.ok := fun c hc => hT.ok c (List.mem_of_mem_take hc)
      have hS := Srt.nil.chs htk
      have hl2 : ((hs.take k).foldl chL []).length ≤ 2000 := by
        have := chs_len (hs.take k) []
        rw [List.length_take] at this
        simp only [List.length_nil] at this
        omega
      refine Rp.replay_spec (hx.fr hF4 fun _ _ h => h) hv hS.2 (fun c hc => hT.ok _ (List.mem_of_mem_drop (hsd ▸ List.mem_map_of_mem hc))) (by omega) (by omega) fun u w5 hu hF5 _ => ?_
      simp only [push_cast, Nat.reduceAdd, Nat.reduceLeDiff, Nat.reduceLT, Int.reduceToNat, Nat.left_eq_add, Nat.add_eq_left, Nat.add_left_cancel_iff, Nat.reduceEqDiff, Nat.add_assoc, Nat.succ_ne_zero]
      rw [hsd, replay_self hS, ← List.foldl_append, List.take_append_drop, ← hr] at hu
      have hT5 := (hT.fr0 hF4).fr0 hF5
      have hcap := hT5.t.cap
      refine all_spec hT5.t fun w6 b1 a1 c1 ho6 hF6 _ => ?_
      simp only [push_cast, Nat.reduceAdd, Nat.reduceLeDiff, Nat.reduceLT, Int.reduceToNat, Nat.left_eq_add, Nat.add_eq_left, Nat.add_left_cancel_iff, Nat.reduceEqDiff, Nat.add_assoc, Nat.succ_ne_zero]
      exact esame_yes (hu.rd.fr hF6 fun _ _ h => h) ho6.rd hT5.t.ct.srt.2 (by omega) fun w7 hF7 => h _ ((((hF3.trans hF4).trans hF5).trans hF6).trans hF7)
  refine loop3 (fun m x y z w' => ∃ (i k : Nat) (ps' r' : List Ent) (hs : List (Ent × Bool)) (es' : List (List Value)), z = i64 i ∧ m + i = 100 ∧ y = i64 k ∧ k ≤ hs.length ∧ hs.length ≤ 8 * i ∧ r' = hs.foldl chL [] ∧ RdE 10 w' x (((hs.take k).foldl chL []).map Ent.cells) ∧ free4 p pb jp rb x ∧ TJ w.heap.size w' p pb o c jp rb jo jc ps' r' hs es' ∧ Fr none_ w w') ?_ 100
    ⟨0, 0, ps, [], [], es, rfl, rfl, rfl, Nat.le_refl _, by simp, rfl, rd_nil _, (fun b hb => by cases hb), hT0, hF0⟩
  rintro m x y z w3 X ⟨i, k, ps3, r3, hs3, es3, rfl, hm, rfl, hk, hh, hr, hx, hxf, hT, hF3⟩ hX
  have hend : j x (i64 k) w3 := hj _ _ _ ⟨k, ps3, r3, hs3, es3, rfl, hk, by omega, hr, hx, hT, hF3⟩
  simp only [push_cast, Nat.reduceAdd, Nat.reduceLeDiff, Nat.reduceLT, Int.reduceToNat, Nat.left_eq_add, Nat.add_eq_left, Nat.add_left_cancel_iff, Nat.reduceEqDiff, Nat.add_assoc, Nat.succ_ne_zero]
  refine br_dec (fun hlt1 => ?_) fun _ => hend
  refine br_dec (fun hlt2 => ?_) fun _ => hend
  have hil : i < st.length := by omega
  obtain ⟨gd, gv, gm, gp, gt, gn⟩ := hso _ (List.getElem_mem hil)
  have hget : ∀ {w' : World} {R : Value → World → Prop} (hF' : Fr none_ w w') (hk : R (.agg (st[i]).cells.toArray) w'), opS Try.prog (S.ia 22 (.slice la st.length lc) (i64 i)) (fun y => opS Try.prog (S.ld 36 y) R) w' := fun hF' hk => by
    refine s_iaE (hl.fr hF' fun _ _ h => h) (by omega) (by simpa using hil) fun b o _ _ he => ?_
    simp only [Int.toNat_natCast, List.getElem_map] at he ⊢
    rw [s_ldN (by decide), he.agg0 (FStp.len _), onS_some]
    exact hk
  generalize st[i] = s at *
  -- behind a step
  refine jn2 (fun x y w' => ∃ (k : Nat) (ps' r' : List Ent) (hs : List (Ent × Bool)) (es' : List (List Value)), y = i64 k ∧ k ≤ hs.length ∧ hs.length ≤ 8 * (i + 1) ∧ r' = hs.foldl chL [] ∧ RdE 10 w' x (((hs.take k).foldl chL []).map Ent.cells) ∧ free4 p pb jp rb x ∧ TJ w.heap.size w' p pb o c jp rb jo jc ps' r' hs es' ∧ Fr none_ w w') ?_ fun j2 hj2 => ?_
  · rintro x y w4 ⟨k, ps', r', hs, es', rfl, q1, q2, q3, q4, q5, q6, q7⟩
    simp only [push_cast, Nat.reduceAdd, Nat.reduceLeDiff, Nat.reduceLT, Int.reduceToNat, Nat.left_eq_add, Nat.add_eq_left, Nat.add_left_cancel_iff, Nat.reduceEqDiff, Nat.add_assoc, Nat.succ_ne_zero]
    rw [wrap_i64 (by omega)]
    exact hX (m - 1) _ _ _ _ (by omega) ⟨i + 1, k, ps', r', hs, es', by simp, by omega, rfl, q1, q2, q3, q4, q5, q6, q7⟩
  refine jn2 (fun x y w' => ∃ (k : Nat), y = i64 k ∧ k ≤ hs3.length ∧ RdE 10 w' x (((hs3.take k).foldl chL []).map Ent.cells) ∧ free4 p pb jp rb x ∧ TJ w.heap.size w' p pb o c jp rb jo jc ps3 r3 hs3 es3 ∧ Fr none_ w w') ?_ fun j3 hj3 => ?_
  case refine_2 =>
    simp only [push_cast, Nat.reduceAdd, Nat.reduceLeDiff, Nat.reduceLT, Int.reduceToNat, Nat.left_eq_add, Nat.add_eq_left, Nat.add_left_cancel_iff, Nat.reduceEqDiff, Nat.add_assoc, Nat.succ_ne_zero]
    refine br_intro (fun _ => ?_) fun _ => hj3 _ _ _ ⟨k, rfl, hk, hx, hxf, hT, hF3⟩
    have hlt3 := hT.t.fb.lt
    have hjl := lt_of_heap hT.j.blk
    have hrl := hT.j.ring.lt (b := rb) rfl
    refine all_spec hT.t fun w4 b1 a1 c1 ho4 hF4 hb1 => ?_
    have hT4 := hT.fr0 hF4
    have hjb := hT4.j.blk
    simp only [push_cast, Nat.reduceAdd, Nat.reduceLeDiff, Nat.reduceLT, Int.reduceToNat, Nat.left_eq_add, Nat.add_eq_left, Nat.add_left_cancel_iff, Nat.reduceEqDiff, Nat.add_assoc, Nat.succ_ne_zero]
    refine Jour.last_spec hjb ?_
    simp only [push_cast, Nat.reduceAdd, Nat.reduceLeDiff, Nat.reduceLT, Int.reduceToNat, Nat.left_eq_add, Nat.add_eq_left, Nat.add_left_cancel_iff, Nat.reduceEqDiff, Nat.add_assoc, Nat.succ_ne_zero, List.length_map]
    refine hj3 _ _ _ ⟨hs3.length, rfl, Nat.le_refl _, ?_, fun b hb => ?_, hT4, hF3.trans hF4⟩
    · rw [List.take_length, ← hr]; exact ho4.rd
    · simp only [blkS, Option.some.injEq] at hb
      omega
  clear hx hxf hT hF3 hk hend
  rintro x y w4 ⟨k, rfl, hk, hx, hxf, hT, hF4⟩
  have hplt := hT.t.fb.lt
  have hjl := lt_of_heap hT.j.blk
  have hrl := hT.j.ring.lt (b := rb) rfl
  refine hget hF4 ?_
  refine stp_slot fun _ w5 hw5 hF5 => ?_
  replace hx := hx.fr hF5 fun _ _ h => h
  replace hT := hT.fr0 hF5
  replace hF4 := hF4.trans hF5
  have hsw : w.heap.size ≤ w4.heap.size := by
    have := hT.n2
    omega
  generalize hslw : w4.heap.size = sl at *
  have hsp : ¬ pp p pb sl := fun e => by unfold pp at e; omega
  simp only [push_cast, Nat.reduceAdd, Nat.reduceLeDiff, Nat.reduceLT, Int.reduceToNat, Nat.left_eq_add, Nat.add_eq_left, Nat.add_left_cancel_iff, Nat.reduceEqDiff, Nat.add_assoc, Nat.succ_ne_zero, hw5]
  -- what is gone is journalled
  refine jn1 (fun v w' => ∃ (gone : List Ent) (ps1 r1 : List Ent) (hs1 : List (Ent × Bool)) (es1 : List (List Value)), TJ w.heap.size w' p pb o c jp rb jo jc ps1 r1 hs1 es1 ∧ RdE 10 w' v (gone.map Ent.cells) ∧ free4 p pb jp rb v ∧ r1 = remAll (hs1.foldl chL []) gone ∧ hs1.length + gone.length ≤ 8 * (i + 1) ∧ k ≤ hs1.length ∧ hs1.take k = hs3.take k ∧ (∀ e ∈ gone, e.ok) ∧ RdE 10 w' x (((hs3.take k).foldl chL []).map Ent.cells) ∧ Fr none_ w w') ?_ fun j4 hj4 => ?_
  · rintro v w6 ⟨gone, ps1, r1, hs1, es1, hT6, hv6, hvf, hr1, hlen, hk1, htk, hgo, hx6, hF6⟩
    obtain ⟨ga, gc, rfl⟩ := hv6.form
    rw [List.length_map] at hv6 hvf ⊢
    refine jn0 (fun w' => ∃ es', TJ w.heap.size w' p pb o c jp rb jo jc ps1 r1 (hs1 ++ gone.map fun e => (e, true)) es' ∧ RdE 10 w' x (((hs3.take k).foldl chL []).map Ent.cells) ∧ Fr none_ w w') ?_ fun j5 hj5 => ?_
    · rintro w7 ⟨es', hT7, hx7, hF7⟩
      refine hj2 _ _ _ ⟨k, ps1, r1, _, es', rfl, by rw [List.length_append]; omega, by rw [List.length_append, List.length_map]; omega, ?_, ?_, hxf, hT7, hF7⟩
      · rw [List.foldl_append, rem_chs, hr1]
      · rw [List.take_append_of_le_length hk1, htk]; exact hx7
    refine loop1 (fun n y w' => ∃ (q : Nat) (es' : List (List Value)), y = i64 q ∧ n + q = gone.length ∧ TJ w.heap.size w' p pb o c jp rb jo jc ps1 r1 (hs1 ++ (gone.take q).map fun e => (e, true)) es' ∧ RdE 10 w' (.slice ga gone.length gc) (gone.map Ent.cells) ∧ RdE 10 w' x (((hs3.take k).foldl chL []).map Ent.cells) ∧ Fr none_ w w') ?_ gone.length ⟨0, es1, rfl, rfl, by simpa using hT6, hv6, hx6, hF6⟩
    rintro n y w7 X2 ⟨q, es7, rfl, hq, hT7, hv7, hx7, hF7⟩ hX2
    simp only [push_cast, Nat.reduceAdd, Nat.reduceLeDiff, Nat.reduceLT, Int.reduceToNat, Nat.left_eq_add, Nat.add_eq_left, Nat.add_left_cancel_iff, Nat.reduceEqDiff, Nat.add_assoc, Nat.succ_ne_zero]
    refine br_dec (fun hlt => ?_) fun hge => ?_
    case refine_2 =>
      have : q = gone.length := by omega
      subst this
      rw [List.take_length] at hT7
      exact hj5 _ ⟨es7, hT7, hx7, hF7⟩
    have hql : q < gone.length := by omega
    refine s_getE hv7 hql ?_
    have hgok := hgo _ (List.getElem_mem hql)
    refine Jour.put_spec hT7.j (by decide) (by decide) (Ent.cells_length _) (Ent.cells_one _) (by rw [List.length_map, List.length_append, List.length_map, List.length_take]; omega) fun w8 es8 hJ8 hF8 => ?_
    simp only [push_cast, Nat.reduceAdd, Nat.reduceLeDiff, Nat.reduceLT, Int.reduceToNat, Nat.left_eq_add, Nat.add_eq_left, Nat.add_left_cancel_iff, Nat.reduceEqDiff, Nat.add_assoc, Nat.succ_ne_zero]
    rw [wrap_i64 (by omega)]
    have hT8 := hT7.jour hgok hF8 hJ8
    refine hX2 (n - 1) _ _ (by omega) ⟨q + 1, es8, by simp, by omega, ?_, hv7.fr hF8 fun b hb e => ?_, hx7.fr hF8 fun b hb e => ?_, hT7.none (Nat.le_refl _) hF7 hF8 fun b e => by omega⟩
    · rw [List.take_succ_eq_append_getElem hql, List.map_append, ← List.append_assoc]
      exact hT8
    · have := hvf b hb; omega
    · have := hxf b hb; omega
  have hcap := hT.t.cap
  have hsrt := hT.t.ct.srt
  have hppN : ∀ {w' : World}, Fr (pp p pb) w5 w' → Fr none_ w w' := fun hF' => hT.none (Nat.le_refl _) hF4 hF' fun b e => by unfold pp at e; omega
  have hxpp : ∀ b, blkS x = some b → ¬ pp p pb b := fun b hb e => by have := hxf b hb; unfold pp at e; omega
  have hnil : free4 p pb jp rb (.slice none 0 0) := fun b hb => by cases hb
  have hgl : ∀ A : Ent → Bool, (r3.filter A).length ≤ r3.length := fun A => List.length_filter_le _ _
  have hgo : ∀ A : Ent → Bool, ∀ e ∈ r3.filter A, e.ok := fun A e he => hsrt.2 e (List.mem_filter.1 he).1
  have h5 := hF5.size
  simp only [push_cast, Nat.reduceAdd, Nat.reduceLeDiff, Nat.reduceLT, Int.reduceToNat, Nat.left_eq_add, Nat.add_eq_left, Nat.add_left_cancel_iff, Nat.reduceEqDiff, Nat.add_assoc, Nat.succ_ne_zero]
  refine br_intro (fun h0 => ?_) fun h0 => ?_
  · -- learning
    simp only [push_cast, Nat.reduceAdd, Nat.reduceLeDiff, Nat.reduceLT, Int.reduceToNat, Nat.left_eq_add, Nat.add_eq_left, Nat.add_left_cancel_iff, Nat.reduceEqDiff, Nat.add_assoc, Nat.succ_ne_zero, hw5]
    refine learn_spec hT.t gv gm gp gt fun w6 ps6 ht6 hF6 => ?_
    have hw6 := hF6.heap hw5 hsp
    have hT6 := hT.tab hF6 ht6
    have hx6 := hx.fr hF6 hxpp
    simp only [push_cast, Nat.reduceAdd, Nat.reduceLeDiff, Nat.reduceLT, Int.reduceToNat, Nat.left_eq_add, Nat.add_eq_left, Nat.add_left_cancel_iff, Nat.reduceEqDiff, Nat.add_assoc, Nat.succ_ne_zero, hw6]
    refine look_spec hT6.t gv gm fun w7 hF7 => ?_
    simp only [s_ext, List.getElem?_toArray, List.getElem?_cons_zero, List.getElem?_cons_succ, onS_some]
    refine ent_slot fun _ w8 hw8 hF8 => ?_
    have hF78 := hF7.trans hF8
    have hT8 := hT6.fr0 hF78
    have hx8 := hx6.fr hF78 fun _ _ h => h
    have hF08 := (hppN hF6).trans hF78
    simp only [jn_0, push_cast, Nat.reduceAdd, Nat.reduceLeDiff, Nat.reduceLT, Int.reduceToNat, Nat.left_eq_add, Nat.add_eq_left, Nat.add_left_cancel_iff, Nat.reduceEqDiff, Nat.add_assoc, Nat.succ_ne_zero]
    by_cases hg : (learnL 8 r3 s.v s.m s.p s.t).2.2 = 0
    · obtain ⟨y, hyo, hya, hyr⟩ := learn_put hsrt gv gm gp gt hg
      have hlk : lookL (learnL 8 r3 s.v s.m s.p s.t).1 (s.v, s.m) = (y, true) := by unfold lookL; rw [hya]
      rw [hlk] at hw8 ⊢
      rw [hg]
      refine br_intro (fun _ => ?_) fun e => by simp at e
      simp only [push_cast, Nat.reduceAdd, Nat.reduceLeDiff, Nat.reduceLT, Int.reduceToNat, Nat.left_eq_add, Nat.add_eq_left, Nat.add_left_cancel_iff, Nat.reduceEqDiff, Nat.add_assoc, Nat.succ_ne_zero, hw8]
      refine Jour.put_spec hT8.j (by decide) (by decide) (Ent.cells_length _) (Ent.cells_one _) (by rw [List.length_map]; omega) fun w9 es9 hJ9 hF9 => ?_
      have hT9 := hT8.jour hyo hF9 hJ9
      refine hj4 _ _ ⟨[], _, _, _, es9, hT9, rd_nil _, hnil, ?_, by rw [List.length_append]; simp; omega, by rw [List.length_append]; omega, List.take_append_of_le_length hk, (fun _ h => by cases h), hx8.fr hF9 fun b hb e => by have := hxf b hb; omega, hT8.none (Nat.le_refl _) hF08 hF9 fun b e => by omega⟩
      rw [List.foldl_append, ← hr, hyr]
      rfl
    · obtain ⟨n1, _, _⟩ := learn_no hg
      rw [n1] at hT8
      refine br_intro (fun e => absurd (by simpa using e) hg) fun _ => ?_
      refine hj4 _ _ ⟨[], _, _, _, es3, hT8, rd_nil _, hnil, by rw [hr]; rfl, by simp; omega, hk, rfl, (fun _ h => by cases h), hx8, hF08⟩
  rw [jn_1]
  simp only [push_cast, Nat.reduceAdd, Nat.reduceLeDiff, Nat.reduceLT, Int.reduceToNat, Nat.left_eq_add, Nat.add_eq_left, Nat.add_left_cancel_iff, Nat.reduceEqDiff, Nat.add_assoc, Nat.succ_ne_zero]
  refine br_intro (fun h1 => ?_) fun h1 => ?_
  · -- one is removed
    simp only [push_cast, Nat.reduceAdd, Nat.reduceLeDiff, Nat.reduceLT, Int.reduceToNat, Nat.left_eq_add, Nat.add_eq_left, Nat.add_left_cancel_iff, Nat.reduceEqDiff, Nat.add_assoc, Nat.succ_ne_zero, hw5]
    refine look_spec hT.t gv gm fun w6 hF6 => ?_
    simp only [s_ext, List.getElem?_toArray, List.getElem?_cons_zero, List.getElem?_cons_succ, onS_some]
    refine ent_slot fun _ w7 hw7 hF7 => ?_
    have hF67 := hF6.trans hF7
    have hw57 := hF67.heap hw5 fun h => h
    have hT7 := hT.fr0 hF67
    have hx7 := hx.fr hF67 fun _ _ h => h
    have hs6 := hF6.size
    have hsp2 : ¬ pp p pb w6.heap.size := fun e => by unfold pp at e; omega
    simp only [push_cast, Nat.reduceAdd, Nat.reduceLeDiff, Nat.reduceLT, Int.reduceToNat, Nat.left_eq_add, Nat.add_eq_left, Nat.add_left_cancel_iff, Nat.reduceEqDiff, Nat.add_assoc, Nat.succ_ne_zero, hw57]
    refine remove_spec hT7.t gv gm fun w8 ps8 ht8 hF8 => ?_
    have hT8 := hT7.tab hF8 ht8
    have hx8 := hx7.fr hF8 hxpp
    have hw8 := hF8.heap hw7 hsp2
    have hF08 : Fr none_ w w8 := hT7.none (Nat.le_refl _) (hF4.trans hF67) hF8 fun b e => by unfold pp at e; omega
    have hs7 := hF67.size
    have hs8 := hF8.size
    simp only [jn_1, push_cast, Nat.reduceAdd, Nat.reduceLeDiff, Nat.reduceLT, Int.reduceToNat, Nat.left_eq_add, Nat.add_eq_left, Nat.add_left_cancel_iff, Nat.reduceEqDiff, Nat.add_assoc, Nat.succ_ne_zero]
    unfold lookL at hw8 ⊢
    unfold removeL at hT8
    cases ha : atK r3 (s.v, s.m) with
    | none =>
      rw [ha] at hw8 hT8
      simp only [push_cast, Nat.reduceAdd, Nat.reduceLeDiff, Nat.reduceLT, Int.reduceToNat, Nat.left_eq_add, Nat.add_eq_left, Nat.add_left_cancel_iff, Nat.reduceEqDiff, Nat.add_assoc, Nat.succ_ne_zero]
      exact hj4 _ _ ⟨[], _, _, _, es3, hT8, rd_nil _, hnil, by rw [hr]; rfl, by simp; omega, hk, rfl, (fun _ h => by cases h), hx8, hF08⟩
    | some y =>
      rw [ha] at hw8 hT8
      obtain ⟨hym, _⟩ := atK_mem ha
      simp only [push_cast, Nat.reduceAdd, Nat.reduceLeDiff, Nat.reduceLT, Int.reduceToNat, Nat.left_eq_add, Nat.add_eq_left, Nat.add_left_cancel_iff, Nat.reduceEqDiff, Nat.add_assoc, Nat.succ_ne_zero, hw8]
      refine s_bs1 (sz := 10) (z := .agg zE.cells.toArray) (Ent.cells_length _) rfl (by decide) (by decide) fun u w9 hu hF9 hN9 => ?_
      refine hj4 _ _ ⟨[y], _, _, _, es3, hT8.fr0 hF9, hu.rd, fun b hb => by have := hN9 b hb; omega, by rw [← hr]; rfl, by simp; omega, hk, rfl, fun e he => by simp at he; rw [he]; exact hsrt.2 y hym, hx8.fr hF9 fun _ _ h => h, hF08.trans hF9⟩
  rw [jn_1]
  simp only [push_cast, Nat.reduceAdd, Nat.reduceLeDiff, Nat.reduceLT, Int.reduceToNat, Nat.left_eq_add, Nat.add_eq_left, Nat.add_left_cancel_iff, Nat.reduceEqDiff, Nat.add_assoc, Nat.succ_ne_zero]
  refine br_intro (fun h2 => ?_) fun h2 => ?_
  · simp only [push_cast, Nat.reduceAdd, Nat.reduceLeDiff, Nat.reduceLT, Int.reduceToNat, Nat.left_eq_add, Nat.add_eq_left, Nat.add_left_cancel_iff, Nat.reduceEqDiff, Nat.add_assoc, Nat.succ_ne_zero, hw5]
    refine fport_spec hT.t fun w6 ps6 u ht6 hu6 hub hF6 => ?_
    have hT6 := hT.tab hF6 ht6
    have hrem := remAll_filter hsrt fun e => portA s.p e && !e.static
    refine hj4 _ _ ⟨_, _, _, _, es3, hT6, hu6, fun b hb => by have := hub b hb; omega, by rw [← hr, hrem], by have := hgl fun e => portA s.p e && !e.static; omega, hk, rfl, hgo _, hx.fr hF6 hxpp, hppN hF6⟩
  · simp only [push_cast, Nat.reduceAdd, Nat.reduceLeDiff, Nat.reduceLT, Int.reduceToNat, Nat.left_eq_add, Nat.add_eq_left, Nat.add_left_cancel_iff, Nat.reduceEqDiff, Nat.add_assoc, Nat.succ_ne_zero, hw5]
    refine age_spec hT.t (fun hf w6 hF6 => ?_) fun _ w6 ps6 u ht6 hu6 hub hF6 => ?_
    · skip
      exact hj4 _ _ ⟨[], _, _, _, es3, hT.fr0 hF6, rd_nil _, hnil, by rw [hr]; rfl, by simp; omega, hk, rfl, (fun _ h => by cases h), hx.fr hF6 fun _ _ h => h, hF4.trans hF6⟩
    · have hT6 := hT.tab hF6 ht6
      have hrem := remAll_filter hsrt fun e => ageA s.t s.n e && !e.static
      refine hj4 _ _ ⟨_, _, _, _, es3, hT6, hu6, fun b hb => by have := hub b hb; omega, by rw [← hr, hrem], by have := hgl fun e => ageA s.t s.n e && !e.static; omega, hk, rfl, hgo _, hx.fr hF6 hxpp, hppN hF6⟩

end Go.Gx.S
