/- Steps at both tables. -/
import Derived.Test.YtdmkkbgjidpmkaaFdbDT
import Derived.Test.YtdmkkbgjidpmkaaFdbC
set_option linter.unusedVariables false
set_option linter.unusedSimpArgs false
set_option maxRecDepth 100000
namespace Go.Gx.S
open Go Go.Gx Go.Proofs
variable {K : Value → World → Prop} {w : World}

theorem esame_spec {a b : Value} {l r : List Ent} (ha : RdE 10 w a (l.map Ent.cells)) (hb : RdE 10 w b (r.map Ent.cells)) (hlo : ∀ e ∈ l, e.ok) (hro : ∀ e ∈ r, e.ok) (hn : l.length < 2 ^ 62) (h : ∀ w', Fr none_ w w' → K (.bool (decide (l = r))) w') :
    CallsR Try.prog 13 #[a, b] K w := by
  apply c13
  unfold p13
  obtain ⟨aa, ac, rfl⟩ := ha.form
  obtain ⟨ba, bc, rfl⟩ := hb.form
  rw [List.length_map] at ha hb ⊢
  rw [List.length_map]
  simp only [push_cast, Nat.reduceAdd, Nat.reduceLeDiff, Nat.reduceLT, Int.reduceToNat, Nat.left_eq_add, Nat.add_eq_left, Nat.add_left_cancel_iff, Nat.reduceEqDiff, Nat.add_assoc, Nat.succ_ne_zero]
  refine br_intro (fun hne => ?_) fun heq => ?_
  · have : l ≠ r := fun e => by subst e; simp at hne
    rw [decide_eq_false this] at h
    exact h _ (Fr.refl _ _)
  · have hl : l.length = r.length := by
      have : (l.length : Int) = r.length := by simpa using heq
      omega
    refine jn0 (fun w' => Fr none_ w w' ∧ l = r) (fun w' ⟨hF, e⟩ => ?_) fun j hj => ?_
    · rw [decide_eq_true e] at h
      exact h _ hF
    refine loop1 (fun m v w' => ∃ i : Nat, v = i64 i ∧ i + m = l.length ∧ Fr none_ w w' ∧ l.take i = r.take i) ?_ l.length ⟨0, rfl, by omega, Fr.refl _ _, rfl⟩
    rintro m v w' X ⟨i, rfl, hi, hF, htk⟩ hX
    simp only [push_cast, Nat.reduceAdd, Nat.reduceLeDiff, Nat.reduceLT, Int.reduceToNat, Nat.left_eq_add, Nat.add_eq_left, Nat.add_left_cancel_iff, Nat.reduceEqDiff, Nat.add_assoc, Nat.succ_ne_zero]
    refine br_dec (fun hlt => ?_) fun hge => hj _ ⟨hF, ?_⟩
    · have hi2 : i < l.length := by omega
      have hi3 : i < r.length := by omega
      refine s_iaE (es := l.map Ent.cells) (ha.fr hF.step_drew (fun _ _ h => h)) (by omega) (by simpa using hi2) fun b1 o1 c1 _ hE => ?_
      simp only [Int.toNat_natCast, List.getElem_map] at hE ⊢
      rw [s_ldN (by decide), hE.agg0 (Ent.cells_length _), onS_some]
      refine s_iaE (es := r.map Ent.cells) (hb.fr hF.step_drew (fun _ _ h => h)) (by omega) (by simpa using hi3) fun b2 o2 c2 _ hE2 => ?_
      simp only [Int.toNat_natCast, List.getElem_map] at hE2 ⊢
      rw [s_ldN (by decide), hE2.agg0 (Ent.cells_length _), onS_some]
      refine s_neqG (EntT.enc (d := 5) (hlo _ (List.getElem_mem hi2))) (EntT.enc (d := 5) (hro _ (List.getElem_mem hi3))) fun q hq => ?_
      rw [Ent.lits_inj] at hq
      simp only [push_cast, Nat.reduceAdd, Nat.reduceLeDiff, Nat.reduceLT, Int.reduceToNat, Nat.left_eq_add, Nat.add_eq_left, Nat.add_left_cancel_iff, Nat.reduceEqDiff, Nat.add_assoc, Nat.succ_ne_zero]
      refine br_intro (fun hd => ?_) fun hd => ?_
      · have hne : l[i] ≠ r[i] := fun e => by rw [hq.2 e] at hd; cases hd
        have : l ≠ r := fun e => by subst e; exact hne rfl
        rw [decide_eq_false this] at h
        exact h _ hF.step_drew
      · have he : l[i] = r[i] := hq.1 (by simpa using hd)
        rw [wrap_i64 (by omega)]
        refine hX (m - 1) _ _ (by omega) ⟨i + 1, by simp, by omega, hF.step_drew, ?_⟩
        rw [List.take_add_one, List.take_add_one, htk, List.getElem?_eq_getElem hi2, List.getElem?_eq_getElem hi3, he]
    · rw [List.take_of_length_le (by omega), List.take_of_length_le (by omega)] at htk
      exact htk
theorem esame_yes {a b : Value} {l : List Ent} (ha : RdE 10 w a (l.map Ent.cells)) (hb : RdE 10 w b (l.map Ent.cells)) (hlo : ∀ e ∈ l, e.ok) (hn : l.length < 2 ^ 62) (h : ∀ w', Fr none_ w w' → K (.bool true) w') :
    CallsR Try.prog 13 #[a, b] K w := by
  refine esame_spec ha hb hlo hlo hn fun w' hF => ?_
  rw [decide_eq_true rfl]
  exact h w' hF

/-! ### A step -/

structure FStp where
  d : Int
  v : Int
  m : Mac
  p : Int
  t : Int
  n : Int
def FStp.cells (s : FStp) : List Value := i64 s.d :: i64 s.v :: (s.m.cells ++ [i64 s.p, i64 s.t, i64 s.n])
def FStp.ok (s : FStp) : Prop := isI s.d ∧ isI s.v ∧ s.m.ok ∧ isI s.p ∧ isI s.t ∧ isI s.n
theorem FStp.len (s : FStp) : s.cells.length = 11 := id rfl
theorem FStp.g0 (s : FStp) : s.cells[0]? = some (i64 s.d) := id rfl
theorem FStp.g1 (s : FStp) : s.cells[1]? = some (i64 s.v) := id rfl
theorem FStp.d2 (s : FStp) : (s.cells.drop 2).take 6 = s.m.cells := id rfl
theorem FStp.g8 (s : FStp) : s.cells[8]? = some (i64 s.p) := id rfl
theorem FStp.g9 (s : FStp) : s.cells[9]? = some (i64 s.t) := id rfl
theorem FStp.g10 (s : FStp) : s.cells[10]? = some (i64 s.n) := id rfl
attribute [push_cast] FStp.len FStp.g0 FStp.g1 FStp.d2 FStp.g8 FStp.g9 FStp.g10

def stepL (room : Nat) (r : List Ent) (s : FStp) : List Ent :=
  if s.d = 0 then (learnL room r s.v s.m s.p s.t).1
  else if s.d = 1 then (putL room r s.v s.m s.p).1
  else if s.d = 2 then (removeL r (s.v, s.m)).1
  else if s.d = 3 then (if timedB s.t && timedB s.n then r.filter fun e => !(ageA s.t s.n e && !e.static) else r)
  else if s.d = 4 then r.filter fun e => !(portA s.p e && !e.static)
  else r.filter fun e => !(vlanA s.v e && !e.static)

/-- both tables, in blocks from N on -/
structure FJ (N : Nat) (w : World) (p pb o c q room : Nat) (ps : List Ent) (L : Value) (r : List Ent) : Prop where
  t : FT w p pb o c room ps r
  r : RT w q room L r
  qp : q ≠ p
  qb : q ≠ pb
  lb : ∀ b, blkS L = some b → b ≠ p ∧ b ≠ pb ∧ N ≤ b
  np : N ≤ p
  nb : N ≤ pb
  nq : N ≤ q
def FJx (N : Nat) (w : World) (p q room : Nat) (r : List Ent) : Prop := ∃ pb o c ps L, FJ N w p pb o c q room ps L r
theorem FJ.fr0 {N : Nat} {w w' : World} {p pb o c q room : Nat} {ps : List Ent} {L : Value} {r : List Ent} (h : FJ N w p pb o c q room ps L r) (hF : Fr none_ w w') : FJ N w' p pb o c q room ps L r :=
  ⟨h.t.fr0 hF, h.r.fr0 hF, h.qp, h.qb, h.lb, h.np, h.nb, h.nq⟩
theorem FJx.fr0 {N : Nat} {w w' : World} {p q room : Nat} {r : List Ent} (h : FJx N w p q room r) (hF : Fr none_ w w') : FJx N w' p q room r := by
  obtain ⟨pb, o, c, ps, L, h⟩ := h
  exact ⟨pb, o, c, ps, L, h.fr0 hF⟩

theorem step_spec {N p q room : Nat} {r : List Ent} {s : FStp} (hj : FJx N w p q room r) (hN : N ≤ w.heap.size) (hs : s.ok) (h : ∀ w', FJx N w' p q room (stepL room r s) → Fr (fun b => N ≤ b) w w' → K (.bool true) w') :
    CallsR Try.prog 25 #[pt p 0, pt q 0, .agg s.cells.toArray] K w := by
  apply c25
  unfold p25
  obtain ⟨pb, o, c, ps, L, hj⟩ := hj
  obtain ⟨hd, hv, hm, hp, htm, hn⟩ := hs
  have hF : Fr none_ w (w.alloc (cellsO s.cells 26)) := (by repeat' first | with_reducible exact Fr.refl _ _ | with_reducible refine Fr.step_alloc ?_ ?_ | with_reducible refine Fr.step_drew ?_ | with_reducible refine Fr.step_wr ?_ ?_ _ _ | exact rfl | exact Or.inr (by omega) | exact Or.inl rfl | exact Or.inl (Or.inl rfl) | exact Or.inl (Or.inr rfl))
  have hx : (w.alloc (cellsO s.cells 26)).heap[w.heap.size]? = some (cellsO s.cells 26) := by simp only [push_cast, Nat.reduceAdd, Nat.reduceLeDiff, Nat.reduceLT, Int.reduceToNat, Nat.left_eq_add, Nat.add_eq_left, Nat.add_left_cancel_iff, Nat.reduceEqDiff, Nat.add_assoc, Nat.succ_ne_zero]
  have hplt := hj.t.fb.lt
  have hqlt := lt_of_heap hj.r.blk
  have hLlt : ∀ b, blkS L = some b → b < w.heap.size := fun b hb => hj.r.own.lt hb
  simp only [opS_box, cells_agg, alloc_cellsO]
  replace hj := hj.fr0 hF
  have hxs := lt_of_heap hx
  generalize w.alloc (cellsO s.cells 26) = W at *
  have hsp : ¬ pp p pb w.heap.size := fun e => by unfold pp at e; omega
  have hro := hj.t.ct.srt.2
  have hcap := hj.t.cap
  have hhi := hj.t.hi
  have hsrt := hj.t.ct.srt
  have hnp := hj.np
  have hnb := hj.nb
  have hnq := hj.nq
  have hqp := hj.qp
  have hqb := hj.qb
  have hqpp : ¬ pp p pb q := fun e => by unfold pp at e; omega
  have hLpp : ∀ b, blkS L = some b → ¬ pp p pb b := fun b hb e => by have := hj.lb b hb; unfold pp at e; omega
  have hrpp : ∀ x, (x = p ∨ x = pb) → ¬ rp q L x := fun x e1 e2 => by
    unfold rp at e2
    rcases e2 with e2 | e2
    · omega
    · have := hj.lb x e2; omega
  unfold stepL at h
  simp only [push_cast, Nat.reduceAdd, Nat.reduceLeDiff, Nat.reduceLT, Int.reduceToNat, Nat.left_eq_add, Nat.add_eq_left, Nat.add_left_cancel_iff, Nat.reduceEqDiff, Nat.add_assoc, Nat.succ_ne_zero, hx]
  -- what both do comes to the same
  have fin : ∀ {w2 w3 : World} {ps2 : List Ent} {L2 : Value} {r2 : List Ent}, FT w2 p pb o c room ps2 r2 → Fr (pp p pb) W w2 → RT w3 q room L2 r2 → NewOr w2 L L2 → Fr (rp q L) w2 w3 → FJx N w3 p q room r2 ∧ Fr (fun b => N ≤ b) w w3 := by
    intro w2 w3 ps2 L2 r2 h1 h2 h3 h4 h5
    have hs2 := h2.size
    refine ⟨⟨pb, o, c, ps2, L2, ⟨h1.fr h5 (hrpp p (.inl rfl)) (hrpp pb (.inr rfl)), h3, hqp, hqb, fun b hb => ?_, hnp, hnb, hnq⟩⟩, ?_⟩
    · rcases h4 b hb with h6 | h6
      · exact hj.lb b h6
      · omega
    · refine ((hF.mono fun _ _ e => e.elim).trans_new (h2.mono fun b _ e => ?_) fun _ _ e => e).trans_new (fp' := rp q L) h5 fun b hb e => ?_
      · show N ≤ b
        unfold pp at e
        omega
      · show N ≤ b
        unfold rp at e
        rcases e with e | e
        · omega
        · exact (hj.lb b e).2.2
  refine br_intro (fun h0 => ?_) fun h0 => ?_
  · have h0 : s.d = 0 := by simpa using h0
    rw [if_pos h0] at h
    refine learn_spec hj.t hv hm hp htm fun w2 ps2 ht2 hF2 => ?_
    have hx2 := hF2.heap hx hsp
    have hr2 := hj.r.fr hF2 hqpp hLpp
    simp only [push_cast, Nat.reduceAdd, Nat.reduceLeDiff, Nat.reduceLT, Int.reduceToNat, Nat.left_eq_add, Nat.add_eq_left, Nat.add_left_cancel_iff, Nat.reduceEqDiff, Nat.add_assoc, Nat.succ_ne_zero, hx2]
    refine rlearn_spec hr2 hsrt hv hm hp htm (by omega) (by omega) fun w3 L3 hr3 hn3 hF3 => ?_
    obtain ⟨g1, g2⟩ := fin ht2 hF2 hr3 hn3 hF3
    simp only [push_cast, Nat.reduceAdd, Nat.reduceLeDiff, Nat.reduceLT, Int.reduceToNat, Nat.left_eq_add, Nat.add_eq_left, Nat.add_left_cancel_iff, Nat.reduceEqDiff, Nat.add_assoc, Nat.succ_ne_zero]
    rw [jn_1]
    simp only [push_cast, Nat.reduceAdd, Nat.reduceLeDiff, Nat.reduceLT, Int.reduceToNat, Nat.left_eq_add, Nat.add_eq_left, Nat.add_left_cancel_iff, Nat.reduceEqDiff, Nat.add_assoc, Nat.succ_ne_zero, beq_self_eq_true]
    exact h _ g1 g2
  have h0 : s.d ≠ 0 := by simpa using h0
  rw [if_neg h0] at h
  refine br_intro (fun h1 => ?_) fun h1 => ?_
  · have h1 : s.d = 1 := by simpa using h1
    rw [if_pos h1] at h
    refine put_spec hj.t hv hm hp fun w2 ps2 ht2 hF2 => ?_
    have hx2 := hF2.heap hx hsp
    have hr2 := hj.r.fr hF2 hqpp hLpp
    simp only [push_cast, Nat.reduceAdd, Nat.reduceLeDiff, Nat.reduceLT, Int.reduceToNat, Nat.left_eq_add, Nat.add_eq_left, Nat.add_left_cancel_iff, Nat.reduceEqDiff, Nat.add_assoc, Nat.succ_ne_zero, hx2]
    refine rput_spec hr2 hsrt hv hm hp (by omega) (by omega) fun w3 L3 hr3 hn3 hF3 => ?_
    obtain ⟨g1, g2⟩ := fin ht2 hF2 hr3 hn3 hF3
    simp only [push_cast, Nat.reduceAdd, Nat.reduceLeDiff, Nat.reduceLT, Int.reduceToNat, Nat.left_eq_add, Nat.add_eq_left, Nat.add_left_cancel_iff, Nat.reduceEqDiff, Nat.add_assoc, Nat.succ_ne_zero, beq_self_eq_true]
    exact h _ g1 g2
  have h1 : s.d ≠ 1 := by simpa using h1
  rw [if_neg h1] at h
  refine br_intro (fun h2 => ?_) fun h2 => ?_
  · have h2 : s.d = 2 := by simpa using h2
    rw [if_pos h2] at h
    refine remove_spec hj.t hv hm fun w2 ps2 ht2 hF2 => ?_
    have hx2 := hF2.heap hx hsp
    have hr2 := hj.r.fr hF2 hqpp hLpp
    simp only [push_cast, Nat.reduceAdd, Nat.reduceLeDiff, Nat.reduceLT, Int.reduceToNat, Nat.left_eq_add, Nat.add_eq_left, Nat.add_left_cancel_iff, Nat.reduceEqDiff, Nat.add_assoc, Nat.succ_ne_zero, hx2]
    refine rremove_spec hr2 hsrt hv hm (by omega) fun w3 L3 hr3 hn3 hF3 => ?_
    obtain ⟨g1, g2⟩ := fin ht2 hF2 hr3 hn3 hF3
    simp only [push_cast, Nat.reduceAdd, Nat.reduceLeDiff, Nat.reduceLT, Int.reduceToNat, Nat.left_eq_add, Nat.add_eq_left, Nat.add_left_cancel_iff, Nat.reduceEqDiff, Nat.add_assoc, Nat.succ_ne_zero, beq_self_eq_true]
    exact h _ g1 g2
  have h2 : s.d ≠ 2 := by simpa using h2
  rw [if_neg h2] at h
  have hgl : ∀ A : Ent → Bool, (r.filter A).length ≤ r.length := fun A => List.length_filter_le _ _
  have hgo : ∀ A : Ent → Bool, ∀ e ∈ r.filter A, e.ok := fun A e he => hro e (List.mem_filter.1 he).1
  -- lists that are told
  have finL : ∀ {w2 w3 : World} {ps2 : List Ent} {L2 u v : Value} {r2 g : List Ent}, FT w2 p pb o c room ps2 r2 → Fr (pp p pb) W w2 → RdE 10 w2 u (g.map Ent.cells) → (∀ b, blkS u = some b → W.heap.size ≤ b) → (∀ e ∈ g, e.ok) → g.length ≤ r.length → RT w3 q room L2 r2 → RdE 10 w3 v (g.map Ent.cells) → New w2 L2 → Fr (fun x => x = q) w2 w3 → (∀ w', FJx N w' p q room r2 → Fr (fun b => N ≤ b) w w' → K (.bool true) w') → CallsR Try.prog 13 #[u, v] K w3 := by
    intro w2 w3 ps2 L2 u v r2 g h1 h2 hu hub hg hgl h3 hv h4 h5 hk
    obtain ⟨g1, g2⟩ := fin h1 h2 h3 (fun b hb => .inr (h4 b hb)) (h5.mono fun b _ e => .inl e)
    refine esame_yes (hu.fr h5 fun b hb e => by have := hub b hb; omega) hv hg (by omega) fun w4 hF4 => ?_
    exact hk _ (g1.fr0 hF4) (g2.trans_new hF4 fun _ _ e => e.elim)
  refine br_intro (fun h3 => ?_) fun h3 => ?_
  · have h3 : s.d = 3 := by simpa using h3
    rw [if_pos h3] at h
    refine age_spec hj.t (fun hf w2 hF2 => ?_) fun htt w2 ps2 u ht2 hu2 hub hF2 => ?_
    · have hx2 := hF2.heap hx fun h => h
      simp only [hf, Bool.false_eq_true, if_false] at h
      simp only [push_cast, Nat.reduceAdd, Nat.reduceLeDiff, Nat.reduceLT, Int.reduceToNat, Nat.left_eq_add, Nat.add_eq_left, Nat.add_left_cancel_iff, Nat.reduceEqDiff, Nat.add_assoc, Nat.succ_ne_zero, hx2]
      refine rage_spec (hj.r.fr0 hF2) hro (by omega) (fun _ => ?_) fun e => by rw [hf] at e; cases e
      simp only [push_cast, Nat.reduceAdd, Nat.reduceLeDiff, Nat.reduceLT, Int.reduceToNat, Nat.left_eq_add, Nat.add_eq_left, Nat.add_left_cancel_iff, Nat.reduceEqDiff, Nat.add_assoc, Nat.succ_ne_zero]
      refine esame_yes (rd_nil _) (rd_nil _) (fun _ h => by cases h) (by decide) fun w3 hF3 => ?_
      exact h _ ⟨pb, o, c, ps, L, (hj.fr0 hF2).fr0 hF3⟩ (((hF.trans hF2).trans hF3).mono fun _ _ e => e.elim)
    · have hx2 := hF2.heap hx hsp
      have hr2 := hj.r.fr hF2 hqpp hLpp
      simp only [htt, if_true] at h
      simp only [push_cast, Nat.reduceAdd, Nat.reduceLeDiff, Nat.reduceLT, Int.reduceToNat, Nat.left_eq_add, Nat.add_eq_left, Nat.add_left_cancel_iff, Nat.reduceEqDiff, Nat.add_assoc, Nat.succ_ne_zero, hx2]
      refine rage_spec hr2 hro (by omega) (fun e => by rw [htt] at e; cases e) fun _ w3 L3 v hr3 hv3 hnL hnv hnvL hF3 => ?_
      simp only [push_cast, Nat.reduceAdd, Nat.reduceLeDiff, Nat.reduceLT, Int.reduceToNat, Nat.left_eq_add, Nat.add_eq_left, Nat.add_left_cancel_iff, Nat.reduceEqDiff, Nat.add_assoc, Nat.succ_ne_zero]
      exact finL ht2 hF2 hu2 (fun b hb => (hub b hb).2.2) (hgo _) (hgl _) hr3 hv3 hnL hF3 h
  have h3 : s.d ≠ 3 := by simpa using h3
  rw [if_neg h3] at h
  refine br_intro (fun h4 => ?_) fun h4 => ?_
  · have h4 : s.d = 4 := by simpa using h4
    rw [if_pos h4] at h
    refine fport_spec hj.t fun w2 ps2 u ht2 hu2 hub hF2 => ?_
    have hx2 := hF2.heap hx hsp
    have hr2 := hj.r.fr hF2 hqpp hLpp
    simp only [push_cast, Nat.reduceAdd, Nat.reduceLeDiff, Nat.reduceLT, Int.reduceToNat, Nat.left_eq_add, Nat.add_eq_left, Nat.add_left_cancel_iff, Nat.reduceEqDiff, Nat.add_assoc, Nat.succ_ne_zero, hx2]
    refine rfport_spec hr2 hro (by omega) fun w3 L3 v hr3 hv3 hnL hnv hnvL hF3 => ?_
    simp only [push_cast, Nat.reduceAdd, Nat.reduceLeDiff, Nat.reduceLT, Int.reduceToNat, Nat.left_eq_add, Nat.add_eq_left, Nat.add_left_cancel_iff, Nat.reduceEqDiff, Nat.add_assoc, Nat.succ_ne_zero]
    exact finL ht2 hF2 hu2 (fun b hb => (hub b hb).2.2) (hgo _) (hgl _) hr3 hv3 hnL hF3 h
  · have h4 : s.d ≠ 4 := by simpa using h4
    rw [if_neg h4] at h
    refine fvlan_spec hj.t fun w2 ps2 u ht2 hu2 hub hF2 => ?_
    have hx2 := hF2.heap hx hsp
    have hr2 := hj.r.fr hF2 hqpp hLpp
    simp only [push_cast, Nat.reduceAdd, Nat.reduceLeDiff, Nat.reduceLT, Int.reduceToNat, Nat.left_eq_add, Nat.add_eq_left, Nat.add_left_cancel_iff, Nat.reduceEqDiff, Nat.add_assoc, Nat.succ_ne_zero, hx2]
    refine rfvlan_spec hr2 hro (by omega) fun w3 L3 v hr3 hv3 hnL hnv hnvL hF3 => ?_
    simp only [push_cast, Nat.reduceAdd, Nat.reduceLeDiff, Nat.reduceLT, Int.reduceToNat, Nat.left_eq_add, Nat.add_eq_left, Nat.add_left_cancel_iff, Nat.reduceEqDiff, Nat.add_assoc, Nat.succ_ne_zero]
    exact finL ht2 hF2 hu2 (fun b hb => (hub b hb).2.2) (hgo _) (hgl _) hr3 hv3 hnL hF3 h

end Go.Gx.S

namespace Go.Gx.S
open Go Go.Gx Go.Proofs
variable {K : Value → World → Prop} {w : World}

theorem made_spec {room : Int} {lv : Value} {st : List FStp} (hl : RdE 11 w lv (st.map FStp.cells)) (hso : ∀ s ∈ st, s.ok)
    (h0 : room < 1 ∨ 1024 < room → ∀ w', Fr none_ w w' → K (.tuple #[.pointer none, .pointer none, .bool true]) w')
    (h1 : 1 ≤ room → room ≤ 1024 → ∀ w' p q, FJx w.heap.size w' p q room.toNat ((st.take 150).foldl (stepL room.toNat) []) → Fr none_ w w' → K (.tuple #[pt p 0, pt q 0, .bool true]) w') :
    CallsR Try.prog 10 #[i64 room, lv] K w := by
  apply c10
  unfold p10
  obtain ⟨la, lc, rfl⟩ := hl.form
  rw [List.length_map] at hl ⊢
  simp only [push_cast, Nat.reduceAdd, Nat.reduceLeDiff, Nat.reduceLT, Int.reduceToNat, Nat.left_eq_add, Nat.add_eq_left, Nat.add_left_cancel_iff, Nat.reduceEqDiff, Nat.add_assoc, Nat.succ_ne_zero]
  refine pnew_spec room (fun hbad => ?_) fun g1 g2 p pb o c ps w2 ht hF2 hp hpb => ?_
  · simp only [push_cast, Nat.reduceAdd, Nat.reduceLeDiff, Nat.reduceLT, Int.reduceToNat, Nat.left_eq_add, Nat.add_eq_left, Nat.add_left_cancel_iff, Nat.reduceEqDiff, Nat.add_assoc, Nat.succ_ne_zero]
    refine rnew_spec room (fun _ => ?_) fun h1 h2 => absurd hbad (by omega)
    simp only [push_cast, Nat.reduceAdd, Nat.reduceLeDiff, Nat.reduceLT, Int.reduceToNat, Nat.left_eq_add, Nat.add_eq_left, Nat.add_left_cancel_iff, Nat.reduceEqDiff, Nat.add_assoc, Nat.succ_ne_zero]
    refine br_intro (fun e => by simp at e) fun _ => ?_
    refine br_intro (fun e => by simp at e) fun _ => ?_
    refine jn0 (fun w' => Fr none_ w w') (fun w' hF => h0 hbad _ hF) fun j hj => ?_
    refine loop1 (fun m v w' => v = i64 0 ∧ Fr none_ w w') ?_ 0 ⟨rfl, Fr.refl _ _⟩
    rintro m v' w' X ⟨rfl, hF⟩ hX
    simp only [push_cast, Nat.reduceAdd, Nat.reduceLeDiff, Nat.reduceLT, Int.reduceToNat, Nat.left_eq_add, Nat.add_eq_left, Nat.add_left_cancel_iff, Nat.reduceEqDiff, Nat.add_assoc, Nat.succ_ne_zero]
    refine br_intro (fun _ => ?_) fun _ => hj _ hF
    refine br_intro (fun _ => ?_) fun _ => hj _ hF
    first | exact hj _ hF | (refine br_intro (fun e => by simp at e) fun _ => hj _ hF)
  simp only [push_cast, Nat.reduceAdd, Nat.reduceLeDiff, Nat.reduceLT, Int.reduceToNat, Nat.left_eq_add, Nat.add_eq_left, Nat.add_left_cancel_iff, Nat.reduceEqDiff, Nat.add_assoc, Nat.succ_ne_zero]
  refine rnew_spec room (fun h => absurd h (by omega)) fun _ _ q L w3 hr hF3 hq hL => ?_
  simp only [push_cast, Nat.reduceAdd, Nat.reduceLeDiff, Nat.reduceLT, Int.reduceToNat, Nat.left_eq_add, Nat.add_eq_left, Nat.add_left_cancel_iff, Nat.reduceEqDiff, Nat.add_assoc, Nat.succ_ne_zero]
  refine br_intro (fun e => by simp at e) fun _ => ?_
  refine br_intro (fun e => by simp at e) fun _ => ?_
  have hlt := ht.fb.lt
  have hs2 := hF2.size
  have hF03 := hF2.trans hF3
  have hj0 : FJx w.heap.size w3 p q room.toNat [] := ⟨pb, o, c, ps, L, ht.fr0 hF3, hr, by omega, by omega, fun b hb => by have := hL b hb; omega, hp, hpb, by omega⟩
  have hplt : p < w3.heap.size := Nat.lt_of_lt_of_le hlt.1 hF3.size
  clear ht hr
  refine jn0 (fun w' => FJx w.heap.size w' p q room.toNat ((st.take 150).foldl (stepL room.toNat) []) ∧ Fr none_ w w') (fun w' ⟨a, b⟩ => h1 g1 g2 w' p q a b) fun j hj => ?_
  obtain ⟨m, hm⟩ : ∃ m, m = min st.length 150 := ⟨_, rfl⟩
  have htake : st.take 150 = st.take m := by
    rw [hm]
    rcases Nat.le_total st.length 150 with h | h
    · rw [Nat.min_eq_left h, List.take_length, List.take_of_length_le h]
    · rw [Nat.min_eq_right h]
  rw [htake] at hj
  refine loop1 (fun n v w' => ∃ i : Nat, v = i64 i ∧ n + i = m ∧ FJx w.heap.size w' p q room.toNat ((st.take i).foldl (stepL room.toNat) []) ∧ Fr none_ w w') ?_ m ⟨0, rfl, rfl, hj0, hF03⟩
  rintro n v' w4 X ⟨i, rfl, hi, hj4, hF4⟩ hX
  have hend : ¬ (i < st.length ∧ i < 150) → j w4 := fun hne => by
    have : i = m := by omega
    subst this
    exact hj _ ⟨hj4, hF4⟩
  simp only [push_cast, Nat.reduceAdd, Nat.reduceLeDiff, Nat.reduceLT, Int.reduceToNat, Nat.left_eq_add, Nat.add_eq_left, Nat.add_left_cancel_iff, Nat.reduceEqDiff, Nat.add_assoc, Nat.succ_ne_zero]
  refine br_dec (fun hlt1 => ?_) fun hge => hend (by omega)
  refine br_dec (fun hlt2 => ?_) fun hge => hend (by omega)
  have hil : i < st.length := by omega
  refine s_iaE (hl.fr hF4 fun _ _ h => h) (by omega) (by simpa using hil) fun _ _ _ _ he => ?_
  simp only [Int.toNat_natCast, List.getElem_map] at he ⊢
  rw [s_ldN (by decide), he.agg0 (FStp.len _), onS_some]
  refine step_spec hj4 hF4.size (hso _ (List.getElem_mem hil)) fun w5 hj5 hF5 => ?_
  simp only [push_cast, Nat.reduceAdd, Nat.reduceLeDiff, Nat.reduceLT, Int.reduceToNat, Nat.left_eq_add, Nat.add_eq_left, Nat.add_left_cancel_iff, Nat.reduceEqDiff, Nat.add_assoc, Nat.succ_ne_zero, Bool.not_true]
  rw [wrap_i64 (by omega)]
  refine hX (n - 1) _ _ (by omega) ⟨i + 1, by simp, by omega, ?_, hF4.trans_new hF5 fun b hb e => by omega⟩
  rw [List.take_succ_eq_append_getElem hil, List.foldl_append]
  exact hj5

/-! ### The program's table alone -/

def FTx (N : Nat) (w : World) (p room : Nat) (r : List Ent) : Prop := ∃ pb o c ps, FT w p pb o c room ps r ∧ N ≤ p ∧ N ≤ pb
def ge (N : Nat) : Nat → Prop := fun b => N ≤ b
theorem FTx.fr0 {N : Nat} {w w' : World} {p room : Nat} {r : List Ent} (h : FTx N w p room r) (hF : Fr none_ w w') : FTx N w' p room r := by
  obtain ⟨pb, o, c, ps, h, h1, h2⟩ := h
  exact ⟨pb, o, c, ps, h.fr0 hF, h1, h2⟩
theorem FJx.x {N : Nat} {w : World} {p q room : Nat} {r : List Ent} (h : FJx N w p q room r) : FTx N w p room r := by
  obtain ⟨pb, o, c, ps, L, h⟩ := h
  exact ⟨pb, o, c, ps, h.t, h.np, h.nb⟩
theorem FTx.srt {N p room : Nat} {r : List Ent} (h : FTx N w p room r) : Srt r := by obtain ⟨pb, o, c, ps, h, _⟩ := h; exact h.ct.srt
theorem FTx.cap {N p room : Nat} {r : List Ent} (h : FTx N w p room r) : r.length ≤ room := by obtain ⟨pb, o, c, ps, h, _⟩ := h; exact h.cap
theorem FTx.hi {N p room : Nat} {r : List Ent} (h : FTx N w p room r) : room ≤ 1024 := by obtain ⟨pb, o, c, ps, h, _⟩ := h; exact h.hi
theorem FTx.rng {N p room : Nat} {r : List Ent} (h : FTx N w p room r) : ∀ e ∈ r, RngE e := by obtain ⟨pb, o, c, ps, h, _⟩ := h; exact h.rng
theorem FTx.lt {N p room : Nat} {r : List Ent} (h : FTx N w p room r) : p < w.heap.size := by obtain ⟨pb, o, c, ps, h, _⟩ := h; exact h.fb.lt.1
theorem ge_pp {N p pb : Nat} (h1 : N ≤ p) (h2 : N ≤ pb) {w w' : World} (h : Fr (pp p pb) w w') : Fr (ge N) w w' := h.mono fun b _ e => by
  unfold pp at e
  unfold ge
  omega

theorem learnX {N p room : Nat} {r : List Ent} {v q t : Int} {m : Mac} (ht : FTx N w p room r) (hv : isI v) (hm : m.ok) (hq : isI q) (htt : isI t)
    (h : ∀ w', FTx N w' p room (learnL room r v m q t).1 → Fr (ge N) w w' → K (.tuple #[i64 (learnL room r v m q t).2.1, i64 (learnL room r v m q t).2.2]) w') :
    CallsR Try.prog 16 #[pt p 0, i64 v, .agg m.cells.toArray, i64 q, i64 t] K w := by
  obtain ⟨pb, o, c, ps, ht, h1, h2⟩ := ht
  exact learn_spec ht hv hm hq htt fun w' ps' ht' hF => h w' ⟨pb, o, c, ps', ht', h1, h2⟩ (ge_pp h1 h2 hF)
theorem putX {N p room : Nat} {r : List Ent} {v q : Int} {m : Mac} (ht : FTx N w p room r) (hv : isI v) (hm : m.ok) (hq : isI q)
    (h : ∀ w', FTx N w' p room (putL room r v m q).1 → Fr (ge N) w w' → K (i64 (putL room r v m q).2) w') :
    CallsR Try.prog 18 #[pt p 0, i64 v, .agg m.cells.toArray, i64 q] K w := by
  obtain ⟨pb, o, c, ps, ht, h1, h2⟩ := ht
  exact put_spec ht hv hm hq fun w' ps' ht' hF => h w' ⟨pb, o, c, ps', ht', h1, h2⟩ (ge_pp h1 h2 hF)
theorem lookX {N p room : Nat} {r : List Ent} {v : Int} {m : Mac} (ht : FTx N w p room r) (hv : isI v) (hm : m.ok)
    (h : ∀ w', Fr none_ w w' → K (.tuple #[.agg (lookL r (v, m)).1.cells.toArray, .bool (lookL r (v, m)).2]) w') :
    CallsR Try.prog 11 #[pt p 0, i64 v, .agg m.cells.toArray] K w := by
  obtain ⟨pb, o, c, ps, ht, h1, h2⟩ := ht
  exact look_spec ht hv hm h
theorem lenX {N p room : Nat} {r : List Ent} (ht : FTx N w p room r) (h : K (i64 r.length) w) : CallsR Try.prog 15 #[pt p 0] K w := by
  obtain ⟨pb, o, c, ps, ht, h1, h2⟩ := ht
  exact len_spec ht.fb h
theorem allX {N p room : Nat} {r : List Ent} (ht : FTx N w p room r) (h : ∀ w' b a c, RdE 10 w' (.slice (some ⟨b, a, none⟩) r.length c) (r.map Ent.cells) → Fr none_ w w' → w.heap.size ≤ b → b ≠ p → K (.slice (some ⟨b, a, none⟩) r.length c) w') :
    CallsR Try.prog 14 #[pt p 0] K w := by
  have hlt := ht.lt
  obtain ⟨pb, o, c, ps, ht, h1, h2⟩ := ht
  exact all_spec ht fun w' b a c ho hF hb => h w' b a c ho.rd hF hb (by omega)

theorem mac2 : (Mac.mk 2 0 0 0 0 0).ok := by simp [Mac.ok, isB]
theorem build_mac2 : opS Try.prog (S.build 24 [(0, .int .u8 2)]) K w = K (.agg (Mac.mk 2 0 0 0 0 0).cells.toArray) w := by
  rw [opS_build _ rfl]; rfl

theorem awake_spec (h : ∀ w', Fr none_ w w' → K (.bool true) w') : CallsR Try.prog 9 #[] K w := by
  apply c9
  unfold p9
  simp only [push_cast, Nat.reduceAdd, Nat.reduceLeDiff, Nat.reduceLT, Int.reduceToNat, Nat.left_eq_add, Nat.add_eq_left, Nat.add_left_cancel_iff, Nat.reduceEqDiff, Nat.add_assoc, Nat.succ_ne_zero]
  refine pnew_spec 4 (fun h => absurd h (by omega)) fun _ _ p pb o c ps w1 ht hF1 hp hpb => ?_
  simp only [push_cast, Nat.reduceAdd, Nat.reduceLeDiff, Nat.reduceLT, Int.reduceToNat, Nat.left_eq_add, Nat.add_eq_left, Nat.add_left_cancel_iff, Nat.reduceEqDiff, Nat.add_assoc, Nat.succ_ne_zero]
  refine br_intro (fun e => by simp at e) fun _ => ?_
  have htx : FTx w.heap.size w1 p 4 [] := ⟨pb, o, c, ps, ht, hp, hpb⟩
  have e1 : learnL 4 [] 1 ⟨2, 0, 0, 0, 0, 0⟩ 3 5 = ([⟨1, ⟨2, 0, 0, 0, 0, 0⟩, 3, 5, false⟩], 1, 0) := by rfl
  have e2 : learnL 4 [⟨1, ⟨2, 0, 0, 0, 0, 0⟩, 3, 5, false⟩] 1 ⟨2, 0, 0, 0, 0, 0⟩ 4 6 = ([⟨1, ⟨2, 0, 0, 0, 0, 0⟩, 4, 6, false⟩], 2, 0) := by rfl
  have e3 : lookL [⟨1, ⟨2, 0, 0, 0, 0, 0⟩, 4, 6, false⟩] (1, ⟨2, 0, 0, 0, 0, 0⟩) = (⟨1, ⟨2, 0, 0, 0, 0, 0⟩, 4, 6, false⟩, true) := by rfl
  have i1 : isI 1 := isI_iff.2 (by decide)
  rw [build_mac2]
  simp only [push_cast, Nat.reduceAdd, Nat.reduceLeDiff, Nat.reduceLT, Int.reduceToNat, Nat.left_eq_add, Nat.add_eq_left, Nat.add_left_cancel_iff, Nat.reduceEqDiff, Nat.add_assoc, Nat.succ_ne_zero]
  refine learnX htx i1 mac2 (isI_iff.2 (by decide)) (isI_iff.2 (by decide)) fun w2 ht2 hF2 => ?_
  rw [e1] at ht2 ⊢
  simp only [push_cast, Nat.reduceAdd, Nat.reduceLeDiff, Nat.reduceLT, Int.reduceToNat, Nat.left_eq_add, Nat.add_eq_left, Nat.add_left_cancel_iff, Nat.reduceEqDiff, Nat.add_assoc, Nat.succ_ne_zero]
  rw [build_mac2]
  simp only [push_cast, Nat.reduceAdd, Nat.reduceLeDiff, Nat.reduceLT, Int.reduceToNat, Nat.left_eq_add, Nat.add_eq_left, Nat.add_left_cancel_iff, Nat.reduceEqDiff, Nat.add_assoc, Nat.succ_ne_zero]
  refine learnX ht2 i1 mac2 (isI_iff.2 (by decide)) (isI_iff.2 (by decide)) fun w3 ht3 hF3 => ?_
  rw [e2] at ht3 ⊢
  simp only [push_cast, Nat.reduceAdd, Nat.reduceLeDiff, Nat.reduceLT, Int.reduceToNat, Nat.left_eq_add, Nat.add_eq_left, Nat.add_left_cancel_iff, Nat.reduceEqDiff, Nat.add_assoc, Nat.succ_ne_zero]
  rw [build_mac2]
  simp only [push_cast, Nat.reduceAdd, Nat.reduceLeDiff, Nat.reduceLT, Int.reduceToNat, Nat.left_eq_add, Nat.add_eq_left, Nat.add_left_cancel_iff, Nat.reduceEqDiff, Nat.add_assoc, Nat.succ_ne_zero]
  refine lookX ht3 i1 mac2 fun w4 hF4 => ?_
  rw [e3]
  simp only [s_ext, List.getElem?_toArray, List.getElem?_cons_zero, List.getElem?_cons_succ, onS_some]
  refine ent_slot fun _ w5 hw5 hF5 => ?_
  have hF : Fr none_ w w5 := (((hF1.trans_new hF2 fun b hb e => by unfold ge at e; omega).trans_new hF3 fun b hb e => by unfold ge at e; omega).trans hF4).trans hF5
  simp only [push_cast, Nat.reduceAdd, Nat.reduceLeDiff, Nat.reduceLT, Int.reduceToNat, Nat.left_eq_add, Nat.add_eq_left, Nat.add_left_cancel_iff, Nat.reduceEqDiff, Nat.add_assoc, Nat.succ_ne_zero, hw5]
  refine br_intro (fun _ => ?_) fun e => by simp at e
  refine br_intro (fun _ => ?_) fun e => by simp at e
  refine br_intro (fun _ => ?_) fun e => by simp at e
  refine lenX ((ht3.fr0 hF4).fr0 hF5) ?_
  simp only [push_cast, Nat.reduceAdd, Nat.reduceLeDiff, Nat.reduceLT, Int.reduceToNat, Nat.left_eq_add, Nat.add_eq_left, Nat.add_left_cancel_iff, Nat.reduceEqDiff, Nat.add_assoc, Nat.succ_ne_zero]
  exact h _ hF

end Go.Gx.S
