/- Tables of VLANs: both do the same steps. -/
import Derived.Test.YtdnidegmlplocaaVlan3T
import Derived.Test.YtdnidegmlplocaaVlan2
set_option linter.unusedVariables false
set_option linter.unusedSimpArgs false
set_option maxRecDepth 100000
namespace Go.Gx.S
open Go Go.Gx Go.Proofs
variable {K : Value → World → Prop} {w : World}

def f800 : Frm := { zFrm with type := 2048 }
theorem build_f800 : opS Try.prog (S.build 27 [(5, .int .i64 2048)]) K w = K (.agg f800.cells.toArray) w := by
  rw [opS_build _ rfl]; rfl
theorem f800R (w : World) : FrmR w f800 [] := ⟨⟨by simp [f800, zFrm, zMac, Mac.ok, isB], by simp [f800, zFrm, zMac, Mac.ok, isB], isI_iff.2 (by simp [f800, zFrm]), isI_iff.2 (by simp [f800, zFrm]), isI_iff.2 (by simp [f800])⟩, ByR.nil _ _ _⟩

theorem awake_spec (h : ∀ w', Fr none_ w w' → K (.bool true) w') : CallsR Try.prog 10 #[] K w := by
  apply c10
  unfold p10
  simp only [push_cast, Nat.reduceAdd, Nat.reduceLeDiff, Nat.reduceLT, Int.reduceToNat, Nat.left_eq_add, Nat.add_eq_left, Nat.add_left_cancel_iff, Nat.reduceEqDiff, Nat.add_assoc, Nat.succ_ne_zero]
  refine vnew_spec 4 (fun h => absurd ⟨by decide, by decide⟩ h) fun _ _ w1 p m nb hv hF hp hm hn => ?_
  have b0 : ((0 : Int) != 0) = false := rfl
  simp only [push_cast, Nat.reduceAdd, Nat.reduceLeDiff, Nat.reduceLT, Int.reduceToNat, Nat.left_eq_add, Nat.add_eq_left, Nat.add_left_cancel_iff, Nat.reduceEqDiff, Nat.add_assoc, Nat.succ_ne_zero, b0]
  refine vadd_spec hv fun w2 hv2 hF2 => ?_
  simp only [push_cast, Nat.reduceAdd, Nat.reduceLeDiff, Nat.reduceLT, Int.reduceToNat, Nat.left_eq_add, Nat.add_eq_left, Nat.add_left_cancel_iff, Nat.reduceEqDiff, Nat.add_assoc, Nat.succ_ne_zero]
  refine vadd_spec hv2 fun w3 hv3 hF3 => ?_
  simp only [push_cast, Nat.reduceAdd, Nat.reduceLeDiff, Nat.reduceLT, Int.reduceToNat, Nat.left_eq_add, Nat.add_eq_left, Nat.add_left_cancel_iff, Nat.reduceEqDiff, Nat.add_assoc, Nat.succ_ne_zero]
  refine vnative_spec hv3 fun w4 hv4 hF4 => ?_
  have hz : ∀ w : World, w.alloc (cellsO [Value.int IntKind.u8 0, Value.int IntKind.u8 0, Value.int IntKind.u8 0, Value.int IntKind.u8 0, Value.int IntKind.u8 0, Value.int IntKind.u8 0, Value.int IntKind.u8 0, Value.int IntKind.u8 0, Value.int IntKind.u8 0, Value.int IntKind.u8 0, Value.int IntKind.u8 0, Value.int IntKind.u8 0,
    Value.bool false, Value.int IntKind.i64 0, Value.int IntKind.i64 0, Value.int IntKind.i64 0, Value.slice none 0 0] 27) = w.alloc (cellsO zFrm.cells 27) := fun _ => rfl
  have hone : f800.cells.all S.oneCell = true := rfl
  have hF04 : Fr none_ w w4 := ((hF.trans_new hF2 (fun b hb h => by unfold vfp at h; omega)).trans_new hF3 (fun b hb h => by unfold vfp at h; omega)).trans_new hF4 (fun b hb h => by unfold vfp at h; omega)
  clear hF hF2 hF3 hF4 hv hv2 hv3
  generalize ht : ((((VT.new (Int.toNat 4)).add 10 1 true).1.add 10 2 false).1.native 2 10).1 = t at *
  have hlt := hv4.lt
  simp only [push_cast, Nat.reduceAdd, Nat.reduceLeDiff, Nat.reduceLT, Int.reduceToNat, Nat.left_eq_add, Nat.add_eq_left, Nat.add_left_cancel_iff, Nat.reduceEqDiff, Nat.add_assoc, Nat.succ_ne_zero, build_f800, hz, hone]
  have hF5 : Fr none_ w4 (wr (w4.alloc (cellsO zFrm.cells 27)) w4.heap.size 0 f800.cells) := (by repeat' first | with_reducible exact Fr.refl _ _ | with_reducible refine Fr.step_alloc ?_ ?_ | with_reducible refine Fr.step_drew ?_ | with_reducible refine Fr.step_wr ?_ ?_ _ _ | exact rfl | exact Or.inr (by omega) | exact Or.inl rfl | exact Or.inl (Or.inl rfl) | exact Or.inl (Or.inr rfl))
  have h0 : (wr (w4.alloc (cellsO zFrm.cells 27)) w4.heap.size 0 f800.cells).heap[w4.heap.size]? = some (cellsO f800.cells 27) := by simp only [push_cast, Nat.reduceAdd, Nat.reduceLeDiff, Nat.reduceLT, Int.reduceToNat, Nat.left_eq_add, Nat.add_eq_left, Nat.add_left_cancel_iff, Nat.reduceEqDiff, Nat.add_assoc, Nat.succ_ne_zero]
  generalize wr (w4.alloc (cellsO zFrm.cells 27)) w4.heap.size 0 f800.cells = W at *
  refine vin_spec (hv4.fr0 hF5) (f800R _) fun w6 hF6 => ?_
  replace h0 := hF6.heap h0 (fun h => h)
  have hF46 := hF5.trans hF6
  have e1 : t.inn 2 f800 ([] : List Int).length = (10, 0) := by rw [← ht]; decide
  rw [e1]
  simp only [push_cast, Nat.reduceAdd, Nat.reduceLeDiff, Nat.reduceLT, Int.reduceToNat, Nat.left_eq_add, Nat.add_eq_left, Nat.add_left_cancel_iff, Nat.reduceEqDiff, Nat.add_assoc, Nat.succ_ne_zero, h0]
  refine vout_spec (hv4.fr0 hF46) (f800R _) fun w7 hF7 => ?_
  have e2 : (t.out 10 1 f800 ([] : List Int).length).2 = 0 := by rw [← ht]; rfl
  have e3 : (t.out 10 1 f800 ([] : List Int).length).1 = f800.tag 10 0 := by rw [← ht]; rfl
  rw [e2, e3]
  have hone2 : (f800.tag 10 0).cells.all S.oneCell = true := rfl
  have b1 : ((10 : Int) == 10) = true := rfl
  have b2 : ((0 : Int) == 0) = true := rfl
  have b3 : (f800.tag 10 0).tagged = true := rfl
  have b4 : (f800.tag 10 0).vlan = 10 := rfl
  simp only [push_cast, Nat.reduceAdd, Nat.reduceLeDiff, Nat.reduceLT, Int.reduceToNat, Nat.left_eq_add, Nat.add_eq_left, Nat.add_left_cancel_iff, Nat.reduceEqDiff, Nat.add_assoc, Nat.succ_ne_zero, hz, hone2, b1, b2, b3, b4]
  exact h _ (((hF04.trans (hF46.trans hF7)).step_alloc rfl).step_wr (Or.inr (by have := hF04.size; have := hF46.size; have := hF7.size; omega)) _ _)

/-! ### Steps -/

structure Stp where
  do_ : Int
  vlan : Int
  port : Int
  tagged : Bool
def Stp.cells (s : Stp) : List Value := [i64 s.do_, i64 s.vlan, i64 s.port, .bool s.tagged]
def Stp.ok (s : Stp) : Prop := isI s.do_ ∧ isI s.vlan ∧ isI s.port

def vstep (t : VT) (s : Stp) : VT × Int := if s.do_ = 0 then t.add s.vlan s.port s.tagged else if s.do_ = 1 then t.remove s.vlan s.port else t.native s.port s.vlan

structure Both (w : World) (p m nb q nc : Nat) (Lv : Value) (t : VT) : Prop where
  v : VRep w p m nb t
  r : RRep w q nc Lv t
  dq : q ≠ p ∧ q ≠ m ∧ q ≠ nb ∧ nc ≠ p ∧ nc ≠ m ∧ nc ≠ nb
  dl : ∀ b, blkS Lv = some b → b ≠ p ∧ b ≠ m ∧ b ≠ nb
theorem Both.fr0 {w w' : World} {p m nb q nc : Nat} {Lv : Value} {t : VT} (h : Both w p m nb q nc Lv t) (hf : Fr none_ w w') : Both w' p m nb q nc Lv t := ⟨h.v.fr0 hf, h.r.fr0 hf, h.dq, h.dl⟩

theorem Stp.g0 (s : Stp) : s.cells[0]? = some (i64 s.do_) := id rfl
theorem Stp.g1 (s : Stp) : s.cells[1]? = some (i64 s.vlan) := id rfl
theorem Stp.g2 (s : Stp) : s.cells[2]? = some (i64 s.port) := id rfl
theorem Stp.g3 (s : Stp) : s.cells[3]? = some (.bool s.tagged) := id rfl

def bfp (p m nb q nc : Nat) (Lv : Value) (b : Nat) : Prop := vfp p m nb b ∨ rfp q nc Lv b

theorem Both.mid {w1 : World} {p m nb q nc : Nat} {Lv : Value} {t : VT} (hB : Both w p m nb q nc Lv t) (hF1 : Fr (vfp p m nb) w w1) : RRep w1 q nc Lv t :=
  hB.r.fr hF1 (by unfold vfp; have := hB.dq; omega) (by unfold vfp; have := hB.dq; omega) (fun b hb => by unfold vfp; have := hB.dl b hb; omega)

theorem Both.fin {w1 w2 : World} {p m nb q nc : Nat} {Lv Lv' : Value} {t t' : VT} (hB : Both w p m nb q nc Lv t) (hv1 : VRep w1 p m nb t') (hF1 : Fr (vfp p m nb) w w1) (hr2 : RRep w2 q nc Lv' t') (hF2 : Fr (rfp q nc Lv) w1 w2) (hL : blkS Lv' = blkS Lv ∨ New w1 Lv') :
    Both w2 p m nb q nc Lv' t' ∧ Fr (bfp p m nb q nc Lv) w w2 ∧ (blkS Lv' = blkS Lv ∨ New w Lv') := by
  have hvlt := hv1.lt
  have hx : ∀ b, b = p ∨ b = m ∨ b = nb → ¬ rfp q nc Lv b := by
    rintro b hb (e | e | e)
    · have := hB.dq; omega
    · have := hB.dq; omega
    · have := hB.dl b e; omega
  have hv2 : VRep w2 p m nb t' := hv1.fr hF2 (hx _ (.inl rfl)) (hx _ (.inr (.inl rfl))) (hx _ (.inr (.inr rfl)))
  refine ⟨⟨hv2, hr2, hB.dq, fun b hb => ?_⟩, (hF1.mono fun b _ h => .inl h).trans (hF2.mono fun b _ h => .inr h), ?_⟩
  · rcases hL with hL | hL
    · exact hB.dl b (hL ▸ hb)
    · have := hL b hb; omega
  · rcases hL with hL | hL
    · exact .inl hL
    · exact .inr fun b hb => Nat.le_trans hF1.size (hL b hb)

theorem step_spec {p m nb q nc : Nat} {Lv : Value} {t : VT} {s : Stp} (hB : Both w p m nb q nc Lv t) (h : ∀ w' Lv', Both w' p m nb q nc Lv' (vstep t s).1 → Fr (bfp p m nb q nc Lv) w w' → (blkS Lv' = blkS Lv ∨ New w Lv') → K (.bool true) w') :
    CallsR Try.prog 27 #[pt p 0, pt q 0, .agg s.cells.toArray] K w := by
  apply c27
  unfold p27
  have hF0 : Fr none_ w (w.alloc (cellsO s.cells 46)) := (by repeat' first | with_reducible exact Fr.refl _ _ | with_reducible refine Fr.step_alloc ?_ ?_ | with_reducible refine Fr.step_drew ?_ | with_reducible refine Fr.step_wr ?_ ?_ _ _ | exact rfl | exact Or.inr (by omega) | exact Or.inl rfl | exact Or.inl (Or.inl rfl) | exact Or.inl (Or.inr rfl))
  have hs0 : (w.alloc (cellsO s.cells 46)).heap[w.heap.size]? = some (cellsO s.cells 46) := by simp only [push_cast, Nat.reduceAdd, Nat.reduceLeDiff, Nat.reduceLT, Int.reduceToNat, Nat.left_eq_add, Nat.add_eq_left, Nat.add_left_cancel_iff, Nat.reduceEqDiff, Nat.add_assoc, Nat.succ_ne_zero]
  have hne : ∀ b, b = p ∨ b = m ∨ b = nb → w.heap.size ≠ b := by
    have := hB.v.lt
    rintro b hb e
    omega
  simp only [opS_box, cells_agg, alloc_cellsO]
  have hB0 := hB.fr0 hF0
  have h' : ∀ w' Lv', Both w' p m nb q nc Lv' (vstep t s).1 → Fr (bfp p m nb q nc Lv) (w.alloc (cellsO s.cells 46)) w' → (blkS Lv' = blkS Lv ∨ New (w.alloc (cellsO s.cells 46)) Lv') → K (.bool true) w' := fun w' Lv' h1 h2 h3 => by
    refine h w' Lv' h1 ((hF0.mono fun _ _ h => h.elim).trans h2) ?_
    rcases h3 with h3 | h3
    · exact .inl h3
    · exact .inr fun b hb => Nat.le_trans hF0.size (h3 b hb)
  clear h hF0 hB
  generalize hW : w.alloc (cellsO s.cells 46) = W at *
  simp only [push_cast, Nat.reduceAdd, Nat.reduceLeDiff, Nat.reduceLT, Int.reduceToNat, Nat.left_eq_add, Nat.add_eq_left, Nat.add_left_cancel_iff, Nat.reduceEqDiff, Nat.add_assoc, Nat.succ_ne_zero, hs0, Stp.g0, Stp.g1, Stp.g2, Stp.g3]
  have hkeep : ∀ {w1 : World}, Fr (vfp p m nb) W w1 → w1.heap[w.heap.size]? = some (cellsO s.cells 46) := fun hF => hF.heap hs0 (fun e => hne _ e rfl)
  have eqb : ∀ n : Int, (n == n) = true := fun n => by simp
  refine br_intro (fun e0 => ?_) fun e0 => ?_
  · have e0 : s.do_ = 0 := by simpa using e0
    have hst : vstep t s = t.add s.vlan s.port s.tagged := by unfold vstep; rw [if_pos e0]
    rw [hst] at h'
    refine vadd_spec hB0.v fun w1 hv1 hF1 => ?_
    simp only [push_cast, Nat.reduceAdd, Nat.reduceLeDiff, Nat.reduceLT, Int.reduceToNat, Nat.left_eq_add, Nat.add_eq_left, Nat.add_left_cancel_iff, Nat.reduceEqDiff, Nat.add_assoc, Nat.succ_ne_zero, hkeep hF1, Stp.g0, Stp.g1, Stp.g2, Stp.g3]
    refine radd_spec (hB0.mid hF1) fun w2 Lv' hr2 hF2 hL => ?_
    obtain ⟨g1, g2, g3⟩ := hB0.fin hv1 hF1 hr2 hF2 hL
    simp only [push_cast, Nat.reduceAdd, Nat.reduceLeDiff, Nat.reduceLT, Int.reduceToNat, Nat.left_eq_add, Nat.add_eq_left, Nat.add_left_cancel_iff, Nat.reduceEqDiff, Nat.add_assoc, Nat.succ_ne_zero, eqb]
    exact h' _ _ g1 g2 g3
  · have e0 : s.do_ ≠ 0 := by simpa using e0
    refine br_intro (fun e1 => ?_) fun e1 => ?_
    · have e1 : s.do_ = 1 := by simpa using e1
      have hst : vstep t s = t.remove s.vlan s.port := by unfold vstep; rw [if_neg e0, if_pos e1]
      rw [hst] at h'
      refine vremove_spec hB0.v fun w1 hv1 hF1 => ?_
      simp only [push_cast, Nat.reduceAdd, Nat.reduceLeDiff, Nat.reduceLT, Int.reduceToNat, Nat.left_eq_add, Nat.add_eq_left, Nat.add_left_cancel_iff, Nat.reduceEqDiff, Nat.add_assoc, Nat.succ_ne_zero, hkeep hF1, Stp.g0, Stp.g1, Stp.g2, Stp.g3]
      refine rremove_spec (hB0.mid hF1) fun w2 Lv' hr2 hF2 hL => ?_
      obtain ⟨g1, g2, g3⟩ := hB0.fin hv1 hF1 hr2 hF2 hL
      simp only [push_cast, Nat.reduceAdd, Nat.reduceLeDiff, Nat.reduceLT, Int.reduceToNat, Nat.left_eq_add, Nat.add_eq_left, Nat.add_left_cancel_iff, Nat.reduceEqDiff, Nat.add_assoc, Nat.succ_ne_zero, eqb]
      exact h' _ _ g1 g2 g3
    · have e1 : s.do_ ≠ 1 := by simpa using e1
      have hst : vstep t s = t.native s.port s.vlan := by unfold vstep; rw [if_neg e0, if_neg e1]
      rw [hst] at h'
      refine vnative_spec hB0.v fun w1 hv1 hF1 => ?_
      simp only [push_cast, Nat.reduceAdd, Nat.reduceLeDiff, Nat.reduceLT, Int.reduceToNat, Nat.left_eq_add, Nat.add_eq_left, Nat.add_left_cancel_iff, Nat.reduceEqDiff, Nat.add_assoc, Nat.succ_ne_zero, hkeep hF1, Stp.g0, Stp.g1, Stp.g2, Stp.g3]
      refine rnative_spec (hB0.mid hF1) fun w2 hr2 hF2 => ?_
      obtain ⟨g1, g2, g3⟩ := hB0.fin hv1 hF1 hr2 hF2 (.inl rfl)
      simp only [push_cast, Nat.reduceAdd, Nat.reduceLeDiff, Nat.reduceLT, Int.reduceToNat, Nat.left_eq_add, Nat.add_eq_left, Nat.add_left_cancel_iff, Nat.reduceEqDiff, Nat.add_assoc, Nat.succ_ne_zero, eqb]
      exact h' _ _ g1 g2 g3

def vsteps (t : VT) (l : List Stp) : VT := l.foldl (fun t s => (vstep t s).1) t

theorem made_spec {n : Int} {lv : Value} {st : List Stp} (hl : RdE 4 w lv (st.map Stp.cells)) (h0 : ¬ (1 ≤ n ∧ n ≤ 64) → ∀ w', Fr none_ w w' → K (.tuple #[.pointer none, .pointer none, .bool true]) w')
    (h1 : 1 ≤ n → n ≤ 64 → ∀ w' p m nb q nc Lv, Both w' p m nb q nc Lv (vsteps (VT.new n.toNat) (st.take 100)) → Fr none_ w w' → (∀ b, bfp p m nb q nc Lv b → w.heap.size ≤ b) → K (.tuple #[pt p 0, pt q 0, .bool true]) w') :
    CallsR Try.prog 11 #[i64 n, lv] K w := by
  apply c11
  unfold p11
  simp only [push_cast, Nat.reduceAdd, Nat.reduceLeDiff, Nat.reduceLT, Int.reduceToNat, Nat.left_eq_add, Nat.add_eq_left, Nat.add_left_cancel_iff, Nat.reduceEqDiff, Nat.add_assoc, Nat.succ_ne_zero]
  obtain ⟨a, c, rfl⟩ := hl.form
  rw [List.length_map] at hl ⊢
  refine vnew_spec n (fun hn => ?_) fun hn1 hn2 w1 p m nb hv hF hp hm hnb => ?_
  · simp only [push_cast, Nat.reduceAdd, Nat.reduceLeDiff, Nat.reduceLT, Int.reduceToNat, Nat.left_eq_add, Nat.add_eq_left, Nat.add_left_cancel_iff, Nat.reduceEqDiff, Nat.add_assoc, Nat.succ_ne_zero]
    refine rnew_spec n (fun _ => ?_) fun h1 h2 => absurd ⟨h1, h2⟩ hn
    have b1 : ((1 : Int) != 1) = false := rfl
    have b2 : (!(true == true)) = false := rfl
    simp only [push_cast, Nat.reduceAdd, Nat.reduceLeDiff, Nat.reduceLT, Int.reduceToNat, Nat.left_eq_add, Nat.add_eq_left, Nat.add_left_cancel_iff, Nat.reduceEqDiff, Nat.add_assoc, Nat.succ_ne_zero, b1, b2]
    refine jn0 (fun w' => Fr none_ w w') (fun w' hF => h0 hn w' hF) fun j hj => ?_
    refine loop1 (fun m v w' => v = i64 0 ∧ Fr none_ w w') ?_ 0 ⟨rfl, Fr.refl _ _⟩
    rintro m v w' X ⟨rfl, hF⟩ hX
    simp only [push_cast, Nat.reduceAdd, Nat.reduceLeDiff, Nat.reduceLT, Int.reduceToNat, Nat.left_eq_add, Nat.add_eq_left, Nat.add_left_cancel_iff, Nat.reduceEqDiff, Nat.add_assoc, Nat.succ_ne_zero]
    refine br_intro (fun _ => ?_) fun _ => hj _ hF
    refine br_intro (fun _ => ?_) fun _ => hj _ hF
    exact hj _ hF
  · simp only [push_cast, Nat.reduceAdd, Nat.reduceLeDiff, Nat.reduceLT, Int.reduceToNat, Nat.left_eq_add, Nat.add_eq_left, Nat.add_left_cancel_iff, Nat.reduceEqDiff, Nat.add_assoc, Nat.succ_ne_zero]
    refine rnew_spec n (fun h => absurd ⟨hn1, hn2⟩ h) fun _ _ w2 q nc Lv hr hF2 hq hnc hLN => ?_
    have b1 : ((0 : Int) != 0) = false := rfl
    have b2 : (!(false == false)) = false := rfl
    simp only [push_cast, Nat.reduceAdd, Nat.reduceLeDiff, Nat.reduceLT, Int.reduceToNat, Nat.left_eq_add, Nat.add_eq_left, Nat.add_left_cancel_iff, Nat.reduceEqDiff, Nat.add_assoc, Nat.succ_ne_zero, b1, b2]
    have hvl := hv.lt
    have hB : Both w2 p m nb q nc Lv (VT.new n.toNat) := ⟨hv.fr0 hF2, hr, by omega, fun b hb => by have := hLN b hb; omega⟩
    have hF02 := hF.trans hF2
    refine jn0 (fun w' => ∃ Lv, Both w' p m nb q nc Lv (vsteps (VT.new n.toNat) (st.take 100)) ∧ Fr none_ w w' ∧ ∀ b, blkS Lv = some b → w.heap.size ≤ b) ?_ fun j hj => ?_
    · rintro w' ⟨Lv', hB', hF', hL'⟩
      refine h1 hn1 hn2 w' p m nb q nc Lv' hB' hF' ?_
      have := hF.size
      rintro b ((e | e | e) | (e | e | e))
      · omega
      · omega
      · omega
      · omega
      · omega
      · exact hL' b e
    refine loop1 (fun k v w' => ∃ i Lv', v = i64 (i : Nat) ∧ i + k = 100 ∧ i ≤ st.length ∧ Both w' p m nb q nc Lv' (vsteps (VT.new n.toNat) (st.take i)) ∧ Fr none_ w w' ∧ ∀ b, blkS Lv' = some b → w.heap.size ≤ b) ?_ 100
      ⟨0, Lv, rfl, rfl, by omega, hB, hF02, fun b hb => by have := hLN b hb; have := hF.size; omega⟩
    rintro k v w' X ⟨i, Lv', rfl, hk, hist, hB', hF', hL'⟩ hX
    simp only [push_cast, Nat.reduceAdd, Nat.reduceLeDiff, Nat.reduceLT, Int.reduceToNat, Nat.left_eq_add, Nat.add_eq_left, Nat.add_left_cancel_iff, Nat.reduceEqDiff, Nat.add_assoc, Nat.succ_ne_zero]
    refine br_dec (fun hlt => ?_) fun hge => hj _ ⟨Lv', by
      have : st.take i = st.take 100 := by rw [List.take_of_length_le (by omega), List.take_of_length_le (by omega)]
      rw [← this]; exact hB', hF', hL'⟩
    refine br_dec (fun hlt2 => ?_) fun hge => hj _ ⟨Lv', by
      have : i = 100 := by omega
      subst this; exact hB', hF', hL'⟩
    have hi2 : i < st.length := by omega
    have hl' : RdE 4 w' _ (st.map Stp.cells) := hl.fr hF' (fun _ _ h => h)
    refine s_iaE hl' (by omega) (by simpa using hi2) fun b1 o1 c1 _ hE => ?_
    simp only [Int.toNat_natCast, List.getElem_map] at hE ⊢
    have hE0 := hE.agg0 (n := 4) rfl
    simp only [push_cast, Nat.reduceAdd, Nat.reduceLeDiff, Nat.reduceLT, Int.reduceToNat, Nat.left_eq_add, Nat.add_eq_left, Nat.add_left_cancel_iff, Nat.reduceEqDiff, Nat.add_assoc, Nat.succ_ne_zero, hE0]
    refine step_spec hB' fun w3 Lv3 hB3 hF3 hL3 => ?_
    have hw : IntKind.i64.wrap ((i : Int) + 1) = ((i + 1 : Nat) : Int) := by rw [wrap_i64 (by omega)]; omega
    simp only [push_cast, Nat.reduceAdd, Nat.reduceLeDiff, Nat.reduceLT, Int.reduceToNat, Nat.left_eq_add, Nat.add_eq_left, Nat.add_left_cancel_iff, Nat.reduceEqDiff, Nat.add_assoc, Nat.succ_ne_zero, hw]
    have hsz := hF.size
    refine hX (k - 1) _ _ (by omega) ⟨i + 1, Lv3, rfl, by omega, by omega, ?_, hF'.trans_new hF3 ?_, ?_⟩
    · have : vsteps (VT.new n.toNat) (st.take (i + 1)) = (vstep (vsteps (VT.new n.toNat) (st.take i)) st[i]).1 := by
        rw [List.take_add_one, List.getElem?_eq_getElem hi2]
        unfold vsteps
        rw [List.foldl_append]
        rfl
      rw [this]; exact hB3
    · rintro b hb ((e | e | e) | (e | e | e))
      · omega
      · omega
      · omega
      · omega
      · omega
      · have := hL' b e; omega
    · intro b hb
      rcases hL3 with hL3 | hL3
      · exact hL' b (hL3 ▸ hb)
      · exact Nat.le_trans hF'.size (hL3 b hb)

end Go.Gx.S
