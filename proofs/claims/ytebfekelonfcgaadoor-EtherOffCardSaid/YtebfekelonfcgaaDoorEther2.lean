/- The bytes of a frame; tags: the laws. -/
import Derived.Test.YtebfekelonfcgaaDoorEther2T
import Derived.Test.YtebfekelonfcgaaDoorEther1
set_option linter.unusedVariables false
set_option linter.unusedSimpArgs false
set_option maxRecDepth 100000
namespace Go.Gx.S
open Go Go.Gx Go.Proofs
variable {K : Value → World → Prop} {w : World}

theorem build_mac1 {n : Int} : opS Tryd.prog (S.build 23 [(0, .int .u8 n)]) K w = K (.agg (Mac.cells ⟨n, 0, 0, 0, 0, 0⟩).toArray) w := by
  rw [opS_build _ rfl]; rfl
theorem build_frm4 {d s : Mac} {t : Int} {a : Option Addr} {n c : Nat} : opS Tryd.prog (S.build 26 [(0, .agg d.cells.toArray), (1, .agg s.cells.toArray), (5, .int .i64 t), (6, .slice a n c)]) K w = K (.agg (Frm.cells ⟨d, s, false, 0, 0, t, .slice a n c⟩).toArray) w := by
  rw [opS_build _ rfl]; rfl

theorem by_at {v : Value} {bs : List Int} (h : ByR w v bs) {i : Nat} (hi : i < bs.length) {F : Value → World → Prop} (hF : F (u8 bs[i]) w) : opS Tryd.prog (S.ia 24 v (.int .i64 i)) (fun x => opS Tryd.prog (S.ld 5 x) F) w := by
  refine s_iaE h.1 (by omega) (by simpa using hi) fun b o c _ he => ?_
  simp only [push_cast, Nat.reduceAdd, Nat.reduceLeDiff, Nat.reduceLT, Int.reduceToNat, Nat.left_eq_add, Nat.add_eq_left, Nat.add_left_cancel_iff, Nat.reduceEqDiff, Nat.add_assoc, Nat.succ_ne_zero]
  rw [he.cell0 (by simp [cell1])]
  simp only [push_cast, Nat.reduceAdd, Nat.reduceLeDiff, Nat.reduceLT, Int.reduceToNat, Nat.left_eq_add, Nat.add_eq_left, Nat.add_left_cancel_iff, Nat.reduceEqDiff, Nat.add_assoc, Nat.succ_ne_zero, List.getElem_map, cell1, Int.toNat_natCast]
  exact hF

theorem awake_spec (h : ∀ w', Fr none_ w w' → K (.bool true) w') : CallsR Tryd.prog 9 #[] K w := by
  apply c9
  unfold p9
  rw [build_mac1, build_mac1]
  refine s_bs1c (z := .int .u8 0) rfl rfl fun v w1 hv hF1 hN1 => ?_
  have hby : ByR w1 v [5] := own_by (bs := [5]) hv (by simp [isB])
  obtain ⟨a, c, rfl⟩ := hby.form
  rw [build_frm4]
  have hf : FrmR w1 ⟨⟨1, 0, 0, 0, 0, 0⟩, ⟨2, 0, 0, 0, 0, 0⟩, false, 0, 0, 2048, .slice a 1 c⟩ [5] := ⟨⟨by simp [Mac.ok, isB], by simp [Mac.ok, isB], isI_iff.2 (by simp), isI_iff.2 (by simp), isI_iff.2 (by simp)⟩, hby⟩
  simp only [push_cast, Nat.reduceAdd, Nat.reduceLeDiff, Nat.reduceLT, Int.reduceToNat, Nat.left_eq_add, Nat.add_eq_left, Nat.add_left_cancel_iff, Nat.reduceEqDiff, Nat.add_assoc, Nat.succ_ne_zero]
  refine enc_spec hf (by decide) fun b w2 hb hN hF2 => ?_
  have hr : (⟨⟨1, 0, 0, 0, 0, 0⟩, ⟨2, 0, 0, 0, 0, 0⟩, false, 0, 0, 2048, .slice a 1 c⟩ : Frm).right [(5 : Int)].length = true := rfl
  rw [hr, if_pos rfl] at hb
  have hb : ByR w2 b [1, 0, 0, 0, 0, 0, 2, 0, 0, 0, 0, 0, 8, 0, 5] := hb
  rw [hr, if_pos rfl]
  obtain ⟨ba, bc, hbe⟩ := hb.form
  have hbe : b = .slice ba 15 bc := hbe
  simp only [push_cast, Nat.reduceAdd, Nat.reduceLeDiff, Nat.reduceLT, Int.reduceToNat, Nat.left_eq_add, Nat.add_eq_left, Nat.add_left_cancel_iff, Nat.reduceEqDiff, Nat.add_assoc, Nat.succ_ne_zero]
  refine br_intro (fun _ => ?_) fun e => absurd e (by decide)
  rw [hbe]
  simp only [push_cast, Nat.reduceAdd, Nat.reduceLeDiff, Nat.reduceLT, Int.reduceToNat, Nat.left_eq_add, Nat.add_eq_left, Nat.add_left_cancel_iff, Nat.reduceEqDiff, Nat.add_assoc, Nat.succ_ne_zero]
  refine br_intro (fun _ => ?_) fun e => absurd e (by decide)
  rw [← hbe]
  refine by_at hb (i := 12) (by decide) ?_
  simp only [push_cast, Nat.reduceAdd, Nat.reduceLeDiff, Nat.reduceLT, Int.reduceToNat, Nat.left_eq_add, Nat.add_eq_left, Nat.add_left_cancel_iff, Nat.reduceEqDiff, Nat.add_assoc, Nat.succ_ne_zero]
  refine br_intro (fun _ => ?_) fun e => absurd e (by decide)
  refine by_at hb (i := 14) (by decide) ?_
  simp only [push_cast, Nat.reduceAdd, Nat.reduceLeDiff, Nat.reduceLT, Int.reduceToNat, Nat.left_eq_add, Nat.add_eq_left, Nat.add_left_cancel_iff, Nat.reduceEqDiff, Nat.add_assoc, Nat.succ_ne_zero]
  exact h w2 (hF1.trans hF2)

theorem encodes_law {f : Frm} {bs : List Int} (hf : FrmR w f bs) (h : ∀ w', Fr none_ w w' → K (.bool true) w') : CallsR Tryd.prog 3 #[.agg f.cells.toArray] K w := by
  apply c3
  unfold p3
  obtain ⟨a, c, hbd⟩ := hf.2.form
  simp only [push_cast, Nat.reduceAdd, Nat.reduceLeDiff, Nat.reduceLT, Int.reduceToNat, Nat.left_eq_add, Nat.add_eq_left, Nat.add_left_cancel_iff, Nat.reduceEqDiff, Nat.add_assoc, Nat.succ_ne_zero]
  refine awake_spec fun w1 hF1 => ?_
  have h1 := hF1.heap (b := w.heap.size) (o := cellsO f.cells 26) (by simp only [push_cast, Nat.reduceAdd, Nat.reduceLeDiff, Nat.reduceLT, Int.reduceToNat, Nat.left_eq_add, Nat.add_eq_left, Nat.add_left_cancel_iff, Nat.reduceEqDiff, Nat.add_assoc, Nat.succ_ne_zero]) (fun h => h)
  have hF : Fr none_ w w1 := Fr.trans (by repeat' first | with_reducible exact Fr.refl _ _ | with_reducible refine Fr.step_alloc ?_ ?_ | with_reducible refine Fr.step_drew ?_ | with_reducible refine Fr.step_wr ?_ ?_ _ _ | exact rfl | exact Or.inr (by omega) | exact Or.inl rfl | exact Or.inl (Or.inl rfl) | exact Or.inl (Or.inr rfl)) hF1
  clear hF1
  simp only [push_cast, Nat.reduceAdd, Nat.reduceLeDiff, Nat.reduceLT, Int.reduceToNat, Nat.left_eq_add, Nat.add_eq_left, Nat.add_left_cancel_iff, Nat.reduceEqDiff, Nat.add_assoc, Nat.succ_ne_zero, h1, hbd]
  refine br_dec (fun _ => h _ hF) fun hl => ?_
  refine enc_spec (hf.fr0 hF) (by omega) fun v2 w2 hv2 hN2 hF2 => ?_
  have h2 := hF2.heap h1 (fun h => h)
  replace hF := hF.trans hF2
  simp only [push_cast, Nat.reduceAdd, Nat.reduceLeDiff, Nat.reduceLT, Int.reduceToNat, Nat.left_eq_add, Nat.add_eq_left, Nat.add_left_cancel_iff, Nat.reduceEqDiff, Nat.add_assoc, Nat.succ_ne_zero, h2]
  refine renc_spec (hf.fr0 hF) (by omega) fun v3 w3 hv3 hF3 => ?_
  have h3 := hF3.heap h2 (fun h => h)
  replace hF := hF.trans hF3
  replace hv2 := hv2.fr hF3 fun _ _ h => h
  simp only [push_cast, Nat.reduceAdd, Nat.reduceLeDiff, Nat.reduceLT, Int.reduceToNat, Nat.left_eq_add, Nat.add_eq_left, Nat.add_left_cancel_iff, Nat.reduceEqDiff, Nat.add_assoc, Nat.succ_ne_zero, h3]
  have hFd := hF.step_drew
  have hv2d : ByR w3.drew v2 _ := hv2
  have hv3d : ByR w3.drew v3 _ := hv3
  have h3d : w3.drew.heap[w.heap.size]? = some (cellsO f.cells 26) := h3
  generalize w3.drew = w4 at *
  have last : ∀ w', Fr none_ w w' → K (.bool (f.right bs.length == f.right bs.length)) w' := fun w' hF => by simpa using h w' hF
  have fin : ∀ w', Fr none_ w w' → w'.heap[w.heap.size]? = some (cellsO f.cells 26) → CallsR Tryd.prog 12 #[.agg f.cells.toArray] (fun x21 => opS Tryd.prog (S.ld 26 (pt w.heap.size 0)) fun x22 => opS Tryd.prog (S.cl 13 [x22]) fun x23 => opS Tryd.prog (S.binB .eql x21 x23) fun x24 => K x24) w' := by
    intro w' hF h5
    refine right_spec hbd fun w6 hF6 => ?_
    have h6 := hF6.heap h5 (fun h => h)
    simp only [push_cast, Nat.reduceAdd, Nat.reduceLeDiff, Nat.reduceLT, Int.reduceToNat, Nat.left_eq_add, Nat.add_eq_left, Nat.add_left_cancel_iff, Nat.reduceEqDiff, Nat.add_assoc, Nat.succ_ne_zero, h6]
    refine rright_spec hbd fun w7 hF7 => ?_
    simp only [push_cast, Nat.reduceAdd, Nat.reduceLeDiff, Nat.reduceLT, Int.reduceToNat, Nat.left_eq_add, Nat.add_eq_left, Nat.add_left_cancel_iff, Nat.reduceEqDiff, Nat.add_assoc, Nat.succ_ne_zero]
    exact last _ ((hF.trans hF6).trans hF7)
  have fin2 : ∀ w', Fr none_ w w' → CallsR Tryd.prog 12 #[.agg f.cells.toArray] (fun x21 => opS Tryd.prog (S.cl 13 [.agg f.cells.toArray]) fun x23 => opS Tryd.prog (S.binB .eql x21 x23) fun x24 => K x24) w' := by
    intro w' hF
    refine right_spec hbd fun w6 hF6 => ?_
    simp only [push_cast, Nat.reduceAdd, Nat.reduceLeDiff, Nat.reduceLT, Int.reduceToNat, Nat.left_eq_add, Nat.add_eq_left, Nat.add_left_cancel_iff, Nat.reduceEqDiff, Nat.add_assoc, Nat.succ_ne_zero]
    refine rright_spec hbd fun w7 hF7 => ?_
    simp only [push_cast, Nat.reduceAdd, Nat.reduceLeDiff, Nat.reduceLT, Int.reduceToNat, Nat.left_eq_add, Nat.add_eq_left, Nat.add_left_cancel_iff, Nat.reduceEqDiff, Nat.add_assoc, Nat.succ_ne_zero]
    exact last _ ((hF.trans hF6).trans hF7)
  refine allW_intro ?_ ?_
  all_goals
    first | rw [s_b2s hv2d, s_b2s hv3d] | rw [s_b2s hv3d, s_b2s hv2d]
    rw [s_eqS hv2d.2 hv3d.2]
    simp only [push_cast, Nat.reduceAdd, Nat.reduceLeDiff, Nat.reduceLT, Int.reduceToNat, Nat.left_eq_add, Nat.add_eq_left, Nat.add_left_cancel_iff, Nat.reduceEqDiff, Nat.add_assoc, Nat.succ_ne_zero]
    refine br_intro (fun _ => ?_) fun e => absurd e (by simp)
    simp only [push_cast, Nat.reduceAdd, Nat.reduceLeDiff, Nat.reduceLT, Int.reduceToNat, Nat.left_eq_add, Nat.add_eq_left, Nat.add_left_cancel_iff, Nat.reduceEqDiff, Nat.add_assoc, Nat.succ_ne_zero, h3d]
    refine allW_intro (fin _ hFd h3d) ?_
    simp only [push_cast, Nat.reduceAdd, Nat.reduceLeDiff, Nat.reduceLT, Int.reduceToNat, Nat.left_eq_add, Nat.add_eq_left, Nat.add_left_cancel_iff, Nat.reduceEqDiff, Nat.add_assoc, Nat.succ_ne_zero, h3d]
    exact fin2 _ hFd

/-! ### Plain -/

theorem two_inj {a b : Int} (h : two a = two b) : a = b := by
  simp only [two, List.cons.injEq, and_true] at h
  omega
theorem macB_inj {a b : Mac} (h : macB a = macB b) : a = b := by
  simp only [macB, List.cons.injEq, and_true] at h
  obtain ⟨h0, h1, h2, h3, h4, h5⟩ := h
  exact Mac.ext h0 h1 h2 h3 h4 h5
theorem bytes_len (f : Frm) (bs : List Int) : (Frm.bytes f bs).length = 14 + bs.length + (if f.tagged then 4 else 0) := by
  unfold Frm.bytes
  cases f.tagged <;> simp [macB, two] <;> omega
theorem bytes_inj {f g : Frm} {bs cs : List Int} (hf : f.right bs.length = true) (hg : g.right cs.length = true) :
    Frm.bytes f bs = Frm.bytes g cs ↔ (f.dst = g.dst ∧ f.src = g.src ∧ f.tagged = g.tagged ∧ f.vlan = g.vlan ∧ f.prio = g.prio ∧ f.type = g.type ∧ bs = cs) := by
  constructor
  · intro h
    simp only [Frm.right, Bool.and_eq_true, decide_eq_true_eq] at hf hg
    unfold Frm.bytes at h
    simp only [List.append_assoc] at h
    have h1 := List.append_inj h rfl
    have h2 := List.append_inj h1.2 rfl
    refine ⟨macB_inj h1.1, macB_inj h2.1, ?_⟩
    have h3 := h2.2
    obtain ⟨hf1, hf2⟩ := hf
    obtain ⟨hg1, hg2⟩ := hg
    cases ef : f.tagged <;> cases eg : g.tagged <;> rw [ef] at h3 hf2 <;> rw [eg] at h3 hg2 <;> simp only [if_true, if_false, Bool.false_eq_true, List.nil_append, List.append_assoc, decide_eq_true_eq] at h3 hf2 hg2
    · have h4 := List.append_inj h3 rfl
      exact ⟨rfl, hf2.1.trans hg2.1.symm, hf2.2.trans hg2.2.symm, two_inj h4.1, h4.2⟩
    · have h4 := two_inj (List.append_inj h3 rfl).1
      omega
    · have h4 := two_inj (List.append_inj h3 rfl).1
      omega
    · have h4 := List.append_inj (List.append_inj h3 rfl).2 rfl
      have h5 := two_inj h4.1
      have h6 := List.append_inj h4.2 rfl
      exact ⟨rfl, by omega, by omega, two_inj h6.1, h6.2⟩
  · rintro ⟨h1, h2, h3, h4, h5, h6, rfl⟩
    unfold Frm.bytes
    rw [h1, h2, h3, h4, h5, h6]

theorem once_law {f g : Frm} {bs cs : List Int} (hf : FrmR w f bs) (hg : FrmR w g cs) (h : ∀ w', Fr none_ w w' → K (.bool true) w') : CallsR Tryd.prog 4 #[.agg f.cells.toArray, .agg g.cells.toArray] K w := by
  apply c4
  unfold p4
  obtain ⟨a, c, hbd⟩ := hf.2.form
  obtain ⟨ga, gc, hgbd⟩ := hg.2.form
  simp only [push_cast, Nat.reduceAdd, Nat.reduceLeDiff, Nat.reduceLT, Int.reduceToNat, Nat.left_eq_add, Nat.add_eq_left, Nat.add_left_cancel_iff, Nat.reduceEqDiff, Nat.add_assoc, Nat.succ_ne_zero]
  refine awake_spec fun w1 hF1 => ?_
  have h1 := hF1.heap (b := w.heap.size) (o := cellsO f.cells 26) (by simp only [push_cast, Nat.reduceAdd, Nat.reduceLeDiff, Nat.reduceLT, Int.reduceToNat, Nat.left_eq_add, Nat.add_eq_left, Nat.add_left_cancel_iff, Nat.reduceEqDiff, Nat.add_assoc, Nat.succ_ne_zero]) (fun h => h)
  have g1 := hF1.heap (b := w.heap.size + 1) (o := cellsO g.cells 26) (by simp only [push_cast, Nat.reduceAdd, Nat.reduceLeDiff, Nat.reduceLT, Int.reduceToNat, Nat.left_eq_add, Nat.add_eq_left, Nat.add_left_cancel_iff, Nat.reduceEqDiff, Nat.add_assoc, Nat.succ_ne_zero]) (fun h => h)
  have hF : Fr none_ w w1 := Fr.trans (by repeat' first | with_reducible exact Fr.refl _ _ | with_reducible refine Fr.step_alloc ?_ ?_ | with_reducible refine Fr.step_drew ?_ | with_reducible refine Fr.step_wr ?_ ?_ _ _ | exact rfl | exact Or.inr (by omega) | exact Or.inl rfl | exact Or.inl (Or.inl rfl) | exact Or.inl (Or.inr rfl)) hF1
  clear hF1
  simp only [push_cast, Nat.reduceAdd, Nat.reduceLeDiff, Nat.reduceLT, Int.reduceToNat, Nat.left_eq_add, Nat.add_eq_left, Nat.add_left_cancel_iff, Nat.reduceEqDiff, Nat.add_assoc, Nat.succ_ne_zero, h1, g1, hbd, hgbd]
  refine br_dec (fun _ => h _ hF) fun hl => ?_
  refine br_dec (fun _ => h _ hF) fun hgl => ?_
  refine enc_spec (hf.fr0 hF) (by omega) fun v2 w2 hv2 hN2 hF2 => ?_
  have h2 := hF2.heap h1 (fun h => h)
  have g2 := hF2.heap g1 (fun h => h)
  replace hF := hF.trans hF2
  simp only [push_cast, Nat.reduceAdd, Nat.reduceLeDiff, Nat.reduceLT, Int.reduceToNat, Nat.left_eq_add, Nat.add_eq_left, Nat.add_left_cancel_iff, Nat.reduceEqDiff, Nat.add_assoc, Nat.succ_ne_zero, g2]
  refine enc_spec (hg.fr0 hF) (by omega) fun v3 w3 hv3 hN3 hF3 => ?_
  have h3 := hF3.heap h2 (fun h => h)
  have g3 := hF3.heap g2 (fun h => h)
  replace hF := hF.trans hF3
  replace hv2 := hv2.fr hF3 fun _ _ h => h
  simp only [push_cast, Nat.reduceAdd, Nat.reduceLeDiff, Nat.reduceLT, Int.reduceToNat, Nat.left_eq_add, Nat.add_eq_left, Nat.add_left_cancel_iff, Nat.reduceEqDiff, Nat.add_assoc, Nat.succ_ne_zero]
  refine br_intro (fun _ => h _ hF) fun e => ?_
  have hfr : f.right bs.length = true := by
    cases hr : f.right bs.length with
    | true => rfl
    | false => rw [hr] at e; exact absurd e (by decide)
  refine br_intro (fun _ => h _ hF) fun e => ?_
  have hgr : g.right cs.length = true := by
    cases hr : g.right cs.length with
    | true => rfl
    | false => rw [hr] at e; exact absurd e (by decide)
  rw [hfr, if_pos rfl] at hv2
  rw [hgr, if_pos rfl] at hv3
  simp only [push_cast, Nat.reduceAdd, Nat.reduceLeDiff, Nat.reduceLT, Int.reduceToNat, Nat.left_eq_add, Nat.add_eq_left, Nat.add_left_cancel_iff, Nat.reduceEqDiff, Nat.add_assoc, Nat.succ_ne_zero, h3, hbd]
  rw [wrap_i64 (x := 14 + (bs.length : Int)) (by omega)]
  refine jn1 (fun x w' => w' = w3 ∧ x = i64 (14 + (bs.length : Int) + (if f.tagged then 4 else 0))) ?_ fun j hj => ?_
  · rintro x w' ⟨rfl, rfl⟩
    simp only [push_cast, Nat.reduceAdd, Nat.reduceLeDiff, Nat.reduceLT, Int.reduceToNat, Nat.left_eq_add, Nat.add_eq_left, Nat.add_left_cancel_iff, Nat.reduceEqDiff, Nat.add_assoc, Nat.succ_ne_zero, h3, g3]
    refine same_spec (hf.fr0 hF) (hg.fr0 hF) fun w4 hF4 => ?_
    replace hF := hF.trans hF4
    replace hv2 := hv2.fr hF4 fun _ _ h => h
    replace hv3 := hv3.fr hF4 fun _ _ h => h
    obtain ⟨va, vc, hve⟩ := hv2.form
    have hlen : S.len v2 = S.len (.slice va (Frm.bytes f bs).length vc) := by rw [hve]
    rw [hlen]
    simp only [push_cast, Nat.reduceAdd, Nat.reduceLeDiff, Nat.reduceLT, Int.reduceToNat, Nat.left_eq_add, Nat.add_eq_left, Nat.add_left_cancel_iff, Nat.reduceEqDiff, Nat.add_assoc, Nat.succ_ne_zero]
    refine br_intro (fun _ => ?_) fun e => absurd e ?_
    · rw [s_b2s hv2, s_b2s hv3, s_eqS hv2.2 hv3.2]
      simp only [push_cast, Nat.reduceAdd, Nat.reduceLeDiff, Nat.reduceLT, Int.reduceToNat, Nat.left_eq_add, Nat.add_eq_left, Nat.add_left_cancel_iff, Nat.reduceEqDiff, Nat.add_assoc, Nat.succ_ne_zero]
      have e : ∀ b1 b2 : Bool, (b1 = true ↔ b2 = true) → (b1 == b2) = true := by decide
      rw [e _ _ (by rw [decide_eq_true_iff, decide_eq_true_iff]; exact (bytes_inj hfr hgr).symm)]
      exact h _ hF
    · rw [bytes_len]
      cases f.tagged <;> simp
  · simp only [push_cast, Nat.reduceAdd, Nat.reduceLeDiff, Nat.reduceLT, Int.reduceToNat, Nat.left_eq_add, Nat.add_eq_left, Nat.add_left_cancel_iff, Nat.reduceEqDiff, Nat.add_assoc, Nat.succ_ne_zero, h3]
    refine br_intro (fun ht => ?_) fun ht => ?_
    · rw [wrap_i64 (by omega)]
      exact hj _ _ ⟨rfl, by rw [ht]; rfl⟩
    · exact hj _ _ ⟨rfl, by rw [ht]; simp⟩

theorem zalloc_frm : opS Tryd.prog (S.alloc 26) K w = K (pt w.heap.size 0) (w.alloc (cellsO zFrm.cells 26)) := by
  rw [opS_alloc]; rfl

/-- a frame is laid down -/
theorem frm_slot {g : Frm} {R : Value → Value → World → Prop} (hone : g.cells.all S.oneCell = true) (h : ∀ u w', w'.heap[w.heap.size]? = some (cellsO g.cells 26) → Fr none_ w w' → R (pt w.heap.size 0) u w') :
    opS Tryd.prog (S.alloc 26) (fun x => opS Tryd.prog (S.st 26 x (.agg g.cells.toArray)) (R x)) w := by
  rw [zalloc_frm]
  simp only [push_cast, Nat.reduceAdd, Nat.reduceLeDiff, Nat.reduceLT, Int.reduceToNat, Nat.left_eq_add, Nat.add_eq_left, Nat.add_left_cancel_iff, Nat.reduceEqDiff, Nat.add_assoc, Nat.succ_ne_zero, hone]
  refine h _ _ ?_ (Fr.step_wr (Fr.step_alloc (Fr.refl _ _) rfl) (.inr (Nat.le_refl _)) _ _)
  simp only [push_cast, Nat.reduceAdd, Nat.reduceLeDiff, Nat.reduceLT, Int.reduceToNat, Nat.left_eq_add, Nat.add_eq_left, Nat.add_left_cancel_iff, Nat.reduceEqDiff, Nat.add_assoc, Nat.succ_ne_zero]

theorem tag_pair {f : Frm} {bs : List Int} {v p : Int} : (if (f.tag v p).right bs.length then Value.tuple #[.agg (f.tag v p).cells.toArray, i64 0] else .tuple #[.agg zFrm.cells.toArray, i64 1]) =
    .tuple #[.agg (if (f.tag v p).right bs.length then f.tag v p else zFrm).cells.toArray, i64 (if (f.tag v p).right bs.length then 0 else 1)] := by
  split <;> rfl

theorem tags_law {f : Frm} {bs : List Int} {v p : Int} (hf : FrmR w f bs) (hv : isI v) (hp : isI p) (h : ∀ w', Fr none_ w w' → K (.bool true) w') : CallsR Tryd.prog 5 #[.agg f.cells.toArray, i64 v, i64 p] K w := by
  apply c5
  unfold p5
  obtain ⟨a, c, hbd⟩ := hf.2.form
  simp only [push_cast, Nat.reduceAdd, Nat.reduceLeDiff, Nat.reduceLT, Int.reduceToNat, Nat.left_eq_add, Nat.add_eq_left, Nat.add_left_cancel_iff, Nat.reduceEqDiff, Nat.add_assoc, Nat.succ_ne_zero]
  refine awake_spec fun w1 hF1 => ?_
  have h1 := hF1.heap (b := w.heap.size) (o := cellsO f.cells 26) (by simp only [push_cast, Nat.reduceAdd, Nat.reduceLeDiff, Nat.reduceLT, Int.reduceToNat, Nat.left_eq_add, Nat.add_eq_left, Nat.add_left_cancel_iff, Nat.reduceEqDiff, Nat.add_assoc, Nat.succ_ne_zero]) (fun h => h)
  have hF : Fr none_ w w1 := Fr.trans (by repeat' first | with_reducible exact Fr.refl _ _ | with_reducible refine Fr.step_alloc ?_ ?_ | with_reducible refine Fr.step_drew ?_ | with_reducible refine Fr.step_wr ?_ ?_ _ _ | exact rfl | exact Or.inr (by omega) | exact Or.inl rfl | exact Or.inl (Or.inl rfl) | exact Or.inl (Or.inr rfl)) hF1
  clear hF1
  simp only [push_cast, Nat.reduceAdd, Nat.reduceLeDiff, Nat.reduceLT, Int.reduceToNat, Nat.left_eq_add, Nat.add_eq_left, Nat.add_left_cancel_iff, Nat.reduceEqDiff, Nat.add_assoc, Nat.succ_ne_zero, h1, hbd]
  refine br_dec (fun _ => h _ hF) fun hl => ?_
  refine tag_spec (hf.fr0 hF) fun w2 hF2 => ?_
  have h2 := hF2.heap h1 (fun h => h)
  replace hF := hF.trans hF2
  rw [tag_pair]
  have hg : ∃ cs, FrmR w (if (f.tag v p).right bs.length then f.tag v p else zFrm) cs := by
    split
    · exact ⟨bs, ⟨hf.1.1, hf.1.2.1, hv, hp, hf.1.2.2.2.2⟩, hf.2⟩
    · exact ⟨[], zFrmR w⟩
  obtain ⟨cs, hg⟩ := hg
  generalize ht : (if (f.tag v p).right bs.length then f.tag v p else zFrm) = t at *
  generalize he : (if (f.tag v p).right bs.length then (0 : Int) else 1) = e at *
  have hone := hg.one
  simp only [s_ext, List.getElem?_toArray, List.getElem?_cons_zero, List.getElem?_cons_succ, onS_some]
  refine frm_slot hone fun _ w3 t3 hF3 => ?_
  have h3 := hF3.heap h2 (fun h => h)
  replace hF := hF.trans hF3
  simp only [push_cast, Nat.reduceAdd, Nat.reduceLeDiff, Nat.reduceLT, Int.reduceToNat, Nat.left_eq_add, Nat.add_eq_left, Nat.add_left_cancel_iff, Nat.reduceEqDiff, Nat.add_assoc, Nat.succ_ne_zero, h3]
  refine rtag_spec (hf.fr0 hF) fun w4 hF4 => ?_
  have h4 := hF4.heap h3 (fun h => h)
  have t4 := hF4.heap t3 (fun h => h)
  replace hF := hF.trans hF4
  rw [tag_pair, ht, he]
  simp only [s_ext, List.getElem?_toArray, List.getElem?_cons_zero, List.getElem?_cons_succ, onS_some]
  refine frm_slot hone fun _ w5 s5 hF5 => ?_
  have h5 := hF5.heap h4 (fun h => h)
  have t5 := hF5.heap t4 (fun h => h)
  replace hF := hF.trans hF5
  simp only [push_cast, Nat.reduceAdd, Nat.reduceLeDiff, Nat.reduceLT, Int.reduceToNat, Nat.left_eq_add, Nat.add_eq_left, Nat.add_left_cancel_iff, Nat.reduceEqDiff, Nat.add_assoc, Nat.succ_ne_zero, t5, s5]
  refine same_spec (hg.fr0 hF) (hg.fr0 hF) fun w6 hF6 => ?_
  have h6 := hF6.step_drew.heap h5 (fun h => h)
  replace hF := (hF.trans hF6).step_drew
  simp only [drw_eq]
  generalize w6.drew = w7 at *
  simp only [push_cast, Nat.reduceAdd, Nat.reduceLeDiff, Nat.reduceLT, Int.reduceToNat, Nat.left_eq_add, Nat.add_eq_left, Nat.add_left_cancel_iff, Nat.reduceEqDiff, Nat.add_assoc, Nat.succ_ne_zero]
  refine br_intro (fun _ => ?_) fun e => absurd e (by simp)
  refine br_intro (fun _ => ?_) fun e => absurd e (by simp)
  have hu : FrmR w f.untag bs := ⟨⟨hf.1.1, hf.1.2.1, isI_iff.2 (by simp [Frm.untag]), isI_iff.2 (by simp [Frm.untag]), hf.1.2.2.2.2⟩, hf.2⟩
  have last : ∀ w', Fr none_ w w' → CallsR Tryd.prog 14 #[.agg f.untag.cells.toArray, .agg f.untag.cells.toArray] K w' := fun w' hF' =>
    same_spec (hu.fr0 hF') (hu.fr0 hF') fun w'' hF'' => by
      rw [decide_eq_true (by simp)]
      exact h _ (hF'.trans hF'')
  simp only [push_cast, Nat.reduceAdd, Nat.reduceLeDiff, Nat.reduceLT, Int.reduceToNat, Nat.left_eq_add, Nat.add_eq_left, Nat.add_left_cancel_iff, Nat.reduceEqDiff, Nat.add_assoc, Nat.succ_ne_zero, h6]
  refine allW_intro ?_ ?_
  · refine untag_spec (hf.fr0 hF) fun w8 hF8 => ?_
    have h8 := hF8.heap h6 (fun h => h)
    replace hF := hF.trans hF8
    simp only [push_cast, Nat.reduceAdd, Nat.reduceLeDiff, Nat.reduceLT, Int.reduceToNat, Nat.left_eq_add, Nat.add_eq_left, Nat.add_left_cancel_iff, Nat.reduceEqDiff, Nat.add_assoc, Nat.succ_ne_zero, h8]
    refine runtag_spec (hf.fr0 hF) fun w9 hF9 => ?_
    simp only [push_cast, Nat.reduceAdd, Nat.reduceLeDiff, Nat.reduceLT, Int.reduceToNat, Nat.left_eq_add, Nat.add_eq_left, Nat.add_left_cancel_iff, Nat.reduceEqDiff, Nat.add_assoc, Nat.succ_ne_zero]
    exact last _ (hF.trans hF9)
  · simp only [push_cast, Nat.reduceAdd, Nat.reduceLeDiff, Nat.reduceLT, Int.reduceToNat, Nat.left_eq_add, Nat.add_eq_left, Nat.add_left_cancel_iff, Nat.reduceEqDiff, Nat.add_assoc, Nat.succ_ne_zero, h6]
    refine untag_spec (hf.fr0 hF) fun w8 hF8 => ?_
    replace hF := hF.trans hF8
    simp only [push_cast, Nat.reduceAdd, Nat.reduceLeDiff, Nat.reduceLT, Int.reduceToNat, Nat.left_eq_add, Nat.add_eq_left, Nat.add_left_cancel_iff, Nat.reduceEqDiff, Nat.add_assoc, Nat.succ_ne_zero]
    refine runtag_spec (hf.fr0 hF) fun w9 hF9 => ?_
    simp only [push_cast, Nat.reduceAdd, Nat.reduceLeDiff, Nat.reduceLT, Int.reduceToNat, Nat.left_eq_add, Nat.add_eq_left, Nat.add_left_cancel_iff, Nat.reduceEqDiff, Nat.add_assoc, Nat.succ_ne_zero]
    exact last _ (hF.trans hF9)

theorem off_law {f : Frm} {bs : List Int} {v p : Int} (hf : FrmR w f bs) (hv : isI v) (hp : isI p) (h : ∀ w', Fr none_ w w' → K (.bool true) w') : CallsR Tryd.prog 6 #[.agg f.cells.toArray, i64 v, i64 p] K w := by
  apply c6
  unfold p6
  obtain ⟨a, c, hbd⟩ := hf.2.form
  simp only [push_cast, Nat.reduceAdd, Nat.reduceLeDiff, Nat.reduceLT, Int.reduceToNat, Nat.left_eq_add, Nat.add_eq_left, Nat.add_left_cancel_iff, Nat.reduceEqDiff, Nat.add_assoc, Nat.succ_ne_zero]
  refine awake_spec fun w1 hF1 => ?_
  have h1 := hF1.heap (b := w.heap.size) (o := cellsO f.cells 26) (by simp only [push_cast, Nat.reduceAdd, Nat.reduceLeDiff, Nat.reduceLT, Int.reduceToNat, Nat.left_eq_add, Nat.add_eq_left, Nat.add_left_cancel_iff, Nat.reduceEqDiff, Nat.add_assoc, Nat.succ_ne_zero]) (fun h => h)
  have hF : Fr none_ w w1 := Fr.trans (by repeat' first | with_reducible exact Fr.refl _ _ | with_reducible refine Fr.step_alloc ?_ ?_ | with_reducible refine Fr.step_drew ?_ | with_reducible refine Fr.step_wr ?_ ?_ _ _ | exact rfl | exact Or.inr (by omega) | exact Or.inl rfl | exact Or.inl (Or.inl rfl) | exact Or.inl (Or.inr rfl)) hF1
  clear hF1
  simp only [push_cast, Nat.reduceAdd, Nat.reduceLeDiff, Nat.reduceLT, Int.reduceToNat, Nat.left_eq_add, Nat.add_eq_left, Nat.add_left_cancel_iff, Nat.reduceEqDiff, Nat.add_assoc, Nat.succ_ne_zero, h1, hbd]
  refine br_dec (fun _ => h _ hF) fun hl => ?_
  refine br_intro (fun _ => h _ hF) fun ht => ?_
  refine tag_spec (hf.fr0 hF) fun w2 hF2 => ?_
  have h2 := hF2.heap h1 (fun h => h)
  replace hF := hF.trans hF2
  rw [tag_pair]
  have hg : ∃ cs, FrmR w (if (f.tag v p).right bs.length then f.tag v p else zFrm) cs := by
    split
    · exact ⟨bs, ⟨hf.1.1, hf.1.2.1, hv, hp, hf.1.2.2.2.2⟩, hf.2⟩
    · exact ⟨[], zFrmR w⟩
  obtain ⟨cs, hg⟩ := hg
  have hone := hg.one
  simp only [s_ext, List.getElem?_toArray, List.getElem?_cons_zero, List.getElem?_cons_succ, onS_some]
  refine frm_slot hone fun _ w3 t3 hF3 => ?_
  have h3 := hF3.heap h2 (fun h => h)
  replace hF := hF.trans hF3
  simp only [push_cast, Nat.reduceAdd, Nat.reduceLeDiff, Nat.reduceLT, Int.reduceToNat, Nat.left_eq_add, Nat.add_eq_left, Nat.add_left_cancel_iff, Nat.reduceEqDiff, Nat.add_assoc, Nat.succ_ne_zero]
  refine br_intro (fun _ => h _ hF) fun e => ?_
  have hr : (f.tag v p).right bs.length = true := by
    cases hr : (f.tag v p).right bs.length with
    | true => rfl
    | false => rw [hr] at e; exact absurd e (by decide)
  rw [hr, if_pos rfl] at t3
  have htg : FrmR w (f.tag v p) bs := ⟨⟨hf.1.1, hf.1.2.1, hv, hp, hf.1.2.2.2.2⟩, hf.2⟩
  simp only [push_cast, Nat.reduceAdd, Nat.reduceLeDiff, Nat.reduceLT, Int.reduceToNat, Nat.left_eq_add, Nat.add_eq_left, Nat.add_left_cancel_iff, Nat.reduceEqDiff, Nat.add_assoc, Nat.succ_ne_zero, h3]
  refine enc_spec (hf.fr0 hF) (by omega) fun v4 w4 hv4 hN4 hF4 => ?_
  have h4 := hF4.heap h3 (fun h => h)
  have t4 := hF4.heap t3 (fun h => h)
  replace hF := hF.trans hF4
  simp only [push_cast, Nat.reduceAdd, Nat.reduceLeDiff, Nat.reduceLT, Int.reduceToNat, Nat.left_eq_add, Nat.add_eq_left, Nat.add_left_cancel_iff, Nat.reduceEqDiff, Nat.add_assoc, Nat.succ_ne_zero, t4]
  refine enc_spec (htg.fr0 hF) (by omega) fun v5 w5 hv5 hN5 hF5 => ?_
  have h5 := hF5.heap h4 (fun h => h)
  have t5 := hF5.heap t4 (fun h => h)
  replace hF := hF.trans hF5
  rw [hr, if_pos rfl] at hv5
  rw [hr, if_pos rfl]
  simp only [push_cast, Nat.reduceAdd, Nat.reduceLeDiff, Nat.reduceLT, Int.reduceToNat, Nat.left_eq_add, Nat.add_eq_left, Nat.add_left_cancel_iff, Nat.reduceEqDiff, Nat.add_assoc, Nat.succ_ne_zero]
  refine jn1 (fun x w' => x = .bool true ∧ Fr none_ w w' ∧ w'.heap[w.heap.size]? = some (cellsO f.cells 26)) ?_ fun j hj => ?_
  · rintro x w' ⟨rfl, hF', h'⟩
    simp only [push_cast, Nat.reduceAdd, Nat.reduceLeDiff, Nat.reduceLT, Int.reduceToNat, Nat.left_eq_add, Nat.add_eq_left, Nat.add_left_cancel_iff, Nat.reduceEqDiff, Nat.add_assoc, Nat.succ_ne_zero, jn_1]
    refine br_intro (fun e => ?_) fun e => ?_
    · have hfr : f.right bs.length = false := by
        cases hr : f.right bs.length with
        | false => rfl
        | true => rw [hr] at e; exact absurd e (by decide)
      simp only [push_cast, Nat.reduceAdd, Nat.reduceLeDiff, Nat.reduceLT, Int.reduceToNat, Nat.left_eq_add, Nat.add_eq_left, Nat.add_left_cancel_iff, Nat.reduceEqDiff, Nat.add_assoc, Nat.succ_ne_zero, h']
      refine br_intro (fun _ => ?_) fun e => absurd e (by decide)
      refine right_spec hbd fun w6 hF6 => ?_
      rw [hfr]
      simp only [push_cast, Nat.reduceAdd, Nat.reduceLeDiff, Nat.reduceLT, Int.reduceToNat, Nat.left_eq_add, Nat.add_eq_left, Nat.add_left_cancel_iff, Nat.reduceEqDiff, Nat.add_assoc, Nat.succ_ne_zero]
      exact h _ (hF'.trans hF6)
    · have hfr : f.right bs.length = true := by
        cases hr : f.right bs.length with
        | true => rfl
        | false => rw [hr] at e; exact absurd e (by decide)
      rw [hfr, if_pos rfl] at hv4
      refine br_intro (fun _ => ?_) fun e => absurd e (by decide)
      obtain ⟨a4, c4, e4⟩ := hv4.form
      obtain ⟨a5, c5, e5⟩ := hv5.form
      rw [e4, e5]
      simp only [push_cast, Nat.reduceAdd, Nat.reduceLeDiff, Nat.reduceLT, Int.reduceToNat, Nat.left_eq_add, Nat.add_eq_left, Nat.add_left_cancel_iff, Nat.reduceEqDiff, Nat.add_assoc, Nat.succ_ne_zero]
      have l4 : (Frm.bytes f bs).length = 14 + bs.length := by rw [bytes_len, ht]; rfl
      have l5 : (Frm.bytes (f.tag v p) bs).length = 14 + bs.length + 4 := by rw [bytes_len]; rfl
      rw [l4, l5, wrap_i64 (by omega)]
      have e6 : (((14 + bs.length + 4 : Nat) : Int) == ((14 + bs.length : Nat) : Int) + 4) = true := by simp
      rw [e6]
      exact h _ hF'
  have hut : (f.tag v p).untag = f.untag := rfl
  have hu : FrmR w f.untag bs := ⟨⟨hf.1.1, hf.1.2.1, isI_iff.2 (by simp [Frm.untag]), isI_iff.2 (by simp [Frm.untag]), hf.1.2.2.2.2⟩, hf.2⟩
  have last : ∀ w', Fr none_ w w' → w'.heap[w.heap.size]? = some (cellsO f.cells 26) → CallsR Tryd.prog 14 #[.agg f.untag.cells.toArray, .agg f.untag.cells.toArray] j w' := fun w' hF' h' =>
    same_spec (hu.fr0 hF') (hu.fr0 hF') fun w'' hF'' => by
      rw [decide_eq_true (by simp)]
      exact hj _ _ ⟨rfl, hF'.trans hF'', hF''.heap h' fun h => h⟩
  have hd : w5.drew.heap[w.heap.size]? = some (cellsO f.cells 26) := h5
  replace hF := hF.step_drew
  simp only [push_cast, Nat.reduceAdd, Nat.reduceLeDiff, Nat.reduceLT, Int.reduceToNat, Nat.left_eq_add, Nat.add_eq_left, Nat.add_left_cancel_iff, Nat.reduceEqDiff, Nat.add_assoc, Nat.succ_ne_zero, t5]
  generalize w5.drew = w7 at *
  refine allW_intro ?_ ?_
  · refine untag_spec (htg.fr0 hF) fun w8 hF8 => ?_
    have h8 := hF8.heap hd (fun h => h)
    replace hF := hF.trans hF8
    simp only [push_cast, Nat.reduceAdd, Nat.reduceLeDiff, Nat.reduceLT, Int.reduceToNat, Nat.left_eq_add, Nat.add_eq_left, Nat.add_left_cancel_iff, Nat.reduceEqDiff, Nat.add_assoc, Nat.succ_ne_zero, h8]
    refine untag_spec (hf.fr0 hF) fun w9 hF9 => ?_
    simp only [push_cast, Nat.reduceAdd, Nat.reduceLeDiff, Nat.reduceLT, Int.reduceToNat, Nat.left_eq_add, Nat.add_eq_left, Nat.add_left_cancel_iff, Nat.reduceEqDiff, Nat.add_assoc, Nat.succ_ne_zero, hut]
    exact last _ (hF.trans hF9) (hF9.heap h8 fun h => h)
  · simp only [push_cast, Nat.reduceAdd, Nat.reduceLeDiff, Nat.reduceLT, Int.reduceToNat, Nat.left_eq_add, Nat.add_eq_left, Nat.add_left_cancel_iff, Nat.reduceEqDiff, Nat.add_assoc, Nat.succ_ne_zero, hd]
    refine untag_spec (htg.fr0 hF) fun w8 hF8 => ?_
    have h8 := hF8.heap hd (fun h => h)
    replace hF := hF.trans hF8
    simp only [push_cast, Nat.reduceAdd, Nat.reduceLeDiff, Nat.reduceLT, Int.reduceToNat, Nat.left_eq_add, Nat.add_eq_left, Nat.add_left_cancel_iff, Nat.reduceEqDiff, Nat.add_assoc, Nat.succ_ne_zero]
    refine untag_spec (hf.fr0 hF) fun w9 hF9 => ?_
    simp only [push_cast, Nat.reduceAdd, Nat.reduceLeDiff, Nat.reduceLT, Int.reduceToNat, Nat.left_eq_add, Nat.add_eq_left, Nat.add_left_cancel_iff, Nat.reduceEqDiff, Nat.add_assoc, Nat.succ_ne_zero, hut]
    exact last _ (hF.trans hF9) (hF9.heap h8 fun h => h)

end Go.Gx.S
