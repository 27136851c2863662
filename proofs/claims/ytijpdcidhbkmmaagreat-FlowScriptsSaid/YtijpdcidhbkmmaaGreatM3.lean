/- Own texts, put together. -/
import Derived.Test.YtijpdcidhbkmmaaGreatM2
import Derived.Test.YtijpdcidhbkmmaaGreatM1
import Derived.Lib.SlicesCompact
import Derived.Sort.Row
import Derived.Sort.Grow
import Derived.Shelf.SlSortCmp.WholeK
import Derived.Shelf.SlSortCmp.NoneTotal
section
/- Frames, tags; tables of VLANs, and the document's. -/
set_option linter.unusedVariables false
set_option linter.unusedSimpArgs false
set_option maxRecDepth 100000
namespace Go.Gx.S.Vl
open Go Go.Gx Go.Proofs
variable {K : Value → World → Prop} {w : World}

theorem right_spec {f : Frm} {a : Option Addr} {n c : Nat} (hb : f.body = .slice a n c) (h : ∀ w', Fr none_ w w' → K (.bool (f.right n)) w') : CallsR Tryz.prog 69 #[.agg f.cells.toArray] K w := by
  apply c69
  unfold p69
  have hF : Fr none_ w (w.alloc (cellsO f.cells 27)) := (Fr.refl _ _).step_alloc rfl
  simp only [push_cast, Nat.reduceAdd, Nat.reduceLeDiff, Nat.reduceLT, Int.reduceToNat, Nat.left_eq_add, Nat.add_eq_left, Nat.add_left_cancel_iff, Nat.reduceEqDiff, Nat.add_assoc, Nat.succ_ne_zero, hb, jn_1]
  generalize w.alloc (cellsO f.cells 27) = W at *
  have h' : ∀ b, f.right n = b → K (.bool b) W := fun b e => e ▸ h W hF
  clear h
  repeat' first | with_reducible refine br_dec (fun _ => ?_) fun _ => ?_ | with_reducible refine br_intro (fun _ => ?_) fun _ => ?_
  all_goals
    refine h' _ ?_
    unfold Frm.right
    simp_all
    try first | omega | (rw [Bool.eq_iff_iff]; simp; omega)

theorem rright_spec {f : Frm} {a : Option Addr} {n c : Nat} (hb : f.body = .slice a n c) (h : ∀ w', Fr none_ w w' → K (.bool (f.right n)) w') : CallsR Tryz.prog 113 #[.agg f.cells.toArray] K w := by
  apply c113
  unfold p113
  have hF : Fr none_ w (w.alloc (cellsO f.cells 27)) := (Fr.refl _ _).step_alloc rfl
  simp only [push_cast, Nat.reduceAdd, Nat.reduceLeDiff, Nat.reduceLT, Int.reduceToNat, Nat.left_eq_add, Nat.add_eq_left, Nat.add_left_cancel_iff, Nat.reduceEqDiff, Nat.add_assoc, Nat.succ_ne_zero, hb, jn_1]
  generalize w.alloc (cellsO f.cells 27) = W at *
  have h' : ∀ b, f.right n = b → K (.bool b) W := fun b e => e ▸ h W hF
  clear h
  repeat' first | with_reducible refine br_dec (fun _ => ?_) fun _ => ?_ | with_reducible refine br_intro (fun _ => ?_) fun _ => ?_
  all_goals
    refine h' _ ?_
    unfold Frm.right
    simp_all
    try first | omega | (rw [Bool.eq_iff_iff]; simp; omega)


theorem build_zFrm : opS Tryz.prog (S.build 27 []) K w = K (.agg zFrm.cells.toArray) w := by
  rw [opS_build _ rfl]; rfl

theorem tag_spec {f : Frm} {bs : List Int} {v p : Int} (hb : FrmR w f bs) (h : ∀ w', Fr none_ w w' → K (if (f.tag v p).right bs.length then .tuple #[.agg (f.tag v p).cells.toArray, i64 0] else .tuple #[.agg zFrm.cells.toArray, i64 1]) w') :
    CallsR Tryz.prog 100 #[.agg f.cells.toArray, i64 v, i64 p] K w := by
  apply c100
  unfold p100
  obtain ⟨a, c, hbd⟩ := hb.2.form
  have hone : (f.tag v p).cells.all S.oneCell = true := Frm.one _ (by show S.oneCell f.body = true; rw [hbd]; rfl)
  have hone0 : zFrm.cells.all S.oneCell = true := rfl
  simp only [push_cast, Nat.reduceAdd, Nat.reduceLeDiff, Nat.reduceLT, Int.reduceToNat, Nat.left_eq_add, Nat.add_eq_left, Nat.add_left_cancel_iff, Nat.reduceEqDiff, Nat.add_assoc, Nat.succ_ne_zero]
  refine right_spec (f := f.tag v p) hbd fun W' hF' => ?_
  have h0 := hF'.heap (b := w.heap.size) (o := cellsO (f.tag v p).cells 27) (by simp only [push_cast, Nat.reduceAdd, Nat.reduceLeDiff, Nat.reduceLT, Int.reduceToNat, Nat.left_eq_add, Nat.add_eq_left, Nat.add_left_cancel_iff, Nat.reduceEqDiff, Nat.add_assoc, Nat.succ_ne_zero]; rfl) (fun h => h)
  have h1 := hF'.heap (b := w.heap.size + 1) (o := cellsO zFrm.cells 27) (by simp only [push_cast, Nat.reduceAdd, Nat.reduceLeDiff, Nat.reduceLT, Int.reduceToNat, Nat.left_eq_add, Nat.add_eq_left, Nat.add_left_cancel_iff, Nat.reduceEqDiff, Nat.add_assoc, Nat.succ_ne_zero]; rfl) (fun h => h)
  have hF : Fr none_ w W' := Fr.trans (by repeat' first | with_reducible exact Fr.refl _ _ | with_reducible refine Fr.step_alloc ?_ ?_ | with_reducible refine Fr.step_drew ?_ | with_reducible refine Fr.step_wr ?_ ?_ _ _ | exact rfl | exact Or.inr (by omega) | exact Or.inl rfl | exact Or.inl (Or.inl rfl) | exact Or.inl (Or.inr rfl)) hF'
  clear hF'
  simp only [push_cast, Nat.reduceAdd, Nat.reduceLeDiff, Nat.reduceLT, Int.reduceToNat, Nat.left_eq_add, Nat.add_eq_left, Nat.add_left_cancel_iff, Nat.reduceEqDiff, Nat.add_assoc, Nat.succ_ne_zero, h0, h1, hone]
  refine br_intro (fun hr => ?_) fun hr => ?_
  · simp only [build_zFrm, push_cast, Nat.reduceAdd, Nat.reduceLeDiff, Nat.reduceLT, Int.reduceToNat, Nat.left_eq_add, Nat.add_eq_left, Nat.add_left_cancel_iff, Nat.reduceEqDiff, Nat.add_assoc, Nat.succ_ne_zero, h0, h1, hone0]
    rw [show (f.tag v p).right bs.length = false by simpa using hr] at h
    exact h _ (hF.step_wr (Or.inr (by omega)) _ _)
  · rw [show (f.tag v p).right bs.length = true by simpa using hr] at h
    exact h _ (hF.step_wr (Or.inr (by omega)) _ _)

theorem rtag_spec {f : Frm} {bs : List Int} {v p : Int} (hb : FrmR w f bs) (h : ∀ w', Fr none_ w w' → K (if (f.tag v p).right bs.length then .tuple #[.agg (f.tag v p).cells.toArray, i64 0] else .tuple #[.agg zFrm.cells.toArray, i64 1]) w') :
    CallsR Tryz.prog 121 #[.agg f.cells.toArray, i64 v, i64 p] K w := by
  apply c121
  unfold p121
  obtain ⟨a, c, hbd⟩ := hb.2.form
  have hone : (f.tag v p).cells.all S.oneCell = true := Frm.one _ (by show S.oneCell f.body = true; rw [hbd]; rfl)
  have hone0 : zFrm.cells.all S.oneCell = true := rfl
  simp only [push_cast, Nat.reduceAdd, Nat.reduceLeDiff, Nat.reduceLT, Int.reduceToNat, Nat.left_eq_add, Nat.add_eq_left, Nat.add_left_cancel_iff, Nat.reduceEqDiff, Nat.add_assoc, Nat.succ_ne_zero]
  refine rright_spec (f := f.tag v p) hbd fun W' hF' => ?_
  have h0 := hF'.heap (b := w.heap.size) (o := cellsO (f.tag v p).cells 27) (by simp only [push_cast, Nat.reduceAdd, Nat.reduceLeDiff, Nat.reduceLT, Int.reduceToNat, Nat.left_eq_add, Nat.add_eq_left, Nat.add_left_cancel_iff, Nat.reduceEqDiff, Nat.add_assoc, Nat.succ_ne_zero]; rfl) (fun h => h)
  have h1 := hF'.heap (b := w.heap.size + 1) (o := cellsO zFrm.cells 27) (by simp only [push_cast, Nat.reduceAdd, Nat.reduceLeDiff, Nat.reduceLT, Int.reduceToNat, Nat.left_eq_add, Nat.add_eq_left, Nat.add_left_cancel_iff, Nat.reduceEqDiff, Nat.add_assoc, Nat.succ_ne_zero]; rfl) (fun h => h)
  have hF : Fr none_ w W' := Fr.trans (by repeat' first | with_reducible exact Fr.refl _ _ | with_reducible refine Fr.step_alloc ?_ ?_ | with_reducible refine Fr.step_drew ?_ | with_reducible refine Fr.step_wr ?_ ?_ _ _ | exact rfl | exact Or.inr (by omega) | exact Or.inl rfl | exact Or.inl (Or.inl rfl) | exact Or.inl (Or.inr rfl)) hF'
  clear hF'
  simp only [push_cast, Nat.reduceAdd, Nat.reduceLeDiff, Nat.reduceLT, Int.reduceToNat, Nat.left_eq_add, Nat.add_eq_left, Nat.add_left_cancel_iff, Nat.reduceEqDiff, Nat.add_assoc, Nat.succ_ne_zero, h0, h1, hone]
  refine br_intro (fun hr => ?_) fun hr => ?_
  · simp only [build_zFrm, push_cast, Nat.reduceAdd, Nat.reduceLeDiff, Nat.reduceLT, Int.reduceToNat, Nat.left_eq_add, Nat.add_eq_left, Nat.add_left_cancel_iff, Nat.reduceEqDiff, Nat.add_assoc, Nat.succ_ne_zero, h0, h1, hone0]
    rw [show (f.tag v p).right bs.length = false by simpa using hr] at h
    exact h _ (hF.step_wr (Or.inr (by omega)) _ _)
  · rw [show (f.tag v p).right bs.length = true by simpa using hr] at h
    exact h _ (hF.step_wr (Or.inr (by omega)) _ _)

theorem untag_spec {f : Frm} {bs : List Int} (hb : FrmR w f bs) (h : ∀ w', Fr none_ w w' → K (.agg f.untag.cells.toArray) w') : CallsR Tryz.prog 101 #[.agg f.cells.toArray] K w := by
  apply c101
  unfold p101
  obtain ⟨a, c, hbd⟩ := hb.2.form
  have hone : f.untag.cells.all S.oneCell = true := Frm.one _ (by show S.oneCell f.body = true; rw [hbd]; rfl)
  have e : ({ ({ ({ f with tagged := false } : Frm) with vlan := 0 } : Frm) with prio := 0 } : Frm) = f.untag := rfl
  simp only [push_cast, Nat.reduceAdd, Nat.reduceLeDiff, Nat.reduceLT, Int.reduceToNat, Nat.left_eq_add, Nat.add_eq_left, Nat.add_left_cancel_iff, Nat.reduceEqDiff, Nat.add_assoc, Nat.succ_ne_zero, e, hone]
  exact h _ (by repeat' first | with_reducible exact Fr.refl _ _ | with_reducible refine Fr.step_alloc ?_ ?_ | with_reducible refine Fr.step_drew ?_ | with_reducible refine Fr.step_wr ?_ ?_ _ _ | exact rfl | exact Or.inr (by omega) | exact Or.inl rfl | exact Or.inl (Or.inl rfl) | exact Or.inl (Or.inr rfl))

theorem runtag_spec {f : Frm} {bs : List Int} (hb : FrmR w f bs) (h : ∀ w', Fr none_ w w' → K (.agg f.untag.cells.toArray) w') : CallsR Tryz.prog 122 #[.agg f.cells.toArray] K w := by
  apply c122
  unfold p122
  obtain ⟨a, c, hbd⟩ := hb.2.form
  have hone : f.untag.cells.all S.oneCell = true := Frm.one _ (by show S.oneCell f.body = true; rw [hbd]; rfl)
  have e : ({ ({ ({ f with tagged := false } : Frm) with vlan := 0 } : Frm) with prio := 0 } : Frm) = f.untag := rfl
  simp only [push_cast, Nat.reduceAdd, Nat.reduceLeDiff, Nat.reduceLT, Int.reduceToNat, Nat.left_eq_add, Nat.add_eq_left, Nat.add_left_cancel_iff, Nat.reduceEqDiff, Nat.add_assoc, Nat.succ_ne_zero, e, hone]
  exact h _ (by repeat' first | with_reducible exact Fr.refl _ _ | with_reducible refine Fr.step_alloc ?_ ?_ | with_reducible refine Fr.step_drew ?_ | with_reducible refine Fr.step_wr ?_ ?_ _ _ | exact rfl | exact Or.inr (by omega) | exact Or.inl rfl | exact Or.inl (Or.inl rfl) | exact Or.inl (Or.inr rfl))

theorem same_spec {f g : Frm} {bs cs : List Int} (hf : FrmR w f bs) (hg : FrmR w g cs) (h : ∀ w', Fr none_ w w' → K (.bool (decide (f.dst = g.dst ∧ f.src = g.src ∧ f.tagged = g.tagged ∧ f.vlan = g.vlan ∧ f.prio = g.prio ∧ f.type = g.type ∧ bs = cs))) w') :
    CallsR Tryz.prog 40 #[.agg f.cells.toArray, .agg g.cells.toArray] K w := by
  apply c40
  unfold p40
  have hF : Fr none_ w ((w.alloc (cellsO f.cells 27)).alloc (cellsO g.cells 27)) := (by repeat' first | with_reducible exact Fr.refl _ _ | with_reducible refine Fr.step_alloc ?_ ?_ | with_reducible refine Fr.step_drew ?_ | with_reducible refine Fr.step_wr ?_ ?_ _ _ | exact rfl | exact Or.inr (by omega) | exact Or.inl rfl | exact Or.inl (Or.inl rfl) | exact Or.inl (Or.inr rfl))
  have h0 : ((w.alloc (cellsO f.cells 27)).alloc (cellsO g.cells 27)).heap[w.heap.size]? = some (cellsO f.cells 27) := by simp only [push_cast, Nat.reduceAdd, Nat.reduceLeDiff, Nat.reduceLT, Int.reduceToNat, Nat.left_eq_add, Nat.add_eq_left, Nat.add_left_cancel_iff, Nat.reduceEqDiff, Nat.add_assoc, Nat.succ_ne_zero]
  have h1 : ((w.alloc (cellsO f.cells 27)).alloc (cellsO g.cells 27)).heap[w.heap.size + 1]? = some (cellsO g.cells 27) := by simp only [push_cast, Nat.reduceAdd, Nat.reduceLeDiff, Nat.reduceLT, Int.reduceToNat, Nat.left_eq_add, Nat.add_eq_left, Nat.add_left_cancel_iff, Nat.reduceEqDiff, Nat.add_assoc, Nat.succ_ne_zero]
  simp only [opS_box, cells_agg, alloc_cellsO, size_alloc]
  generalize (w.alloc (cellsO f.cells 27)).alloc (cellsO g.cells 27) = W at *
  have hf' := hf.fr0 hF
  have hg' := hg.fr0 hF
  have h' : ∀ b, decide (f.dst = g.dst ∧ f.src = g.src ∧ f.tagged = g.tagged ∧ f.vlan = g.vlan ∧ f.prio = g.prio ∧ f.type = g.type ∧ bs = cs) = b → K (.bool b) W := fun b e => e ▸ h W hF
  clear h
  simp only [push_cast, Nat.reduceAdd, Nat.reduceLeDiff, Nat.reduceLT, Int.reduceToNat, Nat.left_eq_add, Nat.add_eq_left, Nat.add_left_cancel_iff, Nat.reduceEqDiff, Nat.add_assoc, Nat.succ_ne_zero, h0, h1]
  refine s_eqG (MacT.enc (d := 6) hf.1.1) (MacT.enc (d := 6) hg.1.1) fun r hr => ?_
  rw [Mac.lits_inj] at hr
  simp only [push_cast, Nat.reduceAdd, Nat.reduceLeDiff, Nat.reduceLT, Int.reduceToNat, Nat.left_eq_add, Nat.add_eq_left, Nat.add_left_cancel_iff, Nat.reduceEqDiff, Nat.add_assoc, Nat.succ_ne_zero]
  refine br_intro (fun e => ?_) fun e => h' _ ?_
  case' refine_2 => subst e; simp at hr; simp [hr]
  have hr1 := hr.1 e
  clear hr
  simp only [push_cast, Nat.reduceAdd, Nat.reduceLeDiff, Nat.reduceLT, Int.reduceToNat, Nat.left_eq_add, Nat.add_eq_left, Nat.add_left_cancel_iff, Nat.reduceEqDiff, Nat.add_assoc, Nat.succ_ne_zero, h0, h1]
  refine s_eqG (MacT.enc (d := 6) hf.1.2.1) (MacT.enc (d := 6) hg.1.2.1) fun r hr => ?_
  rw [Mac.lits_inj] at hr
  simp only [push_cast, Nat.reduceAdd, Nat.reduceLeDiff, Nat.reduceLT, Int.reduceToNat, Nat.left_eq_add, Nat.add_eq_left, Nat.add_left_cancel_iff, Nat.reduceEqDiff, Nat.add_assoc, Nat.succ_ne_zero]
  refine br_intro (fun e => ?_) fun e => h' _ ?_
  case' refine_2 => subst e; simp at hr; simp [hr]
  have hr2 := hr.1 e
  clear hr
  simp only [push_cast, Nat.reduceAdd, Nat.reduceLeDiff, Nat.reduceLT, Int.reduceToNat, Nat.left_eq_add, Nat.add_eq_left, Nat.add_left_cancel_iff, Nat.reduceEqDiff, Nat.add_assoc, Nat.succ_ne_zero, h0, h1]
  rw [s_b2s hf'.2]
  simp only [push_cast, Nat.reduceAdd, Nat.reduceLeDiff, Nat.reduceLT, Int.reduceToNat, Nat.left_eq_add, Nat.add_eq_left, Nat.add_left_cancel_iff, Nat.reduceEqDiff, Nat.add_assoc, Nat.succ_ne_zero, h0, h1]
  rw [s_b2s hg'.2, s_eqS hf.2.2 hg.2.2]
  repeat' first | with_reducible refine br_dec (fun _ => ?_) fun _ => ?_ | with_reducible refine br_intro (fun _ => ?_) fun _ => ?_
  all_goals
    refine h' _ ?_
    simp_all



/-! ### Places as keys -/

def pk (k : Int × Int) : Value := .agg #[i64 k.1, i64 k.2]
def pkOk (k : Int × Int) : Prop := isI k.1 ∧ isI k.2

theorem ctPlace : Tryz.prog.cellsOf 125 = 2 := by kernel_rfl
instance : KeyC Tryz.prog 125 (Int × Int) pk pkOk where
  law := Maps.Keyed.of_law (deep_law_laid laidOut (m := 8) (by decide) (of_decide_eq_true (by kernel_rfl)) (by kernel_rfl) (by rw [Tryz.underlying125]))
  of := by
    rintro ⟨a, b⟩ ⟨ha, hb⟩
    have hk : ∀ d, Tryz.prog.keyLits (d + 2) 125 [i64 a, i64 b] = some ([[.int .i64 a], [.int .i64 b]] : List (List Lit)).flatten := by
      intro d
      refine kl_struct_mk (ls := [[_], [_]]) Tryz.underlying125 (by simp) (by rw [ctPlace]; rfl) ?_
      simp only [List.mapM_cons, List.mapM_nil, ctInt, bind, Option.bind_eq_some_iff, pure, Option.some.injEq, List.drop_succ_cons, List.drop_zero, List.take_succ_cons, List.take_zero]
      exact ⟨_, kl_int_mk uInt ha, _, ⟨_, kl_int_mk uInt hb, _, rfl, rfl⟩, rfl⟩
    have hsz : ∃ d, Tryz.prog.types.size + 1 = d + 2 := ⟨Tryz.prog.types.size - 1, by
      have : 0 < Tryz.prog.types.size := of_decide_eq_true (by kernel_rfl)
      omega⟩
    obtain ⟨d, hd⟩ := hsz
    have hf : (Value.agg #[i64 a, i64 b]).formed Tryz.prog 125 = true := by
      simp [Value.formed, Tryz.underlying125, ctPlace]
    have hkt : Tryz.prog.keyType 125 = true := by kernel_rfl
    refine ⟨.string (keyBytes ([[.int .i64 a], [.int .i64 b]] : List (List Lit)).flatten), ?_⟩
    unfold keyOf pk
    simp only [Tryz.underlying125, hkt, hf, Bool.and_self, if_true, hd]
    have := hk d
    simp only [Value.cells] at this ⊢
    rw [this]
    rfl
  inj := by
    rintro ⟨a, b⟩ ⟨c, d⟩ h
    simp [pk] at h
    rw [h.1, h.2]

theorem build_place (a b : Int) : opS Tryz.prog (S.build 125 [(0, i64 a), (1, i64 b)]) K w = K (pk (a, b)) w := by
  rw [opS_build _ rfl]; rfl

/-! ### A table -/

structure VRep (w : World) (p m nb : Nat) (t : VT) : Prop where
  blk : w.heap[p]? = some (cellsO [.map (some m), .slice (some ⟨nb, 0, none⟩) t.nat.length t.nat.length] 122)
  map : MapR pk Value.bool pkOk w m t.tab
  nat : w.heap[nb]? = some (cellsO (t.nat.map i64) 3)
  pn : p ≠ nb
  mn : m ≠ nb
  pm : p ≠ m
  ok : t.ok

def vfp (p m nb : Nat) (b : Nat) : Prop := b = p ∨ b = m ∨ b = nb
theorem VRep.fr {fp : Nat → Prop} {w w' : World} {p m nb : Nat} {t : VT} (h : VRep w p m nb t) (hf : Fr fp w w') (h1 : ¬ fp p) (h2 : ¬ fp m) (h3 : ¬ fp nb) : VRep w' p m nb t :=
  ⟨hf.heap h.blk h1, h.map.fr hf h2, hf.heap h.nat h3, h.pn, h.mn, h.pm, h.ok⟩
theorem VRep.fr0 {w w' : World} {p m nb : Nat} {t : VT} (h : VRep w p m nb t) (hf : Fr none_ w w') : VRep w' p m nb t := h.fr hf (fun h => h) (fun h => h) (fun h => h)
theorem VRep.lt {w : World} {p m nb : Nat} {t : VT} (h : VRep w p m nb t) : p < w.heap.size ∧ m < w.heap.size ∧ nb < w.heap.size := ⟨lt_of_heap h.blk, h.map.lt, lt_of_heap h.nat⟩

theorem right_isI {t : VT} (h : t.ok) {v p : Int} (hr : t.right v p) : pkOk (v, p) := by
  have := h.len
  unfold VT.right VT.port at hr
  constructor <;> rw [isI_iff] <;> simp only [] <;> omega

theorem vport_spec {p m nb : Nat} {t : VT} {n : Int} (hv : VRep w p m nb t) (h : K (.bool (decide (t.port n))) w) : CallsR Tryz.prog 88 #[pt p 0, i64 n] K w := by
  apply c88
  unfold p88
  simp only [push_cast, Nat.reduceAdd, Nat.reduceLeDiff, Nat.reduceLT, Int.reduceToNat, Nat.left_eq_add, Nat.add_eq_left, Nat.add_left_cancel_iff, Nat.reduceEqDiff, Nat.add_assoc, Nat.succ_ne_zero, hv.blk]
  refine br_dec (fun h1 => ?_) fun h1 => ?_
  · have : decide (n < (t.nat.length : Int)) = decide (t.port n) := decide_eq_decide.2 ⟨fun h2 => ⟨h1, h2⟩, fun h2 => h2.2⟩
    rw [this]; exact h
  · rw [decide_eq_false (fun h2 => h1 h2.1)] at h; exact h

theorem vright_spec {p m nb : Nat} {t : VT} {v n : Int} (hv : VRep w p m nb t) (h : K (.bool (decide (t.right v n))) w) : CallsR Tryz.prog 85 #[pt p 0, i64 v, i64 n] K w := by
  apply c85
  unfold p85
  simp only [push_cast, Nat.reduceAdd, Nat.reduceLeDiff, Nat.reduceLT, Int.reduceToNat, Nat.left_eq_add, Nat.add_eq_left, Nat.add_left_cancel_iff, Nat.reduceEqDiff, Nat.add_assoc, Nat.succ_ne_zero]
  refine br_dec (fun h1 => ?_) fun h1 => ?_
  · refine br_dec (fun h2 => ?_) fun h2 => ?_
    · refine vport_spec hv ?_
      have : decide (t.port n) = decide (t.right v n) := decide_eq_decide.2 ⟨fun h3 => ⟨h1, h2, h3⟩, fun h3 => h3.2.2⟩
      rw [this]; exact h
    · rw [decide_eq_false (fun h3 => h2 h3.2.1)] at h; exact h
  · rw [decide_eq_false (fun h3 => h1 h3.1)] at h; exact h

theorem vnew_spec (n : Int) (h0 : ¬ (1 ≤ n ∧ n ≤ 64) → K (.tuple #[.pointer none, i64 1]) w)
    (h1 : 1 ≤ n → n ≤ 64 → ∀ w' p m nb, VRep w' p m nb (VT.new n.toNat) → Fr none_ w w' → w.heap.size ≤ p → w.heap.size ≤ m → w.heap.size ≤ nb → K (.tuple #[pt p 0, i64 0]) w') :
    CallsR Tryz.prog 50 #[i64 n] K w := by
  apply c50
  unfold p50
  simp only [push_cast, Nat.reduceAdd, Nat.reduceLeDiff, Nat.reduceLT, Int.reduceToNat, Nat.left_eq_add, Nat.add_eq_left, Nat.add_left_cancel_iff, Nat.reduceEqDiff, Nat.add_assoc, Nat.succ_ne_zero]
  refine br_dec (fun ha => h0 (by omega)) fun ha => ?_
  refine br_dec (fun hb => h0 (by omega)) fun hb => ?_
  refine s_mkm (kc := pk) (vc := Value.bool) (kok := pkOk) fun w1 hm hF1 hs1 => ?_
  rw [opS_mks _ _ _ (by omega) (by omega) (by omega) (by rfl) (by decide)]
  simp only [push_cast, Nat.reduceAdd, Nat.reduceLeDiff, Nat.reduceLT, Int.reduceToNat, Nat.left_eq_add, Nat.add_eq_left, Nat.add_left_cancel_iff, Nat.reduceEqDiff, Nat.add_assoc, Nat.succ_ne_zero]
  rw [opS_build _ rfl]
  have e : zeros n.toNat (Value.int .i64 0).cells.toList = (List.replicate n.toNat (0 : Int)).map i64 := by
    simp [zeros, Value.cells]
  simp only [push_cast, Nat.reduceAdd, Nat.reduceLeDiff, Nat.reduceLT, Int.reduceToNat, Nat.left_eq_add, Nat.add_eq_left, Nat.add_left_cancel_iff, Nat.reduceEqDiff, Nat.add_assoc, Nat.succ_ne_zero]
  refine h1 (by omega) (by omega) _ (w1.heap.size + 1) w.heap.size w1.heap.size ⟨?_, ?_, ?_, by omega, by omega, by omega, VT.ok_new (by omega)⟩ ?_ (by omega) (Nat.le_refl _) (by omega)
  · simp only [push_cast, Nat.reduceAdd, Nat.reduceLeDiff, Nat.reduceLT, Int.reduceToNat, Nat.left_eq_add, Nat.add_eq_left, Nat.add_left_cancel_iff, Nat.reduceEqDiff, Nat.add_assoc, Nat.succ_ne_zero, VT.new, List.length_replicate]
    rfl
  · exact hm.fr (fp := none_) (by repeat' first | with_reducible exact Fr.refl _ _ | with_reducible refine Fr.step_alloc ?_ ?_ | with_reducible refine Fr.step_drew ?_ | with_reducible refine Fr.step_wr ?_ ?_ _ _ | exact rfl | exact Or.inr (by omega) | exact Or.inl rfl | exact Or.inl (Or.inl rfl) | exact Or.inl (Or.inr rfl)) (fun h => h)
  · simp only [push_cast, Nat.reduceAdd, Nat.reduceLeDiff, Nat.reduceLT, Int.reduceToNat, Nat.left_eq_add, Nat.add_eq_left, Nat.add_left_cancel_iff, Nat.reduceEqDiff, Nat.add_assoc, Nat.succ_ne_zero, VT.new]
    rw [← e]
    rfl
  · exact hF1.trans (by repeat' first | with_reducible exact Fr.refl _ _ | with_reducible refine Fr.step_alloc ?_ ?_ | with_reducible refine Fr.step_drew ?_ | with_reducible refine Fr.step_wr ?_ ?_ _ _ | exact rfl | exact Or.inr (by omega) | exact Or.inl rfl | exact Or.inl (Or.inl rfl) | exact Or.inl (Or.inr rfl))

theorem splice_ints (l : List Int) (i : Nat) (h : i < l.length) (v : Int) : splice (l.map i64) i [i64 v] = (l.set i v).map i64 := by
  rw [List.set_eq_take_append_cons_drop, if_pos h]
  unfold splice
  simp [List.map_take, List.map_drop]

theorem vnative_spec {p m nb : Nat} {t : VT} {n v : Int} (hv : VRep w p m nb t) (h : ∀ w', VRep w' p m nb (t.native n v).1 → Fr (vfp p m nb) w w' → K (i64 (t.native n v).2) w') : CallsR Tryz.prog 58 #[pt p 0, i64 n, i64 v] K w := by
  apply c58
  unfold p58
  simp only [push_cast, Nat.reduceAdd, Nat.reduceLeDiff, Nat.reduceLT, Int.reduceToNat, Nat.left_eq_add, Nat.add_eq_left, Nat.add_left_cancel_iff, Nat.reduceEqDiff, Nat.add_assoc, Nat.succ_ne_zero]
  refine vport_spec hv ?_
  simp only [push_cast, Nat.reduceAdd, Nat.reduceLeDiff, Nat.reduceLT, Int.reduceToNat, Nat.left_eq_add, Nat.add_eq_left, Nat.add_left_cancel_iff, Nat.reduceEqDiff, Nat.add_assoc, Nat.succ_ne_zero]
  have hbad : ¬ (t.port n ∧ 0 ≤ v ∧ v ≤ 4094) → K (i64 1) w := fun hb => by
    have := h w
    rw [VT.native, if_neg hb] at this
    exact this hv (Fr.refl _ _)
  refine br_intro (fun hp => hbad fun h2 => ?_) fun hp => ?_
  · rw [decide_eq_true h2.1] at hp; cases hp
  have hp : t.port n := by simpa using hp
  refine br_dec (fun h2 => hbad (by omega)) fun h2 => ?_
  refine br_dec (fun h3 => hbad (by omega)) fun h3 => ?_
  rw [VT.native, if_pos ⟨hp, by omega, by omega⟩] at h
  have hok := VT.ok_native hv.ok n v
  rw [VT.native, if_pos ⟨hp, by omega, by omega⟩] at hok
  simp only [push_cast, Nat.reduceAdd, Nat.reduceLeDiff, Nat.reduceLT, Int.reduceToNat, Nat.left_eq_add, Nat.add_eq_left, Nat.add_left_cancel_iff, Nat.reduceEqDiff, Nat.add_assoc, Nat.succ_ne_zero, hv.blk]
  rw [opS_iaS, if_pos (show 0 ≤ n ∧ n < _ from hp)]
  have hlt : n.toNat < t.nat.length := by have := hp.1; have := hp.2; omega
  simp only [push_cast, Nat.reduceAdd, Nat.reduceLeDiff, Nat.reduceLT, Int.reduceToNat, Nat.left_eq_add, Nat.add_eq_left, Nat.add_left_cancel_iff, Nat.reduceEqDiff, Nat.add_assoc, Nat.succ_ne_zero, hv.nat, Nat.mul_one, List.length_map]
  have hle : decide (n.toNat + 1 ≤ t.nat.length) = true := decide_eq_true (by omega)
  have hpn := hv.pn
  have hmn := hv.mn
  simp only [hle, push_cast, Nat.reduceAdd, Nat.reduceLeDiff, Nat.reduceLT, Int.reduceToNat, Nat.left_eq_add, Nat.add_eq_left, Nat.add_left_cancel_iff, Nat.reduceEqDiff, Nat.add_assoc, Nat.succ_ne_zero]
  refine h _ ⟨?_, hv.map.fr (fp := fun b => b = nb) (by repeat' first | with_reducible exact Fr.refl _ _ | with_reducible refine Fr.step_alloc ?_ ?_ | with_reducible refine Fr.step_drew ?_ | with_reducible refine Fr.step_wr ?_ ?_ _ _ | exact rfl | exact Or.inr (by omega) | exact Or.inl rfl | exact Or.inl (Or.inl rfl) | exact Or.inl (Or.inr rfl)) hmn, ?_, hpn, hmn, hv.pm, hok⟩ (Fr.wr _ _ _ _ (.inr (.inr rfl)))
  · simp only [push_cast, Nat.reduceAdd, Nat.reduceLeDiff, Nat.reduceLT, Int.reduceToNat, Nat.left_eq_add, Nat.add_eq_left, Nat.add_left_cancel_iff, Nat.reduceEqDiff, Nat.add_assoc, Nat.succ_ne_zero, hpn, hv.blk, List.length_set]
  · simp only [push_cast, Nat.reduceAdd, Nat.reduceLeDiff, Nat.reduceLT, Int.reduceToNat, Nat.left_eq_add, Nat.add_eq_left, Nat.add_left_cancel_iff, Nat.reduceEqDiff, Nat.add_assoc, Nat.succ_ne_zero, hv.nat]
    rw [splice_ints _ _ hlt]

theorem vadd_spec {p m nb : Nat} {t : VT} {v n : Int} {b : Bool} (hv : VRep w p m nb t) (h : ∀ w', VRep w' p m nb (t.add v n b).1 → Fr (vfp p m nb) w w' → K (i64 (t.add v n b).2) w') : CallsR Tryz.prog 56 #[pt p 0, i64 v, i64 n, .bool b] K w := by
  apply c56
  unfold p56
  simp only [push_cast, Nat.reduceAdd, Nat.reduceLeDiff, Nat.reduceLT, Int.reduceToNat, Nat.left_eq_add, Nat.add_eq_left, Nat.add_left_cancel_iff, Nat.reduceEqDiff, Nat.add_assoc, Nat.succ_ne_zero]
  refine vright_spec hv ?_
  have hok := VT.ok_add hv.ok v n b
  by_cases hr : t.right v n
  · rw [VT.add, if_pos hr] at h hok
    simp only [hr, push_cast, Nat.reduceAdd, Nat.reduceLeDiff, Nat.reduceLT, Int.reduceToNat, Nat.left_eq_add, Nat.add_eq_left, Nat.add_left_cancel_iff, Nat.reduceEqDiff, Nat.add_assoc, Nat.succ_ne_zero, hv.blk, build_place]
    refine s_mu (kc := pk) (vc := Value.bool) hv.map (right_isI hv.ok hr) fun w' hm hF => ?_
    exact h w' ⟨hF.heap hv.blk hv.pm, hm, hF.heap hv.nat (fun e => hv.mn e.symm), hv.pn, hv.mn, hv.pm, hok⟩ (hF.mono fun b _ hb => .inr (.inl hb))
  · rw [VT.add, if_neg hr] at h
    simp only [hr, push_cast, Nat.reduceAdd, Nat.reduceLeDiff, Nat.reduceLT, Int.reduceToNat, Nat.left_eq_add, Nat.add_eq_left, Nat.add_left_cancel_iff, Nat.reduceEqDiff, Nat.add_assoc, Nat.succ_ne_zero]
    exact h w hv (Fr.refl _ _)

theorem got_bool (z : Value) (o : Option Bool) : got Value.bool z o = match o with | some b => .bool b | none => z := by cases o <;> rfl

theorem vremove_spec {p m nb : Nat} {t : VT} {v n : Int} (hv : VRep w p m nb t) (h : ∀ w', VRep w' p m nb (t.remove v n).1 → Fr (vfp p m nb) w w' → K (i64 (t.remove v n).2) w') : CallsR Tryz.prog 60 #[pt p 0, i64 v, i64 n] K w := by
  apply c60
  unfold p60
  simp only [push_cast, Nat.reduceAdd, Nat.reduceLeDiff, Nat.reduceLT, Int.reduceToNat, Nat.left_eq_add, Nat.add_eq_left, Nat.add_left_cancel_iff, Nat.reduceEqDiff, Nat.add_assoc, Nat.succ_ne_zero]
  refine vright_spec hv ?_
  have hok := VT.ok_remove hv.ok v n
  by_cases hr : t.right v n
  · rw [VT.remove, if_pos hr] at h hok
    have hk := right_isI hv.ok hr
    simp only [hr, push_cast, Nat.reduceAdd, Nat.reduceLeDiff, Nat.reduceLT, Int.reduceToNat, Nat.left_eq_add, Nat.add_eq_left, Nat.add_left_cancel_iff, Nat.reduceEqDiff, Nat.add_assoc, Nat.succ_ne_zero, hv.blk, build_place]
    refine s_lk (kc := pk) (vc := Value.bool) hv.map hk ?_
    simp only [push_cast, Nat.reduceAdd, Nat.reduceLeDiff, Nat.reduceLT, Int.reduceToNat, Nat.left_eq_add, Nat.add_eq_left, Nat.add_left_cancel_iff, Nat.reduceEqDiff, Nat.add_assoc, Nat.succ_ne_zero]
    cases hl : getL t.tab (v, n) with
    | none =>
      rw [hl] at h
      simp only [Option.isSome_none, push_cast, Nat.reduceAdd, Nat.reduceLeDiff, Nat.reduceLT, Int.reduceToNat, Nat.left_eq_add, Nat.add_eq_left, Nat.add_left_cancel_iff, Nat.reduceEqDiff, Nat.add_assoc, Nat.succ_ne_zero]
      exact h w hv (Fr.refl _ _)
    | some b =>
      rw [hl] at h hok
      simp only [Option.isSome_some, push_cast, Nat.reduceAdd, Nat.reduceLeDiff, Nat.reduceLT, Int.reduceToNat, Nat.left_eq_add, Nat.add_eq_left, Nat.add_left_cancel_iff, Nat.reduceEqDiff, Nat.add_assoc, Nat.succ_ne_zero, hv.blk, build_place]
      refine s_del (kc := pk) (vc := Value.bool) hv.map hk fun w' hm hF => ?_
      exact h w' ⟨hF.heap hv.blk hv.pm, hm, hF.heap hv.nat (fun e => hv.mn e.symm), hv.pn, hv.mn, hv.pm, hok⟩ (hF.mono fun b _ hb => .inr (.inl hb))
  · rw [VT.remove, if_neg hr] at h
    simp only [hr, push_cast, Nat.reduceAdd, Nat.reduceLeDiff, Nat.reduceLT, Int.reduceToNat, Nat.left_eq_add, Nat.add_eq_left, Nat.add_left_cancel_iff, Nat.reduceEqDiff, Nat.add_assoc, Nat.succ_ne_zero]
    exact h w hv (Fr.refl _ _)

theorem vin_spec {p m nb : Nat} {t : VT} {n : Int} {f : Frm} {bs : List Int} (hv : VRep w p m nb t) (hf : FrmR w f bs) (h : ∀ w', Fr none_ w w' → K (.tuple #[i64 (t.inn n f bs.length).1, i64 (t.inn n f bs.length).2]) w') :
    CallsR Tryz.prog 71 #[pt p 0, i64 n, .agg f.cells.toArray] K w := by
  apply c71
  unfold p71
  obtain ⟨a, c, hbd⟩ := hf.2.form
  have hone : f.cells.all S.oneCell = true := Frm.one _ hf.2.one
  have h0 : (w.alloc (cellsO f.cells 27)).heap[w.heap.size]? = some (cellsO f.cells 27) := by simp only [push_cast, Nat.reduceAdd, Nat.reduceLeDiff, Nat.reduceLT, Int.reduceToNat, Nat.left_eq_add, Nat.add_eq_left, Nat.add_left_cancel_iff, Nat.reduceEqDiff, Nat.add_assoc, Nat.succ_ne_zero]
  have hF : Fr none_ w (w.alloc (cellsO f.cells 27)) := (by repeat' first | with_reducible exact Fr.refl _ _ | with_reducible refine Fr.step_alloc ?_ ?_ | with_reducible refine Fr.step_drew ?_ | with_reducible refine Fr.step_wr ?_ ?_ _ _ | exact rfl | exact Or.inr (by omega) | exact Or.inl rfl | exact Or.inl (Or.inl rfl) | exact Or.inl (Or.inr rfl))
  simp only [opS_box, cells_agg, alloc_cellsO]
  generalize w.alloc (cellsO f.cells 27) = W at *
  simp only [push_cast, Nat.reduceAdd, Nat.reduceLeDiff, Nat.reduceLT, Int.reduceToNat, Nat.left_eq_add, Nat.add_eq_left, Nat.add_left_cancel_iff, Nat.reduceEqDiff, Nat.add_assoc, Nat.succ_ne_zero]
  refine vport_spec (hv.fr0 hF) ?_
  simp only [push_cast, Nat.reduceAdd, Nat.reduceLeDiff, Nat.reduceLT, Int.reduceToNat, Nat.left_eq_add, Nat.add_eq_left, Nat.add_left_cancel_iff, Nat.reduceEqDiff, Nat.add_assoc, Nat.succ_ne_zero, h0]
  refine br_intro (fun hp => ?_) fun hp => ?_
  · have hp : ¬ t.port n := by simpa using hp
    rw [VT.inn, if_neg (fun h => hp h.1)] at h
    exact h _ hF
  have hp : t.port n := by simpa using hp
  have hlt : n.toNat < t.nat.length := by have := hp.1; have := hp.2; omega
  refine right_spec hbd fun W2 hF2 => ?_
  replace hF := hF.trans hF2
  replace h0 := hF2.heap h0 (fun h => h)
  have hv2 := hv.fr0 hF
  simp only [push_cast, Nat.reduceAdd, Nat.reduceLeDiff, Nat.reduceLT, Int.reduceToNat, Nat.left_eq_add, Nat.add_eq_left, Nat.add_left_cancel_iff, Nat.reduceEqDiff, Nat.add_assoc, Nat.succ_ne_zero]
  refine br_intro (fun hr => ?_) fun hr => ?_
  · rw [VT.inn, if_neg (fun h => by rw [h.2] at hr; cases hr)] at h
    exact h _ hF
  have hr : f.right bs.length = true := by simpa using hr
  rw [VT.inn, if_pos ⟨hp, hr⟩] at h
  simp only [push_cast, Nat.reduceAdd, Nat.reduceLeDiff, Nat.reduceLT, Int.reduceToNat, Nat.left_eq_add, Nat.add_eq_left, Nat.add_left_cancel_iff, Nat.reduceEqDiff, Nat.add_assoc, Nat.succ_ne_zero, h0, jn_1]
  have key : ∀ v : Int, isI v → K (.tuple #[i64 (if t.is v n = true then (v, (0 : Int)) else (0, 4)).1, i64 (if t.is v n = true then (v, (0 : Int)) else (0, 4)).2]) W2 →
      opS Tryz.prog (S.nc (pt p 0)) (fun x12 => opS Tryz.prog (S.fa 122 x12 0) fun x13 => opS Tryz.prog (S.ld 120 x13) fun x14 => opS Tryz.prog (S.build 125 [(0, i64 v), (1, i64 n)]) fun x15 =>
        opS Tryz.prog (S.lk 120 x14 x15 true) fun x16 => opS Tryz.prog (S.ext x16 0) fun x17 => opS Tryz.prog (S.ext x16 1) fun x18 => opS Tryz.prog (S.un .not x18) fun x19 =>
          brn x19 (K (.tuple #[.int .i64 0, .int .i64 4])) (K (.tuple #[i64 v, .int .i64 0]))) W2 := by
    intro v hvi hK
    simp only [push_cast, Nat.reduceAdd, Nat.reduceLeDiff, Nat.reduceLT, Int.reduceToNat, Nat.left_eq_add, Nat.add_eq_left, Nat.add_left_cancel_iff, Nat.reduceEqDiff, Nat.add_assoc, Nat.succ_ne_zero, hv2.blk, build_place]
    have hn : isI n := by have := hp.1; have := hp.2; have := hv.ok.len; rw [isI_iff]; omega
    refine s_lk (kc := pk) (vc := Value.bool) hv2.map ⟨hvi, hn⟩ ?_
    simp only [push_cast, Nat.reduceAdd, Nat.reduceLeDiff, Nat.reduceLT, Int.reduceToNat, Nat.left_eq_add, Nat.add_eq_left, Nat.add_left_cancel_iff, Nat.reduceEqDiff, Nat.add_assoc, Nat.succ_ne_zero]
    unfold VT.is at hK
    cases hl : getL t.tab (v, n) with
    | none =>
      rw [hl] at hK
      simp only [Option.isSome_none, push_cast, Nat.reduceAdd, Nat.reduceLeDiff, Nat.reduceLT, Int.reduceToNat, Nat.left_eq_add, Nat.add_eq_left, Nat.add_left_cancel_iff, Nat.reduceEqDiff, Nat.add_assoc, Nat.succ_ne_zero]
      exact hK
    | some b =>
      rw [hl] at hK
      simp only [Option.isSome_some, push_cast, Nat.reduceAdd, Nat.reduceLeDiff, Nat.reduceLT, Int.reduceToNat, Nat.left_eq_add, Nat.add_eq_left, Nat.add_left_cancel_iff, Nat.reduceEqDiff, Nat.add_assoc, Nat.succ_ne_zero]
      exact hK
  refine br_intro (fun h1 => ?_) fun h1 => ?_
  · have h1 : f.vlan = 0 := by simpa using h1
    simp only [push_cast, Nat.reduceAdd, Nat.reduceLeDiff, Nat.reduceLT, Int.reduceToNat, Nat.left_eq_add, Nat.add_eq_left, Nat.add_left_cancel_iff, Nat.reduceEqDiff, Nat.add_assoc, Nat.succ_ne_zero, hv2.blk]
    rw [opS_iaS, if_pos (show 0 ≤ n ∧ n < _ from hp)]
    simp only [push_cast, Nat.reduceAdd, Nat.reduceLeDiff, Nat.reduceLT, Int.reduceToNat, Nat.left_eq_add, Nat.add_eq_left, Nat.add_left_cancel_iff, Nat.reduceEqDiff, Nat.add_assoc, Nat.succ_ne_zero, hv2.nat, Nat.mul_one, List.getElem?_map, List.getElem?_eq_getElem hlt, Option.map_some]
    have hg : t.nat.getD n.toNat 0 = t.nat[n.toNat] := by simp [List.getD, List.getElem?_eq_getElem hlt]
    rw [if_pos h1, hg] at h
    have := key t.nat[n.toNat] (by have := hv.ok.nat _ (List.getElem_mem hlt); rw [isI_iff]; omega) (h _ hF)
    simp only [push_cast, Nat.reduceAdd, Nat.reduceLeDiff, Nat.reduceLT, Int.reduceToNat, Nat.left_eq_add, Nat.add_eq_left, Nat.add_left_cancel_iff, Nat.reduceEqDiff, Nat.add_assoc, Nat.succ_ne_zero] at this
    exact this
  · have h1 : f.vlan ≠ 0 := by simpa using h1
    rw [if_neg h1] at h
    have := key f.vlan hf.1.2.2.1 (h _ hF)
    simp only [push_cast, Nat.reduceAdd, Nat.reduceLeDiff, Nat.reduceLT, Int.reduceToNat, Nat.left_eq_add, Nat.add_eq_left, Nat.add_left_cancel_iff, Nat.reduceEqDiff, Nat.add_assoc, Nat.succ_ne_zero] at this
    exact this

theorem vout_spec {p m nb : Nat} {t : VT} {v n : Int} {f : Frm} {bs : List Int} (hv : VRep w p m nb t) (hf : FrmR w f bs) (h : ∀ w', Fr none_ w w' → K (.tuple #[.agg (t.out v n f bs.length).1.cells.toArray, i64 (t.out v n f bs.length).2]) w') :
    CallsR Tryz.prog 77 #[pt p 0, i64 v, i64 n, .agg f.cells.toArray] K w := by
  apply c77
  unfold p77
  obtain ⟨a, c, hbd⟩ := hf.2.form
  have hone : f.cells.all S.oneCell = true := Frm.one _ hf.2.one
  have hone0 : zFrm.cells.all S.oneCell = true := rfl
  have hz : ∀ w : World, w.alloc (cellsO [Value.int IntKind.u8 0, Value.int IntKind.u8 0, Value.int IntKind.u8 0, Value.int IntKind.u8 0, Value.int IntKind.u8 0, Value.int IntKind.u8 0, Value.int IntKind.u8 0, Value.int IntKind.u8 0, Value.int IntKind.u8 0, Value.int IntKind.u8 0, Value.int IntKind.u8 0, Value.int IntKind.u8 0,
    Value.bool false, Value.int IntKind.i64 0, Value.int IntKind.i64 0, Value.int IntKind.i64 0, Value.slice none 0 0] 27) = w.alloc (cellsO zFrm.cells 27) := fun _ => rfl
  simp only [push_cast, Nat.reduceAdd, Nat.reduceLeDiff, Nat.reduceLT, Int.reduceToNat, Nat.left_eq_add, Nat.add_eq_left, Nat.add_left_cancel_iff, Nat.reduceEqDiff, Nat.add_assoc, Nat.succ_ne_zero, hz]
  have h0 : ((w.alloc (cellsO f.cells 27)).alloc (cellsO zFrm.cells 27)).heap[w.heap.size]? = some (cellsO f.cells 27) := by simp only [push_cast, Nat.reduceAdd, Nat.reduceLeDiff, Nat.reduceLT, Int.reduceToNat, Nat.left_eq_add, Nat.add_eq_left, Nat.add_left_cancel_iff, Nat.reduceEqDiff, Nat.add_assoc, Nat.succ_ne_zero]
  have h1 : ((w.alloc (cellsO f.cells 27)).alloc (cellsO zFrm.cells 27)).heap[w.heap.size + 1]? = some (cellsO zFrm.cells 27) := by simp only [push_cast, Nat.reduceAdd, Nat.reduceLeDiff, Nat.reduceLT, Int.reduceToNat, Nat.left_eq_add, Nat.add_eq_left, Nat.add_left_cancel_iff, Nat.reduceEqDiff, Nat.add_assoc, Nat.succ_ne_zero]
  have hF : Fr none_ w ((w.alloc (cellsO f.cells 27)).alloc (cellsO zFrm.cells 27)) := (by repeat' first | with_reducible exact Fr.refl _ _ | with_reducible refine Fr.step_alloc ?_ ?_ | with_reducible refine Fr.step_drew ?_ | with_reducible refine Fr.step_wr ?_ ?_ _ _ | exact rfl | exact Or.inr (by omega) | exact Or.inl rfl | exact Or.inl (Or.inl rfl) | exact Or.inl (Or.inr rfl))
  generalize (w.alloc (cellsO f.cells 27)).alloc (cellsO zFrm.cells 27) = W at *
  refine vright_spec (hv.fr0 hF) ?_
  simp only [push_cast, Nat.reduceAdd, Nat.reduceLeDiff, Nat.reduceLT, Int.reduceToNat, Nat.left_eq_add, Nat.add_eq_left, Nat.add_left_cancel_iff, Nat.reduceEqDiff, Nat.add_assoc, Nat.succ_ne_zero, h0, h1, hone, hone0, build_zFrm]
  refine br_intro (fun hp => ?_) fun hp => ?_
  · have hp : ¬ t.right v n := by simpa using hp
    rw [VT.out, if_neg (fun h => hp h.1)] at h
    exact h _ (hF.step_wr (Or.inr (by omega)) _ _)
  have hp : t.right v n := by simpa using hp
  refine right_spec hbd fun W2 hF2 => ?_
  replace hF := hF.trans hF2
  replace h0 := hF2.heap h0 (fun h => h)
  replace h1 := hF2.heap h1 (fun h => h)
  have hv2 := hv.fr0 hF
  simp only [push_cast, Nat.reduceAdd, Nat.reduceLeDiff, Nat.reduceLT, Int.reduceToNat, Nat.left_eq_add, Nat.add_eq_left, Nat.add_left_cancel_iff, Nat.reduceEqDiff, Nat.add_assoc, Nat.succ_ne_zero, h0, h1, hone, hone0, build_zFrm]
  refine br_intro (fun hr => ?_) fun hr => ?_
  · rw [VT.out, if_neg (fun h => by rw [h.2] at hr; cases hr)] at h
    exact h _ (hF.step_wr (Or.inr (by omega)) _ _)
  have hr : f.right bs.length = true := by simpa using hr
  rw [VT.out, if_pos ⟨hp, hr⟩] at h
  simp only [push_cast, Nat.reduceAdd, Nat.reduceLeDiff, Nat.reduceLT, Int.reduceToNat, Nat.left_eq_add, Nat.add_eq_left, Nat.add_left_cancel_iff, Nat.reduceEqDiff, Nat.add_assoc, Nat.succ_ne_zero, hv2.blk, build_place]
  refine s_lk (kc := pk) (vc := Value.bool) hv2.map (right_isI hv.ok hp) ?_
  simp only [push_cast, Nat.reduceAdd, Nat.reduceLeDiff, Nat.reduceLT, Int.reduceToNat, Nat.left_eq_add, Nat.add_eq_left, Nat.add_left_cancel_iff, Nat.reduceEqDiff, Nat.add_assoc, Nat.succ_ne_zero]
  cases hl : getL t.tab (v, n) with
  | none =>
    rw [hl] at h
    simp only [Option.isSome_none, push_cast, Nat.reduceAdd, Nat.reduceLeDiff, Nat.reduceLT, Int.reduceToNat, Nat.left_eq_add, Nat.add_eq_left, Nat.add_left_cancel_iff, Nat.reduceEqDiff, Nat.add_assoc, Nat.succ_ne_zero, h0, h1, hone, hone0, build_zFrm]
    exact h _ (hF.step_wr (Or.inr (by omega)) _ _)
  | some b =>
    rw [hl] at h
    cases b with
    | true =>
      simp only [Option.isSome_some, got, push_cast, Nat.reduceAdd, Nat.reduceLeDiff, Nat.reduceLT, Int.reduceToNat, Nat.left_eq_add, Nat.add_eq_left, Nat.add_left_cancel_iff, Nat.reduceEqDiff, Nat.add_assoc, Nat.succ_ne_zero, h0, h1, hone, hone0, build_zFrm]
      refine tag_spec (hf.fr0 hF) fun W3 hF3 => ?_
      replace h0 := hF3.heap h0 (fun h => h)
      replace h1 := hF3.heap h1 (fun h => h)
      replace hF := hF.trans hF3
      rw [if_pos (VT.tag_right hr hp.1 hp.2.1)]
      have hone2 : (f.tag v f.prio).cells.all S.oneCell = true := Frm.one _ hf.2.one
      simp only [push_cast, Nat.reduceAdd, Nat.reduceLeDiff, Nat.reduceLT, Int.reduceToNat, Nat.left_eq_add, Nat.add_eq_left, Nat.add_left_cancel_iff, Nat.reduceEqDiff, Nat.add_assoc, Nat.succ_ne_zero, h0, h1, hone2]
      exact h _ (hF.step_wr (Or.inr (by omega)) _ _)
    | false =>
      simp only [Option.isSome_some, got, push_cast, Nat.reduceAdd, Nat.reduceLeDiff, Nat.reduceLT, Int.reduceToNat, Nat.left_eq_add, Nat.add_eq_left, Nat.add_left_cancel_iff, Nat.reduceEqDiff, Nat.add_assoc, Nat.succ_ne_zero, h0, h1, hone, hone0, build_zFrm]
      refine untag_spec (hf.fr0 hF) fun W3 hF3 => ?_
      replace h0 := hF3.heap h0 (fun h => h)
      replace h1 := hF3.heap h1 (fun h => h)
      replace hF := hF.trans hF3
      have hone2 : f.untag.cells.all S.oneCell = true := Frm.one _ hf.2.one
      simp only [push_cast, Nat.reduceAdd, Nat.reduceLeDiff, Nat.reduceLT, Int.reduceToNat, Nat.left_eq_add, Nat.add_eq_left, Nat.add_left_cancel_iff, Nat.reduceEqDiff, Nat.add_assoc, Nat.succ_ne_zero, h0, h1, hone2]
      exact h _ (hF.step_wr (Or.inr (by omega)) _ _)

theorem vmembers_spec {p m nb : Nat} {t : VT} {v : Int} (hv : VRep w p m nb t) (hvi : isI v) (h : ∀ w' x, OwnE 3 1 w' x ((t.members v).map cellI) → Fr none_ w w' → New w x → K x w') :
    CallsR Tryz.prog 30 #[pt p 0, i64 v] K w := by
  apply c30
  unfold p30
  simp only [push_cast, Nat.reduceAdd, Nat.reduceLeDiff, Nat.reduceLT, Int.reduceToNat, Nat.left_eq_add, Nat.add_eq_left, Nat.add_left_cancel_iff, Nat.reduceEqDiff, Nat.add_assoc, Nat.succ_ne_zero, hv.blk, jn_1]
  have hlen := hv.ok.len
  refine loop2 (fun mm x y w' => ∃ i : Nat, y = i64 i ∧ i + mm = t.nat.length ∧ Fr none_ w w' ∧ OwnE 3 1 w' x ((((List.range i).map Int.ofNat).filter fun p => t.is v p).map cellI) ∧ New w x) ?_ t.nat.length ⟨0, rfl, by omega, Fr.refl _ _, own_nil _ _ _, fun b hb => by cases hb⟩
  rintro mm x y w' X ⟨i, rfl, hi, hF, hx, hN⟩ hX
  have hv' := hv.fr0 hF
  simp only [push_cast, Nat.reduceAdd, Nat.reduceLeDiff, Nat.reduceLT, Int.reduceToNat, Nat.left_eq_add, Nat.add_eq_left, Nat.add_left_cancel_iff, Nat.reduceEqDiff, Nat.add_assoc, Nat.succ_ne_zero, hv'.blk, build_place]
  refine br_dec (fun hlt => ?_) fun hge => ?_
  · refine s_lk (kc := pk) (vc := Value.bool) hv'.map ⟨hvi, isI_iff.2 ⟨by simp only []; omega, by simp only []; omega⟩⟩ ?_
    simp only [push_cast, Nat.reduceAdd, Nat.reduceLeDiff, Nat.reduceLT, Int.reduceToNat, Nat.left_eq_add, Nat.add_eq_left, Nat.add_left_cancel_iff, Nat.reduceEqDiff, Nat.add_assoc, Nat.succ_ne_zero]
    have hstep : (((List.range (i + 1)).map Int.ofNat).filter fun p => t.is v p) = (((List.range i).map Int.ofNat).filter fun p => t.is v p) ++ (if t.is v i then [(i : Int)] else []) := by
      rw [List.range_succ, List.map_append, List.filter_append]
      congr 1
      by_cases hti : t.is v i <;> simp [hti]
    have hl2 : (((List.range i).map Int.ofNat).filter fun p => t.is v p).length ≤ i := by
      refine Nat.le_trans (List.length_filter_le _ _) ?_
      simp
    have hw : IntKind.i64.wrap ((i : Int) + 1) = ((i + 1 : Nat) : Int) := by rw [wrap_i64 (by omega)]; omega
    refine br_intro (fun hs => ?_) fun hs => ?_
    · have hti : t.is v i = true := hs
      rw [hti] at hstep
      refine s_app1 (by rfl) (by rfl) (by decide) hx (by rw [List.length_map]; omega) fun x' w2 hx' hb hF2 => ?_
      simp only [push_cast, Nat.reduceAdd, Nat.reduceLeDiff, Nat.reduceLT, Int.reduceToNat, Nat.left_eq_add, Nat.add_eq_left, Nat.add_left_cancel_iff, Nat.reduceEqDiff, Nat.add_assoc, Nat.succ_ne_zero, hw]
      refine hX (mm - 1) _ _ _ (by omega) ⟨i + 1, rfl, by omega, hF.trans_new hF2 (fun b hb h => by have := hN b h; omega), ?_, ?_⟩
      · rw [hstep, List.map_append]; exact hx'
      · intro b hb'
        rcases hb with hb | hb
        · exact hN b (hb ▸ hb')
        · exact Nat.le_trans hF.size (hb b hb')
    · have hti : t.is v i = false := hs
      rw [hti] at hstep
      simp only [push_cast, Nat.reduceAdd, Nat.reduceLeDiff, Nat.reduceLT, Int.reduceToNat, Nat.left_eq_add, Nat.add_eq_left, Nat.add_left_cancel_iff, Nat.reduceEqDiff, Nat.add_assoc, Nat.succ_ne_zero, hw]
      refine hX (mm - 1) _ _ _ (by omega) ⟨i + 1, rfl, by omega, hF, ?_, hN⟩
      rw [hstep]
      simpa using hx
  · obtain rfl : i = t.nat.length := by omega
    exact h _ _ hx hF hN



def memC (x : (Int × Int) × Bool) : List Value := [i64 x.1.1, i64 x.1.2, .bool x.2]
theorem memC_one (l : List ((Int × Int) × Bool)) : (l.map memC).flatten.all S.oneCell = true := by
  rw [List.all_eq_true]
  intro x hx
  obtain ⟨e, he, hx⟩ := List.mem_flatten.1 hx
  obtain ⟨y, hy, rfl⟩ := List.mem_map.1 he
  simp [memC] at hx
  rcases hx with rfl | rfl | rfl <;> rfl

structure RRep (w : World) (q nb : Nat) (Lv : Value) (t : VT) : Prop where
  blk : w.heap[q]? = some (cellsO [i64 t.nat.length, Lv, .slice (some ⟨nb, 0, none⟩) t.nat.length t.nat.length] 141)
  lst : OwnE 144 3 w Lv (t.tab.map memC)
  nat : w.heap[nb]? = some (cellsO (t.nat.map i64) 3)
  qn : q ≠ nb
  lq : ∀ b, blkS Lv = some b → b ≠ q ∧ b ≠ nb
  ok : t.ok

def rfp (q nb : Nat) (Lv : Value) (b : Nat) : Prop := b = q ∨ b = nb ∨ blkS Lv = some b
theorem RRep.fr {fp : Nat → Prop} {w w' : World} {q nb : Nat} {Lv : Value} {t : VT} (h : RRep w q nb Lv t) (hf : Fr fp w w') (h1 : ¬ fp q) (h2 : ¬ fp nb) (h3 : ∀ b, blkS Lv = some b → ¬ fp b) : RRep w' q nb Lv t :=
  ⟨hf.heap h.blk h1, h.lst.fr hf h3, hf.heap h.nat h2, h.qn, h.lq, h.ok⟩
theorem RRep.fr0 {w w' : World} {q nb : Nat} {Lv : Value} {t : VT} (h : RRep w q nb Lv t) (hf : Fr none_ w w') : RRep w' q nb Lv t := h.fr hf (fun h => h) (fun h => h) (fun _ _ h => h)
theorem RRep.lt {w : World} {q nb : Nat} {Lv : Value} {t : VT} (h : RRep w q nb Lv t) : q < w.heap.size ∧ nb < w.heap.size := ⟨lt_of_heap h.blk, lt_of_heap h.nat⟩

theorem rright_spec' {q nb : Nat} {Lv : Value} {t : VT} {v n : Int} (hv : RRep w q nb Lv t) (h : K (.bool (decide (t.right v n))) w) : CallsR Tryz.prog 86 #[pt q 0, i64 v, i64 n] K w := by
  apply c86
  unfold p86
  simp only [push_cast, Nat.reduceAdd, Nat.reduceLeDiff, Nat.reduceLT, Int.reduceToNat, Nat.left_eq_add, Nat.add_eq_left, Nat.add_left_cancel_iff, Nat.reduceEqDiff, Nat.add_assoc, Nat.succ_ne_zero, hv.blk]
  have h' : ∀ b, decide (t.right v n) = b → K (.bool b) w := fun b e => e ▸ h
  clear h
  repeat' first | with_reducible refine br_dec (fun _ => ?_) fun _ => ?_
  all_goals
    refine h' _ ?_
    unfold VT.right VT.port
    first | exact decide_eq_false (by omega) | exact decide_eq_decide.2 (by omega)

theorem rnew_spec (n : Int) (h0 : ¬ (1 ≤ n ∧ n ≤ 64) → K (.tuple #[.pointer none, i64 1]) w)
    (h1 : 1 ≤ n → n ≤ 64 → ∀ w' q nb Lv, RRep w' q nb Lv (VT.new n.toNat) → Fr none_ w w' → w.heap.size ≤ q → w.heap.size ≤ nb → New w Lv → K (.tuple #[pt q 0, i64 0]) w') :
    CallsR Tryz.prog 53 #[i64 n] K w := by
  apply c53
  unfold p53
  simp only [push_cast, Nat.reduceAdd, Nat.reduceLeDiff, Nat.reduceLT, Int.reduceToNat, Nat.left_eq_add, Nat.add_eq_left, Nat.add_left_cancel_iff, Nat.reduceEqDiff, Nat.add_assoc, Nat.succ_ne_zero]
  refine br_dec (fun ha => h0 (by omega)) fun ha => ?_
  refine br_dec (fun hb => h0 (by omega)) fun hb => ?_
  rw [opS_mks _ _ _ (by omega) (by omega) (by omega) (by rfl) (by decide)]
  simp only [push_cast, Nat.reduceAdd, Nat.reduceLeDiff, Nat.reduceLT, Int.reduceToNat, Nat.left_eq_add, Nat.add_eq_left, Nat.add_left_cancel_iff, Nat.reduceEqDiff, Nat.add_assoc, Nat.succ_ne_zero]
  rw [opS_build _ rfl]
  have e : zeros n.toNat (Value.int .i64 0).cells.toList = (List.replicate n.toNat (0 : Int)).map i64 := by
    simp [zeros, Value.cells]
  simp only [push_cast, Nat.reduceAdd, Nat.reduceLeDiff, Nat.reduceLT, Int.reduceToNat, Nat.left_eq_add, Nat.add_eq_left, Nat.add_left_cancel_iff, Nat.reduceEqDiff, Nat.add_assoc, Nat.succ_ne_zero]
  refine h1 (by omega) (by omega) _ (w.heap.size + 1) w.heap.size (.slice none 0 0) ⟨?_, own_nil _ _ _, ?_, by omega, fun b hb => (by cases hb), VT.ok_new (by omega)⟩ (by repeat' first | with_reducible exact Fr.refl _ _ | with_reducible refine Fr.step_alloc ?_ ?_ | with_reducible refine Fr.step_drew ?_ | with_reducible refine Fr.step_wr ?_ ?_ _ _ | exact rfl | exact Or.inr (by omega) | exact Or.inl rfl | exact Or.inl (Or.inl rfl) | exact Or.inl (Or.inr rfl)) (by omega) (Nat.le_refl _) (fun b hb => by cases hb)
  · simp only [push_cast, Nat.reduceAdd, Nat.reduceLeDiff, Nat.reduceLT, Int.reduceToNat, Nat.left_eq_add, Nat.add_eq_left, Nat.add_left_cancel_iff, Nat.reduceEqDiff, Nat.add_assoc, Nat.succ_ne_zero, VT.new, List.length_replicate]
    have : ((n.toNat : Nat) : Int) = n := by omega
    rw [this]
    rfl
  · simp only [push_cast, Nat.reduceAdd, Nat.reduceLeDiff, Nat.reduceLT, Int.reduceToNat, Nat.left_eq_add, Nat.add_eq_left, Nat.add_left_cancel_iff, Nat.reduceEqDiff, Nat.add_assoc, Nat.succ_ne_zero, VT.new]
    rw [← e]
    rfl

theorem rfind_spec {q nb : Nat} {Lv : Value} {t : VT} {v n : Int} (hv : RRep w q nb Lv t) (h0 : getL t.tab (v, n) = none → K (i64 (-1)) w) (h1 : ∀ (k : Nat) b, t.tab[k]? = some ((v, n), b) → getL t.tab (v, n) = some b → K (i64 k) w) :
    CallsR Tryz.prog 87 #[pt q 0, i64 v, i64 n] K w := by
  apply c87
  unfold p87
  have hsmall := VT.small hv.ok
  obtain ⟨a, c, hL⟩ := hv.lst.rd.form
  rw [List.length_map] at hL
  refine jn0 (fun w' => w' = w ∧ getL t.tab (v, n) = none) (fun w' ⟨e, hn⟩ => by subst e; exact h0 hn) fun j hj => ?_
  refine loop1 (fun m x w' => ∃ i : Nat, x = i64 i ∧ i + m = t.tab.length ∧ w' = w ∧ ∀ k p, k < i → t.tab[k]? = some p → p.1 ≠ (v, n)) ?_ t.tab.length ⟨0, rfl, by omega, rfl, fun k p hk => by omega⟩
  rintro m x w' X ⟨i, rfl, hi, rfl, hno⟩ hX
  have hlst := hv.lst
  rw [hL] at hlst
  simp only [push_cast, Nat.reduceAdd, Nat.reduceLeDiff, Nat.reduceLT, Int.reduceToNat, Nat.left_eq_add, Nat.add_eq_left, Nat.add_left_cancel_iff, Nat.reduceEqDiff, Nat.add_assoc, Nat.succ_ne_zero, hv.blk, hL]
  refine br_dec (fun hlt => ?_) fun hge => hj _ ⟨rfl, lookup_none fun p hp => ?_⟩
  · have hlt2 : i < t.tab.length := by omega
    have hnext : t.tab[i].1 ≠ (v, n) → X (i64 (i + 1 : Nat)) w' := fun hne => hX (m - 1) _ _ (by omega) ⟨i + 1, rfl, by omega, rfl, fun k p hk hp => by
      by_cases e : k = i
      · subst e
        rw [List.getElem?_eq_getElem hlt2] at hp
        cases hp
        exact hne
      · exact hno k p (by omega) hp⟩
    have hw : IntKind.i64.wrap ((i : Int) + 1) = ((i + 1 : Nat) : Int) := by rw [wrap_i64 (by omega)]; omega
    refine s_iaE hlst.rd (by omega) (by simpa using hlt2) fun b1 o1 c1 _ hE => ?_
    simp only [Int.toNat_natCast, List.getElem_map] at hE ⊢
    have hg0 : (memC t.tab[i])[0]? = some (i64 t.tab[i].1.1) := rfl
    have hg1 : (memC t.tab[i])[1]? = some (i64 t.tab[i].1.2) := rfl
    have hE0 := hE.cell 0 (show 0 < 3 by decide)
    simp only [push_cast, Nat.reduceAdd, Nat.reduceLeDiff, Nat.reduceLT, Int.reduceToNat, Nat.left_eq_add, Nat.add_eq_left, Nat.add_left_cancel_iff, Nat.reduceEqDiff, Nat.add_assoc, Nat.succ_ne_zero, hg0] at hE0
    simp only [push_cast, Nat.reduceAdd, Nat.reduceLeDiff, Nat.reduceLT, Int.reduceToNat, Nat.left_eq_add, Nat.add_eq_left, Nat.add_left_cancel_iff, Nat.reduceEqDiff, Nat.add_assoc, Nat.succ_ne_zero, hE0]
    refine br_intro (fun e1 => ?_) fun e1 => ?_
    · simp only [push_cast, Nat.reduceAdd, Nat.reduceLeDiff, Nat.reduceLT, Int.reduceToNat, Nat.left_eq_add, Nat.add_eq_left, Nat.add_left_cancel_iff, Nat.reduceEqDiff, Nat.add_assoc, Nat.succ_ne_zero, hv.blk, hL]
      refine s_iaE hlst.rd (by omega) (by simpa using hlt2) fun b1 o1 c1 _ hE => ?_
      simp only [Int.toNat_natCast, List.getElem_map] at hE ⊢
      have hE1 := hE.cell 1 (show 1 < 3 by decide)
      simp only [push_cast, Nat.reduceAdd, Nat.reduceLeDiff, Nat.reduceLT, Int.reduceToNat, Nat.left_eq_add, Nat.add_eq_left, Nat.add_left_cancel_iff, Nat.reduceEqDiff, Nat.add_assoc, Nat.succ_ne_zero, hg1] at hE1
      simp only [push_cast, Nat.reduceAdd, Nat.reduceLeDiff, Nat.reduceLT, Int.reduceToNat, Nat.left_eq_add, Nat.add_eq_left, Nat.add_left_cancel_iff, Nat.reduceEqDiff, Nat.add_assoc, Nat.succ_ne_zero, hE1]
      refine br_intro (fun e2 => ?_) fun e2 => ?_
      · have e : t.tab[i].1 = (v, n) := by
          simp at e1 e2
          exact Prod.ext e1 e2
        have hat : t.tab[i]? = some ((v, n), t.tab[i].2) := by
          rw [List.getElem?_eq_getElem hlt2, ← e]
        refine h1 i t.tab[i].2 hat ?_
        have := lookup_of_mem hv.ok.nd (List.getElem_mem hlt2)
        rw [e] at this
        exact this
      · simp only [push_cast, Nat.reduceAdd, Nat.reduceLeDiff, Nat.reduceLT, Int.reduceToNat, Nat.left_eq_add, Nat.add_eq_left, Nat.add_left_cancel_iff, Nat.reduceEqDiff, Nat.add_assoc, Nat.succ_ne_zero, hw]
        refine hnext fun e => ?_
        rw [e] at e2
        simp at e2
    · simp only [push_cast, Nat.reduceAdd, Nat.reduceLeDiff, Nat.reduceLT, Int.reduceToNat, Nat.left_eq_add, Nat.add_eq_left, Nat.add_left_cancel_iff, Nat.reduceEqDiff, Nat.add_assoc, Nat.succ_ne_zero, hw]
      refine hnext fun e => ?_
      rw [e] at e1
      simp at e1
  · obtain ⟨k, hk⟩ := List.mem_iff_getElem?.1 hp
    exact hno k p (by have := (List.getElem?_eq_some_iff.1 hk).1; omega) hk

theorem build_mem (v n : Int) (b : Bool) : opS Tryz.prog (S.build 144 [(0, i64 v), (1, i64 n), (2, .bool b)]) K w = K (.agg (memC ((v, n), b)).toArray) w := by
  rw [opS_build _ rfl]; rfl

theorem radd_spec {q nb : Nat} {Lv : Value} {t : VT} {v n : Int} {b : Bool} (hv : RRep w q nb Lv t) (h : ∀ w' Lv', RRep w' q nb Lv' (t.add v n b).1 → Fr (rfp q nb Lv) w w' → (blkS Lv' = blkS Lv ∨ New w Lv') → K (i64 (t.add v n b).2) w') :
    CallsR Tryz.prog 57 #[pt q 0, i64 v, i64 n, .bool b] K w := by
  apply c57
  unfold p57
  simp only [push_cast, Nat.reduceAdd, Nat.reduceLeDiff, Nat.reduceLT, Int.reduceToNat, Nat.left_eq_add, Nat.add_eq_left, Nat.add_left_cancel_iff, Nat.reduceEqDiff, Nat.add_assoc, Nat.succ_ne_zero]
  refine rright_spec' hv ?_
  have hok := VT.ok_add hv.ok v n b
  have hsmall := VT.small hv.ok
  by_cases hr : t.right v n
  · rw [VT.add, if_pos hr] at h hok
    simp only [hr, push_cast, Nat.reduceAdd, Nat.reduceLeDiff, Nat.reduceLT, Int.reduceToNat, Nat.left_eq_add, Nat.add_eq_left, Nat.add_left_cancel_iff, Nat.reduceEqDiff, Nat.add_assoc, Nat.succ_ne_zero]
    refine rfind_spec hv (fun hg => ?_) fun k b0 hat hg => ?_
    · rw [VT.setL_new hg] at h hok
      have b1 : decide ((-1 : Int) ≥ 0) = false := rfl
      simp only [push_cast, Nat.reduceAdd, Nat.reduceLeDiff, Nat.reduceLT, Int.reduceToNat, Nat.left_eq_add, Nat.add_eq_left, Nat.add_left_cancel_iff, Nat.reduceEqDiff, Nat.add_assoc, Nat.succ_ne_zero, b1]
      refine s_bs0 fun vA WA hA fA nA => ?_
      have hpA := fA.heap hv.blk (fun h => h)
      simp only [push_cast, Nat.reduceAdd, Nat.reduceLeDiff, Nat.reduceLT, Int.reduceToNat, Nat.left_eq_add, Nat.add_eq_left, Nat.add_left_cancel_iff, Nat.reduceEqDiff, Nat.add_assoc, Nat.succ_ne_zero, hpA]
      refine s_app (sz := 3) (by_ := 24) (by rfl) (by decide) hA (hv.lst.rd.fr fA (fun _ _ h => h)) (memC_one _) (by simp; omega) fun vB WB hB bB fB => ?_
      rw [List.nil_append] at hB
      simp only [build_mem, push_cast, Nat.reduceAdd, Nat.reduceLeDiff, Nat.reduceLT, Int.reduceToNat, Nat.left_eq_add, Nat.add_eq_left, Nat.add_left_cancel_iff, Nat.reduceEqDiff, Nat.add_assoc, Nat.succ_ne_zero]
      refine s_bs1 (sz := 3) (x := memC ((v, n), b)) rfl (by rfl) (by decide) (by decide) fun vC WC hC fC nC => ?_
      have hB' := hB.fr fC (fun _ _ h => h)
      refine s_app (sz := 3) (by_ := 24) (by rfl) (by decide) hB' hC.rd (by simp [memC]; exact ⟨rfl, rfl, rfl⟩) (by simp; omega) fun vD WD hD bD fD => ?_
      have hnB : New w vB := fun x hx => by
        rcases bB with bB | bB
        · exact nA x (bB ▸ hx)
        · exact Nat.le_trans fA.size (bB x hx)
      have hnD : New w vD := fun x hx => by
        rcases bD with bD | bD
        · exact hnB x (bD ▸ hx)
        · exact Nat.le_trans (Nat.le_trans fA.size (Nat.le_trans fB.size fC.size)) (bD x hx)
      have hF : Fr none_ w WD := ((fA.trans_new fB (fun x hx hh => by have := nA x hh; omega)).trans fC).trans_new fD (fun x hx hh => by have := hnB x hh; omega)
      have hp := hF.heap hv.blk (fun h => h)
      have hoD := hD.one
      have hq := hv.lt
      simp only [push_cast, Nat.reduceAdd, Nat.reduceLeDiff, Nat.reduceLT, Int.reduceToNat, Nat.left_eq_add, Nat.add_eq_left, Nat.add_left_cancel_iff, Nat.reduceEqDiff, Nat.add_assoc, Nat.succ_ne_zero, hp, hoD]
      have hqn := hv.qn
      refine h _ vD ⟨?_, ?_, ?_, hv.qn, fun x hx => ⟨fun e => by have := hnD x hx; omega, fun e => by have := hnD x hx; omega⟩, hok⟩ (Fr.trans (hF.mono fun _ _ h => h.elim) (Fr.wr _ _ _ _ (.inl rfl))) (.inr hnD)
      · simp only [push_cast, Nat.reduceAdd, Nat.reduceLeDiff, Nat.reduceLT, Int.reduceToNat, Nat.left_eq_add, Nat.add_eq_left, Nat.add_left_cancel_iff, Nat.reduceEqDiff, Nat.add_assoc, Nat.succ_ne_zero, hp]
      · rw [List.map_append]
        exact hD.fr (Fr.wr (fp := fun x => x = q) WD q 1 [vD] rfl) (fun x hx e => by have := hnD x hx; omega)
      · have := hF.heap hv.nat (fun h => h)
        have hne : nb ≠ q := fun e => hqn e.symm
        simp only [push_cast, Nat.reduceAdd, Nat.reduceLeDiff, Nat.reduceLT, Int.reduceToNat, Nat.left_eq_add, Nat.add_eq_left, Nat.add_left_cancel_iff, Nat.reduceEqDiff, Nat.add_assoc, Nat.succ_ne_zero, hne, this]
    · rw [VT.setL_at hv.ok.nd hat] at h hok
      have hk := (List.getElem?_eq_some_iff.1 hat).1
      obtain ⟨a, c, hL⟩ := hv.lst.rd.form
      rw [List.length_map] at hL
      have hlst := hv.lst
      rw [hL] at hlst
      have b1 : decide ((k : Int) ≥ 0) = true := decide_eq_true (by omega)
      simp only [push_cast, Nat.reduceAdd, Nat.reduceLeDiff, Nat.reduceLT, Int.reduceToNat, Nat.left_eq_add, Nat.add_eq_left, Nat.add_left_cancel_iff, Nat.reduceEqDiff, Nat.add_assoc, Nat.succ_ne_zero, b1, hv.blk, hL]
      refine s_iaE hlst.rd (by omega) (by simpa using hk) fun b1 o1 c1 hv1 _ => ?_
      simp only [Int.toNat_natCast]
      rw [List.length_map, Value.slice.injEq] at hv1
      obtain ⟨rfl, _, rfl⟩ := hv1
      have hl2 : OwnE 144 3 w (.slice (some ⟨b1, o1, none⟩) (t.tab.map memC).length c) (t.tab.map memC) := by rw [List.length_map]; exact hlst
      obtain ⟨g1, g2⟩ := hl2.putF (i := k) (f := 2) (by simpa using hk) (by decide) (.bool b)
      have hlq := hv.lq b1 (by rw [hL]; rfl)
      have ne1 : q ≠ b1 := fun e => hlq.1 e.symm
      have ne2 : nb ≠ b1 := fun e => hlq.2 e.symm
      rw [Nat.add_assoc] at g1 g2
      simp only [push_cast, Nat.reduceAdd, Nat.reduceLeDiff, Nat.reduceLT, Int.reduceToNat, Nat.left_eq_add, Nat.add_eq_left, Nat.add_left_cancel_iff, Nat.reduceEqDiff, Nat.add_assoc, Nat.succ_ne_zero, g1]
      refine h _ (.slice (some ⟨b1, o1, none⟩) t.tab.length c) ⟨?_, ?_, ?_, hv.qn, fun x hx => by cases hx; exact hlq, hok⟩ (Fr.wr _ _ _ _ (.inr (.inr (by rw [hL]; rfl)))) (.inl (by rw [hL]))
      · simp only [push_cast, Nat.reduceAdd, Nat.reduceLeDiff, Nat.reduceLT, Int.reduceToNat, Nat.left_eq_add, Nat.add_eq_left, Nat.add_left_cancel_iff, Nat.reduceEqDiff, Nat.add_assoc, Nat.succ_ne_zero, ne1, hv.blk, hL]
      · have e : (t.tab.map memC).set k (((t.tab.map memC)[k]'(by simpa using hk)).set 2 (.bool b)) = (t.tab.set k ((v, n), b)).map memC := by
          rw [List.map_set]
          congr 1
          rw [List.getElem_map]
          have : t.tab[k] = ((v, n), b0) := (List.getElem?_eq_some_iff.1 hat).2
          rw [this]
          rfl
        rw [e, List.length_map] at g2
        exact g2
      · simp only [push_cast, Nat.reduceAdd, Nat.reduceLeDiff, Nat.reduceLT, Int.reduceToNat, Nat.left_eq_add, Nat.add_eq_left, Nat.add_left_cancel_iff, Nat.reduceEqDiff, Nat.add_assoc, Nat.succ_ne_zero, ne2, hv.nat]
  · rw [VT.add, if_neg hr] at h
    simp only [hr, push_cast, Nat.reduceAdd, Nat.reduceLeDiff, Nat.reduceLT, Int.reduceToNat, Nat.left_eq_add, Nat.add_eq_left, Nat.add_left_cancel_iff, Nat.reduceEqDiff, Nat.add_assoc, Nat.succ_ne_zero]
    exact h w Lv hv (Fr.refl _ _) (.inl rfl)

theorem rnative_spec {q nb : Nat} {Lv : Value} {t : VT} {n v : Int} (hv : RRep w q nb Lv t) (h : ∀ w', RRep w' q nb Lv (t.native n v).1 → Fr (rfp q nb Lv) w w' → K (i64 (t.native n v).2) w') :
    CallsR Tryz.prog 59 #[pt q 0, i64 n, i64 v] K w := by
  apply c59
  unfold p59
  simp only [push_cast, Nat.reduceAdd, Nat.reduceLeDiff, Nat.reduceLT, Int.reduceToNat, Nat.left_eq_add, Nat.add_eq_left, Nat.add_left_cancel_iff, Nat.reduceEqDiff, Nat.add_assoc, Nat.succ_ne_zero, hv.blk]
  have hbad : ¬ (t.port n ∧ 0 ≤ v ∧ v ≤ 4094) → K (i64 1) w := fun hb => by
    have := h w
    rw [VT.native, if_neg hb] at this
    exact this hv (Fr.refl _ _)
  refine br_dec (fun h1 => hbad fun h2 => by have := h2.1.1; omega) fun h1 => ?_
  refine br_dec (fun h2 => hbad fun h3 => by have := h3.1.2; omega) fun h2 => ?_
  have hp : t.port n := ⟨by omega, by omega⟩
  refine br_dec (fun h2 => hbad (by omega)) fun h2 => ?_
  refine br_dec (fun h3 => hbad (by omega)) fun h3 => ?_
  rw [VT.native, if_pos ⟨hp, by omega, by omega⟩] at h
  have hok := VT.ok_native hv.ok n v
  rw [VT.native, if_pos ⟨hp, by omega, by omega⟩] at hok
  rw [opS_iaS, if_pos (show 0 ≤ n ∧ n < _ from hp)]
  have hlt : n.toNat < t.nat.length := by have := hp.1; have := hp.2; omega
  simp only [push_cast, Nat.reduceAdd, Nat.reduceLeDiff, Nat.reduceLT, Int.reduceToNat, Nat.left_eq_add, Nat.add_eq_left, Nat.add_left_cancel_iff, Nat.reduceEqDiff, Nat.add_assoc, Nat.succ_ne_zero, hv.nat, Nat.mul_one, List.length_map]
  have hle : decide (n.toNat + 1 ≤ t.nat.length) = true := decide_eq_true (by omega)
  have hqn := hv.qn
  simp only [hle, push_cast, Nat.reduceAdd, Nat.reduceLeDiff, Nat.reduceLT, Int.reduceToNat, Nat.left_eq_add, Nat.add_eq_left, Nat.add_left_cancel_iff, Nat.reduceEqDiff, Nat.add_assoc, Nat.succ_ne_zero]
  refine h _ ⟨?_, hv.lst.fr (Fr.wr (fp := fun b => b = nb) w nb n.toNat [i64 v] rfl) (fun b hb e => (hv.lq b hb).2 e), ?_, hqn, hv.lq, hok⟩ (Fr.wr _ _ _ _ (.inr (.inl rfl)))
  · simp only [push_cast, Nat.reduceAdd, Nat.reduceLeDiff, Nat.reduceLT, Int.reduceToNat, Nat.left_eq_add, Nat.add_eq_left, Nat.add_left_cancel_iff, Nat.reduceEqDiff, Nat.add_assoc, Nat.succ_ne_zero, hqn, hv.blk, List.length_set]
  · simp only [push_cast, Nat.reduceAdd, Nat.reduceLeDiff, Nat.reduceLT, Int.reduceToNat, Nat.left_eq_add, Nat.add_eq_left, Nat.add_left_cancel_iff, Nat.reduceEqDiff, Nat.add_assoc, Nat.succ_ne_zero, hv.nat]
    rw [splice_ints _ _ hlt]

theorem rremove_spec {q nb : Nat} {Lv : Value} {t : VT} {v n : Int} (hv : RRep w q nb Lv t) (h : ∀ w' Lv', RRep w' q nb Lv' (t.remove v n).1 → Fr (rfp q nb Lv) w w' → (blkS Lv' = blkS Lv ∨ New w Lv') → K (i64 (t.remove v n).2) w') :
    CallsR Tryz.prog 61 #[pt q 0, i64 v, i64 n] K w := by
  apply c61
  unfold p61
  simp only [push_cast, Nat.reduceAdd, Nat.reduceLeDiff, Nat.reduceLT, Int.reduceToNat, Nat.left_eq_add, Nat.add_eq_left, Nat.add_left_cancel_iff, Nat.reduceEqDiff, Nat.add_assoc, Nat.succ_ne_zero]
  refine rright_spec' hv ?_
  have hok := VT.ok_remove hv.ok v n
  have hsmall := VT.small hv.ok
  by_cases hr : t.right v n
  · rw [VT.remove, if_pos hr] at h hok
    simp only [hr, push_cast, Nat.reduceAdd, Nat.reduceLeDiff, Nat.reduceLT, Int.reduceToNat, Nat.left_eq_add, Nat.add_eq_left, Nat.add_left_cancel_iff, Nat.reduceEqDiff, Nat.add_assoc, Nat.succ_ne_zero]
    refine rfind_spec hv (fun hg => ?_) fun k b0 hat hg => ?_
    · rw [hg] at h
      have b1 : decide ((-1 : Int) < 0) = true := rfl
      simp only [push_cast, Nat.reduceAdd, Nat.reduceLeDiff, Nat.reduceLT, Int.reduceToNat, Nat.left_eq_add, Nat.add_eq_left, Nat.add_left_cancel_iff, Nat.reduceEqDiff, Nat.add_assoc, Nat.succ_ne_zero, b1]
      exact h w Lv hv (Fr.refl _ _) (.inl rfl)
    · rw [hg] at h hok
      simp only [Option.isSome_some, if_true] at h hok
      rw [VT.delL_at hv.ok.nd hat] at h hok
      have hk := (List.getElem?_eq_some_iff.1 hat).1
      have b1 : decide ((k : Int) < 0) = false := decide_eq_false (by omega)
      simp only [push_cast, Nat.reduceAdd, Nat.reduceLeDiff, Nat.reduceLT, Int.reduceToNat, Nat.left_eq_add, Nat.add_eq_left, Nat.add_left_cancel_iff, Nat.reduceEqDiff, Nat.add_assoc, Nat.succ_ne_zero, b1]
      obtain ⟨a, c, hLv⟩ := hv.lst.rd.form
      have hL : RdE 3 w.drew Lv (t.tab.map memC) := hv.lst.rd
      have hp : w.drew.heap[q]? = _ := hv.blk
      have hF : Fr none_ w w.drew := Fr.drew w
      have hqlt := hv.lt.1
      have hLold : ∀ b, blkS Lv = some b → b < w.heap.size := fun b hb => hv.lst.lt hb
      have hqn := hv.qn
      have hML : (t.tab.map memC).length = t.tab.length := List.length_map ..
      have ek1 : IntKind.i64.wrap ((k : Int) + 1) = (k : Int) + 1 := wrap_i64 (by omega)
      have e6 : ((t.tab.map memC).take k).flatten.all S.oneCell = true := by rw [← List.map_take]; exact memC_one _
      have e7 : ((t.tab.map memC).drop (k + 1)).flatten.all S.oneCell = true := by rw [← List.map_drop]; exact memC_one _
      have e8 : ([] : List (List Value)).length + ((t.tab.map memC).take k).length ≤ 300000 := by simp; omega
      have e9 : ((t.tab.map memC).take k).length + ((t.tab.map memC).drop (k + 1)).length ≤ 300000 := by simp; omega
      have hfin : (t.tab.map memC).take k ++ (t.tab.map memC).drop (k + 1) = (t.tab.take k ++ t.tab.drop (k + 1)).map memC := by
        rw [List.map_append, List.map_take, List.map_drop]
      rw [hML] at hLv
      generalize hM : t.tab.map memC = M at *
      have S1 : ∀ (K : Value → World → Prop) (w : World), K (.slice (if c = 0 then a else a.map (·.add (0 * 3))) (k - 0) (c - 0)) w → k ≤ c → opS Tryz.prog (S.slc 139 Lv none (some (i64 k)) none) K w := by
        intro K w h hc
        rw [hLv, opS_slice (run_boundsH (by omega) (by omega)), Int.toNat_natCast]
        exact h
      have S2 : ∀ (K : Value → World → Prop) (w : World), K (.slice (if c = k + 1 then a else a.map (·.add ((k + 1) * 3))) (t.tab.length - (k + 1)) (c - (k + 1))) w → opS Tryz.prog (S.slc 139 Lv (some (i64 ((k : Int) + 1))) none none) K w := by
        intro K w h
        have e : ((k : Int) + 1).toNat = k + 1 := by omega
        rw [hLv, opS_slice (run_boundsL (by omega) (by omega)), e]
        exact h
      have hc : k ≤ c := by
        have := hv.lst.1
        rw [hLv] at this
        rcases this with ⟨h1, h2, _⟩ | ⟨_, _, _, _, h1, _, h2, _⟩
        · rw [hM] at h2; omega
        · simp only [Value.slice.injEq] at h1
          rw [hM] at h2; omega
      have P1 : ∀ W, RdE 3 W Lv M → RdE 3 W (.slice (if c = 0 then a else a.map (·.add (0 * 3))) (k - 0) (c - 0)) (M.take k) := by
        intro W hW
        rw [hLv, ← hML] at hW
        have := hW.part (l := 0) (m := k) (by omega) (by omega)
        rwa [List.drop_zero] at this
      have P2 : ∀ W, RdE 3 W Lv M → RdE 3 W (.slice (if c = k + 1 then a else a.map (·.add ((k + 1) * 3))) (t.tab.length - (k + 1)) (c - (k + 1))) (M.drop (k + 1)) := by
        intro W hW
        rw [hLv, ← hML] at hW
        have := hW.part (l := k + 1) (m := M.length) (by omega) (by omega)
        rwa [List.take_length, hML] at this
      have B0 : ∀ (K : Value → World → Prop) (w : World), (∀ v' w', OwnE 144 3 w' v' [] → Fr none_ w w' → New w v' → K v' w') → opS Tryz.prog (S.buildS 139 0 []) K w := fun K w h => s_bs0 h
      have B2 : ∀ (K : Value → World → Prop) (w : World) (v u : Value) (es fs : List (List Value)), OwnE 144 3 w v es → RdE 3 w u fs → fs.flatten.all S.oneCell = true → es.length + fs.length ≤ 300000 →
          (∀ v' w', OwnE 144 3 w' v' (es ++ fs) → (blkS v' = blkS v ∨ New w v') → Fr (fun b => blkS v = some b) w w' → K v' w') → opS Tryz.prog (S.bi .append #[139, 139] 139 [v, u]) K w :=
        fun K w v u es fs h1 h2 h3 h4 h => s_app (sz := 3) (by_ := 24) (by rfl) (by decide) h1 h2 h3 (by omega) h
      have hfinal : ∀ W vD, W.heap[q]? = some (cellsO [i64 t.nat.length, Lv, .slice (some ⟨nb, 0, none⟩) t.nat.length t.nat.length] 141) → OwnE 144 3 W vD ((t.tab.take k ++ t.tab.drop (k + 1)).map memC) → Fr none_ w W → New w vD → K (i64 0) (wr W q 1 [vD]) := by
        intro W vD hp hD hF hN
        have hq := hv.lt
        refine h _ vD ⟨?_, hD.fr (Fr.wr (fp := fun x => x = q) W q 1 [vD] rfl) (fun x hx e => by have := hN x hx; omega), ?_, hqn, fun x hx => ⟨fun e => by have := hN x hx; omega, fun e => by have := hN x hx; omega⟩, hok⟩ (Fr.trans (hF.mono fun _ _ h => h.elim) (Fr.wr _ _ _ _ (.inl rfl))) (.inr hN)
        · simp only [push_cast, Nat.reduceAdd, Nat.reduceLeDiff, Nat.reduceLT, Int.reduceToNat, Nat.left_eq_add, Nat.add_eq_left, Nat.add_left_cancel_iff, Nat.reduceEqDiff, Nat.add_assoc, Nat.succ_ne_zero, hp]
        · have := hF.heap hv.nat (fun h => h)
          have hne : nb ≠ q := fun e => hqn e.symm
          simp only [push_cast, Nat.reduceAdd, Nat.reduceLeDiff, Nat.reduceLT, Int.reduceToNat, Nat.left_eq_add, Nat.add_eq_left, Nat.add_left_cancel_iff, Nat.reduceEqDiff, Nat.add_assoc, Nat.succ_ne_zero, hne, this]
      clear h hM hv
      generalize w.drew = W at *
      simp only [push_cast, Nat.reduceAdd, Nat.reduceLeDiff, Nat.reduceLT, Int.reduceToNat, Nat.left_eq_add, Nat.add_eq_left, Nat.add_left_cancel_iff, Nat.reduceEqDiff, Nat.add_assoc, Nat.succ_ne_zero, hp, ek1]
      repeat' first
        | with_reducible refine allW_intro ?_ ?_
        | (with_reducible refine B0 _ _ fun vA WA hA fA nA => ?_
           have hAn : New w vA := fun b hb => Nat.le_trans hF.size (nA b hb)
           replace hp := fA.heap hp (fun h => h)
           replace hL := hL.fr fA (fun _ _ h => h)
           replace hF := hF.trans_new fA (fun _ _ h => h.elim)
           clear fA nA)
        | with_reducible refine S1 _ _ ?_ hc
        | with_reducible refine S2 _ _ ?_
        | (with_reducible refine B2 _ _ _ _ _ _ hA (P1 _ hL) e6 e8 fun vC WC hC bC fC => ?_
           rw [List.nil_append] at hC
           have hCn : New w vC := fun b hb => by
             rcases bC with bC | bC
             · exact hAn b (bC ▸ hb)
             · exact Nat.le_trans hF.size (bC b hb)
           replace hp := fC.heap hp (fun hh => by have := hAn _ hh; omega)
           replace hL := hL.fr fC (fun b hb hh => by have := hAn b hh; have := hLold b hb; omega)
           replace hF := hF.trans_new fC (fun b hb hh => by have := hAn b hh; omega)
           clear fC bC hA)
        | (with_reducible refine B2 _ _ _ _ _ _ hC (P2 _ hL) e7 e9 fun vD WD hD bD fD => ?_
           rw [hfin] at hD
           have hDn : New w vD := fun b hb => by
             rcases bD with bD | bD
             · exact hCn b (bD ▸ hb)
             · exact Nat.le_trans hF.size (bD b hb)
           replace hp := fD.heap hp (fun hh => by have := hCn _ hh; omega)
           replace hF := hF.trans_new fD (fun b hb hh => by have := hCn b hh; omega)
           have hoD := hD.one
           clear fD bD hC
           simp only [push_cast, Nat.reduceAdd, Nat.reduceLeDiff, Nat.reduceLT, Int.reduceToNat, Nat.left_eq_add, Nat.add_eq_left, Nat.add_left_cancel_iff, Nat.reduceEqDiff, Nat.add_assoc, Nat.succ_ne_zero, hp, hoD]
           exact hfinal _ _ hp hD hF hDn)
        | simp only [push_cast, Nat.reduceAdd, Nat.reduceLeDiff, Nat.reduceLT, Int.reduceToNat, Nat.left_eq_add, Nat.add_eq_left, Nat.add_left_cancel_iff, Nat.reduceEqDiff, Nat.add_assoc, Nat.succ_ne_zero, hp, ek1]
  · rw [VT.remove, if_neg hr] at h
    simp only [hr, push_cast, Nat.reduceAdd, Nat.reduceLeDiff, Nat.reduceLT, Int.reduceToNat, Nat.left_eq_add, Nat.add_eq_left, Nat.add_left_cancel_iff, Nat.reduceEqDiff, Nat.add_assoc, Nat.succ_ne_zero]
    exact h w Lv hv (Fr.refl _ _) (.inl rfl)

theorem rin_spec {q nb : Nat} {Lv : Value} {t : VT} {n : Int} {f : Frm} {bs : List Int} (hv : RRep w q nb Lv t) (hf : FrmR w f bs) (h : ∀ w', Fr none_ w w' → K (.tuple #[i64 (t.inn n f bs.length).1, i64 (t.inn n f bs.length).2]) w') :
    CallsR Tryz.prog 115 #[pt q 0, i64 n, .agg f.cells.toArray] K w := by
  apply c115
  unfold p115
  obtain ⟨a, c, hbd⟩ := hf.2.form
  have h0 : (w.alloc (cellsO f.cells 27)).heap[w.heap.size]? = some (cellsO f.cells 27) := by simp only [push_cast, Nat.reduceAdd, Nat.reduceLeDiff, Nat.reduceLT, Int.reduceToNat, Nat.left_eq_add, Nat.add_eq_left, Nat.add_left_cancel_iff, Nat.reduceEqDiff, Nat.add_assoc, Nat.succ_ne_zero]
  have hF : Fr none_ w (w.alloc (cellsO f.cells 27)) := (by repeat' first | with_reducible exact Fr.refl _ _ | with_reducible refine Fr.step_alloc ?_ ?_ | with_reducible refine Fr.step_drew ?_ | with_reducible refine Fr.step_wr ?_ ?_ _ _ | exact rfl | exact Or.inr (by omega) | exact Or.inl rfl | exact Or.inl (Or.inl rfl) | exact Or.inl (Or.inr rfl))
  simp only [opS_box, cells_agg, alloc_cellsO]
  generalize w.alloc (cellsO f.cells 27) = W at *
  simp only [push_cast, Nat.reduceAdd, Nat.reduceLeDiff, Nat.reduceLT, Int.reduceToNat, Nat.left_eq_add, Nat.add_eq_left, Nat.add_left_cancel_iff, Nat.reduceEqDiff, Nat.add_assoc, Nat.succ_ne_zero, h0]
  refine rright_spec hbd fun W2 hF2 => ?_
  replace hF := hF.trans hF2
  replace h0 := hF2.heap h0 (fun h => h)
  have hv2 := hv.fr0 hF
  simp only [push_cast, Nat.reduceAdd, Nat.reduceLeDiff, Nat.reduceLT, Int.reduceToNat, Nat.left_eq_add, Nat.add_eq_left, Nat.add_left_cancel_iff, Nat.reduceEqDiff, Nat.add_assoc, Nat.succ_ne_zero, hv2.blk]
  have hbad : ¬ (t.port n ∧ f.right bs.length = true) → K (.tuple #[.int .i64 0, .int .i64 1]) W2 := fun hb => by
    rw [VT.inn, if_neg hb] at h
    exact h _ hF
  refine br_intro (fun hr => hbad fun h => by rw [h.2] at hr; cases hr) fun hr => ?_
  have hr : f.right bs.length = true := by simpa using hr
  refine br_dec (fun h1 => hbad fun h => by have := h.1.1; omega) fun h1 => ?_
  refine br_dec (fun h2 => hbad fun h => by have := h.1.2; omega) fun h2 => ?_
  have hp : t.port n := ⟨by omega, by omega⟩
  have hlt : n.toNat < t.nat.length := by have := hp.1; have := hp.2; omega
  rw [VT.inn, if_pos ⟨hp, hr⟩] at h
  rw [opS_iaS, if_pos (show 0 ≤ n ∧ n < _ from hp)]
  have hg : t.nat.getD n.toNat 0 = t.nat[n.toNat] := by simp [List.getD, List.getElem?_eq_getElem hlt]
  rw [hg] at h
  simp only [push_cast, Nat.reduceAdd, Nat.reduceLeDiff, Nat.reduceLT, Int.reduceToNat, Nat.left_eq_add, Nat.add_eq_left, Nat.add_left_cancel_iff, Nat.reduceEqDiff, Nat.add_assoc, Nat.succ_ne_zero, hv2.nat, Nat.mul_one, List.getElem?_map, List.getElem?_eq_getElem hlt, Option.map_some]
  have key : ∀ u : Int, (u = if f.vlan = 0 then t.nat[n.toNat] else f.vlan) →
      opS Tryz.prog (S.binI .eql (i64 u) (.int .i64 0)) (fun x18 => brn x18 (K (.tuple #[.int .i64 0, .int .i64 4])) (opS Tryz.prog (S.cl 87 [pt q 0, i64 u, i64 n]) fun x19 => opS Tryz.prog (S.binI .lss x19 (.int .i64 0)) fun x20 =>
        brn x20 (K (.tuple #[.int .i64 0, .int .i64 4])) (K (.tuple #[i64 u, .int .i64 0])))) W2 := by
    rintro u rfl
    simp only [] at h
    generalize (if f.vlan = 0 then t.nat[n.toNat] else f.vlan) = u at *
    simp only [push_cast, Nat.reduceAdd, Nat.reduceLeDiff, Nat.reduceLT, Int.reduceToNat, Nat.left_eq_add, Nat.add_eq_left, Nat.add_left_cancel_iff, Nat.reduceEqDiff, Nat.add_assoc, Nat.succ_ne_zero]
    have hno : getL t.tab (u, n) = none → K (.tuple #[.int .i64 0, .int .i64 4]) W2 := fun hg => by
      have : t.is u n = false := by unfold VT.is; rw [hg]; rfl
      rw [this] at h
      exact h _ hF
    refine br_intro (fun h3 => hno ?_) fun h3 => ?_
    · have h3 : u = 0 := by simpa using h3
      cases hg : getL t.tab (u, n) with
      | none => rfl
      | some b =>
        have := hv.ok.key _ (lookup_some_mem hg)
        have := this.1
        simp only [] at this
        omega
    · refine rfind_spec hv2 (fun hg => ?_) fun k b hk hg => ?_
      · have b1 : decide ((-1 : Int) < 0) = true := rfl
        simp only [push_cast, Nat.reduceAdd, Nat.reduceLeDiff, Nat.reduceLT, Int.reduceToNat, Nat.left_eq_add, Nat.add_eq_left, Nat.add_left_cancel_iff, Nat.reduceEqDiff, Nat.add_assoc, Nat.succ_ne_zero, b1]
        exact hno hg
      · have b1 : decide ((k : Int) < 0) = false := decide_eq_false (by omega)
        simp only [push_cast, Nat.reduceAdd, Nat.reduceLeDiff, Nat.reduceLT, Int.reduceToNat, Nat.left_eq_add, Nat.add_eq_left, Nat.add_left_cancel_iff, Nat.reduceEqDiff, Nat.add_assoc, Nat.succ_ne_zero, b1]
        have : t.is u n = true := by unfold VT.is; rw [hg]; rfl
        rw [this] at h
        exact h _ hF
  clear h
  refine jn1 (fun v w' => w' = W2 ∧ ∃ u : Int, v = i64 u ∧ u = if f.vlan = 0 then t.nat[n.toNat] else f.vlan) ?_ fun j hj => ?_
  · rintro v w' ⟨rfl, u, rfl, hu⟩
    exact key u hu
  · refine jn0 (fun w' => w' = W2 ∧ f.vlan = 0) ?_ fun j2 hj2 => ?_
    · rintro w' ⟨e, hz0⟩
      exact hj _ _ ⟨e, _, rfl, by rw [if_pos hz0]⟩
    · simp only [push_cast, Nat.reduceAdd, Nat.reduceLeDiff, Nat.reduceLT, Int.reduceToNat, Nat.left_eq_add, Nat.add_eq_left, Nat.add_left_cancel_iff, Nat.reduceEqDiff, Nat.add_assoc, Nat.succ_ne_zero, h0]
      refine br_intro (fun ht => ?_) fun ht => hj2 _ ⟨rfl, ?_⟩
      · refine br_intro (fun h3 => ?_) fun h3 => hj2 _ ⟨rfl, by simpa using h3⟩
        have h3 : f.vlan ≠ 0 := by simpa using h3
        exact hj _ _ ⟨rfl, _, rfl, by rw [if_neg h3]⟩
      · unfold Frm.right at hr
        rw [ht] at hr
        simp at hr
        exact hr.2.1

theorem rout_spec {q nb : Nat} {Lv : Value} {t : VT} {v n : Int} {f : Frm} {bs : List Int} (hv : RRep w q nb Lv t) (hf : FrmR w f bs) (h : ∀ w', Fr none_ w w' → K (.tuple #[.agg (t.out v n f bs.length).1.cells.toArray, i64 (t.out v n f bs.length).2]) w') :
    CallsR Tryz.prog 98 #[pt q 0, i64 v, i64 n, .agg f.cells.toArray] K w := by
  apply c98
  unfold p98
  obtain ⟨a, c, hbd⟩ := hf.2.form
  have hone : f.cells.all S.oneCell = true := Frm.one _ hf.2.one
  have hone0 : zFrm.cells.all S.oneCell = true := rfl
  have hz : ∀ w : World, w.alloc (cellsO [Value.int IntKind.u8 0, Value.int IntKind.u8 0, Value.int IntKind.u8 0, Value.int IntKind.u8 0, Value.int IntKind.u8 0, Value.int IntKind.u8 0, Value.int IntKind.u8 0, Value.int IntKind.u8 0, Value.int IntKind.u8 0, Value.int IntKind.u8 0, Value.int IntKind.u8 0, Value.int IntKind.u8 0,
    Value.bool false, Value.int IntKind.i64 0, Value.int IntKind.i64 0, Value.int IntKind.i64 0, Value.slice none 0 0] 27) = w.alloc (cellsO zFrm.cells 27) := fun _ => rfl
  simp only [push_cast, Nat.reduceAdd, Nat.reduceLeDiff, Nat.reduceLT, Int.reduceToNat, Nat.left_eq_add, Nat.add_eq_left, Nat.add_left_cancel_iff, Nat.reduceEqDiff, Nat.add_assoc, Nat.succ_ne_zero, hz]
  have h0 : ((w.alloc (cellsO f.cells 27)).alloc (cellsO zFrm.cells 27)).heap[w.heap.size]? = some (cellsO f.cells 27) := by simp only [push_cast, Nat.reduceAdd, Nat.reduceLeDiff, Nat.reduceLT, Int.reduceToNat, Nat.left_eq_add, Nat.add_eq_left, Nat.add_left_cancel_iff, Nat.reduceEqDiff, Nat.add_assoc, Nat.succ_ne_zero]
  have h1 : ((w.alloc (cellsO f.cells 27)).alloc (cellsO zFrm.cells 27)).heap[w.heap.size + 1]? = some (cellsO zFrm.cells 27) := by simp only [push_cast, Nat.reduceAdd, Nat.reduceLeDiff, Nat.reduceLT, Int.reduceToNat, Nat.left_eq_add, Nat.add_eq_left, Nat.add_left_cancel_iff, Nat.reduceEqDiff, Nat.add_assoc, Nat.succ_ne_zero]
  have hF : Fr none_ w ((w.alloc (cellsO f.cells 27)).alloc (cellsO zFrm.cells 27)) := (by repeat' first | with_reducible exact Fr.refl _ _ | with_reducible refine Fr.step_alloc ?_ ?_ | with_reducible refine Fr.step_drew ?_ | with_reducible refine Fr.step_wr ?_ ?_ _ _ | exact rfl | exact Or.inr (by omega) | exact Or.inl rfl | exact Or.inl (Or.inl rfl) | exact Or.inl (Or.inr rfl))
  generalize (w.alloc (cellsO f.cells 27)).alloc (cellsO zFrm.cells 27) = W at *
  refine rright_spec hbd fun W2 hF2 => ?_
  replace hF := hF.trans hF2
  replace h0 := hF2.heap h0 (fun h => h)
  replace h1 := hF2.heap h1 (fun h => h)
  have hv2 := hv.fr0 hF
  refine rright_spec' hv2 ?_
  simp only [push_cast, Nat.reduceAdd, Nat.reduceLeDiff, Nat.reduceLT, Int.reduceToNat, Nat.left_eq_add, Nat.add_eq_left, Nat.add_left_cancel_iff, Nat.reduceEqDiff, Nat.add_assoc, Nat.succ_ne_zero, h0, h1, hone, hone0, build_zFrm]
  refine br_intro (fun hr => ?_) fun hr => ?_
  · rw [VT.out, if_neg (fun h => by rw [h.2] at hr; cases hr)] at h
    exact h _ (hF.step_wr (Or.inr (by omega)) _ _)
  have hr : f.right bs.length = true := by simpa using hr
  refine br_intro (fun hp => ?_) fun hp => ?_
  · have hp : ¬ t.right v n := by simpa using hp
    rw [VT.out, if_neg (fun h => hp h.1)] at h
    exact h _ (hF.step_wr (Or.inr (by omega)) _ _)
  have hp : t.right v n := by simpa using hp
  rw [VT.out, if_pos ⟨hp, hr⟩] at h
  refine rfind_spec hv2 (fun hg => ?_) fun k b hk hg => ?_
  · rw [hg] at h
    have b1 : decide ((-1 : Int) < 0) = true := rfl
    simp only [push_cast, Nat.reduceAdd, Nat.reduceLeDiff, Nat.reduceLT, Int.reduceToNat, Nat.left_eq_add, Nat.add_eq_left, Nat.add_left_cancel_iff, Nat.reduceEqDiff, Nat.add_assoc, Nat.succ_ne_zero, b1, h0, h1, hone, hone0, build_zFrm]
    exact h _ (hF.step_wr (Or.inr (by omega)) _ _)
  · rw [hg] at h
    have hk2 := (List.getElem?_eq_some_iff.1 hk).1
    have b1 : decide ((k : Int) < 0) = false := decide_eq_false (by omega)
    obtain ⟨a2, c2, hL⟩ := hv2.lst.rd.form
    rw [List.length_map] at hL
    have hlst := hv2.lst
    rw [hL] at hlst
    simp only [push_cast, Nat.reduceAdd, Nat.reduceLeDiff, Nat.reduceLT, Int.reduceToNat, Nat.left_eq_add, Nat.add_eq_left, Nat.add_left_cancel_iff, Nat.reduceEqDiff, Nat.add_assoc, Nat.succ_ne_zero, b1, hv2.blk, hL]
    refine s_iaE hlst.rd (by omega) (by simpa using hk2) fun b1 o1 c1 _ hE => ?_
    have he : (t.tab.map memC)[k]'(by simpa using hk2) = memC ((v, n), b) := by
      rw [List.getElem_map, (List.getElem?_eq_some_iff.1 hk).2]
    simp only [Int.toNat_natCast, he] at hE ⊢
    have hE2 := hE.cell 2 (show 2 < 3 by decide)
    have hg2 : (memC ((v, n), b))[2]? = some (.bool b) := rfl
    rw [hg2] at hE2
    rw [Nat.add_assoc] at hE2
    simp only [push_cast, Nat.reduceAdd, Nat.reduceLeDiff, Nat.reduceLT, Int.reduceToNat, Nat.left_eq_add, Nat.add_eq_left, Nat.add_left_cancel_iff, Nat.reduceEqDiff, Nat.add_assoc, Nat.succ_ne_zero, hE2, h0]
    cases b with
    | true =>
      simp only [push_cast, Nat.reduceAdd, Nat.reduceLeDiff, Nat.reduceLT, Int.reduceToNat, Nat.left_eq_add, Nat.add_eq_left, Nat.add_left_cancel_iff, Nat.reduceEqDiff, Nat.add_assoc, Nat.succ_ne_zero, h0, h1, hone, hone0, build_zFrm]
      refine rtag_spec (hf.fr0 hF) fun W3 hF3 => ?_
      replace h0 := hF3.heap h0 (fun h => h)
      replace h1 := hF3.heap h1 (fun h => h)
      replace hF := hF.trans hF3
      rw [if_pos (VT.tag_right hr hp.1 hp.2.1)]
      have hone2 : (f.tag v f.prio).cells.all S.oneCell = true := Frm.one _ hf.2.one
      have hlt := lt_of_heap h1
      have hne : w.heap.size + 1 ≠ W3.heap.size := by omega
      have hne2 : W3.heap.size ≠ w.heap.size + 1 := by omega
      have hz3 : ∀ w : World, w.alloc (cellsO [Value.int IntKind.u8 0, Value.int IntKind.u8 0, Value.int IntKind.u8 0, Value.int IntKind.u8 0, Value.int IntKind.u8 0, Value.int IntKind.u8 0, Value.int IntKind.u8 0, Value.int IntKind.u8 0, Value.int IntKind.u8 0, Value.int IntKind.u8 0, Value.int IntKind.u8 0, Value.int IntKind.u8 0,
        Value.bool false, Value.int IntKind.i64 0, Value.int IntKind.i64 0, Value.int IntKind.i64 0, Value.slice none 0 0] 27) = w.alloc (cellsO zFrm.cells 27) := fun _ => rfl
      simp only [push_cast, Nat.reduceAdd, Nat.reduceLeDiff, Nat.reduceLT, Int.reduceToNat, Nat.left_eq_add, Nat.add_eq_left, Nat.add_left_cancel_iff, Nat.reduceEqDiff, Nat.add_assoc, Nat.succ_ne_zero, h0, h1, hone2, hz3, hne, hne2]
      exact h _ (((hF.step_alloc rfl).step_wr (Or.inr (by omega)) _ _).step_wr (Or.inr (by omega)) _ _)
    | false =>
      simp only [push_cast, Nat.reduceAdd, Nat.reduceLeDiff, Nat.reduceLT, Int.reduceToNat, Nat.left_eq_add, Nat.add_eq_left, Nat.add_left_cancel_iff, Nat.reduceEqDiff, Nat.add_assoc, Nat.succ_ne_zero, h0, h1, hone, hone0, build_zFrm]
      refine runtag_spec (hf.fr0 hF) fun W3 hF3 => ?_
      replace h0 := hF3.heap h0 (fun h => h)
      replace h1 := hF3.heap h1 (fun h => h)
      replace hF := hF.trans hF3
      have hone2 : f.untag.cells.all S.oneCell = true := Frm.one _ hf.2.one
      simp only [push_cast, Nat.reduceAdd, Nat.reduceLeDiff, Nat.reduceLT, Int.reduceToNat, Nat.left_eq_add, Nat.add_eq_left, Nat.add_left_cancel_iff, Nat.reduceEqDiff, Nat.add_assoc, Nat.succ_ne_zero, h0, h1, hone2]
      exact h _ (hF.step_wr (Or.inr (by omega)) _ _)

theorem sameints_spec {a b : Value} {l r : List Int} (ha : RdE 1 w a (l.map cellI)) (hb : RdE 1 w b (r.map cellI)) (hn : l.length < 2 ^ 62) (h : ∀ w', Fr none_ w w' → K (.bool (decide (l = r))) w') : CallsR Tryz.prog 31 #[a, b] K w := by
  apply c31
  unfold p31
  obtain ⟨aa, ac, rfl⟩ := ha.form
  obtain ⟨ba, bc, rfl⟩ := hb.form
  rw [List.length_map] at ha hb ⊢
  rw [List.length_map]
  simp only [push_cast, Nat.reduceAdd, Nat.reduceLeDiff, Nat.reduceLT, Int.reduceToNat, Nat.left_eq_add, Nat.add_eq_left, Nat.add_left_cancel_iff, Nat.reduceEqDiff, Nat.add_assoc, Nat.succ_ne_zero]
  refine br_intro (fun hne => ?_) fun heq => ?_
  · have : l ≠ r := fun e => by subst e; simp at hne
    rw [decide_eq_false this] at h
    exact h _ (Fr.refl _ _)
  · have hl : l.length = r.length := by
      have : (l.length : Int) = r.length := by simpa using heq
      omega
    refine jn0 (fun w' => Fr none_ w w' ∧ l = r) (fun w' ⟨hF, e⟩ => ?_) fun j hj => ?_
    · rw [decide_eq_true e] at h
      exact h _ hF
    refine loop1 (fun m v w' => ∃ i : Nat, v = i64 i ∧ i + m = l.length ∧ Fr none_ w w' ∧ l.take i = r.take i) ?_ l.length ⟨0, rfl, by omega, Fr.refl _ _, rfl⟩
    rintro m v w' X ⟨i, rfl, hi, hF, htk⟩ hX
    simp only [push_cast, Nat.reduceAdd, Nat.reduceLeDiff, Nat.reduceLT, Int.reduceToNat, Nat.left_eq_add, Nat.add_eq_left, Nat.add_left_cancel_iff, Nat.reduceEqDiff, Nat.add_assoc, Nat.succ_ne_zero]
    refine br_dec (fun hlt => ?_) fun hge => hj _ ⟨hF, ?_⟩
    · have hi2 : i < l.length := by omega
      have ha' : RdE 1 w'.drew _ (l.map cellI) := ha.fr hF.step_drew (fun _ _ h => h)
      have hb' : RdE 1 w'.drew _ (r.map cellI) := hb.fr hF.step_drew (fun _ _ h => h)
      rw [← List.length_map (f := cellI)] at ha'
      rw [← List.length_map (f := cellI)] at hb'
      refine s_iaE (es := l.map cellI) (ha.fr hF.step_drew (fun _ _ h => h)) (by omega) (by simpa using hi2) fun b1 o1 c1 _ hE => ?_
      simp only [Int.toNat_natCast, List.getElem_map] at hE ⊢
      have hE0 := hE.cell0 (show 0 < 1 by decide)
      simp only [push_cast, Nat.reduceAdd, Nat.reduceLeDiff, Nat.reduceLT, Int.reduceToNat, Nat.left_eq_add, Nat.add_eq_left, Nat.add_left_cancel_iff, Nat.reduceEqDiff, Nat.add_assoc, Nat.succ_ne_zero, cellI] at hE0
      simp only [push_cast, Nat.reduceAdd, Nat.reduceLeDiff, Nat.reduceLT, Int.reduceToNat, Nat.left_eq_add, Nat.add_eq_left, Nat.add_left_cancel_iff, Nat.reduceEqDiff, Nat.add_assoc, Nat.succ_ne_zero, hE0]
      refine s_iaE (es := r.map cellI) (hb.fr hF.step_drew (fun _ _ h => h)) (by omega) (by simpa using hl ▸ hi2) fun b2 o2 c2 _ hE2 => ?_
      simp only [Int.toNat_natCast, List.getElem_map] at hE2 ⊢
      have hE3 := hE2.cell0 (show 0 < 1 by decide)
      simp only [push_cast, Nat.reduceAdd, Nat.reduceLeDiff, Nat.reduceLT, Int.reduceToNat, Nat.left_eq_add, Nat.add_eq_left, Nat.add_left_cancel_iff, Nat.reduceEqDiff, Nat.add_assoc, Nat.succ_ne_zero, cellI] at hE3
      simp only [push_cast, Nat.reduceAdd, Nat.reduceLeDiff, Nat.reduceLT, Int.reduceToNat, Nat.left_eq_add, Nat.add_eq_left, Nat.add_left_cancel_iff, Nat.reduceEqDiff, Nat.add_assoc, Nat.succ_ne_zero, hE3]
      have hw : IntKind.i64.wrap ((i : Int) + 1) = ((i + 1 : Nat) : Int) := by rw [wrap_i64 (by omega)]; omega
      refine br_intro (fun hd => ?_) fun hd => ?_
      · have : l ≠ r := fun e => by subst e; simp at hd
        rw [decide_eq_false this] at h
        exact h _ hF.step_drew
      · have he : l[i] = r[i] := by simpa using hd
        simp only [push_cast, Nat.reduceAdd, Nat.reduceLeDiff, Nat.reduceLT, Int.reduceToNat, Nat.left_eq_add, Nat.add_eq_left, Nat.add_left_cancel_iff, Nat.reduceEqDiff, Nat.add_assoc, Nat.succ_ne_zero, hw]
        refine hX (m - 1) _ _ (by omega) ⟨i + 1, rfl, by omega, hF.step_drew, ?_⟩
        rw [List.take_add_one, List.take_add_one, htk, List.getElem?_eq_getElem hi2, List.getElem?_eq_getElem (hl ▸ hi2), he]
    · rw [List.take_of_length_le (by omega), List.take_of_length_le (by omega)] at htk
      exact htk


end Go.Gx.S.Vl
end

section
/- What the functions of this program ask. -/
set_option linter.unusedVariables false
set_option maxRecDepth 100000
namespace Go.Gx.S
open Go Go.Gx Go.Proofs
-- gemel/gemelref01.Group
def p16 (P : Program) (K : Value → World → Prop) (x0 : Value) : World → Prop :=
  opS P (S.box 24 x0) fun x1 =>
  opS P (S.ia 24 x1 (.int .i64 0)) fun x2 =>
  opS P (S.ld 5 x2) fun x3 =>
  opS P (S.binI .rem x3 (.int .u8 2)) fun x4 =>
  opS P (S.binI .eql x4 (.int .u8 1)) fun x5 =>
  K x5
instance fnb16 : FnB Tryz.prog 16 := ⟨Tryz.call16⟩
theorem e16 : p16 Tryz.prog = fun K x0 => denF Tryz.prog Tryz.f16 [x0] K := by kernel_rfl
theorem c16 {K : Value → World → Prop} {x0 : Value} {w : World} (h : p16 Tryz.prog K x0 w) : CallsR Tryz.prog 16 #[x0] K w := by
  rw [e16] at h
  exact denF_sound mixed Tryz.func16 h

-- gemel/gemelref08.New
def p52 (P : Program) (K : Value → World → Prop) (x0 : Value) : World → Prop :=
  opS P (S.binI .lss x0 (.int .i64 1)) fun x1 =>
  brn x1 (
    K (.tuple #[(.pointer none), (.int .i64 1)])
  ) (
    opS P (S.binI .gtr x0 (.int .i64 1024)) fun x2 =>
    brn x2 (
      K (.tuple #[(.pointer none), (.int .i64 1)])
    ) (
      opS P (S.build 118 [(0, x0)]) fun x3 =>
      opS P (S.box 118 x3) fun x4 =>
      K (.tuple #[x4, (.int .i64 0)])
    )
  )
instance fnb52 : FnB Tryz.prog 52 := ⟨Tryz.call52⟩
theorem e52 : p52 Tryz.prog = fun K x0 => denF Tryz.prog Tryz.f52 [x0] K := by kernel_rfl
theorem c52 {K : Value → World → Prop} {x0 : Value} {w : World} (h : p52 Tryz.prog K x0 w) : CallsR Tryz.prog 52 #[x0] K w := by
  rw [e52] at h
  exact denF_sound mixed Tryz.func52 h

-- (*gemel/gemelref08.Table).Age
def p63 (P : Program) (K : Value → World → Prop) (x0 : Value) (x1 : Value) (x2 : Value) : World → Prop :=
  opS P (S.binI .lss x1 (.int .i64 0)) fun x3 =>
  brn x3 (
    K (.slice none 0 0)
  ) (
    opS P (S.binI .gtr x1 (.int .i64 1099511627776)) fun x4 =>
    brn x4 (
      K (.slice none 0 0)
    ) (
      opS P (S.binI .lss x2 (.int .i64 0)) fun x5 =>
      brn x5 (
        K (.slice none 0 0)
      ) (
        opS P (S.binI .gtr x2 (.int .i64 1099511627776)) fun x6 =>
        brn x6 (
          K (.slice none 0 0)
        ) (
          opS P (S.cl 92 [x0, (.int .i64 0), x1, x2]) fun x7 =>
          K x7
        )
      )
    )
  )
instance fnb63 : FnB Tryz.prog 63 := ⟨Tryz.call63⟩
theorem e63 : p63 Tryz.prog = fun K x0 x1 x2 => denF Tryz.prog Tryz.f63 [x0, x1, x2] K := by kernel_rfl
theorem c63 {K : Value → World → Prop} {x0 x1 x2 : Value} {w : World} (h : p63 Tryz.prog K x0 x1 x2 w) : CallsR Tryz.prog 63 #[x0, x1, x2] K w := by
  rw [e63] at h
  exact denF_sound mixed Tryz.func63 h

-- (*gemel/fdb.Table).Put
def p64 (P : Program) (K : Value → World → Prop) (x0 : Value) (x1 : Value) (x2 : Value) (x3 : Value) : World → Prop :=
  opS P (S.box 24 x2) fun x4 =>
  opS P (S.ld 24 x4) fun x5 =>
  opS P (S.cl 93 [x1, x5, x3]) fun x6 =>
  opS P (S.un .not x6) fun x7 =>
  brn x7 (
    K (.int .i64 1)
  ) (
    opS P (S.ld 24 x4) fun x8 =>
    opS P (S.cl 37 [x0, x1, x8]) fun x9 =>
    opS P (S.ext x9 0) fun x10 =>
    opS P (S.ext x9 1) fun x11 =>
    jnJ 0 (
      jnJ 0 (
        drw <|
        opS P (S.nc x0) fun x12 =>
        opS P (S.fa 87 x12 0) fun x13 =>
        opS P (S.ld 51 x13) fun x14 =>
        opS P (S.ld 24 x4) fun x15 =>
        opS P (S.build 40 [(0, x1), (1, x15), (2, x3), (4, (.bool true))]) fun x16 =>
        opS P (S.ia 51 x14 x10) fun x17 =>
        opS P (S.st 40 x17 x16) fun x18 =>
        K (.int .i64 0)
      ) fun j0 =>
      opS P (S.un .not x11) fun x12 =>
      brn x12 (
        opS P (S.nc x0) fun x13 =>
        opS P (S.fa 87 x13 1) fun x14 =>
        opS P (S.ld 3 x14) fun x15 =>
        opS P (S.binI .add x15 (.int .i64 1)) fun x16 =>
        opS P (S.nc x0) fun x17 =>
        opS P (S.fa 87 x17 1) fun x18 =>
        opS P (S.st 3 x18 x16) fun x19 =>
        j0
      ) (
        j0
      )
    ) fun j0 =>
    opS P (S.un .not x11) fun x12 =>
    brn x12 (
      opS P (S.cl 94 [x0]) fun x13 =>
      brn x13 (
        K (.int .i64 3)
      ) (
        j0
      )
    ) (
      j0
    )
  )
instance fnb64 : FnB Tryz.prog 64 := ⟨Tryz.call64⟩
theorem e64 : p64 Tryz.prog = fun K x0 x1 x2 x3 => denF Tryz.prog Tryz.f64 [x0, x1, x2, x3] K := by kernel_rfl
theorem c64 {K : Value → World → Prop} {x0 x1 x2 x3 : Value} {w : World} (h : p64 Tryz.prog K x0 x1 x2 x3 w) : CallsR Tryz.prog 64 #[x0, x1, x2, x3] K w := by
  rw [e64] at h
  exact denF_sound mixed Tryz.func64 h

-- (*gemel/gemelref08.Table).Put
def p65 (P : Program) (K : Value → World → Prop) (x0 : Value) (x1 : Value) (x2 : Value) (x3 : Value) : World → Prop :=
  opS P (S.box 24 x2) fun x4 =>
  opS P (S.ld 24 x4) fun x5 =>
  opS P (S.cl 95 [x1, x5, x3]) fun x6 =>
  opS P (S.un .not x6) fun x7 =>
  brn x7 (
    K (.int .i64 1)
  ) (
    opS P (S.ld 24 x4) fun x8 =>
    opS P (S.build 40 [(0, x1), (1, x8), (2, x3), (4, (.bool true))]) fun x9 =>
    opS P (S.alloc 40) fun x10 =>
    opS P (S.st 40 x10 x9) fun x11 =>
    opS P (S.ld 24 x4) fun x12 =>
    opS P (S.cl 96 [x0, x1, x12]) fun x13 =>
    opS P (S.binI .geq x13 (.int .i64 0)) fun x14 =>
    brn x14 (
      drw <|
      opS P (S.nc x0) fun x15 =>
      opS P (S.fa 118 x15 1) fun x16 =>
      opS P (S.ld 51 x16) fun x17 =>
      opS P (S.ld 40 x10) fun x18 =>
      opS P (S.ia 51 x17 x13) fun x19 =>
      opS P (S.st 40 x19 x18) fun x20 =>
      K (.int .i64 0)
    ) (
      drw <|
      opS P (S.nc x0) fun x15 =>
      opS P (S.fa 118 x15 1) fun x16 =>
      opS P (S.ld 51 x16) fun x17 =>
      opS P (S.len x17) fun x18 =>
      opS P (S.nc x0) fun x19 =>
      opS P (S.fa 118 x19 0) fun x20 =>
      opS P (S.ld 3 x20) fun x21 =>
      opS P (S.binI .geq x18 x21) fun x22 =>
      brn x22 (
        K (.int .i64 3)
      ) (
        opS P (S.ld 40 x10) fun x23 =>
        opS P (S.cl 97 [x0, x23]) fun x24 =>
        K (.int .i64 0)
      )
    )
  )
instance fnb65 : FnB Tryz.prog 65 := ⟨Tryz.call65⟩
theorem e65 : p65 Tryz.prog = fun K x0 x1 x2 x3 => denF Tryz.prog Tryz.f65 [x0, x1, x2, x3] K := by kernel_rfl
theorem c65 {K : Value → World → Prop} {x0 x1 x2 x3 : Value} {w : World} (h : p65 Tryz.prog K x0 x1 x2 x3 w) : CallsR Tryz.prog 65 #[x0, x1, x2, x3] K w := by
  rw [e65] at h
  exact denF_sound mixed Tryz.func65 h

-- (*gemel/gemelref08.Table).forget
def p92 (P : Program) (K : Value → World → Prop) (x0 : Value) (x1 : Value) (x2 : Value) (x3 : Value) : World → Prop :=
  jnJ 2 (fun x4 x5 =>
    opS P (S.nc x0) fun x6 =>
    opS P (S.fa 118 x6 1) fun x7 =>
    opS P (S.st 51 x7 x4) fun x8 =>
    K x5
  ) fun j0 =>
  loopJ 3 (fun j1 x4 x5 x6 =>
    opS P (S.nc x0) fun x7 =>
    opS P (S.fa 118 x7 1) fun x8 =>
    opS P (S.ld 51 x8) fun x9 =>
    opS P (S.len x9) fun x10 =>
    opS P (S.binI .lss x6 x10) fun x11 =>
    brn x11 (
      opS P (S.nc x0) fun x12 =>
      opS P (S.fa 118 x12 1) fun x13 =>
      opS P (S.ld 51 x13) fun x14 =>
      opS P (S.ia 51 x14 x6) fun x15 =>
      opS P (S.ld 40 x15) fun x16 =>
      opS P (S.alloc 40) fun x17 =>
      opS P (S.st 40 x17 x16) fun x18 =>
      jnJ 1 (fun x19 =>
        jnJ 0 (
          opS P (S.ld 40 x17) fun x20 =>
          opS P (S.buildS 51 1 [(0, x20)]) fun x21 =>
          opS P (S.bi .append #[51, 51] 51 [x4, x21]) fun x22 =>
          opS P (S.binI .add x6 (.int .i64 1)) fun x23 =>
          j1 x22 x5 x23
        ) fun j2 =>
        brn x19 (
          opS P (S.fa 40 x17 4) fun x20 =>
          opS P (S.ld 4 x20) fun x21 =>
          opS P (S.un .not x21) fun x22 =>
          brn x22 (
            opS P (S.ld 40 x17) fun x23 =>
            opS P (S.buildS 51 1 [(0, x23)]) fun x24 =>
            opS P (S.bi .append #[51, 51] 51 [x5, x24]) fun x25 =>
            opS P (S.binI .add x6 (.int .i64 1)) fun x26 =>
            j1 x4 x25 x26
          ) (
            j2
          )
        ) (
          j2
        )
      ) fun j2 =>
      opS P (S.binI .eql x1 (.int .i64 0)) fun x19 =>
      brn x19 (
        opS P (S.fa 40 x17 3) fun x20 =>
        opS P (S.ld 3 x20) fun x21 =>
        opS P (S.binI .sub x2 x3) fun x22 =>
        opS P (S.binI .leq x21 x22) fun x23 =>
        j2 x23
      ) (
        jnJ 1 (fun x20 =>
          j2 x20
        ) fun j3 =>
        opS P (S.binI .eql x1 (.int .i64 1)) fun x20 =>
        brn x20 (
          opS P (S.fa 40 x17 2) fun x21 =>
          opS P (S.ld 3 x21) fun x22 =>
          opS P (S.binI .eql x22 x2) fun x23 =>
          j3 x23
        ) (
          jnJ 1 (fun x21 =>
            j3 x21
          ) fun j4 =>
          opS P (S.binI .eql x1 (.int .i64 2)) fun x21 =>
          brn x21 (
            opS P (S.fa 40 x17 0) fun x22 =>
            opS P (S.ld 3 x22) fun x23 =>
            opS P (S.binI .eql x23 x2) fun x24 =>
            j4 x24
          ) (
            j4 (.bool false)
          )
        )
      )
    ) (
      j0 x4 x5
    )
  ) (.slice none 0 0) (.slice none 0 0) (.int .i64 0)
instance fnb92 : FnB Tryz.prog 92 := ⟨Tryz.call92⟩
theorem e92 : p92 Tryz.prog = fun K x0 x1 x2 x3 => denF Tryz.prog Tryz.f92 [x0, x1, x2, x3] K := by kernel_rfl
theorem c92 {K : Value → World → Prop} {x0 x1 x2 x3 : Value} {w : World} (h : p92 Tryz.prog K x0 x1 x2 x3 w) : CallsR Tryz.prog 92 #[x0, x1, x2, x3] K w := by
  rw [e92] at h
  exact denF_sound mixed Tryz.func92 h

-- gemel/gemelref08.right
def p95 (P : Program) (K : Value → World → Prop) (x0 : Value) (x1 : Value) (x2 : Value) : World → Prop :=
  opS P (S.box 24 x1) fun x3 =>
  opS P (S.binI .geq x0 (.int .i64 1)) fun x4 =>
  brn x4 (
    opS P (S.binI .leq x0 (.int .i64 4094)) fun x5 =>
    brn x5 (
      opS P (S.binI .geq x2 (.int .i64 0)) fun x6 =>
      brn x6 (
        opS P (S.binI .leq x2 (.int .i64 1000)) fun x7 =>
        brn x7 (
          opS P (S.ld 24 x3) fun x8 =>
          opS P (S.cl 16 [x8]) fun x9 =>
          opS P (S.un .not x9) fun x10 =>
          K x10
        ) (
          K (.bool false)
        )
      ) (
        K (.bool false)
      )
    ) (
      K (.bool false)
    )
  ) (
    K (.bool false)
  )
instance fnb95 : FnB Tryz.prog 95 := ⟨Tryz.call95⟩
theorem e95 : p95 Tryz.prog = fun K x0 x1 x2 => denF Tryz.prog Tryz.f95 [x0, x1, x2] K := by kernel_rfl
theorem c95 {K : Value → World → Prop} {x0 x1 x2 : Value} {w : World} (h : p95 Tryz.prog K x0 x1 x2 w) : CallsR Tryz.prog 95 #[x0, x1, x2] K w := by
  rw [e95] at h
  exact denF_sound mixed Tryz.func95 h

-- (*gemel/gemelref08.Table).Find
def p96 (P : Program) (K : Value → World → Prop) (x0 : Value) (x1 : Value) (x2 : Value) : World → Prop :=
  opS P (S.box 24 x2) fun x3 =>
  jnJ 0 (
    K (.int .i64 (-1))
  ) fun j0 =>
  loopJ 1 (fun j1 x4 =>
    opS P (S.nc x0) fun x5 =>
    opS P (S.fa 118 x5 1) fun x6 =>
    opS P (S.ld 51 x6) fun x7 =>
    opS P (S.len x7) fun x8 =>
    opS P (S.binI .lss x4 x8) fun x9 =>
    brn x9 (
      drw <|
      opS P (S.nc x0) fun x10 =>
      opS P (S.fa 118 x10 1) fun x11 =>
      opS P (S.ld 51 x11) fun x12 =>
      opS P (S.ia 51 x12 x4) fun x13 =>
      opS P (S.fa 40 x13 0) fun x14 =>
      opS P (S.ld 3 x14) fun x15 =>
      opS P (S.binI .eql x15 x1) fun x16 =>
      brn x16 (
        opS P (S.nc x0) fun x17 =>
        opS P (S.fa 118 x17 1) fun x18 =>
        opS P (S.ld 51 x18) fun x19 =>
        opS P (S.ia 51 x19 x4) fun x20 =>
        opS P (S.fa 40 x20 1) fun x21 =>
        opS P (S.ld 24 x21) fun x22 =>
        opS P (S.ld 24 x3) fun x23 =>
        opS P (S.binG .eql 24 x22 x23) fun x24 =>
        brn x24 (
          K x4
        ) (
          opS P (S.binI .add x4 (.int .i64 1)) fun x25 =>
          j1 x25
        )
      ) (
        opS P (S.binI .add x4 (.int .i64 1)) fun x17 =>
        j1 x17
      )
    ) (
      j0
    )
  ) (.int .i64 0)
instance fnb96 : FnB Tryz.prog 96 := ⟨Tryz.call96⟩
theorem e96 : p96 Tryz.prog = fun K x0 x1 x2 => denF Tryz.prog Tryz.f96 [x0, x1, x2] K := by kernel_rfl
theorem c96 {K : Value → World → Prop} {x0 x1 x2 : Value} {w : World} (h : p96 Tryz.prog K x0 x1 x2 w) : CallsR Tryz.prog 96 #[x0, x1, x2] K w := by
  rw [e96] at h
  exact denF_sound mixed Tryz.func96 h

-- (*gemel/gemelref08.Table).put
def p97 (P : Program) (K : Value → World → Prop) (x0 : Value) (x1 : Value) : World → Prop :=
  opS P (S.box 40 x1) fun x2 =>
  jnJ 1 (fun x3 =>
    opS P (S.buildS 51 0 []) fun x4 =>
    opS P (S.nc x0) fun x5 =>
    opS P (S.fa 118 x5 1) fun x6 =>
    opS P (S.ld 51 x6) fun x7 =>
    opS P (S.slc 51 x7 none (some x3) none) fun x8 =>
    opS P (S.bi .append #[51, 51] 51 [x4, x8]) fun x9 =>
    opS P (S.ld 40 x2) fun x10 =>
    opS P (S.buildS 51 1 [(0, x10)]) fun x11 =>
    opS P (S.bi .append #[51, 51] 51 [x9, x11]) fun x12 =>
    opS P (S.nc x0) fun x13 =>
    opS P (S.fa 118 x13 1) fun x14 =>
    opS P (S.ld 51 x14) fun x15 =>
    opS P (S.slc 51 x15 (some x3) none none) fun x16 =>
    opS P (S.bi .append #[51, 51] 51 [x12, x16]) fun x17 =>
    opS P (S.nc x0) fun x18 =>
    opS P (S.fa 118 x18 1) fun x19 =>
    opS P (S.st 51 x19 x17) fun x20 =>
    K (.tuple #[])
  ) fun j0 =>
  loopJ 1 (fun j1 x3 =>
    drw <|
    opS P (S.nc x0) fun x4 =>
    opS P (S.fa 118 x4 1) fun x5 =>
    opS P (S.ld 51 x5) fun x6 =>
    opS P (S.len x6) fun x7 =>
    opS P (S.binI .lss x3 x7) fun x8 =>
    brn x8 (
      opS P (S.nc x0) fun x9 =>
      opS P (S.fa 118 x9 1) fun x10 =>
      opS P (S.ld 51 x10) fun x11 =>
      opS P (S.ia 51 x11 x3) fun x12 =>
      opS P (S.fa 40 x12 0) fun x13 =>
      opS P (S.ld 3 x13) fun x14 =>
      opS P (S.fa 40 x2 0) fun x15 =>
      opS P (S.ld 3 x15) fun x16 =>
      opS P (S.binI .lss x14 x16) fun x17 =>
      brn x17 (
        opS P (S.binI .add x3 (.int .i64 1)) fun x18 =>
        j1 x18
      ) (
        opS P (S.nc x0) fun x18 =>
        opS P (S.fa 118 x18 1) fun x19 =>
        opS P (S.ld 51 x19) fun x20 =>
        opS P (S.ia 51 x20 x3) fun x21 =>
        opS P (S.fa 40 x21 0) fun x22 =>
        opS P (S.ld 3 x22) fun x23 =>
        opS P (S.fa 40 x2 0) fun x24 =>
        opS P (S.ld 3 x24) fun x25 =>
        opS P (S.binI .eql x23 x25) fun x26 =>
        brn x26 (
          opS P (S.nc x0) fun x27 =>
          opS P (S.fa 118 x27 1) fun x28 =>
          opS P (S.ld 51 x28) fun x29 =>
          opS P (S.ia 51 x29 x3) fun x30 =>
          opS P (S.fa 40 x30 1) fun x31 =>
          opS P (S.ld 24 x31) fun x32 =>
          opS P (S.fa 40 x2 1) fun x33 =>
          opS P (S.ld 24 x33) fun x34 =>
          opS P (S.cl 120 [x32, x34]) fun x35 =>
          opS P (S.binI .lss x35 (.int .i64 0)) fun x36 =>
          brn x36 (
            opS P (S.binI .add x3 (.int .i64 1)) fun x37 =>
            j1 x37
          ) (
            j0 x3
          )
        ) (
          j0 x3
        )
      )
    ) (
      j0 x3
    )
  ) (.int .i64 0)
instance fnb97 : FnB Tryz.prog 97 := ⟨Tryz.call97⟩
theorem e97 : p97 Tryz.prog = fun K x0 x1 => denF Tryz.prog Tryz.f97 [x0, x1] K := by kernel_rfl
theorem c97 {K : Value → World → Prop} {x0 x1 : Value} {w : World} (h : p97 Tryz.prog K x0 x1 w) : CallsR Tryz.prog 97 #[x0, x1] K w := by
  rw [e97] at h
  exact denF_sound mixed Tryz.func97 h

-- (*gemel/gemelref08.Table).Look
def p117 (P : Program) (K : Value → World → Prop) (x0 : Value) (x1 : Value) (x2 : Value) : World → Prop :=
  opS P (S.box 24 x2) fun x3 =>
  opS P (S.alloc 40) fun x4 =>
  opS P (S.ld 24 x3) fun x5 =>
  opS P (S.cl 96 [x0, x1, x5]) fun x6 =>
  opS P (S.binI .lss x6 (.int .i64 0)) fun x7 =>
  brn x7 (
    opS P (S.build 40 []) fun x8 =>
    opS P (S.st 40 x4 x8) fun x9 =>
    opS P (S.ld 40 x4) fun x10 =>
    K (.tuple #[x10, (.bool false)])
  ) (
    opS P (S.nc x0) fun x8 =>
    opS P (S.fa 118 x8 1) fun x9 =>
    opS P (S.ld 51 x9) fun x10 =>
    opS P (S.ia 51 x10 x6) fun x11 =>
    opS P (S.ld 40 x11) fun x12 =>
    opS P (S.st 40 x4 x12) fun x13 =>
    opS P (S.ld 40 x4) fun x14 =>
    K (.tuple #[x14, (.bool true)])
  )
instance fnb117 : FnB Tryz.prog 117 := ⟨Tryz.call117⟩
theorem e117 : p117 Tryz.prog = fun K x0 x1 x2 => denF Tryz.prog Tryz.f117 [x0, x1, x2] K := by kernel_rfl
theorem c117 {K : Value → World → Prop} {x0 x1 x2 : Value} {w : World} (h : p117 Tryz.prog K x0 x1 x2 w) : CallsR Tryz.prog 117 #[x0, x1, x2] K w := by
  rw [e117] at h
  exact denF_sound mixed Tryz.func117 h

-- gemel/gemelref01.Compare
def p120 (P : Program) (K : Value → World → Prop) (x0 : Value) (x1 : Value) : World → Prop :=
  opS P (S.box 24 x0) fun x2 =>
  opS P (S.box 24 x1) fun x3 =>
  opS P (S.ld 24 x2) fun x4 =>
  opS P (S.cl 128 [x4]) fun x5 =>
  opS P (S.ld 24 x3) fun x6 =>
  opS P (S.cl 128 [x6]) fun x7 =>
  opS P (S.binI .lss x5 x7) fun x8 =>
  brn x8 (
    K (.int .i64 (-1))
  ) (
    opS P (S.binI .gtr x5 x7) fun x9 =>
    brn x9 (
      K (.int .i64 1)
    ) (
      K (.int .i64 0)
    )
  )
instance fnb120 : FnB Tryz.prog 120 := ⟨Tryz.call120⟩
theorem e120 : p120 Tryz.prog = fun K x0 x1 => denF Tryz.prog Tryz.f120 [x0, x1] K := by kernel_rfl
theorem c120 {K : Value → World → Prop} {x0 x1 : Value} {w : World} (h : p120 Tryz.prog K x0 x1 w) : CallsR Tryz.prog 120 #[x0, x1] K w := by
  rw [e120] at h
  exact denF_sound mixed Tryz.func120 h

-- gemel/gemelref01.Number
def p128 (P : Program) (K : Value → World → Prop) (x0 : Value) : World → Prop :=
  opS P (S.box 24 x0) fun x1 =>
  jnJ 1 (fun x2 =>
    K x2
  ) fun j0 =>
  loopJ 2 (fun j1 x2 x3 =>
    opS P (S.binI .lss x3 (.int .i64 6)) fun x4 =>
    brn x4 (
      opS P (S.binI .mul x2 (.int .u64 256)) fun x5 =>
      opS P (S.ia 24 x1 x3) fun x6 =>
      opS P (S.ld 5 x6) fun x7 =>
      opS P (S.convI .u64 x7) fun x8 =>
      opS P (S.binI .add x5 x8) fun x9 =>
      opS P (S.binI .add x3 (.int .i64 1)) fun x10 =>
      j1 x9 x10
    ) (
      j0 x2
    )
  ) (.int .u64 0) (.int .i64 0)
instance fnb128 : FnB Tryz.prog 128 := ⟨Tryz.call128⟩
theorem e128 : p128 Tryz.prog = fun K x0 => denF Tryz.prog Tryz.f128 [x0] K := by kernel_rfl
theorem c128 {K : Value → World → Prop} {x0 : Value} {w : World} (h : p128 Tryz.prog K x0 w) : CallsR Tryz.prog 128 #[x0] K w := by
  rw [e128] at h
  exact denF_sound mixed Tryz.func128 h

-- (*gemel/gemelref08.Table).Learn
def p129 (P : Program) (K : Value → World → Prop) (x0 : Value) (x1 : Value) (x2 : Value) (x3 : Value) (x4 : Value) : World → Prop :=
  opS P (S.box 24 x2) fun x5 =>
  opS P (S.ld 24 x5) fun x6 =>
  opS P (S.cl 95 [x1, x6, x3]) fun x7 =>
  opS P (S.un .not x7) fun x8 =>
  brn x8 (
    K (.tuple #[(.int .i64 0), (.int .i64 1)])
  ) (
    opS P (S.binI .lss x4 (.int .i64 0)) fun x9 =>
    brn x9 (
      K (.tuple #[(.int .i64 0), (.int .i64 1)])
    ) (
      opS P (S.binI .gtr x4 (.int .i64 1099511627776)) fun x10 =>
      brn x10 (
        K (.tuple #[(.int .i64 0), (.int .i64 1)])
      ) (
        opS P (S.ld 24 x5) fun x11 =>
        opS P (S.cl 96 [x0, x1, x11]) fun x12 =>
        opS P (S.binI .geq x12 (.int .i64 0)) fun x13 =>
        brn x13 (
          opS P (S.nc x0) fun x14 =>
          opS P (S.fa 118 x14 1) fun x15 =>
          opS P (S.ld 51 x15) fun x16 =>
          opS P (S.ia 51 x16 x12) fun x17 =>
          opS P (S.fa 40 x17 4) fun x18 =>
          opS P (S.ld 4 x18) fun x19 =>
          brn x19 (
            K (.tuple #[(.int .i64 0), (.int .i64 0)])
          ) (
            opS P (S.nc x0) fun x20 =>
            opS P (S.fa 118 x20 1) fun x21 =>
            opS P (S.ld 51 x21) fun x22 =>
            opS P (S.ia 51 x22 x12) fun x23 =>
            opS P (S.fa 40 x23 2) fun x24 =>
            opS P (S.ld 3 x24) fun x25 =>
            opS P (S.nc x0) fun x26 =>
            opS P (S.fa 118 x26 1) fun x27 =>
            opS P (S.ld 51 x27) fun x28 =>
            opS P (S.ia 51 x28 x12) fun x29 =>
            opS P (S.fa 40 x29 2) fun x30 =>
            opS P (S.st 3 x30 x3) fun x31 =>
            opS P (S.nc x0) fun x32 =>
            opS P (S.fa 118 x32 1) fun x33 =>
            opS P (S.ld 51 x33) fun x34 =>
            opS P (S.ia 51 x34 x12) fun x35 =>
            opS P (S.fa 40 x35 3) fun x36 =>
            opS P (S.st 3 x36 x4) fun x37 =>
            opS P (S.binI .eql x25 x3) fun x38 =>
            brn x38 (
              K (.tuple #[(.int .i64 0), (.int .i64 0)])
            ) (
              K (.tuple #[(.int .i64 2), (.int .i64 0)])
            )
          )
        ) (
          drw <|
          opS P (S.nc x0) fun x14 =>
          opS P (S.fa 118 x14 1) fun x15 =>
          opS P (S.ld 51 x15) fun x16 =>
          opS P (S.len x16) fun x17 =>
          opS P (S.nc x0) fun x18 =>
          opS P (S.fa 118 x18 0) fun x19 =>
          opS P (S.ld 3 x19) fun x20 =>
          opS P (S.binI .geq x17 x20) fun x21 =>
          brn x21 (
            K (.tuple #[(.int .i64 0), (.int .i64 3)])
          ) (
            opS P (S.ld 24 x5) fun x22 =>
            opS P (S.build 40 [(0, x1), (1, x22), (2, x3), (3, x4)]) fun x23 =>
            opS P (S.cl 97 [x0, x23]) fun x24 =>
            K (.tuple #[(.int .i64 1), (.int .i64 0)])
          )
        )
      )
    )
  )
instance fnb129 : FnB Tryz.prog 129 := ⟨Tryz.call129⟩
theorem e129 : p129 Tryz.prog = fun K x0 x1 x2 x3 x4 => denF Tryz.prog Tryz.f129 [x0, x1, x2, x3, x4] K := by kernel_rfl
theorem c129 {K : Value → World → Prop} {x0 x1 x2 x3 x4 : Value} {w : World} (h : p129 Tryz.prog K x0 x1 x2 x3 x4 w) : CallsR Tryz.prog 129 #[x0, x1, x2, x3, x4] K w := by
  rw [e129] at h
  exact denF_sound mixed Tryz.func129 h

end Go.Gx.S
-- 52 96 97 129 65 117 92 63 64 16 95 120 128
end

section
/- What the functions of this program ask. -/
set_option linter.unusedVariables false
set_option maxRecDepth 100000
namespace Go.Gx.S
open Go Go.Gx Go.Proofs
-- (*gemel/fdb.Table).All
def p19 (P : Program) (K : Value → World → Prop) (x0 : Value) : World → Prop :=
  opS P (S.nc x0) fun x1 =>
  opS P (S.fa 87 x1 0) fun x2 =>
  opS P (S.ld 51 x2) fun x3 =>
  opS P (S.cl 43 [x3]) fun x4 =>
  opS P (S.cl 42 [x4, (.func (.func 41) #[] #[])]) fun x5 =>
  opS P (S.cl 44 [x5, (.func (.func 45) #[] #[])]) fun x6 =>
  K x5
instance fnb19 : FnB Tryz.prog 19 := ⟨Tryz.call19⟩
theorem e19 : p19 Tryz.prog = fun K x0 => denF Tryz.prog Tryz.f19 [x0] K := by kernel_rfl
theorem c19 {K : Value → World → Prop} {x0 : Value} {w : World} (h : p19 Tryz.prog K x0 w) : CallsR Tryz.prog 19 #[x0] K w := by
  rw [e19] at h
  exact denF_sound mixed Tryz.func19 h

-- gemel/gemelref08.Same
def p20 (P : Program) (K : Value → World → Prop) (x0 : Value) (x1 : Value) : World → Prop :=
  opS P (S.len x0) fun x2 =>
  opS P (S.len x1) fun x3 =>
  opS P (S.binI .neq x2 x3) fun x4 =>
  brn x4 (
    K (.bool false)
  ) (
    jnJ 0 (
      K (.bool true)
    ) fun j0 =>
    loopJ 1 (fun j1 x5 =>
      opS P (S.len x0) fun x6 =>
      opS P (S.binI .lss x5 x6) fun x7 =>
      brn x7 (
        drw <|
        opS P (S.ia 51 x0 x5) fun x8 =>
        opS P (S.ld 40 x8) fun x9 =>
        opS P (S.ia 51 x1 x5) fun x10 =>
        opS P (S.ld 40 x10) fun x11 =>
        opS P (S.binG .neq 40 x9 x11) fun x12 =>
        brn x12 (
          K (.bool false)
        ) (
          opS P (S.binI .add x5 (.int .i64 1)) fun x13 =>
          j1 x13
        )
      ) (
        j0
      )
    ) (.int .i64 0)
  )
instance fnb20 : FnB Tryz.prog 20 := ⟨Tryz.call20⟩
theorem e20 : p20 Tryz.prog = fun K x0 x1 => denF Tryz.prog Tryz.f20 [x0, x1] K := by kernel_rfl
theorem c20 {K : Value → World → Prop} {x0 x1 : Value} {w : World} (h : p20 Tryz.prog K x0 x1 w) : CallsR Tryz.prog 20 #[x0, x1] K w := by
  rw [e20] at h
  exact denF_sound mixed Tryz.func20 h

-- (*gemel/fdb.Table).All$1
def p41 (P : Program) (K : Value → World → Prop) (x0 : Value) : World → Prop :=
  opS P (S.box 40 x0) fun x1 =>
  opS P (S.ld 40 x1) fun x2 =>
  opS P (S.build 40 []) fun x3 =>
  opS P (S.binG .eql 40 x2 x3) fun x4 =>
  K x4
instance fnb41 : FnB Tryz.prog 41 := ⟨Tryz.call41⟩
theorem e41 : p41 Tryz.prog = fun K x0 => denF Tryz.prog Tryz.f41 [x0] K := by kernel_rfl
theorem c41 {K : Value → World → Prop} {x0 : Value} {w : World} (h : p41 Tryz.prog K x0 w) : CallsR Tryz.prog 41 #[x0] K w := by
  rw [e41] at h
  exact denF_sound mixed Tryz.func41 h

-- slices.DeleteFunc[[]gemel/api.Entry,gemel/api.Entry]
def p42 (P : Program) (K : Value → World → Prop) (x0 : Value) (x1 : Value) : World → Prop :=
  opS P (S.cl 78 [x0, x1]) fun x2 =>
  opS P (S.binI .eql x2 (.int .i64 (-1))) fun x3 =>
  brn x3 (
    K x0
  ) (
    opS P (S.binI .add x2 (.int .i64 1)) fun x4 =>
    jnJ 1 (fun x5 =>
      opS P (S.slc 51 x0 (some x5) none none) fun x6 =>
      opS P (S.bi .clear #[51] 0 [x6]) fun x7 =>
      opS P (S.slc 51 x0 none (some x5) none) fun x8 =>
      K x8
    ) fun j0 =>
    loopJ 2 (fun j1 x5 x6 =>
      opS P (S.len x0) fun x7 =>
      opS P (S.binI .lss x6 x7) fun x8 =>
      brn x8 (
        opS P (S.ia 51 x0 x6) fun x9 =>
        opS P (S.ld 40 x9) fun x10 =>
        opS P (S.alloc 40) fun x11 =>
        opS P (S.st 40 x11 x10) fun x12 =>
        opS P (S.ld 40 x11) fun x13 =>
        opS P (S.call x1 [x13]) fun x14 =>
        opS P (S.un .not x14) fun x15 =>
        brn x15 (
          opS P (S.ld 40 x11) fun x16 =>
          opS P (S.ia 51 x0 x5) fun x17 =>
          opS P (S.st 40 x17 x16) fun x18 =>
          opS P (S.binI .add x5 (.int .i64 1)) fun x19 =>
          opS P (S.binI .add x6 (.int .i64 1)) fun x20 =>
          j1 x19 x20
        ) (
          opS P (S.binI .add x6 (.int .i64 1)) fun x16 =>
          j1 x5 x16
        )
      ) (
        j0 x5
      )
    ) x2 x4
  )
instance fnb42 : FnB Tryz.prog 42 := ⟨Tryz.call42⟩
theorem e42 : p42 Tryz.prog = fun K x0 x1 => denF Tryz.prog Tryz.f42 [x0, x1] K := by kernel_rfl
theorem c42 {K : Value → World → Prop} {x0 x1 : Value} {w : World} (h : p42 Tryz.prog K x0 x1 w) : CallsR Tryz.prog 42 #[x0, x1] K w := by
  rw [e42] at h
  exact denF_sound mixed Tryz.func42 h

-- slices.Clone[[]gemel/api.Entry,gemel/api.Entry]
def p43 (P : Program) (K : Value → World → Prop) (x0 : Value) : World → Prop :=
  opS P (S.binN .eql (S.isNilS x0)) fun x1 =>
  brn x1 (
    K (.slice none 0 0)
  ) (
    opS P (S.buildS 51 0 []) fun x2 =>
    opS P (S.bi .append #[51, 51] 51 [x2, x0]) fun x3 =>
    K x3
  )
instance fnb43 : FnB Tryz.prog 43 := ⟨Tryz.call43⟩
theorem e43 : p43 Tryz.prog = fun K x0 => denF Tryz.prog Tryz.f43 [x0] K := by kernel_rfl
theorem c43 {K : Value → World → Prop} {x0 : Value} {w : World} (h : p43 Tryz.prog K x0 w) : CallsR Tryz.prog 43 #[x0] K w := by
  rw [e43] at h
  exact denF_sound mixed Tryz.func43 h

-- (*gemel/fdb.Table).All$2
def p45 (P : Program) (K : Value → World → Prop) (x0 : Value) (x1 : Value) : World → Prop :=
  opS P (S.box 40 x0) fun x2 =>
  opS P (S.box 40 x1) fun x3 =>
  drw <|
  opS P (S.fa 40 x2 0) fun x4 =>
  opS P (S.ld 3 x4) fun x5 =>
  opS P (S.fa 40 x3 0) fun x6 =>
  opS P (S.ld 3 x6) fun x7 =>
  opS P (S.fa 40 x2 1) fun x8 =>
  opS P (S.fa 40 x3 1) fun x9 =>
  allW (
    opS P (S.cl 47 [x5, x7]) fun x10 =>
    opS P (S.ld 24 x8) fun x11 =>
    opS P (S.ld 24 x9) fun x12 =>
    opS P (S.cl 48 [x11, x12]) fun x13 =>
    opS P (S.buildS 70 2 [(0, x10), (1, x13)]) fun x14 =>
    opS P (S.cl 46 [x14]) fun x15 =>
    K x15
  ) (
    allW (
      opS P (S.ld 24 x8) fun x10 =>
      allW (
        opS P (S.cl 47 [x5, x7]) fun x11 =>
        opS P (S.ld 24 x9) fun x12 =>
        opS P (S.cl 48 [x10, x12]) fun x13 =>
        opS P (S.buildS 70 2 [(0, x11), (1, x13)]) fun x14 =>
        opS P (S.cl 46 [x14]) fun x15 =>
        K x15
      ) (
        opS P (S.ld 24 x9) fun x11 =>
        opS P (S.cl 47 [x5, x7]) fun x12 =>
        opS P (S.cl 48 [x10, x11]) fun x13 =>
        opS P (S.buildS 70 2 [(0, x12), (1, x13)]) fun x14 =>
        opS P (S.cl 46 [x14]) fun x15 =>
        K x15
      )
    ) (
      opS P (S.ld 24 x9) fun x10 =>
      allW (
        opS P (S.cl 47 [x5, x7]) fun x11 =>
        opS P (S.ld 24 x8) fun x12 =>
        opS P (S.cl 48 [x12, x10]) fun x13 =>
        opS P (S.buildS 70 2 [(0, x11), (1, x13)]) fun x14 =>
        opS P (S.cl 46 [x14]) fun x15 =>
        K x15
      ) (
        opS P (S.ld 24 x8) fun x11 =>
        opS P (S.cl 47 [x5, x7]) fun x12 =>
        opS P (S.cl 48 [x11, x10]) fun x13 =>
        opS P (S.buildS 70 2 [(0, x12), (1, x13)]) fun x14 =>
        opS P (S.cl 46 [x14]) fun x15 =>
        K x15
      )
    )
  )
instance fnb45 : FnB Tryz.prog 45 := ⟨Tryz.call45⟩
theorem e45 : p45 Tryz.prog = fun K x0 x1 => denF Tryz.prog Tryz.f45 [x0, x1] K := by kernel_rfl
theorem c45 {K : Value → World → Prop} {x0 x1 : Value} {w : World} (h : p45 Tryz.prog K x0 x1 w) : CallsR Tryz.prog 45 #[x0, x1] K w := by
  rw [e45] at h
  exact denF_sound mixed Tryz.func45 h

-- cmp.Or[int]
def p46 (P : Program) (K : Value → World → Prop) (x0 : Value) : World → Prop :=
  opS P (S.len x0) fun x1 =>
  jnJ 0 (
    K (.int .i64 0)
  ) fun j0 =>
  loopJ 1 (fun j1 x2 =>
    opS P (S.binI .lss x2 x1) fun x3 =>
    brn x3 (
      opS P (S.ia 70 x0 x2) fun x4 =>
      opS P (S.ld 3 x4) fun x5 =>
      opS P (S.binI .neq x5 (.int .i64 0)) fun x6 =>
      brn x6 (
        K x5
      ) (
        opS P (S.binI .add x2 (.int .i64 1)) fun x7 =>
        j1 x7
      )
    ) (
      j0
    )
  ) (.int .i64 0)
instance fnb46 : FnB Tryz.prog 46 := ⟨Tryz.call46⟩
theorem e46 : p46 Tryz.prog = fun K x0 => denF Tryz.prog Tryz.f46 [x0] K := by kernel_rfl
theorem c46 {K : Value → World → Prop} {x0 : Value} {w : World} (h : p46 Tryz.prog K x0 w) : CallsR Tryz.prog 46 #[x0] K w := by
  rw [e46] at h
  exact denF_sound mixed Tryz.func46 h

-- cmp.Compare[int]
def p47 (P : Program) (K : Value → World → Prop) (x0 : Value) (x1 : Value) : World → Prop :=
  opS P (S.cl 81 [x0]) fun x2 =>
  opS P (S.cl 81 [x1]) fun x3 =>
  brn x2 (
    brn x3 (
      K (.int .i64 0)
    ) (
      K (.int .i64 (-1))
    )
  ) (
    brn x3 (
      K (.int .i64 1)
    ) (
      opS P (S.binI .lss x0 x1) fun x4 =>
      brn x4 (
        K (.int .i64 (-1))
      ) (
        opS P (S.binI .gtr x0 x1) fun x5 =>
        brn x5 (
          K (.int .i64 1)
        ) (
          K (.int .i64 0)
        )
      )
    )
  )
instance fnb47 : FnB Tryz.prog 47 := ⟨Tryz.call47⟩
theorem e47 : p47 Tryz.prog = fun K x0 x1 => denF Tryz.prog Tryz.f47 [x0, x1] K := by kernel_rfl
theorem c47 {K : Value → World → Prop} {x0 x1 : Value} {w : World} (h : p47 Tryz.prog K x0 x1 w) : CallsR Tryz.prog 47 #[x0, x1] K w := by
  rw [e47] at h
  exact denF_sound mixed Tryz.func47 h

-- gemel/mac.Compare
def p48 (P : Program) (K : Value → World → Prop) (x0 : Value) (x1 : Value) : World → Prop :=
  opS P (S.box 24 x0) fun x2 =>
  opS P (S.box 24 x1) fun x3 =>
  drw <|
  opS P (S.slc 24 x2 none none none) fun x4 =>
  opS P (S.slc 24 x3 none none none) fun x5 =>
  opS P (S.cl 82 [x4, x5]) fun x6 =>
  K x6
instance fnb48 : FnB Tryz.prog 48 := ⟨Tryz.call48⟩
theorem e48 : p48 Tryz.prog = fun K x0 x1 => denF Tryz.prog Tryz.f48 [x0, x1] K := by kernel_rfl
theorem c48 {K : Value → World → Prop} {x0 x1 : Value} {w : World} (h : p48 Tryz.prog K x0 x1 w) : CallsR Tryz.prog 48 #[x0, x1] K w := by
  rw [e48] at h
  exact denF_sound mixed Tryz.func48 h

-- (*gemel/fdb.Table).Age
def p62 (P : Program) (K : Value → World → Prop) (x0 : Value) (x1 : Value) (x2 : Value) : World → Prop :=
  opS P (S.box 3 x1) fun x3 =>
  opS P (S.box 3 x2) fun x4 =>
  opS P (S.ld 3 x3) fun x5 =>
  opS P (S.cl 89 [x5]) fun x6 =>
  opS P (S.un .not x6) fun x7 =>
  brn x7 (
    K (.slice none 0 0)
  ) (
    opS P (S.ld 3 x4) fun x8 =>
    opS P (S.cl 89 [x8]) fun x9 =>
    opS P (S.un .not x9) fun x10 =>
    brn x10 (
      K (.slice none 0 0)
    ) (
      opS P (S.mkf (.func 91) [] [x3, x4]) fun x11 =>
      opS P (S.cl 90 [x0, x11]) fun x12 =>
      K x12
    )
  )
instance fnb62 : FnB Tryz.prog 62 := ⟨Tryz.call62⟩
theorem e62 : p62 Tryz.prog = fun K x0 x1 x2 => denF Tryz.prog Tryz.f62 [x0, x1, x2] K := by kernel_rfl
theorem c62 {K : Value → World → Prop} {x0 x1 x2 : Value} {w : World} (h : p62 Tryz.prog K x0 x1 x2 w) : CallsR Tryz.prog 62 #[x0, x1, x2] K w := by
  rw [e62] at h
  exact denF_sound mixed Tryz.func62 h

-- slices.IndexFunc[[]gemel/api.Entry,gemel/api.Entry]
def p78 (P : Program) (K : Value → World → Prop) (x0 : Value) (x1 : Value) : World → Prop :=
  opS P (S.len x0) fun x2 =>
  jnJ 0 (
    K (.int .i64 (-1))
  ) fun j0 =>
  loopJ 1 (fun j1 x3 =>
    opS P (S.binI .lss x3 x2) fun x4 =>
    brn x4 (
      opS P (S.ia 51 x0 x3) fun x5 =>
      opS P (S.ld 40 x5) fun x6 =>
      opS P (S.call x1 [x6]) fun x7 =>
      brn x7 (
        K x3
      ) (
        opS P (S.binI .add x3 (.int .i64 1)) fun x8 =>
        j1 x8
      )
    ) (
      j0
    )
  ) (.int .i64 0)
instance fnb78 : FnB Tryz.prog 78 := ⟨Tryz.call78⟩
theorem e78 : p78 Tryz.prog = fun K x0 x1 => denF Tryz.prog Tryz.f78 [x0, x1] K := by kernel_rfl
theorem c78 {K : Value → World → Prop} {x0 x1 : Value} {w : World} (h : p78 Tryz.prog K x0 x1 w) : CallsR Tryz.prog 78 #[x0, x1] K w := by
  rw [e78] at h
  exact denF_sound mixed Tryz.func78 h

-- cmp.isNaN[int]
def p81 (P : Program) (K : Value → World → Prop) (x0 : Value) : World → Prop :=
  opS P (S.binI .neq x0 x0) fun x1 =>
  K x1
instance fnb81 : FnB Tryz.prog 81 := ⟨Tryz.call81⟩
theorem e81 : p81 Tryz.prog = fun K x0 => denF Tryz.prog Tryz.f81 [x0] K := by kernel_rfl
theorem c81 {K : Value → World → Prop} {x0 : Value} {w : World} (h : p81 Tryz.prog K x0 w) : CallsR Tryz.prog 81 #[x0] K w := by
  rw [e81] at h
  exact denF_sound mixed Tryz.func81 h

-- bytes.Compare
def p82 (P : Program) (K : Value → World → Prop) (x0 : Value) (x1 : Value) : World → Prop :=
  opS P (S.cl 112 [x0, x1]) fun x2 =>
  K x2
instance fnb82 : FnB Tryz.prog 82 := ⟨Tryz.call82⟩
theorem e82 : p82 Tryz.prog = fun K x0 x1 => denF Tryz.prog Tryz.f82 [x0, x1] K := by kernel_rfl
theorem c82 {K : Value → World → Prop} {x0 x1 : Value} {w : World} (h : p82 Tryz.prog K x0 x1 w) : CallsR Tryz.prog 82 #[x0, x1] K w := by
  rw [e82] at h
  exact denF_sound mixed Tryz.func82 h

-- (*gemel/fdb.Table).forget
def p90 (P : Program) (K : Value → World → Prop) (x0 : Value) (x1 : Value) : World → Prop :=
  opS P (S.box 93 x1) fun x2 =>
  opS P (S.cl 19 [x0]) fun x3 =>
  opS P (S.mkf (.func 118) [] [x2]) fun x4 =>
  opS P (S.cl 42 [x3, x4]) fun x5 =>
  opS P (S.len x5) fun x6 =>
  jnJ 0 (
    K x5
  ) fun j0 =>
  loopJ 1 (fun j1 x7 =>
    opS P (S.binI .lss x7 x6) fun x8 =>
    brn x8 (
      opS P (S.ia 51 x5 x7) fun x9 =>
      opS P (S.ld 40 x9) fun x10 =>
      opS P (S.alloc 40) fun x11 =>
      opS P (S.st 40 x11 x10) fun x12 =>
      opS P (S.fa 40 x11 0) fun x13 =>
      opS P (S.ld 3 x13) fun x14 =>
      opS P (S.fa 40 x11 1) fun x15 =>
      opS P (S.ld 24 x15) fun x16 =>
      opS P (S.cl 119 [x0, x14, x16]) fun x17 =>
      opS P (S.binI .add x7 (.int .i64 1)) fun x18 =>
      j1 x18
    ) (
      j0
    )
  ) (.int .i64 0)
instance fnb90 : FnB Tryz.prog 90 := ⟨Tryz.call90⟩
theorem e90 : p90 Tryz.prog = fun K x0 x1 => denF Tryz.prog Tryz.f90 [x0, x1] K := by kernel_rfl
theorem c90 {K : Value → World → Prop} {x0 x1 : Value} {w : World} (h : p90 Tryz.prog K x0 x1 w) : CallsR Tryz.prog 90 #[x0, x1] K w := by
  rw [e90] at h
  exact denF_sound mixed Tryz.func90 h

-- (*gemel/fdb.Table).Age$1
def p91 (P : Program) (K : Value → World → Prop) (x0 : Value) (x1 : Value) (x2 : Value) : World → Prop :=
  opS P (S.box 40 x0) fun x3 =>
  opS P (S.ld 3 x1) fun x4 =>
  opS P (S.fa 40 x3 3) fun x5 =>
  opS P (S.ld 3 x5) fun x6 =>
  opS P (S.binI .sub x4 x6) fun x7 =>
  opS P (S.ld 3 x2) fun x8 =>
  opS P (S.binI .geq x7 x8) fun x9 =>
  K x9
instance fnb91 : FnB Tryz.prog 91 := ⟨Tryz.call91⟩
theorem e91 : p91 Tryz.prog = fun K x0 x1 x2 => denF Tryz.prog Tryz.f91 [x0, x1, x2] K := by kernel_rfl
theorem c91 {K : Value → World → Prop} {x0 x1 x2 : Value} {w : World} (h : p91 Tryz.prog K x0 x1 x2 w) : CallsR Tryz.prog 91 #[x0, x1, x2] K w := by
  rw [e91] at h
  exact denF_sound mixed Tryz.func91 h

-- (*gemel/fdb.Table).forget$1
def p118 (P : Program) (K : Value → World → Prop) (x0 : Value) (x1 : Value) : World → Prop :=
  opS P (S.box 40 x0) fun x2 =>
  opS P (S.fa 40 x2 4) fun x3 =>
  opS P (S.ld 4 x3) fun x4 =>
  brn x4 (
    K (.bool true)
  ) (
    opS P (S.ld 93 x1) fun x5 =>
    opS P (S.ld 40 x2) fun x6 =>
    opS P (S.call x5 [x6]) fun x7 =>
    opS P (S.un .not x7) fun x8 =>
    K x8
  )
instance fnb118 : FnB Tryz.prog 118 := ⟨Tryz.call118⟩
theorem e118 : p118 Tryz.prog = fun K x0 x1 => denF Tryz.prog Tryz.f118 [x0, x1] K := by kernel_rfl
theorem c118 {K : Value → World → Prop} {x0 x1 : Value} {w : World} (h : p118 Tryz.prog K x0 x1 w) : CallsR Tryz.prog 118 #[x0, x1] K w := by
  rw [e118] at h
  exact denF_sound mixed Tryz.func118 h

end Go.Gx.S
-- 47 81 46 48 82 45 19 41 42 43 78 90 118 62 91 20
end

section
/- Lists that rise. -/
namespace Go.Gx
open Go

theorem eq_of_rising {α : Type} {r : α → α → Prop} (hirr : ∀ a, ¬ r a a) (has : ∀ a b, r a b → ¬ r b a) : ∀ {l k : List α}, l.Pairwise r → k.Pairwise r → (∀ x, x ∈ l ↔ x ∈ k) → l = k
  | [], [], _, _, _ => rfl
  | [], b :: k, _, _, h => absurd ((h b).2 (List.mem_cons_self ..)) (by simp)
  | a :: l, [], _, _, h => absurd ((h a).1 (List.mem_cons_self ..)) (by simp)
  | a :: l, b :: k, h1, h2, h => by
    rw [List.pairwise_cons] at h1 h2
    have hab : a = b := by
      rcases List.mem_cons.1 ((h a).1 (List.mem_cons_self ..)) with e | e
      · exact e
      · rcases List.mem_cons.1 ((h b).2 (List.mem_cons_self ..)) with e2 | e2
        · exact e2.symm
        · exact absurd (h1.1 b e2) (has _ _ (h2.1 a e))
    subst hab
    congr 1
    refine eq_of_rising hirr has h1.2 h2.2 fun x => ⟨fun hx => ?_, fun hx => ?_⟩
    · rcases List.mem_cons.1 ((h x).1 (List.mem_cons_of_mem _ hx)) with e | e
      · subst e; exact absurd (h1.1 x hx) (hirr x)
      · exact e
    · rcases List.mem_cons.1 ((h x).2 (List.mem_cons_of_mem _ hx)) with e | e
      · subst e; exact absurd (h2.1 x hx) (hirr x)
      · exact e

theorem sorted_get {d : List Int} (h : d.Pairwise (· ≤ ·)) {i j : Nat} (hij : i ≤ j) (hj : j < d.length) : d.toArray[i]! ≤ d.toArray[j]! := by
  have hi : i < d.length := by omega
  have e1 : d.toArray[i]! = d[i] := by simp [hi]
  have e2 : d.toArray[j]! = d[j] := by simp [hj]
  rw [e1, e2]
  rcases Nat.eq_or_lt_of_le hij with e | e
  · subst e; exact Int.le_refl _
  · exact List.pairwise_iff_getElem.1 h i j hi hj e

theorem compact_rise {d : List Int} (h : d.Pairwise (· ≤ ·)) : (Lib.compact d).Pairwise (· < ·) := by
  unfold Lib.compact Lib.compactUpTo
  rw [List.pairwise_map]
  have h1 : ((List.range d.length).filter (Lib.keeps d.toArray)).Pairwise (· < ·) := List.pairwise_lt_range.filter _
  refine List.Pairwise.imp_of_mem ?_ h1
  intro a b ha hb hab
  rw [List.mem_filter, List.mem_range] at ha hb
  have hk := hb.2
  simp only [Lib.keeps, decide_eq_true_eq] at hk
  have hne := hk.resolve_left (by omega)
  have g1 := sorted_get h (show a ≤ b - 1 by omega) (by omega)
  have g2 := sorted_get h (show b - 1 ≤ b by omega) hb.1
  omega

theorem compact_mem {d : List Int} {x : Int} : x ∈ Lib.compact d ↔ x ∈ d := by
  unfold Lib.compact Lib.compactUpTo
  rw [List.mem_map]
  constructor
  · rintro ⟨i, hi, rfl⟩
    rw [List.mem_filter, List.mem_range] at hi
    have : d.toArray[i]! = d[i]'hi.1 := by simp [hi.1]
    rw [this]
    exact List.getElem_mem _
  · intro hx
    obtain ⟨i, hi, rfl⟩ := List.getElem_of_mem hx
    have key : ∀ n (hn : n < d.length), ∃ j, j ∈ (List.range d.length).filter (Lib.keeps d.toArray) ∧ d.toArray[j]! = d[n] := by
      intro n
      induction n with
      | zero =>
        intro hn
        refine ⟨0, ?_, by simp [hn]⟩
        rw [List.mem_filter, List.mem_range]
        exact ⟨hn, by simp [Lib.keeps]⟩
      | succ n ih =>
        intro hn
        have e1 : d.toArray[n + 1]! = d[n + 1] := by simp [hn]
        have e0 : d.toArray[n]! = d[n] := by simp [Nat.lt_of_succ_lt hn]
        by_cases e : d[n + 1] = d[n]
        · obtain ⟨j, hj, hje⟩ := ih (by omega)
          exact ⟨j, hj, by rw [hje, e]⟩
        · refine ⟨n + 1, ?_, e1⟩
          rw [List.mem_filter, List.mem_range]
          refine ⟨hn, ?_⟩
          simp only [Lib.keeps, decide_eq_true_eq, Nat.add_sub_cancel]
          right
          rw [e1, e0]
          exact e
    exact key i hi

theorem sorted_ints (d : List Int) : (d.mergeSort fun x y => decide (x ≤ y)).Pairwise (· ≤ ·) := by
  have := List.pairwise_mergeSort (le := fun x y : Int => decide (x ≤ y)) (by intro a b c h1 h2; simp at *; omega) (by intro a b; simp; omega) d
  exact this.imp fun h => by simpa using h

/-- sorted, and each kept once -/
theorem uniq_eq {d k : List Int} (hk : k.Pairwise (· < ·)) (h : ∀ x, x ∈ d ↔ x ∈ k) : Lib.compact (d.mergeSort fun x y => decide (x ≤ y)) = k := by
  refine eq_of_rising (r := (· < ·)) (fun a => by omega) (fun a b h => by omega) (compact_rise (sorted_ints d)) hk fun x => ?_
  rw [compact_mem, List.mem_mergeSort]
  exact h x

end Go.Gx
end

section
/- Bytes that are compared; entries in order; what changes make of them. -/
namespace Go.Gx
open Go
variable {P : Program} {K : Value → World → Prop} {w : World}

/-! ### A function without a body -/

theorem run_extern {f : FuncId} {fn : Func} {e : Array Value → Sem Value} (hf : P.funcs[f]? = some fn) (hn : (fn.name == "runtime.NumGoroutine") = false) (hb : fn.body.isNone = true) (h1 : Extern.findNext fn = none) (h2 : Extern.find fn = some e) (args : Array Value) :
    (callFunc f args).run P w = (do pure (Next.value (← e args)) : Sem Next).run P w := by
  unfold callFunc
  have hp : (program).run P w = .ok P w := rfl
  rw [Sem.run_bind, hp, Result.andThen_ok]
  simp only [hf, hn, hb, h1, h2, Bool.false_eq_true, if_false, if_true]
  rw [Sem.run_bind]
  have hm : (mark (.extern f)).run P w = .ok () w := rfl
  rw [hm, Result.andThen_ok]

theorem s_extern {f : FuncId} {fn : Func} {e : Array Value → Sem Value} (hf : P.funcs[f]? = some fn) (hn : (fn.name == "runtime.NumGoroutine") = false) (hb : fn.body.isNone = true) (h1 : Extern.findNext fn = none) (h2 : Extern.find fn = some e) {args : List Value} {v : Value}
    (hr : (e args.toArray).run P w = .ok v w) (h : K v w) : opS P (S.cl f args) K w := by
  have hx : (S.cl f args).run P w = .ok (.value v) w := by
    have : (S.cl f args).run P w = (callFunc f (#[] ++ args.toArray ++ #[])).run P w := rfl
    rw [this]
    have e2 : (#[] ++ args.toArray ++ #[] : Array Value) = args.toArray := by simp
    rw [e2, run_extern hf hn hb h1 h2, Sem.run_bind, hr]
    rfl
  rw [opS_value hx]
  exact h

theorem run_loadBytes {b : Nat} {c : Array Value} {T : TypeId} {fz : Nat × Nat} (h : w.heap[b]? = some (.cells c T fz)) : ∀ (bs : List Int) (o : Nat) (pre : List Int), o + bs.length ≤ c.size → (c.toList.drop o).take bs.length = bs.map u8 →
    (Extern.Bytes.loadBytes ⟨b, o, none⟩ bs.length (strOf pre)).run P w = .ok (strOf (pre ++ bs)) w
  | [], o, pre, _, _ => by simp [Extern.Bytes.loadBytes]
  | x :: bs, o, pre, hle, he => by
    simp only [List.length_cons] at hle he ⊢
    have hlt : o < c.size := by omega
    have hcl : c.toList.length = c.size := Array.length_toList
    rw [List.drop_eq_getElem_cons (by omega), List.take_succ_cons, List.map_cons, List.cons.injEq] at he
    have hc : w.cell? ⟨b, o, none⟩ = some (u8 x) := by
      rw [cell_rd, rd, h]
      show c[o]? = _
      rw [Array.getElem?_eq_getElem hlt, ← he.1]
      simp
    unfold Extern.Bytes.loadBytes
    rw [Sem.run_bind, run_load, hc]
    simp only [Result.andThen_ok]
    have e1 : (strOf pre).push x.toNat.toUInt8 = strOf (pre ++ [x]) := by simp [strOf, ByteArray.push]
    rw [add_none, e1, run_loadBytes h bs (o + 1) (pre ++ [x]) (by omega) he.2, List.append_assoc]
    rfl

theorem run_bytesOf {v : Value} {bs : List Int} (h : ByR w v bs) : (Extern.Bytes.bytesOf v).run P w = .ok (strOf bs) w := by
  have h1 := h.1.1
  rw [flat_cell1, List.length_map] at h1
  rcases h1 with ⟨⟨a, c, rfl⟩, h2, _⟩ | ⟨b, o, c, cs, T, fz, rfl, hb, hc, ho, hl⟩
  · obtain rfl := List.eq_nil_of_length_eq_zero h2
    cases a <;> rfl
  · have := run_loadBytes (P := P) hb bs o [] (by omega) (by rw [hl, Nat.mul_one])
    exact this

/-! ### Addresses as numbers -/

def macN (m : Mac) : Int := ((((m.b0 * 256 + m.b1) * 256 + m.b2) * 256 + m.b3) * 256 + m.b4) * 256 + m.b5
def macL (m : Mac) : List Int := [m.b0, m.b1, m.b2, m.b3, m.b4, m.b5]
def cmpI (a b : Int) : Int := if a < b then -1 else if b < a then 1 else 0
def cmpM (a b : Mac) : Int := cmpI (macN a) (macN b)

theorem macL_ok {m : Mac} (h : m.ok) : ∀ x ∈ macL m, isB x := by
  obtain ⟨h0, h1, h2, h3, h4, h5⟩ := h
  intro x hx
  simp only [macL, List.mem_cons, List.not_mem_nil, or_false] at hx
  rcases hx with rfl | rfl | rfl | rfl | rfl | rfl <;> assumption

theorem macN_inj {a b : Mac} (ha : a.ok) (hb : b.ok) (h : macN a = macN b) : a = b := by
  obtain ⟨a0, a1, a2, a3, a4, a5⟩ := ha
  obtain ⟨b0, b1, b2, b3, b4, b5⟩ := hb
  unfold macN at h
  unfold isB at *
  apply Mac.ext <;> omega
theorem macN_range {a : Mac} (ha : a.ok) : 0 ≤ macN a ∧ macN a < 281474976710656 := by
  obtain ⟨a0, a1, a2, a3, a4, a5⟩ := ha
  unfold macN
  unfold isB at *
  omega

theorem strOf_size (l : List Int) : (strOf l).size = l.length := by simp [strOf, ByteArray.size]
theorem strOf_get (l : List Int) (i : Nat) (h : i < l.length) : (strOf l)[i]! = UInt8.ofNat (l[i]).toNat := by
  have h2 : i < (strOf l).size := by rw [strOf_size]; exact h
  rw [getElem!_pos _ i h2]
  show (strOf l).data[i] = _
  simp [strOf]

theorem byte_lt {a b : Int} (ha : isB a) (hb : isB b) : UInt8.ofNat a.toNat < UInt8.ofNat b.toNat ↔ a < b := by
  rw [UInt8.lt_iff_toNat_lt]
  simp only [UInt8.toNat_ofNat']
  unfold isB at ha hb
  omega
theorem byte_eq {a b : Int} (ha : isB a) (hb : isB b) : UInt8.ofNat a.toNat = UInt8.ofNat b.toNat ↔ a = b := ⟨byte_inj ha hb, fun h => by rw [h]⟩

theorem cmp_mac {a b : Mac} (ha : a.ok) (hb : b.ok) : Extern.BytealgCompare.cmp (strOf (macL a)) (strOf (macL b)) = cmpM a b := by
  unfold Extern.BytealgCompare.cmp
  have sa : (strOf (macL a)).size = 6 := by rw [strOf_size]; rfl
  have sb : (strOf (macL b)).size = 6 := by rw [strOf_size]; rfl
  rw [sa, sb]
  have gA : ∀ i (h : i < 6), (strOf (macL a))[i]! = UInt8.ofNat ((macL a)[i]'h).toNat := fun i h => strOf_get (macL a) i h
  have gB : ∀ i (h : i < 6), (strOf (macL b))[i]! = UInt8.ofNat ((macL b)[i]'h).toNat := fun i h => strOf_get (macL b) i h
  clear sa sb
  generalize strOf (macL a) = A at *
  generalize strOf (macL b) = B at *
  obtain ⟨a0, a1, a2, a3, a4, a5⟩ := ha
  obtain ⟨b0, b1, b2, b3, b4, b5⟩ := hb
  have hr : List.range (min 6 6) = [0, 1, 2, 3, 4, 5] := rfl
  rw [hr]
  have A0 : A[0]! = UInt8.ofNat a.b0.toNat := gA 0 (by decide)
  have A1 : A[1]! = UInt8.ofNat a.b1.toNat := gA 1 (by decide)
  have A2 : A[2]! = UInt8.ofNat a.b2.toNat := gA 2 (by decide)
  have A3 : A[3]! = UInt8.ofNat a.b3.toNat := gA 3 (by decide)
  have A4 : A[4]! = UInt8.ofNat a.b4.toNat := gA 4 (by decide)
  have A5 : A[5]! = UInt8.ofNat a.b5.toNat := gA 5 (by decide)
  have B0 : B[0]! = UInt8.ofNat b.b0.toNat := gB 0 (by decide)
  have B1 : B[1]! = UInt8.ofNat b.b1.toNat := gB 1 (by decide)
  have B2 : B[2]! = UInt8.ofNat b.b2.toNat := gB 2 (by decide)
  have B3 : B[3]! = UInt8.ofNat b.b3.toNat := gB 3 (by decide)
  have B4 : B[4]! = UInt8.ofNat b.b4.toNat := gB 4 (by decide)
  have B5 : B[5]! = UInt8.ofNat b.b5.toNat := gB 5 (by decide)
  clear gA gB
  simp only [List.find?_cons, List.find?_nil, A0, A1, A2, A3, A4, A5, B0, B1, B2, B3, B4, B5]
  have hne : ∀ x y : Int, isB x → isB y → (UInt8.ofNat x.toNat != UInt8.ofNat y.toNat) = decide (x ≠ y) := by
    intro x y hx hy
    rw [Bool.eq_iff_iff, bne_iff_ne, decide_eq_true_iff, ne_eq, byte_eq hx hy]
  rw [hne _ _ a0 b0, hne _ _ a1 b1, hne _ _ a2 b2, hne _ _ a3 b3, hne _ _ a4 b4, hne _ _ a5 b5]
  unfold cmpM cmpI macN
  have fin : ∀ (x y : Int) (X Y : UInt8), isB x → isB y → X = UInt8.ofNat x.toNat → Y = UInt8.ofNat y.toNat → (if X < Y then (-1 : Int) else 1) = if x < y then -1 else 1 := by
    intro x y X Y hx hy e1 e2
    rw [e1, e2]
    by_cases hxy : x < y
    · rw [if_pos ((byte_lt hx hy).2 hxy), if_pos hxy]
    · rw [if_neg (fun h => hxy ((byte_lt hx hy).1 h)), if_neg hxy]
  by_cases h0 : a.b0 = b.b0
  case neg =>
    simp only [h0, ne_eq, not_false_eq_true, decide_true]
    rw [fin a.b0 b.b0 _ _ a0 b0 A0 B0]
    unfold isB at *
    split <;> split <;> (try split) <;> omega
  by_cases h1 : a.b1 = b.b1
  case neg =>
    simp only [h0, h1, ne_eq, not_true_eq_false, not_false_eq_true, decide_true, decide_false]
    rw [fin a.b1 b.b1 _ _ a1 b1 A1 B1]
    unfold isB at *
    split <;> split <;> (try split) <;> omega
  by_cases h2 : a.b2 = b.b2
  case neg =>
    simp only [h0, h1, h2, ne_eq, not_true_eq_false, not_false_eq_true, decide_true, decide_false]
    rw [fin a.b2 b.b2 _ _ a2 b2 A2 B2]
    unfold isB at *
    split <;> split <;> (try split) <;> omega
  by_cases h3 : a.b3 = b.b3
  case neg =>
    simp only [h0, h1, h2, h3, ne_eq, not_true_eq_false, not_false_eq_true, decide_true, decide_false]
    rw [fin a.b3 b.b3 _ _ a3 b3 A3 B3]
    unfold isB at *
    split <;> split <;> (try split) <;> omega
  by_cases h4 : a.b4 = b.b4
  case neg =>
    simp only [h0, h1, h2, h3, h4, ne_eq, not_true_eq_false, not_false_eq_true, decide_true, decide_false]
    rw [fin a.b4 b.b4 _ _ a4 b4 A4 B4]
    unfold isB at *
    split <;> split <;> (try split) <;> omega
  by_cases h5 : a.b5 = b.b5
  case neg =>
    simp only [h0, h1, h2, h3, h4, h5, ne_eq, not_true_eq_false, not_false_eq_true, decide_true, decide_false]
    rw [fin a.b5 b.b5 _ _ a5 b5 A5 B5]
    unfold isB at *
    split <;> split <;> (try split) <;> omega
  simp [h0, h1, h2, h3, h4, h5]

/-- two slices of bytes that are compared -/
theorem s_bytecmp {f : FuncId} {fn : Func} (hf : P.funcs[f]? = some fn) (hn : (fn.name == "runtime.NumGoroutine") = false) (hb : fn.body.isNone = true) (h1 : Extern.findNext fn = none) (h2 : Extern.find fn = some Extern.BytealgCompare.compare) {a b : Value} {x y : List Int}
    (ha : ByR w a x) (hb2 : ByR w b y) (h : K (.int .i64 (Extern.BytealgCompare.cmp (strOf x) (strOf y))) w) : opS P (S.cl f [a, b]) K w := by
  refine s_extern hf hn hb h1 h2 (v := .int .i64 (Extern.BytealgCompare.cmp (strOf x) (strOf y))) ?_ h
  show (do pure (goInt (Extern.BytealgCompare.cmp (← Extern.Bytes.bytesOf a) (← Extern.Bytes.bytesOf b))) : Sem Value).run P w = _
  rw [Sem.run_bind, run_bytesOf ha, Result.andThen_ok, Sem.run_bind, run_bytesOf hb2, Result.andThen_ok]
  rfl

end Go.Gx
end

section
/- Rows that are sorted. -/
namespace Go.Gx
open Go Go.Sort
variable {P : Program} {K : Value → World → Prop} {w : World}

theorem putCells_splice {α : Type} [Inhabited α] (enc : α → Value) (o : Nat) (zs : List α) (cs : Array Value) (h : o + zs.length ≤ cs.size) :
    (putCells enc o zs.toArray cs).toList = splice cs.toList o (zs.map enc) := by
  apply List.ext_getElem?
  intro j
  have hcl : cs.toList.length = cs.size := Array.length_toList
  have hs := splice_get (l := cs.toList) (vs := zs.map enc) (o := o) (by rw [List.length_map]; omega) j
  rw [hs, List.length_map]
  unfold putCells
  simp only [Array.toList_mapIdx, List.getElem?_mapIdx, List.size_toArray]
  by_cases h1 : j < o
  · rw [if_pos h1]
    cases cs.toList[j]? with
    | none => rfl
    | some v => simp only [Option.map_some]; rw [if_neg (by omega)]
  · by_cases h2 : j < o + zs.length
    · rw [if_neg h1, if_pos h2]
      have hj : j < cs.toList.length := by omega
      rw [List.getElem?_eq_getElem hj]
      simp only [Option.map_some]
      rw [if_pos (by omega), List.getElem?_map]
      have hj2 : j - o < zs.length := by omega
      rw [List.getElem?_eq_getElem hj2]
      simp [hj2]
    · rw [if_neg h1, if_neg h2]
      cases cs.toList[j]? with
      | none => rfl
      | some v => simp only [Option.map_some]; rw [if_neg (by omega)]

/-- a row that is its holder's own, in the sort's words -/
theorem holds_row {α : Type} [Inhabited α] {enc : α → Value} {b o N : Nat} {cs : Array Value} {E : TypeId} {zs : List α} (hb : w.heap[b]? = some (.cells cs E (0, 0))) (hN : N = zs.length) (ho : o + N ≤ cs.size) (hl : zs.map enc = (cs.toList.drop o).take N) :
    Holds enc w b o zs.toArray := by
  intro j hj
  simp only [List.size_toArray] at hj
  have hcl : cs.toList.length = cs.size := Array.length_toList
  constructor
  · rw [cell_rd]
    unfold rd
    rw [hb]
    show cs[o + j]? = _
    have := congrArg (fun l => l[j]?) hl
    simp only [List.getElem?_map, List.getElem?_take, List.getElem?_drop] at this
    rw [if_pos (by omega), List.getElem?_eq_getElem hj, Array.getElem?_toList] at this
    rw [← this]
    simp [hj]
  · rw [frozen_eq]
    simp [hb]

theorem putRow_heap {α : Type} [Inhabited α] {enc : α → Value} {b o n : Nat} {os : Array Obj} {cs : Array Value} {E : TypeId} {zs : List α} (hb : w.heap[b]? = some (.cells cs E (0, 0))) (ho : o + zs.length ≤ cs.size) :
    (grow (putRow enc (Sort.ahead w n) b o zs.toArray) os).heap[b]? = some (.cells (splice cs.toList o (zs.map enc)).toArray E (0, 0)) := by
  have hlt := lt_of_heap hb
  have e1 : (grow (putRow enc (Sort.ahead w n) b o zs.toArray) os).heap[b]? = (putRow enc (Sort.ahead w n) b o zs.toArray).heap[b]? := by
    show ((putRow enc (Sort.ahead w n) b o zs.toArray).heap ++ os)[b]? = _
    rw [Array.getElem?_append_left]
    show b < (w.heap.modify b _).size
    rw [Array.size_modify]; exact hlt
  rw [e1]
  show (w.heap.modify b (onCells (putCells enc o zs.toArray)))[b]? = _
  rw [Array.getElem?_modify, if_pos rfl, hb]
  show some (Obj.cells (putCells enc o zs.toArray cs) E (0, 0)) = _
  congr 2
  rw [← putCells_splice enc o zs cs ho, Array.toArray_toList]

theorem putRow_fr {α : Type} [Inhabited α] {enc : α → Value} {b o n : Nat} {os : Array Obj} {d : Array α} : Fr (fun x => x = b) w (grow (putRow enc (Sort.ahead w n) b o d) os) := by
  have hs : (putRow enc (Sort.ahead w n) b o d).heap.size = w.heap.size := by
    show (w.heap.modify b _).size = _
    rw [Array.size_modify]
  refine ⟨?_, fun x hx hn => ?_, fun a ha => ?_, rfl, rfl, rfl⟩
  · show w.heap.size ≤ ((putRow enc (Sort.ahead w n) b o d).heap ++ os).size
    rw [Array.size_append, hs]; omega
  · show ((putRow enc (Sort.ahead w n) b o d).heap ++ os)[x]? = _
    rw [Array.getElem?_append_left (by rw [hs]; exact hx)]
    show (w.heap.modify b _)[x]? = _
    rw [Array.getElem?_modify, if_neg (fun e => hn e.symm)]
  · have e1 : (grow (putRow enc (Sort.ahead w n) b o d) os).frozen? a = (putRow enc (Sort.ahead w n) b o d).frozen? a := by
      rw [frozen_eq, frozen_eq]
      show (match ((putRow enc (Sort.ahead w n) b o d).heap ++ os)[a.block]? with | some (.cells _ _ fz) => (decide (fz.1 ≤ a.off) && decide (a.off < fz.2)) | _ => false) = _
      rw [Array.getElem?_append_left (by rw [hs]; exact ha)]
      rfl
    rw [e1]
    exact frozen?_mapBlock _ _ _ _

/-- one cell an element: what is asked, and what there is behind it -/
theorem own_holds {α : Type} [Inhabited α] {enc : α → Value} {E : TypeId} {b o c : Nat} {zs : List α} (h : OwnE E 1 w (.slice (some ⟨b, o, none⟩) zs.length c) (zs.map fun z => [enc z])) : Holds enc w b o zs.toArray ∧ b < w.heap.size := by
  obtain ⟨h1, _⟩ := h
  rw [List.length_map] at h1
  rcases h1 with ⟨h1, _⟩ | ⟨b', o', c', cs, hv, hb, hc, ho, hl⟩
  · cases h1
  · simp only [Value.slice.injEq, Option.some.injEq, Addr.mk.injEq, and_true, true_and] at hv
    obtain ⟨⟨rfl, rfl⟩, rfl⟩ := hv
    refine ⟨holds_row hb rfl (by omega) ?_, lt_of_heap hb⟩
    rw [Nat.mul_one] at hl
    rw [← hl]
    clear hl ho hc hb
    induction zs with
    | nil => rfl
    | cons z zs ih => simp [ih]

theorem own_sorted {α : Type} [Inhabited α] {enc : α → Value} {E : TypeId} {b o c n : Nat} {os : Array Obj} {zs ys : List α} (h : OwnE E 1 w (.slice (some ⟨b, o, none⟩) zs.length c) (zs.map fun z => [enc z])) (hl : ys.length = zs.length) :
    OwnE E 1 (grow (putRow enc (Sort.ahead w n) b o ys.toArray) os) (.slice (some ⟨b, o, none⟩) ys.length c) (ys.map fun z => [enc z]) := by
  obtain ⟨h1, _⟩ := h
  rw [List.length_map] at h1
  rcases h1 with ⟨h1, _⟩ | ⟨b', o', c', cs, hv, hb, hc, ho, _⟩
  · cases h1
  · simp only [Value.slice.injEq, Option.some.injEq, Addr.mk.injEq, and_true, true_and] at hv
    obtain ⟨⟨rfl, rfl⟩, rfl⟩ := hv
    have hcl : cs.toList.length = cs.size := Array.length_toList
    refine ⟨?_, by simp⟩
    rw [List.length_map]
    refine .inr ⟨b, o, c, _, rfl, putRow_heap hb (by omega), by omega, ?_, ?_⟩
    · rw [List.size_toArray, splice_length (by rw [List.length_map]; omega)]; omega
    · have hf : (ys.map fun z => [enc z]).flatten = ys.map enc := by
        clear hl
        induction ys with
        | nil => rfl
        | cons z zs ih => simp [ih]
      have := splice_window (l := cs.toList) (k := ys.map enc) (o := o) (a := 0) (by omega)
      rw [Nat.add_zero, Nat.zero_add, List.length_map] at this
      rw [hf]
      show _ = List.take _ (List.drop o (splice cs.toList o (ys.map enc)))
      rw [Nat.mul_one, this]; simp

end Go.Gx
end

section
/- Rows of structs that are sorted by a function. -/
namespace Go.Gx
open Go Go.Sort Go.Proofs
variable {P : Program} {K : Value → World → Prop} {w : World}

/-- draws, and new blocks: nothing else -/
def Gr (w w' : World) : Prop := ∃ q os, w' = grow (w.drewN q) os
theorem Gr.refl (w : World) : Gr w w := ⟨0, #[], by rw [grow_empty]; rfl⟩
theorem Gr.step_alloc {w w' : World} (h : Gr w w') (o : Obj) : Gr w (w'.alloc o) := by
  obtain ⟨q, os, rfl⟩ := h
  exact ⟨q, os ++ #[o], by rw [alloc_eq_grow, grow_grow]⟩
theorem Gr.step_drew {w w' : World} (h : Gr w w') : Gr w w'.drew := by
  obtain ⟨q, os, rfl⟩ := h
  exact ⟨q + 1, os, by rw [drew_grow]; rfl⟩
theorem Gr.trans {w w' w'' : World} (h : Gr w w') (h' : Gr w' w'') : Gr w w'' := by
  obtain ⟨q, os, rfl⟩ := h
  obtain ⟨q', os', rfl⟩ := h'
  refine ⟨q + q', os ++ os', ?_⟩
  show grow ((grow (w.drewN q) os).drewN q') os' = _
  rw [← grow_grow]
  have : (grow (w.drewN q) os).drewN q' = grow (w.drewN (q + q')) os := by
    unfold grow World.drewN
    simp [Nat.add_assoc]
  rw [this]
theorem Gr.heap {w w' : World} (h : Gr w w') {b : Nat} {o : Obj} (hb : w.heap[b]? = some o) : w'.heap[b]? = some o := by
  obtain ⟨q, os, rfl⟩ := h
  show (w.heap ++ os)[b]? = _
  rw [Array.getElem?_append_left (lt_of_heap hb)]
  exact hb
theorem Gr.fr {w w' : World} (h : Gr w w') : Fr none_ w w' := by
  obtain ⟨q, os, rfl⟩ := h
  refine ⟨?_, fun x hx hn => ?_, fun a ha => ?_, rfl, rfl, rfl⟩
  · show w.heap.size ≤ (w.heap ++ os).size
    rw [Array.size_append]; omega
  · show (w.heap ++ os)[x]? = _
    rw [Array.getElem?_append_left hx]
  · rw [frozen_eq, frozen_eq]
    show (match (w.heap ++ os)[a.block]? with | some (.cells _ _ fz) => (decide (fz.1 ≤ a.off) && decide (a.off < fz.2)) | _ => false) = _
    rw [Array.getElem?_append_left ha]
    rfl

theorem flatten_at {k : Nat} (hk0 : 0 < k) : ∀ {l : List (List Value)} (_ : ∀ x ∈ l, x.length = k) (t : Nat), l.flatten[t]? = (l[t / k]?).bind fun x => x[t % k]?
  | [], _, t => by simp
  | x :: l, h, t => by
    rw [List.flatten_cons]
    have hx := h x (List.mem_cons_self ..)
    by_cases ht : t < k
    · rw [List.getElem?_append_left (by omega), Nat.div_eq_of_lt ht, Nat.mod_eq_of_lt ht]
      rfl
    · rw [List.getElem?_append_right (by omega), hx, flatten_at hk0 (fun y hy => h y (List.mem_cons_of_mem _ hy)) (t - k)]
      have e1 : t / k = (t - k) / k + 1 := by
        have := Nat.add_div_right (t - k) hk0
        rw [Nat.sub_add_cancel (by omega)] at this
        omega
      have e2 : (t - k) % k = t % k := by
        have := Nat.add_mod_right (t - k) k
        rw [Nat.sub_add_cancel (by omega)] at this
        exact this.symm
      rw [e1, e2, List.getElem?_cons_succ]

theorem flatK_list {α : Type} [Inhabited α] {enc : α → List Value} {k : Nat} (hk0 : 0 < k) (hk : ∀ x, (enc x).length = k) (d : Array α) : (flatK enc k d).toList = (d.toList.map enc).flatten := by
  apply List.ext_getElem?
  intro t
  rw [flatten_at hk0 (fun x hx => by obtain ⟨y, _, rfl⟩ := List.mem_map.1 hx; exact hk y)]
  by_cases ht : t < d.size * k
  · have hs : t < (flatK enc k d).toList.length := by rw [Array.length_toList, size_flatK]; exact ht
    have hq : t / k < d.size := Nat.div_lt_of_lt_mul (by rw [Nat.mul_comm]; exact ht)
    have hr : t % k < k := Nat.mod_lt _ hk0
    rw [Array.getElem?_toList, List.getElem?_map, Array.getElem?_toList]
    have h1 := get_flatK enc k d t ht
    have hs' : t < (flatK enc k d).size := by rw [size_flatK]; exact ht
    rw [getElem!_pos _ t hs', getElem!_pos d (t / k) hq] at h1
    rw [Array.getElem?_eq_getElem hs', h1, Array.getElem?_eq_getElem hq]
    simp only [Option.map_some, Option.bind_some]
    rw [List.getElem?_eq_getElem (by rw [hk]; exact hr), getElem!_pos _ (t % k) (by rw [hk]; exact hr)]
  · have h1 : (flatK enc k d).toList[t]? = none := by rw [List.getElem?_eq_none]; rw [Array.length_toList, size_flatK]; omega
    have hq : d.size ≤ t / k := (Nat.le_div_iff_mul_le hk0).2 (by omega)
    rw [h1, List.getElem?_map, Array.getElem?_toList, Array.getElem?_eq_none hq]
    rfl

theorem ownK_holds {α : Type} [Inhabited α] {enc : α → List Value} {k : Nat} (hk0 : 0 < k) (hk : ∀ x, (enc x).length = k) {E b o c : Nat} {zs : List α} (h : OwnE E k w (.slice (some ⟨b, o, none⟩) zs.length c) (zs.map enc)) :
    HoldsK enc k w b o zs.toArray ∧ b < w.heap.size := by
  obtain ⟨h1, _⟩ := h
  rw [List.length_map] at h1
  rcases h1 with ⟨h1, _⟩ | ⟨b', o', c', cs, hv, hb, hc, ho, hl⟩
  · cases h1
  · simp only [Value.slice.injEq, Option.some.injEq, Addr.mk.injEq, and_true, true_and] at hv
    obtain ⟨⟨rfl, rfl⟩, rfl⟩ := hv
    have hle : zs.length * k ≤ c * k := Nat.mul_le_mul_right _ hc
    have hfl := flatK_list hk0 hk zs.toArray
    have hlen : zs.length * k = (flatK enc k zs.toArray).toList.length := by simp
    have := holds_row (enc := id) (o := o) (N := zs.length * k) (zs := (flatK enc k zs.toArray).toList) hb hlen (by omega) (by rw [List.map_id, hfl]; exact hl)
    rw [Array.toArray_toList] at this
    exact ⟨this, lt_of_heap hb⟩

theorem ownK_sorted {α : Type} [Inhabited α] {enc : α → List Value} {k : Nat} (hk0 : 0 < k) (hk : ∀ x, (enc x).length = k) {E b o c n : Nat} {os : Array Obj} {zs ys : List α} (h : OwnE E k w (.slice (some ⟨b, o, none⟩) zs.length c) (zs.map enc)) (hl : ys.length = zs.length) :
    OwnE E k (sortWorldK enc k w b o n ys.toArray os) (.slice (some ⟨b, o, none⟩) zs.length c) (ys.map enc) ∧ Fr (fun x => x = b) w (sortWorldK enc k w b o n ys.toArray os) := by
  refine ⟨?_, putRow_fr⟩
  obtain ⟨h1, _⟩ := h
  rw [List.length_map] at h1
  rcases h1 with ⟨h1, _⟩ | ⟨b', o', c', cs, hv, hb, hc, ho, _⟩
  · cases h1
  · simp only [Value.slice.injEq, Option.some.injEq, Addr.mk.injEq, and_true, true_and] at hv
    obtain ⟨⟨rfl, rfl⟩, rfl⟩ := hv
    have hcl : cs.toList.length = cs.size := Array.length_toList
    have hle : zs.length * k ≤ c * k := Nat.mul_le_mul_right _ hc
    have hfl := flatK_list hk0 hk ys.toArray
    have hlen : (flatK enc k ys.toArray).toList.length = zs.length * k := by rw [Array.length_toList, size_flatK, List.size_toArray, hl]
    refine ⟨?_, fun e he => by obtain ⟨y, _, rfl⟩ := List.mem_map.1 he; exact hk y⟩
    rw [List.length_map, hl]
    have hp := putRow_heap (enc := id) (o := o) (n := n) (os := os) (zs := (flatK enc k ys.toArray).toList) hb (by omega)
    rw [Array.toArray_toList, List.map_id] at hp
    refine .inr ⟨b, o, c, _, rfl, hp, hc, ?_, ?_⟩
    · rw [List.size_toArray, splice_length (by omega)]; omega
    · have := splice_window (l := cs.toList) (k := (flatK enc k ys.toArray).toList) (o := o) (a := 0) (by omega)
      rw [Nat.add_zero, Nat.zero_add, hlen] at this
      show _ = List.take _ (List.drop o (splice cs.toList o _))
      rw [this, hfl]; simp

/-- **slices.SortFunc, of structs** -/
theorem sortK_spec {ρ : Shelf.Ren} (L : SlLaysF0.n6 P ρ) {α : Type} [Inhabited α] {E k : Nat} {enc : α → List Value} (hk0 : 0 < k) (hk : ∀ x, (enc x).length = k) (h1 : ∀ x, ∀ v ∈ enc x, v.oneCell' = true)
    (aE : ∀ w, (isAgg (ρ.t 24)).run P w = .ok true w) (zE : ∀ w, (Go.sizeOf (ρ.t 24)).run P w = .ok k w) (cf : α → α → Int) (hO : SWO (ltOf cf)) (g : Nat) (cb : Array Value) (eg : ∀ args w, (callFunc g args).run P w = .ok (.enter g args) w)
    (hcmp : ∀ x y W, CallsR P g (#[.agg (enc x).toArray, .agg (enc y).toArray] ++ cb) (fun v w' => v = .int .i64 (cf x y) ∧ Gr W w') W)
    {v : Value} {zs : List α} (hv : OwnE E k w v (zs.map enc)) (hl : zs.length < 2 ^ 60)
    (h : ∀ (ys : List α) w', ys.Perm zs → ys.Pairwise (fun x y => ¬ cf y x < 0) → OwnE E k w' v (ys.map enc) → Fr (fun b => blkS v = some b) w w' → K (.tuple #[]) w') : CallsR P (ρ.f 6) #[v, .func (.func g) #[] cb] K w := by
  cases hb : blkS v with
  | none =>
    have he : v = .slice none 0 0 ∧ zs = [] := by
      obtain ⟨g1, _⟩ := hv
      rcases g1 with ⟨g1, g2, _⟩ | ⟨b, o, c, cs, g1, _⟩
      · exact ⟨g1, by rw [List.length_map] at g2; exact List.eq_nil_of_length_eq_zero g2⟩
      · rw [g1] at hb; cases hb
    obtain ⟨rfl, rfl⟩ := he
    refine Calls.mono (AnyF.slices_SortFunc_none L none 0 _ w) ?_
    rintro e w' ⟨rfl, rfl⟩
    exact ⟨_, rfl, h [] _ (List.Perm.refl _) List.Pairwise.nil hv (Fr.refl _ _)⟩
  | some b =>
    have he : ∃ o c, v = .slice (some ⟨b, o, none⟩) zs.length c := by
      obtain ⟨g1, _⟩ := hv
      rcases g1 with ⟨g1, g2, _⟩ | ⟨b', o, c, cs, g1, _⟩
      · rw [g1] at hb; cases hb
      · rw [g1] at hb; cases hb; rw [List.length_map] at g1; exact ⟨o, c, g1⟩
    obtain ⟨o, c, rfl⟩ := he
    obtain ⟨g1, g2⟩ := ownK_holds hk0 hk hv
    have hc : CmpLays P g cb enc k cf b o zs.toArray.size w := fun m os dk _ x y => Calls.mono (hcmp x y _) fun e w' ⟨v, he, hv, q, os', hg⟩ => ⟨by rw [he, hv], q, os', hg⟩
    refine Calls.mono (AnyQ.slices_SortFunc L k aE zE enc hk h1 cf hO g cb b o c zs.toArray w eg hc g1 g2 (by rw [List.size_toArray]; omega)) ?_
    rintro e w' ⟨rfl, d', n, os, ⟨hp1, _, hp2⟩, hs, rfl⟩
    have hsz : d'.size = zs.length := by rw [hp1, List.size_toArray]
    have e1 : (d'.extract 0 zs.toArray.size).toList = d'.toList := by
      rw [List.size_toArray, ← hsz]; simp
    have e2 : (zs.toArray.extract 0 zs.toArray.size).toList = zs := by simp
    rw [e1, e2] at hp2
    have hlen : d'.toList.length = zs.length := by rw [Array.length_toList, hsz]
    obtain ⟨o1, f1⟩ := ownK_sorted hk0 hk (n := n) (os := os) hv hlen
    rw [Array.toArray_toList] at o1 f1
    refine ⟨_, rfl, h d'.toList _ hp2 ?_ o1 (f1.mono fun x _ e => by rw [e]; rfl)⟩
    rw [List.pairwise_iff_getElem]
    intro i j hi hj hij
    have := hs i j (Nat.zero_le _) hij (by rw [List.size_toArray]; omega)
    unfold ltOf at this
    have hi' : i < d'.size := by omega
    have hj' : j < d'.size := by omega
    rw [getElem!_pos d' i hi', getElem!_pos d' j hj'] at this
    simpa using this

end Go.Gx
end

section
/- Entries in order; what changes make of them: plain. -/
namespace Go.Gx
open Go Go.Sort Go.Proofs

theorem Ent.g0 (e : Ent) : e.cells[0]? = some (i64 e.vlan) := id rfl
theorem Ent.g7 (e : Ent) : e.cells[7]? = some (i64 e.port) := id rfl
theorem Ent.g8 (e : Ent) : e.cells[8]? = some (i64 e.at_) := id rfl
theorem Ent.g9 (e : Ent) : e.cells[9]? = some (.bool e.static) := id rfl
theorem Ent.d1 (e : Ent) : (e.cells.drop 1).take 6 = e.mac.cells := id rfl
theorem Ent.dw (e : Ent) : (e.cells.drop 0).take 10 = e.cells := id rfl
theorem Ent.sw (e f : Ent) : splice e.cells 0 f.cells = f.cells := id rfl
attribute [push_cast] Ent.g0 Ent.g7 Ent.g8 Ent.g9 Ent.d1 Ent.dw Ent.sw Ent.cells_length Ent.cells_one

def eKey (e : Ent) : Int × Mac := (e.vlan, e.mac)
def cmpE (a b : Ent) : Int := if cmpI a.vlan b.vlan ≠ 0 then cmpI a.vlan b.vlan else cmpM a.mac b.mac
def ltE (a b : Ent) : Prop := a.vlan < b.vlan ∨ (a.vlan = b.vlan ∧ macN a.mac < macN b.mac)
instance (a b : Ent) : Decidable (ltE a b) := by unfold ltE; infer_instance

theorem cmpI_lt {a b : Int} : cmpI a b < 0 ↔ a < b := by
  unfold cmpI
  by_cases h1 : a < b
  · rw [if_pos h1]; simp [h1]
  · rw [if_neg h1]
    by_cases h2 : b < a
    · rw [if_pos h2]; constructor <;> intro h <;> omega
    · rw [if_neg h2]; constructor <;> intro h <;> omega
theorem cmpI_zero {a b : Int} : cmpI a b = 0 ↔ a = b := by
  unfold cmpI
  by_cases h1 : a < b
  · rw [if_pos h1]; constructor <;> intro h <;> omega
  · rw [if_neg h1]
    by_cases h2 : b < a
    · rw [if_pos h2]; constructor <;> intro h <;> omega
    · rw [if_neg h2]; constructor <;> intro h <;> omega
theorem cmpE_lt {a b : Ent} : cmpE a b < 0 ↔ ltE a b := by
  unfold cmpE ltE cmpM
  by_cases h : a.vlan = b.vlan
  · rw [if_neg (fun h2 => h2 (cmpI_zero.2 h)), cmpI_lt]
    constructor
    · intro h2; exact .inr ⟨h, h2⟩
    · rintro (h2 | h2)
      · omega
      · exact h2.2
  · rw [if_pos (fun h2 => h (cmpI_zero.1 h2)), cmpI_lt]
    constructor
    · intro h2; exact .inl h2
    · rintro (h2 | h2)
      · exact h2
      · exact absurd h2.1 h

theorem ltE_irr (a : Ent) : ¬ ltE a a := by unfold ltE; omega
theorem ltE_asym (a b : Ent) (h : ltE a b) : ¬ ltE b a := by unfold ltE at *; omega
theorem ltE_trans {a b c : Ent} (h : ltE a b) (h' : ltE b c) : ltE a c := by unfold ltE at *; omega
theorem ltE_total {a b : Ent} (ha : a.ok) (hb : b.ok) (h : eKey a ≠ eKey b) : ltE a b ∨ ltE b a := by
  unfold ltE
  by_cases h1 : a.vlan = b.vlan
  · have : macN a.mac ≠ macN b.mac := fun h2 => h (by unfold eKey; rw [h1, macN_inj ha.2.1 hb.2.1 h2])
    omega
  · omega
theorem ltE_key {a b : Ent} (h : ltE a b) : eKey a ≠ eKey b := by
  intro e
  unfold eKey at e
  simp only [Prod.mk.injEq] at e
  unfold ltE at h
  rw [e.1, e.2] at h
  omega

/-- entries, in order, each key once -/
def Srt (r : List Ent) : Prop := r.Pairwise ltE ∧ ∀ e ∈ r, e.ok

theorem Srt.nil : Srt [] := ⟨List.Pairwise.nil, by simp⟩
theorem Srt.key {r : List Ent} (h : Srt r) {e f : Ent} (he : e ∈ r) (hf : f ∈ r) (hk : eKey e = eKey f) : e = f := by
  obtain ⟨i, hi, rfl⟩ := List.getElem_of_mem he
  obtain ⟨j, hj, rfl⟩ := List.getElem_of_mem hf
  have hp := List.pairwise_iff_getElem.1 h.1
  rcases Nat.lt_trichotomy i j with hij | rfl | hij
  · exact absurd hk (ltE_key (hp i j hi hj hij))
  · rfl
  · exact absurd hk.symm (ltE_key (hp j i hj hi hij))
theorem Srt.eq {r s : List Ent} (h : Srt r) (h' : Srt s) (he : ∀ e, e ∈ r ↔ e ∈ s) : r = s := eq_of_rising ltE_irr ltE_asym h.1 h'.1 he

def withoutL (l : List Ent) (x : Ent) : List Ent := l.filter fun e => decide (eKey e ≠ eKey x)
def insL (l : List Ent) (x : Ent) : List Ent := l.takeWhile (fun e => decide (ltE e x)) ++ x :: l.dropWhile (fun e => decide (ltE e x))
def withL (l : List Ent) (x : Ent) : List Ent := insL (withoutL l x) x

theorem mem_without {l : List Ent} {x e : Ent} : e ∈ withoutL l x ↔ e ∈ l ∧ eKey e ≠ eKey x := by
  unfold withoutL
  rw [List.mem_filter, decide_eq_true_iff]
theorem mem_ins {l : List Ent} {x e : Ent} : e ∈ insL l x ↔ e = x ∨ e ∈ l := by
  unfold insL
  conv => rhs; rw [← List.takeWhile_append_dropWhile (p := fun e => decide (ltE e x)) (l := l)]
  simp only [List.mem_append, List.mem_cons]
  constructor
  · rintro (h | h | h)
    · exact .inr (.inl h)
    · exact .inl h
    · exact .inr (.inr h)
  · rintro (h | h | h)
    · exact .inr (.inl h)
    · exact .inl h
    · exact .inr (.inr h)
theorem mem_with {l : List Ent} {x e : Ent} : e ∈ withL l x ↔ e = x ∨ (e ∈ l ∧ eKey e ≠ eKey x) := by
  unfold withL
  rw [mem_ins, mem_without]

theorem Srt.without {r : List Ent} (h : Srt r) (x : Ent) : Srt (withoutL r x) := ⟨h.1.filter _, fun e he => h.2 e (mem_without.1 he).1⟩
theorem Srt.with {r : List Ent} (h : Srt r) {x : Ent} (hx : x.ok) : Srt (withL r x) := by
  have hw := h.without x
  have hk : ∀ e ∈ withoutL r x, eKey e ≠ eKey x := fun e he => (mem_without.1 he).2
  refine ⟨?_, fun e he => ?_⟩
  · unfold withL
    generalize withoutL r x = l at *
    clear h
    unfold insL
    have hcut : ∀ e ∈ l.dropWhile (fun e => decide (ltE e x)), ltE x e := by
      have hs : (l.dropWhile (fun e => decide (ltE e x))).Pairwise ltE := hw.1.sublist (List.dropWhile_sublist _)
      cases hd : l.dropWhile (fun e => decide (ltE e x)) with
      | nil => simp
      | cons f k =>
        rw [hd] at hs
        have hf : ¬ ltE f x := by
          have := List.head_dropWhile_not (fun e => decide (ltE e x)) (l := l) (by rw [hd]; simp)
          simp only [hd, List.head_cons] at this
          simpa using this
        have hfl : f ∈ l := (List.dropWhile_sublist _).subset (by rw [hd]; exact List.mem_cons_self ..)
        have hxf : ltE x f := (ltE_total (hw.2 f hfl) hx (hk f hfl)).resolve_left hf
        intro e he
        rcases List.mem_cons.1 he with rfl | he
        · exact hxf
        · exact ltE_trans hxf ((List.pairwise_cons.1 hs).1 e he)
    have htk : ∀ e ∈ l.takeWhile (fun e => decide (ltE e x)), ltE e x := fun e he => by
      have := List.all_eq_true.1 (List.all_takeWhile (p := fun e => decide (ltE e x)) (l := l)) e he
      simpa using this
    rw [List.pairwise_append]
    refine ⟨hw.1.sublist (List.takeWhile_sublist _), List.pairwise_cons.2 ⟨hcut, hw.1.sublist (List.dropWhile_sublist _)⟩, fun a ha b hb => ?_⟩
    rcases List.mem_cons.1 hb with rfl | hb
    · exact htk a ha
    · exact ltE_trans (htk a ha) (hcut b hb)
  · rcases mem_with.1 he with rfl | he
    · exact hx
    · exact h.2 e he.1

def chL (r : List Ent) (c : Ent × Bool) : List Ent := if c.2 then withoutL r c.1 else withL r c.1
def replayL (l : List Ent) (cs : List (Ent × Bool)) : List Ent := cs.foldl chL (l.foldl withL [])

theorem Srt.ch {r : List Ent} (h : Srt r) {c : Ent × Bool} (hc : c.1.ok) : Srt (chL r c) := by
  unfold chL
  split
  · exact h.without _
  · exact h.with hc
theorem Srt.chs {r : List Ent} (h : Srt r) : ∀ {cs : List (Ent × Bool)}, (∀ c ∈ cs, c.1.ok) → Srt (cs.foldl chL r)
  | [], _ => h
  | c :: cs, hc => by
    rw [List.foldl_cons]
    exact Srt.chs (h.ch (hc c (List.mem_cons_self ..))) fun d hd => hc d (List.mem_cons_of_mem _ hd)
theorem Srt.ents {r : List Ent} (h : Srt r) : ∀ {l : List Ent}, (∀ e ∈ l, e.ok) → Srt (l.foldl withL r)
  | [], _ => h
  | c :: cs, hc => by
    rw [List.foldl_cons]
    exact Srt.ents (h.with (hc c (List.mem_cons_self ..))) fun d hd => hc d (List.mem_cons_of_mem _ hd)
theorem Srt.replay {l : List Ent} {cs : List (Ent × Bool)} (hl : ∀ e ∈ l, e.ok) (hc : ∀ c ∈ cs, c.1.ok) : Srt (replayL l cs) := (Srt.nil.ents hl).chs hc

theorem without_len (l : List Ent) (x : Ent) : (withoutL l x).length ≤ l.length := List.length_filter_le _ _
theorem ins_len (l : List Ent) (x : Ent) : (insL l x).length = l.length + 1 := by
  have h := congrArg List.length (List.takeWhile_append_dropWhile (p := fun e => decide (ltE e x)) (l := l))
  unfold insL
  rw [List.length_append] at h ⊢
  rw [List.length_cons]
  omega
theorem with_len (l : List Ent) (x : Ent) : (withL l x).length ≤ l.length + 1 := by
  unfold withL
  rw [ins_len]
  have := without_len l x
  omega
theorem ents_len : ∀ (l r : List Ent), (l.foldl withL r).length ≤ r.length + l.length
  | [], r => by simp
  | e :: l, r => by
    rw [List.foldl_cons, List.length_cons]
    have := ents_len l (withL r e)
    have := with_len r e
    omega
theorem chs_len : ∀ (cs : List (Ent × Bool)) (r : List Ent), (cs.foldl chL r).length ≤ r.length + cs.length
  | [], r => by simp
  | c :: cs, r => by
    rw [List.foldl_cons, List.length_cons]
    have := chs_len cs (chL r c)
    have h1 := with_len r c.1
    have h2 := without_len r c.1
    have : (chL r c).length ≤ r.length + 1 := by unfold chL; split <;> omega
    omega
theorem replay_len (l : List Ent) (cs : List (Ent × Bool)) : (replayL l cs).length ≤ l.length + cs.length := by
  have h1 := chs_len cs (l.foldl withL [])
  have h2 := ents_len l []
  unfold replayL
  simp at h2
  omega

/-- entries in order are put in as they are -/
theorem ents_self {r : List Ent} (h : Srt r) : r.foldl withL [] = r := by
  have key : ∀ (l : List Ent) (s : List Ent), Srt (s ++ l) → l.foldl withL s = s ++ l := by
    intro l
    induction l with
    | nil => intro s _; simp
    | cons e l ih =>
      intro s hs
      rw [List.foldl_cons]
      have hse : Srt s := ⟨hs.1.sublist (List.sublist_append_left _ _), fun x hx => hs.2 x (List.mem_append_left _ hx)⟩
      have hek : e.ok := hs.2 e (by simp)
      have hsub : Srt (s ++ [e]) := ⟨hs.1.sublist (List.Sublist.append_left (by simp) _), fun x hx => hs.2 x (by simp at hx ⊢; rcases hx with h | h; exact .inl h; exact .inr (.inl h))⟩
      have hw : withL s e = s ++ [e] := by
        refine (hse.with hek).eq hsub fun x => ?_
        rw [mem_with, List.mem_append, List.mem_singleton]
        have hlt : ∀ y ∈ s, ltE y e := fun y hy => (List.pairwise_append.1 hsub.1).2.2 y hy e (by simp)
        constructor
        · rintro (h | h)
          · exact .inr h
          · exact .inl h.1
        · rintro (h | h)
          · exact .inr ⟨h, ltE_key (hlt x h)⟩
          · exact .inl h
      rw [hw, ih (s ++ [e]) (by simpa using hs)]
      simp
  simpa using key r [] (by simpa using h)

theorem replay_self {r : List Ent} (h : Srt r) (cs : List (Ent × Bool)) : replayL r cs = cs.foldl chL r := by
  unfold replayL
  rw [ents_self h]

/-! ### A map of entries -/

structure RM (m : List ((Int × Mac) × Ent)) (r : List Ent) : Prop where
  srt : Srt r
  mem : ∀ e, e ∈ r ↔ (eKey e, e) ∈ m
  key : ∀ p ∈ m, p.1 = eKey p.2
  nd : (m.map Prod.fst).Nodup

theorem RM.nil : RM [] [] := ⟨Srt.nil, by simp, by simp, by simp⟩
theorem setL_mem_iff {κ ν : Type} [DecidableEq κ] {l : List (κ × ν)} (hn : (l.map Prod.fst).Nodup) {k : κ} {v : ν} {x : κ × ν} : x ∈ setL l k v ↔ x = (k, v) ∨ (x ∈ l ∧ x.1 ≠ k) := by
  have hns := VT.setL_nodup (k := k) (v := v) hn
  have key : ∀ (q : List (κ × ν)), (q.map Prod.fst).Nodup → ∀ y, y ∈ q ↔ getL q y.1 = some y.2 := fun q hq y => ⟨fun h => lookup_of_mem hq h, fun h => lookup_some_mem h⟩
  rw [key _ hns, lookup_setL]
  by_cases e : x.1 = k
  · rw [if_pos e]
    constructor
    · intro h
      left
      simp only [Option.some.injEq] at h
      exact Prod.ext e h.symm
    · rintro (h | h)
      · rw [h]
      · exact absurd e h.2
  · rw [if_neg e]
    constructor
    · intro h; exact .inr ⟨lookup_some_mem h, e⟩
    · rintro (h | h)
      · rw [h] at e; exact absurd rfl e
      · exact lookup_of_mem hn h.1
theorem delL_mem_iff {κ ν : Type} [DecidableEq κ] {l : List (κ × ν)} {k : κ} {x : κ × ν} : x ∈ delL l k ↔ x ∈ l ∧ x.1 ≠ k := by
  unfold delL
  rw [List.mem_filter, decide_eq_true_iff]

theorem RM.set {m : List ((Int × Mac) × Ent)} {r : List Ent} (h : RM m r) {e : Ent} (he : e.ok) : RM (setL m (eKey e) e) (withL r e) := by
  refine ⟨h.srt.with he, fun f => ?_, fun p hp => ?_, VT.setL_nodup h.nd⟩
  · rw [mem_with, setL_mem_iff h.nd, h.mem]
    constructor
    · rintro (rfl | ⟨h1, h2⟩)
      · exact .inl rfl
      · exact .inr ⟨h1, h2⟩
    · rintro (h1 | ⟨h1, h2⟩)
      · exact .inl (Prod.ext_iff.1 h1).2
      · exact .inr ⟨h1, h2⟩
  · rcases (setL_mem_iff h.nd).1 hp with rfl | ⟨h1, _⟩
    · rfl
    · exact h.key p h1
theorem RM.del {m : List ((Int × Mac) × Ent)} {r : List Ent} (h : RM m r) (e : Ent) : RM (delL m (eKey e)) (withoutL r e) := by
  refine ⟨h.srt.without e, fun f => ?_, fun p hp => h.key p (delL_mem_iff.1 hp).1, h.nd.sublist ((VT.delL_sub _ _).map _)⟩
  rw [mem_without, delL_mem_iff, h.mem]

/-- what comes out of the map, sorted -/
theorem RM.out {m d : List ((Int × Mac) × Ent)} {r ys : List Ent} (h : RM m r) (hd : d.Perm m) (hy : ys.Perm (d.map Prod.snd)) (hs : ys.Pairwise fun x y => ¬ cmpE y x < 0) : ys = r := by
  have hm : ∀ e, e ∈ ys ↔ e ∈ r := fun e => by
    rw [hy.mem_iff, (hd.map _).mem_iff, h.mem, List.mem_map]
    constructor
    · rintro ⟨p, hp, rfl⟩
      have := h.key p hp
      rw [← this]; exact hp
    · intro hp; exact ⟨_, hp, rfl⟩
  have hnd : ys.Nodup := by
    rw [hy.nodup_iff, (hd.map _).nodup_iff]
    have : (m.map Prod.snd).map eKey = m.map Prod.fst := by
      rw [List.map_map]
      exact List.map_congr_left fun p hp => (h.key p hp).symm
    have hn := h.nd
    rw [← this] at hn
    exact List.Pairwise.of_map eKey (fun a b h e => h (congrArg eKey e)) hn
  refine Srt.eq ⟨?_, fun e he => h.srt.2 e ((hm e).1 he)⟩ h.srt hm
  rw [List.pairwise_iff_getElem] at hs ⊢
  intro i j hi hj hij
  have h1 := hs i j hi hj hij
  rw [cmpE_lt] at h1
  have hne : ys[i] ≠ ys[j] := List.pairwise_iff_getElem.1 hnd i j hi hj hij
  have hmi := (hm _).1 (List.getElem_mem hi)
  have hmj := (hm _).1 (List.getElem_mem hj)
  have hk : eKey ys[i] ≠ eKey ys[j] := fun e => hne (h.srt.key hmi hmj e)
  exact (ltE_total (h.srt.2 _ hmi) (h.srt.2 _ hmj) hk).resolve_right h1

theorem swoE {p : Ent → Prop} : SWO (ltOf fun x y : { e : Ent // p e } => cmpE x.1 y.1) where
  irrefl x := by
    unfold ltOf
    rw [decide_eq_false_iff_not, cmpE_lt]
    exact ltE_irr _
  trans x y z h1 h2 := by
    unfold ltOf at *
    rw [decide_eq_true_iff, cmpE_lt] at *
    exact ltE_trans h1 h2
  ntrans x y z h1 h2 := by
    unfold ltOf at *
    rw [decide_eq_false_iff_not, cmpE_lt] at *
    unfold ltE at *
    omega

end Go.Gx
end

section
/- Bytes that are copied, cut out, made; shifts and bits. -/
namespace Go.Gx
open Go
variable {P : Program} {K : Value → World → Prop} {w : World}

/-! ### Numbers -/

theorem wrap_u8 (x : Int) : IntKind.u8.wrap x = x % 256 := by
  unfold IntKind.wrap
  have e1 : (2 : Int) ^ IntKind.u8.bits = 256 := rfl
  have e3 : IntKind.u8.signed = false := rfl
  simp only [e1, e3, Bool.false_and, Bool.false_eq_true, if_false]

theorem opS_shr (k k' : IntKind) (x : Int) (n : Nat) (hn : n ≤ k.bits) : opS P (S.binI .shr (.int k x) (.int k' n)) K w = K (.int k (x / 2 ^ n)) w := by
  have h : ¬ ((n : Int) < 0) := by omega
  have e : x.fdiv (2 ^ n) = x / 2 ^ n := Int.fdiv_eq_ediv_of_nonneg x (Int.le_of_lt (Int.pow_pos (by decide)))
  simp [S.binI, binOp, Op.shift, opS, uponR, Nat.min_eq_left hn, h, e]
theorem opS_shl (k k' : IntKind) (x : Int) (n : Nat) (hn : n ≤ k.bits) : opS P (S.binI .shl (.int k x) (.int k' n)) K w = K (.int k (k.wrap (x * 2 ^ n))) w := by
  have h : ¬ ((n : Int) < 0) := by omega
  simp [S.binI, binOp, Op.shift, opS, uponR, Nat.min_eq_left hn, h]

theorem ofInt_nat {n : Nat} {x : Int} (h0 : 0 ≤ x) : BitVec.ofInt n x = BitVec.ofNat n x.toNat := by
  obtain ⟨k, rfl⟩ := Int.eq_ofNat_of_zero_le h0
  simp

/-- bits that do not meet -/
theorem opS_or {x y : Int} (m : Nat) (hx : 0 ≤ x) (hx2 : x < 2 ^ 62) (hy : 0 ≤ y) (hy2 : y < 2 ^ m) (hm : x % 2 ^ m = 0) (hm2 : m ≤ 62) : opS P (S.binI .or (.int .i64 x) (.int .i64 y)) K w = K (.int .i64 (x + y)) w := by
  obtain ⟨a, rfl⟩ := Int.eq_ofNat_of_zero_le hx
  obtain ⟨b, rfl⟩ := Int.eq_ofNat_of_zero_le hy
  have hb : b < 2 ^ m := by exact_mod_cast hy2
  have ha : a < 2 ^ 62 := by exact_mod_cast hx2
  have hd : a % 2 ^ m = 0 := by exact_mod_cast hm
  have hpm : 2 ^ m ≤ 2 ^ 62 := Nat.pow_le_pow_right (by decide) hm2
  have e : (BitVec.ofInt 64 (a : Int) ||| BitVec.ofInt 64 (b : Int)).toNat = a + b := by
    rw [ofInt_nat (by omega), ofInt_nat (by omega), BitVec.toNat_or]
    simp only [Int.toNat_natCast, BitVec.toNat_ofNat]
    rw [Nat.mod_eq_of_lt (by omega), Nat.mod_eq_of_lt (by omega)]
    have : a = a / 2 ^ m * 2 ^ m := by
      have := Nat.div_add_mod a (2 ^ m)
      rw [hd, Nat.mul_comm] at this
      omega
    rw [this, ← Nat.shiftLeft_eq, ← Nat.shiftLeft_add_eq_or_of_lt hb]
  have hw : IntKind.i64.wrap ((a + b : Nat) : Int) = (a : Int) + b := by
    rw [wrap_i64 (by omega)]; simp
  unfold S.binI
  simp only []
  have : (binOp .or 0 (.int .i64 (a : Int)) (.int .i64 (b : Int))).run P w = .ok (.int .i64 ((a : Int) + b)) w := by
    show (Op.intBits .or .i64 (a : Int) (b : Int)).run P w = _
    unfold Op.intBits
    show Result.ok (Value.int .i64 (IntKind.i64.wrap ((BitVec.ofInt 64 (a : Int) ||| BitVec.ofInt 64 (b : Int)).toNat : Int))) w = _
    rw [e, hw]
  rw [opS_bind, this]

/-- the low bits -/
theorem opS_and {x : Int} (m : Nat) (hx : 0 ≤ x) (hx2 : x < 2 ^ 62) (hm : m ≤ 62) : opS P (S.binI .and (.int .i64 x) (.int .i64 (2 ^ m - 1))) K w = K (.int .i64 (x % 2 ^ m)) w := by
  obtain ⟨a, rfl⟩ := Int.eq_ofNat_of_zero_le hx
  have ha : a < 2 ^ 62 := by exact_mod_cast hx2
  have hpm : 2 ^ m ≤ 2 ^ 62 := Nat.pow_le_pow_right (by decide) hm
  have hp0 : 0 < 2 ^ m := Nat.pow_pos (by decide)
  have eb : ((2 : Int) ^ m - 1) = ((2 ^ m - 1 : Nat) : Int) := by
    rw [Int.natCast_sub (by omega)]; simp
  have e : (BitVec.ofInt 64 (a : Int) &&& BitVec.ofInt 64 ((2 : Int) ^ m - 1)).toNat = a % 2 ^ m := by
    rw [eb, ofInt_nat (by omega), ofInt_nat (by omega), BitVec.toNat_and]
    simp only [Int.toNat_natCast, BitVec.toNat_ofNat]
    rw [Nat.mod_eq_of_lt (by omega), Nat.mod_eq_of_lt (by omega), Nat.and_two_pow_sub_one_eq_mod]
  have hlt : a % 2 ^ m < 2 ^ m := Nat.mod_lt _ hp0
  have hw : IntKind.i64.wrap ((a % 2 ^ m : Nat) : Int) = (a : Int) % 2 ^ m := by
    rw [wrap_i64 (by omega)]; simp
  unfold S.binI
  simp only []
  have : (binOp .and 0 (.int .i64 (a : Int)) (.int .i64 ((2 : Int) ^ m - 1))).run P w = .ok (.int .i64 ((a : Int) % 2 ^ m)) w := by
    show Result.ok (Value.int .i64 (IntKind.i64.wrap ((BitVec.ofInt 64 (a : Int) &&& BitVec.ofInt 64 ((2 : Int) ^ m - 1)).toNat : Int))) w = _
    rw [e, hw]
  rw [opS_bind, this]

/-! ### Parts of arrays; room -/

theorem opS_slcA {T E n sz : Nat} {ag : Bool} [hT : ArT P T n E] [hs : Sz P E sz ag] (b o : Nat) : opS P (S.slc T (pt b o) none none none) K w = K (.slice (some ⟨b, o, none⟩) n n) w := by
  unfold S.slc
  rw [opS_bind]
  unfold Instr.sliceAt
  rw [Sem.run_bind, run_underlying_of hT.und, Result.andThen_ok]
  simp only []
  have : (Instr.sureAddr (pt b o)).run P w = .ok ⟨b, o, none⟩ w := rfl
  rw [Sem.run_bind, this, Result.andThen_ok]
  have hb : (Instr.sliceBounds false n n none none none).run P w = .ok (0, n, n) w := rfl
  rw [Sem.run_bind, hb, Result.andThen_ok]
  simp only []
  rw [Sem.run_bind, hs.size w, Result.andThen_ok]
  simp only [Nat.zero_mul, add_none, Nat.add_zero, ite_self, Nat.sub_zero]
  rfl

theorem opS_cap {T ty : TypeId} {E : outParam TypeId} [hT : SlT P T E] (a : Option Addr) (n c : Nat) : opS P (S.bi .cap #[T] ty [.slice a n c]) K w = K (.int .i64 c) w := by
  show opS P (do pure (Next.value (← Builtin.cap_ #[T] ty #[.slice a n c]))) K w = _
  rw [opS_bind]
  unfold Builtin.cap_
  simp only [List.getElem?_toArray, List.getElem?_cons_zero]
  rw [Sem.run_bind, run_underlying_of hT.und, Result.andThen_ok]
  rfl

theorem opS_slc0 {T E sz : Nat} {ag : Bool} [hT : SlT P T E] [hs : Sz P E sz ag] {b o n c : Nat} {k : IntKind} : opS P (S.slc T (.slice (some ⟨b, o, none⟩) n c) (some (.int k 0)) none none) K w = K (.slice (some ⟨b, o, none⟩) n c) w := by
  rw [opS_slice (run_boundsL (lo := 0) (by omega) (by omega))]
  simp [add_none]

theorem wr_nil (w : World) (b o : Nat) : wr w b o [] = w := by
  unfold wr
  split
  · rename_i c T fz h
    rw [splice_nil]
    simp only [Array.toArray_toList]
    unfold upd
    have : w.heap.setIfInBounds b (.cells c T fz) = w.heap := by
      apply Array.ext_getElem?
      intro i
      rw [Array.getElem?_setIfInBounds]
      by_cases e : b = i
      · subst e
        rw [if_pos rfl, h, if_pos (lt_of_heap h)]
      · rw [if_neg e]
    rw [this]
  · rfl

/-- 'copy' of as many as there is room for -/
theorem s_copy {T T2 E sz : Nat} {ag : Bool} {ty : TypeId} [hT : SlT P T E] [hs : Sz P E sz ag] {b o n c m : Nat} {u : Value} {k : List Value} {cs : Array Value} {TT : TypeId} (hb : w.heap[b]? = some (.cells cs TT (0, 0)))
    (hu : Rd sz w u m k) (hk : k.all S.oneCell = true) (hm : m ≤ n) (hn : o + n * sz ≤ cs.size) : opS P (S.bi .copy #[T, T2] ty [.slice (some ⟨b, o, none⟩) n c, u]) K w = K (.int .i64 m) (wr w b o k) := by
  show opS P (do pure (Next.value (← Builtin.copy_ #[T, T2] ty #[.slice (some ⟨b, o, none⟩) n c, u]))) K w = _
  rw [opS_bind]
  unfold Builtin.copy_
  simp only [List.getElem?_toArray, List.getElem?_cons_zero, List.getElem?_cons_succ]
  rw [Sem.run_bind, run_underlying_of hT.und, Result.andThen_ok]
  simp only []
  obtain ⟨ua, uc, rfl⟩ := hu.form
  have hlen : (Builtin.lenOf (.slice ua m uc)).run P w = .ok m w := rfl
  have hmin : Nat.min m n = m := Nat.min_eq_left hm
  rw [Sem.run_bind, hlen, Result.andThen_ok, hmin, Sem.run_bind, hs.size w, Result.andThen_ok, Sem.run_bind, run_firstCells hu, Result.andThen_ok]
  have hkl := hu.len
  have hmul : m * sz ≤ n * sz := Nat.mul_le_mul_right _ hm
  have hst := run_storeCells (P := P) k w cs 0 o hb hk (by omega) (fun j hj => by simp)
  rw [Sem.run_bind]
  simp only [Nat.add_zero] at hst
  rw [hst, Result.andThen_ok]
  unfold wr
  rw [hb]
  rfl

theorem opS_mksc {T E n by_ : Nat} {ag : Bool} {z : Value} [hT : SlT P T E] [hs : Sz P E n ag] [hb : By P E by_] [hz : ZV P E z] (k k' : IntKind) (len cap : Int) (h0 : 0 ≤ len) (h0' : len ≤ cap) (h1 : by_ * cap ≤ 2 ^ 48) (h2 : cap < 2 ^ 62)
    (hn : z.cells.size = n) (hn0 : 0 < n) : opS P (S.mks T (.int k len) (.int k' cap)) K w = K (.slice (some ⟨w.heap.size, 0, none⟩) len.toNat cap.toNat) (w.alloc (.cells (zeros cap.toNat z.cells.toList).toArray E)) := by
  obtain ⟨i, hi, hib⟩ := hb.bytes
  unfold S.mks
  rw [opS_bind]
  unfold Instr.makeSlice
  rw [Sem.run_bind, run_underlying_of hT.und, Result.andThen_ok]
  have hw : IntKind.i64.wrap len = len := wrap_i64 (by omega)
  have hw' : IntKind.i64.wrap cap = cap := wrap_i64 (by omega)
  simp only [asInt, asIntOf, pure_bind, hw, hw']
  rw [Sem.run_bind, hi w, Result.andThen_ok]
  have ht : (decide (cap < 0) || decide ((i.bytes : Int) * cap > 2 ^ 48)) = false := by
    rw [hib]; simp; omega
  have hc : ((decide (cap < 0) || decide ((i.bytes : Int) * cap > 2 ^ 48)) || decide (len < 0) || decide (len > cap)) = false := by
    rw [ht]; simp; omega
  simp only [hc, Bool.false_eq_true, if_false]
  have har : (askRoom (cap.toNat * i.bytes)).run P w = .ok () w := by
    unfold askRoom; split <;> rfl
  rw [Sem.run_bind, har, Result.andThen_ok, Sem.run_bind, hs.size w, Result.andThen_ok]
  have hrz := range_zeros cap.toNat z.cells
  rw [hn] at hrz
  by_cases hz0 : cap.toNat * n = 0
  · rw [if_pos hz0, Sem.run_bind]
    have hl0 : cap.toNat = 0 := by
      rcases Nat.mul_eq_zero.1 hz0 with h | h
      · exact h
      · omega
    have e0 : Array.range 0 = #[] := by simp
    simp only [hl0, Nat.zero_mul, e0, Array.map_empty]
    rfl
  · rw [if_neg hz0, Sem.run_bind, hz.zero w, Result.andThen_ok, Sem.run_bind, hn, hrz]
    rfl

/-- 'append([]T(nil), make([]T, n)...)' -/
theorem s_appmk {T T2 E sz by_ : Nat} {ag : Bool} {z : Value} {ty : TypeId} [hT : SlT P T E] (hT2 : P.underlying T2 = some (.int .i64)) [hs : Sz P E sz ag] [hb : By P E by_] [hz : ZV P E z] {n : Nat} (hn : 0 < n) (hzn : z.cells.size = sz) (hsz : 0 < sz) (hby : 0 < by_) (hroom : (2 * n + 192) * by_ ≤ 2 ^ 48)
    (h : ∀ c w', Own E sz w' (.slice (some ⟨w.heap.size, 0, none⟩) n c) n (zeros n z.cells.toList) → c < 2 ^ 63 → Fr none_ w w' → K (.slice (some ⟨w.heap.size, 0, none⟩) n c) w') : opS P (S.bi .append #[T, T2] ty [.slice none 0 0, .int .i64 n]) K w := by
  obtain ⟨inf, hi, hib⟩ := hb.bytes
  show opS P (do pure (Next.value (← Builtin.append_ #[T, T2] ty #[.slice none 0 0, .int .i64 n]))) K w
  rw [opS_bind]
  unfold Builtin.append_
  simp only [List.getElem?_toArray, List.getElem?_cons_zero, List.getElem?_cons_succ]
  rw [Sem.run_bind, run_underlying_of hT.und, Result.andThen_ok]
  simp only []
  rw [Sem.run_bind, hs.size w, Result.andThen_ok, Sem.run_bind, run_underlying_of hT2, Result.andThen_ok]
  have hnn : (2 * n + 192) ≤ 2 ^ 48 := Nat.le_trans (Nat.le_mul_of_pos_right _ hby) hroom
  have hw : IntKind.i64.wrap (n : Int) = n := wrap_i64 (by omega)
  simp only [pure_bind, Bool.not_true, Bool.false_eq_true, if_false, if_true, asInt, asIntOf, hw]
  rw [if_neg (by omega)]
  have hnb : n * by_ ≤ 2 ^ 48 := Nat.le_trans (Nat.mul_le_mul_right by_ (by omega)) hroom
  rw [Sem.run_bind, hi w, Result.andThen_ok, if_neg (by rw [hib]; omega)]
  simp only [Int.toNat_natCast, Nat.zero_add]
  rw [if_neg (by omega)]
  have hg : ¬ (((n : Nat) : Int) > IntKind.i64.max) := by
    have e2 : IntKind.i64.max = 9223372036854775807 := rfl
    rw [e2]; omega
  have hg2 : ¬ (Builtin.nextslicecap n 0 * inf.bytes > 2 ^ 48) := by
    have : Builtin.nextslicecap n 0 = n := by unfold Builtin.nextslicecap; rw [if_pos (by omega)]
    rw [this, hib]; omega
  have har : ∀ x w', (askRoom x).run P w' = .ok () w' := by
    intro x w'; unfold askRoom; split <;> rfl
  rw [Sem.run_bind, hi w, Result.andThen_ok, if_neg (by simp; omega), Sem.run_bind, hi w, Result.andThen_ok, if_neg hg2]
  rw [Sem.run_bind, run_choose rfl, Result.andThen_ok, Sem.run_bind, hi _, Result.andThen_ok, Sem.run_bind, har, Result.andThen_ok]
  have hfc : ∀ w', (Builtin.firstCells sz 0 (.slice none 0 0)).run P w' = .ok #[] w' := fun _ => rfl
  rw [Sem.run_bind, hfc, Result.andThen_ok, if_neg (by have := Nat.mul_pos hn hsz; omega), Sem.run_bind, Sem.run_bind, hz.zero, Result.andThen_ok, Sem.run_pure, Result.andThen_ok, Sem.run_bind, hz.zero, Result.andThen_ok, run_zeroCells_ok, run_zeroCells_ok]
  have hq : ∀ q : Nat, (Question.appendCap n 0 E).cut q = n + q % (2 ^ 63 - n) := fun _ => rfl
  rw [hq]
  have hlt : ∀ q : Nat, q % (2 ^ 63 - n) < 2 ^ 63 - n := fun q => Nat.mod_lt _ (by omega)
  have hx2 := hlt (w.tape w.drawn (Question.appendCap n 0 E))
  generalize w.tape w.drawn (Question.appendCap n 0 E) % (2 ^ 63 - n) = x at *
  have hx : n + x - n = x := by omega
  rw [hx]
  have hnew : ∀ (cs : Array Value) (w' : World), (newRow E cs).run P w' = .ok ⟨w'.heap.size, 0, none⟩ (w'.alloc (.cells cs E)) := fun _ _ => rfl
  rw [Sem.run_bind, hnew, Result.andThen_ok]
  simp only [Sem.run_pure]
  have hcs : (#[] ++ (zeros n z.cells.toList).toArray ++ (zeros x z.cells.toList).toArray).toList = zeros n z.cells.toList ++ zeros x z.cells.toList := by simp
  have hzl : ∀ y, (zeros y z.cells.toList).length = y * sz := fun y => by rw [zeros_length]; simp [hzn]
  refine h _ _ (.inr ⟨w.heap.size, 0, n + x, _, rfl, heap_alloc_new w.drew _, by omega, ?_, ?_⟩) (by omega) ((Fr.drew w).trans (Fr.alloc _ _ rfl))
  · rw [← Array.length_toList, hcs, List.length_append, hzl, hzl, Nat.add_mul]; omega
  · rw [hcs, List.drop_zero, List.take_append_of_le_length (by rw [hzl]; exact Nat.le_refl _), List.take_of_length_le (by rw [hzl]; exact Nat.le_refl _)]

theorem s_bs2o {T E : TypeId} {ag : Bool} {z : Value} [hT : SlT P T E] [hs : Sz P E 1 ag] [hz : ZV P E z] {x y : Value} (hx : S.oneCell x = true) (hy : S.oneCell y = true) (hzn : z.cells.size = 1)
    (h : ∀ v' o, OwnE E 1 (w.alloc o) v' [[x], [y]] → loose o = true → New w v' → K v' (w.alloc o)) : opS P (S.buildS T 2 [(0, x), (1, y)]) K w := by
  have hc : x.cells = #[x] := by cases x <;> first | rfl | cases hx
  have hc' : y.cells = #[y] := by cases y <;> first | rfl | cases hy
  unfold S.buildS
  rw [opS_bind]
  unfold Instr.buildSlice
  rw [Sem.run_bind, run_underlying_of hT.und, Result.andThen_ok]
  simp only []
  rw [Sem.run_bind, hs.size w, Result.andThen_ok]
  simp only [Nat.mul_one]
  rw [if_neg (by omega), if_neg (by omega), Sem.run_bind, hz.zero w, Result.andThen_ok]
  have hr := range_zeros 2 z.cells
  rw [hzn] at hr
  simp only [pure_bind, hzn, Nat.mul_one] at hr ⊢
  rw [hr]
  have hzl : z.cells.toList.length = 1 := by simp [hzn]
  have hz2 : (zeros 2 z.cells.toList).length = 2 := by rw [zeros_length, hzl]
  rw [fill_cons (off := 0) (size := 1) (by simp) (by rw [hc]; rfl) (by simp [hz2]), hc]
  have e1 : (splice (zeros 2 z.cells.toList).toArray.toList 0 #[x].toList).length = 2 := by rw [splice_length] <;> simp [hz2]
  rw [fill_cons (off := 1) (size := 1) (by simp) (by rw [hc']; rfl) (by rw [List.size_toArray, e1]; exact Nat.le_refl _), hc']
  have e : splice (splice (zeros 2 z.cells.toList).toArray.toList 0 #[x].toList).toArray.toList 1 #[y].toList = [x, y] := by
    match hzs : zeros 2 z.cells.toList, hz2 with
    | [a, b], _ => rfl
  rw [e]
  simp only [Instr.fill]
  refine h _ _ ⟨.inr ⟨w.heap.size, 0, 2, #[x, y], rfl, heap_alloc_new _ _, by simp, by simp, by simp⟩, by simp⟩ rfl fun b hb => ?_
  cases hb; exact Nat.le_refl _

theorem s_bs2c {T E : TypeId} {ag : Bool} {z : Value} [hT : SlT P T E] [hs : Sz P E 1 ag] [hz : ZV P E z] {x y : Value} (hx : S.oneCell x = true) (hy : S.oneCell y = true) (hzn : z.cells.size = 1)
    (h : ∀ v' w', OwnE E 1 w' v' [[x], [y]] → Fr none_ w w' → New w v' → K v' w') : opS P (S.buildS T 2 [(0, x), (1, y)]) K w :=
  s_bs2o hx hy hzn fun v' o h1 h2 h3 => h v' _ h1 (Fr.alloc _ _ h2) h3

theorem RdE.cap {sz : Nat} {v : Value} {es : List (List Value)} (h : RdE sz w v es) : ∃ a c, v = .slice a es.length c ∧ es.length ≤ c := by
  rcases h.1 with ⟨⟨a, c, rfl⟩, h2, _⟩ | ⟨b, o, c, cs, T, fz, rfl, _, hc, _⟩
  · exact ⟨a, c, by rw [h2], by omega⟩
  · exact ⟨_, c, rfl, hc⟩

/-- 'v[:k]' -/
theorem s_slcH {T E sz : Nat} {ag : Bool} [hT : SlT P T E] [hs : Sz P E sz ag] {v : Value} {es : List (List Value)} (h : RdE sz w v es) {k : Nat} (hk : k ≤ es.length) (hK : ∀ v', RdE sz w v' (es.take k) → K v' w) : opS P (S.slc T v none (some (.int .i64 k)) none) K w := by
  obtain ⟨a, c, rfl, hc⟩ := h.cap
  rw [opS_slice (run_boundsH (hi := (k : Int)) (by omega) (by omega))]
  have := h.part (l := 0) (m := k) (by omega) hk
  rw [List.drop_zero] at this
  exact hK _ this

/-- 'v[k:]' -/
theorem s_slcL {T E sz : Nat} {ag : Bool} [hT : SlT P T E] [hs : Sz P E sz ag] {v : Value} {es : List (List Value)} (h : RdE sz w v es) {k : Nat} (hk : k ≤ es.length) (hK : ∀ v', RdE sz w v' (es.drop k) → K v' w) : opS P (S.slc T v (some (.int .i64 k)) none none) K w := by
  obtain ⟨a, c, rfl, hc⟩ := h.cap
  rw [opS_slice (run_boundsL (lo := (k : Int)) (by omega) (by omega))]
  have := h.part (l := k) (m := es.length) hk (Nat.le_refl _)
  rw [List.take_length] at this
  exact hK _ this

/-! ### What one holds, by cells -/

/-- a part of what one holds is written -/
theorem Own.copy {E b o c n m : Nat} {l js k : List Value} (h : Own E 1 w (.slice (some ⟨b, o, none⟩) (n + m) c) (n + m) (l ++ js)) (hl : l.length = n) (hk : k.length = m) :
    Own E 1 (wr w b (o + n) k) (.slice (some ⟨b, o, none⟩) (n + m) c) (n + m) (l ++ k) := by
  rcases h with ⟨h, _⟩ | ⟨b', o', c', cs, hv, hb, hc, ho, he⟩
  · cases h
  · simp only [Value.slice.injEq, Option.some.injEq, Addr.mk.injEq, and_true, true_and] at hv
    obtain ⟨⟨rfl, rfl⟩, rfl⟩ := hv
    have hsz : cs.toList.length = cs.size := Array.length_toList
    refine .inr ⟨b, o, c, (splice cs.toList (o + n) k).toArray, rfl, ?_, hc, ?_, ?_⟩
    · rw [heap_wr, if_pos rfl, hb]; rfl
    · rw [List.size_toArray, splice_length (by omega)]; simpa using ho
    · have := splice_window (l := cs.toList) (k := k) (o := o) (a := n) (by omega)
      show l ++ k = List.take _ (List.drop o (splice cs.toList (o + n) k))
      rw [Nat.mul_one, ← hk, this]
      congr 1
      have := congrArg (List.take n) he
      rw [← hl, List.take_left, List.take_take] at this
      rw [hl, Nat.mul_one, Nat.min_eq_left (by omega)] at this
      exact this

theorem Own.splice {E b o c n a : Nat} {l k : List Value} (h : Own E 1 w (.slice (some ⟨b, o, none⟩) n c) n l) (ha : a + k.length ≤ n) :
    Own E 1 (wr w b (o + a) k) (.slice (some ⟨b, o, none⟩) n c) n (Gx.splice l a k) := by
  rcases h with ⟨h, _⟩ | ⟨b', o', c', cs, hv, hb, hc, ho, rfl⟩
  · cases h
  · simp only [Value.slice.injEq, Option.some.injEq, Addr.mk.injEq, and_true, true_and] at hv
    obtain ⟨⟨rfl, rfl⟩, rfl⟩ := hv
    have hsz : cs.toList.length = cs.size := Array.length_toList
    refine .inr ⟨b, o, c, (Gx.splice cs.toList (o + a) k).toArray, rfl, ?_, hc, ?_, ?_⟩
    · rw [heap_wr, if_pos rfl, hb]; rfl
    · rw [List.size_toArray, splice_length (by omega)]; simpa using ho
    · rw [Nat.mul_one, splice_sub (by omega) ha]

/-- more of what one holds, as far as there is room -/
theorem Own.more {E b o c n : Nat} {l : List Value} (h : Own E 1 w (.slice (some ⟨b, o, none⟩) n c) n l) {m : Nat} (hm : n + m ≤ c) :
    ∃ js : List Value, js.length = m ∧ Own E 1 w (.slice (some ⟨b, o, none⟩) (n + m) c) (n + m) (l ++ js) := by
  have hl := h.rd.len
  rcases h with ⟨h, _⟩ | ⟨b', o', c', cs, hv, hb, hc, ho, rfl⟩
  · cases h
  · simp only [Value.slice.injEq, Option.some.injEq, Addr.mk.injEq, and_true, true_and] at hv
    obtain ⟨⟨rfl, rfl⟩, rfl⟩ := hv
    have hsz : cs.toList.length = cs.size := Array.length_toList
    refine ⟨(cs.toList.drop (o + n)).take m, by rw [List.length_take, List.length_drop]; omega, .inr ⟨b, o, c, cs, rfl, hb, hm, ho, ?_⟩⟩
    rw [Nat.mul_one, Nat.mul_one, List.take_add, List.drop_drop]

theorem Own.less {E b o c n m : Nat} {l : List Value} (h : Own E 1 w (.slice (some ⟨b, o, none⟩) n c) n l) (hm : m ≤ n) : Own E 1 w (.slice (some ⟨b, o, none⟩) m c) m (l.take m) := by
  rcases h with ⟨h, _⟩ | ⟨b', o', c', cs, hv, hb, hc, ho, rfl⟩
  · cases h
  · simp only [Value.slice.injEq, Option.some.injEq, Addr.mk.injEq, and_true, true_and] at hv
    obtain ⟨⟨rfl, rfl⟩, rfl⟩ := hv
    refine .inr ⟨b, o, c, cs, rfl, hb, by omega, ho, ?_⟩
    rw [List.take_take, Nat.mul_one, Nat.mul_one, Nat.min_eq_left hm]

theorem Own.cells {E b o c n : Nat} {l : List Value} (h : Own E 1 w (.slice (some ⟨b, o, none⟩) n c) n l) : ∃ cs : Array Value, w.heap[b]? = some (.cells cs E (0, 0)) ∧ n ≤ c ∧ o + c ≤ cs.size := by
  rcases h with ⟨h, _⟩ | ⟨b', o', c', cs, hv, hb, hc, ho, _⟩
  · cases h
  · simp only [Value.slice.injEq, Option.some.injEq, Addr.mk.injEq, and_true, true_and] at hv
    obtain ⟨⟨rfl, rfl⟩, rfl⟩ := hv
    exact ⟨cs, hb, hc, by omega⟩

end Go.Gx
end
