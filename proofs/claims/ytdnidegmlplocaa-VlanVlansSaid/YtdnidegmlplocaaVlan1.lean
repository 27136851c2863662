/- Tables of VLANs: what the program's functions do. -/
import Derived.Test.YtdnidegmlplocaaVlan1T
import Derived.Test.YtdnidegmlplocaaEther0
import Derived.Test.YtdnidegmlplocaaGxLoop
set_option linter.unusedVariables false
set_option linter.unusedSimpArgs false
set_option maxRecDepth 100000
namespace Go.Gx.S
open Go Go.Gx Go.Proofs
variable {K : Value → World → Prop} {w : World}

/-! ### Places as keys -/

def pk (k : Int × Int) : Value := .agg #[i64 k.1, i64 k.2]
def pkOk (k : Int × Int) : Prop := isI k.1 ∧ isI k.2

theorem ctPlace : Try.prog.cellsOf 66 = 2 := by kernel_rfl
instance : KeyC Try.prog 66 (Int × Int) pk pkOk where
  law := Maps.Keyed.of_law (deep_law_laid laidOut (m := 8) (by decide) (of_decide_eq_true (by kernel_rfl)) (by kernel_rfl) (by rw [Try.underlying66]))
  of := by
    rintro ⟨a, b⟩ ⟨ha, hb⟩
    have hk : ∀ d, Try.prog.keyLits (d + 2) 66 [i64 a, i64 b] = some ([[.int .i64 a], [.int .i64 b]] : List (List Lit)).flatten := by
      intro d
      refine kl_struct_mk (ls := [[_], [_]]) Try.underlying66 (by simp) (by rw [ctPlace]; rfl) ?_
      simp only [List.mapM_cons, List.mapM_nil, ctInt, bind, Option.bind_eq_some_iff, pure, Option.some.injEq, List.drop_succ_cons, List.drop_zero, List.take_succ_cons, List.take_zero]
      exact ⟨_, kl_int_mk uInt ha, _, ⟨_, kl_int_mk uInt hb, _, rfl, rfl⟩, rfl⟩
    have hsz : ∃ d, Try.prog.types.size + 1 = d + 2 := ⟨Try.prog.types.size - 1, by
      have : 0 < Try.prog.types.size := of_decide_eq_true (by kernel_rfl)
      omega⟩
    obtain ⟨d, hd⟩ := hsz
    have hf : (Value.agg #[i64 a, i64 b]).formed Try.prog 66 = true := by
      simp [Value.formed, Try.underlying66, ctPlace]
    have hkt : Try.prog.keyType 66 = true := by kernel_rfl
    refine ⟨.string (keyBytes ([[.int .i64 a], [.int .i64 b]] : List (List Lit)).flatten), ?_⟩
    unfold keyOf pk
    simp only [Try.underlying66, hkt, hf, Bool.and_self, if_true, hd]
    have := hk d
    simp only [Value.cells] at this ⊢
    rw [this]
    rfl
  inj := by
    rintro ⟨a, b⟩ ⟨c, d⟩ h
    simp [pk] at h
    rw [h.1, h.2]

theorem build_place (a b : Int) : opS Try.prog (S.build 66 [(0, i64 a), (1, i64 b)]) K w = K (pk (a, b)) w := by
  rw [opS_build _ rfl]; rfl

/-! ### A table -/

structure VRep (w : World) (p m nb : Nat) (t : VT) : Prop where
  blk : w.heap[p]? = some (cellsO [.map (some m), .slice (some ⟨nb, 0, none⟩) t.nat.length t.nat.length] 63)
  map : MapR pk Value.bool pkOk w m t.tab
  nat : w.heap[nb]? = some (cellsO (t.nat.map i64) 3)
  pn : p ≠ nb
  mn : m ≠ nb
  pm : p ≠ m
  ok : t.ok

def vfp (p m nb : Nat) (b : Nat) : Prop := b = p ∨ b = m ∨ b = nb
theorem VRep.fr {fp : Nat → Prop} {w w' : World} {p m nb : Nat} {t : VT} (h : VRep w p m nb t) (hf : Fr fp w w') (h1 : ¬ fp p) (h2 : ¬ fp m) (h3 : ¬ fp nb) : VRep w' p m nb t :=
  ⟨hf.heap h.blk h1, h.map.fr hf h2, hf.heap h.nat h3, h.pn, h.mn, h.pm, h.ok⟩
theorem VRep.fr0 {w w' : World} {p m nb : Nat} {t : VT} (h : VRep w p m nb t) (hf : Fr none_ w w') : VRep w' p m nb t := h.fr hf (fun h => h) (fun h => h) (fun h => h)
theorem VRep.lt {w : World} {p m nb : Nat} {t : VT} (h : VRep w p m nb t) : p < w.heap.size ∧ m < w.heap.size ∧ nb < w.heap.size := ⟨lt_of_heap h.blk, h.map.lt, lt_of_heap h.nat⟩

theorem right_isI {t : VT} (h : t.ok) {v p : Int} (hr : t.right v p) : pkOk (v, p) := by
  have := h.len
  unfold VT.right VT.port at hr
  constructor <;> rw [isI_iff] <;> simp only [] <;> omega

theorem vport_spec {p m nb : Nat} {t : VT} {n : Int} (hv : VRep w p m nb t) (h : K (.bool (decide (t.port n))) w) : CallsR Try.prog 28 #[pt p 0, i64 n] K w := by
  apply c28
  unfold p28
  simp only [push_cast, Nat.reduceAdd, Nat.reduceLeDiff, Nat.reduceLT, Int.reduceToNat, Nat.left_eq_add, Nat.add_eq_left, Nat.add_left_cancel_iff, Nat.reduceEqDiff, Nat.add_assoc, Nat.succ_ne_zero, hv.blk]
  refine br_dec (fun h1 => ?_) fun h1 => ?_
  · have : decide (n < (t.nat.length : Int)) = decide (t.port n) := decide_eq_decide.2 ⟨fun h2 => ⟨h1, h2⟩, fun h2 => h2.2⟩
    rw [this]; exact h
  · rw [decide_eq_false (fun h2 => h1 h2.1)] at h; exact h

theorem vright_spec {p m nb : Nat} {t : VT} {v n : Int} (hv : VRep w p m nb t) (h : K (.bool (decide (t.right v n))) w) : CallsR Try.prog 32 #[pt p 0, i64 v, i64 n] K w := by
  apply c32
  unfold p32
  simp only [push_cast, Nat.reduceAdd, Nat.reduceLeDiff, Nat.reduceLT, Int.reduceToNat, Nat.left_eq_add, Nat.add_eq_left, Nat.add_left_cancel_iff, Nat.reduceEqDiff, Nat.add_assoc, Nat.succ_ne_zero]
  refine br_dec (fun h1 => ?_) fun h1 => ?_
  · refine br_dec (fun h2 => ?_) fun h2 => ?_
    · refine vport_spec hv ?_
      have : decide (t.port n) = decide (t.right v n) := decide_eq_decide.2 ⟨fun h3 => ⟨h1, h2, h3⟩, fun h3 => h3.2.2⟩
      rw [this]; exact h
    · rw [decide_eq_false (fun h3 => h2 h3.2.1)] at h; exact h
  · rw [decide_eq_false (fun h3 => h1 h3.1)] at h; exact h

theorem vnew_spec (n : Int) (h0 : ¬ (1 ≤ n ∧ n ≤ 64) → K (.tuple #[.pointer none, i64 1]) w)
    (h1 : 1 ≤ n → n ≤ 64 → ∀ w' p m nb, VRep w' p m nb (VT.new n.toNat) → Fr none_ w w' → w.heap.size ≤ p → w.heap.size ≤ m → w.heap.size ≤ nb → K (.tuple #[pt p 0, i64 0]) w') :
    CallsR Try.prog 25 #[i64 n] K w := by
  apply c25
  unfold p25
  simp only [push_cast, Nat.reduceAdd, Nat.reduceLeDiff, Nat.reduceLT, Int.reduceToNat, Nat.left_eq_add, Nat.add_eq_left, Nat.add_left_cancel_iff, Nat.reduceEqDiff, Nat.add_assoc, Nat.succ_ne_zero]
  refine br_dec (fun ha => h0 (by omega)) fun ha => ?_
  refine br_dec (fun hb => h0 (by omega)) fun hb => ?_
  refine s_mkm (kc := pk) (vc := Value.bool) (kok := pkOk) fun w1 hm hF1 hs1 => ?_
  rw [opS_mks _ _ _ (by omega) (by omega) (by omega) (by rfl) (by decide)]
  simp only [push_cast, Nat.reduceAdd, Nat.reduceLeDiff, Nat.reduceLT, Int.reduceToNat, Nat.left_eq_add, Nat.add_eq_left, Nat.add_left_cancel_iff, Nat.reduceEqDiff, Nat.add_assoc, Nat.succ_ne_zero]
  rw [opS_build _ rfl]
  have e : zeros n.toNat (Value.int .i64 0).cells.toList = (List.replicate n.toNat (0 : Int)).map i64 := by
    simp [zeros, Value.cells]
  simp only [push_cast, Nat.reduceAdd, Nat.reduceLeDiff, Nat.reduceLT, Int.reduceToNat, Nat.left_eq_add, Nat.add_eq_left, Nat.add_left_cancel_iff, Nat.reduceEqDiff, Nat.add_assoc, Nat.succ_ne_zero]
  refine h1 (by omega) (by omega) _ (w1.heap.size + 1) w.heap.size w1.heap.size ⟨?_, ?_, ?_, by omega, by omega, by omega, VT.ok_new (by omega)⟩ ?_ (by omega) (Nat.le_refl _) (by omega)
  · simp only [push_cast, Nat.reduceAdd, Nat.reduceLeDiff, Nat.reduceLT, Int.reduceToNat, Nat.left_eq_add, Nat.add_eq_left, Nat.add_left_cancel_iff, Nat.reduceEqDiff, Nat.add_assoc, Nat.succ_ne_zero, VT.new, List.length_replicate]
    rfl
  · exact hm.fr (fp := none_) (by repeat' first | with_reducible exact Fr.refl _ _ | with_reducible refine Fr.step_alloc ?_ ?_ | with_reducible refine Fr.step_drew ?_ | with_reducible refine Fr.step_wr ?_ ?_ _ _ | exact rfl | exact Or.inr (by omega) | exact Or.inl rfl | exact Or.inl (Or.inl rfl) | exact Or.inl (Or.inr rfl)) (fun h => h)
  · simp only [push_cast, Nat.reduceAdd, Nat.reduceLeDiff, Nat.reduceLT, Int.reduceToNat, Nat.left_eq_add, Nat.add_eq_left, Nat.add_left_cancel_iff, Nat.reduceEqDiff, Nat.add_assoc, Nat.succ_ne_zero, VT.new]
    rw [← e]
    rfl
  · exact hF1.trans (by repeat' first | with_reducible exact Fr.refl _ _ | with_reducible refine Fr.step_alloc ?_ ?_ | with_reducible refine Fr.step_drew ?_ | with_reducible refine Fr.step_wr ?_ ?_ _ _ | exact rfl | exact Or.inr (by omega) | exact Or.inl rfl | exact Or.inl (Or.inl rfl) | exact Or.inl (Or.inr rfl))

theorem splice_ints (l : List Int) (i : Nat) (h : i < l.length) (v : Int) : splice (l.map i64) i [i64 v] = (l.set i v).map i64 := by
  rw [List.set_eq_take_append_cons_drop, if_pos h]
  unfold splice
  simp [List.map_take, List.map_drop]

theorem vnative_spec {p m nb : Nat} {t : VT} {n v : Int} (hv : VRep w p m nb t) (h : ∀ w', VRep w' p m nb (t.native n v).1 → Fr (vfp p m nb) w w' → K (i64 (t.native n v).2) w') : CallsR Try.prog 17 #[pt p 0, i64 n, i64 v] K w := by
  apply c17
  unfold p17
  simp only [push_cast, Nat.reduceAdd, Nat.reduceLeDiff, Nat.reduceLT, Int.reduceToNat, Nat.left_eq_add, Nat.add_eq_left, Nat.add_left_cancel_iff, Nat.reduceEqDiff, Nat.add_assoc, Nat.succ_ne_zero]
  refine vport_spec hv ?_
  simp only [push_cast, Nat.reduceAdd, Nat.reduceLeDiff, Nat.reduceLT, Int.reduceToNat, Nat.left_eq_add, Nat.add_eq_left, Nat.add_left_cancel_iff, Nat.reduceEqDiff, Nat.add_assoc, Nat.succ_ne_zero]
  have hbad : ¬ (t.port n ∧ 0 ≤ v ∧ v ≤ 4094) → K (i64 1) w := fun hb => by
    have := h w
    rw [VT.native, if_neg hb] at this
    exact this hv (Fr.refl _ _)
  refine br_intro (fun hp => hbad fun h2 => ?_) fun hp => ?_
  · rw [decide_eq_true h2.1] at hp; cases hp
  have hp : t.port n := by simpa using hp
  refine br_dec (fun h2 => hbad (by omega)) fun h2 => ?_
  refine br_dec (fun h3 => hbad (by omega)) fun h3 => ?_
  rw [VT.native, if_pos ⟨hp, by omega, by omega⟩] at h
  have hok := VT.ok_native hv.ok n v
  rw [VT.native, if_pos ⟨hp, by omega, by omega⟩] at hok
  simp only [push_cast, Nat.reduceAdd, Nat.reduceLeDiff, Nat.reduceLT, Int.reduceToNat, Nat.left_eq_add, Nat.add_eq_left, Nat.add_left_cancel_iff, Nat.reduceEqDiff, Nat.add_assoc, Nat.succ_ne_zero, hv.blk]
  rw [opS_iaS, if_pos (show 0 ≤ n ∧ n < _ from hp)]
  have hlt : n.toNat < t.nat.length := by have := hp.1; have := hp.2; omega
  simp only [push_cast, Nat.reduceAdd, Nat.reduceLeDiff, Nat.reduceLT, Int.reduceToNat, Nat.left_eq_add, Nat.add_eq_left, Nat.add_left_cancel_iff, Nat.reduceEqDiff, Nat.add_assoc, Nat.succ_ne_zero, hv.nat, Nat.mul_one, List.length_map]
  have hle : decide (n.toNat + 1 ≤ t.nat.length) = true := decide_eq_true (by omega)
  have hpn := hv.pn
  have hmn := hv.mn
  simp only [hle, push_cast, Nat.reduceAdd, Nat.reduceLeDiff, Nat.reduceLT, Int.reduceToNat, Nat.left_eq_add, Nat.add_eq_left, Nat.add_left_cancel_iff, Nat.reduceEqDiff, Nat.add_assoc, Nat.succ_ne_zero]
  refine h _ ⟨?_, hv.map.fr (fp := fun b => b = nb) (by repeat' first | with_reducible exact Fr.refl _ _ | with_reducible refine Fr.step_alloc ?_ ?_ | with_reducible refine Fr.step_drew ?_ | with_reducible refine Fr.step_wr ?_ ?_ _ _ | exact rfl | exact Or.inr (by omega) | exact Or.inl rfl | exact Or.inl (Or.inl rfl) | exact Or.inl (Or.inr rfl)) hmn, ?_, hpn, hmn, hv.pm, hok⟩ (Fr.wr _ _ _ _ (.inr (.inr rfl)))
  · simp only [push_cast, Nat.reduceAdd, Nat.reduceLeDiff, Nat.reduceLT, Int.reduceToNat, Nat.left_eq_add, Nat.add_eq_left, Nat.add_left_cancel_iff, Nat.reduceEqDiff, Nat.add_assoc, Nat.succ_ne_zero, hpn, hv.blk, List.length_set]
  · simp only [push_cast, Nat.reduceAdd, Nat.reduceLeDiff, Nat.reduceLT, Int.reduceToNat, Nat.left_eq_add, Nat.add_eq_left, Nat.add_left_cancel_iff, Nat.reduceEqDiff, Nat.add_assoc, Nat.succ_ne_zero, hv.nat]
    rw [splice_ints _ _ hlt]

theorem vadd_spec {p m nb : Nat} {t : VT} {v n : Int} {b : Bool} (hv : VRep w p m nb t) (h : ∀ w', VRep w' p m nb (t.add v n b).1 → Fr (vfp p m nb) w w' → K (i64 (t.add v n b).2) w') : CallsR Try.prog 19 #[pt p 0, i64 v, i64 n, .bool b] K w := by
  apply c19
  unfold p19
  simp only [push_cast, Nat.reduceAdd, Nat.reduceLeDiff, Nat.reduceLT, Int.reduceToNat, Nat.left_eq_add, Nat.add_eq_left, Nat.add_left_cancel_iff, Nat.reduceEqDiff, Nat.add_assoc, Nat.succ_ne_zero]
  refine vright_spec hv ?_
  have hok := VT.ok_add hv.ok v n b
  by_cases hr : t.right v n
  · rw [VT.add, if_pos hr] at h hok
    simp only [hr, push_cast, Nat.reduceAdd, Nat.reduceLeDiff, Nat.reduceLT, Int.reduceToNat, Nat.left_eq_add, Nat.add_eq_left, Nat.add_left_cancel_iff, Nat.reduceEqDiff, Nat.add_assoc, Nat.succ_ne_zero, hv.blk, build_place]
    refine s_mu (kc := pk) (vc := Value.bool) hv.map (right_isI hv.ok hr) fun w' hm hF => ?_
    exact h w' ⟨hF.heap hv.blk hv.pm, hm, hF.heap hv.nat (fun e => hv.mn e.symm), hv.pn, hv.mn, hv.pm, hok⟩ (hF.mono fun b _ hb => .inr (.inl hb))
  · rw [VT.add, if_neg hr] at h
    simp only [hr, push_cast, Nat.reduceAdd, Nat.reduceLeDiff, Nat.reduceLT, Int.reduceToNat, Nat.left_eq_add, Nat.add_eq_left, Nat.add_left_cancel_iff, Nat.reduceEqDiff, Nat.add_assoc, Nat.succ_ne_zero]
    exact h w hv (Fr.refl _ _)

theorem got_bool (z : Value) (o : Option Bool) : got Value.bool z o = match o with | some b => .bool b | none => z := by cases o <;> rfl

theorem vremove_spec {p m nb : Nat} {t : VT} {v n : Int} (hv : VRep w p m nb t) (h : ∀ w', VRep w' p m nb (t.remove v n).1 → Fr (vfp p m nb) w w' → K (i64 (t.remove v n).2) w') : CallsR Try.prog 20 #[pt p 0, i64 v, i64 n] K w := by
  apply c20
  unfold p20
  simp only [push_cast, Nat.reduceAdd, Nat.reduceLeDiff, Nat.reduceLT, Int.reduceToNat, Nat.left_eq_add, Nat.add_eq_left, Nat.add_left_cancel_iff, Nat.reduceEqDiff, Nat.add_assoc, Nat.succ_ne_zero]
  refine vright_spec hv ?_
  have hok := VT.ok_remove hv.ok v n
  by_cases hr : t.right v n
  · rw [VT.remove, if_pos hr] at h hok
    have hk := right_isI hv.ok hr
    simp only [hr, push_cast, Nat.reduceAdd, Nat.reduceLeDiff, Nat.reduceLT, Int.reduceToNat, Nat.left_eq_add, Nat.add_eq_left, Nat.add_left_cancel_iff, Nat.reduceEqDiff, Nat.add_assoc, Nat.succ_ne_zero, hv.blk, build_place]
    refine s_lk (kc := pk) (vc := Value.bool) hv.map hk ?_
    simp only [push_cast, Nat.reduceAdd, Nat.reduceLeDiff, Nat.reduceLT, Int.reduceToNat, Nat.left_eq_add, Nat.add_eq_left, Nat.add_left_cancel_iff, Nat.reduceEqDiff, Nat.add_assoc, Nat.succ_ne_zero]
    cases hl : getL t.tab (v, n) with
    | none =>
      rw [hl] at h
      simp only [Option.isSome_none, push_cast, Nat.reduceAdd, Nat.reduceLeDiff, Nat.reduceLT, Int.reduceToNat, Nat.left_eq_add, Nat.add_eq_left, Nat.add_left_cancel_iff, Nat.reduceEqDiff, Nat.add_assoc, Nat.succ_ne_zero]
      exact h w hv (Fr.refl _ _)
    | some b =>
      rw [hl] at h hok
      simp only [Option.isSome_some, push_cast, Nat.reduceAdd, Nat.reduceLeDiff, Nat.reduceLT, Int.reduceToNat, Nat.left_eq_add, Nat.add_eq_left, Nat.add_left_cancel_iff, Nat.reduceEqDiff, Nat.add_assoc, Nat.succ_ne_zero, hv.blk, build_place]
      refine s_del (kc := pk) (vc := Value.bool) hv.map hk fun w' hm hF => ?_
      exact h w' ⟨hF.heap hv.blk hv.pm, hm, hF.heap hv.nat (fun e => hv.mn e.symm), hv.pn, hv.mn, hv.pm, hok⟩ (hF.mono fun b _ hb => .inr (.inl hb))
  · rw [VT.remove, if_neg hr] at h
    simp only [hr, push_cast, Nat.reduceAdd, Nat.reduceLeDiff, Nat.reduceLT, Int.reduceToNat, Nat.left_eq_add, Nat.add_eq_left, Nat.add_left_cancel_iff, Nat.reduceEqDiff, Nat.add_assoc, Nat.succ_ne_zero]
    exact h w hv (Fr.refl _ _)

theorem vin_spec {p m nb : Nat} {t : VT} {n : Int} {f : Frm} {bs : List Int} (hv : VRep w p m nb t) (hf : FrmR w f bs) (h : ∀ w', Fr none_ w w' → K (.tuple #[i64 (t.inn n f bs.length).1, i64 (t.inn n f bs.length).2]) w') :
    CallsR Try.prog 12 #[pt p 0, i64 n, .agg f.cells.toArray] K w := by
  apply c12
  unfold p12
  obtain ⟨a, c, hbd⟩ := hf.2.form
  have hone : f.cells.all S.oneCell = true := Frm.one _ hf.2.one
  have h0 : (w.alloc (cellsO f.cells 27)).heap[w.heap.size]? = some (cellsO f.cells 27) := by simp only [push_cast, Nat.reduceAdd, Nat.reduceLeDiff, Nat.reduceLT, Int.reduceToNat, Nat.left_eq_add, Nat.add_eq_left, Nat.add_left_cancel_iff, Nat.reduceEqDiff, Nat.add_assoc, Nat.succ_ne_zero]
  have hF : Fr none_ w (w.alloc (cellsO f.cells 27)) := (by repeat' first | with_reducible exact Fr.refl _ _ | with_reducible refine Fr.step_alloc ?_ ?_ | with_reducible refine Fr.step_drew ?_ | with_reducible refine Fr.step_wr ?_ ?_ _ _ | exact rfl | exact Or.inr (by omega) | exact Or.inl rfl | exact Or.inl (Or.inl rfl) | exact Or.inl (Or.inr rfl))
  simp only [opS_box, cells_agg, alloc_cellsO]
  generalize w.alloc (cellsO f.cells 27) = W at *
  simp only [push_cast, Nat.reduceAdd, Nat.reduceLeDiff, Nat.reduceLT, Int.reduceToNat, Nat.left_eq_add, Nat.add_eq_left, Nat.add_left_cancel_iff, Nat.reduceEqDiff, Nat.add_assoc, Nat.succ_ne_zero]
  refine vport_spec (hv.fr0 hF) ?_
  simp only [push_cast, Nat.reduceAdd, Nat.reduceLeDiff, Nat.reduceLT, Int.reduceToNat, Nat.left_eq_add, Nat.add_eq_left, Nat.add_left_cancel_iff, Nat.reduceEqDiff, Nat.add_assoc, Nat.succ_ne_zero, h0]
  refine br_intro (fun hp => ?_) fun hp => ?_
  · have hp : ¬ t.port n := by simpa using hp
    rw [VT.inn, if_neg (fun h => hp h.1)] at h
    exact h _ hF
  have hp : t.port n := by simpa using hp
  have hlt : n.toNat < t.nat.length := by have := hp.1; have := hp.2; omega
  refine right_spec hbd fun W2 hF2 => ?_
  replace hF := hF.trans hF2
  replace h0 := hF2.heap h0 (fun h => h)
  have hv2 := hv.fr0 hF
  simp only [push_cast, Nat.reduceAdd, Nat.reduceLeDiff, Nat.reduceLT, Int.reduceToNat, Nat.left_eq_add, Nat.add_eq_left, Nat.add_left_cancel_iff, Nat.reduceEqDiff, Nat.add_assoc, Nat.succ_ne_zero]
  refine br_intro (fun hr => ?_) fun hr => ?_
  · rw [VT.inn, if_neg (fun h => by rw [h.2] at hr; cases hr)] at h
    exact h _ hF
  have hr : f.right bs.length = true := by simpa using hr
  rw [VT.inn, if_pos ⟨hp, hr⟩] at h
  simp only [push_cast, Nat.reduceAdd, Nat.reduceLeDiff, Nat.reduceLT, Int.reduceToNat, Nat.left_eq_add, Nat.add_eq_left, Nat.add_left_cancel_iff, Nat.reduceEqDiff, Nat.add_assoc, Nat.succ_ne_zero, h0, jn_1]
  have key : ∀ v : Int, isI v → K (.tuple #[i64 (if t.is v n = true then (v, (0 : Int)) else (0, 4)).1, i64 (if t.is v n = true then (v, (0 : Int)) else (0, 4)).2]) W2 →
      opS Try.prog (S.nc (pt p 0)) (fun x12 => opS Try.prog (S.fa 63 x12 0) fun x13 => opS Try.prog (S.ld 61 x13) fun x14 => opS Try.prog (S.build 66 [(0, i64 v), (1, i64 n)]) fun x15 =>
        opS Try.prog (S.lk 61 x14 x15 true) fun x16 => opS Try.prog (S.ext x16 0) fun x17 => opS Try.prog (S.ext x16 1) fun x18 => opS Try.prog (S.un .not x18) fun x19 =>
          brn x19 (K (.tuple #[.int .i64 0, .int .i64 4])) (K (.tuple #[i64 v, .int .i64 0]))) W2 := by
    intro v hvi hK
    simp only [push_cast, Nat.reduceAdd, Nat.reduceLeDiff, Nat.reduceLT, Int.reduceToNat, Nat.left_eq_add, Nat.add_eq_left, Nat.add_left_cancel_iff, Nat.reduceEqDiff, Nat.add_assoc, Nat.succ_ne_zero, hv2.blk, build_place]
    have hn : isI n := by have := hp.1; have := hp.2; have := hv.ok.len; rw [isI_iff]; omega
    refine s_lk (kc := pk) (vc := Value.bool) hv2.map ⟨hvi, hn⟩ ?_
    simp only [push_cast, Nat.reduceAdd, Nat.reduceLeDiff, Nat.reduceLT, Int.reduceToNat, Nat.left_eq_add, Nat.add_eq_left, Nat.add_left_cancel_iff, Nat.reduceEqDiff, Nat.add_assoc, Nat.succ_ne_zero]
    unfold VT.is at hK
    cases hl : getL t.tab (v, n) with
    | none =>
      rw [hl] at hK
      simp only [Option.isSome_none, push_cast, Nat.reduceAdd, Nat.reduceLeDiff, Nat.reduceLT, Int.reduceToNat, Nat.left_eq_add, Nat.add_eq_left, Nat.add_left_cancel_iff, Nat.reduceEqDiff, Nat.add_assoc, Nat.succ_ne_zero]
      exact hK
    | some b =>
      rw [hl] at hK
      simp only [Option.isSome_some, push_cast, Nat.reduceAdd, Nat.reduceLeDiff, Nat.reduceLT, Int.reduceToNat, Nat.left_eq_add, Nat.add_eq_left, Nat.add_left_cancel_iff, Nat.reduceEqDiff, Nat.add_assoc, Nat.succ_ne_zero]
      exact hK
  refine br_intro (fun h1 => ?_) fun h1 => ?_
  · have h1 : f.vlan = 0 := by simpa using h1
    simp only [push_cast, Nat.reduceAdd, Nat.reduceLeDiff, Nat.reduceLT, Int.reduceToNat, Nat.left_eq_add, Nat.add_eq_left, Nat.add_left_cancel_iff, Nat.reduceEqDiff, Nat.add_assoc, Nat.succ_ne_zero, hv2.blk]
    rw [opS_iaS, if_pos (show 0 ≤ n ∧ n < _ from hp)]
    simp only [push_cast, Nat.reduceAdd, Nat.reduceLeDiff, Nat.reduceLT, Int.reduceToNat, Nat.left_eq_add, Nat.add_eq_left, Nat.add_left_cancel_iff, Nat.reduceEqDiff, Nat.add_assoc, Nat.succ_ne_zero, hv2.nat, Nat.mul_one, List.getElem?_map, List.getElem?_eq_getElem hlt, Option.map_some]
    have hg : t.nat.getD n.toNat 0 = t.nat[n.toNat] := by simp [List.getD, List.getElem?_eq_getElem hlt]
    rw [if_pos h1, hg] at h
    have := key t.nat[n.toNat] (by have := hv.ok.nat _ (List.getElem_mem hlt); rw [isI_iff]; omega) (h _ hF)
    simp only [push_cast, Nat.reduceAdd, Nat.reduceLeDiff, Nat.reduceLT, Int.reduceToNat, Nat.left_eq_add, Nat.add_eq_left, Nat.add_left_cancel_iff, Nat.reduceEqDiff, Nat.add_assoc, Nat.succ_ne_zero] at this
    exact this
  · have h1 : f.vlan ≠ 0 := by simpa using h1
    rw [if_neg h1] at h
    have := key f.vlan hf.1.2.2.1 (h _ hF)
    simp only [push_cast, Nat.reduceAdd, Nat.reduceLeDiff, Nat.reduceLT, Int.reduceToNat, Nat.left_eq_add, Nat.add_eq_left, Nat.add_left_cancel_iff, Nat.reduceEqDiff, Nat.add_assoc, Nat.succ_ne_zero] at this
    exact this

theorem vout_spec {p m nb : Nat} {t : VT} {v n : Int} {f : Frm} {bs : List Int} (hv : VRep w p m nb t) (hf : FrmR w f bs) (h : ∀ w', Fr none_ w w' → K (.tuple #[.agg (t.out v n f bs.length).1.cells.toArray, i64 (t.out v n f bs.length).2]) w') :
    CallsR Try.prog 14 #[pt p 0, i64 v, i64 n, .agg f.cells.toArray] K w := by
  apply c14
  unfold p14
  obtain ⟨a, c, hbd⟩ := hf.2.form
  have hone : f.cells.all S.oneCell = true := Frm.one _ hf.2.one
  have hone0 : zFrm.cells.all S.oneCell = true := rfl
  have hz : ∀ w : World, w.alloc (cellsO [Value.int IntKind.u8 0, Value.int IntKind.u8 0, Value.int IntKind.u8 0, Value.int IntKind.u8 0, Value.int IntKind.u8 0, Value.int IntKind.u8 0, Value.int IntKind.u8 0, Value.int IntKind.u8 0, Value.int IntKind.u8 0, Value.int IntKind.u8 0, Value.int IntKind.u8 0, Value.int IntKind.u8 0,
    Value.bool false, Value.int IntKind.i64 0, Value.int IntKind.i64 0, Value.int IntKind.i64 0, Value.slice none 0 0] 27) = w.alloc (cellsO zFrm.cells 27) := fun _ => rfl
  simp only [push_cast, Nat.reduceAdd, Nat.reduceLeDiff, Nat.reduceLT, Int.reduceToNat, Nat.left_eq_add, Nat.add_eq_left, Nat.add_left_cancel_iff, Nat.reduceEqDiff, Nat.add_assoc, Nat.succ_ne_zero, hz]
  have h0 : ((w.alloc (cellsO f.cells 27)).alloc (cellsO zFrm.cells 27)).heap[w.heap.size]? = some (cellsO f.cells 27) := by simp only [push_cast, Nat.reduceAdd, Nat.reduceLeDiff, Nat.reduceLT, Int.reduceToNat, Nat.left_eq_add, Nat.add_eq_left, Nat.add_left_cancel_iff, Nat.reduceEqDiff, Nat.add_assoc, Nat.succ_ne_zero]
  have h1 : ((w.alloc (cellsO f.cells 27)).alloc (cellsO zFrm.cells 27)).heap[w.heap.size + 1]? = some (cellsO zFrm.cells 27) := by simp only [push_cast, Nat.reduceAdd, Nat.reduceLeDiff, Nat.reduceLT, Int.reduceToNat, Nat.left_eq_add, Nat.add_eq_left, Nat.add_left_cancel_iff, Nat.reduceEqDiff, Nat.add_assoc, Nat.succ_ne_zero]
  have hF : Fr none_ w ((w.alloc (cellsO f.cells 27)).alloc (cellsO zFrm.cells 27)) := (by repeat' first | with_reducible exact Fr.refl _ _ | with_reducible refine Fr.step_alloc ?_ ?_ | with_reducible refine Fr.step_drew ?_ | with_reducible refine Fr.step_wr ?_ ?_ _ _ | exact rfl | exact Or.inr (by omega) | exact Or.inl rfl | exact Or.inl (Or.inl rfl) | exact Or.inl (Or.inr rfl))
  generalize (w.alloc (cellsO f.cells 27)).alloc (cellsO zFrm.cells 27) = W at *
  refine vright_spec (hv.fr0 hF) ?_
  simp only [push_cast, Nat.reduceAdd, Nat.reduceLeDiff, Nat.reduceLT, Int.reduceToNat, Nat.left_eq_add, Nat.add_eq_left, Nat.add_left_cancel_iff, Nat.reduceEqDiff, Nat.add_assoc, Nat.succ_ne_zero, h0, h1, hone, hone0, build_zFrm]
  refine br_intro (fun hp => ?_) fun hp => ?_
  · have hp : ¬ t.right v n := by simpa using hp
    rw [VT.out, if_neg (fun h => hp h.1)] at h
    exact h _ (hF.step_wr (Or.inr (by omega)) _ _)
  have hp : t.right v n := by simpa using hp
  refine right_spec hbd fun W2 hF2 => ?_
  replace hF := hF.trans hF2
  replace h0 := hF2.heap h0 (fun h => h)
  replace h1 := hF2.heap h1 (fun h => h)
  have hv2 := hv.fr0 hF
  simp only [push_cast, Nat.reduceAdd, Nat.reduceLeDiff, Nat.reduceLT, Int.reduceToNat, Nat.left_eq_add, Nat.add_eq_left, Nat.add_left_cancel_iff, Nat.reduceEqDiff, Nat.add_assoc, Nat.succ_ne_zero, h0, h1, hone, hone0, build_zFrm]
  refine br_intro (fun hr => ?_) fun hr => ?_
  · rw [VT.out, if_neg (fun h => by rw [h.2] at hr; cases hr)] at h
    exact h _ (hF.step_wr (Or.inr (by omega)) _ _)
  have hr : f.right bs.length = true := by simpa using hr
  rw [VT.out, if_pos ⟨hp, hr⟩] at h
  simp only [push_cast, Nat.reduceAdd, Nat.reduceLeDiff, Nat.reduceLT, Int.reduceToNat, Nat.left_eq_add, Nat.add_eq_left, Nat.add_left_cancel_iff, Nat.reduceEqDiff, Nat.add_assoc, Nat.succ_ne_zero, hv2.blk, build_place]
  refine s_lk (kc := pk) (vc := Value.bool) hv2.map (right_isI hv.ok hp) ?_
  simp only [push_cast, Nat.reduceAdd, Nat.reduceLeDiff, Nat.reduceLT, Int.reduceToNat, Nat.left_eq_add, Nat.add_eq_left, Nat.add_left_cancel_iff, Nat.reduceEqDiff, Nat.add_assoc, Nat.succ_ne_zero]
  cases hl : getL t.tab (v, n) with
  | none =>
    rw [hl] at h
    simp only [Option.isSome_none, push_cast, Nat.reduceAdd, Nat.reduceLeDiff, Nat.reduceLT, Int.reduceToNat, Nat.left_eq_add, Nat.add_eq_left, Nat.add_left_cancel_iff, Nat.reduceEqDiff, Nat.add_assoc, Nat.succ_ne_zero, h0, h1, hone, hone0, build_zFrm]
    exact h _ (hF.step_wr (Or.inr (by omega)) _ _)
  | some b =>
    rw [hl] at h
    cases b with
    | true =>
      simp only [Option.isSome_some, got, push_cast, Nat.reduceAdd, Nat.reduceLeDiff, Nat.reduceLT, Int.reduceToNat, Nat.left_eq_add, Nat.add_eq_left, Nat.add_left_cancel_iff, Nat.reduceEqDiff, Nat.add_assoc, Nat.succ_ne_zero, h0, h1, hone, hone0, build_zFrm]
      refine tag_spec (hf.fr0 hF) fun W3 hF3 => ?_
      replace h0 := hF3.heap h0 (fun h => h)
      replace h1 := hF3.heap h1 (fun h => h)
      replace hF := hF.trans hF3
      rw [if_pos (VT.tag_right hr hp.1 hp.2.1)]
      have hone2 : (f.tag v f.prio).cells.all S.oneCell = true := Frm.one _ hf.2.one
      simp only [push_cast, Nat.reduceAdd, Nat.reduceLeDiff, Nat.reduceLT, Int.reduceToNat, Nat.left_eq_add, Nat.add_eq_left, Nat.add_left_cancel_iff, Nat.reduceEqDiff, Nat.add_assoc, Nat.succ_ne_zero, h0, h1, hone2]
      exact h _ (hF.step_wr (Or.inr (by omega)) _ _)
    | false =>
      simp only [Option.isSome_some, got, push_cast, Nat.reduceAdd, Nat.reduceLeDiff, Nat.reduceLT, Int.reduceToNat, Nat.left_eq_add, Nat.add_eq_left, Nat.add_left_cancel_iff, Nat.reduceEqDiff, Nat.add_assoc, Nat.succ_ne_zero, h0, h1, hone, hone0, build_zFrm]
      refine untag_spec (hf.fr0 hF) fun W3 hF3 => ?_
      replace h0 := hF3.heap h0 (fun h => h)
      replace h1 := hF3.heap h1 (fun h => h)
      replace hF := hF.trans hF3
      have hone2 : f.untag.cells.all S.oneCell = true := Frm.one _ hf.2.one
      simp only [push_cast, Nat.reduceAdd, Nat.reduceLeDiff, Nat.reduceLT, Int.reduceToNat, Nat.left_eq_add, Nat.add_eq_left, Nat.add_left_cancel_iff, Nat.reduceEqDiff, Nat.add_assoc, Nat.succ_ne_zero, h0, h1, hone2]
      exact h _ (hF.step_wr (Or.inr (by omega)) _ _)

theorem vmembers_spec {p m nb : Nat} {t : VT} {v : Int} (hv : VRep w p m nb t) (hvi : isI v) (h : ∀ w' x, OwnE 3 1 w' x ((t.members v).map cellI) → Fr none_ w w' → New w x → K x w') :
    CallsR Try.prog 18 #[pt p 0, i64 v] K w := by
  apply c18
  unfold p18
  simp only [push_cast, Nat.reduceAdd, Nat.reduceLeDiff, Nat.reduceLT, Int.reduceToNat, Nat.left_eq_add, Nat.add_eq_left, Nat.add_left_cancel_iff, Nat.reduceEqDiff, Nat.add_assoc, Nat.succ_ne_zero, hv.blk, jn_1]
  have hlen := hv.ok.len
  refine loop2 (fun mm x y w' => ∃ i : Nat, y = i64 i ∧ i + mm = t.nat.length ∧ Fr none_ w w' ∧ OwnE 3 1 w' x ((((List.range i).map Int.ofNat).filter fun p => t.is v p).map cellI) ∧ New w x) ?_ t.nat.length ⟨0, rfl, by omega, Fr.refl _ _, own_nil _ _ _, fun b hb => by cases hb⟩
  rintro mm x y w' X ⟨i, rfl, hi, hF, hx, hN⟩ hX
  have hv' := hv.fr0 hF
  simp only [push_cast, Nat.reduceAdd, Nat.reduceLeDiff, Nat.reduceLT, Int.reduceToNat, Nat.left_eq_add, Nat.add_eq_left, Nat.add_left_cancel_iff, Nat.reduceEqDiff, Nat.add_assoc, Nat.succ_ne_zero, hv'.blk, build_place]
  refine br_dec (fun hlt => ?_) fun hge => ?_
  · refine s_lk (kc := pk) (vc := Value.bool) hv'.map ⟨hvi, isI_iff.2 ⟨by simp only []; omega, by simp only []; omega⟩⟩ ?_
    simp only [push_cast, Nat.reduceAdd, Nat.reduceLeDiff, Nat.reduceLT, Int.reduceToNat, Nat.left_eq_add, Nat.add_eq_left, Nat.add_left_cancel_iff, Nat.reduceEqDiff, Nat.add_assoc, Nat.succ_ne_zero]
    have hstep : (((List.range (i + 1)).map Int.ofNat).filter fun p => t.is v p) = (((List.range i).map Int.ofNat).filter fun p => t.is v p) ++ (if t.is v i then [(i : Int)] else []) := by
      rw [List.range_succ, List.map_append, List.filter_append]
      congr 1
      by_cases hti : t.is v i <;> simp [hti]
    have hl2 : (((List.range i).map Int.ofNat).filter fun p => t.is v p).length ≤ i := by
      refine Nat.le_trans (List.length_filter_le _ _) ?_
      simp
    have hw : IntKind.i64.wrap ((i : Int) + 1) = ((i + 1 : Nat) : Int) := by rw [wrap_i64 (by omega)]; omega
    refine br_intro (fun hs => ?_) fun hs => ?_
    · have hti : t.is v i = true := hs
      rw [hti] at hstep
      refine s_app1 (by rfl) (by rfl) (by decide) hx (by rw [List.length_map]; omega) fun x' w2 hx' hb hF2 => ?_
      simp only [push_cast, Nat.reduceAdd, Nat.reduceLeDiff, Nat.reduceLT, Int.reduceToNat, Nat.left_eq_add, Nat.add_eq_left, Nat.add_left_cancel_iff, Nat.reduceEqDiff, Nat.add_assoc, Nat.succ_ne_zero, hw]
      refine hX (mm - 1) _ _ _ (by omega) ⟨i + 1, rfl, by omega, hF.trans_new hF2 (fun b hb h => by have := hN b h; omega), ?_, ?_⟩
      · rw [hstep, List.map_append]; exact hx'
      · intro b hb'
        rcases hb with hb | hb
        · exact hN b (hb ▸ hb')
        · exact Nat.le_trans hF.size (hb b hb')
    · have hti : t.is v i = false := hs
      rw [hti] at hstep
      simp only [push_cast, Nat.reduceAdd, Nat.reduceLeDiff, Nat.reduceLT, Int.reduceToNat, Nat.left_eq_add, Nat.add_eq_left, Nat.add_left_cancel_iff, Nat.reduceEqDiff, Nat.add_assoc, Nat.succ_ne_zero, hw]
      refine hX (mm - 1) _ _ _ (by omega) ⟨i + 1, rfl, by omega, hF, ?_, hN⟩
      rw [hstep]
      simpa using hx
  · obtain rfl : i = t.nat.length := by omega
    exact h _ _ hx hF hN

end Go.Gx.S
