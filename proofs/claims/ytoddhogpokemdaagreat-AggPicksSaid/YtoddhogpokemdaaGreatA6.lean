/- Own texts, put together. -/
import Derived.Test.YtoddhogpokemdaaGreatA5
section
/- The document's group: which ports are selected. -/
set_option linter.unusedVariables false
set_option linter.unusedSimpArgs false
set_option maxRecDepth 100000
namespace Go.Gx.S
open Go Go.Gx Go.Proofs
variable {K : Value → World → Prop} {w : World} {g : Nat} {bs : List B3} {pv fv : Value} {s : Grp} {t : B3} {x : Lk}

theorem gq_ldN {b want : Bool} {W : World} {T n : Nat} [hs : Sz Tryz.prog T n true] {p : Nat} {v : Value} {x : Obj} {o : Nat} (hn : 0 < n) (hb : W.heap[p]? = some x) (hv : aggAt (some x) o n = some v) (hk : K (cv b want v) w) : gqtS Tryz.prog (Fr none_ W) (.bool b) want (S.ld T (cv b want (pt p o))) K w :=
  gq_gen _ (fun e R w' hC hR => by rw [cv_pos e, s_ldN hn, hC.heap hb (fun h => h), hv]; exact hR w' hC) hk
theorem gq_faP {b want : Bool} {C : World → Prop} {p : Nat} (hk : K (cv b want (pt p 1)) w) : gqtS Tryz.prog C (.bool b) want (S.fa 84 (cv b want (pt p 0)) 1) K w :=
  gq_pure (fun e R w' => by rw [cv_pos e]; exact fa84_1 _ _) hk
theorem gq_faE {b want : Bool} {C : World → Prop} {p : Nat} (hk : K (cv b want (pt p 11)) w) : gqtS Tryz.prog C (.bool b) want (S.fa 101 (cv b want (pt p 0)) 1) K w :=
  gq_pure (fun e R w' => by rw [cv_pos e]; exact fa101_1 _ _) hk
theorem gq_gtrC {b want : Bool} {C : World → Prop} {x y : Int} (hk : K (cv b want (.bool (decide (x > y)))) w) : gqtS Tryz.prog C (.bool b) want (S.binI .gtr (cv b want (i64 x)) (i64 y)) K w := gq_gtr hk

/-- each port is turned, one behind the other -/
theorem reach_spec {f : Lk → Lk} {body : (Value → World → Prop) → Value → World → Prop} {j : World → Prop} {fin : Lk → Prop} (h : RG w g bs pv s) (hn : s.l.length ≤ 32) (hfin : ∀ x ∈ s.l, fin x)
    (hb : ∀ (i : Nat) (t : B3) (x : Lk) (W : World) (X : Value → World → Prop), i < s.l.length → fin x → bs[i]? = some t → s.l[i]? = some x → RLk W t x → RG W g bs pv { s with l := mapK f s.l i } → Fr (fL bs) w W → (∀ W2, RLk W2 t (f x) → Fr t.fp W W2 → X (i64 ((i + 1 : Nat) : Int)) W2) → body X (i64 i) W)
    (hj : ∀ W, RG W g bs pv { s with l := s.l.map f } → Fr (fL bs) w W → j W) :
    loopJ 1 (fun X x => opS Tryz.prog (S.nc (pt g 0)) fun x3 => opS Tryz.prog (S.fa 75 x3 0) fun x4 => opS Tryz.prog (S.ld 73 x4) fun x5 => opS Tryz.prog (S.len x5) fun x6 => opS Tryz.prog (S.binI .lss x x6) fun c => brn c (body X x) j) (i64 0) w := by
  refine loop1 (fun m u W => ∃ i : Nat, u = i64 i ∧ i + m = s.l.length ∧ RG W g bs pv { s with l := mapK f s.l i } ∧ Fr (fL bs) w W) ?_ s.l.length ⟨0, rfl, by omega, by rw [mapK_0]; exact h, Fr.refl _ _⟩
  rintro m u W X ⟨i, rfl, hi, hI, hF⟩ hX
  simp only [push_cast, Nat.reduceAdd, Nat.reduceLeDiff, Nat.reduceLT, Int.reduceToNat, Nat.left_eq_add, Nat.add_eq_left, Nat.add_left_cancel_iff, Nat.reduceEqDiff, Nat.add_assoc, Nat.succ_ne_zero, hI.main]
  rw [hI.lenv]
  have hml : (mapK f s.l i).length = s.l.length := mapK_len
  simp only [push_cast, Nat.reduceAdd, Nat.reduceLeDiff, Nat.reduceLT, Int.reduceToNat, Nat.left_eq_add, Nat.add_eq_left, Nat.add_left_cancel_iff, Nat.reduceEqDiff, Nat.add_assoc, Nat.succ_ne_zero, hml]
  refine br_dec (fun hlt => ?_) fun hge => ?_
  · have hil : i < s.l.length := by omega
    have hx : s.l[i]? = some s.l[i] := List.getElem?_eq_getElem hil
    have hx2 : (mapK f s.l i)[i]? = some s.l[i] := mapK_at hx
    obtain ⟨t, ht, hl⟩ := hI.blk hx2
    refine hb i t _ W X hil (hfin _ (List.getElem_mem hil)) ht hx hl hI hF fun W2 h2 hF2 => ?_
    obtain ⟨h3, hF3⟩ := hI.set ht hF2 h2
    refine hX (m - 1) _ _ (by omega) ⟨i + 1, rfl, by omega, ?_, hF.trans hF3⟩
    have := mapK_set (f := f) hx
    simp only [this] at h3
    exact h3
  · rw [mapK_end (by omega)] at hI
    exact hj W hI hF

/-! ### Plain: the first that is sound -/

def pre2 (l : List Lk) : List Lk := match l.findIdx? (·.picked) with | some _ => l | none => match l.findIdx? Lk.sound with | none => l | some k => l.modify k fun x => { x with picked := true }
theorem pre2_len (l : List Lk) : (pre2 l).length = l.length := by
  unfold pre2
  split
  · rfl
  · split
    · rfl
    · rw [List.length_modify]
theorem pre2_e (l : List Lk) (i : Nat) : ((pre2 l)[i]?).map (·.e) = (l[i]?).map (·.e) ∧ ∀ b, ((pre2 l)[i]?).map (fun x => { x with picked := b }) = (l[i]?).map (fun x => { x with picked := b }) := by
  unfold pre2
  split
  · exact ⟨rfl, fun _ => rfl⟩
  · split
    · exact ⟨rfl, fun _ => rfl⟩
    · rename_i k _
      rw [List.getElem?_modify]
      cases l[i]? with
      | none => exact ⟨rfl, fun _ => rfl⟩
      | some y =>
        by_cases e : k = i
        · simp [e]
        · simp [e]
theorem modify_set {l : List Lk} {k : Nat} {x : Lk} {f : Lk → Lk} (hx : l[k]? = some x) : l.modify k f = l.set k (f x) := by
  apply List.ext_getElem?
  intro i
  rw [List.getElem?_modify, List.getElem?_set]
  by_cases e : k = i
  · subst e
    have hi := (List.getElem?_eq_some_iff.1 hx).1
    rw [hx, if_pos rfl, if_pos hi]; simp
  · rw [if_neg e]; simp [e]
theorem set_none {l : List Lk} {i : Nat} {x : Lk} (hx : l[i]? = some x) (hs : x.sound = false) (hp : x.picked = false) : l.set i { x with picked := x.sound } = l := by
  have : ({ x with picked := x.sound } : Lk) = x := by rw [hs, ← hp]
  rw [this]
  exact set_same hx
theorem pre2_lead {l : List Lk} : (pre2 l).findIdx? (·.picked) = lead l := by
  unfold pre2 lead
  cases e1 : l.findIdx? (·.picked) with
  | some k => exact e1
  | none =>
    simp only []
    cases e2 : l.findIdx? Lk.sound with
    | none => rw [e1]; rfl
    | some k =>
      show _ = some k
      obtain ⟨hk, hs, _⟩ := List.findIdx?_eq_some_iff_getElem.1 e2
      have hno := List.findIdx?_eq_none_iff.1 e1
      refine findIdx_at (by rw [List.length_modify]; exact hk) (fun x hx => ?_) ?_
      · rw [List.mem_iff_getElem?] at hx
        obtain ⟨j, hj⟩ := hx
        rw [List.getElem?_take] at hj
        split at hj
        · rw [List.getElem?_modify] at hj
          cases e : l[j]? with
          | none => rw [e] at hj; cases hj
          | some y =>
            rw [e] at hj
            rename_i hlt
            have hj : (if k = j then { y with picked := true } else y) = x := Option.some.inj hj
            rw [if_neg (by omega)] at hj
            rw [← hj]
            exact hno y (List.mem_of_getElem? e)
        · cases hj
      · rw [List.getElem_modify]
        simp

theorem lead_lt' {l : List Lk} {k : Nat} (h : lead l = some k) : k < l.length := by
  unfold lead at h
  cases e1 : l.findIdx? (·.picked) with
  | some i =>
    rw [e1] at h
    cases h
    exact (List.findIdx?_eq_some_iff_getElem.1 e1).1
  | none =>
    rw [e1] at h
    exact (List.findIdx?_eq_some_iff_getElem.1 h).1

set_option maxHeartbeats 1000000 in
theorem rpick_spec (h : RG w g bs pv s) (hw : s.wf)
    (hk : ∀ w', RG w' g bs pv (pickP s) → Fr (fL bs) w w' → K (.tuple #[]) w') : CallsR Tryz.prog 62 #[pt g 0] K w := by
  apply c62
  unfold p62
  have hn := hw.len
  refine jn0 (fun W => RG W g bs pv { s with l := s.l.map Lk.keep } ∧ Fr (fL bs) w W) ?_ fun j hj => ?_
  case refine_2 =>
    refine reach_spec (f := Lk.keep) (fin := fun _ => True) h hn (fun _ _ => trivial) ?_ fun W h1 hF1 => hj W ⟨h1, hF1⟩
    intro i t x W X hi _ ht hx hl hI hF hX
    have hwk : IntKind.i64.wrap ((i : Int) + 1) = ((i + 1 : Nat) : Int) := by rw [wrap_i64 (by omega)]; rfl
    simp only [push_cast, Nat.reduceAdd, Nat.reduceLeDiff, Nat.reduceLT, Int.reduceToNat, Nat.left_eq_add, Nat.add_eq_left, Nat.add_left_cancel_iff, Nat.reduceEqDiff, Nat.add_assoc, Nat.succ_ne_zero, hI.main]
    refine hI.ld ht ?_
    simp only [push_cast, Nat.reduceAdd, Nat.reduceLeDiff, Nat.reduceLT, Int.reduceToNat, Nat.left_eq_add, Nat.add_eq_left, Nat.add_left_cancel_iff, Nat.reduceEqDiff, Nat.add_assoc, Nat.succ_ne_zero]
    refine rsound_spec hl ?_
    have hId := hI.fr0 (Fr.drew W)
    have hld := hl.fr0 (Fr.drew W)
    have hFd : Fr t.fp W W.drew := Fr.drew W
    simp only [push_cast, Nat.reduceAdd, Nat.reduceLeDiff, Nat.reduceLT, Int.reduceToNat, Nat.left_eq_add, Nat.add_eq_left, Nat.add_left_cancel_iff, Nat.reduceEqDiff, Nat.add_assoc, Nat.succ_ne_zero, hI.main]
    generalize W.drew = W1 at *
    refine hId.ld ht ?_
    simp only [push_cast, Nat.reduceAdd, Nat.reduceLeDiff, Nat.reduceLT, Int.reduceToNat, Nat.left_eq_add, Nat.add_eq_left, Nat.add_left_cancel_iff, Nat.reduceEqDiff, Nat.add_assoc, Nat.succ_ne_zero, hId.main]
    refine hId.ld ht ?_
    simp only [push_cast, Nat.reduceAdd, Nat.reduceLeDiff, Nat.reduceLT, Int.reduceToNat, Nat.left_eq_add, Nat.add_eq_left, Nat.add_left_cancel_iff, Nat.reduceEqDiff, Nat.add_assoc, Nat.succ_ne_zero, hld.b]
    refine br_intro (fun e => ?_) fun e => ?_
    · obtain ⟨h3, hF3⟩ := hld.wrB (lkC_spicked true t x x.sound) rfl rfl
      simp only [push_cast, Nat.reduceAdd, Nat.reduceLeDiff, Nat.reduceLT, Int.reduceToNat, Nat.left_eq_add, Nat.add_eq_left, Nat.add_left_cancel_iff, Nat.reduceEqDiff, Nat.add_assoc, Nat.succ_ne_zero, hld.b, hwk]
      refine hX _ ?_ (hFd.trans hF3)
      unfold Lk.keep
      rw [show x.picked = true from e, Bool.true_and]
      exact h3
    · obtain ⟨h3, hF3⟩ := hld.wrB (lkC_spicked true t x false) rfl rfl
      simp only [push_cast, Nat.reduceAdd, Nat.reduceLeDiff, Nat.reduceLT, Int.reduceToNat, Nat.left_eq_add, Nat.add_eq_left, Nat.add_left_cancel_iff, Nat.reduceEqDiff, Nat.add_assoc, Nat.succ_ne_zero, hld.b, hwk]
      refine hX _ ?_ (hFd.trans hF3)
      unfold Lk.keep
      rw [show x.picked = false from e, Bool.false_and]
      exact h3
  rintro W1 ⟨h1, hF1⟩
  have hk1 : ∀ x ∈ s.l.map Lk.keep, x.wf := map_wf hw.l fun x hx => hx.pick _
  unfold pickP at hk
  simp only [] at hk
  have hn1 : (s.l.map Lk.keep).length ≤ 32 := by rw [List.length_map]; exact hn
  generalize s.l.map Lk.keep = l1 at *
  refine jn0 (fun W => RG W g bs pv { s with l := pre2 l1 } ∧ Fr (fL bs) w W) ?_ fun j hj => ?_
  case refine_2 =>
    refine loop1 (fun m u W => ∃ i : Nat, i + m = l1.length ∧ u = i64 i ∧ Fr (fL bs) w W ∧ ((l1.findIdx? (·.picked) = none ∧ (∀ x ∈ l1.take i, x.sound = false) ∧ RG W g bs pv { s with l := l1 }) ∨ (RG W g bs pv { s with l := pre2 l1 } ∧ ∃ k, (pre2 l1).findIdx? (·.picked) = some k))) ?_ l1.length ⟨0, by omega, rfl, hF1, ?_⟩
    case refine_2 =>
      cases e : l1.findIdx? (·.picked) with
      | none => exact .inl ⟨rfl, by simp, h1⟩
      | some k =>
        have e2 : pre2 l1 = l1 := by unfold pre2; rw [e]
        exact .inr ⟨by rw [e2]; exact h1, k, by rw [e2]; exact e⟩
    rintro m u W X ⟨i, hi, rfl, hF, hcase⟩ hX
    rcases hcase with ⟨hno, hun, hI⟩ | ⟨hI, k, hkp⟩
    · simp only [push_cast, Nat.reduceAdd, Nat.reduceLeDiff, Nat.reduceLT, Int.reduceToNat, Nat.left_eq_add, Nat.add_eq_left, Nat.add_left_cancel_iff, Nat.reduceEqDiff, Nat.add_assoc, Nat.succ_ne_zero, hI.main]
      rw [hI.lenv]
      simp only [push_cast, Nat.reduceAdd, Nat.reduceLeDiff, Nat.reduceLT, Int.reduceToNat, Nat.left_eq_add, Nat.add_eq_left, Nat.add_left_cancel_iff, Nat.reduceEqDiff, Nat.add_assoc, Nat.succ_ne_zero]
      refine br_dec (fun hlt => ?_) fun hge => ?_
      · have hil : i < l1.length := by
          have : (i : Int) < (l1.length : Int) := hlt
          omega
        have hx : l1[i]? = some l1[i] := List.getElem?_eq_getElem hil
        obtain ⟨t, ht, hl⟩ := hI.blk (i := i) hx
        have hwk : IntKind.i64.wrap ((i : Int) + 1) = ((i + 1 : Nat) : Int) := by rw [wrap_i64 (by omega)]; rfl
        refine rleader_spec hI hn1 (fun _ => ?_) fun i' t' x' e => by
          have e : l1.findIdx? (·.picked) = some i' := e
          rw [hno] at e; cases e
        have hId := hI.fr0 (Fr.drew W)
        have hld := hl.fr0 (Fr.drew W)
        have hFd : Fr t.fp W W.drew := Fr.drew W
        have hpf : l1[i].picked = false := List.findIdx?_eq_none_iff.1 hno _ (List.getElem_mem hil)
        obtain ⟨h3, hF3⟩ := hld.wrB (lkC_spicked true t l1[i] l1[i].sound) rfl rfl
        have hend : X (i64 ((i + 1 : Nat) : Int)) (wr W.drew t.b 3 [.bool l1[i].sound]) := by
          obtain ⟨h4, hF4⟩ := hId.set ht hF3 h3
          have hF5 := (hF.trans (Fr.drew W)).trans hF4
          refine hX (m - 1) _ _ (by omega) ⟨i + 1, by omega, rfl, hF5, ?_⟩
          cases hs : l1[i].sound with
          | false =>
            refine .inl ⟨hno, take_all hil hun hs, ?_⟩
            have : l1.set i { l1[i] with picked := l1[i].sound } = l1 := set_none hx hs hpf
            have h4 : RG (wr W.drew t.b 3 [.bool l1[i].sound]) g bs pv { s with l := l1.set i { l1[i] with picked := l1[i].sound } } := h4
            rw [this, hs] at h4
            exact h4
          | true =>
            have hfs : l1.findIdx? Lk.sound = some i := findIdx_at hil hun hs
            have hp2 : pre2 l1 = l1.set i { l1[i] with picked := true } := by
              unfold pre2
              rw [hno, hfs]
              exact modify_set hx
            have h4 : RG (wr W.drew t.b 3 [.bool l1[i].sound]) g bs pv { s with l := l1.set i { l1[i] with picked := l1[i].sound } } := h4
            rw [hs] at h4
            refine .inr ⟨by rw [hp2]; exact h4, i, ?_⟩
            rw [pre2_lead]
            unfold lead
            rw [hno, hfs]; rfl
        simp only [push_cast, Nat.reduceAdd, Nat.reduceLeDiff, Nat.reduceLT, Int.reduceToNat, Nat.left_eq_add, Nat.add_eq_left, Nat.add_left_cancel_iff, Nat.reduceEqDiff, Nat.add_assoc, Nat.succ_ne_zero, hI.main]
        generalize W.drew = W2 at *
        refine hId.ld ht ?_
        refine allW_intro ?_ ?_
        · simp only [push_cast, Nat.reduceAdd, Nat.reduceLeDiff, Nat.reduceLT, Int.reduceToNat, Nat.left_eq_add, Nat.add_eq_left, Nat.add_left_cancel_iff, Nat.reduceEqDiff, Nat.add_assoc, Nat.succ_ne_zero, hId.main]
          obtain ⟨hil2, e2⟩ := List.getElem?_eq_some_iff.1 ht
          refine s_iaE hId.pvs (by omega) (by simpa using hil2) fun b1 o1 c1 _ hE => ?_
          simp only [Int.toNat_natCast, List.getElem_map] at hE ⊢
          have hE0 := hE.cell0 (by show 0 < 1; decide)
          rw [e2] at hE0
          refine allW_intro ?_ ?_
          · simp only [push_cast, Nat.reduceAdd, Nat.reduceLeDiff, Nat.reduceLT, Int.reduceToNat, Nat.left_eq_add, Nat.add_eq_left, Nat.add_left_cancel_iff, Nat.reduceEqDiff, Nat.add_assoc, Nat.succ_ne_zero, hE0, List.getElem?_cons_zero]
            refine rsound_spec hld ?_
            simp only [push_cast, Nat.reduceAdd, Nat.reduceLeDiff, Nat.reduceLT, Int.reduceToNat, Nat.left_eq_add, Nat.add_eq_left, Nat.add_left_cancel_iff, Nat.reduceEqDiff, Nat.add_assoc, Nat.succ_ne_zero, hld.b, hwk]
            exact hend
          · refine rsound_spec hld ?_
            simp only [push_cast, Nat.reduceAdd, Nat.reduceLeDiff, Nat.reduceLT, Int.reduceToNat, Nat.left_eq_add, Nat.add_eq_left, Nat.add_left_cancel_iff, Nat.reduceEqDiff, Nat.add_assoc, Nat.succ_ne_zero, hE0, List.getElem?_cons_zero, hld.b, hwk]
            exact hend
        · refine rsound_spec hld ?_
          simp only [push_cast, Nat.reduceAdd, Nat.reduceLeDiff, Nat.reduceLT, Int.reduceToNat, Nat.left_eq_add, Nat.add_eq_left, Nat.add_left_cancel_iff, Nat.reduceEqDiff, Nat.add_assoc, Nat.succ_ne_zero, hId.main]
          refine hId.ld ht ?_
          simp only [push_cast, Nat.reduceAdd, Nat.reduceLeDiff, Nat.reduceLT, Int.reduceToNat, Nat.left_eq_add, Nat.add_eq_left, Nat.add_left_cancel_iff, Nat.reduceEqDiff, Nat.add_assoc, Nat.succ_ne_zero, hld.b, hwk]
          exact hend
      · have hge : l1.length ≤ i := by
          have : ¬ (i : Int) < (l1.length : Int) := hge
          omega
        rw [List.take_of_length_le hge] at hun
        have e2 : pre2 l1 = l1 := by unfold pre2; rw [hno, findIdx_no hun]
        exact hj W ⟨by rw [e2]; exact hI, hF⟩
    · have hn2 : (pre2 l1).length ≤ 32 := by rw [pre2_len]; exact hn1
      simp only [push_cast, Nat.reduceAdd, Nat.reduceLeDiff, Nat.reduceLT, Int.reduceToNat, Nat.left_eq_add, Nat.add_eq_left, Nat.add_left_cancel_iff, Nat.reduceEqDiff, Nat.add_assoc, Nat.succ_ne_zero, hI.main]
      rw [hI.lenv]
      simp only [push_cast, Nat.reduceAdd, Nat.reduceLeDiff, Nat.reduceLT, Int.reduceToNat, Nat.left_eq_add, Nat.add_eq_left, Nat.add_left_cancel_iff, Nat.reduceEqDiff, Nat.add_assoc, Nat.succ_ne_zero]
      refine br_dec (fun hlt => ?_) fun hge => hj W ⟨hI, hF⟩
      refine rleader_spec hI hn2 (fun e => ?_) fun i' t' x' e ht' hx' hl' => ?_
      · have e : (pre2 l1).findIdx? (·.picked) = none := e
        rw [hkp] at e; cases e
      · simp only [push_cast, Nat.reduceAdd, Nat.reduceLeDiff, Nat.reduceLT, Int.reduceToNat, Nat.left_eq_add, Nat.add_eq_left, Nat.add_left_cancel_iff, Nat.reduceEqDiff, Nat.add_assoc, Nat.succ_ne_zero]
        exact hj W ⟨hI, hF⟩
  rintro W2 ⟨h2, hF2⟩
  have hn2 : (pre2 l1).length ≤ 32 := by rw [pre2_len]; exact hn1
  refine rleader_spec h2 hn2 (fun e => ?_) fun k u xk e hu hxk hul => ?_
  · have e : (pre2 l1).findIdx? (·.picked) = none := e
    have e0 := e
    rw [pre2_lead] at e
    have e2 : pre2 l1 = l1 := by
      unfold lead at e
      unfold pre2
      cases e1 : l1.findIdx? (·.picked) with
      | some q => rfl
      | none =>
        rw [e1] at e
        have e : l1.findIdx? Lk.sound = none := e
        rw [e]
    rw [e] at hk
    rw [e2] at h2
    simp only [push_cast, Nat.reduceAdd, Nat.reduceLeDiff, Nat.reduceLT, Int.reduceToNat, Nat.left_eq_add, Nat.add_eq_left, Nat.add_left_cancel_iff, Nat.reduceEqDiff, Nat.add_assoc, Nat.succ_ne_zero]
    exact hk W2 h2 hF2
  · have e : (pre2 l1).findIdx? (·.picked) = some k := e
    have hpk : xk.picked = true := by
      obtain ⟨a1, a2, _⟩ := List.findIdx?_eq_some_iff_getElem.1 e
      have hxk : (pre2 l1)[k]? = some xk := hxk
      rw [List.getElem?_eq_getElem a1] at hxk
      rw [← Option.some.inj hxk]; exact a2
    rw [pre2_lead] at e
    rw [e] at hk
    simp only [] at hk
    have hkl := lead_lt' e
    have hkx : l1[k]? = some l1[k] := List.getElem?_eq_getElem hkl
    have hgd : l1.getD k default = l1[k] := by rw [List.getD_eq_getElem?_getD, hkx]; rfl
    rw [hgd] at hk
    have hxke : xk.e = l1[k].e := by
      have := (pre2_e l1 k).1
      have hxk : (pre2 l1)[k]? = some xk := hxk
      rw [hxk, hkx] at this
      exact Option.some.inj this
    have hxk1 : xk = { l1[k] with picked := true } := by
      have := (pre2_e l1 k).2 true
      have hxk : (pre2 l1)[k]? = some xk := hxk
      rw [hxk, hkx] at this
      have e9 : ({ xk with picked := true } : Lk) = xk := by rw [← hpk]
      exact e9.symm.trans (Option.some.inj this)
    have hm := hw.most
    have hwl : IntKind.i64.wrap (s.most - 1) = s.most - 1 := wrap_i64 (by omega)
    simp only [push_cast, Nat.reduceAdd, Nat.reduceLeDiff, Nat.reduceLT, Int.reduceToNat, Nat.left_eq_add, Nat.add_eq_left, Nat.add_left_cancel_iff, Nat.reduceEqDiff, Nat.add_assoc, Nat.succ_ne_zero, h2.main, hwl]
    generalize hsy : sysI l1[k].e.partner = sy at hk
    have hp2l := pre2_len l1
    refine jn0 (fun W => RG W g bs pv { s with l := pickL k sy 0 (s.most - 1) l1 } ∧ Fr (fL bs) w W) (fun W ⟨a1, a2⟩ => hk W a1 a2) fun j hj => ?_
    refine loop2 (fun m v u' W => ∃ (i : Nat) (done : List Lk) (left : Int), i + m = l1.length ∧ v = i64 left ∧ u' = i64 i ∧ pickL k sy 0 (s.most - 1) l1 = done ++ pickL k sy i left (l1.drop i) ∧ done.length = i ∧ 0 ≤ left ∧ left ≤ 31 ∧ done.map (·.e) = (l1.take i).map (·.e) ∧ RG W g bs pv { s with l := done ++ (pre2 l1).drop i } ∧ Fr (fL bs) w W) ?_ l1.length
      ⟨0, [], s.most - 1, by omega, rfl, rfl, by simp, rfl, by omega, by omega, rfl, by rw [List.nil_append, List.drop_zero]; exact h2, hF2⟩
    rintro m v u' W X ⟨i, done, left, hi, rfl, rfl, a0, a1, a2, a3, a4, hI, hF⟩ hX
    have hll : (done ++ (pre2 l1).drop i).length = l1.length := by rw [List.length_append, List.length_drop, hp2l]; omega
    simp only [push_cast, Nat.reduceAdd, Nat.reduceLeDiff, Nat.reduceLT, Int.reduceToNat, Nat.left_eq_add, Nat.add_eq_left, Nat.add_left_cancel_iff, Nat.reduceEqDiff, Nat.add_assoc, Nat.succ_ne_zero, hI.main]
    rw [hI.lenv]
    simp only [push_cast, Nat.reduceAdd, Nat.reduceLeDiff, Nat.reduceLT, Int.reduceToNat, Nat.left_eq_add, Nat.add_eq_left, Nat.add_left_cancel_iff, Nat.reduceEqDiff, Nat.add_assoc, Nat.succ_ne_zero, hll]
    refine br_dec (fun hlt => ?_) fun hge => ?_
    · have hil : i < l1.length := by omega
      have hx : l1[i]? = some l1[i] := List.getElem?_eq_getElem hil
      obtain ⟨y, hy⟩ : ∃ y, (pre2 l1)[i]? = some y := ⟨_, List.getElem?_eq_getElem (by omega)⟩
      have hye : y.e = l1[i].e := by
        have := (pre2_e l1 i).1
        rw [hy, hx] at this
        exact Option.some.inj this
      have hyb : ∀ b, ({ y with picked := b } : Lk) = { l1[i] with picked := b } := fun b => by
        have := (pre2_e l1 i).2 b
        rw [hy, hx] at this
        exact Option.some.inj this
      have hy2 : (done ++ (pre2 l1).drop i)[i]? = some y := by
        rw [List.getElem?_append_right (by omega), a1, Nat.sub_self, List.getElem?_drop, Nat.add_zero]; exact hy
      have hset : ∀ z, (done ++ (pre2 l1).drop i).set i z = (done ++ [z]) ++ (pre2 l1).drop (i + 1) := fun z => by
        rw [List.set_append_right _ _ (by omega), a1, Nat.sub_self, List.drop_eq_getElem_cons (by omega), List.set_cons_zero, List.append_assoc]; rfl
      obtain ⟨t, ht, hl⟩ := hI.blk hy2
      have hwk : IntKind.i64.wrap ((i : Int) + 1) = ((i + 1 : Nat) : Int) := by rw [wrap_i64 (by omega)]; rfl
      have hwd : IntKind.i64.wrap (left - 1) = left - 1 := wrap_i64 (by omega)
      have hstep : pickL k sy i left (l1.drop i) = if i = k then { l1[i] with picked := true } :: pickL k sy (i + 1) left (l1.drop (i + 1))
          else if l1[i].sound = true ∧ 0 < left ∧ sysI l1[i].e.partner = sy then { l1[i] with picked := true } :: pickL k sy (i + 1) (left - 1) (l1.drop (i + 1))
          else { l1[i] with picked := false } :: pickL k sy (i + 1) left (l1.drop (i + 1)) := by
        rw [List.drop_eq_getElem_cons hil, pickL]
      have hmap : ∀ z : Lk, z.e = l1[i].e → (done ++ [z]).map (·.e) = (l1.take (i + 1)).map (·.e) := fun z hz => by
        rw [List.map_append, a4, take_snoc hil, List.map_append]
        show _ ++ [z.e] = _ ++ [l1[i].e]
        rw [hz]
      -- the lead, in memory
      obtain ⟨xu, hxu, hxue⟩ : ∃ xu, (done ++ (pre2 l1).drop i)[k]? = some xu ∧ xu.e = l1[k].e := by
        have hmq : ((done ++ (pre2 l1).drop i).map (·.e))[k]? = some l1[k].e := by
          rw [List.map_append, a4]
          have e2 : ((pre2 l1).drop i).map (·.e) = (l1.drop i).map (·.e) := by
            rw [List.map_drop, List.map_drop]
            congr 1
            apply List.ext_getElem?
            intro q
            rw [List.getElem?_map, List.getElem?_map]
            exact (pre2_e l1 q).1
          rw [e2, ← List.map_append, List.take_append_drop, List.getElem?_map, hkx]; rfl
        rw [List.getElem?_map] at hmq
        cases e : (done ++ (pre2 l1).drop i)[k]? with
        | none => rw [e] at hmq; cases hmq
        | some q => rw [e] at hmq; exact ⟨q, rfl, Option.some.inj hmq⟩
      have hulk := hI.lk k u _ hu hxu
      simp only [push_cast, Nat.reduceAdd, Nat.reduceLeDiff, Nat.reduceLT, Int.reduceToNat, Nat.left_eq_add, Nat.add_eq_left, Nat.add_left_cancel_iff, Nat.reduceEqDiff, Nat.add_assoc, Nat.succ_ne_zero, hI.main]
      refine hI.ld ht ?_
      refine s_eqP hl.b hulk.b ?_
      have hbe : decide (t.b = u.b) = decide (i = k) := by
        rw [decide_eq_decide]
        constructor
        · intro e
          by_cases hik : i = k
          · exact hik
          · exact absurd (show u.fp t.b from .inl e) (hI.dis i k t u ht hu hik t.b (.inl rfl))
        · intro e
          subst e
          rw [ht] at hu
          rw [Option.some.inj hu]
      rw [hbe]
      simp only [push_cast, Nat.reduceAdd, Nat.reduceLeDiff, Nat.reduceLT, Int.reduceToNat, Nat.left_eq_add, Nat.add_eq_left, Nat.add_left_cancel_iff, Nat.reduceEqDiff, Nat.add_assoc, Nat.succ_ne_zero, hwk]
      refine br_dec (fun e => ?_) fun hik => ?_
      · subst e
        rw [hy2] at hxu
        have hyx : y = { l1[i] with picked := true } := by
          have hxk : (pre2 l1)[i]? = some xk := hxk
          rw [hy] at hxk
          rw [Option.some.inj hxk]; exact hxk1
        refine hX (m - 1) _ _ _ (by omega) ⟨i + 1, done ++ [{ l1[i] with picked := true }], left, by omega, rfl, rfl, ?_, by rw [List.length_append, a1]; rfl, a2, a3, hmap _ rfl, ?_, hF⟩
        · rw [a0, hstep, if_pos rfl, List.append_assoc]; rfl
        · have : (done ++ [{ l1[i] with picked := true }]) ++ (pre2 l1).drop (i + 1) = done ++ (pre2 l1).drop i := by
            rw [← hyx, ← hset y]
            exact set_same hy2
          rw [this]
          exact hI
      · have hyw := hk1 _ (List.getElem_mem hil)
        have hkw := hk1 _ (List.getElem_mem hkl)
        have hys : y.sound = l1[i].sound := by unfold Lk.sound; rw [hye]
        generalize hcd : (y.sound && (decide (sysI y.e.partner = sysI xu.e.partner)) && decide (left > 0)) = cd
        have hcond : cd = decide (l1[i].sound = true ∧ 0 < left ∧ sysI l1[i].e.partner = sy) := by
          rw [← hcd, hys, hye, hxue, hsy, Bool.eq_iff_iff, Bool.and_eq_true, Bool.and_eq_true, decide_eq_true_iff, decide_eq_true_iff, decide_eq_true_iff]
          exact ⟨fun h => ⟨h.1.1, h.2, h.1.2⟩, fun h => ⟨⟨h.1, h.2.2⟩, h.2.1⟩⟩
        refine jn0 (fun W' => RLk W' t { y with picked := cd } ∧ Fr t.fp W W') ?_ fun j1 hj1 => ?_
        · rintro W' ⟨hl', hF'⟩
          obtain ⟨h4, hF4⟩ := hI.set ht hF' hl'
          have h4 : RG W' g bs pv { s with l := (done ++ [{ l1[i] with picked := cd }]) ++ (pre2 l1).drop (i + 1) } := by
            rw [← hyb cd, ← hset]
            exact h4
          simp only [push_cast, Nat.reduceAdd, Nat.reduceLeDiff, Nat.reduceLT, Int.reduceToNat, Nat.left_eq_add, Nat.add_eq_left, Nat.add_left_cancel_iff, Nat.reduceEqDiff, Nat.add_assoc, Nat.succ_ne_zero, hl'.b]
          refine br_intro (fun e => ?_) fun e => ?_
          · have e : cd = true := e
            rw [e] at hcond h4
            have hc := of_decide_eq_true hcond.symm
            simp only [push_cast, Nat.reduceAdd, Nat.reduceLeDiff, Nat.reduceLT, Int.reduceToNat, Nat.left_eq_add, Nat.add_eq_left, Nat.add_left_cancel_iff, Nat.reduceEqDiff, Nat.add_assoc, Nat.succ_ne_zero, hwk, hwd]
            refine hX (m - 1) _ _ _ (by omega) ⟨i + 1, done ++ [{ l1[i] with picked := true }], left - 1, by omega, rfl, rfl, ?_, by rw [List.length_append, a1]; rfl, by omega, by omega, hmap _ rfl, h4, hF.trans hF4⟩
            rw [a0, hstep, if_neg hik, if_pos hc, List.append_assoc]; rfl
          · have e : cd = false := e
            rw [e] at hcond h4
            have hc := of_decide_eq_false hcond.symm
            simp only [push_cast, Nat.reduceAdd, Nat.reduceLeDiff, Nat.reduceLT, Int.reduceToNat, Nat.left_eq_add, Nat.add_eq_left, Nat.add_left_cancel_iff, Nat.reduceEqDiff, Nat.add_assoc, Nat.succ_ne_zero, hwk]
            refine hX (m - 1) _ _ _ (by omega) ⟨i + 1, done ++ [{ l1[i] with picked := false }], left, by omega, rfl, rfl, ?_, by rw [List.length_append, a1]; rfl, a2, a3, hmap _ rfl, h4, hF.trans hF4⟩
            rw [a0, hstep, if_neg hik, if_neg hc, List.append_assoc]; rfl
        · rw [drw_eq]
          refine quietS_intro (Fr none_ W) (Fr.drew W) ?_
          refine qt_run (.bool y.sound) (fun R w' hC hR => by rw [opS_cl]; exact rsound_spec (hl.fr0 hC) (hR w' hC)) ?_
          refine gq_mv ?_
          refine gq_nc ?_
          refine gq_faP ?_
          refine gq_ldc hl.b (by simp only [push_cast, Nat.reduceAdd, Nat.reduceLeDiff, Nat.reduceLT, Int.reduceToNat, Nat.left_eq_add, Nat.add_eq_left, Nat.add_left_cancel_iff, Nat.reduceEqDiff, Nat.add_assoc, Nat.succ_ne_zero]; rfl) ?_
          refine gq_nc ?_
          refine gq_faE ?_
          refine gq_ldN (by decide) hl.e (by simp only [push_cast, Nat.reduceAdd, Nat.reduceLeDiff, Nat.reduceLT, Int.reduceToNat, Nat.left_eq_add, Nat.add_eq_left, Nat.add_left_cancel_iff, Nat.reduceEqDiff, Nat.add_assoc, Nat.succ_ne_zero]; rfl) ?_
          refine gq_mv ?_
          refine gq_nc ?_
          refine gq_faP ?_
          refine gq_ldc hulk.b (by simp only [push_cast, Nat.reduceAdd, Nat.reduceLeDiff, Nat.reduceLT, Int.reduceToNat, Nat.left_eq_add, Nat.add_eq_left, Nat.add_left_cancel_iff, Nat.reduceEqDiff, Nat.add_assoc, Nat.succ_ne_zero]; rfl) ?_
          refine gq_nc ?_
          refine gq_faE ?_
          refine gq_ldN (by decide) hulk.e (by simp only [push_cast, Nat.reduceAdd, Nat.reduceLeDiff, Nat.reduceLT, Int.reduceToNat, Nat.left_eq_add, Nat.add_eq_left, Nat.add_left_cancel_iff, Nat.reduceEqDiff, Nat.add_assoc, Nat.succ_ne_zero]; rfl) ?_
          refine gq_gen (.bool (decide (sysI y.e.partner = sysI xu.e.partner))) (fun e R w' hC hR => by
            rw [cv_pos e, cv_pos e, opS_cl]
            exact rone_spec (by rw [hye]; exact hyw.e.psys) (by rw [hxue]; exact hkw.e.psys) fun w'' hF => hR w'' (hC.trans hF)) ?_
          refine qt_and ?_
          refine gq_mv ?_
          refine gq_gtr ?_
          refine qt_and ?_
          refine qendS_intro fun W2 hF2 => ?_
          rw [hcd]
          have hl2 := hl.fr0 hF2
          obtain ⟨h5, hF5⟩ := hl2.wrB (lkC_spicked true t y cd) rfl rfl
          simp only [push_cast, Nat.reduceAdd, Nat.reduceLeDiff, Nat.reduceLT, Int.reduceToNat, Nat.left_eq_add, Nat.add_eq_left, Nat.add_left_cancel_iff, Nat.reduceEqDiff, Nat.add_assoc, Nat.succ_ne_zero, hl2.b]
          exact hj1 _ ⟨h5, (frN hF2).trans hF5⟩
    · have e : l1.drop i = [] := List.drop_eq_nil_of_le (by omega)
      have e2 : (pre2 l1).drop i = [] := List.drop_eq_nil_of_le (by omega)
      rw [e, pickL, List.append_nil] at a0
      rw [e2, List.append_nil, ← a0] at hI
      exact hj W ⟨hI, hF⟩

end Go.Gx.S
end

section
/- The document's group: a moment passes. -/
set_option linter.unusedVariables false
set_option linter.unusedSimpArgs false
set_option maxRecDepth 100000
namespace Go.Gx.S
open Go Go.Gx Go.Proofs
variable {K : Value → World → Prop} {w : World} {g : Nat} {bs : List B3} {pv fv : Value} {s : Grp} {t : B3} {x : Lk}

theorem settle_eq {x : Lk} {now : Int} {r : Mxx × Bool} (hr : Mxx.settle x.picked x.e.partner.state now 5 x.m = r) : x.settleP now = { x with m := r.1, due := x.due || r.2, e := x.e.muxP r.1.bits } := by
  unfold Lk.settleP
  rw [hr]
theorem settle_none {sel : Bool} {p now : Int} {m : Mxx} (h : m.next sel p now = none) : ∀ n, Mxx.settle sel p now n m = (m, false)
  | 0 => rfl
  | n + 1 => by rw [Mxx.settle, h]

set_option maxHeartbeats 1000000 in
theorem rgtick_spec {now : Int} (h : RG w g bs pv s) (hw : s.wf)
    (h0 : ¬ momOk now → K (.tuple #[.slice none 0 0, i64 1]) w)
    (hk : momOk now → ∀ v w', RG w' g bs pv (s.tickP now) → OwnE 105 24 w' v ((s.tickO now).map Tld.cells) → New w v → Fr (fL bs) w w' → K (.tuple #[v, i64 0]) w') : CallsR Tryz.prog 34 #[pt g 0, i64 now] K w := by
  apply c34
  unfold p34
  have hn := hw.len
  simp only [push_cast, Nat.reduceAdd, Nat.reduceLeDiff, Nat.reduceLT, Int.reduceToNat, Nat.left_eq_add, Nat.add_eq_left, Nat.add_left_cancel_iff, Nat.reduceEqDiff, Nat.add_assoc, Nat.succ_ne_zero]
  refine br_dec (fun e => h0 fun hm => by unfold momOk at hm; omega) fun e1 => ?_
  refine br_dec (fun e => h0 fun hm => by unfold momOk at hm; omega) fun e2 => ?_
  have hm : momOk now := ⟨by omega, by omega⟩
  have hk := hk hm
  have hT : s.tickP now = { s with l := ((pickP { s with l := s.l.map (·.tickP now) }).l.map (·.settleP now)).map (·.says now) } := by
    unfold Grp.tickP Grp.ticked
    rw [if_pos hm]
  rw [hT] at hk
  have hO : s.tickO now = saysL ((pickP { s with l := s.l.map (·.tickP now) }).l.map (·.settleP now)) now := by unfold Grp.tickO Grp.ticked; rw [if_pos hm]
  rw [hO] at hk
  refine jn0 (fun W => RG W g bs pv { s with l := s.l.map (·.tickP now) } ∧ Fr (fL bs) w W) ?_ fun j hj => ?_
  case refine_2 =>
    refine reach_spec (f := (·.tickP now)) (fin := Lk.wf) h hn hw.l ?_ fun W h1 hF1 => hj W ⟨h1, hF1⟩
    intro i t x W X hi hx0 ht hx hl hI hF hX
    have hwk : IntKind.i64.wrap ((i : Int) + 1) = ((i + 1 : Nat) : Int) := by rw [wrap_i64 (by omega)]; rfl
    simp only [push_cast, Nat.reduceAdd, Nat.reduceLeDiff, Nat.reduceLT, Int.reduceToNat, Nat.left_eq_add, Nat.add_eq_left, Nat.add_left_cancel_iff, Nat.reduceEqDiff, Nat.add_assoc, Nat.succ_ne_zero, hI.main]
    refine hI.ld ht ?_
    simp only [push_cast, Nat.reduceAdd, Nat.reduceLeDiff, Nat.reduceLT, Int.reduceToNat, Nat.left_eq_add, Nat.add_eq_left, Nat.add_left_cancel_iff, Nat.reduceEqDiff, Nat.add_assoc, Nat.succ_ne_zero, hl.b, hl.e]
    refine retick_spec hl.e hx0.e fun w1 h1 hF1 => ?_
    have hl1 := hl.setE hF1 h1
    have hfin : ∀ d, d = (x.due || (decide (x.e.state = 3) && decide ((x.e.tickP now).state = 1))) → X (i64 ((i + 1 : Nat) : Int)) (wr w1 t.b 4 [.bool d]) := fun d hd => by
      obtain ⟨h2, hF2⟩ := hl1.wrB (lkC_sdue true t _ d) rfl rfl
      refine hX _ ?_ ((frE hF1).trans hF2)
      show RLk _ t (x.tickP now)
      unfold Lk.tickP
      rw [← hd]
      exact h2
    have hq : w1.heap[t.e]? = some (cellsO (x.e.tickP now).cells 101) := h1
    simp only [push_cast, Nat.reduceAdd, Nat.reduceLeDiff, Nat.reduceLT, Int.reduceToNat, Nat.left_eq_add, Nat.add_eq_left, Nat.add_left_cancel_iff, Nat.reduceEqDiff, Nat.add_assoc, Nat.succ_ne_zero, hl1.b, hwk]
    refine br_intro (fun e1 => ?_) fun e1 => ?_
    · refine hfin true ?_
      have : x.due = true := e1
      rw [this, Bool.true_or]
    · have e1 : x.due = false := e1
      rw [e1, Bool.false_or] at hfin
      refine br_dec (fun e2 => ?_) fun e2 => ?_
      · simp only [push_cast, Nat.reduceAdd, Nat.reduceLeDiff, Nat.reduceLT, Int.reduceToNat, Nat.left_eq_add, Nat.add_eq_left, Nat.add_left_cancel_iff, Nat.reduceEqDiff, Nat.add_assoc, Nat.succ_ne_zero, hl1.b, hq, hwk]
        refine hfin _ ?_
        rw [decide_eq_true e2, Bool.true_and]
        rfl
      · refine hfin false ?_
        rw [decide_eq_false e2, Bool.false_and]
  rintro W1 ⟨h1, hF1⟩
  have hw1 : ({ s with l := s.l.map (·.tickP now) } : Grp).wf := hw.mapL fun x hx => hx.tick now
  simp only [push_cast, Nat.reduceAdd, Nat.reduceLeDiff, Nat.reduceLT, Int.reduceToNat, Nat.left_eq_add, Nat.add_eq_left, Nat.add_left_cancel_iff, Nat.reduceEqDiff, Nat.add_assoc, Nat.succ_ne_zero]
  refine rpick_spec h1 hw1 fun W2 h2 hF2 => ?_
  have hw2 := hw1.pick
  have hmost : (pickP { s with l := s.l.map (·.tickP now) }).most = s.most := pickP_most _
  have hq : ∀ {W : World} {l : List Lk}, RG W g bs pv { pickP { s with l := s.l.map (·.tickP now) } with l := l } → RG W g bs pv { s with l := l } := fun {W l} hh => by
    have e : ({ pickP { s with l := s.l.map (·.tickP now) } with l := l } : Grp) = { s with l := l } := by
      show Grp.mk l _ = Grp.mk l _
      rw [hmost]
    rw [e] at hh
    exact hh
  generalize pickP { s with l := s.l.map (·.tickP now) } = p at *
  have hn2 := hw2.len
  have hF12 := hF1.trans hF2
  refine jn0 (fun W => RG W g bs pv { p with l := p.l.map (·.settleP now) } ∧ Fr (fL bs) w W) ?_ fun j hj => ?_
  case refine_2 =>
    refine reach_spec (f := (·.settleP now)) (fin := Lk.wf) h2 hn2 hw2.l ?_ fun W h1 hF1 => hj W ⟨h1, hF12.trans hF1⟩
    intro i t x W X hi hx0 ht hx hl hI hF hX
    have hwk : IntKind.i64.wrap ((i : Int) + 1) = ((i + 1 : Nat) : Int) := by rw [wrap_i64 (by omega)]; rfl
    have hst := hx0.e.partner.st
    generalize hr : Mxx.settle x.picked x.e.partner.state now 5 x.m = r
    refine jn0 (fun W' => RLk W' t (x.settleP now) ∧ Fr t.fp W W') (fun W' ⟨a1, a2⟩ => ?_) fun j1 hj1 => ?_
    · simp only [push_cast, Nat.reduceAdd, Nat.reduceLeDiff, Nat.reduceLT, Int.reduceToNat, Nat.left_eq_add, Nat.add_eq_left, Nat.add_left_cancel_iff, Nat.reduceEqDiff, Nat.add_assoc, Nat.succ_ne_zero, hwk]
      exact hX _ a1 a2
    simp only [push_cast, Nat.reduceAdd, Nat.reduceLeDiff, Nat.reduceLT, Int.reduceToNat, Nat.left_eq_add, Nat.add_eq_left, Nat.add_left_cancel_iff, Nat.reduceEqDiff, Nat.add_assoc, Nat.succ_ne_zero, hI.main]
    refine hI.ld ht ?_
    have hld := hl.fr0 (Fr.drew W)
    have hFd : Fr t.fp W W.drew := Fr.drew W
    simp only [push_cast, Nat.reduceAdd, Nat.reduceLeDiff, Nat.reduceLT, Int.reduceToNat, Nat.left_eq_add, Nat.add_eq_left, Nat.add_left_cancel_iff, Nat.reduceEqDiff, Nat.add_assoc, Nat.succ_ne_zero, hl.b, hl.e]
    generalize W.drew = Wd at *
    have hmw := hx0.m
    refine rmstep_spec hld.m hmw hst hm fun W3 h3 hF3 => ?_
    have hl3 := hld.setM hF3 h3
    have hF3' := hFd.trans (frM hF3)
    simp only [push_cast, Nat.reduceAdd, Nat.reduceLeDiff, Nat.reduceLT, Int.reduceToNat, Nat.left_eq_add, Nat.add_eq_left, Nat.add_left_cancel_iff, Nat.reduceEqDiff, Nat.add_assoc, Nat.succ_ne_zero]
    refine jn0 (fun W' => RLk W' t { x with m := r.1, due := x.due || r.2 } ∧ Fr t.fp W W') ?_ fun j3 hj3 => ?_
    · rintro W' ⟨b1, b2⟩
      simp only [push_cast, Nat.reduceAdd, Nat.reduceLeDiff, Nat.reduceLT, Int.reduceToNat, Nat.left_eq_add, Nat.add_eq_left, Nat.add_left_cancel_iff, Nat.reduceEqDiff, Nat.add_assoc, Nat.succ_ne_zero, b1.b]
      have hb2 := b1.fr0 (Fr.drew W')
      have hb3 := b2.trans (Fr.drew W')
      generalize W'.drew = W4 at *
      have hfin : ∀ W5, REd W5 t.e (x.e.muxP r.1.bits) → Fr (fun y => y = t.e) W4 W5 → j1 W5 := fun W5 he hF5 => by
        refine hj1 W5 ⟨?_, hb3.trans (frE hF5)⟩
        rw [settle_eq hr]
        exact hb2.setE hF5 he
      refine allW_intro ?_ ?_
      · simp only [push_cast, Nat.reduceAdd, Nat.reduceLeDiff, Nat.reduceLT, Int.reduceToNat, Nat.left_eq_add, Nat.add_eq_left, Nat.add_left_cancel_iff, Nat.reduceEqDiff, Nat.add_assoc, Nat.succ_ne_zero, hb2.b]
        refine rmbits_spec hb2.m ?_
        simp only [push_cast, Nat.reduceAdd, Nat.reduceLeDiff, Nat.reduceLT, Int.reduceToNat, Nat.left_eq_add, Nat.add_eq_left, Nat.add_left_cancel_iff, Nat.reduceEqDiff, Nat.add_assoc, Nat.succ_ne_zero]
        exact remux_spec hb2.e Mxx.wf.bits fun W5 h5 hF5 => hfin _ h5 hF5
      · refine rmbits_spec hb2.m ?_
        simp only [push_cast, Nat.reduceAdd, Nat.reduceLeDiff, Nat.reduceLT, Int.reduceToNat, Nat.left_eq_add, Nat.add_eq_left, Nat.add_left_cancel_iff, Nat.reduceEqDiff, Nat.add_assoc, Nat.succ_ne_zero, hb2.b]
        exact remux_spec hb2.e Mxx.wf.bits fun W5 h5 hF5 => hfin _ h5 hF5
    refine loop1 (fun n v W' => ∃ m0 d, v = .bool (m0.next x.picked x.e.partner.state now).isSome ∧ RLk W' t { x with m := m0.stepP x.picked x.e.partner.state now, due := d } ∧ m0.wf ∧ Fr t.fp W W' ∧ m0.rank x.picked x.e.partner.state now ≤ n ∧ (Mxx.settle x.picked x.e.partner.state now n m0).1 = r.1 ∧ (d || (Mxx.settle x.picked x.e.partner.state now n m0).2) = (x.due || r.2)) ?_ 5
      ⟨x.m, x.due, rfl, hl3, hmw, hF3', Nat.le_trans (Mxx.rank_le _ _ _ _) (by decide), by rw [hr], by rw [hr]⟩
    rintro n v W' Y ⟨m0, d, rfl, c1, c2, c3, c4, c5, c6⟩ hY
    cases hnx : m0.next x.picked x.e.partner.state now with
    | none =>
      rw [settle_none hnx] at c5 c6
      unfold Mxx.stepP at c1
      rw [hnx] at c1
      simp only [Bool.or_false] at c1 c5 c6
      simp only [Option.isSome_none, brn_br, br_false]
      refine hj3 _ ⟨?_, c3⟩
      rw [← c5, ← c6]
      exact c1
    | some to =>
      have hlt := Mxx.rank_lt c2 hnx
      unfold Mxx.stepP at c1
      rw [hnx] at c1
      simp only [] at c1
      obtain ⟨d1, d2⟩ := c1.wrB (lkC_sdue true t _ true) rfl rfl
      simp only [Option.isSome_some, push_cast, Nat.reduceAdd, Nat.reduceLeDiff, Nat.reduceLT, Int.reduceToNat, Nat.left_eq_add, Nat.add_eq_left, Nat.add_left_cancel_iff, Nat.reduceEqDiff, Nat.add_assoc, Nat.succ_ne_zero, c1.b]
      have d1' := d1.fr0 (Fr.drew _)
      have hF5 := (c3.trans d2).trans (Fr.drew _)
      have heb : t.e ≠ t.b := Ne.symm c1.be
      simp only [push_cast, Nat.reduceAdd, Nat.reduceLeDiff, Nat.reduceLT, Int.reduceToNat, Nat.left_eq_add, Nat.add_eq_left, Nat.add_left_cancel_iff, Nat.reduceEqDiff, Nat.add_assoc, Nat.succ_ne_zero, c1.b, c1.e, d1.b, d1.e, heb]
      generalize (wr W' t.b 4 [.bool true]).drew = W5 at *
      refine rmstep_spec d1'.m (c2.goto (Mxx.next_st hnx) hm) hst hm fun W6 h6 hF6 => ?_
      have hl6 := d1'.setM hF6 h6
      simp only [push_cast, Nat.reduceAdd, Nat.reduceLeDiff, Nat.reduceLT, Int.reduceToNat, Nat.left_eq_add, Nat.add_eq_left, Nat.add_left_cancel_iff, Nat.reduceEqDiff, Nat.add_assoc, Nat.succ_ne_zero]
      obtain ⟨q, rfl⟩ : ∃ q, n = q + 1 := ⟨n - 1, by omega⟩
      rw [Mxx.settle, hnx] at c5 c6
      simp only [Bool.or_true] at c5 c6
      have hlt2 : (m0.goto to now).rank x.picked x.e.partner.state now ≤ q := by omega
      exact hY q _ _ (by omega) ⟨m0.goto to now, true, rfl, hl6, c2.goto (Mxx.next_st hnx) hm, hF5.trans (frM hF6), hlt2, c5, by rw [Bool.true_or]; exact c6⟩
  rintro W3 ⟨h3, hF3⟩
  have hw3 : ({ p with l := p.l.map (·.settleP now) } : Grp).wf := hw2.mapL fun x hx => hx.settle hm
  have hn3 := hw3.len
  have hlen3 : (p.l.map (·.settleP now)).length = bs.length := by rw [h3.len]
  have hl3 := hw3.l
  have hk : ∀ v w', RG w' g bs pv { p with l := (p.l.map (·.settleP now)).map (·.says now) } → OwnE 105 24 w' v ((saysL (p.l.map (·.settleP now)) now).map Tld.cells) → New w v → Fr (fL bs) w w' → K (.tuple #[v, i64 0]) w' := fun v w' a1 a2 a3 a4 => hk v w' (hq a1) a2 a3 a4
  clear hq
  generalize p.l.map (·.settleP now) = l3 at *
  refine jn1 (fun v W => RG W g bs pv { p with l := l3.map (·.says now) } ∧ OwnE 105 24 W v ((saysL l3 now).map Tld.cells) ∧ New w v ∧ Fr (fL bs) w W) (fun v W ⟨a1, a2, a3, a4⟩ => hk v W a1 a2 a3 a4) fun j hj => ?_
  refine loop2 (fun m v u W => ∃ i : Nat, u = i64 i ∧ i + m = l3.length ∧ RG W g bs pv { p with l := mapK (·.says now) l3 i } ∧ OwnE 105 24 W v ((saysL (l3.take i) now).map Tld.cells) ∧ New w v ∧ Fr (fL bs) w W) ?_ l3.length
    ⟨0, rfl, by omega, by rw [mapK_0]; exact h3, own_nil _ _ _, fun b hb => (by cases hb), hF3⟩
  rintro m v u W X ⟨i, rfl, hi, hI, hv, nv, hF⟩ hX
  have hml : (mapK (·.says now) l3 i).length = l3.length := mapK_len
  simp only [push_cast, Nat.reduceAdd, Nat.reduceLeDiff, Nat.reduceLT, Int.reduceToNat, Nat.left_eq_add, Nat.add_eq_left, Nat.add_left_cancel_iff, Nat.reduceEqDiff, Nat.add_assoc, Nat.succ_ne_zero, hI.main]
  rw [hI.lenv]
  simp only [push_cast, Nat.reduceAdd, Nat.reduceLeDiff, Nat.reduceLT, Int.reduceToNat, Nat.left_eq_add, Nat.add_eq_left, Nat.add_left_cancel_iff, Nat.reduceEqDiff, Nat.add_assoc, Nat.succ_ne_zero, hml]
  refine br_dec (fun hlt => ?_) fun hge => ?_
  · have hil : i < l3.length := by omega
    have hx : l3[i]? = some l3[i] := List.getElem?_eq_getElem hil
    have hx2 : (mapK (·.says now) l3 i)[i]? = some l3[i] := mapK_at hx
    have hxw := hl3 _ (List.getElem_mem hil)
    obtain ⟨t, ht, hl⟩ := hI.blk hx2
    have hti := List.mem_of_getElem? ht
    have hn32 : l3.length ≤ 32 := hn3
    have hwk : IntKind.i64.wrap ((i : Int) + 1) = ((i + 1 : Nat) : Int) := by rw [wrap_i64 (by omega)]; rfl
    have hnt : ∀ b, blkS v = some b → ¬ t.fp b := fun b hb hh => by
      have := nv b hb
      have := h.lt b (.inr ⟨t, hti, hh⟩)
      omega
    have hso := saysL_snoc (now := now) hil
    simp only [push_cast, Nat.reduceAdd, Nat.reduceLeDiff, Nat.reduceLT, Int.reduceToNat, Nat.left_eq_add, Nat.add_eq_left, Nat.add_left_cancel_iff, Nat.reduceEqDiff, Nat.add_assoc, Nat.succ_ne_zero, hI.main]
    refine hI.ld ht ?_
    simp only [push_cast, Nat.reduceAdd, Nat.reduceLeDiff, Nat.reduceLT, Int.reduceToNat, Nat.left_eq_add, Nat.add_eq_left, Nat.add_left_cancel_iff, Nat.reduceEqDiff, Nat.add_assoc, Nat.succ_ne_zero]
    refine rtells_spec hl hxw hm ?_
    generalize hy : l3[i] = y at *
    simp only [push_cast, Nat.reduceAdd, Nat.reduceLeDiff, Nat.reduceLT, Int.reduceToNat, Nat.left_eq_add, Nat.add_eq_left, Nat.add_left_cancel_iff, Nat.reduceEqDiff, Nat.add_assoc, Nat.succ_ne_zero]
    refine br_intro (fun e => ?_) fun e => ?_
    · rw [if_pos e] at hso
      have hys : y.says now = { { y with due := false } with last := now } := by unfold Lk.says; rw [if_pos e]
      refine jn1 (fun v' W5 => RLk W5 t y ∧ OwnE 105 24 W5 v' ((saysL (l3.take (i + 1)) now).map Tld.cells) ∧ (blkS v' = blkS v ∨ New w v') ∧ Fr (fun b => t.fp b ∨ blkS v = some b) W W5) ?_ fun j2 hj2 => ?_
      · rintro v' W5 ⟨h5, hv5, hb5, hF5⟩
        have hn5 : New w v' := fun b hb => by
          rcases hb5 with e5 | e5
          · exact nv b (e5 ▸ hb)
          · exact e5 b hb
        obtain ⟨h6, hF6⟩ := h5.wrB (lkC_sdue true t _ false) rfl rfl
        obtain ⟨h7, hF7⟩ := h6.wrB (lkC_slast true t _ now) rfl rfl
        have hnt' : ∀ b, blkS v' = some b → ¬ t.fp b := fun b hb hh => by
          have := hn5 b hb
          have := h.lt b (.inr ⟨t, hti, hh⟩)
          omega
        simp only [push_cast, Nat.reduceAdd, Nat.reduceLeDiff, Nat.reduceLT, Int.reduceToNat, Nat.left_eq_add, Nat.add_eq_left, Nat.add_left_cancel_iff, Nat.reduceEqDiff, Nat.add_assoc, Nat.succ_ne_zero, h5.b, h6.b, hwk]
        have hpv := h.pv_lt (by have e1 := h.len; omega)
        have hF8 : Fr (fun b => t.fp b ∨ blkS v = some b) W (wr (wr W5 t.b 4 [.bool false]) t.b 5 [i64 now]) := (hF5.trans (hF6.mono fun _ _ h => .inl h)).trans (hF7.mono fun _ _ h => .inl h)
        have h8 := hI.set2 (i := i) ht hF8 (fun b hb => by
          rcases hb with hb | hb
          · exact .inl hb
          · have := nv b hb
            exact .inr ⟨fun hh => by have := h.lt b hh; omega, fun hh => by have := hpv b hh; omega⟩) h7
        have := mapK_set (f := (·.says now)) hx
        rw [hys] at this
        simp only [this] at h8
        refine hX (m - 1) _ _ _ (by omega) ⟨i + 1, rfl, by omega, h8, ?_, hn5, hF.trans_new hF8 fun b hb hh => ?_⟩
        · exact (hv5.fr hF6 hnt').fr hF7 hnt'
        · rcases hh with hh | hh
          · exact ⟨t, hti, hh⟩
          · have := nv b hh; omega
      · simp only [push_cast, Nat.reduceAdd, Nat.reduceLeDiff, Nat.reduceLT, Int.reduceToNat, Nat.left_eq_add, Nat.add_eq_left, Nat.add_left_cancel_iff, Nat.reduceEqDiff, Nat.add_assoc, Nat.succ_ne_zero, hl.b]
        have hd := hl.fr0 (Fr.drew W)
        have hvd := hv.fr (Fr.drew (fp := none_) W) fun _ _ h => h
        have hFd : Fr none_ W W.drew := Fr.drew W
        have hsz : w.heap.size ≤ W.drew.heap.size := by have := hF.size; have := hFd.size; omega
        generalize W.drew = W5 at *
        have hap : ∀ W6, Fr none_ W5 W6 → opS Tryz.prog (S.buildS 86 1 [(0, .agg y.told.cells.toArray)]) (fun x33 => opS Tryz.prog (S.bi .append #[86, 86] 86 [v, x33]) fun x34 => j2 x34) W6 := fun W6 hF6 => by
          refine s_bs1 (sz := 24) (z := .agg (Tld.cells ⟨0, Inf.zero, Inf.zero, 0⟩).toArray) (Tld.len _) rfl (by decide) (by decide) fun z W7 hz hF7 hN7 => ?_
          have hl32 : ((saysL (l3.take i) now).map Tld.cells).length ≤ 32 := by
            rw [List.length_map]
            refine Nat.le_trans (saysL_len _ _) ?_
            rw [List.length_take]; omega
          refine s_app (sz := 24) (by_ := 112) (z := .agg (Tld.cells ⟨0, Inf.zero, Inf.zero, 0⟩).toArray) rfl (by decide) ((hvd.fr hF6 fun _ _ h => h).fr hF7 fun _ _ h => h) hz.rd (by simp [Tld.one]) (by simp only [List.length_singleton]; omega) fun v' W8 hv' hb' hF8 => ?_
          have hsz7 : w.heap.size ≤ W7.heap.size := by have := hF6.size; have := hF7.size; omega
          refine hj2 _ _ ⟨(hd.fr0 (hF6.trans hF7)).fr hF8 fun b hb hh => hnt b hh hb, ?_, ?_, ?_⟩
          · rw [hso, List.map_append]
            exact hv'
          · rcases hb' with e5 | e5
            · exact .inl e5
            · exact .inr fun b hb => by have := e5 b hb; omega
          · exact (frN ((hFd.trans hF6).trans hF7)).trans (hF8.mono fun _ _ h => .inr h)
        repeat' first
          | refine allW_intro ?_ ?_
          | simp only [push_cast, Nat.reduceAdd, Nat.reduceLeDiff, Nat.reduceLT, Int.reduceToNat, Nat.left_eq_add, Nat.add_eq_left, Nat.add_left_cancel_iff, Nat.reduceEqDiff, Nat.add_assoc, Nat.succ_ne_zero, hd.b, hd.e]
        all_goals
          refine ractor_spec hd.e fun W6 hF6 => ?_
          have h6 := hd.fr0 hF6
          repeat' first
            | refine allW_intro ?_ ?_
            | simp only [push_cast, Nat.reduceAdd, Nat.reduceLeDiff, Nat.reduceLT, Int.reduceToNat, Nat.left_eq_add, Nat.add_eq_left, Nat.add_left_cancel_iff, Nat.reduceEqDiff, Nat.add_assoc, Nat.succ_ne_zero, h6.b, h6.e]
          all_goals
            exact hap _ hF6
    · rw [if_neg (by rw [e]; decide), List.append_nil] at hso
      have hys : y.says now = y := by unfold Lk.says; rw [if_neg (by rw [e]; decide)]
      have := mapK_set (f := (·.says now)) hx
      rw [hys, set_same (by rw [← hy] at *; exact hx2)] at this
      simp only [push_cast, Nat.reduceAdd, Nat.reduceLeDiff, Nat.reduceLT, Int.reduceToNat, Nat.left_eq_add, Nat.add_eq_left, Nat.add_left_cancel_iff, Nat.reduceEqDiff, Nat.add_assoc, Nat.succ_ne_zero, hwk]
      refine hX (m - 1) _ _ _ (by omega) ⟨i + 1, rfl, by omega, ?_, ?_, nv, hF⟩
      · rw [← this]; exact hI
      · rw [hso]
        exact hv
  · have e : l3.length ≤ i := by omega
    rw [mapK_end e] at hI
    rw [List.take_of_length_le e] at hv
    exact hj _ _ ⟨hI, hv, nv, hF⟩

end Go.Gx.S
end

section
/- The document's group: a new one. -/
set_option linter.unusedVariables false
set_option linter.unusedSimpArgs false
set_option maxRecDepth 100000
namespace Go.Gx.S
open Go Go.Gx Go.Proofs Go.Sort
variable {K : Value → World → Prop} {w : World} {g : Nat} {bs : List B3} {pv fv : Value} {s : Grp} {t : B3} {x : Lk}

/-! ### Plain: put in place -/

def placeP (ls : List (B3 × Lk)) (p : Int) : Nat := ls.findIdx fun q => !decide (q.2.port < p)
def insP (ls : List (B3 × Lk)) (p : B3 × Lk) : List (B3 × Lk) := ls.take (placeP ls p.2.port) ++ [p] ++ ls.drop (placeP ls p.2.port)
theorem placeP_le (ls : List (B3 × Lk)) (p : Int) : placeP ls p ≤ ls.length := List.findIdx_le_length
theorem placeP_at {ls : List (B3 × Lk)} {p : Int} (hlt : placeP ls p < ls.length) : ¬ ls[placeP ls p].2.port < p := fun h => by
  have h0 : (!decide (ls[placeP ls p].2.port < p)) = true := List.findIdx_getElem (p := fun q : B3 × Lk => !decide (q.2.port < p)) (xs := ls) (w := hlt)
  rw [decide_eq_true h] at h0
  cases h0
theorem insP_perm (ls : List (B3 × Lk)) (p : B3 × Lk) : (insP ls p).Perm (ls ++ [p]) := by
  unfold insP
  have h1 : (ls.take (placeP ls p.2.port) ++ [p] ++ ls.drop (placeP ls p.2.port)).Perm (p :: (ls.take (placeP ls p.2.port) ++ ls.drop (placeP ls p.2.port))) := by
    rw [List.append_assoc]
    exact List.perm_middle
  rw [List.take_append_drop] at h1
  exact h1.trans (List.perm_append_singleton _ _).symm
theorem insP_sorted {ls : List (B3 × Lk)} (h : (ls.map (·.2.port)).Pairwise (· ≤ ·)) (p : B3 × Lk) : ((insP ls p).map (·.2.port)).Pairwise (· ≤ ·) := by
  have hb : ∀ q ∈ ls.take (placeP ls p.2.port), q.2.port < p.2.port := fun q hq => by
    obtain ⟨i, hi, rfl⟩ := List.getElem_of_mem hq
    rw [List.length_take] at hi
    have := List.not_of_lt_findIdx (p := fun q : B3 × Lk => !decide (q.2.port < p.2.port)) (xs := ls) (i := i) (by show i < placeP ls p.2.port; omega)
    rw [List.getElem_take]
    simpa using this
  have ha : ∀ q ∈ ls.drop (placeP ls p.2.port), p.2.port ≤ q.2.port := fun q hq => by
    have hlt : placeP ls p.2.port < ls.length := by
      by_cases hc : placeP ls p.2.port < ls.length
      · exact hc
      · rw [List.drop_eq_nil_of_le (by omega)] at hq; cases hq
    have h0 := placeP_at hlt
    obtain ⟨i, hi, rfl⟩ := List.getElem_of_mem hq
    rw [List.length_drop] at hi
    rw [List.getElem_drop]
    by_cases e : i = 0
    · subst e
      have : ls[placeP ls p.2.port + 0] = ls[placeP ls p.2.port] := by congr 1
      rw [this]; omega
    · have := List.pairwise_iff_getElem.1 h (placeP ls p.2.port) (placeP ls p.2.port + i) (by rw [List.length_map]; exact hlt) (by rw [List.length_map]; omega) (by omega)
      rw [List.getElem_map, List.getElem_map] at this
      omega
  unfold insP
  rw [List.map_append, List.map_append, List.pairwise_append, List.pairwise_append]
  have hsub1 : ((ls.take (placeP ls p.2.port)).map (·.2.port)).Pairwise (· ≤ ·) := by rw [List.map_take]; exact h.sublist (List.take_sublist _ _)
  have hsub2 : ((ls.drop (placeP ls p.2.port)).map (·.2.port)).Pairwise (· ≤ ·) := by rw [List.map_drop]; exact h.sublist (List.drop_sublist _ _)
  refine ⟨⟨hsub1, by simp, fun a ha' b hb' => ?_⟩, hsub2, fun a ha' b hb' => ?_⟩
  · obtain ⟨q, hq, rfl⟩ := List.mem_map.1 ha'
    simp at hb'
    rw [hb']
    have := hb q hq; omega
  · obtain ⟨r, hr, rfl⟩ := List.mem_map.1 hb'
    rcases List.mem_append.1 ha' with ha' | ha'
    · obtain ⟨q, hq, rfl⟩ := List.mem_map.1 ha'
      have := hb q hq
      have := ha r hr
      show q.2.port ≤ r.2.port
      omega
    · simp at ha'
      rw [ha']
      exact ha r hr

section
variable {r : Bool} {T TB TE TM E : TypeId} {w0 : World} {most : Int} {ls : List (B3 × Lk)}
/-- a new link, and a new row of all -/
theorem NI.re {W W5 W6 : World} {t : B3} {x : Lk} {v' : Value} {ls' : List (B3 × Lk)} (h : NI r T TB TE TM E w0 g most W ls pv) (hF : Fr none_ W W5) (hl : LkM r TB TE TM W5 t x) (hn : ∀ y, t.fp y → W.heap.size ≤ y) (hp : ls'.Perm (ls ++ [(t, x)]))
    (hF6 : Fr none_ W5 W6) (hv : OwnE E 1 W6 v' (ls'.map fun p => [pt p.1.b 0])) (hb : New W5 v') :
    NI r T TB TE TM E w0 g most (wr W6 g 0 [v']) ls' v' := by
  have h5 := h.fr0 hF
  have hg := lt_of_heap h.main
  have hF7 : Fr (fun b => b = g) W6 (wr W6 g 0 [v']) := Fr.wr _ _ _ _ rfl
  have hm6 := hF6.heap h5.main fun e => e
  have hs5 := hF.size
  have hsz := h.fr.size
  have hz6 : ZS r TB TE TM W6 ls' := by
    refine ((h5.z.snoc hl fun p hp y hy hy2 => by have := h.lt p hp y hy; have := hn y hy2; omega).fr0 hF6).perm hp
  have hnew : ∀ p ∈ ls', ∀ y, p.1.fp y → w0.heap.size ≤ y ∧ y ≠ g ∧ y < W5.heap.size := fun p hpm y hy => by
    rcases List.mem_append.1 (hp.mem_iff.1 hpm) with hp | hp
    · have h1 := h.nl p hp y hy
      have := h.lt p hp y hy
      exact ⟨h1.1, h1.2, by omega⟩
    · rw [List.mem_singleton.1 hp] at hy
      have := hn y hy
      have := hl.lt y hy
      exact ⟨by omega, by omega, by omega⟩
  refine ⟨hz6.fr hF7 fun p hp y hy e => (hnew p hp y hy).2.1 e, ?_, ?_, fun p hp y hy => ⟨(hnew p hp y hy).1, (hnew p hp y hy).2.1⟩, fun b hb' => ?_, h.ng, ?_⟩
  · rw [heap_wr, if_pos rfl, hm6, putAt_cells]; rfl
  · exact hv.fr hF7 fun b hb' e => by have := hb b hb'; omega
  · have h1 := hb b hb'
    exact ⟨by omega, by omega, fun p hp hh => by have := (hnew p hp b hh).2.2; omega⟩
  · exact (h5.fr.trans hF6).trans_new hF7 fun b hb' e => by have := h.ng; omega
end

theorem elsP_one (ls : List (B3 × Lk)) : (ls.map fun p : B3 × Lk => [pt p.1.b 0]).flatten.all S.oneCell = true := by
  rw [List.all_eq_true]
  intro x hx
  obtain ⟨y, hy, hx⟩ := List.mem_flatten.1 hx
  obtain ⟨p, _, rfl⟩ := List.mem_map.1 hy
  rw [List.mem_singleton.1 hx]; rfl

abbrev NR (w0 : World) (g : Nat) (most : Int) (W : World) (ls : List (B3 × Lk)) (pv : Value) : Prop := NI true 75 84 101 103 80 w0 g most W ls pv

theorem put_spec {w0 : World} {most : Int} {ls : List (B3 × Lk)} {t : B3} {x : Lk} {W : World} (h : NR w0 g most W ls pv) (hll : ls.length ≤ 32) (hF : Fr none_ W w) (hl : RLk w t x) (hn : ∀ y, t.fp y → W.heap.size ≤ y)
    (hk : ∀ v' w', NR w0 g most w' (insP ls (t, x)) v' → K (.tuple #[]) w') : CallsR Tryz.prog 29 #[pt g 0, pt t.b 0] K w := by
  apply c29
  unfold p29
  have h5 := h.fr0 hF
  have hplen := placeP_le ls x.port
  refine jn1 (fun v W2 => v = i64 (placeP ls x.port) ∧ Fr none_ w W2) ?_ fun j hj => ?_
  · rintro v W2 ⟨rfl, hF2⟩
    have h6 := h5.fr0 hF2
    generalize hkp : placeP ls x.port = k at *
    refine s_bs0 (E := 80) (sz := 1) fun v3 W3 h3 hF3 hN3 => ?_
    have h7 := h6.fr0 hF3
    have hcap : ∀ {W : World}, NR w0 g most W ls pv → ∀ {R : Value → World → Prop}, (∀ v, RdE 1 W v ((ls.take k).map fun p => [pt p.1.b 0]) → R v W) → opS Tryz.prog (S.slc 73 pv none (some (i64 k)) none) R W := fun {W} hN {R} hR => by
      obtain ⟨a, c, e⟩ := hN.own.rd.form
      have hr := hN.own.rd
      rw [e] at hr
      have hp := hr.part (l := 0) (m := k) (Nat.zero_le _) (by rw [List.length_map]; exact hplen)
      have hlc : ls.length ≤ c := by
        obtain ⟨q1, _⟩ := hN.own
        rw [e] at q1
        rcases q1 with ⟨q1, q2, _⟩ | ⟨b', o', c', cs, q1, _, q2, _⟩
        · rw [List.length_map] at q2; omega
        · simp only [Value.slice.injEq] at q1
          rw [List.length_map] at q2
          have := q1.2.2
          omega
      rw [e, List.length_map, opS_slice (run_boundsH (hi := (k : Int)) (by omega) (by omega)), Int.toNat_natCast]
      refine hR _ ?_
      rw [List.drop_zero, ← List.map_take] at hp
      exact hp
    have hdrop : ∀ {W : World}, NR w0 g most W ls pv → ∀ {R : Value → World → Prop}, (∀ v, RdE 1 W v ((ls.drop k).map fun p => [pt p.1.b 0]) → R v W) → opS Tryz.prog (S.slc 73 pv (some (i64 k)) none none) R W := fun {W} hN {R} hR => by
      obtain ⟨a, c, e⟩ := hN.own.rd.form
      have hr := hN.own.rd
      rw [e] at hr
      have hp := hr.part (l := k) (m := (ls.map fun p : B3 × Lk => [pt p.1.b 0]).length) (by rw [List.length_map]; exact hplen) (Nat.le_refl _)
      rw [List.take_length, List.length_map, ← List.map_drop] at hp
      rw [e, List.length_map, opS_slice (run_boundsL (lo := (k : Int)) (by omega) (by omega)), Int.toNat_natCast]
      exact hR _ hp
    simp only [push_cast, Nat.reduceAdd, Nat.reduceLeDiff, Nat.reduceLT, Int.reduceToNat, Nat.left_eq_add, Nat.add_eq_left, Nat.add_left_cancel_iff, Nat.reduceEqDiff, Nat.add_assoc, Nat.succ_ne_zero, h7.main]
    refine hcap h7 fun v4 hv4 => ?_
    refine s_app (sz := 1) (by_ := 8) (z := .pointer none) rfl (by decide) h3 hv4 (elsP_one _) (by simp only [List.length_nil, List.length_map, List.length_take]; omega) fun v5 W5 hv5 hb5 hF5 => ?_
    have hN5 : New W2 v5 := fun b hb => by
      rcases hb5 with e | e
      · exact hN3 b (e ▸ hb)
      · have := e b hb; have := hF3.size; omega
    have hF25 : Fr none_ W2 W5 := hF3.trans_new hF5 fun y hy e => by have := hN3 y e; omega
    rw [List.nil_append] at hv5
    refine s_bs1c (E := 80) (z := .pointer none) rfl rfl fun v6 W6 hv6 hF6 hN6 => ?_
    refine s_app (sz := 1) (by_ := 8) (z := .pointer none) rfl (by decide) (hv5.fr hF6 fun _ _ h => h) hv6.rd rfl (by simp only [List.length_map, List.length_take, List.length_singleton]; omega) fun v7 W7 hv7 hb7 hF7 => ?_
    have hN7 : New W2 v7 := fun b hb => by
      rcases hb7 with e | e
      · exact hN5 b (e ▸ hb)
      · have := e b hb; have := hF6.size; have := hF25.size; omega
    have hF27 : Fr none_ W2 W7 := (hF25.trans hF6).trans_new hF7 fun y hy e => by have := hN5 y e; omega
    have h8 := h6.fr0 hF27
    simp only [push_cast, Nat.reduceAdd, Nat.reduceLeDiff, Nat.reduceLT, Int.reduceToNat, Nat.left_eq_add, Nat.add_eq_left, Nat.add_left_cancel_iff, Nat.reduceEqDiff, Nat.add_assoc, Nat.succ_ne_zero, h8.main]
    refine hdrop h8 fun v8 hv8 => ?_
    refine s_app (sz := 1) (by_ := 8) (z := .pointer none) rfl (by decide) hv7 hv8 (elsP_one _) (by simp only [List.length_append, List.length_map, List.length_take, List.length_singleton, List.length_drop]; omega) fun v9 W9 hv9 hb9 hF9 => ?_
    have hN9 : New W2 v9 := fun b hb => by
      rcases hb9 with e | e
      · exact hN7 b (e ▸ hb)
      · have := e b hb; have := hF27.size; omega
    have hF29 : Fr none_ W2 W9 := hF27.trans_new hF9 fun y hy e => by have := hN7 y e; omega
    have h9 := h6.fr0 hF29
    simp only [push_cast, Nat.reduceAdd, Nat.reduceLeDiff, Nat.reduceLT, Int.reduceToNat, Nat.left_eq_add, Nat.add_eq_left, Nat.add_left_cancel_iff, Nat.reduceEqDiff, Nat.add_assoc, Nat.succ_ne_zero, h9.main, hv9.rd.one]
    refine hk v9 _ (h.re (hF.trans hF2) (hl.fr0 hF2) hn (insP_perm ls (t, x)) hF29 ?_ hN9)
    unfold insP
    show OwnE _ 1 W9 v9 ((ls.take (placeP ls x.port) ++ [(t, x)] ++ ls.drop (placeP ls x.port)).map _)
    rw [hkp, List.map_append, List.map_append]
    exact hv9
  · refine loop1 (fun m u W2 => ∃ i : Nat, u = i64 i ∧ i + m = ls.length ∧ i ≤ placeP ls x.port ∧ Fr none_ w W2) ?_ ls.length ⟨0, rfl, by omega, Nat.zero_le _, Fr.refl _ _⟩
    rintro m u W2 X ⟨i, rfl, hi, hip, hF2⟩ hX
    have h6 := h5.fr0 hF2
    have hl6 := hl.fr0 hF2
    have elen : ∀ (R : Value → World → Prop) W, opS Tryz.prog (S.len pv) R W = R (i64 ls.length) W := fun R W => by
      obtain ⟨a, c, e⟩ := h.own.rd.form
      rw [e, List.length_map]; rfl
    rw [drw_eq]
    refine quietS_intro (Fr none_ W2) (Fr.drew W2) ?_
    refine qt_pure (fun R w' _ => opS_nc _ _) ?_
    refine qt_pure (fun R w' _ => fa75_0 _ _) ?_
    refine qt_ld1 h6.main (by simp only [push_cast, Nat.reduceAdd, Nat.reduceLeDiff, Nat.reduceLT, Int.reduceToNat, Nat.left_eq_add, Nat.add_eq_left, Nat.add_left_cancel_iff, Nat.reduceEqDiff, Nat.add_assoc, Nat.succ_ne_zero]; rfl) ?_
    refine qt_pure (fun R w' _ => elen R w') ?_
    refine qt_pure (fun R w' _ => opS_lss _ _ _) ?_
    by_cases hlt : (i : Int) < (ls.length : Int)
    · have hil : i < ls.length := by omega
      have hlk := h6.z.lk _ (List.getElem_mem hil)
      rw [decide_eq_true hlt]
      refine gqt_yes rfl (qt_mv ?_)
      refine gqt_yes rfl (qt_pure (fun R w' _ => opS_nc _ _) ?_)
      refine gqt_yes rfl (qt_pure (fun R w' _ => fa75_0 _ _) ?_)
      refine gqt_yes rfl (qt_ld1 h6.main (by simp only [push_cast, Nat.reduceAdd, Nat.reduceLeDiff, Nat.reduceLT, Int.reduceToNat, Nat.left_eq_add, Nat.add_eq_left, Nat.add_left_cancel_iff, Nat.reduceEqDiff, Nat.add_assoc, Nat.succ_ne_zero]; rfl) ?_)
      refine gqt_yes rfl (qt_mv ?_)
      obtain ⟨b1, o1, c1, hpv⟩ := h6.own.form' (by rw [List.length_map]; omega)
      have hown := h6.own.rd
      rw [List.length_map] at hpv
      subst hpv
      have hown' : ∀ {w' : World}, Fr none_ W2 w' → RdE 1 w' (.slice (some ⟨b1, o1, none⟩) (ls.map fun p : B3 × Lk => [pt p.1.b 0]).length c1) (ls.map fun p => [pt p.1.b 0]) := fun {w'} hC => by
        rw [List.length_map]
        exact hown.fr hC fun _ _ h => h
      have hcell : ∀ {w' : World}, Fr none_ W2 w' → cellAt w'.heap[b1]? (o1 + i * 1) = some (pt ls[i].1.b 0) := fun {w'} hC => by
        have := s_iaE (P := Tryz.prog) (T := 73) (E := 80) (sz := 1) (K := fun a W => W = w' → cellAt w'.heap[b1]? (o1 + i * 1) = some (pt ls[i].1.b 0)) (k := .i64) (i := (i : Int)) (hown' hC) (by omega) (by simpa using hil) fun b2 o2 c2 e hE hW => by
          cases e
          simp only [Int.toNat_natCast, List.getElem_map] at hE
          exact hE.cell0 (by show 0 < 1; decide)
        rw [opS_iaS, if_pos (by rw [List.length_map]; exact ⟨by omega, hlt⟩)] at this
        exact this rfl
      refine gqt_yes rfl (qt_pure (v := pt b1 (o1 + i * 1)) (fun R w' hC => by
        rw [opS_iaS, if_pos ⟨by omega, hlt⟩, Int.toNat_natCast]) ?_)
      refine gqt_yes rfl (qt_pure (v := pt ls[i].1.b 0) (fun R w' hC => by rw [s_ld1, hcell hC, onS_some]) ?_)
      refine gqt_yes rfl (qt_pure (fun R w' _ => opS_nc _ _) ?_)
      refine gqt_yes rfl (qt_pure (fun R w' _ => fa84_0 _ _) ?_)
      refine gqt_yes rfl (qt_ld1 hlk.b (by simp only [push_cast, Nat.reduceAdd, Nat.reduceLeDiff, Nat.reduceLT, Int.reduceToNat, Nat.left_eq_add, Nat.add_eq_left, Nat.add_left_cancel_iff, Nat.reduceEqDiff, Nat.add_assoc, Nat.succ_ne_zero]; rfl) ?_)
      refine gqt_yes rfl (qt_mv ?_)
      refine gqt_yes rfl (qt_pure (fun R w' _ => opS_nc _ _) ?_)
      refine gqt_yes rfl (qt_pure (fun R w' _ => fa84_0 _ _) ?_)
      refine gqt_yes rfl (qt_ld1 hl6.b (by simp only [push_cast, Nat.reduceAdd, Nat.reduceLeDiff, Nat.reduceLT, Int.reduceToNat, Nat.left_eq_add, Nat.add_eq_left, Nat.add_left_cancel_iff, Nat.reduceEqDiff, Nat.add_assoc, Nat.succ_ne_zero]; rfl) ?_)
      refine qendS_intro fun W4 hF4 => ?_
      have hwk : IntKind.i64.wrap ((i : Int) + 1) = ((i + 1 : Nat) : Int) := by rw [wrap_i64 (by omega)]; rfl
      simp only [push_cast, Nat.reduceAdd, Nat.reduceLeDiff, Nat.reduceLT, Int.reduceToNat, Nat.left_eq_add, Nat.add_eq_left, Nat.add_left_cancel_iff, Nat.reduceEqDiff, Nat.add_assoc, Nat.succ_ne_zero, hwk]
      refine br_dec (fun e => ?_) fun e => ?_
      · refine hX (m - 1) _ _ (by omega) ⟨i + 1, rfl, by omega, ?_, hF2.trans hF4⟩
        by_cases hc : i = placeP ls x.port
        · exfalso
          have hlt3 : placeP ls x.port < ls.length := by omega
          have h0 := placeP_at hlt3
          subst hc
          exact h0 e
        · omega
      · refine hj _ _ ⟨?_, hF2.trans hF4⟩
        have : placeP ls x.port = i := by
          have h1 : placeP ls x.port ≤ i := by
            refine Nat.le_of_not_lt fun hc => ?_
            have := List.not_of_lt_findIdx (p := fun q : B3 × Lk => !decide (q.2.port < x.port)) (xs := ls) (i := i) hc
            have : ls[i].2.port < x.port := by simpa using this
            exact e this
          omega
        rw [this]
    · rw [decide_eq_false hlt]
      iterate 14 refine gqt_no (by decide) ?_
      refine qendS_intro fun W4 hF4 => ?_
      simp only [push_cast, Nat.reduceAdd, Nat.reduceLeDiff, Nat.reduceLT, Int.reduceToNat, Nat.left_eq_add, Nat.add_eq_left, Nat.add_left_cancel_iff, Nat.reduceEqDiff, Nat.add_assoc, Nat.succ_ne_zero]
      refine hj _ _ ⟨?_, hF2.trans hF4⟩
      have : placeP ls x.port = i := by omega
      rw [this]

end Go.Gx.S
end

section
/- The document's group: a new one, whole. -/
set_option linter.unusedVariables false
set_option linter.unusedSimpArgs false
set_option maxRecDepth 100000
namespace Go.Gx.S
open Go Go.Gx Go.Proofs Go.Sort
variable {K : Value → World → Prop} {w : World} {g : Nat} {bs : List B3} {pv fv : Value} {s : Grp} {t : B3} {x : Lk}

theorem rbuild_grp {most : Int} : opS Tryz.prog (S.build 75 [(1, i64 most)]) K w = K (.agg [.slice none 0 0, i64 most].toArray) w := by
  rw [opS_build _ rfl]; rfl
theorem rbuild_lk {e m : Nat} {port : Int} {sys : Idn} {key : Int} (b : Nat) : opS Tryz.prog (S.build 84 [(0, i64 port), (1, pt e 0), (2, pt m 0), (5, .int .i64 (-1))]) K w = K (.agg (lkC true ⟨b, e, m⟩ (newLk sys key port)).toArray) w := by
  rw [opS_build _ rfl]; rfl

theorem rgnew_spec {sys : Idn} {key most : Int} {ports : List Int} {v : Value} (hs : sys.ok) (hv : RdE 1 w v (ports.map cellI)) (hl : ports.length < 2 ^ 62)
    (h0 : ¬ argOk sys key ports most → ∀ w', Fr none_ w w' → K (.tuple #[.pointer none, i64 1]) w')
    (h5 : argOk sys key ports most → ¬ ports.Nodup → ∀ w', Fr none_ w w' → K (.tuple #[.pointer none, i64 5]) w')
    (h1 : argOk sys key ports most → ports.Nodup → ∀ g bs pv w', RG w' g bs pv (newG sys key ports most) → (∀ y, fG g bs y → w.heap.size ≤ y) → (∀ y, blkS pv = some y → w.heap.size ≤ y) → Fr none_ w w' → K (.tuple #[pt g 0, i64 0]) w') :
    CallsR Tryz.prog 8 #[.agg sys.cells.toArray, i64 key, v, i64 most] K w := by
  apply c8
  unfold p8
  have elen : ∀ (R : Value → World → Prop) W, opS Tryz.prog (S.len v) R W = R (i64 ports.length) W := fun R W => by
    obtain ⟨a, c, e⟩ := hv.form
    rw [e, List.length_map]; rfl
  have hF0 : Fr none_ w (w.alloc (cellsO sys.cells 32)) := (by repeat' first | with_reducible exact Fr.refl _ _ | with_reducible refine Fr.step_alloc ?_ ?_ | with_reducible refine Fr.step_drew ?_ | with_reducible refine Fr.step_wr ?_ ?_ _ _ | exact rfl | exact Or.inr (by omega) | exact Or.inl rfl | exact Or.inl (Or.inl rfl) | exact Or.inl (Or.inr rfl))
  have q0 : (w.alloc (cellsO sys.cells 32)).heap[w.heap.size]? = some (cellsO sys.cells 32) := by simp only [push_cast, Nat.reduceAdd, Nat.reduceLeDiff, Nat.reduceLT, Int.reduceToNat, Nat.left_eq_add, Nat.add_eq_left, Nat.add_left_cancel_iff, Nat.reduceEqDiff, Nat.add_assoc, Nat.succ_ne_zero]
  have hsz0 := size_alloc w (cellsO sys.cells 32)
  simp only [opS_box, cells_agg, alloc_cellsO]
  have hv0 := hv.fr hF0 fun _ _ h => h
  generalize w.alloc (cellsO sys.cells 32) = w0 at *
  generalize hxb : w.heap.size = xb at *
  rw [elen]
  simp only [push_cast, Nat.reduceAdd, Nat.reduceLeDiff, Nat.reduceLT, Int.reduceToNat, Nat.left_eq_add, Nat.add_eq_left, Nat.add_left_cancel_iff, Nat.reduceEqDiff, Nat.add_assoc, Nat.succ_ne_zero]
  refine br_dec (fun e => h0 (fun h => by have := h.1; omega) _ hF0) fun e1 => ?_
  rw [elen]
  simp only [push_cast, Nat.reduceAdd, Nat.reduceLeDiff, Nat.reduceLT, Int.reduceToNat, Nat.left_eq_add, Nat.add_eq_left, Nat.add_left_cancel_iff, Nat.reduceEqDiff, Nat.add_assoc, Nat.succ_ne_zero]
  refine br_dec (fun e => h0 (fun h => by have := h.2.1; omega) _ hF0) fun e2 => ?_
  refine br_dec (fun e => h0 (fun h => by have := h.2.2.1; omega) _ hF0) fun e3 => ?_
  refine br_dec (fun e => h0 (fun h => by have := h.2.2.2.1; omega) _ hF0) fun e4 => ?_
  rw [rbuild_grp]
  have hFg : Fr none_ w0 (w0.alloc (cellsO [.slice none 0 0, i64 most] 75)) := (by repeat' first | with_reducible exact Fr.refl _ _ | with_reducible refine Fr.step_alloc ?_ ?_ | with_reducible refine Fr.step_drew ?_ | with_reducible refine Fr.step_wr ?_ ?_ _ _ | exact rfl | exact Or.inr (by omega) | exact Or.inl rfl | exact Or.inl (Or.inl rfl) | exact Or.inl (Or.inr rfl))
  have qg : (w0.alloc (cellsO [.slice none 0 0, i64 most] 75)).heap[w0.heap.size]? = some (cellsO [.slice none 0 0, i64 most] 75) := by simp only [push_cast, Nat.reduceAdd, Nat.reduceLeDiff, Nat.reduceLT, Int.reduceToNat, Nat.left_eq_add, Nat.add_eq_left, Nat.add_left_cancel_iff, Nat.reduceEqDiff, Nat.add_assoc, Nat.succ_ne_zero]
  simp only [push_cast, Nat.reduceAdd, Nat.reduceLeDiff, Nat.reduceLT, Int.reduceToNat, Nat.left_eq_add, Nat.add_eq_left, Nat.add_left_cancel_iff, Nat.reduceEqDiff, Nat.add_assoc, Nat.succ_ne_zero]
  generalize hge : w0.heap.size = g at *
  generalize w0.alloc (cellsO [.slice none 0 0, i64 most] 75) = w1 at *
  have hN : NR w0 g most w1 [] (.slice none 0 0) := ⟨⟨by simp, List.Pairwise.nil⟩, qg, own_nil _ _ _, by simp, fun b hb => (by cases hb), by omega, hFg⟩
  refine jn0 (fun W => ∃ ls pv, NR w0 g most W ls pv ∧ (ls.map (·.2.port)).Perm ports ∧ (ls.map (·.2.port)).Pairwise (· ≤ ·) ∧ (∀ p ∈ ls, p.2 = newLk sys key p.2.port) ∧ (∀ p ∈ ports, 1 ≤ p ∧ (Inf.mk sys.prio sys.mac key 128 p 7).right)) ?_ fun j hj => ?_
  · rintro W ⟨ls, pv, hN, hp, hso, hnl, hr⟩
    have harg : argOk sys key ports most := ⟨by omega, by omega, by omega, by omega, fun p hp => (hr p hp).1, fun p hp => (hr p hp).2⟩
    have hll : ls.length = ports.length := by have := hp.length_eq; rwa [List.length_map] at this
    have hFw : Fr none_ w W := hF0.trans hN.fr
    have hnd : (ls.map (·.2.port)).Nodup ↔ ports.Nodup := hp.nodup_iff
    have hml : (ls.map (·.2.port)).length = ls.length := List.length_map ..
    have hpo : ∀ i (hi : i < ls.length), (ls.map (·.2.port))[i]? = some ls[i].2.port := fun i hi => by rw [List.getElem?_map, List.getElem?_eq_getElem hi]; rfl
    have hl2 : ls.map (·.2) = (srtI ports).map (newLk sys key) := by
      have e1 : ls.map (·.2.port) = srtI ports := srt_eq hp hso
      rw [← e1, List.map_map]
      exact List.map_congr_left fun p hp2 => hnl p hp2
    have hgs : RG W g (ls.map (·.1)) pv (newG sys key ports most) := by
      have := hN.z.gs (g := g) (pv := pv) (most := most) hN.main hN.own.rd (fun p hp2 hh => (hN.nl p hp2 g hh).2 rfl) fun y hy => ⟨(hN.nv y hy).2.1, (hN.nv y hy).2.2⟩
      rw [hl2] at this
      exact this
    have hng : ∀ y, fG g (ls.map (·.1)) y → xb ≤ y := fun y hy => by
      rcases hy with rfl | ⟨t, ht, hy⟩
      · omega
      · obtain ⟨p, hp2, rfl⟩ := List.mem_map.1 ht
        have := (hN.nl p hp2 y hy).1
        omega
    have hnp : ∀ y, blkS pv = some y → xb ≤ y := fun y hy => by have := (hN.nv y hy).1; omega
    refine jn0 (fun W' => Fr none_ W W' ∧ ports.Nodup) (fun W' ⟨hF', hh⟩ => h1 harg hh g _ pv W' (hgs.fr0 hF') hng hnp (hFw.trans hF')) fun j2 hj2 => ?_
    refine loop1 (fun n u W' => ∃ i : Nat, u = i64 i ∧ 1 ≤ i ∧ i + n = ls.length ∧ Fr none_ W W' ∧ ∀ q, q + 1 < i → (ls.map (·.2.port))[q]? ≠ (ls.map (·.2.port))[q + 1]?) ?_ (ls.length - 1) ⟨1, rfl, by omega, by omega, Fr.refl _ _, fun q hq => by omega⟩
    rintro n u W' X ⟨i, rfl, hi1, hi, hF', ho⟩ hX
    have hI := hgs.fr0 hF'
    have hIl : (newG sys key ports most).l.length = ls.length := by
      have : (newG sys key ports most).l = ls.map (·.2) := hl2.symm
      rw [this, List.length_map]
    simp only [push_cast, Nat.reduceAdd, Nat.reduceLeDiff, Nat.reduceLT, Int.reduceToNat, Nat.left_eq_add, Nat.add_eq_left, Nat.add_left_cancel_iff, Nat.reduceEqDiff, Nat.add_assoc, Nat.succ_ne_zero, hI.main]
    rw [hI.lenv, hIl]
    simp only [push_cast, Nat.reduceAdd, Nat.reduceLeDiff, Nat.reduceLT, Int.reduceToNat, Nat.left_eq_add, Nat.add_eq_left, Nat.add_left_cancel_iff, Nat.reduceEqDiff, Nat.add_assoc, Nat.succ_ne_zero]
    refine br_dec (fun hlt => ?_) fun hge2 => hj2 _ ⟨hF', hnd.1 (nodup_of_nb hso fun q hq => ho q (by omega))⟩
    have hil : i < ls.length := by omega
    have hwk : IntKind.i64.wrap ((i : Int) + 1) = ((i + 1 : Nat) : Int) := by rw [wrap_i64 (by omega)]; rfl
    have hwd : IntKind.i64.wrap ((i : Int) - 1) = ((i - 1 : Nat) : Int) := by rw [wrap_i64 (by omega)]; omega
    have hId := hI.fr0 (Fr.drew W')
    have hat : ∀ q (hq : q < ls.length), ((ls.map (·.1))[q]? = some ls[q].1) ∧ RLk W'.drew ls[q].1 ls[q].2 := fun q hq =>
      ⟨by rw [List.getElem?_map, List.getElem?_eq_getElem hq]; rfl, ((hN.z.fr0 hF').fr0 (Fr.drew W')).lk _ (List.getElem_mem hq)⟩
    obtain ⟨a1, a2⟩ := hat i hil
    obtain ⟨a3, a4⟩ := hat (i - 1) (by omega)
    have hF'd := hF'.trans (Fr.drew (fp := none_) W')
    simp only [push_cast, Nat.reduceAdd, Nat.reduceLeDiff, Nat.reduceLT, Int.reduceToNat, Nat.left_eq_add, Nat.add_eq_left, Nat.add_left_cancel_iff, Nat.reduceEqDiff, Nat.add_assoc, Nat.succ_ne_zero, hI.main]
    generalize W'.drew = W2 at *
    refine hId.ld a1 ?_
    simp only [push_cast, Nat.reduceAdd, Nat.reduceLeDiff, Nat.reduceLT, Int.reduceToNat, Nat.left_eq_add, Nat.add_eq_left, Nat.add_left_cancel_iff, Nat.reduceEqDiff, Nat.add_assoc, Nat.succ_ne_zero, a2.b, hId.main, hwd]
    refine hId.ld a3 ?_
    simp only [push_cast, Nat.reduceAdd, Nat.reduceLeDiff, Nat.reduceLT, Int.reduceToNat, Nat.left_eq_add, Nat.add_eq_left, Nat.add_left_cancel_iff, Nat.reduceEqDiff, Nat.add_assoc, Nat.succ_ne_zero, a4.b]
    refine br_dec (fun e2 => ?_) fun e2 => ?_
    · refine h5 harg (fun hh => ?_) _ (hFw.trans hF'd)
      exact not_nodup_of (j := i - 1) (by omega) (by rw [hpo _ (by omega), show i - 1 + 1 = i by omega, hpo _ hil, e2]) (hnd.2 hh)
    · simp only [push_cast, Nat.reduceAdd, Nat.reduceLeDiff, Nat.reduceLT, Int.reduceToNat, Nat.left_eq_add, Nat.add_eq_left, Nat.add_left_cancel_iff, Nat.reduceEqDiff, Nat.add_assoc, Nat.succ_ne_zero, hwk]
      refine hX (n - 1) _ _ (by omega) ⟨i + 1, rfl, by omega, by omega, hF'd, fun q hq => ?_⟩
      by_cases e : q + 1 = i
      · have e3 : q = i - 1 := by omega
        subst e3
        rw [hpo _ (by omega), show i - 1 + 1 = i by omega, hpo _ hil]
        exact fun h => e2 (Option.some.inj h).symm
      · exact ho q (by omega)
  · refine loop1 (fun n u W => ∃ (i : Nat) (ls : List (B3 × Lk)) (pv : Value), u = i64 i ∧ i + n = ports.length ∧ NR w0 g most W ls pv ∧ (ls.map (·.2.port)).Perm (ports.take i) ∧ (ls.map (·.2.port)).Pairwise (· ≤ ·) ∧ (∀ p ∈ ls, p.2 = newLk sys key p.2.port) ∧ (∀ p ∈ ports.take i, 1 ≤ p ∧ (Inf.mk sys.prio sys.mac key 128 p 7).right)) ?_ ports.length ⟨0, [], _, rfl, by omega, hN, by simp, by simp, by simp, by simp⟩
    rintro n u W X ⟨i, ls, pv, rfl, hi, hN, hp, hso, hnl, hr⟩ hX
    rw [elen]
    simp only [push_cast, Nat.reduceAdd, Nat.reduceLeDiff, Nat.reduceLT, Int.reduceToNat, Nat.left_eq_add, Nat.add_eq_left, Nat.add_left_cancel_iff, Nat.reduceEqDiff, Nat.add_assoc, Nat.succ_ne_zero]
    refine br_dec (fun hlt => ?_) fun hge2 => hj _ ⟨ls, pv, hN, by rw [List.take_of_length_le (by omega)] at hp; exact hp, hso, hnl, by rw [List.take_of_length_le (by omega)] at hr; exact hr⟩
    have hil : i < ports.length := by omega
    have hwk : IntKind.i64.wrap ((i : Int) + 1) = ((i + 1 : Nat) : Int) := by rw [wrap_i64 (by omega)]; rfl
    have hll : ls.length = i := by have := hp.length_eq; rw [List.length_map, List.length_take] at this; omega
    have hrd : ∀ {W' : World}, Fr none_ W W' → ∀ {R : Value → World → Prop}, (∀ b o, cellAt W'.heap[b]? o = some (i64 ports[i]) → b < W'.heap.size → R (pt b o) W') → opS Tryz.prog (S.ia 22 v (.int .i64 i)) R W' := fun {W'} hF' {R} hR => by
      refine s_iaE (es := ports.map cellI) (hv0.fr (hN.fr.trans hF') fun _ _ h => h) (by omega) (by simpa using hil) fun b1 o1 c1 _ hE => ?_
      simp only [Int.toNat_natCast, List.getElem_map] at hE ⊢
      refine hR _ _ (hE.cell0 (by show 0 < 1; decide)) ?_
      obtain ⟨cs, T, fz, hb, _⟩ := hE
      exact lt_of_heap hb
    refine jn1 (fun v' W' => ∃ ib, v' = pt ib 0 ∧ W'.heap[ib]? = some (cellsO (Inf.cells ⟨sys.prio, sys.mac, key, 128, ports[i], 7⟩) 39) ∧ Fr none_ W W') ?_ fun j2 hj2 => ?_
    · rintro v' W2 ⟨ib, rfl, hib, hF2⟩
      simp only [push_cast, Nat.reduceAdd, Nat.reduceLeDiff, Nat.reduceLT, Int.reduceToNat, Nat.left_eq_add, Nat.add_eq_left, Nat.add_left_cancel_iff, Nat.reduceEqDiff, Nat.add_assoc, Nat.succ_ne_zero, hib]
      refine renew_spec rfl (fun hnr W3 hF3 => ?_) fun hrr eb W3 heb hE3 hF3 => ?_
      · simp only [push_cast, Nat.reduceAdd, Nat.reduceLeDiff, Nat.reduceLT, Int.reduceToNat, Nat.left_eq_add, Nat.add_eq_left, Nat.add_left_cancel_iff, Nat.reduceEqDiff, Nat.add_assoc, Nat.succ_ne_zero]
        refine br_intro (fun _ => ?_) fun e => absurd e (by decide)
        exact h0 (fun h => hnr (h.2.2.2.2.2 _ (List.getElem_mem hil))) W3 (hF0.trans (hN.fr.trans (hF2.trans hF3)))
      · simp only [push_cast, Nat.reduceAdd, Nat.reduceLeDiff, Nat.reduceLT, Int.reduceToNat, Nat.left_eq_add, Nat.add_eq_left, Nat.add_left_cancel_iff, Nat.reduceEqDiff, Nat.add_assoc, Nat.succ_ne_zero]
        refine br_intro (fun e => absurd e (by decide)) fun _ => ?_
        refine hrd (hF2.trans hF3) fun b1 o1 hc1 hb1 => ?_
        simp only [push_cast, Nat.reduceAdd, Nat.reduceLeDiff, Nat.reduceLT, Int.reduceToNat, Nat.left_eq_add, Nat.add_eq_left, Nat.add_left_cancel_iff, Nat.reduceEqDiff, Nat.add_assoc, Nat.succ_ne_zero, hc1]
        refine br_dec (fun e => h0 (fun h => by have := h.2.2.2.2.1 _ (List.getElem_mem hil); omega) W3 (hF0.trans (hN.fr.trans (hF2.trans hF3)))) fun hp1 => ?_
        have hFd := (hF2.trans hF3).trans (Fr.drew (fp := none_) W3)
        have hE4 : REd W3.drew eb _ := hE3
        have hsW := hF2.size
        generalize W3.drew = W4 at *
        have hend : ∀ (mb : Nat) (W5 : World), W4.heap.size ≤ mb → RMx W5 mb ⟨0, 0⟩ → Fr none_ W4 W5 →
            opS Tryz.prog (S.build 84 [(0, i64 ports[i]), (1, pt eb 0), (2, pt mb 0), (5, .int .i64 (-1))]) (fun x28 => opS Tryz.prog (S.box 84 x28) fun x29 => opS Tryz.prog (S.cl 29 [pt g 0, x29]) fun x30 => opS Tryz.prog (S.binI .add (i64 i) (.int .i64 1)) fun x31 => X x31) W5 := fun mb W5 hmb hM hF5 => by
          rw [rbuild_lk (sys := sys) (key := key) W5.heap.size]
          have hFa : Fr none_ W5 (W5.alloc (cellsO (lkC true ⟨W5.heap.size, eb, mb⟩ (newLk sys key ports[i])) 84)) := (by repeat' first | with_reducible exact Fr.refl _ _ | with_reducible refine Fr.step_alloc ?_ ?_ | with_reducible refine Fr.step_drew ?_ | with_reducible refine Fr.step_wr ?_ ?_ _ _ | exact rfl | exact Or.inr (by omega) | exact Or.inl rfl | exact Or.inl (Or.inl rfl) | exact Or.inl (Or.inr rfl))
          have hel := lt_of_heap (show W4.heap[eb]? = some _ from hE4)
          have hml := lt_of_heap (show W5.heap[mb]? = some _ from hM)
          have hs5 := hF5.size
          have hs4 := hFd.size
          have hl5 : RLk (W5.alloc (cellsO (lkC true ⟨W5.heap.size, eb, mb⟩ (newLk sys key ports[i])) 84)) ⟨W5.heap.size, eb, mb⟩ (newLk sys key ports[i]) := by
            refine ⟨?_, (hF5.trans hFa).heap hE4 fun h => h, hFa.heap hM fun h => h, ?_, ?_, ?_⟩
            · simp only [push_cast, Nat.reduceAdd, Nat.reduceLeDiff, Nat.reduceLT, Int.reduceToNat, Nat.left_eq_add, Nat.add_eq_left, Nat.add_left_cancel_iff, Nat.reduceEqDiff, Nat.add_assoc, Nat.succ_ne_zero]
            · show W5.heap.size ≠ eb; omega
            · show W5.heap.size ≠ mb; omega
            · show eb ≠ mb; omega
          simp only [push_cast, Nat.reduceAdd, Nat.reduceLeDiff, Nat.reduceLT, Int.reduceToNat, Nat.left_eq_add, Nat.add_eq_left, Nat.add_left_cancel_iff, Nat.reduceEqDiff, Nat.add_assoc, Nat.succ_ne_zero]
          refine put_spec (t := ⟨W5.heap.size, eb, mb⟩) (x := newLk sys key ports[i]) hN (by omega) ((hFd.trans hF5).trans hFa) hl5 (by
            rintro q (e | e | e)
            · have e : q = W5.heap.size := e; omega
            · have e : q = eb := e; omega
            · have e : q = mb := e; omega) fun pv' W6 hN6 => ?_
          simp only [push_cast, Nat.reduceAdd, Nat.reduceLeDiff, Nat.reduceLT, Int.reduceToNat, Nat.left_eq_add, Nat.add_eq_left, Nat.add_left_cancel_iff, Nat.reduceEqDiff, Nat.add_assoc, Nat.succ_ne_zero, hwk]
          refine hX (n - 1) _ _ (by omega) ⟨i + 1, _, pv', rfl, by omega, hN6, ?_, insP_sorted hso _, fun p hp2 => ?_, take_all hil hr ⟨by omega, hrr⟩⟩
          · have := (insP_perm ls ((⟨W5.heap.size, eb, mb⟩ : B3), newLk sys key ports[i])).map (·.2.port)
            refine this.trans ?_
            rw [List.map_append, take_snoc hil]
            exact hp.append_right _
          · rcases List.mem_append.1 ((insP_perm ls _).mem_iff.1 hp2) with hp2 | hp2
            · exact hnl p hp2
            · rw [List.mem_singleton.1 hp2]; rfl
        refine hrd hFd fun b2 o2 hc2 hb2 => ?_
        refine allW_intro ?_ ?_
        · simp only [push_cast, Nat.reduceAdd, Nat.reduceLeDiff, Nat.reduceLT, Int.reduceToNat, Nat.left_eq_add, Nat.add_eq_left, Nat.add_left_cancel_iff, Nat.reduceEqDiff, Nat.add_assoc, Nat.succ_ne_zero, hc2]
          refine rmnew_spec fun mb W5 hmb hM hF5 => ?_
          exact hend mb W5 hmb hM hF5
        · simp only [push_cast, Nat.reduceAdd, Nat.reduceLeDiff, Nat.reduceLT, Int.reduceToNat, Nat.left_eq_add, Nat.add_eq_left, Nat.add_left_cancel_iff, Nat.reduceEqDiff, Nat.add_assoc, Nat.succ_ne_zero]
          refine rmnew_spec fun mb W5 hmb hM hF5 => ?_
          have hc3 : cellAt W5.heap[b2]? o2 = some (i64 ports[i]) := by rw [hF5.old b2 hb2 fun h => h]; exact hc2
          simp only [s_ld1, hc3, onS_some]
          exact hend mb W5 hmb hM hF5
    · rw [drw_eq]
      simp only [push_cast, Nat.reduceAdd, Nat.reduceLeDiff, Nat.reduceLT, Int.reduceToNat, Nat.left_eq_add, Nat.add_eq_left, Nat.add_left_cancel_iff, Nat.reduceEqDiff, Nat.add_assoc, Nat.succ_ne_zero]
      have hFd : Fr none_ W W.drew := Fr.drew W
      refine hrd hFd fun b1 o1 hc1 hb1 => ?_
      have qx := (hN.fr.trans hFd).heap q0 fun h => h
      have hxl := lt_of_heap qx
      generalize W.drew = W2 at *
      have hb1' : b1 ≠ W2.heap.size := by omega
      have hxb' : xb ≠ W2.heap.size := by omega
      have hend : ∀ W3, W3.heap[W2.heap.size]? = some (cellsO (Inf.cells ⟨sys.prio, sys.mac, key, 128, ports[i], 7⟩) 39) → Fr none_ W2 W3 → j2 (pt W2.heap.size 0) W3 := fun W3 a1 a2 => hj2 _ _ ⟨_, rfl, a1, hFd.trans a2⟩
      repeat' first
        | refine allW_intro ?_ ?_
        | simp only [push_cast, Nat.reduceAdd, Nat.reduceLeDiff, Nat.reduceLT, Int.reduceToNat, Nat.left_eq_add, Nat.add_eq_left, Nat.add_left_cancel_iff, Nat.reduceEqDiff, Nat.add_assoc, Nat.succ_ne_zero, hc1, qx, hb1', hxb']
      all_goals
        refine hend _ ?_ (by repeat' first | with_reducible exact Fr.refl _ _ | with_reducible refine Fr.step_alloc ?_ ?_ | with_reducible refine Fr.step_drew ?_ | with_reducible refine Fr.step_wr ?_ ?_ _ _ | exact rfl | exact Or.inr (by omega) | exact Or.inl rfl | exact Or.inl (Or.inl rfl) | exact Or.inl (Or.inr rfl))
        simp only [push_cast, Nat.reduceAdd, Nat.reduceLeDiff, Nat.reduceLT, Int.reduceToNat, Nat.left_eq_add, Nat.add_eq_left, Nat.add_left_cancel_iff, Nat.reduceEqDiff, Nat.add_assoc, Nat.succ_ne_zero]

end Go.Gx.S
end

section
/- A step at the code's group and at the document's; any steps. -/
set_option linter.unusedVariables false
set_option linter.unusedSimpArgs false
set_option maxRecDepth 100000
namespace Go.Gx.S
open Go Go.Gx Go.Proofs Go.Sort
variable {K : Value → World → Prop} {w : World} {pv fv : Value} {s : Grp}

def _root_.Go.Gx.Grp.stepA (s : Grp) (x : Ast) : Grp := if x.dO = 0 then s.takeP x.port x.l x.now else if x.dO = 1 then s.tickP x.now else s.enableP x.port x.is_ x.now
theorem _root_.Go.Gx.Grp.wf.stepA (h : s.wf) {x : Ast} (hx : x.ok) : (s.stepA x).wf := by
  unfold Grp.stepA
  split
  · exact h.takeP _ hx.2.2.2 _
  · split
    · exact h.tick _
    · exact h.enableP _ _ _

/-- both are one group -/
structure BG (w : World) (gA : Nat) (bsA : List B3) (pvA : Value) (gB : Nat) (bsB : List B3) (pvB : Value) (s : Grp) : Prop where
  c : CG w gA bsA pvA s
  r : RG w gB bsB pvB s
  sep : SepG gA bsA pvA gB bsB pvB
  wf : s.wf
def fB (bsA bsB : List B3) : Nat → Prop := fun c => fL bsA c ∨ fL bsB c

section
variable {gA gB : Nat} {bsA bsB : List B3} {pvA pvB : Value}
theorem BG.fr0 {w' : World} (h : BG w gA bsA pvA gB bsB pvB s) (hF : Fr none_ w w') : BG w' gA bsA pvA gB bsB pvB s := ⟨h.c.fr0 hF, h.r.fr0 hF, h.sep, h.wf⟩
theorem BG.lt (h : BG w gA bsA pvA gB bsB pvB s) : ∀ c, fB bsA bsB c → c < w.heap.size := fun c hc => hc.elim (fun h1 => h.c.lt c (.inr h1)) fun h1 => h.r.lt c (.inr h1)

theorem step_spec {x : Ast} (h : BG w gA bsA pvA gB bsB pvB s) (hx : x.ok)
    (hk : ∀ w', BG w' gA bsA pvA gB bsB pvB (s.stepA x) → Fr (fB bsA bsB) w w' → K (.bool true) w') :
    CallsR Tryz.prog 9 #[pt gA 0, pt gB 0, .agg x.cells.toArray] K w := by
  apply c9
  unfold p9
  have h0 : (w.alloc (cellsO x.cells 43)).heap[w.heap.size]? = some (cellsO x.cells 43) := by simp only [push_cast, Nat.reduceAdd, Nat.reduceLeDiff, Nat.reduceLT, Int.reduceToNat, Nat.left_eq_add, Nat.add_eq_left, Nat.add_left_cancel_iff, Nat.reduceEqDiff, Nat.add_assoc, Nat.succ_ne_zero]
  have hF0 : Fr none_ w (w.alloc (cellsO x.cells 43)) := (by repeat' first | with_reducible exact Fr.refl _ _ | with_reducible refine Fr.step_alloc ?_ ?_ | with_reducible refine Fr.step_drew ?_ | with_reducible refine Fr.step_wr ?_ ?_ _ _ | exact rfl | exact Or.inr (by omega) | exact Or.inl rfl | exact Or.inl (Or.inl rfl) | exact Or.inl (Or.inr rfl))
  simp only [opS_box, cells_agg, alloc_cellsO]
  have hn : ∀ c, fB bsA bsB c → c ≠ w.heap.size := fun c hc => by have := h.lt c hc; omega
  have h' := h.fr0 hF0
  generalize w.alloc (cellsO x.cells 43) = W0 at *
  generalize w.heap.size = xb at *
  have hwf := h.wf
  have hfin : ∀ w1 w2, CG w1 gA bsA pvA (s.stepA x) → Fr (fL bsA) W0 w1 → RG w2 gB bsB pvB (s.stepA x) → Fr (fL bsB) w1 w2 → BG w2 gA bsA pvA gB bsB pvB (s.stepA x) ∧ Fr (fB bsA bsB) w w2 := fun w1 w2 a1 a2 b1 b2 =>
    ⟨⟨h.sep.frA a1 b2, b1, h.sep, hwf.stepA hx⟩, ((frN hF0).trans (a2.mono fun _ _ h => .inl h)).trans (b2.mono fun _ _ h => .inr h)⟩
  simp only [push_cast, Nat.reduceAdd, Nat.reduceLeDiff, Nat.reduceLT, Int.reduceToNat, Nat.left_eq_add, Nat.add_eq_left, Nat.add_left_cancel_iff, Nat.reduceEqDiff, Nat.add_assoc, Nat.succ_ne_zero, h0]
  refine br_dec (fun e0 => ?_) fun e0 => ?_
  · have hst : s.stepA x = s.takeP x.port x.l x.now := by unfold Grp.stepA; rw [if_pos e0]
    refine gtake_spec h'.c hwf hx.2.2.2 fun w1 a1 a2 => ?_
    have h1 := a2.heap h0 fun e => hn _ (.inl e) rfl
    simp only [push_cast, Nat.reduceAdd, Nat.reduceLeDiff, Nat.reduceLT, Int.reduceToNat, Nat.left_eq_add, Nat.add_eq_left, Nat.add_left_cancel_iff, Nat.reduceEqDiff, Nat.add_assoc, Nat.succ_ne_zero, h1]
    refine rgtake_spec (h.sep.symm.frA h'.r a2) hwf hx.2.2.2 fun w2 b1 b2 => ?_
    rw [← hst] at a1 b1
    obtain ⟨g1, g2⟩ := hfin w1 w2 a1 a2 b1 b2
    simp only [push_cast, Nat.reduceAdd, Nat.reduceLeDiff, Nat.reduceLT, Int.reduceToNat, Nat.left_eq_add, Nat.add_eq_left, Nat.add_left_cancel_iff, Nat.reduceEqDiff, Nat.add_assoc, Nat.succ_ne_zero, beq_self_eq_true]
    exact hk w2 g1 g2
  refine br_dec (fun e1 => ?_) fun e1 => ?_
  · by_cases hm : momOk x.now
    · have hst : s.stepA x = s.tickP x.now := by unfold Grp.stepA; rw [if_neg e0, if_pos e1]
      refine gtick_spec h'.c hwf (fun e => absurd hm e) fun _ v w1 a1 hv nv a2 => ?_
      have h1 := a2.heap h0 fun e => hn _ (.inl e) rfl
      simp only [push_cast, Nat.reduceAdd, Nat.reduceLeDiff, Nat.reduceLT, Int.reduceToNat, Nat.left_eq_add, Nat.add_eq_left, Nat.add_left_cancel_iff, Nat.reduceEqDiff, Nat.add_assoc, Nat.succ_ne_zero, h1]
      refine rgtick_spec (h.sep.symm.frA h'.r a2) hwf (fun e => absurd hm e) fun _ v2 w2 b1 hv2 nv2 b2 => ?_
      rw [← hst] at a1 b1
      obtain ⟨g1, g2⟩ := hfin w1 w2 a1 a2 b1 b2
      simp only [push_cast, Nat.reduceAdd, Nat.reduceLeDiff, Nat.reduceLT, Int.reduceToNat, Nat.left_eq_add, Nat.add_eq_left, Nat.add_left_cancel_iff, Nat.reduceEqDiff, Nat.add_assoc, Nat.succ_ne_zero]
      refine same_spec (hv.fr b2 fun c hc e => ?_).rd hv2.rd (tick_ok hwf) (tick_n hwf) fun w3 f3 => ?_
      · have := nv c hc
        have := h'.r.lt c (.inr e)
        omega
      · rw [jn_1]
        simp only [push_cast, Nat.reduceAdd, Nat.reduceLeDiff, Nat.reduceLT, Int.reduceToNat, Nat.left_eq_add, Nat.add_eq_left, Nat.add_left_cancel_iff, Nat.reduceEqDiff, Nat.add_assoc, Nat.succ_ne_zero, beq_self_eq_true]
        exact hk w3 (g1.fr0 f3) (g2.trans (frN f3))
    · have hst : s.stepA x = s := by unfold Grp.stepA Grp.tickP; rw [if_neg e0, if_pos e1, if_neg hm]
      refine gtick_spec h'.c hwf (fun _ => ?_) fun e => absurd e hm
      simp only [push_cast, Nat.reduceAdd, Nat.reduceLeDiff, Nat.reduceLT, Int.reduceToNat, Nat.left_eq_add, Nat.add_eq_left, Nat.add_left_cancel_iff, Nat.reduceEqDiff, Nat.add_assoc, Nat.succ_ne_zero, h0]
      refine rgtick_spec h'.r hwf (fun _ => ?_) fun e => absurd e hm
      simp only [push_cast, Nat.reduceAdd, Nat.reduceLeDiff, Nat.reduceLT, Int.reduceToNat, Nat.left_eq_add, Nat.add_eq_left, Nat.add_left_cancel_iff, Nat.reduceEqDiff, Nat.add_assoc, Nat.succ_ne_zero]
      refine same_spec (l := []) (own_nil 105 24 _).rd (own_nil 105 24 _).rd (by simp) (by simp) fun w3 f3 => ?_
      rw [jn_1]
      simp only [push_cast, Nat.reduceAdd, Nat.reduceLeDiff, Nat.reduceLT, Int.reduceToNat, Nat.left_eq_add, Nat.add_eq_left, Nat.add_left_cancel_iff, Nat.reduceEqDiff, Nat.add_assoc, Nat.succ_ne_zero, beq_self_eq_true]
      refine hk w3 ?_ (frN (hF0.trans f3))
      rw [hst]
      exact h'.fr0 f3
  · have hst : s.stepA x = s.enableP x.port x.is_ x.now := by unfold Grp.stepA; rw [if_neg e0, if_neg e1]
    refine genable_spec h'.c hwf fun w1 a1 a2 => ?_
    have h1 := a2.heap h0 fun e => hn _ (.inl e) rfl
    simp only [push_cast, Nat.reduceAdd, Nat.reduceLeDiff, Nat.reduceLT, Int.reduceToNat, Nat.left_eq_add, Nat.add_eq_left, Nat.add_left_cancel_iff, Nat.reduceEqDiff, Nat.add_assoc, Nat.succ_ne_zero, h1]
    refine rgenable_spec (h.sep.symm.frA h'.r a2) hwf fun w2 b1 b2 => ?_
    rw [← hst] at a1 b1
    obtain ⟨g1, g2⟩ := hfin w1 w2 a1 a2 b1 b2
    simp only [push_cast, Nat.reduceAdd, Nat.reduceLeDiff, Nat.reduceLT, Int.reduceToNat, Nat.left_eq_add, Nat.add_eq_left, Nat.add_left_cancel_iff, Nat.reduceEqDiff, Nat.add_assoc, Nat.succ_ne_zero, beq_self_eq_true]
    exact hk w2 g1 g2

theorem up_n (h : s.wf) : s.up.length ≤ 32 := by
  unfold Grp.up
  rw [List.length_map]
  exact Nat.le_trans (List.length_filter_le _ _) h.len
theorem pickedP_n (h : s.wf) : s.pickedP.length ≤ 32 := by
  unfold Grp.pickedP
  rw [List.length_map]
  exact Nat.le_trans (List.length_filter_le _ _) h.len
theorem partner_ok (h : s.wf) : s.partner.1.ok := by
  unfold Grp.partner
  split
  · exact Inf.zero_right.ok Inf.zero_ok
  · rename_i i hi
    have hlt := (List.findIdx?_eq_some_iff_getElem.1 hi).1
    have : s.l.getD i default = s.l[i] := by rw [List.getD_eq_getElem?_getD, List.getElem?_eq_getElem hlt]; rfl
    rw [this]
    have := h.l _ (List.getElem_mem hlt)
    exact this.e.partner.ok this.e.psys
end

/-- both are made -/
theorem news_spec {sys : Idn} {key most : Int} {ports : List Int} {v : Value} (hs : sys.ok) (hv : RdE 1 w v (ports.map cellI)) (hl : ports.length < 2 ^ 62) {R : Value → Value → Value → Value → World → Prop}
    (h0 : ∀ (e : Int) w', e ≠ 0 → (e = 1 ∨ e = 5) → Fr none_ w w' → R (.pointer none) (i64 e) (.pointer none) (i64 e) w')
    (h1 : argOk sys key ports most → ports.Nodup → ∀ gA bsA pvA gB bsB pvB w', BG w' gA bsA pvA gB bsB pvB (newG sys key ports most) → (∀ b, fB bsA bsB b → w.heap.size ≤ b) → Fr none_ w w' → R (pt gA 0) (i64 0) (pt gB 0) (i64 0) w')
    {mid : (Value → World → Prop) → World → Prop} (hmid : ∀ (Q : Value → World → Prop) W, Fr none_ w W → (∀ W', Fr none_ W W' → CallsR Tryz.prog 8 #[.agg sys.cells.toArray, i64 key, v, i64 most] Q W') → mid Q W) :
    CallsR Tryz.prog 6 #[.agg sys.cells.toArray, i64 key, v, i64 most] (fun x19 => opS Tryz.prog (S.ext x19 0) fun x20 => opS Tryz.prog (S.ext x19 1) fun x21 => mid fun x27 => opS Tryz.prog (S.ext x27 0) fun x28 => opS Tryz.prog (S.ext x27 1) fun x29 => R x20 x21 x28 x29) w := by
  refine gnew_spec hs hv hl (fun e w1 f1 => ?_) (fun e hd w1 f1 => ?_) fun e hd gA bsA pvA w1 hA nA npA f1 => ?_
  · simp only [push_cast, Nat.reduceAdd, Nat.reduceLeDiff, Nat.reduceLT, Int.reduceToNat, Nat.left_eq_add, Nat.add_eq_left, Nat.add_left_cancel_iff, Nat.reduceEqDiff, Nat.add_assoc, Nat.succ_ne_zero]
    refine hmid _ w1 f1 fun w2 f2 => ?_
    have f12 := f1.trans f2
    refine rgnew_spec hs (hv.fr f12 fun _ _ h => h) hl (fun _ w3 f3 => ?_) (fun e2 => absurd e2 e) fun e2 => absurd e2 e
    simp only [push_cast, Nat.reduceAdd, Nat.reduceLeDiff, Nat.reduceLT, Int.reduceToNat, Nat.left_eq_add, Nat.add_eq_left, Nat.add_left_cancel_iff, Nat.reduceEqDiff, Nat.add_assoc, Nat.succ_ne_zero]
    exact h0 1 w3 (by decide) (.inl rfl) (f12.trans f3)
  · simp only [push_cast, Nat.reduceAdd, Nat.reduceLeDiff, Nat.reduceLT, Int.reduceToNat, Nat.left_eq_add, Nat.add_eq_left, Nat.add_left_cancel_iff, Nat.reduceEqDiff, Nat.add_assoc, Nat.succ_ne_zero]
    refine hmid _ w1 f1 fun w2 f2 => ?_
    have f12 := f1.trans f2
    refine rgnew_spec hs (hv.fr f12 fun _ _ h => h) hl (fun e2 => absurd e e2) (fun _ _ w3 f3 => ?_) fun _ e2 => absurd e2 hd
    simp only [push_cast, Nat.reduceAdd, Nat.reduceLeDiff, Nat.reduceLT, Int.reduceToNat, Nat.left_eq_add, Nat.add_eq_left, Nat.add_left_cancel_iff, Nat.reduceEqDiff, Nat.add_assoc, Nat.succ_ne_zero]
    exact h0 5 w3 (by decide) (.inr rfl) (f12.trans f3)
  · simp only [push_cast, Nat.reduceAdd, Nat.reduceLeDiff, Nat.reduceLT, Int.reduceToNat, Nat.left_eq_add, Nat.add_eq_left, Nat.add_left_cancel_iff, Nat.reduceEqDiff, Nat.add_assoc, Nat.succ_ne_zero]
    refine hmid _ w1 f1 fun w2 f2 => ?_
    have f12 := f1.trans f2
    refine rgnew_spec hs (hv.fr f12 fun _ _ h => h) hl (fun e2 => absurd e e2) (fun _ e2 => absurd hd e2) fun _ _ gB bsB pvB w3 hB nB npB f3 => ?_
    have hA2 := hA.fr0 f2
    have hl0 : 0 < (newG sys key ports most).l.length := by
      show 0 < ((srtI ports).map _).length
      rw [List.length_map, (srt_perm ports).length_eq]
      have := e.1; omega
    have hsep : SepG gA bsA pvA gB bsB pvB := ⟨fun c e1 e2 => by have := hA2.lt c e1; have := nB c e2; omega, fun c e1 e2 => by have := hA2.pv_lt hl0 c e1; have := nB c e2; omega, fun c e1 e2 => by have := hA2.lt c e2; have := npB c e1; omega⟩
    simp only [push_cast, Nat.reduceAdd, Nat.reduceLeDiff, Nat.reduceLT, Int.reduceToNat, Nat.left_eq_add, Nat.add_eq_left, Nat.add_left_cancel_iff, Nat.reduceEqDiff, Nat.add_assoc, Nat.succ_ne_zero]
    have s12 := f12.size
    exact h1 e hd gA bsA pvA gB bsB pvB w3 ⟨hA2.fr0 f3, hB, hsep, newG_wf hs e⟩ (fun c hc => hc.elim (fun h => nA c (.inr h)) fun h => by have := nB c (.inr h); omega) (f12.trans f3)

set_option maxHeartbeats 1000000 in
theorem scripts_law {a b c : Int} {ports : List Int} {cv sv : Value} {st : List Ast} (ha : isI a) (hc : RdE 1 w cv (ports.map cellI)) (hst : RdE 27 w sv (st.map Ast.cells)) (hso : ∀ x ∈ st, x.ok)
    (hk : ∀ w', Fr none_ w w' → K (.bool true) w') : CallsR Tryz.prog 4 #[.agg [i64 a, i64 b, i64 c].toArray, cv, sv] K w := by
  apply c4
  unfold p4
  have elen : ∀ (R : Value → World → Prop) W, opS Tryz.prog (S.len cv) R W = R (i64 ports.length) W := fun R W => by
    obtain ⟨a, c, e⟩ := hc.form
    rw [e, List.length_map]; rfl
  have slen : ∀ (R : Value → World → Prop) W, opS Tryz.prog (S.len sv) R W = R (i64 st.length) W := fun R W => by
    obtain ⟨a, c, e⟩ := hst.form
    rw [e, List.length_map]; rfl
  have hFx : Fr none_ w (w.alloc (cellsO [i64 a, i64 b, i64 c] 46)) := (by repeat' first | with_reducible exact Fr.refl _ _ | with_reducible refine Fr.step_alloc ?_ ?_ | with_reducible refine Fr.step_drew ?_ | with_reducible refine Fr.step_wr ?_ ?_ _ _ | exact rfl | exact Or.inr (by omega) | exact Or.inl rfl | exact Or.inl (Or.inl rfl) | exact Or.inl (Or.inr rfl))
  have qx : (w.alloc (cellsO [i64 a, i64 b, i64 c] 46)).heap[w.heap.size]? = some (cellsO [i64 a, i64 b, i64 c] 46) := by simp only [push_cast, Nat.reduceAdd, Nat.reduceLeDiff, Nat.reduceLT, Int.reduceToNat, Nat.left_eq_add, Nat.add_eq_left, Nat.add_left_cancel_iff, Nat.reduceEqDiff, Nat.add_assoc, Nat.succ_ne_zero]
  simp only [opS_box, cells_agg, alloc_cellsO]
  generalize w.alloc (cellsO [i64 a, i64 b, i64 c] 46) = wx at *
  generalize hxb : w.heap.size = xb at *
  rw [opS_cl]
  refine awake_spec fun w0 f0 => ?_
  have q0 := f0.heap qx fun h => h
  have f0 := hFx.trans f0
  have hi : ({ prio := a, mac := ⟨2, 0, 0, 0, 0, 0⟩ } : Idn).ok := ⟨ha, idA_ok.2⟩
  generalize hid : ({ prio := a, mac := ⟨2, 0, 0, 0, 0, 0⟩ } : Idn) = sys at *
  have hxl : xb < w0.heap.size := lt_of_heap q0
  rw [opS_iaA _ _ _ _ (by decide)]
  simp only [s_ld1, q0, cellAt_cells, Int.reduceToNat, Nat.zero_mul, Nat.zero_add, List.getElem?_cons_zero, onS_some]
  rw [build_mac1, build_id2, hid]
  have hF1 : Fr none_ w0 (wr (w0.alloc (cellsO (Idn.cells ⟨0, ⟨0, 0, 0, 0, 0, 0⟩⟩) 32)) w0.heap.size 0 sys.cells) := (by repeat' first | with_reducible exact Fr.refl _ _ | with_reducible refine Fr.step_alloc ?_ ?_ | with_reducible refine Fr.step_drew ?_ | with_reducible refine Fr.step_wr ?_ ?_ _ _ | exact rfl | exact Or.inr (by omega) | exact Or.inl rfl | exact Or.inl (Or.inl rfl) | exact Or.inl (Or.inr rfl))
  have q1 : (wr (w0.alloc (cellsO (Idn.cells ⟨0, ⟨0, 0, 0, 0, 0, 0⟩⟩) 32)) w0.heap.size 0 sys.cells).heap[w0.heap.size]? = some (cellsO sys.cells 32) := by simp only [push_cast, Nat.reduceAdd, Nat.reduceLeDiff, Nat.reduceLT, Int.reduceToNat, Nat.left_eq_add, Nat.add_eq_left, Nat.add_left_cancel_iff, Nat.reduceEqDiff, Nat.add_assoc, Nat.succ_ne_zero]
  have hal : ∀ (R : Value → World → Prop), opS Tryz.prog (S.alloc 32) R w0 = R (pt w0.heap.size 0) (w0.alloc (cellsO (Idn.cells ⟨0, ⟨0, 0, 0, 0, 0, 0⟩⟩) 32)) := fun R => by rw [opS_alloc]; rfl
  have hst1 : ∀ (R : Value → World → Prop), opS Tryz.prog (S.st 32 (pt w0.heap.size 0) (.agg sys.cells.toArray)) R (w0.alloc (cellsO (Idn.cells ⟨0, ⟨0, 0, 0, 0, 0, 0⟩⟩) 32)) = R undef (wr (w0.alloc (cellsO (Idn.cells ⟨0, ⟨0, 0, 0, 0, 0, 0⟩⟩) 32)) w0.heap.size 0 sys.cells) := fun R => by
    rw [s_stA _ _ _ (Idn.len _) (Idn.one _), heap_alloc, if_pos rfl, okAt_cells]
    exact onB_true _
  rw [hal, hst1]
  have qx1 := hF1.heap q0 fun h => h
  generalize wr (w0.alloc (cellsO (Idn.cells ⟨0, ⟨0, 0, 0, 0, 0, 0⟩⟩) 32)) w0.heap.size 0 sys.cells = w1 at *
  generalize hib : w0.heap.size = ib at *
  have f1 := f0.trans hF1
  simp only [push_cast, Nat.reduceAdd, Nat.reduceLeDiff, Nat.reduceLT, Int.reduceToNat, Nat.left_eq_add, Nat.add_eq_left, Nat.add_left_cancel_iff, Nat.reduceEqDiff, Nat.add_assoc, Nat.succ_ne_zero]
  rw [elen]
  simp only [push_cast, Nat.reduceAdd, Nat.reduceLeDiff, Nat.reduceLT, Int.reduceToNat, Nat.left_eq_add, Nat.add_eq_left, Nat.add_left_cancel_iff, Nat.reduceEqDiff, Nat.add_assoc, Nat.succ_ne_zero]
  refine br_dec (fun e => hk _ f1) fun e => ?_
  simp only [push_cast, Nat.reduceAdd, Nat.reduceLeDiff, Nat.reduceLT, Int.reduceToNat, Nat.left_eq_add, Nat.add_eq_left, Nat.add_left_cancel_iff, Nat.reduceEqDiff, Nat.add_assoc, Nat.succ_ne_zero, q1]
  rw [opS_iaA _ _ _ _ (by decide)]
  simp only [push_cast, Nat.reduceAdd, Nat.reduceLeDiff, Nat.reduceLT, Int.reduceToNat, Nat.left_eq_add, Nat.add_eq_left, Nat.add_left_cancel_iff, Nat.reduceEqDiff, Nat.add_assoc, Nat.succ_ne_zero, qx1, Nat.one_mul, List.getElem?_cons_zero, List.getElem?_cons_succ]
  rw [opS_iaA _ _ _ _ (by decide)]
  simp only [push_cast, Nat.reduceAdd, Nat.reduceLeDiff, Nat.reduceLT, Int.reduceToNat, Nat.left_eq_add, Nat.add_eq_left, Nat.add_left_cancel_iff, Nat.reduceEqDiff, Nat.add_assoc, Nat.succ_ne_zero, qx1, Nat.mul_one, List.getElem?_cons_zero, List.getElem?_cons_succ]
  have hmid : ∀ (Q : Value → World → Prop) W, Fr none_ w1 W → (∀ W', Fr none_ W W' → CallsR Tryz.prog 8 #[.agg sys.cells.toArray, i64 b, cv, i64 c] Q W') →
      opS Tryz.prog (S.ld 32 (pt ib 0)) (fun x22 => opS Tryz.prog (S.ia 46 (pt xb 0) (.int .i64 1)) fun x23 => opS Tryz.prog (S.ld 3 x23) fun x24 => opS Tryz.prog (S.ia 46 (pt xb 0) (.int .i64 2)) fun x25 => opS Tryz.prog (S.ld 3 x25) fun x26 => opS Tryz.prog (S.cl 8 [x22, x24, cv, x26]) Q) W := fun Q W hF hQ => by
    have r1 := hF.heap q1 fun h => h
    have r2 := hF.heap qx1 fun h => h
    simp only [push_cast, Nat.reduceAdd, Nat.reduceLeDiff, Nat.reduceLT, Int.reduceToNat, Nat.left_eq_add, Nat.add_eq_left, Nat.add_left_cancel_iff, Nat.reduceEqDiff, Nat.add_assoc, Nat.succ_ne_zero, r1]
    rw [opS_iaA _ _ _ _ (by decide)]
    simp only [push_cast, Nat.reduceAdd, Nat.reduceLeDiff, Nat.reduceLT, Int.reduceToNat, Nat.left_eq_add, Nat.add_eq_left, Nat.add_left_cancel_iff, Nat.reduceEqDiff, Nat.add_assoc, Nat.succ_ne_zero, r2, Nat.one_mul, List.getElem?_cons_zero, List.getElem?_cons_succ]
    rw [opS_iaA _ _ _ _ (by decide)]
    simp only [push_cast, Nat.reduceAdd, Nat.reduceLeDiff, Nat.reduceLT, Int.reduceToNat, Nat.left_eq_add, Nat.add_eq_left, Nat.add_left_cancel_iff, Nat.reduceEqDiff, Nat.add_assoc, Nat.succ_ne_zero, r2, Nat.mul_one, List.getElem?_cons_zero, List.getElem?_cons_succ]
    exact hQ W (Fr.refl _ _)
  refine news_spec hi (hc.fr f1 fun _ _ h => h) (by omega) (fun e2 w2 he0 he f2 => ?_) (fun harg hnd gA bsA pvA gB bsB pvB w2 hb hbn f2 => ?_) hmid
  · simp only [push_cast, Nat.reduceAdd, Nat.reduceLeDiff, Nat.reduceLT, Int.reduceToNat, Nat.left_eq_add, Nat.add_eq_left, Nat.add_left_cancel_iff, Nat.reduceEqDiff, Nat.add_assoc, Nat.succ_ne_zero, bne_self_eq_false]
    refine jn0 (fun W => Fr none_ w W) (fun W h => hk W h) fun j hj => ?_
    refine loop1 (fun n u W => u = i64 0 ∧ W = w2) ?_ 0 ⟨rfl, rfl⟩
    rintro n u W X ⟨rfl, rfl⟩ hX
    have F2 := f1.trans f2
    rw [slen]
    simp only [push_cast, Nat.reduceAdd, Nat.reduceLeDiff, Nat.reduceLT, Int.reduceToNat, Nat.left_eq_add, Nat.add_eq_left, Nat.add_left_cancel_iff, Nat.reduceEqDiff, Nat.add_assoc, Nat.succ_ne_zero]
    refine br_dec (fun _ => ?_) fun _ => hj _ F2
    refine br_dec (fun _ => ?_) fun _ => hj _ F2
    exact hj _ F2
  · simp only [push_cast, Nat.reduceAdd, Nat.reduceLeDiff, Nat.reduceLT, Int.reduceToNat, Nat.left_eq_add, Nat.add_eq_left, Nat.add_left_cancel_iff, Nat.reduceEqDiff, Nat.add_assoc, Nat.succ_ne_zero, bne_self_eq_false, beq_self_eq_true, Bool.not_true]
    refine jn0 (fun W => Fr none_ w W) (fun W h => hk W h) fun j hj => ?_
    refine loop1 (fun n u W => ∃ (i : Nat) (s : Grp), u = i64 i ∧ i + n = st.length ∧ BG W gA bsA pvA gB bsB pvB s ∧ Fr none_ w W) ?_ st.length ⟨0, _, rfl, by omega, hb, f1.trans f2⟩
    rintro n u W X ⟨i, s, rfl, hin, hb, hF⟩ hX
    rw [slen]
    simp only [push_cast, Nat.reduceAdd, Nat.reduceLeDiff, Nat.reduceLT, Int.reduceToNat, Nat.left_eq_add, Nat.add_eq_left, Nat.add_left_cancel_iff, Nat.reduceEqDiff, Nat.add_assoc, Nat.succ_ne_zero]
    refine br_dec (fun hlt => ?_) fun _ => hj _ hF
    have hil : i < st.length := by omega
    refine br_dec (fun h120 => ?_) fun _ => hj _ hF
    have hwk : IntKind.i64.wrap ((i : Int) + 1) = ((i + 1 : Nat) : Int) := by rw [wrap_i64 (by omega)]; rfl
    refine s_iaE (es := st.map Ast.cells) (hst.fr hF fun _ _ h => h) (by omega) (by simpa using hil) fun b1 o1 c1 _ hE => ?_
    simp only [Int.toNat_natCast, List.getElem_map] at hE ⊢
    have hag := hE.agg0 (Ast.len _)
    simp only [push_cast, Nat.reduceAdd, Nat.reduceLeDiff, Nat.reduceLT, Int.reduceToNat, Nat.left_eq_add, Nat.add_eq_left, Nat.add_left_cancel_iff, Nat.reduceEqDiff, Nat.add_assoc, Nat.succ_ne_zero, hag]
    refine step_spec hb (hso _ (List.getElem_mem hil)) fun W1 hb1 g1 => ?_
    have hF1 : Fr none_ w W1 := hF.trans_new g1 fun c hc e => by have := hbn c e; have := f1.size; omega
    generalize s.stepA st[i] = s1 at *
    have hn1 := hb1.wf.len
    simp only [push_cast, Nat.reduceAdd, Nat.reduceLeDiff, Nat.reduceLT, Int.reduceToNat, Nat.left_eq_add, Nat.add_eq_left, Nat.add_left_cancel_iff, Nat.reduceEqDiff, Nat.add_assoc, Nat.succ_ne_zero]
    refine gpartner_spec hb1.c hn1 fun W2 g2 => ?_
    have hb2 := hb1.fr0 g2
    have hF2 := hF1.trans g2
    have hok := partner_ok hb1.wf
    generalize hpp : s1.partner = pp at *
    have hzz : ∀ (R : Value → World → Prop) (W : World), opS Tryz.prog (S.alloc 39) R W = R (pt W.heap.size 0) (W.alloc (cellsO Inf.zero.cells 39)) := fun R W => zalloc_inf
    have hst : ∀ (R : Value → World → Prop) (W : World), opS Tryz.prog (S.st 39 (pt W.heap.size 0) (.agg pp.1.cells.toArray)) R (W.alloc (cellsO Inf.zero.cells 39)) = R undef (wr (W.alloc (cellsO Inf.zero.cells 39)) W.heap.size 0 pp.1.cells) := fun R W => by
      rw [s_stA _ _ _ (Inf.len _) (Inf.one _), heap_alloc, if_pos rfl, okAt_cells]
      exact onB_true _
    have hal2 : ∀ W : World, Fr none_ W (wr (W.alloc (cellsO Inf.zero.cells 39)) W.heap.size 0 pp.1.cells) ∧ (wr (W.alloc (cellsO Inf.zero.cells 39)) W.heap.size 0 pp.1.cells).heap[W.heap.size]? = some (cellsO pp.1.cells 39) := fun W => ⟨(by repeat' first | with_reducible exact Fr.refl _ _ | with_reducible refine Fr.step_alloc ?_ ?_ | with_reducible refine Fr.step_drew ?_ | with_reducible refine Fr.step_wr ?_ ?_ _ _ | exact rfl | exact Or.inr (by omega) | exact Or.inl rfl | exact Or.inl (Or.inl rfl) | exact Or.inl (Or.inr rfl)), by simp only [push_cast, Nat.reduceAdd, Nat.reduceLeDiff, Nat.reduceLT, Int.reduceToNat, Nat.left_eq_add, Nat.add_eq_left, Nat.add_left_cancel_iff, Nat.reduceEqDiff, Nat.add_assoc, Nat.succ_ne_zero]⟩
    simp only [s_ext, List.getElem?_toArray, List.getElem?_cons_zero, List.getElem?_cons_succ, onS_some]
    rw [hzz, hst]
    obtain ⟨g3, q3⟩ := hal2 W2
    generalize hpb : W2.heap.size = pb at *
    generalize wr (W2.alloc (cellsO Inf.zero.cells 39)) pb 0 pp.1.cells = W3 at *
    have hb3 := hb2.fr0 g3
    have hF3 := hF2.trans g3
    simp only [opS_cl]
    refine rgpartner_spec hb3.r hn1 fun W4 g4 => ?_
    rw [hpp]
    have hb4 := hb3.fr0 g4
    have hF4 := hF3.trans g4
    have q4 := g4.heap q3 fun h => h
    simp only [s_ext, List.getElem?_toArray, List.getElem?_cons_zero, List.getElem?_cons_succ, onS_some]
    rw [hzz, hst]
    obtain ⟨g5, q5⟩ := hal2 W4
    generalize hpb2 : W4.heap.size = pb2 at *
    generalize wr (W4.alloc (cellsO Inf.zero.cells 39)) pb2 0 pp.1.cells = W5 at *
    have hb5 := hb4.fr0 g5
    have hF5 := hF4.trans g5
    have q4 := g5.heap q4 fun h => h
    simp only [push_cast, Nat.reduceAdd, Nat.reduceLeDiff, Nat.reduceLT, Int.reduceToNat, Nat.left_eq_add, Nat.add_eq_left, Nat.add_left_cancel_iff, Nat.reduceEqDiff, Nat.add_assoc, Nat.succ_ne_zero]
    refine picked_spec hb5.c hn1 fun x W6 hx nx g6 => ?_
    have hb6 := hb5.fr0 g6
    simp only [push_cast, Nat.reduceAdd, Nat.reduceLeDiff, Nat.reduceLT, Int.reduceToNat, Nat.left_eq_add, Nat.add_eq_left, Nat.add_left_cancel_iff, Nat.reduceEqDiff, Nat.add_assoc, Nat.succ_ne_zero]
    refine rpicked_spec hb6.r hn1 fun y W7 hy ny g7 => ?_
    have hb7 := hb6.fr0 g7
    have hpn := pickedP_n hb1.wf
    simp only [push_cast, Nat.reduceAdd, Nat.reduceLeDiff, Nat.reduceLT, Int.reduceToNat, Nat.left_eq_add, Nat.add_eq_left, Nat.add_left_cancel_iff, Nat.reduceEqDiff, Nat.add_assoc, Nat.succ_ne_zero]
    refine sameints_spec (hx.fr g7 fun _ _ h => h).rd hy.rd (by omega) fun W8 g8 => ?_
    rw [decide_eq_true rfl]
    have hb8 := hb7.fr0 g8
    have g58 := (g6.trans g7).trans g8
    have q4 := g58.heap q4 fun h => h
    have q5 := g58.heap q5 fun h => h
    have hF8 := hF5.trans g58
    simp only [push_cast, Nat.reduceAdd, Nat.reduceLeDiff, Nat.reduceLT, Int.reduceToNat, Nat.left_eq_add, Nat.add_eq_left, Nat.add_left_cancel_iff, Nat.reduceEqDiff, Nat.add_assoc, Nat.succ_ne_zero, q4, q5, Bool.not_true]
    refine s_neInf hok hok ?_
    rw [decide_eq_true rfl]
    simp only [push_cast, Nat.reduceAdd, Nat.reduceLeDiff, Nat.reduceLT, Int.reduceToNat, Nat.left_eq_add, Nat.add_eq_left, Nat.add_left_cancel_iff, Nat.reduceEqDiff, Nat.add_assoc, Nat.succ_ne_zero, Bool.not_true, beq_self_eq_true]
    refine up_spec hb8.c hn1 fun x W9 hx nx g9 => ?_
    have hb9 := hb8.fr0 g9
    simp only [push_cast, Nat.reduceAdd, Nat.reduceLeDiff, Nat.reduceLT, Int.reduceToNat, Nat.left_eq_add, Nat.add_eq_left, Nat.add_left_cancel_iff, Nat.reduceEqDiff, Nat.add_assoc, Nat.succ_ne_zero]
    refine rup_spec hb9.r hn1 fun y W10 hy ny g10 => ?_
    have hb10 := hb9.fr0 g10
    have hun := up_n hb1.wf
    simp only [push_cast, Nat.reduceAdd, Nat.reduceLeDiff, Nat.reduceLT, Int.reduceToNat, Nat.left_eq_add, Nat.add_eq_left, Nat.add_left_cancel_iff, Nat.reduceEqDiff, Nat.add_assoc, Nat.succ_ne_zero]
    refine sameints_spec (hx.fr g10 fun _ _ h => h).rd hy.rd (by omega) fun W11 g11 => ?_
    rw [decide_eq_true rfl]
    simp only [push_cast, Nat.reduceAdd, Nat.reduceLeDiff, Nat.reduceLT, Int.reduceToNat, Nat.left_eq_add, Nat.add_eq_left, Nat.add_left_cancel_iff, Nat.reduceEqDiff, Nat.add_assoc, Nat.succ_ne_zero, Bool.not_true, hwk]
    exact hX (n - 1) _ _ (by omega) ⟨i + 1, s1, rfl, by omega, hb10.fr0 g11, ((hF8.trans g9).trans g10).trans g11⟩

end Go.Gx.S
end

section
/- Selected ports are no more than most; only selected ones send. -/
set_option linter.unusedVariables false
set_option linter.unusedSimpArgs false
set_option maxRecDepth 100000
namespace Go.Gx.S
open Go Go.Gx Go.Proofs Go.Sort
variable {K : Value → World → Prop} {w : World} {pv fv : Value} {s : Grp}

/-! ### Plain -/

def cnt (l : List Lk) : Nat := (l.filter (·.picked)).length
theorem cnt_map {f : Lk → Lk} (hf : ∀ x : Lk, (f x).picked = x.picked) : ∀ l : List Lk, cnt (l.map f) = cnt l
  | [] => rfl
  | x :: l => by
    have ih := cnt_map hf l
    unfold cnt at *
    rw [List.map_cons, List.filter_cons, List.filter_cons, hf x]
    split
    · rw [List.length_cons, List.length_cons, ih]
    · exact ih
theorem pickL_cnt (k : Nat) (sy : Inf) : ∀ (l : List Lk) (i : Nat) (left : Int), 0 ≤ left → (cnt (pickL k sy i left l) : Int) ≤ left + (if i ≤ k then 1 else 0)
  | [], i, left, h => by
    show ((0 : Nat) : Int) ≤ _
    split <;> omega
  | x :: l, i, left, h => by
    rw [pickL]
    by_cases e : i = k
    · rw [if_pos e]
      have := pickL_cnt k sy l (i + 1) left h
      rw [if_neg (by omega)] at this
      unfold cnt at *
      rw [List.filter_cons_of_pos rfl, List.length_cons, if_pos (by omega)]
      omega
    · rw [if_neg e]
      have hik : (if i + 1 ≤ k then (1 : Int) else 0) = if i ≤ k then 1 else 0 := by
        by_cases h2 : i ≤ k
        · rw [if_pos h2, if_pos (by omega)]
        · rw [if_neg h2, if_neg (by omega)]
      by_cases c : x.sound = true ∧ 0 < left ∧ sysI x.e.partner = sy
      · rw [if_pos c]
        have := pickL_cnt k sy l (i + 1) (left - 1) (by omega)
        rw [hik] at this
        unfold cnt at *
        rw [List.filter_cons_of_pos rfl, List.length_cons]
        omega
      · rw [if_neg c]
        have := pickL_cnt k sy l (i + 1) left h
        rw [hik] at this
        unfold cnt at *
        rw [List.filter_cons_of_neg (by show ¬ (false = true); decide)]
        exact this
theorem pickP_cnt (hm : 1 ≤ s.most) : (cnt (pickP s).l : Int) ≤ s.most := by
  unfold pickP
  simp only []
  generalize s.l.map Lk.keep = l1
  cases e : lead l1 with
  | none =>
    have hno : l1.findIdx? (·.picked) = none := by
      unfold lead at e
      cases e1 : l1.findIdx? (·.picked) with
      | none => rfl
      | some q => rw [e1] at e; cases e
    have : cnt l1 = 0 := by
      unfold cnt
      rw [List.filter_eq_nil_iff.2 fun x hx => by rw [List.findIdx?_eq_none_iff.1 hno x hx]; decide]
      rfl
    show (cnt l1 : Int) ≤ _
    omega
  | some k =>
    have := pickL_cnt k (sysI (l1.getD k default).e.partner) l1 0 (s.most - 1) (by omega)
    split at this <;> (show (cnt (pickL _ _ 0 _ l1) : Int) ≤ _; omega)
theorem settle_picked (x : Lk) (now : Int) : (x.settleP now).picked = x.picked := rfl
theorem says_picked (x : Lk) (now : Int) : (x.says now).picked = x.picked ∧ (x.says now).m = x.m := by
  unfold Lk.says
  split <;> exact ⟨rfl, rfl⟩
theorem tick_cnt {now : Int} (hm : 1 ≤ s.most) (hn : momOk now) : (cnt (s.tickP now).l : Int) ≤ s.most := by
  unfold Grp.tickP
  rw [if_pos hn]
  show (cnt ((s.ticked now).l.map (·.says now)) : Int) ≤ _
  rw [cnt_map fun x => (says_picked x now).1]
  unfold Grp.ticked
  show (cnt ((pickP _).l.map (·.settleP now)) : Int) ≤ _
  rw [cnt_map fun x => settle_picked x now]
  exact pickP_cnt (s := { s with l := s.l.map (·.tickP now) }) hm
theorem cnt_modify {f : Lk → Lk} (hf : ∀ x : Lk, (f x).picked = x.picked) : ∀ (l : List Lk) (i : Nat), cnt (l.modify i f) = cnt l
  | [], i => by cases i <;> rfl
  | x :: l, 0 => by
    show cnt (f x :: l) = _
    unfold cnt
    rw [List.filter_cons, List.filter_cons, hf x]
    split <;> simp
  | x :: l, i + 1 => by
    have ih := cnt_modify hf l i
    show cnt (x :: l.modify i f) = _
    unfold cnt at *
    rw [List.filter_cons, List.filter_cons]
    split
    · rw [List.length_cons, List.length_cons, ih]
    · exact ih
theorem on_cnt {port : Int} {f : Lk → Lk} (hf : ∀ x : Lk, (f x).picked = x.picked) : cnt (s.on port f).l = cnt s.l ∧ (s.on port f).most = s.most := by
  unfold Grp.on
  split
  · exact ⟨rfl, rfl⟩
  · exact ⟨cnt_modify hf _ _, rfl⟩
theorem tick_most (now : Int) : (s.tickP now).most = s.most := by unfold Grp.tickP; split <;> rfl
theorem step_cnt {x : Ast} (hm : 1 ≤ s.most) (h : (cnt s.l : Int) ≤ s.most) : (cnt (s.stepA x).l : Int) ≤ (s.stepA x).most ∧ (s.stepA x).most = s.most := by
  unfold Grp.stepA
  split
  · have := on_cnt (s := s) (port := x.port) (f := (·.takeP x.l x.now)) fun _ => rfl
    unfold Grp.takeP
    rw [this.1, this.2]
    exact ⟨h, rfl⟩
  · split
    · rw [tick_most]
      refine ⟨?_, rfl⟩
      by_cases hn : momOk x.now
      · exact tick_cnt hm hn
      · unfold Grp.tickP; rw [if_neg hn]; exact h
    · have := on_cnt (s := s) (port := x.port) (f := (·.enableP x.is_ x.now)) fun _ => rfl
      unfold Grp.enableP
      rw [this.1, this.2]
      exact ⟨h, rfl⟩
theorem new_cnt (sys : Idn) (key : Int) (ports : List Int) (most : Int) : cnt (newG sys key ports most).l = 0 := by
  unfold cnt newG
  rw [List.filter_eq_nil_iff.2 fun x hx => by
    obtain ⟨p, _, rfl⟩ := List.mem_map.1 hx
    show ¬ (false = true)
    decide]
  rfl
theorem settle_unsel {p now : Int} (n : Nat) (m : Mxx) : (Mxx.settle false p now (n + 1) m).1.state = 0 := by
  rw [Mxx.settle]
  by_cases e : m.state = 0
  · have : m.next false p now = none := by unfold Mxx.next; simp [e]
    rw [this]; exact e
  · have h1 : m.next false p now = some 0 := by unfold Mxx.next; simp [e]
    rw [h1]
    have h2 : (m.goto 0 now).next false p now = none := by unfold Mxx.next Mxx.goto; simp
    have h3 : ∀ n, (Mxx.settle false p now n (m.goto 0 now)) = (m.goto 0 now, false) := settle_none h2
    simp only [h3]
    rfl
/-- what sends is selected -/
theorem up_picked {now : Int} (hn : momOk now) : ∀ p ∈ (s.tickP now).up, p ∈ (s.tickP now).pickedP := fun p hp => by
  unfold Grp.up at hp
  unfold Grp.pickedP
  obtain ⟨x, hx, rfl⟩ := List.mem_map.1 hp
  rw [List.mem_filter] at hx
  refine List.mem_map.2 ⟨x, List.mem_filter.2 ⟨hx.1, ?_⟩, rfl⟩
  have h4 : x.m.state = 4 := of_decide_eq_true hx.2
  have hx := hx.1
  unfold Grp.tickP at hx
  rw [if_pos hn] at hx
  obtain ⟨y, hy, rfl⟩ := List.mem_map.1 (show x ∈ (s.ticked now).l.map (·.says now) from hx)
  rw [(says_picked y now).2] at h4
  show (y.says now).picked = true
  rw [(says_picked y now).1]
  unfold Grp.ticked at hy
  obtain ⟨z, hz, rfl⟩ := List.mem_map.1 (show y ∈ (pickP { s with l := s.l.map (·.tickP now) }).l.map (·.settleP now) from hy)
  show z.picked = true
  cases e : z.picked with
  | true => rfl
  | false =>
    exfalso
    have h4 : (Mxx.settle z.picked z.e.partner.state now 5 z.m).1.state = 4 := h4
    rw [e, settle_unsel] at h4
    omega

/-! ### The law -/

set_option maxHeartbeats 1000000 in
theorem picks_law {most : Int} {ports : List Int} {cv sv : Value} {st : List Ast} (hc : RdE 1 w cv (ports.map cellI)) (hst : RdE 27 w sv (st.map Ast.cells)) (hso : ∀ x ∈ st, x.ok)
    (hk : ∀ w', Fr none_ w w' → K (.bool true) w') : CallsR Tryz.prog 3 #[cv, i64 most, sv] K w := by
  apply c3
  unfold p3
  have elen : ∀ (R : Value → World → Prop) W, opS Tryz.prog (S.len cv) R W = R (i64 ports.length) W := fun R W => by
    obtain ⟨a, c, e⟩ := hc.form
    rw [e, List.length_map]; rfl
  have slen : ∀ (R : Value → World → Prop) W, opS Tryz.prog (S.len sv) R W = R (i64 st.length) W := fun R W => by
    obtain ⟨a, c, e⟩ := hst.form
    rw [e, List.length_map]; rfl
  have hsw : ∀ {W : World} {v : Value} {l : List Int} {R : Value → World → Prop}, OwnE 3 1 W v (l.map cellI) → R (i64 l.length) W → opS Tryz.prog (S.len v) R W := fun {W v l R} hv hR => by
    obtain ⟨a, c, e⟩ := hv.rd.form
    rw [e, List.length_map]
    exact hR
  simp only [push_cast, Nat.reduceAdd, Nat.reduceLeDiff, Nat.reduceLT, Int.reduceToNat, Nat.left_eq_add, Nat.add_eq_left, Nat.add_left_cancel_iff, Nat.reduceEqDiff, Nat.add_assoc, Nat.succ_ne_zero]
  refine awake_spec fun w0 f0 => ?_
  simp only [push_cast, Nat.reduceAdd, Nat.reduceLeDiff, Nat.reduceLT, Int.reduceToNat, Nat.left_eq_add, Nat.add_eq_left, Nat.add_left_cancel_iff, Nat.reduceEqDiff, Nat.add_assoc, Nat.succ_ne_zero]
  rw [elen]
  simp only [push_cast, Nat.reduceAdd, Nat.reduceLeDiff, Nat.reduceLT, Int.reduceToNat, Nat.left_eq_add, Nat.add_eq_left, Nat.add_left_cancel_iff, Nat.reduceEqDiff, Nat.add_assoc, Nat.succ_ne_zero]
  refine br_dec (fun e => hk _ f0) fun e => ?_
  refine sys_spec fun w1 f1 => ?_
  simp only [push_cast, Nat.reduceAdd, Nat.reduceLeDiff, Nat.reduceLT, Int.reduceToNat, Nat.left_eq_add, Nat.add_eq_left, Nat.add_left_cancel_iff, Nat.reduceEqDiff, Nat.add_assoc, Nat.succ_ne_zero]
  have f01 := f0.trans f1
  refine gnew_spec idA_ok (hc.fr f01 fun _ _ h => h) (by omega) (fun e w2 f2 => ?_) (fun e hd w2 f2 => ?_) fun harg hnd gA bsA pvA w2 hA nA npA f2 => ?_
  · simp only [push_cast, Nat.reduceAdd, Nat.reduceLeDiff, Nat.reduceLT, Int.reduceToNat, Nat.left_eq_add, Nat.add_eq_left, Nat.add_left_cancel_iff, Nat.reduceEqDiff, Nat.add_assoc, Nat.succ_ne_zero]
    refine jn0 (fun W => W = w2) (fun W e => ?_) fun j hj => ?_
    · rw [e, jn_1]
      simp only [push_cast, Nat.reduceAdd, Nat.reduceLeDiff, Nat.reduceLT, Int.reduceToNat, Nat.left_eq_add, Nat.add_eq_left, Nat.add_left_cancel_iff, Nat.reduceEqDiff, Nat.add_assoc, Nat.succ_ne_zero, beq_self_eq_true]
      exact hk w2 (f01.trans f2)
    · simp only [push_cast, Nat.reduceAdd, Nat.reduceLeDiff, Nat.reduceLT, Int.reduceToNat, Nat.left_eq_add, Nat.add_eq_left, Nat.add_left_cancel_iff, Nat.reduceEqDiff, Nat.add_assoc, Nat.succ_ne_zero]
      refine br_intro (fun _ => hj _ rfl) fun e => absurd e (by decide)
  · simp only [push_cast, Nat.reduceAdd, Nat.reduceLeDiff, Nat.reduceLT, Int.reduceToNat, Nat.left_eq_add, Nat.add_eq_left, Nat.add_left_cancel_iff, Nat.reduceEqDiff, Nat.add_assoc, Nat.succ_ne_zero]
    refine jn0 (fun W => W = w2) (fun W e => ?_) fun j hj => ?_
    · rw [e, jn_1]
      simp only [push_cast, Nat.reduceAdd, Nat.reduceLeDiff, Nat.reduceLT, Int.reduceToNat, Nat.left_eq_add, Nat.add_eq_left, Nat.add_left_cancel_iff, Nat.reduceEqDiff, Nat.add_assoc, Nat.succ_ne_zero, beq_self_eq_true]
      refine br_intro (fun e => absurd e (by decide)) fun _ => ?_
      exact hk w2 (f01.trans f2)
    · simp only [push_cast, Nat.reduceAdd, Nat.reduceLeDiff, Nat.reduceLT, Int.reduceToNat, Nat.left_eq_add, Nat.add_eq_left, Nat.add_left_cancel_iff, Nat.reduceEqDiff, Nat.add_assoc, Nat.succ_ne_zero]
      refine br_intro (fun _ => hj _ rfl) fun e => absurd e (by decide)
  simp only [push_cast, Nat.reduceAdd, Nat.reduceLeDiff, Nat.reduceLT, Int.reduceToNat, Nat.left_eq_add, Nat.add_eq_left, Nat.add_left_cancel_iff, Nat.reduceEqDiff, Nat.add_assoc, Nat.succ_ne_zero]
  refine jn0 (fun W => False) (fun W e => e.elim) fun j hj => ?_
  simp only [push_cast, Nat.reduceAdd, Nat.reduceLeDiff, Nat.reduceLT, Int.reduceToNat, Nat.left_eq_add, Nat.add_eq_left, Nat.add_left_cancel_iff, Nat.reduceEqDiff, Nat.add_assoc, Nat.succ_ne_zero]
  refine br_intro (fun e => absurd e (by decide)) fun _ => ?_
  refine sys_spec fun w3 f3 => ?_
  simp only [push_cast, Nat.reduceAdd, Nat.reduceLeDiff, Nat.reduceLT, Int.reduceToNat, Nat.left_eq_add, Nat.add_eq_left, Nat.add_left_cancel_iff, Nat.reduceEqDiff, Nat.add_assoc, Nat.succ_ne_zero]
  have f03 := (f01.trans f2).trans f3
  refine rgnew_spec idA_ok (hc.fr f03 fun _ _ h => h) (by omega) (fun e => absurd harg e) (fun _ e => absurd hnd e) fun _ _ gB bsB pvB w4 hB nB npB f4 => ?_
  have hA3 := hA.fr0 f3
  have hl0 : 0 < (newG idA 5 ports most).l.length := by
    show 0 < ((srtI ports).map _).length
    rw [List.length_map, (srt_perm ports).length_eq]
    have := harg.1; omega
  have hsep : SepG gA bsA pvA gB bsB pvB := ⟨fun c e1 e2 => by have := hA3.lt c e1; have := nB c e2; omega, fun c e1 e2 => by have := hA3.pv_lt hl0 c e1; have := nB c e2; omega, fun c e1 e2 => by have := hA3.lt c e2; have := npB c e1; omega⟩
  have hb0 : BG w4 gA bsA pvA gB bsB pvB (newG idA 5 ports most) := ⟨hA3.fr0 f4, hB, hsep, newG_wf idA_ok harg⟩
  have F4 := f03.trans f4
  have hbn : ∀ c, fB bsA bsB c → w.heap.size ≤ c := fun c hc => by
    have s1 := f01.size
    have s2 := f03.size
    exact hc.elim (fun h => by have := nA c (.inr h); omega) fun h => by have := nB c (.inr h); omega
  simp only [push_cast, Nat.reduceAdd, Nat.reduceLeDiff, Nat.reduceLT, Int.reduceToNat, Nat.left_eq_add, Nat.add_eq_left, Nat.add_left_cancel_iff, Nat.reduceEqDiff, Nat.add_assoc, Nat.succ_ne_zero]
  refine jn0 (fun W => Fr none_ w W) (fun W h => hk W h) fun j1 hj1 => ?_
  refine loop1 (fun n u W => ∃ (i : Nat) (s : Grp), u = i64 i ∧ i + n = st.length ∧ BG W gA bsA pvA gB bsB pvB s ∧ Fr none_ w W ∧ s.most = most ∧ (cnt s.l : Int) ≤ most) ?_ st.length ⟨0, _, rfl, by omega, hb0, F4, rfl, by rw [new_cnt]; have := harg.2.2.1; omega⟩
  rintro n u W X ⟨i, s, rfl, hin, hb, hF, hmo, hcn⟩ hX
  rw [slen]
  simp only [push_cast, Nat.reduceAdd, Nat.reduceLeDiff, Nat.reduceLT, Int.reduceToNat, Nat.left_eq_add, Nat.add_eq_left, Nat.add_left_cancel_iff, Nat.reduceEqDiff, Nat.add_assoc, Nat.succ_ne_zero]
  refine br_dec (fun hlt => ?_) fun _ => hj1 _ hF
  have hil : i < st.length := by omega
  refine br_dec (fun h100 => ?_) fun _ => hj1 _ hF
  have hwk : IntKind.i64.wrap ((i : Int) + 1) = ((i + 1 : Nat) : Int) := by rw [wrap_i64 (by omega)]; rfl
  have hmp : 1 ≤ s.most := hb.wf.most.1
  refine jn0 (fun W' => BG W' gA bsA pvA gB bsB pvB (s.stepA st[i]) ∧ Fr none_ w W') ?_ fun j3 hj3 => ?_
  · rintro W' ⟨a1, a2⟩
    simp only [push_cast, Nat.reduceAdd, Nat.reduceLeDiff, Nat.reduceLT, Int.reduceToNat, Nat.left_eq_add, Nat.add_eq_left, Nat.add_left_cancel_iff, Nat.reduceEqDiff, Nat.add_assoc, Nat.succ_ne_zero, hwk]
    obtain ⟨c1, c2⟩ := step_cnt (x := st[i]) hmp (by rw [hmo]; exact hcn)
    exact hX (n - 1) _ _ (by omega) ⟨i + 1, _, rfl, by omega, a1, a2, by rw [c2, hmo], by rw [c2, hmo] at c1; exact c1⟩
  have hel : ∀ {W' : World}, Fr none_ w W' → ∀ {R : Value → World → Prop}, (∀ b o, El W' b o st[i].cells → R (pt b o) W') → opS Tryz.prog (S.ia 23 sv (.int .i64 i)) R W' := fun {W'} hF' {R} hR => by
    refine s_iaE (es := st.map Ast.cells) (hst.fr hF' fun _ _ h => h) (by omega) (by simpa using hil) fun b1 o1 c1 _ hE => ?_
    simp only [Int.toNat_natCast, List.getElem_map] at hE ⊢
    exact hR _ _ hE
  refine hel hF fun b1 o1 hE => ?_
  have hag := hE.agg0 (Ast.len _)
  simp only [push_cast, Nat.reduceAdd, Nat.reduceLeDiff, Nat.reduceLT, Int.reduceToNat, Nat.left_eq_add, Nat.add_eq_left, Nat.add_left_cancel_iff, Nat.reduceEqDiff, Nat.add_assoc, Nat.succ_ne_zero, hag]
  refine step_spec hb (hso _ (List.getElem_mem hil)) fun W1 hb1 g1 => ?_
  have hF1 : Fr none_ w W1 := hF.trans_new g1 fun c hc e => by have := hbn c e; omega
  obtain ⟨c1, c2⟩ := step_cnt (x := st[i]) hmp (by rw [hmo]; exact hcn)
  rw [hmo] at c2
  rw [c2] at c1
  have hup : st[i].dO = 1 → momOk st[i].now → ∀ p ∈ (s.stepA st[i]).up, p ∈ (s.stepA st[i]).pickedP := fun e hm => by
    have : s.stepA st[i] = s.tickP st[i].now := by unfold Grp.stepA; rw [if_neg (by omega), if_pos e]
    rw [this]
    exact up_picked hm
  generalize s.stepA st[i] = s1 at *
  have hn1 := hb1.wf.len
  refine hel hF1 fun b2 o2 hE2 => ?_
  have h2 : cellAt W1.heap[b2]? o2 = some (i64 st[i].dO) := hE2.cell0 (by rw [Ast.len]; decide)
  simp only [push_cast, Nat.reduceAdd, Nat.reduceLeDiff, Nat.reduceLT, Int.reduceToNat, Nat.left_eq_add, Nat.add_eq_left, Nat.add_left_cancel_iff, Nat.reduceEqDiff, Nat.add_assoc, Nat.succ_ne_zero, h2]
  refine br_intro (fun _ => hj3 _ ⟨hb1, hF1⟩) fun e => ?_
  have hdo : st[i].dO = 1 := by simpa using e
  refine picked_spec hb1.c hn1 fun xv W2 hx nx g2 => ?_
  have hb2 := hb1.fr0 g2
  simp only [push_cast, Nat.reduceAdd, Nat.reduceLeDiff, Nat.reduceLT, Int.reduceToNat, Nat.left_eq_add, Nat.add_eq_left, Nat.add_left_cancel_iff, Nat.reduceEqDiff, Nat.add_assoc, Nat.succ_ne_zero]
  refine up_spec hb2.c hn1 fun yv W3 hy ny g3 => ?_
  have hb3 := hb2.fr0 g3
  have hx3 := hx.fr g3 fun _ _ h => h
  have hF3 := (hF1.trans g2).trans g3
  have hpl : (s1.pickedP.length : Int) ≤ most := by
    unfold Grp.pickedP
    rw [List.length_map]
    exact c1
  have hpn := pickedP_n hb1.wf
  have hun := up_n hb1.wf
  refine hsw hx3 ?_
  simp only [push_cast, Nat.reduceAdd, Nat.reduceLeDiff, Nat.reduceLT, Int.reduceToNat, Nat.left_eq_add, Nat.add_eq_left, Nat.add_left_cancel_iff, Nat.reduceEqDiff, Nat.add_assoc, Nat.succ_ne_zero]
  refine br_no (by omega) ?_
  refine jn0 (fun W' => Fr none_ W3 W') (fun W' hF' => hj3 _ ⟨hb3.fr0 hF', hF3.trans hF'⟩) fun j4 hj4 => ?_
  have hup := hup hdo
  generalize s1.pickedP = pl at *
  generalize s1.up = ul at *
  refine loop1 (fun m u W' => ∃ k : Nat, u = i64 k ∧ k + m = ul.length ∧ Fr none_ W3 W') ?_ ul.length ⟨0, rfl, by omega, Fr.refl _ _⟩
  rintro m u W' X2 ⟨k, rfl, hkm, hF'⟩ hX2
  refine hsw (hy.fr hF' fun _ _ h => h) ?_
  simp only [push_cast, Nat.reduceAdd, Nat.reduceLeDiff, Nat.reduceLT, Int.reduceToNat, Nat.left_eq_add, Nat.add_eq_left, Nat.add_left_cancel_iff, Nat.reduceEqDiff, Nat.add_assoc, Nat.succ_ne_zero]
  refine br_dec (fun hlk => ?_) fun _ => hj4 _ hF'
  have hkl : k < ul.length := by omega
  have hwk2 : IntKind.i64.wrap ((k : Int) + 1) = ((k + 1 : Nat) : Int) := by rw [wrap_i64 (by omega)]; rfl
  refine jn0 (fun W'' => Fr none_ W3 W'') ?_ fun j6 hj6 => ?_
  · intro W'' h
    simp only [push_cast, Nat.reduceAdd, Nat.reduceLeDiff, Nat.reduceLT, Int.reduceToNat, Nat.left_eq_add, Nat.add_eq_left, Nat.add_left_cancel_iff, Nat.reduceEqDiff, Nat.add_assoc, Nat.succ_ne_zero, hwk2]
    exact hX2 (m - 1) _ _ (by omega) ⟨k + 1, rfl, by omega, h⟩
  refine jn1 (fun v W'' => ∃ b, v = .bool b ∧ Fr none_ W3 W'' ∧ (b = true ∨ ∀ x ∈ pl, x ≠ ul[k])) ?_ fun j7 hj7 => ?_
  · rintro v W'' ⟨b, rfl, hF'', hbb⟩
    simp only [push_cast, Nat.reduceAdd, Nat.reduceLeDiff, Nat.reduceLT, Int.reduceToNat, Nat.left_eq_add, Nat.add_eq_left, Nat.add_left_cancel_iff, Nat.reduceEqDiff, Nat.add_assoc, Nat.succ_ne_zero]
    cases b with
    | true =>
      refine br_intro (fun e => absurd e (by decide)) fun _ => ?_
      exact hj6 _ hF''
    | false =>
      have hnot : ¬ momOk st[i].now := fun hm => by
        rcases hbb with hbb | hbb
        · cases hbb
        · exact hbb _ (hup hm _ (List.getElem_mem hkl)) rfl
      refine br_intro (fun _ => ?_) fun e => absurd e (by decide)
      refine hel (hF3.trans hF'') fun b3 o3 hE3 => ?_
      have h3 : cellAt W''.heap[b3]? (o3 + 2) = some (i64 st[i].now) := by
        have := hE3.cell 2 (by rw [Ast.len]; decide)
        rw [Ast.g_now] at this
        exact this
      simp only [push_cast, Nat.reduceAdd, Nat.reduceLeDiff, Nat.reduceLT, Int.reduceToNat, Nat.left_eq_add, Nat.add_eq_left, Nat.add_left_cancel_iff, Nat.reduceEqDiff, Nat.add_assoc, Nat.succ_ne_zero, h3]
      refine br_dec (fun e1 => ?_) fun _ => hj6 _ hF''
      refine hel (hF3.trans hF'') fun b4 o4 hE4 => ?_
      have h4 : cellAt W''.heap[b4]? (o4 + 2) = some (i64 st[i].now) := by
        have := hE4.cell 2 (by rw [Ast.len]; decide)
        rw [Ast.g_now] at this
        exact this
      simp only [push_cast, Nat.reduceAdd, Nat.reduceLeDiff, Nat.reduceLT, Int.reduceToNat, Nat.left_eq_add, Nat.add_eq_left, Nat.add_left_cancel_iff, Nat.reduceEqDiff, Nat.add_assoc, Nat.succ_ne_zero, h4]
      exact br_no (fun e2 => hnot ⟨e1, e2⟩) (hj6 _ hF'')
  refine loop2 (fun q v u W'' => ∃ (b : Bool) (z : Nat), v = .bool b ∧ u = i64 z ∧ z + q = pl.length ∧ Fr none_ W3 W'' ∧ (b = true ∨ ∀ x ∈ pl.take z, x ≠ ul[k])) ?_ pl.length ⟨false, 0, rfl, rfl, by omega, hF', .inr (by simp)⟩
  rintro q v u W'' X3 ⟨b, z, rfl, rfl, hzq, hF'', hbb⟩ hX3
  refine hsw (hx3.fr hF'' fun _ _ h => h) ?_
  simp only [push_cast, Nat.reduceAdd, Nat.reduceLeDiff, Nat.reduceLT, Int.reduceToNat, Nat.left_eq_add, Nat.add_eq_left, Nat.add_left_cancel_iff, Nat.reduceEqDiff, Nat.add_assoc, Nat.succ_ne_zero]
  have hwz : z < pl.length → IntKind.i64.wrap ((z : Int) + 1) = ((z + 1 : Nat) : Int) := fun _ => by rw [wrap_i64 (by omega)]; rfl
  refine br_dec (fun hlz => ?_) fun _ => ?_
  · have hzl : z < pl.length := by omega
    have hwz := hwz hzl
    cases b with
    | true =>
      simp only [push_cast, Nat.reduceAdd, Nat.reduceLeDiff, Nat.reduceLT, Int.reduceToNat, Nat.left_eq_add, Nat.add_eq_left, Nat.add_left_cancel_iff, Nat.reduceEqDiff, Nat.add_assoc, Nat.succ_ne_zero, hwz]
      exact hX3 (q - 1) _ _ _ (by omega) ⟨true, z + 1, rfl, rfl, by omega, hF''.trans (Fr.drew _), .inl rfl⟩
    | false =>
      have hFd := hF''.trans (Fr.drew (fp := none_) W'')
      simp only [push_cast, Nat.reduceAdd, Nat.reduceLeDiff, Nat.reduceLT, Int.reduceToNat, Nat.left_eq_add, Nat.add_eq_left, Nat.add_left_cancel_iff, Nat.reduceEqDiff, Nat.add_assoc, Nat.succ_ne_zero]
      refine s_iaE (es := pl.map cellI) (hx3.rd.fr hFd fun _ _ h => h) (by omega) (by simpa using hzl) fun b5 o5 c5 _ hE5 => ?_
      simp only [Int.toNat_natCast, List.getElem_map] at hE5 ⊢
      have h5 := hE5.cell0 (show 0 < 1 by decide)
      simp only [push_cast, Nat.reduceAdd, Nat.reduceLeDiff, Nat.reduceLT, Int.reduceToNat, Nat.left_eq_add, Nat.add_eq_left, Nat.add_left_cancel_iff, Nat.reduceEqDiff, Nat.add_assoc, Nat.succ_ne_zero, cellI] at h5
      simp only [push_cast, Nat.reduceAdd, Nat.reduceLeDiff, Nat.reduceLT, Int.reduceToNat, Nat.left_eq_add, Nat.add_eq_left, Nat.add_left_cancel_iff, Nat.reduceEqDiff, Nat.add_assoc, Nat.succ_ne_zero, h5, List.getElem?_cons_zero]
      refine s_iaE (es := ul.map cellI) (hy.rd.fr hFd fun _ _ h => h) (by omega) (by simpa using hkl) fun b6 o6 c6 _ hE6 => ?_
      simp only [Int.toNat_natCast, List.getElem_map] at hE6 ⊢
      have h6 := hE6.cell0 (show 0 < 1 by decide)
      simp only [push_cast, Nat.reduceAdd, Nat.reduceLeDiff, Nat.reduceLT, Int.reduceToNat, Nat.left_eq_add, Nat.add_eq_left, Nat.add_left_cancel_iff, Nat.reduceEqDiff, Nat.add_assoc, Nat.succ_ne_zero, cellI] at h6
      simp only [push_cast, Nat.reduceAdd, Nat.reduceLeDiff, Nat.reduceLT, Int.reduceToNat, Nat.left_eq_add, Nat.add_eq_left, Nat.add_left_cancel_iff, Nat.reduceEqDiff, Nat.add_assoc, Nat.succ_ne_zero, h6, List.getElem?_cons_zero, hwz]
      refine hX3 (q - 1) _ _ _ (by omega) ⟨_, z + 1, rfl, rfl, by omega, hFd, ?_⟩
      by_cases e : pl[z] = ul[k]
      · left; simp [e]
      · right
        refine take_all hzl ?_ e
        rcases hbb with hbb | hbb
        · cases hbb
        · exact hbb
  · rcases hbb with hbb | hbb
    · exact hj7 _ _ ⟨b, rfl, hF'', .inl hbb⟩
    · rw [List.take_of_length_le (by omega)] at hbb
      exact hj7 _ _ ⟨b, rfl, hF'', .inr hbb⟩

end Go.Gx.S
end

section
/- What the laws of any steps rest on. -/
namespace Go.Gx.S
end Go.Gx.S
end
