/- Own texts, put together. -/
import Derived.Test.YtclkdldkebjgpaaA3
import Derived.Test.YtclkdldkebjgpaaA2
import Derived.Sort.Row
import Derived.Sort.Grow
import Derived.Shelf.SlSortCmp.WholeK
import Derived.Shelf.SlSortCmp.NoneTotal
import Derived.Shelf.SlSortCmp.Whole1
import Derived.Lib.SlicesCompact
import Derived.Test.YtclkdldkebjgpaaA1
import Derived.Lib.RowBridge
import Derived.Test.YtclkdldkebjgpaaRows
section
/- Links are selected anew. -/
set_option linter.unusedVariables false
set_option linter.unusedSimpArgs false
set_option maxRecDepth 100000
namespace Go.Gx.S
open Go Go.Gx Go.Proofs
variable {K : Value → World → Prop} {w : World}

/-! ### Plain -/

def unpick (x : Lk) : Lk := { x with picked := false }
def markK (k : Nat) (l : List Lk) : List Lk := l.mapIdx fun i x => { x with picked := decide (i = k) }
theorem markK_len (k : Nat) (l : List Lk) : (markK k l).length = l.length := by unfold markK; simp
theorem markK_get (k : Nat) (l : List Lk) (i : Nat) : (markK k l)[i]? = (l[i]?).map fun x => { x with picked := decide (i = k) } := by unfold markK; rw [List.getElem?_mapIdx]
theorem markK_eq {k : Nat} {l : List Lk} {x : Lk} (hx : l[k]? = some x) : (l.map unpick).set k { x with picked := true } = markK k l := by
  apply List.ext_getElem?
  intro i
  rw [markK_get, List.getElem?_set, List.getElem?_map]
  have hk := (List.getElem?_eq_some_iff.1 hx).1
  by_cases e : k = i
  · subst e
    rw [if_pos rfl, List.length_map, if_pos hk, hx]
    simp
  · rw [if_neg e]
    cases l[i]? with
    | none => rfl
    | some y =>
      show some (unpick y) = some { y with picked := decide (i = k) }
      rw [decide_eq_false fun h => e h.symm]; rfl
theorem isIz : isI 0 := isI_iff.2 (by omega)
theorem sysI_ok {x : Inf} (h : x.right) (hs : x.sys.ok) : (sysI x).ok := by
  have := h.ok hs
  exact ⟨this.1, this.2.1, this.2.2.1, isIz, isIz, isIz⟩

/-- the pointer to the i-th of them -/
def ptOf (bs : List B3) (o : Option Nat) : Option Nat := o.bind fun i => (bs[i]?).map (·.b)
theorem ptOf_or {bs : List B3} {a b : Option Nat} (h : ∀ i, a = some i → i < bs.length) : (ptOf bs a <|> ptOf bs b) = ptOf bs (a <|> b) := by
  cases a with
  | none => rfl
  | some i =>
    have : bs[i]? = some (bs[i]'(h i rfl)) := List.getElem?_eq_getElem _
    simp [ptOf, this]

/-! ### Memory -/

section
variable {g : Nat} {bs : List B3} {pv fv : Value} {s : Grp}

theorem first_pt {pk : Lk → Bool} (h : CG w g bs pv s) (hn : s.l.length ≤ 32) (hone : S.oneCell fv = true) (hcs : fv.cells = [fv].toArray) (hT : Tells fv pk)
    (hk : ∀ w', Fr none_ w w' → K (ptO (ptOf bs (s.l.findIdx? pk))) w') : CallsR Try.prog 87 #[pt g 0, fv] K w := by
  refine first_spec h hn hone hcs hT (fun e w' hF => ?_) fun i t x e ht hx w' hF => ?_
  · have := hk w' hF
    rw [e] at this
    exact this
  · have := hk w' hF
    rw [e] at this
    unfold ptOf at this
    rw [Option.bind_some, ht] at this
    exact this

/-- each link is turned, one behind the other -/
theorem each_spec {f : Lk → Lk} {body : (Value → World → Prop) → Value → World → Prop} {j : World → Prop} {fin : Lk → Prop} (h : CG w g bs pv s) (hn : s.l.length ≤ 32) (hfin : ∀ x ∈ s.l, fin x)
    (hb : ∀ (i : Nat) (t : B3) (x : Lk) (W : World) (X : Value → World → Prop), i < s.l.length → fin x → bs[i]? = some t → s.l[i]? = some x → CLk W t x → CG W g bs pv { s with l := mapK f s.l i } → Fr (fL bs) w W → (∀ W2, CLk W2 t (f x) → Fr t.fp W W2 → X (i64 ((i + 1 : Nat) : Int)) W2) → body X (i64 i) W)
    (hj : ∀ W, CG W g bs pv { s with l := s.l.map f } → Fr (fL bs) w W → j W) :
    loopJ 1 (fun X x => opS Try.prog (S.binI .lss x (i64 s.l.length)) fun c => brn c (body X x) j) (i64 0) w := by
  refine loop1 (fun m u W => ∃ i : Nat, u = i64 i ∧ i + m = s.l.length ∧ CG W g bs pv { s with l := mapK f s.l i } ∧ Fr (fL bs) w W) ?_ s.l.length ⟨0, rfl, by omega, by rw [mapK_0]; exact h, Fr.refl _ _⟩
  rintro m u W X ⟨i, rfl, hi, hI, hF⟩ hX
  simp only [push_cast, Nat.reduceAdd, Nat.reduceLeDiff, Nat.reduceLT, Int.reduceToNat, Nat.left_eq_add, Nat.add_eq_left, Nat.add_left_cancel_iff, Nat.reduceEqDiff, Nat.add_assoc, Nat.succ_ne_zero]
  refine br_dec (fun hlt => ?_) fun hge => ?_
  · have hil : i < s.l.length := by omega
    have hx : s.l[i]? = some s.l[i] := List.getElem?_eq_getElem hil
    have hx2 : (mapK f s.l i)[i]? = some s.l[i] := mapK_at hx
    obtain ⟨t, ht, hl⟩ := hI.blk hx2
    refine hb i t _ W X hil (hfin _ (List.getElem_mem hil)) ht hx hl hI hF fun W2 h2 hF2 => ?_
    obtain ⟨h3, hF3⟩ := hI.set ht hF2 h2
    refine hX (m - 1) _ _ (by omega) ⟨i + 1, rfl, by omega, ?_, hF.trans hF3⟩
    have := mapK_set (f := f) hx
    simp only [this] at h3
    exact h3
  · rw [mapK_end (by omega)] at hI
    exact hj W hI hF

/-- what pick keeps beside the links -/
structure PkB (W : World) (g ub c9 c25 c1 sb : Nat) (left : Int) : Prop where
  s9 : W.heap[c9]? = some (cellsO [pt ub 0] 108)
  s25 : W.heap[c25]? = some (cellsO [i64 left] 3)
  q1 : W.heap[c1]? = some (cellsO [pt g 0] 54)
  q2 : W.heap[c1 + 1]? = some (cellsO [.func (.func 85) #[] #[]] 136)
  dfr : W.heap[sb]? = some (.deferred (some []))
theorem PkB.fr {W W' : World} {ub c9 c25 c1 sb : Nat} {left : Int} {fp : Nat → Prop} (h : PkB W g ub c9 c25 c1 sb left) (hF : Fr fp W W') (hn : ∀ b, b = c9 ∨ b = c25 ∨ b = c1 ∨ b = c1 + 1 ∨ b = sb → ¬ fp b) : PkB W' g ub c9 c25 c1 sb left :=
  ⟨hF.heap h.s9 (hn _ (.inl rfl)), hF.heap h.s25 (hn _ (.inr (.inl rfl))), hF.heap h.q1 (hn _ (.inr (.inr (.inl rfl)))), hF.heap h.q2 (hn _ (.inr (.inr (.inr (.inl rfl))))), hF.heap h.dfr (hn _ (.inr (.inr (.inr (.inr rfl)))))⟩

section
variable {C : World → Prop} {b want : Bool} {W : World}
theorem gq_gtr {x y : Int} (hk : K (cv b want (.bool (decide (x > y)))) w) : gqtS Try.prog C (.bool b) want (S.binI .gtr (cv b want (i64 x)) (i64 y)) K w := gq_pure (fun e R w' => by rw [cv_pos e]; exact opS_gtr _ x y) hk
theorem gq_ld1 {T n : Nat} [hs : Sz Try.prog T n false] {p : Nat} {v : Value} {x : Obj} {o : Nat} (hb : W.heap[p]? = some x) (hv : cellAt (some x) o = some v) (hk : K (cv b want v) w) : gqtS Try.prog (Fr none_ W) (.bool b) want (S.ld T (pt p o)) K w :=
  gq_gen _ (fun e R w' hC hR => by rw [s_ld1, hC.heap hb (fun h => h), hv]; exact hR w' hC) hk
theorem gq_ldc {T n : Nat} [hs : Sz Try.prog T n false] {p : Nat} {v : Value} {x : Obj} {o : Nat} (hb : W.heap[p]? = some x) (hv : cellAt (some x) o = some v) (hk : K (cv b want v) w) : gqtS Try.prog (Fr none_ W) (.bool b) want (S.ld T (cv b want (pt p o))) K w :=
  gq_gen _ (fun e R w' hC hR => by rw [cv_pos e, s_ld1, hC.heap hb (fun h => h), hv]; exact hR w' hC) hk
theorem gq_fa0 {p : Nat} (hk : K (cv b want (pt p 0)) w) : gqtS Try.prog C (.bool b) want (S.fa 112 (cv b want (pt p 0)) 0) K w :=
  gq_pure (fun e R w' => by rw [cv_pos e]; exact fa112_0 _ _) hk
theorem gq_cl {f : FuncId} [hf : FnB Try.prog f] {x v : Value} (h : ∀ (R : Value → World → Prop) w', Fr none_ W w' → (∀ w'', Fr none_ w' w'' → R v w'') → CallsR Try.prog f #[x] R w') (hk : K (cv b want v) w) : gqtS Try.prog (Fr none_ W) (.bool b) want (S.cl f [cv b want x]) K w :=
  gq_gen v (fun e R w' hC hR => by rw [cv_pos e, opS_cl]; exact h R w' hC fun w'' hF => hR w'' (hC.trans hF)) hk
end

theorem pkbody_spec {W : World} {KY : Value → World → Prop} {c9 c25 sb i k : Nat} {t u : B3} {x xu : Lk} {left : Int} (ht : CLk W t x) (hu : CLk W u xu) (hx : x.e.wf) (hxu : xu.e.wf) (hne : t.b = u.b ↔ i = k)
    (s9 : W.heap[c9]? = some (cellsO [pt u.b 0] 108)) (s25 : W.heap[c25]? = some (cellsO [i64 left] 3)) (hl0 : 0 ≤ left) (hl1 : left ≤ 31) (hc : ¬ t.fp c25)
    (hno : ¬ (i ≠ k ∧ 0 < left ∧ sysI x.e.partner = sysI xu.e.partner) → ∀ W', Fr none_ W W' → opS Try.prog (S.endR (pt (sb + 1) 0) none) KY W')
    (hyes : i ≠ k ∧ 0 < left ∧ sysI x.e.partner = sysI xu.e.partner → ∀ W1 W', CLk W1 t { x with picked := true } → Fr t.fp W W1 → W'.heap[c25]? = some (cellsO [i64 (left - 1)] 3) → Fr (fun y => y = c25) W1 W' → opS Try.prog (S.endR (pt (sb + 1) 0) none) KY W') :
    (jnJ 0 (
            opS Try.prog (S.nc (pt t.b 0)) fun x31 =>
            opS Try.prog (S.fa 112 x31 3) fun x32 =>
            opS Try.prog (S.st 4 x32 (.bool true)) fun x33 =>
            opS Try.prog (S.ld 3 (pt c25 0)) fun x34 =>
            opS Try.prog (S.binI .sub x34 (.int .i64 1)) fun x35 =>
            opS Try.prog (S.st 3 (pt c25 0) x35) fun x36 =>
            opS Try.prog (S.endR (pt (sb + 1) 0) none) fun x37 =>
            KY x37
          ) fun j0 =>
          drw <|
          quietS fun C =>
          qtS Try.prog C (S.ld 108 (pt c9 0)) fun x31 =>
          qtS Try.prog C (S.binG .neq 108 (pt t.b 0) x31) fun x32 =>
          gqtS Try.prog C x32 true (S.ld 3 (pt c25 0)) fun x33 =>
          gqtS Try.prog C x32 true (S.binI .gtr x33 (.int .i64 0)) fun x34 =>
          qtS Try.prog C (S.pick x32 x34 (.bool false)) fun x35 =>
          gqtS Try.prog C x35 true (S.mv (pt t.b 0)) fun x36 =>
          gqtS Try.prog C x35 true (S.nc x36) fun x37 =>
          gqtS Try.prog C x35 true (S.fa 112 x37 0) fun x38 =>
          gqtS Try.prog C x35 true (S.ld 103 x38) fun x39 =>
          gqtS Try.prog C x35 true (S.cl 60 [x39]) fun x40 =>
          gqtS Try.prog C x35 true (S.cl 89 [x40]) fun x41 =>
          gqtS Try.prog C x35 true (S.ld 108 (pt c9 0)) fun x42 =>
          gqtS Try.prog C x35 true (S.nc x42) fun x43 =>
          gqtS Try.prog C x35 true (S.fa 112 x43 0) fun x44 =>
          gqtS Try.prog C x35 true (S.ld 103 x44) fun x45 =>
          qendS C <|
          brn x35 (
            opS Try.prog (S.cl 60 [x45]) fun x46 =>
            opS Try.prog (S.cl 89 [x46]) fun x47 =>
            opS Try.prog (S.binG .eql 107 x41 x47) fun x48 =>
            brn x48 (
              j0
            ) (
              opS Try.prog (S.endR (pt (sb + 1) 0) none) fun x49 =>
              KY x49
            )
          ) (
            opS Try.prog (S.endR (pt (sb + 1) 0) none) fun x46 =>
            KY x46
          )) W := by
  have hcb : c25 ≠ t.b := fun e => hc (.inl e)
  refine jn0 (fun W' => Fr none_ W W' ∧ (i ≠ k ∧ 0 < left ∧ sysI x.e.partner = sysI xu.e.partner)) ?_ fun j hj => ?_
  · rintro W' ⟨hF, hcnd⟩
    have h1 := ht.fr0 hF
    have s25 := hF.heap s25 fun h => h
    obtain ⟨h2, hF2⟩ := h1.wrB (lkC_spicked false t x true) rfl rfl
    have hwl : IntKind.i64.wrap (left - 1) = left - 1 := wrap_i64 (by omega)
    have s2 := hF2.heap s25 hc
    simp only [push_cast, Nat.reduceAdd, Nat.reduceLeDiff, Nat.reduceLT, Int.reduceToNat, Nat.left_eq_add, Nat.add_eq_left, Nat.add_left_cancel_iff, Nat.reduceEqDiff, Nat.add_assoc, Nat.succ_ne_zero, h1.b, s25, hcb, hwl]
    have hF3 : Fr (fun y => y = c25) (wr W' t.b 3 [.bool true]) (wr (wr W' t.b 3 [.bool true]) c25 0 [i64 (left - 1)]) := Fr.wr _ _ _ _ rfl
    refine hyes hcnd _ _ h2 ((frN hF).trans hF2) ?_ hF3
    rw [heap_wr, if_pos rfl, s2, putAt_cells]; rfl
  rw [drw_eq]
  refine quietS_intro (Fr none_ W) (Fr.drew W) ?_
  refine qt_ld1 s9 (by simp only [push_cast, Nat.reduceAdd, Nat.reduceLeDiff, Nat.reduceLT, Int.reduceToNat, Nat.left_eq_add, Nat.add_eq_left, Nat.add_left_cancel_iff, Nat.reduceEqDiff, Nat.add_assoc, Nat.succ_ne_zero]; rfl) ?_
  refine qt_run (.bool (!decide (t.b = u.b))) (fun R w' hC hR => s_neP (hC.heap ht.b fun h => h) (hC.heap hu.b fun h => h) (hR w' hC)) ?_
  refine gq_ld1 s25 (by simp only [push_cast, Nat.reduceAdd, Nat.reduceLeDiff, Nat.reduceLT, Int.reduceToNat, Nat.left_eq_add, Nat.add_eq_left, Nat.add_left_cancel_iff, Nat.reduceEqDiff, Nat.add_assoc, Nat.succ_ne_zero]; rfl) ?_
  refine gq_gtr ?_
  refine qt_and ?_
  refine gq_mv ?_
  refine gq_nc ?_
  refine gq_fa0 ?_
  refine gq_ldc ht.b (by simp only [push_cast, Nat.reduceAdd, Nat.reduceLeDiff, Nat.reduceLT, Int.reduceToNat, Nat.left_eq_add, Nat.add_eq_left, Nat.add_left_cancel_iff, Nat.reduceEqDiff, Nat.add_assoc, Nat.succ_ne_zero]; rfl) ?_
  refine gq_cl (v := .agg x.e.partner.cells.toArray) (fun R w' hF hR => partner_spec (hF.heap ht.e fun h => h) hR) ?_
  refine gq_cl (v := .agg (sysI x.e.partner).cells.toArray) (fun R w' hF hR => system_spec hR) ?_
  refine gq_ld1 s9 (by simp only [push_cast, Nat.reduceAdd, Nat.reduceLeDiff, Nat.reduceLT, Int.reduceToNat, Nat.left_eq_add, Nat.add_eq_left, Nat.add_left_cancel_iff, Nat.reduceEqDiff, Nat.add_assoc, Nat.succ_ne_zero]; rfl) ?_
  refine gq_nc ?_
  refine gq_fa0 ?_
  refine gq_ldc hu.b (by simp only [push_cast, Nat.reduceAdd, Nat.reduceLeDiff, Nat.reduceLT, Int.reduceToNat, Nat.left_eq_add, Nat.add_eq_left, Nat.add_left_cancel_iff, Nat.reduceEqDiff, Nat.add_assoc, Nat.succ_ne_zero]; rfl) ?_
  refine qendS_intro fun W2 hF2 => ?_
  rw [brn_br]
  refine br_intro (fun e => ?_) fun e => ?_
  · rw [cv_pos e, cv_pos e]
    simp only [Bool.and_eq_true, Bool.not_eq_true', decide_eq_false_iff_not, decide_eq_true_eq] at e
    have hul := hu.fr0 hF2
    simp only [push_cast, Nat.reduceAdd, Nat.reduceLeDiff, Nat.reduceLT, Int.reduceToNat, Nat.left_eq_add, Nat.add_eq_left, Nat.add_left_cancel_iff, Nat.reduceEqDiff, Nat.add_assoc, Nat.succ_ne_zero]
    refine partner_spec hul.e fun W3 hF3 => ?_
    simp only [push_cast, Nat.reduceAdd, Nat.reduceLeDiff, Nat.reduceLT, Int.reduceToNat, Nat.left_eq_add, Nat.add_eq_left, Nat.add_left_cancel_iff, Nat.reduceEqDiff, Nat.add_assoc, Nat.succ_ne_zero]
    refine system_spec fun W4 hF4 => ?_
    refine s_eqInf (sysI_ok hx.partner hx.psys) (sysI_ok hxu.partner hxu.psys) ?_
    simp only [push_cast, Nat.reduceAdd, Nat.reduceLeDiff, Nat.reduceLT, Int.reduceToNat, Nat.left_eq_add, Nat.add_eq_left, Nat.add_left_cancel_iff, Nat.reduceEqDiff, Nat.add_assoc, Nat.succ_ne_zero]
    have hF := (hF2.trans hF3).trans hF4
    refine br_dec (fun e2 => ?_) fun e2 => ?_
    · exact hj _ ⟨hF, fun h => e.1 (hne.2 h), e.2, e2⟩
    · exact hno (fun h => e2 h.2.2) _ hF
  · refine hno (fun h => ?_) _ hF2
    have : (!decide (t.b = u.b) && decide (left > 0)) = true := by
      rw [decide_eq_false (fun h2 => h.1 (hne.1 h2)), decide_eq_true (show left > 0 from h.2.1)]; rfl
    rw [this] at e
    cases e

end

end Go.Gx.S
end

section
/- Links are selected anew: the end. -/
set_option linter.unusedVariables false
set_option linter.unusedSimpArgs false
set_option maxRecDepth 100000
namespace Go.Gx.S
open Go Go.Gx Go.Proofs
variable {K : Value → World → Prop} {w : World} {g : Nat} {bs : List B3} {pv fv : Value} {s : Grp}

theorem GS.pv_lt {r : Bool} {T TB TE TM : TypeId} (h : GS r T TB TE TM w g bs pv s) (hl : 0 < s.l.length) : ∀ y, blkS pv = some y → y < w.heap.size := fun y hy => by
  obtain ⟨h1, h2⟩ := h.pvs
  rcases h1 with ⟨_, h1, _⟩ | ⟨b, o, c, cs, Tc, fz, rfl, hb, _⟩
  · rw [List.length_map, h.len] at h1; omega
  · cases hy; exact lt_of_heap hb

-- the list while it goes on
theorem mk_get {l1 done : List Lk} {k i : Nat} (hd : done.length = i) : (done ++ (markK k l1).drop i)[i]? = (markK k l1)[i]? := by
  rw [List.getElem?_append_right (by omega), hd, Nat.sub_self, List.getElem?_drop, Nat.add_zero]
theorem mk_set {l1 done : List Lk} {k i : Nat} (x : Lk) (hd : done.length = i) (hi : i < l1.length) : (done ++ (markK k l1).drop i).set i x = (done ++ [x]) ++ (markK k l1).drop (i + 1) := by
  rw [List.set_append_right _ _ (by omega), hd, Nat.sub_self, List.drop_eq_getElem_cons (by rw [markK_len]; exact hi), List.set_cons_zero, List.append_assoc]
  rfl
theorem mk_keep {l1 done : List Lk} {k i : Nat} {x : Lk} (hx : (markK k l1)[i]? = some x) : done ++ (markK k l1).drop i = (done ++ [x]) ++ (markK k l1).drop (i + 1) := by
  obtain ⟨hi, e⟩ := List.getElem?_eq_some_iff.1 hx
  rw [List.drop_eq_getElem_cons hi, e, List.append_assoc]
  rfl

/-- what is so while it goes on -/
def PkI (w : World) (g : Nat) (bs : List B3) (pv : Value) (s : Grp) (l1 : List Lk) (k : Nat) (sy : Inf) (ub c9 c25 c1 sb : Nat) (L : Loop) (i : Nat) (W : World) : Prop :=
  ∃ (done : List Lk) (left : Int) (L' : Loop), pickL k sy 0 (s.most - 1) l1 = done ++ pickL k sy i left (l1.drop i) ∧ done.length = i ∧ (0 ≤ left ∧ left ≤ 31 ∧ i ≤ l1.length ∧ done.map (·.e) = (l1.take i).map (·.e)) ∧ CG W g bs pv { s with l := done ++ (markK k l1).drop i } ∧ Fr (fun y => fL bs y ∨ y = c25) w W ∧ PkB W g ub c9 c25 c1 sb left ∧
        W.heap[sb + 1]? = some (.loop L') ∧ LoopSame L' L ∧ L'.state = .ready ∧ L'.pending = none

theorem pk3_spec {l1 : List Lk} {k c9 c25 : Nat} {u : B3} {xk : Lk} (h : CG w g bs pv { s with l := markK k l1 }) (hn : l1.length ≤ 32) (hw : ∀ x ∈ l1, x.wf) (hm : 1 ≤ s.most ∧ s.most ≤ 32) (hu : bs[k]? = some u) (hkx : l1[k]? = some xk) (hks : xk.sound = true)
    (s9 : w.heap[c9]? = some (cellsO [pt u.b 0] 108)) (s25 : w.heap[c25]? = some (cellsO [i64 (s.most - 1)] 3)) (h9 : ¬ fG g bs c9 ∧ blkS pv ≠ some c9) (h25 : ¬ fG g bs c25 ∧ blkS pv ≠ some c25) (h925 : c9 ≠ c25)
    (hk : ∀ w', CG w' g bs pv { s with l := pickL k (sysI xk.e.partner) 0 (s.most - 1) l1 } → Fr (fun y => fL bs y ∨ y = c25) w w' → K (.tuple #[]) w') :
    (opS Try.prog (S.cl 65 [(pt g 0), (.func (.func 85) #[] #[])]) fun x27 =>
        rfS Try.prog x27 1 (fun bs K => JT.app 2 (fun x28 x29 =>
          opS Try.prog (S.beginR x28) fun x30 =>
          jnJ 0 (
            opS Try.prog (S.nc x29) fun x31 =>
            opS Try.prog (S.fa 112 x31 3) fun x32 =>
            opS Try.prog (S.st 4 x32 (.bool true)) fun x33 =>
            opS Try.prog (S.ld 3 (pt c25 0)) fun x34 =>
            opS Try.prog (S.binI .sub x34 (.int .i64 1)) fun x35 =>
            opS Try.prog (S.st 3 (pt c25 0) x35) fun x36 =>
            opS Try.prog (S.endR x28 none) fun x37 =>
            K x37
          ) fun j0 =>
          drw <|
          quietS fun C =>
          qtS Try.prog C (S.ld 108 (pt c9 0)) fun x31 =>
          qtS Try.prog C (S.binG .neq 108 x29 x31) fun x32 =>
          gqtS Try.prog C x32 true (S.ld 3 (pt c25 0)) fun x33 =>
          gqtS Try.prog C x32 true (S.binI .gtr x33 (.int .i64 0)) fun x34 =>
          qtS Try.prog C (S.pick x32 x34 (.bool false)) fun x35 =>
          gqtS Try.prog C x35 true (S.mv x29) fun x36 =>
          gqtS Try.prog C x35 true (S.nc x36) fun x37 =>
          gqtS Try.prog C x35 true (S.fa 112 x37 0) fun x38 =>
          gqtS Try.prog C x35 true (S.ld 103 x38) fun x39 =>
          gqtS Try.prog C x35 true (S.cl 60 [x39]) fun x40 =>
          gqtS Try.prog C x35 true (S.cl 89 [x40]) fun x41 =>
          gqtS Try.prog C x35 true (S.ld 108 (pt c9 0)) fun x42 =>
          gqtS Try.prog C x35 true (S.nc x42) fun x43 =>
          gqtS Try.prog C x35 true (S.fa 112 x43 0) fun x44 =>
          gqtS Try.prog C x35 true (S.ld 103 x44) fun x45 =>
          qendS C <|
          brn x35 (
            opS Try.prog (S.cl 60 [x45]) fun x46 =>
            opS Try.prog (S.cl 89 [x46]) fun x47 =>
            opS Try.prog (S.binG .eql 107 x41 x47) fun x48 =>
            brn x48 (
              j0
            ) (
              opS Try.prog (S.endR x28 none) fun x49 =>
              K x49
            )
          ) (
            opS Try.prog (S.endR x28 none) fun x46 =>
            K x46
          )
        ) bs) (fun x28 =>
          takeD Try.prog x28 fun x29 =>
          K (.tuple #[])
        ) (fun x28 =>
          takeD Try.prog x28 fun x29 =>
          K (.tuple #[])
        ) 0 (fun x28 =>
          fun _ => False
        )) w := by
  have hkl := (List.getElem?_eq_some_iff.1 hkx).1
  have hmlen := markK_len k l1
  have hold := h.lt
  have hpvl := h.pv_lt (by show 0 < (markK k l1).length; omega)
  have hl9 := lt_of_heap s9
  have hl25 := lt_of_heap s25
  simp only [opS_cl]
  refine those_spec rfl rfl fun W9 q1 q2 hF9 hs9 => ?_
  have s9 := hF9.heap s9 fun h => h
  have s25 := hF9.heap s25 fun h => h
  have hg9 := h.fr0 hF9
  generalize hce : w.heap.size = c1 at *
  intro L hL1 hL2 hL3 hyield
  rw [enterS_call]
  have hp : L.pending = none := by simpa using hL3
  have hF10 : Fr none_ W9 ((W9.alloc (.deferred (some []))).alloc (.loop L)) := ((Fr.refl _ _).step_alloc rfl).step_alloc rfl
  have hl2 : ((W9.alloc (.deferred (some []))).alloc (.loop L)).heap[W9.heap.size + 1]? = some (.loop L) := by
    have := heap_alloc_new (W9.alloc (.deferred (some []))) (.loop L)
    rwa [size_alloc] at this
  have hd2 : ((W9.alloc (.deferred (some []))).alloc (.loop L)).heap[W9.heap.size]? = some (.deferred (some [])) := by
    rw [heap_alloc_lt (by rw [size_alloc]; omega)]
    exact heap_alloc_new _ _
  have hPk : PkB ((W9.alloc (.deferred (some []))).alloc (.loop L)) g u.b c9 c25 c1 W9.heap.size (s.most - 1) := ⟨hF10.heap s9 fun h => h, hF10.heap s25 fun h => h, hF10.heap q1 fun h => h, hF10.heap q2 fun h => h, hd2⟩
  have h10 := hg9.fr0 hF10
  have hF110 : Fr none_ w ((W9.alloc (.deferred (some []))).alloc (.loop L)) := hF9.trans hF10
  generalize hWe : (W9.alloc (.deferred (some []))).alloc (.loop L) = W10 at *
  generalize hsb : W9.heap.size = sb at *
  refine those1_spec (bs := bs) (pv := pv) (fv := .func (.func 85) #[] #[]) (g := g) (n := l1.length) (PkI w g bs pv s l1 k (sysI xk.e.partner) u.b c9 c25 c1 sb L)
    (fun W => False) (fun i => match l1[i]? with | some x => x.sound | none => false) ?_ ?_ hn ?_ ?_ ?_ ?_ ?_
  · rintro i W ⟨done, left, L', _, _, _, _, _, a, _⟩
    exact ⟨a.q1, a.q2⟩
  · rintro i W ⟨done, left, L', _, a1, a2, a3, _⟩
    refine ⟨_, a3, ?_⟩
    show (done ++ (markK k l1).drop i).length = _
    rw [List.length_append, List.length_drop, hmlen]
    omega
  · rintro i t W R hi ht ⟨done, left, L', a0, a1, a2, a5, a6, a7, a8, a9⟩ hR
    have hx : l1[i]? = some l1[i] := List.getElem?_eq_getElem hi
    have hx2 : (done ++ (markK k l1).drop i)[i]? = some { l1[i] with picked := decide (i = k) } := by rw [mk_get a1, markK_get, hx]; rfl
    have hl := a5.lk i t _ ht hx2
    refine tells_sound t _ W R hl fun W' f => ?_
    have := hR W' ⟨done, left, L', a0, a1, a2, a5.fr0 f, a6.trans (frN f), a7.fr f fun _ _ h => h, f.heap a8 (fun h => h), a9⟩
    rw [hx] at this
    exact this
  · rintro i W hi hp ⟨done, left, L', a0, a1, ⟨a2, a3, a4, aw⟩, a5, a6, a7, a8, a9⟩
    have hx : l1[i]? = some l1[i] := List.getElem?_eq_getElem hi
    rw [hx] at hp
    have hp : l1[i].sound = false := hp
    have hik : i ≠ k := fun e => by
      subst e
      rw [hx] at hkx
      rw [← Option.some.inj hkx, hp] at hks; cases hks
    have hx2 : (markK k l1)[i]? = some { l1[i] with picked := false } := by
      rw [markK_get, hx, Option.map_some, decide_eq_false hik]
    refine ⟨done ++ [{ l1[i] with picked := false }], left, L', ?_, by rw [List.length_append, a1]; rfl, ⟨a2, a3, hi, ?_⟩, ?_, a6, a7, a8, a9⟩
    · rw [a0, List.drop_eq_getElem_cons hi, pickL, if_neg hik, if_neg (fun h => by rw [hp] at h; cases h.1), List.append_assoc]
      rfl
    · rw [List.map_append, aw, take_snoc hi, List.map_append]; rfl
    · rw [← mk_keep hx2]
      exact a5
  · rintro i t W KY hi ht hp ⟨done, left, L', a0, a1, ⟨a2, a3, a4, aw⟩, a5, a6, a7, a8, a9, a10, a11⟩ hR _
    have hx : l1[i]? = some l1[i] := List.getElem?_eq_getElem hi
    rw [hx] at hp
    have hp : l1[i].sound = true := hp
    have hx2 : (markK k l1)[i]? = some { l1[i] with picked := decide (i = k) } := by rw [markK_get, hx]; rfl
    refine hyield KY [pt t.b 0] W L' a10 a9 a8 rfl ?_
    show opS Try.prog (S.beginR (pt (sb + 1) 0)) _ W
    rw [opS_beginR a8 a10]
    have f2 : Fr (fun b => b = sb + 1) W (upd W (sb + 1) (.loop { L' with state := .busy })) := Fr.upd' a8 rfl _ rfl rfl
    have l2 : (upd W (sb + 1) (.loop { L' with state := .busy })).heap[sb + 1]? = some (.loop { L' with state := .busy }) := heap_upd_same (by rw [a8]; rfl)
    generalize upd W (sb + 1) (.loop { L' with state := .busy }) = W2 at *
    have b5 := a5.fr f2 (fun y hy e => by have := hold y hy; omega) fun y hy e => by have := hpvl y hy; omega
    have b6 : Fr (fun y => fL bs y ∨ y = c25) w W2 := a6.trans_new f2 fun y hy e => by omega
    have b7 : PkB W2 g u.b c9 c25 c1 sb left := a7.fr f2 fun y hy e => by omega
    have hxt : (done ++ (markK k l1).drop i)[i]? = some { l1[i] with picked := decide (i = k) } := by rw [mk_get a1]; exact hx2
    have htl := b5.lk i t _ ht hxt
    obtain ⟨xu, hxu, hxue⟩ : ∃ xu, (done ++ (markK k l1).drop i)[k]? = some xu ∧ xu.e = xk.e := by
      have hm : ((done ++ (markK k l1).drop i).map (·.e))[k]? = some xk.e := by
        rw [List.map_append, aw]
        have e2 : ((markK k l1).drop i).map (·.e) = (l1.drop i).map (·.e) := by
          rw [List.map_drop, List.map_drop]
          congr 1
          apply List.ext_getElem?
          intro q
          rw [List.getElem?_map, List.getElem?_map, markK_get]
          cases l1[q]? <;> rfl
        rw [e2, ← List.map_append, List.take_append_drop, List.getElem?_map, hkx]; rfl
      rw [List.getElem?_map] at hm
      cases e : (done ++ (markK k l1).drop i)[k]? with
      | none => rw [e] at hm; cases hm
      | some y => rw [e] at hm; exact ⟨y, rfl, Option.some.inj hm⟩
    have hul := b5.lk k u _ hu hxu
    have hti := List.mem_of_getElem? ht
    have hfin : ∀ {W3 : World} {fp : Nat → Prop} {left' : Int} {done' : List Lk}, Fr fp W2 W3 → (∀ y, fp y → fL bs y ∨ y = c25) → PkB W3 g u.b c9 c25 c1 sb left' → CG W3 g bs pv { s with l := done' ++ (markK k l1).drop (i + 1) } → pickL k (sysI xk.e.partner) 0 (s.most - 1) l1 = done' ++ pickL k (sysI xk.e.partner) (i + 1) left' (l1.drop (i + 1)) → done'.length = i + 1 → 0 ≤ left' → left' ≤ 31 → done'.map (·.e) = (l1.take (i + 1)).map (·.e) → opS Try.prog (S.endR (pt (sb + 1) 0) none) KY W3 := by
      intro W3 fp left' done' hF hfp hB hG e0 e1 e2 e3 e4
      have l3 := hF.heap l2 fun hh => by
        rcases hfp _ hh with hh | hh
        · have := hold _ (.inr hh); omega
        · omega
      rw [opS_endR l3]
      have f4 : Fr (fun b => b = sb + 1) W3 (upd W3 (sb + 1) (.loop { L' with state := .ready, pending := none })) := Fr.upd' l3 rfl _ rfl rfl
      refine hR _ ⟨done', left', { L' with state := .ready, pending := none }, e0, e1, ⟨e2, e3, hi, e4⟩, hG.fr f4 (fun y hy e => by have := hold y hy; omega) (fun y hy e => by have := hpvl y hy; omega), (b6.trans (hF.mono fun y _ hy => hfp y hy)).trans_new f4 fun y hy e => by omega, hB.fr f4 fun y hy e => by omega, heap_upd_same (by rw [l3]; rfl), a9, rfl, rfl⟩
    have hxw := hw _ (List.getElem_mem hi)
    have hstep : pickL k (sysI xk.e.partner) i left (l1.drop i) = if i = k then { l1[i] with picked := true } :: pickL k (sysI xk.e.partner) (i + 1) left (l1.drop (i + 1))
        else if l1[i].sound = true ∧ 0 < left ∧ sysI l1[i].e.partner = sysI xk.e.partner then { l1[i] with picked := true } :: pickL k (sysI xk.e.partner) (i + 1) (left - 1) (l1.drop (i + 1))
        else { l1[i] with picked := false } :: pickL k (sysI xk.e.partner) (i + 1) left (l1.drop (i + 1)) := by
      rw [List.drop_eq_getElem_cons hi, pickL]
    refine pkbody_spec (i := i) (k := k) htl hul hxw.e ?_ ?_ b7.s9 b7.s25 a2 a3 (fun hh => h25.1 (.inr ⟨t, hti, hh⟩)) (fun hcnd W3 hF3 => ?_) fun hcnd W3 W4 h3 hF3 s4 hF4 => ?_
    · rw [hxue]; exact (hw xk (List.mem_of_getElem? hkx)).e
    · constructor
      · intro e
        by_cases hik : i = k
        · exact hik
        · exact absurd (show u.fp t.b from .inl e) (h.dis i k t u ht hu hik t.b (.inl rfl))
      · intro e
        subst e
        rw [ht] at hu
        rw [Option.some.inj hu]
    · refine hfin (left' := left) (done' := done ++ [{ l1[i] with picked := decide (i = k) }]) hF3 (fun _ hh => hh.elim) (b7.fr hF3 fun _ _ hh => hh) ?_ ?_ (by rw [List.length_append, a1]; rfl) a2 a3 (by rw [List.map_append, aw, take_snoc hi, List.map_append]; rfl)
      · rw [← mk_keep hx2]
        exact b5.fr0 hF3
      · rw [a0, hstep, List.append_assoc]
        congr 1
        by_cases hik : i = k
        · rw [if_pos hik, decide_eq_true hik]; rfl
        · rw [if_neg hik, decide_eq_false hik, if_neg fun hh => hcnd ⟨hik, hh.2.1, by rw [hxue]; exact hh.2.2⟩]; rfl
    · obtain ⟨g1, gF⟩ := b5.set ht hF3 h3
      have hF5 : Fr (fun y => fL bs y ∨ y = c25) W2 W4 := (gF.mono fun _ _ hh => .inl hh).trans (hF4.mono fun _ _ hh => .inr hh)
      have b7' : PkB W4 g u.b c9 c25 c1 sb (left - 1) := by
        have hz : ∀ y, y = c9 ∨ y = c1 ∨ y = c1 + 1 ∨ y = sb → ¬ (fL bs y ∨ y = c25) := by
          rintro y hy (hh | hh)
          · have := hold y (.inr hh)
            rcases hy with hy | hy
            · exact h9.1 (hy ▸ .inr hh)
            · omega
          · omega
        exact ⟨hF5.heap b7.s9 (hz _ (.inl rfl)), s4, hF5.heap b7.q1 (hz _ (.inr (.inl rfl))), hF5.heap b7.q2 (hz _ (.inr (.inr (.inl rfl)))), hF5.heap b7.dfr (hz _ (.inr (.inr (.inr rfl))))⟩
      refine hfin (left' := left - 1) (done' := done ++ [{ l1[i] with picked := true }]) hF5 (fun _ hh => hh) b7' ?_ ?_ (by rw [List.length_append, a1]; rfl) (by have := hcnd.2.1; omega) (by omega) (by rw [List.map_append, aw, take_snoc hi, List.map_append]; rfl)
      · have := g1.fr hF4 (fun y hy e => h25.1 (e ▸ hy)) fun y hy e => h25.2 (e ▸ hy)
        rw [← mk_set _ a1 hi]
        exact this
      · rw [a0, hstep, if_neg hcnd.1, if_pos ⟨hp, hcnd.2.1, by rw [← hxue]; exact hcnd.2.2⟩, List.append_assoc]; rfl
  · refine ⟨[], s.most - 1, L, by simp, rfl, ⟨by omega, by omega, by omega, rfl⟩, ?_, frN hF110, hPk, hl2, ⟨rfl, rfl, rfl, rfl, rfl⟩, hL1, hp⟩
    rw [List.nil_append, List.drop_zero]
    exact h10
  · rintro W (⟨done, left, L', a0, a1, a2, a5, a6, a7, a8, a9, a10, a11⟩ | hZ)
    · have hd : (markK k l1).drop l1.length = [] := List.drop_eq_nil_of_le (by omega)
      rw [hd, List.append_nil] at a5
      rw [List.drop_length, pickL, List.append_nil] at a0
      rw [← a0] at a5
      refine ⟨none, upd W (sb + 1) (.loop { L' with state := .exhausted }), (run_endLoop a8 (by rw [a10]; decide)).trans (congrArg (fun x => Result.ok x (upd W (sb + 1) (.loop { L' with state := .exhausted }))) a11), ?_⟩
      have f2 : Fr (fun b => b = sb + 1) W (upd W (sb + 1) (.loop { L' with state := .exhausted })) := Fr.upd' a8 rfl _ rfl rfl
      generalize upd W (sb + 1) (.loop { L' with state := .exhausted }) = W2 at *
      have d2 := f2.heap a7.dfr (by omega)
      simp only []
      show opS Try.prog (S.take (pt sb 0)) _ _
      rw [opS_take d2]
      have f3 : Fr (fun b => b = sb) W2 (upd W2 sb (.deferred none)) := Fr.upd' d2 rfl _ rfl rfl
      refine hk _ ((a5.fr f2 (fun y hy e => by have := hold y hy; omega) fun y hy e => by have := hpvl y hy; omega).fr f3 (fun y hy e => by have := hold y hy; omega) fun y hy e => by have := hpvl y hy; omega) ((a6.trans_new f2 fun y hy e => by omega).trans_new f3 fun y hy e => by omega)
    · exact hZ.elim

end Go.Gx.S
end

section
/- Links are selected anew: the whole; a moment passes. -/
set_option linter.unusedVariables false
set_option linter.unusedSimpArgs false
set_option maxRecDepth 100000
namespace Go.Gx.S
open Go Go.Gx Go.Proofs
variable {K : Value → World → Prop} {w : World} {g : Nat} {bs : List B3} {pv fv : Value} {s : Grp}

set_option maxHeartbeats 1000000 in
theorem pick_spec (h : CG w g bs pv s) (hw : s.wf)
    (hk : ∀ w', CG w' g bs pv (pickP s) → Fr (fL bs) w w' → K (.tuple #[]) w') : CallsR Try.prog 56 #[pt g 0] K w := by
  apply c56
  unfold p56
  have hn := hw.len
  simp only [push_cast, Nat.reduceAdd, Nat.reduceLeDiff, Nat.reduceLT, Int.reduceToNat, Nat.left_eq_add, Nat.add_eq_left, Nat.add_left_cancel_iff, Nat.reduceEqDiff, Nat.add_assoc, Nat.succ_ne_zero, h.main]
  rw [h.lenv]
  refine jn0 (fun W => CG W g bs pv { s with l := s.l.map Lk.keep } ∧ Fr (fL bs) w W) ?_ fun j hj => ?_
  case refine_2 =>
    refine each_spec (f := Lk.keep) (fin := fun _ => True) h hn (fun _ _ => trivial) ?_ fun W h1 hF1 => hj W ⟨h1, hF1⟩
    intro i t x W X hi _ ht hx hl hI hF hX
    have hwk : IntKind.i64.wrap ((i : Int) + 1) = ((i + 1 : Nat) : Int) := by rw [wrap_i64 (by omega)]; rfl
    refine hI.ld ht ?_
    simp only [push_cast, Nat.reduceAdd, Nat.reduceLeDiff, Nat.reduceLT, Int.reduceToNat, Nat.left_eq_add, Nat.add_eq_left, Nat.add_left_cancel_iff, Nat.reduceEqDiff, Nat.add_assoc, Nat.succ_ne_zero, hl.b]
    refine br_intro (fun e => ?_) fun e => ?_
    · refine sound_spec hl fun W2 hF2 => ?_
      have hl2 := hl.fr0 hF2
      obtain ⟨h3, hF3⟩ := hl2.wrB (lkC_spicked false t x x.sound) rfl rfl
      simp only [push_cast, Nat.reduceAdd, Nat.reduceLeDiff, Nat.reduceLT, Int.reduceToNat, Nat.left_eq_add, Nat.add_eq_left, Nat.add_left_cancel_iff, Nat.reduceEqDiff, Nat.add_assoc, Nat.succ_ne_zero, hl2.b, hwk]
      refine hX _ ?_ ((frN hF2).trans hF3)
      unfold Lk.keep
      rw [show x.picked = true from e, Bool.true_and]
      exact h3
    · obtain ⟨h3, hF3⟩ := hl.wrB (lkC_spicked false t x false) rfl rfl
      simp only [push_cast, Nat.reduceAdd, Nat.reduceLeDiff, Nat.reduceLT, Int.reduceToNat, Nat.left_eq_add, Nat.add_eq_left, Nat.add_left_cancel_iff, Nat.reduceEqDiff, Nat.add_assoc, Nat.succ_ne_zero, hl.b, hwk]
      refine hX _ ?_ hF3
      unfold Lk.keep
      rw [show x.picked = false from e, Bool.false_and]
      exact h3
  rintro W1 ⟨h1, hF1⟩
  have hk1 : ∀ x ∈ s.l.map Lk.keep, x.wf := map_wf hw.l fun x hx => hx.pick _
  have hps : ∀ x ∈ s.l.map Lk.keep, x.picked = true → x.sound = true := fun x hx hp => by
    obtain ⟨y, hy, rfl⟩ := List.mem_map.1 hx
    have hp : (y.picked && y.sound) = true := hp
    rw [Bool.and_eq_true] at hp
    exact hp.2
  unfold pickP at hk
  simp only [] at hk
  have hn1 : (s.l.map Lk.keep).length ≤ 32 := by rw [List.length_map]; exact hn
  generalize s.l.map Lk.keep = l1 at *
  simp only [push_cast, Nat.reduceAdd, Nat.reduceLeDiff, Nat.reduceLT, Int.reduceToNat, Nat.left_eq_add, Nat.add_eq_left, Nat.add_left_cancel_iff, Nat.reduceEqDiff, Nat.add_assoc, Nat.succ_ne_zero]
  refine first_pt h1 hn1 rfl rfl tells_chosen fun W2 hF2 => ?_
  have h2 := h1.fr0 hF2
  simp only [push_cast, Nat.reduceAdd, Nat.reduceLeDiff, Nat.reduceLT, Int.reduceToNat, Nat.left_eq_add, Nat.add_eq_left, Nat.add_left_cancel_iff, Nat.reduceEqDiff, Nat.add_assoc, Nat.succ_ne_zero]
  refine first_pt h2 hn1 rfl rfl tells_sound fun W3 hF3 => ?_
  have h3 := h2.fr0 hF3
  have hcl : ∀ o : Option Nat, (ptO o).cells.toList = [ptO o] := fun o => by cases o <;> rfl
  generalize ho1 : ptOf bs (l1.findIdx? (·.picked)) = o1
  generalize ho2 : ptOf bs (l1.findIdx? Lk.sound) = o2
  have hvs : ∀ v ∈ [ptO o1, ptO o2], v.cells.toList.length = 1 := fun v hv => by
    rcases List.mem_cons.1 hv with rfl | hv
    · rw [hcl]; rfl
    · rw [List.mem_singleton.1 hv, hcl]; rfl
  generalize hp1 : ptO o1 = p1 at *
  generalize hp2 : ptO o2 = p2 at *
  refine s_bsN (z := .pointer none) [p1, p2] (by show 0 < 2; decide) (by decide) (by show 2 * 1 ≤ 2 ^ 24; decide) rfl hvs fun v W4 hv hF4 _ => ?_
  have h4 := h3.fr0 hF4
  have hF14 := ((hF1.trans (frN hF2)).trans (frN hF3)).trans (frN hF4)
  simp only [push_cast, Nat.reduceAdd, Nat.reduceLeDiff, Nat.reduceLT, Int.reduceToNat, Nat.left_eq_add, Nat.add_eq_left, Nat.add_left_cancel_iff, Nat.reduceEqDiff, Nat.add_assoc, Nat.succ_ne_zero]
  have hv' : RdE 1 W4 v [[ptO o1], [ptO o2]] := by
    have := hv.rd
    simp only [List.map_cons, List.map_nil, ← hp1, ← hp2, hcl] at this
    exact this
  refine or_spec hv' ?_
  rw [← ho1, ← ho2]
  have hl1 : ∀ i, l1.findIdx? (·.picked) = some i → i < bs.length := fun i hi => by
    have := (List.findIdx?_eq_some_iff_getElem.1 hi).1
    have e := h4.len
    have : bs.length = l1.length := e
    omega
  rw [ptOf_or hl1]
  have hlead : (l1.findIdx? (·.picked) <|> l1.findIdx? Lk.sound) = lead l1 := rfl
  rw [hlead]
  cases hL : lead l1 with
  | none =>
    rw [hL] at hk
    simp only [] at hk
    have e : ptO (ptOf bs none) = .pointer none := rfl
    rw [e]
    simp only [push_cast, Nat.reduceAdd, Nat.reduceLeDiff, Nat.reduceLT, Int.reduceToNat, Nat.left_eq_add, Nat.add_eq_left, Nat.add_left_cancel_iff, Nat.reduceEqDiff, Nat.add_assoc, Nat.succ_ne_zero]
    exact hk _ (h4.fr0 (((Fr.refl _ _).step_alloc rfl).step_wr (.inr (Nat.le_refl _)) _ _)) (hF14.trans (frN (((Fr.refl _ _).step_alloc rfl).step_wr (.inr (Nat.le_refl _)) _ _)))
  | some k =>
    rw [hL] at hk
    simp only [] at hk
    have hkl : k < l1.length := by
      unfold lead at hL
      cases e1 : l1.findIdx? (·.picked) with
      | some i =>
        rw [e1] at hL
        cases hL
        exact (List.findIdx?_eq_some_iff_getElem.1 e1).1
      | none =>
        rw [e1] at hL
        exact (List.findIdx?_eq_some_iff_getElem.1 hL).1
    have hkx : l1[k]? = some l1[k] := List.getElem?_eq_getElem hkl
    have hks : l1[k].sound = true := by
      unfold lead at hL
      cases e1 : l1.findIdx? (·.picked) with
      | some i =>
        rw [e1] at hL
        cases hL
        have := (List.findIdx?_eq_some_iff_getElem.1 e1).2.1
        exact hps _ (List.getElem_mem hkl) this
      | none =>
        rw [e1] at hL
        exact (List.findIdx?_eq_some_iff_getElem.1 hL).2.1
    have hgd : l1.getD k default = l1[k] := by rw [List.getD_eq_getElem?_getD, hkx]; rfl
    rw [hgd] at hk
    obtain ⟨u, hu, hul⟩ := h4.blk (i := k) hkx
    have e : ptO (ptOf bs (some k)) = pt u.b 0 := by unfold ptOf; rw [Option.bind_some, hu]; rfl
    rw [e]
    have hF5 : Fr none_ W4 (wr (W4.alloc (cellsO [.pointer none] 108)) W4.heap.size 0 [pt u.b 0]) := ((Fr.refl _ _).step_alloc rfl).step_wr (.inr (Nat.le_refl _)) _ _
    have s9 : (wr (W4.alloc (cellsO [.pointer none] 108)) W4.heap.size 0 [pt u.b 0]).heap[W4.heap.size]? = some (cellsO [pt u.b 0] 108) := by simp only [push_cast, Nat.reduceAdd, Nat.reduceLeDiff, Nat.reduceLT, Int.reduceToNat, Nat.left_eq_add, Nat.add_eq_left, Nat.add_left_cancel_iff, Nat.reduceEqDiff, Nat.add_assoc, Nat.succ_ne_zero]
    have h5 := h4.fr0 hF5
    have hc9 : w.heap.size ≤ W4.heap.size := hF14.size
    have hgc : g ≠ W4.heap.size := by have := h4.lt g (.inl rfl); omega
    simp only [push_cast, Nat.reduceAdd, Nat.reduceLeDiff, Nat.reduceLT, Int.reduceToNat, Nat.left_eq_add, Nat.add_eq_left, Nat.add_left_cancel_iff, Nat.reduceEqDiff, Nat.add_assoc, Nat.succ_ne_zero, h4.main, hgc]
    have hF15 := hF14.trans (frN hF5)
    generalize wr (W4.alloc (cellsO [.pointer none] 108)) W4.heap.size 0 [pt u.b 0] = W5 at *
    generalize W4.heap.size = c9 at *
    have hold : ∀ y, fG g bs y → y < w.heap.size := h.lt
    have hoL : ∀ y, fL bs y → y < w.heap.size := fun y hy => h.lt y (.inr hy)
    rw [h5.lenv]
    refine jn0 (fun W => CG W g bs pv { s with l := l1.map unpick } ∧ Fr (fL bs) W5 W) ?_ fun j hj => ?_
    case refine_2 =>
      refine each_spec (s := { s with l := l1 }) (f := unpick) (fin := fun _ => True) h5 hn1 (fun _ _ => trivial) ?_ fun W h1 hF1 => hj W ⟨h1, hF1⟩
      intro i t x W X hi _ ht hx hl hI hF hX
      have hi32 : i < 32 := by have : i < l1.length := hi; omega
      have hwk : IntKind.i64.wrap ((i : Int) + 1) = ((i + 1 : Nat) : Int) := by rw [wrap_i64 (by omega)]; rfl
      refine hI.ld ht ?_
      obtain ⟨h3, hF3⟩ := hl.wrB (lkC_spicked false t x false) rfl rfl
      simp only [push_cast, Nat.reduceAdd, Nat.reduceLeDiff, Nat.reduceLT, Int.reduceToNat, Nat.left_eq_add, Nat.add_eq_left, Nat.add_left_cancel_iff, Nat.reduceEqDiff, Nat.add_assoc, Nat.succ_ne_zero, hl.b, hwk]
      exact hX _ h3 hF3
    rintro W6 ⟨h6, hF6⟩
    have s9 := hF6.heap s9 fun hh => by have := hoL _ hh; omega
    have hux : (l1.map unpick)[k]? = some (unpick l1[k]) := by rw [List.getElem?_map, hkx]; rfl
    have hul6 := h6.lk k u _ hu hux
    have hgu : g ≠ u.b := fun e => h6.ng u (List.mem_of_getElem? hu) (.inl e)
    have hm := hw.most
    have hwl : IntKind.i64.wrap (s.most - 1) = s.most - 1 := wrap_i64 (by omega)
    simp only [push_cast, Nat.reduceAdd, Nat.reduceLeDiff, Nat.reduceLT, Int.reduceToNat, Nat.left_eq_add, Nat.add_eq_left, Nat.add_left_cancel_iff, Nat.reduceEqDiff, Nat.add_assoc, Nat.succ_ne_zero, s9, hul6.b, h6.main, hgu, hwl]
    obtain ⟨h7l, hF7⟩ := hul6.wrB (lkC_spicked false u _ true) rfl rfl
    obtain ⟨h7, hF7⟩ := h6.set hu hF7 h7l
    have hmk := markK_eq hkx
    have h7 : CG (wr W6 u.b 3 [.bool true]) g bs pv { s with l := markK k l1 } := by
      rw [← hmk]; exact h7
    have s9 := hF7.heap s9 fun hh => by have := hoL _ hh; omega
    have hF17 := (hF15.trans hF6).trans hF7
    have hsz7 : (wr W6 u.b 3 [.bool true]).heap.size = W6.heap.size := size_wr _ _ _ _
    generalize wr W6 u.b 3 [.bool true] = W7 at *
    rw [← hsz7]
    have hF8 : Fr none_ W7 (wr (W7.alloc (cellsO [.int .i64 0] 3)) W7.heap.size 0 [i64 (s.most - 1)]) := ((Fr.refl _ _).step_alloc rfl).step_wr (.inr (Nat.le_refl _)) _ _
    have s25 : (wr (W7.alloc (cellsO [.int .i64 0] 3)) W7.heap.size 0 [i64 (s.most - 1)]).heap[W7.heap.size]? = some (cellsO [i64 (s.most - 1)] 3) := by simp only [push_cast, Nat.reduceAdd, Nat.reduceLeDiff, Nat.reduceLT, Int.reduceToNat, Nat.left_eq_add, Nat.add_eq_left, Nat.add_left_cancel_iff, Nat.reduceEqDiff, Nat.add_assoc, Nat.succ_ne_zero]
    have h925 : c9 < W7.heap.size := lt_of_heap s9
    have s9 := hF8.heap s9 fun h => h
    have h8 := h7.fr0 hF8
    have hc25 : w.heap.size ≤ W7.heap.size := hF17.size
    have hF18 := hF17.trans (frN hF8)
    generalize wr (W7.alloc (cellsO [.int .i64 0] 3)) W7.heap.size 0 [i64 (s.most - 1)] = W8 at *
    generalize W7.heap.size = c25 at *
    have hl0 : 0 < s.l.length := by have := h.len; have := h7.len; have e : bs.length = (markK k l1).length := this; rw [markK_len] at e; omega
    have hpvl := h.pv_lt hl0
    have e := pk3_spec (K := K) h8 hn1 hk1 hm hu hkx hks s9 s25 ⟨fun hh => by have := hold _ hh; omega, fun hh => by have := hpvl _ hh; omega⟩ ⟨fun hh => by have := hold _ hh; omega, fun hh => by have := hpvl _ hh; omega⟩ (by omega) fun W9 h9 hF9 => hk _ h9 (hF18.trans_new hF9 fun y hy e => by
      rcases e with e | e
      · exact e
      · omega)
    simp only [push_cast, Nat.reduceAdd, Nat.reduceLeDiff, Nat.reduceLT, Int.reduceToNat, Nat.left_eq_add, Nat.add_eq_left, Nat.add_left_cancel_iff, Nat.reduceEqDiff, Nat.add_assoc, Nat.succ_ne_zero] at e
    exact e

end Go.Gx.S
end

section
/- A moment passes. -/
set_option linter.unusedVariables false
set_option linter.unusedSimpArgs false
set_option maxRecDepth 100000
namespace Go.Gx.S
open Go Go.Gx Go.Proofs
variable {K : Value → World → Prop} {w : World} {g : Nat} {bs : List B3} {pv fv : Value} {s : Grp}

theorem saysL_snoc {l : List Lk} {now : Int} {i : Nat} (hi : i < l.length) : saysL (l.take (i + 1)) now = saysL (l.take i) now ++ if l[i].tells now = true then [l[i].told] else [] := by
  unfold saysL
  rw [take_snoc hi, List.filter_append, List.map_append]
  congr 1
  by_cases e : l[i].tells now = true
  · rw [if_pos e, List.filter_cons_of_pos (p := fun x : Lk => x.tells now) e]; rfl
  · rw [if_neg e, List.filter_cons_of_neg (p := fun x : Lk => x.tells now) e]; rfl
theorem saysL_len (l : List Lk) (now : Int) : (saysL l now).length ≤ l.length := by
  unfold saysL
  rw [List.length_map]
  exact List.length_filter_le _ _

def tkF (now : Int) (x : Lk) : Lk := (x.settleP now).says now
theorem tickP_eq {now : Int} (hn : momOk now) : s.tickP now = { s with l := (pickP { s with l := s.l.map (·.tickP now) }).l.map (tkF now) } := by
  unfold Grp.tickP Grp.ticked
  rw [if_pos hn]
  simp only [List.map_map]
  rfl
theorem pickP_most (s : Grp) : (pickP s).most = s.most := by
  unfold pickP
  simp only []
  split <;> rfl

/-- one link is another one; more is touched that is none of theirs -/
theorem GS.set2 {r : Bool} {T TB TE TM : TypeId} {fp : Nat → Prop} {w' : World} (h : GS r T TB TE TM w g bs pv s) {i : Nat} {t : B3} {x : Lk} (ht : bs[i]? = some t) (hF : Fr fp w w') (hfp : ∀ y, fp y → t.fp y ∨ (¬ fG g bs y ∧ blkS pv ≠ some y)) (h' : LkM r TB TE TM w' t x) :
    GS r T TB TE TM w' g bs pv { s with l := s.l.set i x } := by
  have hm := List.mem_of_getElem? ht
  refine ⟨hF.heap h.main fun hh => ?_, h.pvs.fr hF fun b hb hh => ?_, by show bs.length = (s.l.set i x).length; rw [List.length_set]; exact h.len, fun j u y hu hy => ?_, h.dis, h.ng, h.npv⟩
  · rcases hfp _ hh with hh | hh
    · exact h.ng t hm hh
    · exact hh.1 (.inl rfl)
  · rcases hfp _ hh with hh | hh
    · exact (h.npv b hb).2 t hm hh
    · exact hh.2 hb
  · have hy : (s.l.set i x)[j]? = some y := hy
    rw [List.getElem?_set] at hy
    by_cases e : i = j
    · subst e
      rw [ht] at hu; cases hu
      rw [if_pos rfl] at hy
      split at hy
      · cases hy; exact h'
      · cases hy
    · rw [if_neg e] at hy
      refine (h.lk j u y hu hy).fr hF fun z hz hz2 => ?_
      rcases hfp _ hz2 with hh | hh
      · exact h.dis i j t u ht hu e z hh hz
      · exact hh.1 (.inr ⟨u, List.mem_of_getElem? hu, hz⟩)

theorem told_ok {x : Lk} (h : x.wf) : x.told.ok := by
  obtain ⟨h1, h2⟩ := h.e.actor
  have hp : isI x.port := by
    have := h.e.own.2.2.2.1
    rw [h.port] at this
    unfold wth at this
    exact isI_iff.2 (by omega)
  exact ⟨hp, h1.ok h2, h.e.partner.ok h.e.psys, isIz⟩

theorem gtick_spec {now : Int} (h : CG w g bs pv s) (hw : s.wf)
    (h0 : ¬ momOk now → K (.tuple #[.slice none 0 0, i64 1]) w)
    (hk : momOk now → ∀ v w', CG w' g bs pv (s.tickP now) → OwnE 125 24 w' v ((s.tickO now).map Tld.cells) → New w v → Fr (fL bs) w w' → K (.tuple #[v, i64 0]) w') : CallsR Try.prog 20 #[pt g 0, i64 now] K w := by
  apply c20
  unfold p20
  have hn := hw.len
  simp only [push_cast, Nat.reduceAdd, Nat.reduceLeDiff, Nat.reduceLT, Int.reduceToNat, Nat.left_eq_add, Nat.add_eq_left, Nat.add_left_cancel_iff, Nat.reduceEqDiff, Nat.add_assoc, Nat.succ_ne_zero, h.main]
  refine br_dec (fun e => h0 fun hm => by unfold momOk at hm; omega) fun e1 => ?_
  refine br_dec (fun e => h0 fun hm => by unfold momOk at hm; omega) fun e2 => ?_
  have hm : momOk now := ⟨by omega, by omega⟩
  have hk := hk hm
  rw [tickP_eq hm] at hk
  have hO : s.tickO now = saysL ((pickP { s with l := s.l.map (·.tickP now) }).l.map (·.settleP now)) now := by unfold Grp.tickO Grp.ticked; rw [if_pos hm]
  rw [hO] at hk
  rw [h.lenv]
  refine jn0 (fun W => CG W g bs pv { s with l := s.l.map (·.tickP now) } ∧ Fr (fL bs) w W) ?_ fun j hj => ?_
  case refine_2 =>
    refine each_spec (f := (·.tickP now)) (fin := Lk.wf) h hn hw.l ?_ fun W h1 hF1 => hj W ⟨h1, hF1⟩
    intro i t x W X hi hx0 ht hx hl hI hF hX
    have hwk : IntKind.i64.wrap ((i : Int) + 1) = ((i + 1 : Nat) : Int) := by rw [wrap_i64 (by omega)]; rfl
    refine hI.ld ht ?_
    simp only [push_cast, Nat.reduceAdd, Nat.reduceLeDiff, Nat.reduceLT, Int.reduceToNat, Nat.left_eq_add, Nat.add_eq_left, Nat.add_left_cancel_iff, Nat.reduceEqDiff, Nat.add_assoc, Nat.succ_ne_zero, hl.b]
    refine state_spec hl.e ?_
    simp only [push_cast, Nat.reduceAdd, Nat.reduceLeDiff, Nat.reduceLT, Int.reduceToNat, Nat.left_eq_add, Nat.add_eq_left, Nat.add_left_cancel_iff, Nat.reduceEqDiff, Nat.add_assoc, Nat.succ_ne_zero, hl.b]
    refine etick_spec hl.e hx0.e fun w1 h1 hF1 => ?_
    have hl1 := hl.setE hF1 h1
    have hfin : ∀ d, d = (x.due || (decide (x.e.state = 3) && decide ((x.e.tickP now).state = 1))) → X (i64 ((i + 1 : Nat) : Int)) (wr w1 t.b 4 [.bool d]) := fun d hd => by
      obtain ⟨h2, hF2⟩ := hl1.wrB (lkC_sdue false t _ d) rfl rfl
      refine hX _ ?_ ((frE hF1).trans hF2)
      show CLk _ t (x.tickP now)
      unfold Lk.tickP
      rw [← hd]
      exact h2
    simp only [push_cast, Nat.reduceAdd, Nat.reduceLeDiff, Nat.reduceLT, Int.reduceToNat, Nat.left_eq_add, Nat.add_eq_left, Nat.add_left_cancel_iff, Nat.reduceEqDiff, Nat.add_assoc, Nat.succ_ne_zero, hl1.b, hwk]
    refine br_intro (fun e1 => ?_) fun e1 => ?_
    · refine hfin true ?_
      have : x.due = true := e1
      rw [this, Bool.true_or]
    · have e1 : x.due = false := e1
      rw [e1, Bool.false_or] at hfin
      refine br_dec (fun e2 => ?_) fun e2 => ?_
      · refine state_spec h1 ?_
        simp only [push_cast, Nat.reduceAdd, Nat.reduceLeDiff, Nat.reduceLT, Int.reduceToNat, Nat.left_eq_add, Nat.add_eq_left, Nat.add_left_cancel_iff, Nat.reduceEqDiff, Nat.add_assoc, Nat.succ_ne_zero, hl1.b, hwk]
        refine hfin _ ?_
        rw [decide_eq_true e2, Bool.true_and]
        rfl
      · refine hfin false ?_
        rw [decide_eq_false e2, Bool.false_and]
  rintro W1 ⟨h1, hF1⟩
  have hw1 : ({ s with l := s.l.map (·.tickP now) } : Grp).wf := hw.mapL fun x hx => hx.tick now
  simp only [push_cast, Nat.reduceAdd, Nat.reduceLeDiff, Nat.reduceLT, Int.reduceToNat, Nat.left_eq_add, Nat.add_eq_left, Nat.add_left_cancel_iff, Nat.reduceEqDiff, Nat.add_assoc, Nat.succ_ne_zero]
  refine pick_spec h1 hw1 fun W2 h2 hF2 => ?_
  have hw2 := hw1.pick
  have hmost : (pickP { s with l := s.l.map (·.tickP now) }).most = s.most := pickP_most _
  have hq : ∀ {W : World} {l : List Lk}, CG W g bs pv { pickP { s with l := s.l.map (·.tickP now) } with l := l } → CG W g bs pv { s with l := l } := fun {W l} hh => by
    have e : ({ pickP { s with l := s.l.map (·.tickP now) } with l := l } : Grp) = { s with l := l } := by
      show Grp.mk l _ = Grp.mk l _
      rw [hmost]
    rw [e] at hh
    exact hh
  generalize pickP { s with l := s.l.map (·.tickP now) } = p at *
  have hn2 := hw2.len
  have hF12 := hF1.trans hF2
  simp only [push_cast, Nat.reduceAdd, Nat.reduceLeDiff, Nat.reduceLT, Int.reduceToNat, Nat.left_eq_add, Nat.add_eq_left, Nat.add_left_cancel_iff, Nat.reduceEqDiff, Nat.add_assoc, Nat.succ_ne_zero, h2.main]
  rw [h2.lenv]
  refine jn1 (fun v W => CG W g bs pv { p with l := p.l.map (tkF now) } ∧ OwnE 125 24 W v ((saysL (p.l.map (·.settleP now)) now).map Tld.cells) ∧ New w v ∧ Fr (fL bs) w W) (fun v W ⟨h3, hv, nv, hF3⟩ => hk v W (hq h3) hv nv hF3) fun j hj => ?_
  refine loop2 (fun m v u W => ∃ i : Nat, u = i64 i ∧ i + m = p.l.length ∧ CG W g bs pv { p with l := mapK (tkF now) p.l i } ∧ OwnE 125 24 W v ((saysL ((p.l.take i).map (·.settleP now)) now).map Tld.cells) ∧ New w v ∧ Fr (fL bs) w W) ?_ p.l.length
    ⟨0, rfl, by omega, by rw [mapK_0]; exact h2, own_nil _ _ _, fun b hb => by (cases hb), hF12⟩
  rintro m v u W X ⟨i, rfl, hi, hI, hv, nv, hF⟩ hX
  simp only [push_cast, Nat.reduceAdd, Nat.reduceLeDiff, Nat.reduceLT, Int.reduceToNat, Nat.left_eq_add, Nat.add_eq_left, Nat.add_left_cancel_iff, Nat.reduceEqDiff, Nat.add_assoc, Nat.succ_ne_zero]
  refine br_dec (fun hlt => ?_) fun hge => ?_
  · have hil : i < p.l.length := by omega
    have hx : p.l[i]? = some p.l[i] := List.getElem?_eq_getElem hil
    have hx2 : (mapK (tkF now) p.l i)[i]? = some p.l[i] := mapK_at hx
    have hxw := hw2.l _ (List.getElem_mem hil)
    obtain ⟨t, ht, hl⟩ := hI.blk hx2
    have hti := List.mem_of_getElem? ht
    have hwk : IntKind.i64.wrap ((i : Int) + 1) = ((i + 1 : Nat) : Int) := by rw [wrap_i64 (by omega)]; rfl
    have hnt : ∀ b, blkS v = some b → ¬ t.fp b := fun b hb hh => by
      have := nv b hb
      have := h.lt b (.inr ⟨t, hti, hh⟩)
      omega
    have hso : saysL ((p.l.take (i + 1)).map (·.settleP now)) now = saysL ((p.l.take i).map (·.settleP now)) now ++ if (p.l[i].settleP now).tells now = true then [(p.l[i].settleP now).told] else [] := by
      have hil2 : i < (p.l.map (·.settleP now)).length := by rw [List.length_map]; exact hil
      have := saysL_snoc (now := now) hil2
      rw [List.getElem_map] at this
      rw [List.map_take, List.map_take]
      exact this
    refine hI.ld ht ?_
    simp only [push_cast, Nat.reduceAdd, Nat.reduceLeDiff, Nat.reduceLT, Int.reduceToNat, Nat.left_eq_add, Nat.add_eq_left, Nat.add_left_cancel_iff, Nat.reduceEqDiff, Nat.add_assoc, Nat.succ_ne_zero]
    refine settle_spec hl hxw hm fun W3 h3 hF3 => ?_
    have hsw := hxw.settle hm
    have hv3 := hv.fr hF3 hnt
    simp only [push_cast, Nat.reduceAdd, Nat.reduceLeDiff, Nat.reduceLT, Int.reduceToNat, Nat.left_eq_add, Nat.add_eq_left, Nat.add_left_cancel_iff, Nat.reduceEqDiff, Nat.add_assoc, Nat.succ_ne_zero]
    refine tells_spec h3 hsw hm fun W4 hF4 => ?_
    have h4 := h3.fr0 hF4
    have hv4 := hv3.fr hF4 fun _ _ h => h
    have hF34 := hF3.trans (frN hF4)
    generalize hy : p.l[i].settleP now = y at *
    have hft : tkF now p.l[i] = y.says now := by unfold tkF; rw [hy]
    simp only [push_cast, Nat.reduceAdd, Nat.reduceLeDiff, Nat.reduceLT, Int.reduceToNat, Nat.left_eq_add, Nat.add_eq_left, Nat.add_left_cancel_iff, Nat.reduceEqDiff, Nat.add_assoc, Nat.succ_ne_zero]
    refine br_intro (fun e => ?_) fun e => ?_
    · rw [if_pos e] at hso
      have hys : y.says now = { { y with due := false } with last := now } := by unfold Lk.says; rw [if_pos e]
      refine jn1 (fun v' W5 => CLk W5 t y ∧ OwnE 125 24 W5 v' ((saysL ((p.l.take (i + 1)).map (·.settleP now)) now).map Tld.cells) ∧ (blkS v' = blkS v ∨ New w v') ∧ Fr (fun b => t.fp b ∨ blkS v = some b) W W5) ?_ fun j2 hj2 => ?_
      · rintro v' W5 ⟨h5, hv5, hb5, hF5⟩
        have hn5 : New w v' := fun b hb => by
          rcases hb5 with e5 | e5
          · exact nv b (e5 ▸ hb)
          · exact e5 b hb
        obtain ⟨h6, hF6⟩ := h5.wrB (lkC_sdue false t _ false) rfl rfl
        obtain ⟨h7, hF7⟩ := h6.wrB (lkC_slast false t _ now) rfl rfl
        have hnt' : ∀ b, blkS v' = some b → ¬ t.fp b := fun b hb hh => by
          have := hn5 b hb
          have := h.lt b (.inr ⟨t, hti, hh⟩)
          omega
        simp only [push_cast, Nat.reduceAdd, Nat.reduceLeDiff, Nat.reduceLT, Int.reduceToNat, Nat.left_eq_add, Nat.add_eq_left, Nat.add_left_cancel_iff, Nat.reduceEqDiff, Nat.add_assoc, Nat.succ_ne_zero, h5.b, h6.b, hwk]
        have hpv := h.pv_lt (by have e1 := h.len; have e2 := hI.len; have e2 : bs.length = (mapK (tkF now) p.l i).length := e2; rw [mapK_len] at e2; omega)
        have hF8 : Fr (fun b => t.fp b ∨ blkS v = some b) W (wr (wr W5 t.b 4 [.bool false]) t.b 5 [i64 now]) := (hF5.trans (hF6.mono fun _ _ h => .inl h)).trans (hF7.mono fun _ _ h => .inl h)
        have h8 := hI.set2 (i := i) ht hF8 (fun b hb => by
          rcases hb with hb | hb
          · exact .inl hb
          · have := nv b hb
            exact .inr ⟨fun hh => by have := h.lt b hh; omega, fun hh => by have := hpv b hh; omega⟩) h7
        have := mapK_set (f := tkF now) hx
        rw [hft, hys] at this
        simp only [this] at h8
        refine hX (m - 1) _ _ _ (by omega) ⟨i + 1, rfl, by omega, h8, ?_, hn5, hF.trans_new hF8 fun b hb hh => ?_⟩
        · exact (hv5.fr hF6 hnt').fr hF7 hnt'
        · rcases hh with hh | hh
          · exact ⟨t, hti, hh⟩
          · have := nv b hh; omega
      · simp only [push_cast, Nat.reduceAdd, Nat.reduceLeDiff, Nat.reduceLT, Int.reduceToNat, Nat.left_eq_add, Nat.add_eq_left, Nat.add_left_cancel_iff, Nat.reduceEqDiff, Nat.add_assoc, Nat.succ_ne_zero, h4.b]
        have hd := h4.fr0 (Fr.drew W4)
        have hvd := hv4.fr (Fr.drew (fp := none_) W4) fun _ _ h => h
        have hFd := hF34.trans (Fr.drew W4)
        have hsz : w.heap.size ≤ W4.drew.heap.size := by have := hF.size; have := hFd.size; omega
        generalize W4.drew = W5 at *
        have hap : ∀ W6, Fr none_ W5 W6 → opS Try.prog (S.buildS 61 1 [(0, .agg y.told.cells.toArray)]) (fun x33 => opS Try.prog (S.bi .append #[61, 61] 61 [v, x33]) fun x34 => j2 x34) W6 := fun W6 hF6 => by
          refine s_bs1 (sz := 24) (z := .agg (Tld.cells ⟨0, Inf.zero, Inf.zero, 0⟩).toArray) (Tld.len _) rfl (by decide) (by decide) fun z W7 hz hF7 hN7 => ?_
          have hl32 : ((saysL ((p.l.take i).map (·.settleP now)) now).map Tld.cells).length ≤ 32 := by
            rw [List.length_map]
            refine Nat.le_trans (saysL_len _ _) ?_
            rw [List.length_map, List.length_take]; omega
          refine s_app (sz := 24) (by_ := 112) (z := .agg (Tld.cells ⟨0, Inf.zero, Inf.zero, 0⟩).toArray) rfl (by decide) ((hvd.fr hF6 fun _ _ h => h).fr hF7 fun _ _ h => h) hz.rd (by simp [Tld.one]) (by simp only [List.length_singleton]; omega) fun v' W8 hv' hb' hF8 => ?_
          have hsz7 : w.heap.size ≤ W7.heap.size := by have := hF6.size; have := hF7.size; omega
          refine hj2 _ _ ⟨(hd.fr0 (hF6.trans hF7)).fr hF8 fun b hb hh => hnt b hh hb, ?_, ?_, ?_⟩
          · rw [hso, List.map_append]
            exact hv'
          · rcases hb' with e5 | e5
            · exact .inl e5
            · exact .inr fun b hb => by have := e5 b hb; omega
          · exact ((hFd.mono fun _ _ h => .inl h).trans (frN (hF6.trans hF7))).trans (hF8.mono fun _ _ h => .inr h)
        repeat' first
          | refine allW_intro ?_ ?_
          | simp only [push_cast, Nat.reduceAdd, Nat.reduceLeDiff, Nat.reduceLT, Int.reduceToNat, Nat.left_eq_add, Nat.add_eq_left, Nat.add_left_cancel_iff, Nat.reduceEqDiff, Nat.add_assoc, Nat.succ_ne_zero, hd.b]
        all_goals
          refine actor_spec hd.e fun W6 hF6 => ?_
          have h6 := hd.fr0 hF6
          repeat' first
            | refine allW_intro ?_ ?_
            | simp only [push_cast, Nat.reduceAdd, Nat.reduceLeDiff, Nat.reduceLT, Int.reduceToNat, Nat.left_eq_add, Nat.add_eq_left, Nat.add_left_cancel_iff, Nat.reduceEqDiff, Nat.add_assoc, Nat.succ_ne_zero, h6.b]
          all_goals
            refine partner_spec h6.e fun W7 hF7 => ?_
            have h7 := h6.fr0 hF7
            simp only [push_cast, Nat.reduceAdd, Nat.reduceLeDiff, Nat.reduceLT, Int.reduceToNat, Nat.left_eq_add, Nat.add_eq_left, Nat.add_left_cancel_iff, Nat.reduceEqDiff, Nat.add_assoc, Nat.succ_ne_zero, h7.b]
            exact hap _ (hF6.trans hF7)
    · rw [if_neg (by rw [e]; decide), List.append_nil] at hso
      have hys : y.says now = y := by unfold Lk.says; rw [if_neg (by rw [e]; decide)]
      obtain ⟨h8, hF8⟩ := hI.set ht hF34 h4
      have := mapK_set (f := tkF now) hx
      rw [hft, hys] at this
      simp only [this] at h8
      simp only [push_cast, Nat.reduceAdd, Nat.reduceLeDiff, Nat.reduceLT, Int.reduceToNat, Nat.left_eq_add, Nat.add_eq_left, Nat.add_left_cancel_iff, Nat.reduceEqDiff, Nat.add_assoc, Nat.succ_ne_zero, hwk]
      refine hX (m - 1) _ _ _ (by omega) ⟨i + 1, rfl, by omega, h8, ?_, nv, hF.trans hF8⟩
      rw [hso]
      exact hv4
  · have e : p.l.length ≤ i := by omega
    rw [mapK_end e] at hI
    rw [List.take_of_length_le e] at hv
    exact hj _ _ ⟨hI, hv, nv, hF⟩

end Go.Gx.S
end

section
/- Rows that are sorted. -/
namespace Go.Gx
open Go Go.Sort
variable {P : Program} {K : Value → World → Prop} {w : World}

theorem putCells_splice {α : Type} [Inhabited α] (enc : α → Value) (o : Nat) (zs : List α) (cs : Array Value) (h : o + zs.length ≤ cs.size) :
    (putCells enc o zs.toArray cs).toList = splice cs.toList o (zs.map enc) := by
  apply List.ext_getElem?
  intro j
  have hcl : cs.toList.length = cs.size := Array.length_toList
  have hs := splice_get (l := cs.toList) (vs := zs.map enc) (o := o) (by rw [List.length_map]; omega) j
  rw [hs, List.length_map]
  unfold putCells
  simp only [Array.toList_mapIdx, List.getElem?_mapIdx, List.size_toArray]
  by_cases h1 : j < o
  · rw [if_pos h1]
    cases cs.toList[j]? with
    | none => rfl
    | some v => simp only [Option.map_some]; rw [if_neg (by omega)]
  · by_cases h2 : j < o + zs.length
    · rw [if_neg h1, if_pos h2]
      have hj : j < cs.toList.length := by omega
      rw [List.getElem?_eq_getElem hj]
      simp only [Option.map_some]
      rw [if_pos (by omega), List.getElem?_map]
      have hj2 : j - o < zs.length := by omega
      rw [List.getElem?_eq_getElem hj2]
      simp [hj2]
    · rw [if_neg h1, if_neg h2]
      cases cs.toList[j]? with
      | none => rfl
      | some v => simp only [Option.map_some]; rw [if_neg (by omega)]

/-- a row that is its holder's own, in the sort's words -/
theorem holds_row {α : Type} [Inhabited α] {enc : α → Value} {b o N : Nat} {cs : Array Value} {E : TypeId} {zs : List α} (hb : w.heap[b]? = some (.cells cs E (0, 0))) (hN : N = zs.length) (ho : o + N ≤ cs.size) (hl : zs.map enc = (cs.toList.drop o).take N) :
    Holds enc w b o zs.toArray := by
  intro j hj
  simp only [List.size_toArray] at hj
  have hcl : cs.toList.length = cs.size := Array.length_toList
  constructor
  · rw [cell_rd]
    unfold rd
    rw [hb]
    show cs[o + j]? = _
    have := congrArg (fun l => l[j]?) hl
    simp only [List.getElem?_map, List.getElem?_take, List.getElem?_drop] at this
    rw [if_pos (by omega), List.getElem?_eq_getElem hj, Array.getElem?_toList] at this
    rw [← this]
    simp [hj]
  · rw [frozen_eq]
    simp [hb]

theorem putRow_heap {α : Type} [Inhabited α] {enc : α → Value} {b o n : Nat} {os : Array Obj} {cs : Array Value} {E : TypeId} {zs : List α} (hb : w.heap[b]? = some (.cells cs E (0, 0))) (ho : o + zs.length ≤ cs.size) :
    (grow (putRow enc (Sort.ahead w n) b o zs.toArray) os).heap[b]? = some (.cells (splice cs.toList o (zs.map enc)).toArray E (0, 0)) := by
  have hlt := lt_of_heap hb
  have e1 : (grow (putRow enc (Sort.ahead w n) b o zs.toArray) os).heap[b]? = (putRow enc (Sort.ahead w n) b o zs.toArray).heap[b]? := by
    show ((putRow enc (Sort.ahead w n) b o zs.toArray).heap ++ os)[b]? = _
    rw [Array.getElem?_append_left]
    show b < (w.heap.modify b _).size
    rw [Array.size_modify]; exact hlt
  rw [e1]
  show (w.heap.modify b (onCells (putCells enc o zs.toArray)))[b]? = _
  rw [Array.getElem?_modify, if_pos rfl, hb]
  show some (Obj.cells (putCells enc o zs.toArray cs) E (0, 0)) = _
  congr 2
  rw [← putCells_splice enc o zs cs ho, Array.toArray_toList]

theorem putRow_fr {α : Type} [Inhabited α] {enc : α → Value} {b o n : Nat} {os : Array Obj} {d : Array α} : Fr (fun x => x = b) w (grow (putRow enc (Sort.ahead w n) b o d) os) := by
  have hs : (putRow enc (Sort.ahead w n) b o d).heap.size = w.heap.size := by
    show (w.heap.modify b _).size = _
    rw [Array.size_modify]
  refine ⟨?_, fun x hx hn => ?_, fun a ha => ?_, rfl, rfl, rfl⟩
  · show w.heap.size ≤ ((putRow enc (Sort.ahead w n) b o d).heap ++ os).size
    rw [Array.size_append, hs]; omega
  · show ((putRow enc (Sort.ahead w n) b o d).heap ++ os)[x]? = _
    rw [Array.getElem?_append_left (by rw [hs]; exact hx)]
    show (w.heap.modify b _)[x]? = _
    rw [Array.getElem?_modify, if_neg (fun e => hn e.symm)]
  · have e1 : (grow (putRow enc (Sort.ahead w n) b o d) os).frozen? a = (putRow enc (Sort.ahead w n) b o d).frozen? a := by
      rw [frozen_eq, frozen_eq]
      show (match ((putRow enc (Sort.ahead w n) b o d).heap ++ os)[a.block]? with | some (.cells _ _ fz) => (decide (fz.1 ≤ a.off) && decide (a.off < fz.2)) | _ => false) = _
      rw [Array.getElem?_append_left (by rw [hs]; exact ha)]
      rfl
    rw [e1]
    exact frozen?_mapBlock _ _ _ _

/-- one cell an element: what is asked, and what there is behind it -/
theorem own_holds {α : Type} [Inhabited α] {enc : α → Value} {E : TypeId} {b o c : Nat} {zs : List α} (h : OwnE E 1 w (.slice (some ⟨b, o, none⟩) zs.length c) (zs.map fun z => [enc z])) : Holds enc w b o zs.toArray ∧ b < w.heap.size := by
  obtain ⟨h1, _⟩ := h
  rw [List.length_map] at h1
  rcases h1 with ⟨h1, _⟩ | ⟨b', o', c', cs, hv, hb, hc, ho, hl⟩
  · cases h1
  · simp only [Value.slice.injEq, Option.some.injEq, Addr.mk.injEq, and_true, true_and] at hv
    obtain ⟨⟨rfl, rfl⟩, rfl⟩ := hv
    refine ⟨holds_row hb rfl (by omega) ?_, lt_of_heap hb⟩
    rw [Nat.mul_one] at hl
    rw [← hl]
    clear hl ho hc hb
    induction zs with
    | nil => rfl
    | cons z zs ih => simp [ih]

theorem own_sorted {α : Type} [Inhabited α] {enc : α → Value} {E : TypeId} {b o c n : Nat} {os : Array Obj} {zs ys : List α} (h : OwnE E 1 w (.slice (some ⟨b, o, none⟩) zs.length c) (zs.map fun z => [enc z])) (hl : ys.length = zs.length) :
    OwnE E 1 (grow (putRow enc (Sort.ahead w n) b o ys.toArray) os) (.slice (some ⟨b, o, none⟩) ys.length c) (ys.map fun z => [enc z]) := by
  obtain ⟨h1, _⟩ := h
  rw [List.length_map] at h1
  rcases h1 with ⟨h1, _⟩ | ⟨b', o', c', cs, hv, hb, hc, ho, _⟩
  · cases h1
  · simp only [Value.slice.injEq, Option.some.injEq, Addr.mk.injEq, and_true, true_and] at hv
    obtain ⟨⟨rfl, rfl⟩, rfl⟩ := hv
    have hcl : cs.toList.length = cs.size := Array.length_toList
    refine ⟨?_, by simp⟩
    rw [List.length_map]
    refine .inr ⟨b, o, c, _, rfl, putRow_heap hb (by omega), by omega, ?_, ?_⟩
    · rw [List.size_toArray, splice_length (by rw [List.length_map]; omega)]; omega
    · have hf : (ys.map fun z => [enc z]).flatten = ys.map enc := by
        clear hl
        induction ys with
        | nil => rfl
        | cons z zs ih => simp [ih]
      have := splice_window (l := cs.toList) (k := ys.map enc) (o := o) (a := 0) (by omega)
      rw [Nat.add_zero, Nat.zero_add, List.length_map] at this
      rw [hf]
      show _ = List.take _ (List.drop o (splice cs.toList o (ys.map enc)))
      rw [Nat.mul_one, this]; simp

end Go.Gx
end

section
/- Rows of structs that are sorted by a function. -/
namespace Go.Gx
open Go Go.Sort Go.Proofs
variable {P : Program} {K : Value → World → Prop} {w : World}

/-- draws, and new blocks: nothing else -/
def Gr (w w' : World) : Prop := ∃ q os, w' = grow (w.drewN q) os
theorem Gr.refl (w : World) : Gr w w := ⟨0, #[], by rw [grow_empty]; rfl⟩
theorem Gr.step_alloc {w w' : World} (h : Gr w w') (o : Obj) : Gr w (w'.alloc o) := by
  obtain ⟨q, os, rfl⟩ := h
  exact ⟨q, os ++ #[o], by rw [alloc_eq_grow, grow_grow]⟩
theorem Gr.step_drew {w w' : World} (h : Gr w w') : Gr w w'.drew := by
  obtain ⟨q, os, rfl⟩ := h
  exact ⟨q + 1, os, by rw [drew_grow]; rfl⟩
theorem Gr.trans {w w' w'' : World} (h : Gr w w') (h' : Gr w' w'') : Gr w w'' := by
  obtain ⟨q, os, rfl⟩ := h
  obtain ⟨q', os', rfl⟩ := h'
  refine ⟨q + q', os ++ os', ?_⟩
  show grow ((grow (w.drewN q) os).drewN q') os' = _
  rw [← grow_grow]
  have : (grow (w.drewN q) os).drewN q' = grow (w.drewN (q + q')) os := by
    unfold grow World.drewN
    simp [Nat.add_assoc]
  rw [this]
theorem Gr.heap {w w' : World} (h : Gr w w') {b : Nat} {o : Obj} (hb : w.heap[b]? = some o) : w'.heap[b]? = some o := by
  obtain ⟨q, os, rfl⟩ := h
  show (w.heap ++ os)[b]? = _
  rw [Array.getElem?_append_left (lt_of_heap hb)]
  exact hb
theorem Gr.fr {w w' : World} (h : Gr w w') : Fr none_ w w' := by
  obtain ⟨q, os, rfl⟩ := h
  refine ⟨?_, fun x hx hn => ?_, fun a ha => ?_, rfl, rfl, rfl⟩
  · show w.heap.size ≤ (w.heap ++ os).size
    rw [Array.size_append]; omega
  · show (w.heap ++ os)[x]? = _
    rw [Array.getElem?_append_left hx]
  · rw [frozen_eq, frozen_eq]
    show (match (w.heap ++ os)[a.block]? with | some (.cells _ _ fz) => (decide (fz.1 ≤ a.off) && decide (a.off < fz.2)) | _ => false) = _
    rw [Array.getElem?_append_left ha]
    rfl

theorem flatten_at {k : Nat} (hk0 : 0 < k) : ∀ {l : List (List Value)} (_ : ∀ x ∈ l, x.length = k) (t : Nat), l.flatten[t]? = (l[t / k]?).bind fun x => x[t % k]?
  | [], _, t => by simp
  | x :: l, h, t => by
    rw [List.flatten_cons]
    have hx := h x (List.mem_cons_self ..)
    by_cases ht : t < k
    · rw [List.getElem?_append_left (by omega), Nat.div_eq_of_lt ht, Nat.mod_eq_of_lt ht]
      rfl
    · rw [List.getElem?_append_right (by omega), hx, flatten_at hk0 (fun y hy => h y (List.mem_cons_of_mem _ hy)) (t - k)]
      have e1 : t / k = (t - k) / k + 1 := by
        have := Nat.add_div_right (t - k) hk0
        rw [Nat.sub_add_cancel (by omega)] at this
        omega
      have e2 : (t - k) % k = t % k := by
        have := Nat.add_mod_right (t - k) k
        rw [Nat.sub_add_cancel (by omega)] at this
        exact this.symm
      rw [e1, e2, List.getElem?_cons_succ]

theorem flatK_list {α : Type} [Inhabited α] {enc : α → List Value} {k : Nat} (hk0 : 0 < k) (hk : ∀ x, (enc x).length = k) (d : Array α) : (flatK enc k d).toList = (d.toList.map enc).flatten := by
  apply List.ext_getElem?
  intro t
  rw [flatten_at hk0 (fun x hx => by obtain ⟨y, _, rfl⟩ := List.mem_map.1 hx; exact hk y)]
  by_cases ht : t < d.size * k
  · have hs : t < (flatK enc k d).toList.length := by rw [Array.length_toList, size_flatK]; exact ht
    have hq : t / k < d.size := Nat.div_lt_of_lt_mul (by rw [Nat.mul_comm]; exact ht)
    have hr : t % k < k := Nat.mod_lt _ hk0
    rw [Array.getElem?_toList, List.getElem?_map, Array.getElem?_toList]
    have h1 := get_flatK enc k d t ht
    have hs' : t < (flatK enc k d).size := by rw [size_flatK]; exact ht
    rw [getElem!_pos _ t hs', getElem!_pos d (t / k) hq] at h1
    rw [Array.getElem?_eq_getElem hs', h1, Array.getElem?_eq_getElem hq]
    simp only [Option.map_some, Option.bind_some]
    rw [List.getElem?_eq_getElem (by rw [hk]; exact hr), getElem!_pos _ (t % k) (by rw [hk]; exact hr)]
  · have h1 : (flatK enc k d).toList[t]? = none := by rw [List.getElem?_eq_none]; rw [Array.length_toList, size_flatK]; omega
    have hq : d.size ≤ t / k := (Nat.le_div_iff_mul_le hk0).2 (by omega)
    rw [h1, List.getElem?_map, Array.getElem?_toList, Array.getElem?_eq_none hq]
    rfl

theorem ownK_holds {α : Type} [Inhabited α] {enc : α → List Value} {k : Nat} (hk0 : 0 < k) (hk : ∀ x, (enc x).length = k) {E b o c : Nat} {zs : List α} (h : OwnE E k w (.slice (some ⟨b, o, none⟩) zs.length c) (zs.map enc)) :
    HoldsK enc k w b o zs.toArray ∧ b < w.heap.size := by
  obtain ⟨h1, _⟩ := h
  rw [List.length_map] at h1
  rcases h1 with ⟨h1, _⟩ | ⟨b', o', c', cs, hv, hb, hc, ho, hl⟩
  · cases h1
  · simp only [Value.slice.injEq, Option.some.injEq, Addr.mk.injEq, and_true, true_and] at hv
    obtain ⟨⟨rfl, rfl⟩, rfl⟩ := hv
    have hle : zs.length * k ≤ c * k := Nat.mul_le_mul_right _ hc
    have hfl := flatK_list hk0 hk zs.toArray
    have hlen : zs.length * k = (flatK enc k zs.toArray).toList.length := by simp
    have := holds_row (enc := id) (o := o) (N := zs.length * k) (zs := (flatK enc k zs.toArray).toList) hb hlen (by omega) (by rw [List.map_id, hfl]; exact hl)
    rw [Array.toArray_toList] at this
    exact ⟨this, lt_of_heap hb⟩

theorem ownK_sorted {α : Type} [Inhabited α] {enc : α → List Value} {k : Nat} (hk0 : 0 < k) (hk : ∀ x, (enc x).length = k) {E b o c n : Nat} {os : Array Obj} {zs ys : List α} (h : OwnE E k w (.slice (some ⟨b, o, none⟩) zs.length c) (zs.map enc)) (hl : ys.length = zs.length) :
    OwnE E k (sortWorldK enc k w b o n ys.toArray os) (.slice (some ⟨b, o, none⟩) zs.length c) (ys.map enc) ∧ Fr (fun x => x = b) w (sortWorldK enc k w b o n ys.toArray os) := by
  refine ⟨?_, putRow_fr⟩
  obtain ⟨h1, _⟩ := h
  rw [List.length_map] at h1
  rcases h1 with ⟨h1, _⟩ | ⟨b', o', c', cs, hv, hb, hc, ho, _⟩
  · cases h1
  · simp only [Value.slice.injEq, Option.some.injEq, Addr.mk.injEq, and_true, true_and] at hv
    obtain ⟨⟨rfl, rfl⟩, rfl⟩ := hv
    have hcl : cs.toList.length = cs.size := Array.length_toList
    have hle : zs.length * k ≤ c * k := Nat.mul_le_mul_right _ hc
    have hfl := flatK_list hk0 hk ys.toArray
    have hlen : (flatK enc k ys.toArray).toList.length = zs.length * k := by rw [Array.length_toList, size_flatK, List.size_toArray, hl]
    refine ⟨?_, fun e he => by obtain ⟨y, _, rfl⟩ := List.mem_map.1 he; exact hk y⟩
    rw [List.length_map, hl]
    have hp := putRow_heap (enc := id) (o := o) (n := n) (os := os) (zs := (flatK enc k ys.toArray).toList) hb (by omega)
    rw [Array.toArray_toList, List.map_id] at hp
    refine .inr ⟨b, o, c, _, rfl, hp, hc, ?_, ?_⟩
    · rw [List.size_toArray, splice_length (by omega)]; omega
    · have := splice_window (l := cs.toList) (k := (flatK enc k ys.toArray).toList) (o := o) (a := 0) (by omega)
      rw [Nat.add_zero, Nat.zero_add, hlen] at this
      show _ = List.take _ (List.drop o (splice cs.toList o _))
      rw [this, hfl]; simp

/-- **slices.SortFunc, of structs** -/
theorem sortK_spec {ρ : Shelf.Ren} (L : SlLaysF0.n6 P ρ) {α : Type} [Inhabited α] {E k : Nat} {enc : α → List Value} (hk0 : 0 < k) (hk : ∀ x, (enc x).length = k) (h1 : ∀ x, ∀ v ∈ enc x, v.oneCell' = true)
    (aE : ∀ w, (isAgg (ρ.t 24)).run P w = .ok true w) (zE : ∀ w, (Go.sizeOf (ρ.t 24)).run P w = .ok k w) (cf : α → α → Int) (hO : SWO (ltOf cf)) (g : Nat) (cb : Array Value) (eg : ∀ args w, (callFunc g args).run P w = .ok (.enter g args) w)
    (hcmp : ∀ x y W, CallsR P g (#[.agg (enc x).toArray, .agg (enc y).toArray] ++ cb) (fun v w' => v = .int .i64 (cf x y) ∧ Gr W w') W)
    {v : Value} {zs : List α} (hv : OwnE E k w v (zs.map enc)) (hl : zs.length < 2 ^ 60)
    (h : ∀ (ys : List α) w', ys.Perm zs → ys.Pairwise (fun x y => ¬ cf y x < 0) → OwnE E k w' v (ys.map enc) → Fr (fun b => blkS v = some b) w w' → K (.tuple #[]) w') : CallsR P (ρ.f 6) #[v, .func (.func g) #[] cb] K w := by
  cases hb : blkS v with
  | none =>
    have he : v = .slice none 0 0 ∧ zs = [] := by
      obtain ⟨g1, _⟩ := hv
      rcases g1 with ⟨g1, g2, _⟩ | ⟨b, o, c, cs, g1, _⟩
      · exact ⟨g1, by rw [List.length_map] at g2; exact List.eq_nil_of_length_eq_zero g2⟩
      · rw [g1] at hb; cases hb
    obtain ⟨rfl, rfl⟩ := he
    refine Calls.mono (AnyF.slices_SortFunc_none L none 0 _ w) ?_
    rintro e w' ⟨rfl, rfl⟩
    exact ⟨_, rfl, h [] _ (List.Perm.refl _) List.Pairwise.nil hv (Fr.refl _ _)⟩
  | some b =>
    have he : ∃ o c, v = .slice (some ⟨b, o, none⟩) zs.length c := by
      obtain ⟨g1, _⟩ := hv
      rcases g1 with ⟨g1, g2, _⟩ | ⟨b', o, c, cs, g1, _⟩
      · rw [g1] at hb; cases hb
      · rw [g1] at hb; cases hb; rw [List.length_map] at g1; exact ⟨o, c, g1⟩
    obtain ⟨o, c, rfl⟩ := he
    obtain ⟨g1, g2⟩ := ownK_holds hk0 hk hv
    have hc : CmpLays P g cb enc k cf b o zs.toArray.size w := fun m os dk _ x y => Calls.mono (hcmp x y _) fun e w' ⟨v, he, hv, q, os', hg⟩ => ⟨by rw [he, hv], q, os', hg⟩
    refine Calls.mono (AnyQ.slices_SortFunc L k aE zE enc hk h1 cf hO g cb b o c zs.toArray w eg hc g1 g2 (by rw [List.size_toArray]; omega)) ?_
    rintro e w' ⟨rfl, d', n, os, ⟨hp1, _, hp2⟩, hs, rfl⟩
    have hsz : d'.size = zs.length := by rw [hp1, List.size_toArray]
    have e1 : (d'.extract 0 zs.toArray.size).toList = d'.toList := by
      rw [List.size_toArray, ← hsz]; simp
    have e2 : (zs.toArray.extract 0 zs.toArray.size).toList = zs := by simp
    rw [e1, e2] at hp2
    have hlen : d'.toList.length = zs.length := by rw [Array.length_toList, hsz]
    obtain ⟨o1, f1⟩ := ownK_sorted hk0 hk (n := n) (os := os) hv hlen
    rw [Array.toArray_toList] at o1 f1
    refine ⟨_, rfl, h d'.toList _ hp2 ?_ o1 (f1.mono fun x _ e => by rw [e]; rfl)⟩
    rw [List.pairwise_iff_getElem]
    intro i j hi hj hij
    have := hs i j (Nat.zero_le _) hij (by rw [List.size_toArray]; omega)
    unfold ltOf at this
    have hi' : i < d'.size := by omega
    have hj' : j < d'.size := by omega
    rw [getElem!_pos d' i hi', getElem!_pos d' j hj'] at this
    simpa using this

end Go.Gx
end

section
/- Rows of one cell an element that are sorted by a function that reads memory. -/
namespace Go.Gx
open Go Go.Sort Go.Proofs
variable {P : Program} {K : Value → World → Prop} {w : World}

/-- **slices.SortFunc, of elements of one cell; the function may read what lies elsewhere** -/
theorem sortP_spec {ρ : Shelf.Ren} (L : SlLaysF.n6 P ρ) {α : Type} [Inhabited α] {E : Nat} {enc : α → Value} (h1 : OneCell enc) (cf : α → α → Int) (hO : SWO (ltOf cf)) (g : Nat) (cb : Array Value) (eg : ∀ args w, (callFunc g args).run P w = .ok (.enter g args) w)
    {b o c : Nat} {zs : List α} (hcmp : ∀ x y W, Fr (fun q => q = b) w W → CallsR P g (#[enc x, enc y] ++ cb) (fun v w' => v = .int .i64 (cf x y) ∧ Gr W w') W)
    (hv : OwnE E 1 w (.slice (some ⟨b, o, none⟩) zs.length c) (zs.map fun z => [enc z])) (hl : zs.length < 2 ^ 60)
    (h : ∀ (ys : List α) w', ys.Perm zs → ys.Pairwise (fun x y => ¬ cf y x < 0) → OwnE E 1 w' (.slice (some ⟨b, o, none⟩) zs.length c) (ys.map fun z => [enc z]) → Fr (fun q => q = b) w w' → K (.tuple #[]) w') :
    CallsR P (ρ.f 6) #[.slice (some ⟨b, o, none⟩) zs.length c, .func (.func g) #[] cb] K w := by
  obtain ⟨g1, g2⟩ := own_holds (enc := enc) hv
  have hc : CmpLays1 P g cb enc cf b o zs.toArray.size w := fun m os dk _ x y => Calls.mono (hcmp x y _ putRow_fr) fun e w' ⟨v, he, hv, q, os', hg⟩ => ⟨by rw [he, hv], q, os', hg⟩
  refine Calls.mono (Any.slices_SortFunc L enc h1 cf hO g cb b o c zs.toArray w eg hc g1 g2 (by rw [List.size_toArray]; omega)) ?_
  rintro e w' ⟨rfl, d', n, os, ⟨hp1, _, hp2⟩, hs, rfl⟩
  have hsz : d'.size = zs.length := by rw [hp1, List.size_toArray]
  have e1 : (d'.extract 0 zs.toArray.size).toList = d'.toList := by
    rw [List.size_toArray, ← hsz]; simp
  have e2 : (zs.toArray.extract 0 zs.toArray.size).toList = zs := by simp
  rw [e1, e2] at hp2
  have hlen : d'.toList.length = zs.length := by rw [Array.length_toList, hsz]
  have o1 := own_sorted (enc := enc) (n := n) (os := os) (ys := d'.toList) hv hlen
  have f1 : Fr (fun q => q = b) w (sortWorld enc w b o n d' os) := putRow_fr
  rw [Array.toArray_toList, hlen] at o1
  refine ⟨_, rfl, h d'.toList _ hp2 ?_ o1 f1⟩
  rw [List.pairwise_iff_getElem]
  intro i j hi hj hij
  have := hs i j (Nat.zero_le _) hij (by rw [List.size_toArray]; omega)
  unfold ltOf at this
  have hi' : i < d'.size := by omega
  have hj' : j < d'.size := by omega
  rw [getElem!_pos d' i hi', getElem!_pos d' j hj'] at this
  simpa using this

end Go.Gx
end

section
/- A part of a slice is cleared; less of what one holds. -/
namespace Go.Gx
open Go
section
variable {P : Program} {K : Value → World → Prop} {w : World}

theorem OwnE.less {E sz b o c : Nat} {es : List (List Value)} (h : OwnE E sz w (.slice (some ⟨b, o, none⟩) es.length c) es) {m : Nat} (hm : m ≤ es.length) : OwnE E sz w (.slice (some ⟨b, o, none⟩) m c) (es.take m) := by
  obtain ⟨h1, h2⟩ := h
  have hlen : (es.take m).length = m := by rw [List.length_take]; omega
  refine ⟨?_, fun e he => h2 e (List.mem_of_mem_take he)⟩
  rcases h1 with ⟨h1, _⟩ | ⟨b', o', c', cs, hv, hb, hc, ho, hl⟩
  · cases h1
  · simp only [Value.slice.injEq, Option.some.injEq, Addr.mk.injEq, and_true, true_and] at hv
    obtain ⟨⟨rfl, rfl⟩, rfl⟩ := hv
    refine .inr ⟨b, o, c, cs, by rw [hlen], hb, by rw [hlen]; omega, ho, ?_⟩
    rw [hlen, ← flatten_take m h2, hl, List.take_take, Nat.min_eq_left (Nat.mul_le_mul_right _ hm)]

theorem splice_before {l k : List Value} {o a : Nat} (h : o + a ≤ l.length) : ((splice l (o + a) k).drop o).take a = (l.drop o).take a := by
  unfold splice
  have hlt : (l.take (o + a)).length = o + a := by rw [List.length_take]; omega
  rw [List.append_assoc, List.drop_append_of_le_length (by omega), List.take_append_of_le_length (by rw [List.length_drop]; omega), List.drop_take]
  have : o + a - o = a := by omega
  rw [this, List.take_take, Nat.min_self]

theorem s_slcClear {T E sz : Nat} {ag : Bool} {z : Value} {ty : TypeId} [hT : SlT P T E] [hs : Sz P E sz ag] [hz : ZV P E z] {b o c : Nat} {es : List (List Value)} {R : Value → World → Prop} (hzn : z.cells.size = sz) (hzo : z.cells.toList.all S.oneCell = true)
    (h : OwnE E sz w (.slice (some ⟨b, o, none⟩) es.length c) es) {i : Nat} (hi : i ≤ es.length) (hK : ∀ w', OwnE E sz w' (.slice (some ⟨b, o, none⟩) i c) (es.take i) → Fr (fun x => x = b) w w' → R (.tuple #[]) w') :
    opS P (S.slc T (.slice (some ⟨b, o, none⟩) es.length c) (some (.int .i64 i)) none none) (fun x => opS P (S.bi .clear #[T] ty [x]) R) w := by
  have hless := h.less hi
  obtain ⟨h1, h2⟩ := h
  rcases h1 with ⟨h1, _⟩ | ⟨b', o', c', cs, hv, hb, hc, ho, hl⟩
  · cases h1
  simp only [Value.slice.injEq, Option.some.injEq, Addr.mk.injEq, and_true, true_and] at hv
  obtain ⟨⟨rfl, rfl⟩, rfl⟩ := hv
  rw [opS_slice (run_boundsL (lo := (i : Int)) (by omega) (by omega)), Int.toNat_natCast]
  show opS P (do pure (Next.value (← Builtin.clear_ #[T] ty #[.slice _ (es.length - i) (c - i)]))) R w
  rw [opS_bind]
  unfold Builtin.clear_
  simp only [List.getElem?_toArray, List.getElem?_cons_zero]
  rw [Sem.run_bind, run_underlying_of hT.und, Result.andThen_ok]
  by_cases e : i = es.length
  · subst e
    have hF : R (.tuple #[]) w := hK w hless (Fr.refl _ _)
    have e0 : es.length - es.length = 0 := Nat.sub_self _
    rw [e0]
    generalize (if c = es.length then some (⟨b, o, none⟩ : Addr) else Option.map (fun x : Addr => x.add (es.length * sz)) (some ⟨b, o, none⟩)) = q
    cases q <;> exact hF
  · have hci : c ≠ i := by omega
    rw [if_neg hci]
    obtain ⟨k, hk⟩ : ∃ k, es.length - i = k + 1 := ⟨es.length - i - 1, by omega⟩
    rw [hk]
    simp only [Option.map_some, add_none]
    rw [Sem.run_bind, hz.zero w, Result.andThen_ok, run_zeroCells_ok, Sem.run_bind]
    have hzl : (zeros (k + 1) z.cells.toList).length = (k + 1) * sz := by rw [zeros_length]; congr 1
    have hzo' : (zeros (k + 1) z.cells.toList).all S.oneCell = true := by
      rw [List.all_eq_true] at hzo ⊢
      intro x hx
      unfold zeros at hx
      obtain ⟨y, hy, hx⟩ := List.mem_flatten.1 hx
      rw [List.eq_of_mem_replicate hy] at hx
      exact hzo x hx
    have hm1 : i * sz + (k + 1) * sz = es.length * sz := by rw [← Nat.add_mul]; congr 1; omega
    have hm2 : es.length * sz ≤ c * sz := Nat.mul_le_mul_right _ hc
    have hst := run_storeCells (P := P) (zeros (k + 1) z.cells.toList) w cs 0 (o + i * sz) hb hzo' (by rw [hzl]; omega) (fun j hj => by simp)
    simp only [Nat.add_zero] at hst
    rw [hst, Result.andThen_ok]
    have hlen : (es.take i).length = i := by rw [List.length_take]; omega
    have hsame : (upd w b (.cells (splice cs.toList (o + i * sz) (zeros (k + 1) z.cells.toList)).toArray E (0, 0))).heap[b]? = some (.cells (splice cs.toList (o + i * sz) (zeros (k + 1) z.cells.toList)).toArray E (0, 0)) := heap_upd_same (by rw [hb]; rfl)
    have hcl : cs.toList.length = cs.size := Array.length_toList
    refine hK _ ⟨.inr ⟨b, o, c, _, by rw [hlen], hsame, by rw [hlen]; omega, ?_, ?_⟩, fun e he => h2 e (List.mem_of_mem_take he)⟩ (Fr.upd hb _ _ rfl)
    · rw [List.size_toArray, splice_length (by rw [hzl]; omega)]; omega
    · rw [hlen]
      show _ = List.take _ (List.drop o (splice cs.toList (o + i * sz) _))
      rw [splice_before (by omega), ← flatten_take i h2, hl, List.take_take, Nat.min_eq_left (by omega)]

theorem opS_slcHo {T E sz : Nat} {ag : Bool} [hT : SlT P T E] [hs : Sz P E sz ag] {b o n c k : Nat} (hk : k ≤ c) : opS P (S.slc T (.slice (some ⟨b, o, none⟩) n c) none (some (.int .i64 k)) none) K w = K (.slice (some ⟨b, o, none⟩) k c) w := by
  rw [opS_slice (run_boundsH (hi := (k : Int)) (by omega) (by omega)), Int.toNat_natCast]
  have e : (if c = 0 then some (⟨b, o, none⟩ : Addr) else Option.map (fun x : Addr => x.add (0 * sz)) (some ⟨b, o, none⟩)) = some ⟨b, o, none⟩ := by
    split
    · rfl
    · show some (Addr.add _ _) = _
      rw [add_none, Nat.zero_mul, Nat.add_zero]
  rw [e]
  rfl
theorem OwnE.form' {E sz : Nat} {v : Value} {es : List (List Value)} (h : OwnE E sz w v es) (hn : 0 < es.length) : ∃ b o c, v = .slice (some ⟨b, o, none⟩) es.length c := by
  rcases h.1 with ⟨_, h1, _⟩ | ⟨b, o, c, cs, h1, _⟩
  · omega
  · exact ⟨b, o, c, h1⟩
end
end Go.Gx
end

section
/- Lists that rise. -/
namespace Go.Gx
open Go

theorem eq_of_rising {α : Type} {r : α → α → Prop} (hirr : ∀ a, ¬ r a a) (has : ∀ a b, r a b → ¬ r b a) : ∀ {l k : List α}, l.Pairwise r → k.Pairwise r → (∀ x, x ∈ l ↔ x ∈ k) → l = k
  | [], [], _, _, _ => rfl
  | [], b :: k, _, _, h => absurd ((h b).2 (List.mem_cons_self ..)) (by simp)
  | a :: l, [], _, _, h => absurd ((h a).1 (List.mem_cons_self ..)) (by simp)
  | a :: l, b :: k, h1, h2, h => by
    rw [List.pairwise_cons] at h1 h2
    have hab : a = b := by
      rcases List.mem_cons.1 ((h a).1 (List.mem_cons_self ..)) with e | e
      · exact e
      · rcases List.mem_cons.1 ((h b).2 (List.mem_cons_self ..)) with e2 | e2
        · exact e2.symm
        · exact absurd (h1.1 b e2) (has _ _ (h2.1 a e))
    subst hab
    congr 1
    refine eq_of_rising hirr has h1.2 h2.2 fun x => ⟨fun hx => ?_, fun hx => ?_⟩
    · rcases List.mem_cons.1 ((h x).1 (List.mem_cons_of_mem _ hx)) with e | e
      · subst e; exact absurd (h1.1 x hx) (hirr x)
      · exact e
    · rcases List.mem_cons.1 ((h x).2 (List.mem_cons_of_mem _ hx)) with e | e
      · subst e; exact absurd (h2.1 x hx) (hirr x)
      · exact e

theorem sorted_get {d : List Int} (h : d.Pairwise (· ≤ ·)) {i j : Nat} (hij : i ≤ j) (hj : j < d.length) : d.toArray[i]! ≤ d.toArray[j]! := by
  have hi : i < d.length := by omega
  have e1 : d.toArray[i]! = d[i] := by simp [hi]
  have e2 : d.toArray[j]! = d[j] := by simp [hj]
  rw [e1, e2]
  rcases Nat.eq_or_lt_of_le hij with e | e
  · subst e; exact Int.le_refl _
  · exact List.pairwise_iff_getElem.1 h i j hi hj e

theorem compact_rise {d : List Int} (h : d.Pairwise (· ≤ ·)) : (Lib.compact d).Pairwise (· < ·) := by
  unfold Lib.compact Lib.compactUpTo
  rw [List.pairwise_map]
  have h1 : ((List.range d.length).filter (Lib.keeps d.toArray)).Pairwise (· < ·) := List.pairwise_lt_range.filter _
  refine List.Pairwise.imp_of_mem ?_ h1
  intro a b ha hb hab
  rw [List.mem_filter, List.mem_range] at ha hb
  have hk := hb.2
  simp only [Lib.keeps, decide_eq_true_eq] at hk
  have hne := hk.resolve_left (by omega)
  have g1 := sorted_get h (show a ≤ b - 1 by omega) (by omega)
  have g2 := sorted_get h (show b - 1 ≤ b by omega) hb.1
  omega

theorem compact_mem {d : List Int} {x : Int} : x ∈ Lib.compact d ↔ x ∈ d := by
  unfold Lib.compact Lib.compactUpTo
  rw [List.mem_map]
  constructor
  · rintro ⟨i, hi, rfl⟩
    rw [List.mem_filter, List.mem_range] at hi
    have : d.toArray[i]! = d[i]'hi.1 := by simp [hi.1]
    rw [this]
    exact List.getElem_mem _
  · intro hx
    obtain ⟨i, hi, rfl⟩ := List.getElem_of_mem hx
    have key : ∀ n (hn : n < d.length), ∃ j, j ∈ (List.range d.length).filter (Lib.keeps d.toArray) ∧ d.toArray[j]! = d[n] := by
      intro n
      induction n with
      | zero =>
        intro hn
        refine ⟨0, ?_, by simp [hn]⟩
        rw [List.mem_filter, List.mem_range]
        exact ⟨hn, by simp [Lib.keeps]⟩
      | succ n ih =>
        intro hn
        have e1 : d.toArray[n + 1]! = d[n + 1] := by simp [hn]
        have e0 : d.toArray[n]! = d[n] := by simp [Nat.lt_of_succ_lt hn]
        by_cases e : d[n + 1] = d[n]
        · obtain ⟨j, hj, hje⟩ := ih (by omega)
          exact ⟨j, hj, by rw [hje, e]⟩
        · refine ⟨n + 1, ?_, e1⟩
          rw [List.mem_filter, List.mem_range]
          refine ⟨hn, ?_⟩
          simp only [Lib.keeps, decide_eq_true_eq, Nat.add_sub_cancel]
          right
          rw [e1, e0]
          exact e
    exact key i hi

theorem sorted_ints (d : List Int) : (d.mergeSort fun x y => decide (x ≤ y)).Pairwise (· ≤ ·) := by
  have := List.pairwise_mergeSort (le := fun x y : Int => decide (x ≤ y)) (by intro a b c h1 h2; simp at *; omega) (by intro a b; simp; omega) d
  exact this.imp fun h => by simpa using h

/-- sorted, and each kept once -/
theorem uniq_eq {d k : List Int} (hk : k.Pairwise (· < ·)) (h : ∀ x, x ∈ d ↔ x ∈ k) : Lib.compact (d.mergeSort fun x y => decide (x ≤ y)) = k := by
  refine eq_of_rising (r := (· < ·)) (fun a => by omega) (fun a b h => by omega) (compact_rise (sorted_ints d)) hk fun x => ?_
  rw [compact_mem, List.mem_mergeSort]
  exact h x

end Go.Gx
end

section
/- A new group: what it is of; the least number; rows of links that are sorted, and of which each is kept once. -/
set_option linter.unusedVariables false
set_option linter.unusedSimpArgs false
set_option maxRecDepth 100000
namespace Go.Gx.S
open Go Go.Gx Go.Proofs Go.Sort
variable {K : Value → World → Prop} {w : World} {g : Nat} {bs : List B3} {pv fv : Value} {s : Grp}

/-! ### Plain -/

def newLk (sys : Idn) (key port : Int) : Lk := ⟨newEnd ⟨sys.prio, sys.mac, key, 128, port, 7⟩, ⟨0, 0⟩, port, false, false, -1⟩
def srtI (l : List Int) : List Int := l.mergeSort fun x y => decide (x ≤ y)
def newG (sys : Idn) (key : Int) (ports : List Int) (most : Int) : Grp := ⟨(srtI ports).map (newLk sys key), most⟩
def argOk (sys : Idn) (key : Int) (ports : List Int) (most : Int) : Prop :=
  1 ≤ ports.length ∧ ports.length ≤ 32 ∧ 1 ≤ most ∧ most ≤ 32 ∧ (∀ p ∈ ports, 1 ≤ p) ∧ ∀ p ∈ ports, (Inf.mk sys.prio sys.mac key 128 p 7).right
/-- the number that New tells -/
noncomputable def newE (sys : Idn) (key : Int) (ports : List Int) (most : Int) : Int := by
  classical exact if argOk sys key ports most then (if ports.Nodup then 0 else 5) else 1
theorem newE_1 {sys : Idn} {key most : Int} {ports : List Int} (h : ¬ argOk sys key ports most) : newE sys key ports most = 1 := by unfold newE; rw [if_neg h]
theorem newE_5 {sys : Idn} {key most : Int} {ports : List Int} (h : argOk sys key ports most) (hn : ¬ ports.Nodup) : newE sys key ports most = 5 := by unfold newE; rw [if_pos h, if_neg hn]
theorem newE_0 {sys : Idn} {key most : Int} {ports : List Int} (h : argOk sys key ports most) (hn : ports.Nodup) : newE sys key ports most = 0 := by unfold newE; rw [if_pos h, if_pos hn]

theorem srt_sorted (l : List Int) : (srtI l).Pairwise (· ≤ ·) := sorted_ints l
theorem srt_perm (l : List Int) : (srtI l).Perm l := List.mergeSort_perm l _
theorem srt_eq {l k : List Int} (hp : k.Perm l) (hs : k.Pairwise (· ≤ ·)) : k = srtI l :=
  (hp.trans (srt_perm l).symm).eq_of_pairwise (fun a b _ _ h1 h2 => Int.le_antisymm h1 h2) hs (srt_sorted l)

/-! ### Links with their blocks -/

def disj (p q : B3 × Lk) : Prop := ∀ y, p.1.fp y → ¬ q.1.fp y
structure ZS (r : Bool) (TB TE TM : TypeId) (w : World) (ls : List (B3 × Lk)) : Prop where
  lk : ∀ p ∈ ls, LkM r TB TE TM w p.1 p.2
  dj : ls.Pairwise disj
theorem disj.symm {p q : B3 × Lk} (h : disj p q) : disj q p := fun y h1 h2 => h y h2 h1
section
variable {r : Bool} {T TB TE TM : TypeId} {ls : List (B3 × Lk)}
theorem ZS.fr {fp : Nat → Prop} {w' : World} (h : ZS r TB TE TM w ls) (hF : Fr fp w w') (hn : ∀ p ∈ ls, ∀ y, p.1.fp y → ¬ fp y) : ZS r TB TE TM w' ls := ⟨fun p hp => (h.lk p hp).fr hF (hn p hp), h.dj⟩
theorem ZS.fr0 {w' : World} (h : ZS r TB TE TM w ls) (hF : Fr none_ w w') : ZS r TB TE TM w' ls := h.fr hF fun _ _ _ _ h => h
theorem ZS.perm {ls' : List (B3 × Lk)} (h : ZS r TB TE TM w ls) (hp : ls'.Perm ls) : ZS r TB TE TM w ls' := ⟨fun p hm => h.lk p (hp.mem_iff.1 hm), (List.Perm.pairwise_iff (fun h => h.symm) hp).2 h.dj⟩
theorem ZS.snoc (h : ZS r TB TE TM w ls) {t : B3} {x : Lk} (hl : LkM r TB TE TM w t x) (hd : ∀ p ∈ ls, ∀ y, p.1.fp y → ¬ t.fp y) : ZS r TB TE TM w (ls ++ [(t, x)]) := by
  refine ⟨fun p hp => ?_, ?_⟩
  · rcases List.mem_append.1 hp with hp | hp
    · exact h.lk p hp
    · rw [List.mem_singleton.1 hp]; exact hl
  · rw [List.pairwise_append]
    refine ⟨h.dj, by simp, fun p hp q hq => ?_⟩
    rw [List.mem_singleton.1 hq]
    exact hd p hp
/-- they are a group -/
theorem ZS.gs (h : ZS r TB TE TM w ls) {most : Int} (hm : w.heap[g]? = some (cellsO [pv, i64 most] T)) (hp : RdE 1 w pv (ls.map fun p => [pt p.1.b 0])) (hg : ∀ p ∈ ls, ¬ p.1.fp g) (hn : ∀ b, blkS pv = some b → b ≠ g ∧ ∀ p ∈ ls, ¬ p.1.fp b) :
    GS r T TB TE TM w g (ls.map (·.1)) pv ⟨ls.map (·.2), most⟩ := by
  refine ⟨hm, by rw [List.map_map]; exact hp, by rw [List.length_map]; exact (List.length_map ..).symm, fun i t x ht hx => ?_, fun i j t u ht hu hij y hy hy2 => ?_, fun t ht => ?_, fun b hb => ⟨(hn b hb).1, fun t ht => ?_⟩⟩
  · have hx : (ls.map (·.2))[i]? = some x := hx
    rw [List.getElem?_map] at ht hx
    cases e : ls[i]? with
    | none => rw [e] at ht; cases ht
    | some p =>
      rw [e] at ht hx
      simp only [Option.map_some, Option.some.injEq] at ht hx
      rw [← ht, ← hx]
      exact h.lk p (List.mem_of_getElem? e)
  · rw [List.getElem?_map] at ht hu
    cases e : ls[i]? with
    | none => rw [e] at ht; cases ht
    | some p =>
      cases e2 : ls[j]? with
      | none => rw [e2] at hu; cases hu
      | some q =>
        rw [e] at ht; rw [e2] at hu
        simp only [Option.map_some, Option.some.injEq] at ht hu
        rw [← ht] at hy
        rw [← hu] at hy2
        obtain ⟨hi, rfl⟩ := List.getElem?_eq_some_iff.1 e
        obtain ⟨hj, rfl⟩ := List.getElem?_eq_some_iff.1 e2
        have hd := List.pairwise_iff_getElem.1 h.dj
        rcases Nat.lt_or_gt_of_ne hij with h1 | h1
        · exact hd i j hi hj h1 y hy hy2
        · exact hd j i hj hi h1 y hy2 hy
  · obtain ⟨p, hp, rfl⟩ := List.mem_map.1 ht
    exact hg p hp
  · obtain ⟨p, hp, rfl⟩ := List.mem_map.1 ht
    exact (hn b hb).2 p hp
end

/-! ### The least number -/

theorem minI_spec {v : Value} {l : List Int} (hv : RdE 1 w v (l.map cellI)) (h0 : 1 ≤ l.length) (hl : l.length ≤ 32) (hk : ∀ m, m ∈ l → (∀ x ∈ l, m ≤ x) → K (i64 m) w) : CallsR Try.prog 44 #[v] K w := by
  apply c44
  unfold p44
  have elen : ∀ (R : Value → World → Prop) W, opS Try.prog (S.len v) R W = R (i64 l.length) W := fun R W => by
    obtain ⟨a, c, e⟩ := hv.form
    rw [e, List.length_map]; rfl
  refine jn0 (fun W => W = w) ?_ fun j hj => ?_
  case refine_2 =>
    rw [elen]
    simp only [push_cast, Nat.reduceAdd, Nat.reduceLeDiff, Nat.reduceLT, Int.reduceToNat, Nat.left_eq_add, Nat.add_eq_left, Nat.add_left_cancel_iff, Nat.reduceEqDiff, Nat.add_assoc, Nat.succ_ne_zero]
    exact br_no (by omega) (hj _ rfl)
  rintro W rfl
  refine s_iaE (es := l.map cellI) hv (by decide) (by simp only [Int.toNat_zero, List.length_map]; omega) fun b1 o1 c1 _ hE => ?_
  simp only [Int.toNat_zero, List.getElem_map] at hE ⊢
  have hE0 := hE.cell0 (by show 0 < 1; decide)
  simp only [Nat.zero_mul, Nat.add_zero] at hE0
  simp only [push_cast, Nat.reduceAdd, Nat.reduceLeDiff, Nat.reduceLT, Int.reduceToNat, Nat.left_eq_add, Nat.add_eq_left, Nat.add_left_cancel_iff, Nat.reduceEqDiff, Nat.add_assoc, Nat.succ_ne_zero, hE0, cellI, Int.reduceToNat, Nat.zero_mul, List.getElem?_cons_zero]
  refine jn1 (fun u W' => W' = W ∧ ∃ m, u = i64 m ∧ m ∈ l ∧ ∀ x ∈ l, m ≤ x) (fun u W' ⟨e, m, e2, h1, h2⟩ => by rw [e, e2]; exact hk m h1 h2) fun j1 hj1 => ?_
  refine loop2 (fun n u v' W' => ∃ (i : Nat) (m : Int), u = i64 m ∧ v' = i64 i ∧ i + n = l.length ∧ W' = W ∧ m ∈ l ∧ ∀ x ∈ l.take i, m ≤ x) ?_ (l.length - 1) ⟨1, l[0], rfl, rfl, by omega, rfl, List.getElem_mem _, fun x hx => ?_⟩
  · rintro n u v' W' X ⟨i, m, rfl, rfl, hi, rfl, hm, ho⟩ hX
    rw [elen]
    simp only [push_cast, Nat.reduceAdd, Nat.reduceLeDiff, Nat.reduceLT, Int.reduceToNat, Nat.left_eq_add, Nat.add_eq_left, Nat.add_left_cancel_iff, Nat.reduceEqDiff, Nat.add_assoc, Nat.succ_ne_zero]
    refine br_dec (fun hlt => ?_) fun hge => ?_
    · have hil : i < l.length := by omega
      refine s_iaE (es := l.map cellI) hv (by omega) (by simpa using hil) fun b1 o1 c1 _ hE => ?_
      simp only [Int.toNat_natCast, List.getElem_map] at hE ⊢
      have hE0 := hE.cell0 (by show 0 < 1; decide)
      have hwk : IntKind.i64.wrap ((i : Int) + 1) = ((i + 1 : Nat) : Int) := by rw [wrap_i64 (by omega)]; rfl
      simp only [push_cast, Nat.reduceAdd, Nat.reduceLeDiff, Nat.reduceLT, Int.reduceToNat, Nat.left_eq_add, Nat.add_eq_left, Nat.add_left_cancel_iff, Nat.reduceEqDiff, Nat.add_assoc, Nat.succ_ne_zero, hE0, cellI, List.getElem?_cons_zero, hwk]
      refine hX (n - 1) _ _ _ (by omega) ⟨i + 1, _, rfl, rfl, by omega, rfl, ?_, take_all hil (fun x hx => ?_) ?_⟩
      · split
        · exact hm
        · exact List.getElem_mem hil
      · have := ho x hx
        split <;> omega
      · split <;> omega
    · rw [List.take_of_length_le (by omega)] at ho
      exact hj1 _ _ ⟨rfl, m, rfl, hm, ho⟩
  · rw [take_snoc (by omega)] at hx
    simp at hx
    rw [hx]; exact Int.le_refl _

/-! ### Sorting -/

theorem isnan_specA {a : Int} (h : K (.bool false) w) : CallsR Try.prog 71 #[i64 a] K w := by
  apply c71
  unfold p71
  simp only [push_cast, Nat.reduceAdd, Nat.reduceLeDiff, Nat.reduceLT, Int.reduceToNat, Nat.left_eq_add, Nat.add_eq_left, Nat.add_left_cancel_iff, Nat.reduceEqDiff, Nat.add_assoc, Nat.succ_ne_zero, bne_self_eq_false]
  exact h
def cmpPt (a b : Int) : Int := if a < b then -1 else if b < a then 1 else 0
theorem ccmp_specA {a b : Int} (h : K (i64 (cmpPt a b)) w) : CallsR Try.prog 30 #[i64 a, i64 b] K w := by
  apply c30
  unfold p30
  simp only [push_cast, Nat.reduceAdd, Nat.reduceLeDiff, Nat.reduceLT, Int.reduceToNat, Nat.left_eq_add, Nat.add_eq_left, Nat.add_left_cancel_iff, Nat.reduceEqDiff, Nat.add_assoc, Nat.succ_ne_zero]
  refine isnan_specA ?_
  simp only [push_cast, Nat.reduceAdd, Nat.reduceLeDiff, Nat.reduceLT, Int.reduceToNat, Nat.left_eq_add, Nat.add_eq_left, Nat.add_left_cancel_iff, Nat.reduceEqDiff, Nat.add_assoc, Nat.succ_ne_zero]
  refine isnan_specA ?_
  simp only [push_cast, Nat.reduceAdd, Nat.reduceLeDiff, Nat.reduceLT, Int.reduceToNat, Nat.left_eq_add, Nat.add_eq_left, Nat.add_left_cancel_iff, Nat.reduceEqDiff, Nat.add_assoc, Nat.succ_ne_zero]
  unfold cmpPt at h
  refine br_dec (fun h1 => ?_) fun h1 => ?_
  · rw [if_pos h1] at h; exact h
  · rw [if_neg h1] at h
    refine br_dec (fun h2 => ?_) fun h2 => ?_
    · rw [if_pos (show b < a from h2)] at h; exact h
    · rw [if_neg (show ¬ b < a from h2)] at h; exact h

section
variable {t u : B3} {x y : Lk}
theorem new1_spec (h1 : CLk w t x) (h2 : CLk w u y) (hk : ∀ w', Gr w w' → K (i64 (cmpPt x.port y.port)) w') : CallsR Try.prog 48 #[pt t.b 0, pt u.b 0] K w := by
  apply c48
  unfold p48
  simp only [push_cast, Nat.reduceAdd, Nat.reduceLeDiff, Nat.reduceLT, Int.reduceToNat, Nat.left_eq_add, Nat.add_eq_left, Nat.add_left_cancel_iff, Nat.reduceEqDiff, Nat.add_assoc, Nat.succ_ne_zero, h1.b, h2.b]
  exact ccmp_specA (hk _ ((Gr.refl w).step_drew))
theorem new2_spec (h1 : CLk w t x) (h2 : CLk w u y) (hk : K (.bool (decide (x.port = y.port))) w.drew) : CallsR Try.prog 49 #[pt t.b 0, pt u.b 0] K w := by
  apply c49
  unfold p49
  simp only [push_cast, Nat.reduceAdd, Nat.reduceLeDiff, Nat.reduceLT, Int.reduceToNat, Nat.left_eq_add, Nat.add_eq_left, Nat.add_left_cancel_iff, Nat.reduceEqDiff, Nat.add_assoc, Nat.succ_ne_zero, h1.b, h2.b]
  exact hk
end

theorem cmpPt_lt {a b : Int} : cmpPt a b < 0 ↔ a < b := by
  unfold cmpPt
  by_cases h : a < b
  · rw [if_pos h]; omega
  · rw [if_neg h]
    split <;> omega

/-- links at a world, apart from a block -/
abbrev OkL (w : World) (b : Nat) := { p : B3 × Lk // CLk w p.1 p.2 ∧ ¬ p.1.fp b }

theorem sortL_spec {ls : List (B3 × Lk)} {b o c : Nat} (hz : ∀ p ∈ ls, CLk w p.1 p.2 ∧ ¬ p.1.fp b) (h0 : 0 < ls.length) (hl : ls.length ≤ 32)
    (hv : OwnE 108 1 w (.slice (some ⟨b, o, none⟩) ls.length c) (ls.map fun p => [pt p.1.b 0]))
    (hk : ∀ (ls' : List (B3 × Lk)) w', ls'.Perm ls → (ls'.map (·.2.port)).Pairwise (· ≤ ·) → OwnE 108 1 w' (.slice (some ⟨b, o, none⟩) ls.length c) (ls'.map fun p => [pt p.1.b 0]) → Fr (fun q => q = b) w w' → K (.tuple #[]) w') :
    CallsR Try.prog 47 #[.slice (some ⟨b, o, none⟩) ls.length c, .func (.func 48) #[] #[]] K w := by
  obtain ⟨zs, hzs⟩ : ∃ zs : List (OkL w b), zs.map Subtype.val = ls := by
    clear hv hk h0 hl
    induction ls with
    | nil => exact ⟨[], rfl⟩
    | cons p l ih =>
      obtain ⟨zs, e⟩ := ih fun q hq => hz q (List.mem_cons_of_mem _ hq)
      exact ⟨⟨p, hz p (List.mem_cons_self ..)⟩ :: zs, by rw [List.map_cons, e]⟩
  subst hzs
  rw [List.length_map] at h0 hl hv hk ⊢
  haveI : Inhabited (OkL w b) := ⟨zs[0]⟩
  have hv' : OwnE 108 1 w (.slice (some ⟨b, o, none⟩) zs.length c) (zs.map fun z : OkL w b => [pt z.1.1.b 0]) := by rw [List.map_map] at hv; exact hv
  have hO : SWO (ltOf fun x y : OkL w b => cmpPt x.1.2.port y.1.2.port) := by
    have e : ∀ x y : OkL w b, ltOf (fun x y : OkL w b => cmpPt x.1.2.port y.1.2.port) x y = decide (x.1.2.port < y.1.2.port) := fun x y => by
      unfold ltOf
      rw [decide_eq_decide, cmpPt_lt]
    refine ⟨fun x => ?_, fun x y z h1 h2 => ?_, fun x y z h1 h2 => ?_⟩
    · rw [e]; exact decide_eq_false (by omega)
    · rw [e, decide_eq_true_iff] at *; omega
    · rw [e, decide_eq_false_iff_not] at *; omega
  refine sortP_spec (α := OkL w b) (enc := fun z => pt z.1.1.b 0) Try.sortL (fun z => rfl) (fun x y => cmpPt x.1.2.port y.1.2.port) hO 48 #[] (fun args w => enters_of Try.func48 (by kernel_rfl) rfl args w) (fun x y W hF => ?_) hv' (by omega) fun ys w' hp hs ho hF => ?_
  · exact new1_spec (x.2.1.fr hF fun q hq e => x.2.2 (e ▸ hq)) (y.2.1.fr hF fun q hq e => y.2.2 (e ▸ hq)) fun w' hG => ⟨rfl, hG⟩
  · refine hk (ys.map Subtype.val) w' (hp.map _) ?_ (by rw [List.map_map]; exact ho) hF
    rw [List.map_map, List.pairwise_map]
    refine hs.imp fun {a b} hab => ?_
    rw [cmpPt_lt] at hab
    show a.1.2.port ≤ b.1.2.port
    omega

/-! ### Each once -/

theorem clone_spec {v : Value} {es : List (List Value)} (hv : OwnE 108 1 w v es) (h0 : 0 < es.length) (hl : es.length ≤ 32) (h1 : es.flatten.all S.oneCell = true)
    (hk : ∀ b o c w', OwnE 108 1 w' (.slice (some ⟨b, o, none⟩) es.length c) es → w.heap.size ≤ b → Fr none_ w w' → K (.slice (some ⟨b, o, none⟩) es.length c) w') : CallsR Try.prog 51 #[v] K w := by
  apply c51
  unfold p51
  obtain ⟨b, o, c, rfl⟩ := hv.form' h0
  have hnil : S.isNilS (.slice (some ⟨b, o, none⟩) es.length c) = some false := rfl
  rw [hnil]
  simp only [push_cast, Nat.reduceAdd, Nat.reduceLeDiff, Nat.reduceLT, Int.reduceToNat, Nat.left_eq_add, Nat.add_eq_left, Nat.add_left_cancel_iff, Nat.reduceEqDiff, Nat.add_assoc, Nat.succ_ne_zero]
  refine s_bs0 (E := 108) (sz := 1) fun v1 w1 h1' hF1 hN1 => ?_
  refine s_app (sz := 1) (by_ := 8) (z := .pointer none) rfl (by decide) h1' (hv.rd.fr hF1 fun _ _ h => h) h1 (by simp only [List.length_nil]; omega) fun v2 w2 h2 hb2 hF2 => ?_
  rw [List.nil_append] at h2
  obtain ⟨b2, o2, c2, rfl⟩ := h2.form' h0
  refine hk b2 o2 c2 w2 h2 ?_ ((hF1.trans_new hF2 fun y hy e => by have := hN1 y e; omega))
  rcases hb2 with e | e
  · have := hN1 b2 (by rw [← e]; rfl)
    exact this
  · have := e b2 rfl
    have := hF1.size
    omega

/-- whether some neighbours are of one port -/
def nb (l : List Int) (i : Nat) : Prop := ∃ j, j + 1 < i ∧ l[j]? = l[j + 1]?
theorem nodup_of_nb {l : List Int} (hs : l.Pairwise (· ≤ ·)) (h : ∀ j, j + 1 < l.length → l[j]? ≠ l[j + 1]?) : l.Nodup := by
  have : l.Pairwise (· < ·) := by
    rw [List.pairwise_iff_getElem] at hs ⊢
    intro i j hi hj hij
    have h1 := h i (by omega)
    rw [List.getElem?_eq_getElem hi, List.getElem?_eq_getElem (by omega)] at h1
    have h1 : l[i] ≠ l[i + 1] := fun e => h1 (by rw [e])
    have h2 := hs i (i + 1) hi (by omega) (by omega)
    by_cases e : i + 1 = j
    · subst e; omega
    · have h3 := hs (i + 1) j (by omega) hj (by omega)
      omega
  exact this.imp fun {a b} h => by omega
theorem not_nodup_of {l : List Int} {j : Nat} (hj : j + 1 < l.length) (h : l[j]? = l[j + 1]?) : ¬ l.Nodup := fun hn => by
  rw [List.getElem?_eq_getElem hj, List.getElem?_eq_getElem (by omega)] at h
  have h1 := List.pairwise_iff_getElem.1 hn j (j + 1) (by omega) hj (by omega)
  exact h1 (Option.some.inj h)

theorem compact_spec {ls : List (B3 × Lk)} {b o c : Nat} (hz : ∀ p ∈ ls, CLk w p.1 p.2 ∧ ¬ p.1.fp b) (h0 : 0 < ls.length) (hl : ls.length ≤ 32) (hs : (ls.map (·.2.port)).Pairwise (· ≤ ·))
    (hv : OwnE 108 1 w (.slice (some ⟨b, o, none⟩) ls.length c) (ls.map fun p => [pt p.1.b 0]))
    (hk : ∀ a n c w', (n < ls.length ↔ ¬ (ls.map (·.2.port)).Nodup) → n ≤ ls.length → Fr (fun q => q = b) w w' → K (.slice a n c) w') :
    CallsR Try.prog 50 #[.slice (some ⟨b, o, none⟩) ls.length c, .func (.func 49) #[] #[]] K w := by
  apply c50
  unfold p50
  have hml : (ls.map (·.2.port)).length = ls.length := List.length_map ..
  have hpo : ∀ i (hi : i < ls.length), (ls.map (·.2.port))[i]? = some ls[i].2.port := fun i hi => by rw [List.getElem?_map, List.getElem?_eq_getElem hi]; rfl
  have hone : ls.length < 2 → (ls.map (·.2.port)).Nodup := fun h2 => nodup_of_nb hs fun j hj => by omega
  simp only [push_cast, Nat.reduceAdd, Nat.reduceLeDiff, Nat.reduceLT, Int.reduceToNat, Nat.left_eq_add, Nat.add_eq_left, Nat.add_left_cancel_iff, Nat.reduceEqDiff, Nat.add_assoc, Nat.succ_ne_zero]
  refine br_dec (fun e => ?_) fun e => ?_
  · exact hk _ _ _ w ⟨fun h => by omega, fun h => absurd (hone (by omega)) h⟩ (Nat.le_refl _) (Fr.refl _ _)
  refine jn0 (fun W => Fr none_ w W ∧ (ls.map (·.2.port)).Nodup) (fun W ⟨hF, hn⟩ => hk _ _ _ W ⟨fun h => by omega, fun h => absurd hn h⟩ (Nat.le_refl _) (frN hF)) fun j hj => ?_
  refine loop1 (fun n u W => ∃ i : Nat, u = i64 i ∧ 1 ≤ i ∧ i + n = ls.length ∧ Fr none_ w W ∧ ∀ q, q + 1 < i → (ls.map (·.2.port))[q]? ≠ (ls.map (·.2.port))[q + 1]?) ?_ (ls.length - 1) ⟨1, rfl, by omega, by omega, Fr.refl _ _, fun q hq => by omega⟩
  rintro n u W X ⟨i, rfl, hi1, hi, hF, ho⟩ hX
  simp only [push_cast, Nat.reduceAdd, Nat.reduceLeDiff, Nat.reduceLT, Int.reduceToNat, Nat.left_eq_add, Nat.add_eq_left, Nat.add_left_cancel_iff, Nat.reduceEqDiff, Nat.add_assoc, Nat.succ_ne_zero]
  refine br_dec (fun hlt => ?_) fun hge => hj _ ⟨hF, nodup_of_nb hs fun q hq => ho q (by omega)⟩
  have hil : i < ls.length := by omega
  have hwk : IntKind.i64.wrap ((i : Int) + 1) = ((i + 1 : Nat) : Int) := by rw [wrap_i64 (by omega)]; rfl
  have hwd : IntKind.i64.wrap ((i : Int) - 1) = ((i - 1 : Nat) : Int) := by rw [wrap_i64 (by omega)]; omega
  refine jn1 (fun v' W' => v' = i64 i ∧ Fr none_ w W' ∧ ls[i].2.port ≠ ls[i - 1].2.port) ?_ fun j2 hj2 => ?_
  · rintro v' W' ⟨rfl, hF', hne⟩
    simp only [push_cast, Nat.reduceAdd, Nat.reduceLeDiff, Nat.reduceLT, Int.reduceToNat, Nat.left_eq_add, Nat.add_eq_left, Nat.add_left_cancel_iff, Nat.reduceEqDiff, Nat.add_assoc, Nat.succ_ne_zero, hwk]
    refine hX (n - 1) _ _ (by omega) ⟨i + 1, rfl, by omega, by omega, hF', fun q hq => ?_⟩
    by_cases e : q + 1 = i
    · have e2 : q = i - 1 := by omega
      subst e2
      rw [hpo _ (by omega), show i - 1 + 1 = i by omega, hpo _ hil]
      exact fun h => hne (Option.some.inj h).symm
    · exact ho q (by omega)
  have hFd := hF.trans (Fr.drew (fp := none_) W)
  have hvd := hv.fr hFd fun _ _ h => h
  have hge : ∀ {q : Nat} (hq : q < ls.length) {W : World} (hvd : RdE 1 W (.slice (some ⟨b, o, none⟩) ls.length c) (ls.map fun p => [pt p.1.b 0])) {R : Value → World → Prop}, R (pt ls[q].1.b 0) W → opS Try.prog (S.ia 100 (.slice (some ⟨b, o, none⟩) ls.length c) (.int .i64 q)) (fun a => opS Try.prog (S.ld 108 a) R) W := fun {q} hq {W} hvd {R} hR => by
    rw [← List.length_map (f := fun p : B3 × Lk => [pt p.1.b 0])] at hvd
    have := s_iaE (P := Try.prog) (T := 100) (E := 108) (sz := 1) (K := fun a => opS Try.prog (S.ld 108 a) R) (k := .i64) (i := (q : Int)) hvd (by omega) (by simpa using hq) fun b1 o1 c1 _ hE => by
      simp only [Int.toNat_natCast, List.getElem_map] at hE ⊢
      have h0 := hE.cell0 (by show 0 < 1; decide)
      rw [s_ld1, h0]
      exact hR
    rw [List.length_map] at this
    exact this
  simp only [push_cast, Nat.reduceAdd, Nat.reduceLeDiff, Nat.reduceLT, Int.reduceToNat, Nat.left_eq_add, Nat.add_eq_left, Nat.add_left_cancel_iff, Nat.reduceEqDiff, Nat.add_assoc, Nat.succ_ne_zero]
  refine hge hil hvd.rd ?_
  simp only [push_cast, Nat.reduceAdd, Nat.reduceLeDiff, Nat.reduceLT, Int.reduceToNat, Nat.left_eq_add, Nat.add_eq_left, Nat.add_left_cancel_iff, Nat.reduceEqDiff, Nat.add_assoc, Nat.succ_ne_zero, hwd]
  refine hge (show i - 1 < ls.length by omega) hvd.rd ?_
  simp only [push_cast, Nat.reduceAdd, Nat.reduceLeDiff, Nat.reduceLT, Int.reduceToNat, Nat.left_eq_add, Nat.add_eq_left, Nat.add_left_cancel_iff, Nat.reduceEqDiff, Nat.add_assoc, Nat.succ_ne_zero]
  have hzd : ∀ p ∈ ls, CLk W.drew p.1 p.2 := fun p hp => (hz p hp).1.fr0 hFd
  refine new2_spec (hzd _ (List.getElem_mem hil)) (hzd _ (List.getElem_mem (show i - 1 < ls.length by omega))) ?_
  have hFd2 := hFd.trans (Fr.drew (fp := none_) W.drew)
  simp only [push_cast, Nat.reduceAdd, Nat.reduceLeDiff, Nat.reduceLT, Int.reduceToNat, Nat.left_eq_add, Nat.add_eq_left, Nat.add_left_cancel_iff, Nat.reduceEqDiff, Nat.add_assoc, Nat.succ_ne_zero]
  refine br_dec (fun e2 => ?_) fun e2 => hj2 _ _ ⟨rfl, hFd2, e2⟩
  have hdup : ¬ (ls.map (·.2.port)).Nodup := not_nodup_of (j := i - 1) (by omega) (by rw [hpo _ (by omega), show i - 1 + 1 = i by omega, hpo _ hil, e2])
  have hv3 := hv.fr hFd2 fun _ _ h => h
  generalize W.drew.drew = W3 at *
  have hcl : ls.length ≤ c := by
    obtain ⟨h1, _⟩ := hv
    rcases h1 with ⟨h1, _⟩ | ⟨b', o', c', cs, h1, _, h2, _⟩
    · cases h1
    · rw [List.length_map] at h1 h2
      simp only [Value.slice.injEq] at h1
      omega
  rw [opS_slice (run_boundsL (lo := (i : Int)) (by omega) (by omega)), Int.toNat_natCast]
  generalize ha : (if c = i then some (⟨b, o, none⟩ : Addr) else Option.map (fun x : Addr => x.add (i * 1)) (some ⟨b, o, none⟩)) = a2
  have hpart : ∀ {W : World} {l : List (B3 × Lk)}, l.length = ls.length → OwnE 108 1 W (.slice (some ⟨b, o, none⟩) ls.length c) (l.map fun p => [pt p.1.b 0]) → RdE 1 W (.slice a2 (ls.length - i) (c - i)) ((l.map fun p => [pt p.1.b 0]).drop i) := fun {W l} hll hO => by
    have hO := hO.rd
    rw [← hll, ← List.length_map (f := fun p : B3 × Lk => [pt p.1.b 0])] at hO
    have := hO.part (l := i) (m := (l.map fun p => [pt p.1.b 0]).length) (by rw [List.length_map]; omega) (Nat.le_refl _)
    rw [List.take_length, List.length_map, hll, ha] at this
    exact this
  have hpl : ∀ {q : Nat} {l : List (B3 × Lk)} (hll : l.length = ls.length) (hq : i + q < l.length) {W : World} (hO : OwnE 108 1 W (.slice (some ⟨b, o, none⟩) ls.length c) (l.map fun p => [pt p.1.b 0])) {R : Value → World → Prop}, R (pt l[i + q].1.b 0) W → opS Try.prog (S.ia 100 (.slice a2 (ls.length - i) (c - i)) (.int .i64 q)) (fun a => opS Try.prog (S.ld 108 a) R) W := fun {q l} hll hq {W} hO {R} hR => by
    have hlen : ((l.map fun p => [pt p.1.b 0]).drop i).length = ls.length - i := by rw [List.length_drop, List.length_map, hll]
    have hr := hpart hll hO
    rw [← hlen] at hr
    have hqd : q < ((l.map fun p => [pt p.1.b 0]).drop i).length := by rw [hlen]; omega
    have := s_iaE (P := Try.prog) (T := 100) (E := 108) (sz := 1) (K := fun a => opS Try.prog (S.ld 108 a) R) (k := .i64) (i := (q : Int)) hr (by omega) (by simpa using hqd) fun b1 o1 c1 _ hE => by
      simp only [Int.toNat_natCast] at hE ⊢
      have e1 : ((l.map fun p => [pt p.1.b 0]).drop i)[q] = [pt l[i + q].1.b 0] := by rw [List.getElem_drop, List.getElem_map]
      rw [e1] at hE
      have h0 := hE.cell0 (by show 0 < 1; decide)
      rw [s_ld1, h0]
      exact hR
    rw [hlen] at this
    exact this
  have hbC : ∀ {W : World}, Fr (fun q => q = b) w W → ∀ p ∈ ls, CLk W p.1 p.2 := fun {W} hF p hp => (hz p hp).1.fr hF fun q hq e => (hz p hp).2 (e ▸ hq)
  refine jn1 (fun v' W' => ∃ (k : Nat) (l : List (B3 × Lk)), v' = i64 k ∧ k < ls.length ∧ l.length = ls.length ∧ OwnE 108 1 W' (.slice (some ⟨b, o, none⟩) ls.length c) (l.map fun p => [pt p.1.b 0]) ∧ Fr (fun q => q = b) w W') ?_ fun j3 hj3 => ?_
  · rintro v' W' ⟨k, l, rfl, hkl, hll, hO, hF'⟩
    have hO' : OwnE 108 1 W' (.slice (some ⟨b, o, none⟩) (l.map fun p => [pt p.1.b 0]).length c) (l.map fun p => [pt p.1.b 0]) := by rw [List.length_map, hll]; exact hO
    have := s_slcClear (P := Try.prog) (T := 100) (ty := 0) (z := .pointer none) (R := fun _ => opS Try.prog (S.slc 100 (.slice (some ⟨b, o, none⟩) ls.length c) none (some (i64 k)) none) fun x17 => K x17) rfl rfl hO' (i := k) (by rw [List.length_map]; omega) fun W4 hO4 hF4 => by
      rw [opS_slcHo (by omega)]
      exact hk _ _ _ W4 ⟨fun _ => hdup, fun _ => hkl⟩ (by omega) (hF'.trans hF4)
    rw [List.length_map, hll] at this
    exact this
  refine loop2 (fun m u v' W' => ∃ (k q : Nat) (l : List (B3 × Lk)), u = i64 k ∧ v' = i64 q ∧ 1 ≤ q ∧ i + q + m = ls.length ∧ k < i + q ∧ l.length = ls.length ∧ (∀ p ∈ l, p ∈ ls) ∧ OwnE 108 1 W' (.slice (some ⟨b, o, none⟩) ls.length c) (l.map fun p => [pt p.1.b 0]) ∧ Fr (fun q => q = b) w W') ?_ (ls.length - i - 1) ⟨i, 1, ls, rfl, rfl, by omega, by omega, by omega, rfl, fun _ h => h, hv3, frN hFd2⟩
  rintro m u v' W' X2 ⟨k, q, l, rfl, rfl, hq1, hqm, hkq, hll, hlm, hO, hF'⟩ hX2
  simp only [push_cast, Nat.reduceAdd, Nat.reduceLeDiff, Nat.reduceLT, Int.reduceToNat, Nat.left_eq_add, Nat.add_eq_left, Nat.add_left_cancel_iff, Nat.reduceEqDiff, Nat.add_assoc, Nat.succ_ne_zero]
  refine br_dec (fun hlt2 => ?_) fun hge2 => hj3 _ _ ⟨k, l, rfl, by omega, hll, hO, hF'⟩
  have hq2 : i + q < l.length := by omega
  have hwq : IntKind.i64.wrap ((q : Int) + 1) = ((q + 1 : Nat) : Int) := by rw [wrap_i64 (by omega)]; rfl
  have hwq1 : IntKind.i64.wrap ((q : Int) - 1) = ((q - 1 : Nat) : Int) := by rw [wrap_i64 (by omega)]; omega
  have hwk2 : IntKind.i64.wrap ((k : Int) + 1) = ((k + 1 : Nat) : Int) := by rw [wrap_i64 (by omega)]; rfl
  have hOd := hO.fr (Fr.drew (fp := none_) W') fun _ _ h => h
  have hFd' := hF'.trans (Fr.drew W')
  refine hpl hll hq2 hOd ?_
  simp only [push_cast, Nat.reduceAdd, Nat.reduceLeDiff, Nat.reduceLT, Int.reduceToNat, Nat.left_eq_add, Nat.add_eq_left, Nat.add_left_cancel_iff, Nat.reduceEqDiff, Nat.add_assoc, Nat.succ_ne_zero, hwq1]
  refine hpl hll (show i + (q - 1) < l.length by omega) hOd ?_
  simp only [push_cast, Nat.reduceAdd, Nat.reduceLeDiff, Nat.reduceLT, Int.reduceToNat, Nat.left_eq_add, Nat.add_eq_left, Nat.add_left_cancel_iff, Nat.reduceEqDiff, Nat.add_assoc, Nat.succ_ne_zero]
  refine new2_spec (hbC hFd' _ (hlm _ (List.getElem_mem hq2))) (hbC hFd' _ (hlm _ (List.getElem_mem (show i + (q - 1) < l.length by omega)))) ?_
  have hOd2 := hOd.fr (Fr.drew (fp := none_) W'.drew) fun _ _ h => h
  have hFd2' := hFd'.trans (Fr.drew W'.drew)
  generalize W'.drew.drew = W4 at *
  simp only [push_cast, Nat.reduceAdd, Nat.reduceLeDiff, Nat.reduceLT, Int.reduceToNat, Nat.left_eq_add, Nat.add_eq_left, Nat.add_left_cancel_iff, Nat.reduceEqDiff, Nat.add_assoc, Nat.succ_ne_zero]
  refine br_intro (fun e3 => ?_) fun e3 => ?_
  · refine hpl hll hq2 hOd2 ?_
    have hO' : OwnE 108 1 W4 (.slice (some ⟨b, o, none⟩) (l.map fun p => [pt p.1.b 0]).length c) (l.map fun p => [pt p.1.b 0]) := by rw [List.length_map, hll]; exact hOd2
    have hkm : k < (l.map fun p => [pt p.1.b 0]).length := by rw [List.length_map]; omega
    obtain ⟨p1, p2⟩ := hO'.put (i := k) (e := [pt l[i + q].1.b 0]) rfl hkm
    have hst : ∀ R : Value → World → Prop, R undef (wr W4 b (o + k * 1) [pt l[i + q].1.b 0]) → opS Try.prog (S.ia 100 (.slice (some ⟨b, o, none⟩) ls.length c) (.int .i64 k)) (fun a => opS Try.prog (S.st 108 a (pt l[i + q].1.b 0)) R) W4 := fun R hR => by
      have := s_iaE (P := Try.prog) (T := 100) (E := 108) (sz := 1) (w := W4) (K := fun a => opS Try.prog (S.st 108 a (pt l[i + q].1.b 0)) R) (k := .i64) (i := (k : Int)) hO'.rd (by omega) (by simpa using hkm) fun b1 o1 c1 hv1 _ => by
        cases hv1
        simp only [Int.toNat_natCast]
        rw [s_st1 _ _ _ rfl, p1, onB_true]
        exact hR
      rw [List.length_map, hll] at this
      exact this
    refine hst _ ?_
    simp only [push_cast, Nat.reduceAdd, Nat.reduceLeDiff, Nat.reduceLT, Int.reduceToNat, Nat.left_eq_add, Nat.add_eq_left, Nat.add_left_cancel_iff, Nat.reduceEqDiff, Nat.add_assoc, Nat.succ_ne_zero, hwq, hwk2]
    refine hX2 (m - 1) _ _ _ (by omega) ⟨k + 1, q + 1, l.set k l[i + q], rfl, rfl, by omega, by omega, by omega, by rw [List.length_set]; exact hll, fun p hp => ?_, ?_, hFd2'.trans (Fr.wr _ _ _ _ rfl)⟩
    · rcases List.mem_or_eq_of_mem_set hp with hp | rfl
      · exact hlm p hp
      · exact hlm _ (List.getElem_mem _)
    · rw [List.length_map, hll] at p2
      rw [List.map_set]
      exact p2
  · simp only [push_cast, Nat.reduceAdd, Nat.reduceLeDiff, Nat.reduceLT, Int.reduceToNat, Nat.left_eq_add, Nat.add_eq_left, Nat.add_left_cancel_iff, Nat.reduceEqDiff, Nat.add_assoc, Nat.succ_ne_zero, hwq]
    exact hX2 (m - 1) _ _ _ (by omega) ⟨k, q + 1, l, rfl, rfl, by omega, by omega, by omega, hll, hlm, hOd2, hFd2'⟩

end Go.Gx.S
end

section
/- A new group. -/
set_option linter.unusedVariables false
set_option linter.unusedSimpArgs false
set_option maxRecDepth 100000
namespace Go.Gx.S
open Go Go.Gx Go.Proofs Go.Sort
variable {K : Value → World → Prop} {w : World} {g : Nat} {bs : List B3} {pv fv : Value} {s : Grp}

/-- while a group is made -/
structure NI (r : Bool) (T TB TE TM E : TypeId) (w0 : World) (g : Nat) (most : Int) (W : World) (ls : List (B3 × Lk)) (pv : Value) : Prop where
  z : ZS r TB TE TM W ls
  main : W.heap[g]? = some (cellsO [pv, i64 most] T)
  own : OwnE E 1 W pv (ls.map fun p => [pt p.1.b 0])
  nl : ∀ p ∈ ls, ∀ y, p.1.fp y → w0.heap.size ≤ y ∧ y ≠ g
  nv : ∀ b, blkS pv = some b → w0.heap.size ≤ b ∧ b ≠ g ∧ ∀ p ∈ ls, ¬ p.1.fp b
  ng : w0.heap.size ≤ g
  fr : Fr none_ w0 W

section
variable {r : Bool} {T TB TE TM E : TypeId} {w0 : World} {most : Int} {ls : List (B3 × Lk)}
theorem NI.fr0 {W W' : World} (h : NI r T TB TE TM E w0 g most W ls pv) (hF : Fr none_ W W') : NI r T TB TE TM E w0 g most W' ls pv :=
  ⟨h.z.fr0 hF, hF.heap h.main fun h => h, h.own.fr hF fun _ _ h => h, h.nl, h.nv, h.ng, h.fr.trans hF⟩
theorem NI.lt {W : World} (h : NI r T TB TE TM E w0 g most W ls pv) : ∀ p ∈ ls, ∀ y, p.1.fp y → y < W.heap.size := fun p hp => (h.z.lk p hp).lt
theorem NI.push {W W5 W6 : World} {t : B3} {x : Lk} {v' : Value} (h : NI r T TB TE TM E w0 g most W ls pv) (hF : Fr none_ W W5) (hl : LkM r TB TE TM W5 t x) (hn : ∀ y, t.fp y → W.heap.size ≤ y) (hv : OwnE E 1 W6 v' (ls.map (fun p => [pt p.1.b 0]) ++ [[pt t.b 0]])) (hb : blkS v' = blkS pv ∨ New W5 v') (hF6 : Fr (fun b => blkS pv = some b) W5 W6) :
    NI r T TB TE TM E w0 g most (wr W6 g 0 [v']) (ls ++ [(t, x)]) v' := by
  have h5 := h.fr0 hF
  have hg := lt_of_heap h.main
  have hpl : ∀ y, blkS pv = some y → y < W.heap.size := fun y hy => h.own.lt hy
  have hF7 : Fr (fun b => b = g) W6 (wr W6 g 0 [v']) := Fr.wr _ _ _ _ rfl
  have hm6 := hF6.heap h5.main fun e => (h.nv g e).2.1 rfl
  have hs5 := hF.size
  have hv' : ∀ b, blkS v' = some b → w0.heap.size ≤ b ∧ b ≠ g ∧ (∀ p ∈ ls, ¬ p.1.fp b) ∧ ¬ t.fp b := fun b hb' => by
    rcases hb with e | e
    · rw [e] at hb'
      have := h.nv b hb'
      exact ⟨this.1, this.2.1, this.2.2, fun hh => by have := hn b hh; have := hpl b hb'; omega⟩
    · have h1 := e b hb'
      have := h.fr.size
      exact ⟨by omega, by omega, fun p hp hh => by have := h.lt p hp b hh; omega, fun hh => by have := hl.lt b hh; omega⟩
  have hz6 : ZS r TB TE TM W6 (ls ++ [(t, x)]) := by
    refine (h5.z.fr hF6 fun p hp y hy e => (h.nv y e).2.2 p hp hy).snoc (hl.fr hF6 fun y hy e => by have := hn y hy; have := hpl y e; omega) fun p hp y hy hy2 => by have := h.lt p hp y hy; have := hn y hy2; omega
  have hnew : ∀ p ∈ ls ++ [(t, x)], ∀ y, p.1.fp y → w0.heap.size ≤ y ∧ y ≠ g := fun p hp y hy => by
    rcases List.mem_append.1 hp with hp | hp
    · exact h.nl p hp y hy
    · rw [List.mem_singleton.1 hp] at hy
      have := hn y hy
      have := h.fr.size
      exact ⟨by omega, by omega⟩
  refine ⟨hz6.fr hF7 fun p hp y hy e => (hnew p hp y hy).2 e, ?_, ?_, hnew, fun b hb' => ⟨(hv' b hb').1, (hv' b hb').2.1, fun p hp => ?_⟩, h.ng, ?_⟩
  · rw [heap_wr, if_pos rfl, hm6, putAt_cells]; rfl
  · rw [List.map_append]
    exact hv.fr hF7 fun b hb' e => (hv' b hb').2.1 e
  · rcases List.mem_append.1 hp with hp | hp
    · exact (hv' b hb').2.2.1 p hp
    · rw [List.mem_singleton.1 hp]; exact (hv' b hb').2.2.2
  · exact (h5.fr.trans_new hF6 fun b hb' e => by have := (h.nv b e).1; omega).trans_new hF7 fun b hb' e => by have := h.ng; omega
end

theorem build_grp {most : Int} : opS Try.prog (S.build 102 [(1, i64 most)]) K w = K (.agg [.slice none 0 0, i64 most].toArray) w := by
  rw [opS_build _ rfl]; rfl
theorem build_lk {e m : Nat} {port : Int} {sys : Idn} {key : Int} (b : Nat) : opS Try.prog (S.build 112 [(0, pt e 0), (1, pt m 0), (2, i64 port), (5, .int .i64 (-1))]) K w = K (.agg (lkC false ⟨b, e, m⟩ (newLk sys key port)).toArray) w := by
  rw [opS_build _ rfl]; rfl

theorem gnew_spec {sys : Idn} {key most : Int} {ports : List Int} {v : Value} (hs : sys.ok) (hv : RdE 1 w v (ports.map cellI)) (hl : ports.length < 2 ^ 62)
    (h0 : ¬ argOk sys key ports most → ∀ w', Fr none_ w w' → K (.tuple #[.pointer none, i64 1]) w')
    (h5 : argOk sys key ports most → ¬ ports.Nodup → ∀ w', Fr none_ w w' → K (.tuple #[.pointer none, i64 5]) w')
    (h1 : argOk sys key ports most → ports.Nodup → ∀ g bs pv w', CG w' g bs pv (newG sys key ports most) → (∀ y, fG g bs y → w.heap.size ≤ y) → (∀ y, blkS pv = some y → w.heap.size ≤ y) → Fr none_ w w' → K (.tuple #[pt g 0, i64 0]) w') :
    CallsR Try.prog 18 #[.agg sys.cells.toArray, i64 key, v, i64 most] K w := by
  apply c18
  unfold p18
  have elen : ∀ (R : Value → World → Prop) W, opS Try.prog (S.len v) R W = R (i64 ports.length) W := fun R W => by
    obtain ⟨a, c, e⟩ := hv.form
    rw [e, List.length_map]; rfl
  have hF0 : Fr none_ w (w.alloc (cellsO sys.cells 58)) := (by repeat' first | with_reducible exact Fr.refl _ _ | with_reducible refine Fr.step_alloc ?_ ?_ | with_reducible refine Fr.step_drew ?_ | with_reducible refine Fr.step_wr ?_ ?_ _ _ | exact rfl | exact Or.inr (by omega) | exact Or.inl rfl | exact Or.inl (Or.inl rfl) | exact Or.inl (Or.inr rfl))
  have q0 : (w.alloc (cellsO sys.cells 58)).heap[w.heap.size]? = some (cellsO sys.cells 58) := by simp only [push_cast, Nat.reduceAdd, Nat.reduceLeDiff, Nat.reduceLT, Int.reduceToNat, Nat.left_eq_add, Nat.add_eq_left, Nat.add_left_cancel_iff, Nat.reduceEqDiff, Nat.add_assoc, Nat.succ_ne_zero]
  have hsz0 := size_alloc w (cellsO sys.cells 58)
  simp only [opS_box, cells_agg, alloc_cellsO]
  have hv0 := hv.fr hF0 fun _ _ h => h
  generalize w.alloc (cellsO sys.cells 58) = w0 at *
  generalize hxb : w.heap.size = xb at *
  rw [elen]
  simp only [push_cast, Nat.reduceAdd, Nat.reduceLeDiff, Nat.reduceLT, Int.reduceToNat, Nat.left_eq_add, Nat.add_eq_left, Nat.add_left_cancel_iff, Nat.reduceEqDiff, Nat.add_assoc, Nat.succ_ne_zero]
  refine br_dec (fun e => h0 (fun h => by have := h.1; omega) _ hF0) fun e1 => ?_
  rw [elen]
  simp only [push_cast, Nat.reduceAdd, Nat.reduceLeDiff, Nat.reduceLT, Int.reduceToNat, Nat.left_eq_add, Nat.add_eq_left, Nat.add_left_cancel_iff, Nat.reduceEqDiff, Nat.add_assoc, Nat.succ_ne_zero]
  refine br_dec (fun e => h0 (fun h => by have := h.2.1; omega) _ hF0) fun e2 => ?_
  refine br_dec (fun e => h0 (fun h => by have := h.2.2.1; omega) _ hF0) fun e3 => ?_
  refine br_dec (fun e => h0 (fun h => by have := h.2.2.2.1; omega) _ hF0) fun e4 => ?_
  refine minI_spec hv0 (by omega) (by omega) fun m hm1 hm2 => ?_
  simp only [push_cast, Nat.reduceAdd, Nat.reduceLeDiff, Nat.reduceLT, Int.reduceToNat, Nat.left_eq_add, Nat.add_eq_left, Nat.add_left_cancel_iff, Nat.reduceEqDiff, Nat.add_assoc, Nat.succ_ne_zero]
  refine br_dec (fun e => h0 (fun h => by have := h.2.2.2.2.1 m hm1; omega) _ hF0) fun e5 => ?_
  have hp1 : ∀ p ∈ ports, 1 ≤ p := fun p hp => by have := hm2 p hp; omega
  rw [build_grp]
  have hFg : Fr none_ w0 (w0.alloc (cellsO [.slice none 0 0, i64 most] 102)) := (by repeat' first | with_reducible exact Fr.refl _ _ | with_reducible refine Fr.step_alloc ?_ ?_ | with_reducible refine Fr.step_drew ?_ | with_reducible refine Fr.step_wr ?_ ?_ _ _ | exact rfl | exact Or.inr (by omega) | exact Or.inl rfl | exact Or.inl (Or.inl rfl) | exact Or.inl (Or.inr rfl))
  have qg : (w0.alloc (cellsO [.slice none 0 0, i64 most] 102)).heap[w0.heap.size]? = some (cellsO [.slice none 0 0, i64 most] 102) := by simp only [push_cast, Nat.reduceAdd, Nat.reduceLeDiff, Nat.reduceLT, Int.reduceToNat, Nat.left_eq_add, Nat.add_eq_left, Nat.add_left_cancel_iff, Nat.reduceEqDiff, Nat.add_assoc, Nat.succ_ne_zero]
  simp only [push_cast, Nat.reduceAdd, Nat.reduceLeDiff, Nat.reduceLT, Int.reduceToNat, Nat.left_eq_add, Nat.add_eq_left, Nat.add_left_cancel_iff, Nat.reduceEqDiff, Nat.add_assoc, Nat.succ_ne_zero]
  generalize hge : w0.heap.size = g at *
  generalize w0.alloc (cellsO [.slice none 0 0, i64 most] 102) = w1 at *
  rw [elen]
  have hN : NI false 102 112 149 151 108 w0 g most w1 [] (.slice none 0 0) := ⟨⟨by simp, List.Pairwise.nil⟩, qg, own_nil _ _ _, by simp, fun b hb => (by cases hb), by omega, hFg⟩
  refine jn0 (fun W => ∃ ls pv, NI false 102 112 149 151 108 w0 g most W ls pv ∧ ls.map (·.2) = ports.map (newLk sys key) ∧ ∀ p ∈ ports, (Inf.mk sys.prio sys.mac key 128 p 7).right) ?_ fun j hj => ?_
  · rintro W ⟨ls, pv, hN, hls, hr⟩
    have harg : argOk sys key ports most := ⟨by omega, by omega, by omega, by omega, hp1, hr⟩
    have hll : ls.length = ports.length := by have := congrArg List.length hls; rwa [List.length_map, List.length_map] at this
    obtain ⟨b, o, c, rfl⟩ := hN.own.form' (by rw [List.length_map]; omega)
    have hO := hN.own
    have hm := hN.main
    rw [List.length_map] at hO hm
    have hpb := hN.nv b rfl
    have hpo : ls.map (·.2.port) = ports := by
      have : (ls.map (·.2)).map Lk.port = (ports.map (newLk sys key)).map Lk.port := by rw [hls]
      rw [List.map_map, List.map_map] at this
      have e : (Lk.port ∘ newLk sys key) = id := rfl
      rw [e, List.map_id] at this
      exact this
    have hnl : ∀ p ∈ ls, p.2 = newLk sys key p.2.port := fun p hp => by
      have : p.2 ∈ ports.map (newLk sys key) := hls ▸ List.mem_map_of_mem hp
      obtain ⟨q, _, e⟩ := List.mem_map.1 this
      rw [← e]; rfl
    simp only [push_cast, Nat.reduceAdd, Nat.reduceLeDiff, Nat.reduceLT, Int.reduceToNat, Nat.left_eq_add, Nat.add_eq_left, Nat.add_left_cancel_iff, Nat.reduceEqDiff, Nat.add_assoc, Nat.succ_ne_zero, hm]
    refine sortL_spec (fun p hp => ⟨hN.z.lk p hp, hpb.2.2 p hp⟩) (by omega) (by omega) hO fun ls' W2 hp hs hO2 hF2 => ?_
    have hZ2 : ZS false 112 149 151 W2 ls' := (hN.z.fr hF2 fun p hp y hy e => hpb.2.2 p hp (e ▸ hy)).perm hp
    have hm2 := hF2.heap hm fun e => hpb.2.1 e.symm
    have hll' : ls'.length = ls.length := hp.length_eq
    simp only [push_cast, Nat.reduceAdd, Nat.reduceLeDiff, Nat.reduceLT, Int.reduceToNat, Nat.left_eq_add, Nat.add_eq_left, Nat.add_left_cancel_iff, Nat.reduceEqDiff, Nat.add_assoc, Nat.succ_ne_zero, hm2]
    rw [← hll'] at hO2
    rw [← hll']
    have hO2' : OwnE 108 1 W2 (.slice (some ⟨b, o, none⟩) (ls'.map fun p => [pt p.1.b 0]).length c) (ls'.map fun p => [pt p.1.b 0]) := by rw [List.length_map]; exact hO2
    have hFw2 : Fr none_ w W2 := (hF0.trans hN.fr).trans_new hF2 fun y hy e => by have := hpb.1; have := hF0.size; omega
    have hone : (ls'.map fun p : B3 × Lk => [pt p.1.b 0]).flatten.all S.oneCell = true := by
      rw [List.all_eq_true]
      intro x hx
      obtain ⟨y, hy, hx⟩ := List.mem_flatten.1 hx
      obtain ⟨p, _, rfl⟩ := List.mem_map.1 hy
      rw [List.mem_singleton.1 hx]; rfl
    have hclone := clone_spec (K := fun x23 w' => opS Try.prog (S.cl 50 [x23, .func (.func 49) #[] #[]]) (fun x24 => opS Try.prog (S.len x24) fun x25 => opS Try.prog (S.len v) fun x26 => opS Try.prog (S.binI .lss x25 x26) fun x27 => brn x27 (K (.tuple #[.pointer none, .int .i64 5])) (K (.tuple #[pt g 0, .int .i64 0]))) w') hO2' (by rw [List.length_map]; omega) (by rw [List.length_map]; omega) hone fun b2 o2 c2 W3 hO3 hb2 hF3 => by
      rw [List.length_map] at hO3 ⊢
      simp only [push_cast, Nat.reduceAdd, Nat.reduceLeDiff, Nat.reduceLT, Int.reduceToNat, Nat.left_eq_add, Nat.add_eq_left, Nat.add_left_cancel_iff, Nat.reduceEqDiff, Nat.add_assoc, Nat.succ_ne_zero]
      have hZ3 := hZ2.fr0 hF3
      have hlt2 : ∀ p ∈ ls', ∀ y, p.1.fp y → y < W2.heap.size := fun p hp => (hZ2.lk p hp).lt
      refine compact_spec (fun p hp => ⟨hZ3.lk p hp, fun hh => by have := hlt2 p hp b2 hh; omega⟩) (by omega) (by omega) hs hO3 fun a n c3 W4 hn1 hn2 hF4 => ?_
      have hFw4 : Fr none_ w W4 := (hFw2.trans hF3).trans_new hF4 fun y hy e => by have := hFw2.size; omega
      simp only [push_cast, Nat.reduceAdd, Nat.reduceLeDiff, Nat.reduceLT, Int.reduceToNat, Nat.left_eq_add, Nat.add_eq_left, Nat.add_left_cancel_iff, Nat.reduceEqDiff, Nat.add_assoc, Nat.succ_ne_zero]
      rw [elen]
      simp only [push_cast, Nat.reduceAdd, Nat.reduceLeDiff, Nat.reduceLT, Int.reduceToNat, Nat.left_eq_add, Nat.add_eq_left, Nat.add_left_cancel_iff, Nat.reduceEqDiff, Nat.add_assoc, Nat.succ_ne_zero]
      have hnd : (ls'.map (·.2.port)).Nodup ↔ ports.Nodup := by rw [← hpo]; exact (hp.map _).nodup_iff
      refine br_dec (fun hlt => ?_) fun hge => ?_
      · exact h5 harg (fun h => by have := hn1.1 (by omega); exact this (hnd.2 h)) W4 hFw4
      · have hnodup : ports.Nodup := by
          by_cases hh : ports.Nodup
          · exact hh
          · exact absurd (hn1.2 fun h => hh (hnd.1 h)) (by omega)
        have hnb : ∀ p ∈ ls', ¬ p.1.fp b := fun p hp2 => hpb.2.2 p (hp.mem_iff.1 hp2)
        have hgs := hZ2.gs (g := g) (pv := .slice (some ⟨b, o, none⟩) ls'.length c) (most := most) (by rw [hll']; exact hm2) hO2.rd (fun p hp2 hh => (hN.nl p (hp.mem_iff.1 hp2) g hh).2 rfl) fun y hy => (by cases hy; exact ⟨hpb.2.1, hnb⟩)
        have hl2 : ls'.map (·.2) = (srtI ports).map (newLk sys key) := by
          have e1 : ls'.map (·.2.port) = srtI ports := srt_eq (by rw [← hpo]; exact hp.map _) hs
          rw [← e1, List.map_map]
          refine List.map_congr_left fun p hp2 => ?_
          exact hnl p (hp.mem_iff.1 hp2)
        rw [hl2] at hgs
        have hgs4 := (hgs.fr0 hF3).fr hF4 (fun y hy e => by have := hgs.lt y hy; omega) fun y hy e => (by cases hy; have h9 : b < W2.heap.size := hO2.lt rfl; have e : b = b2 := e; omega)
        refine h1 harg hnodup g _ _ W4 hgs4 (fun y hy => ?_) (fun y hy => ?_) hFw4
        · rcases hy with rfl | ⟨t, ht, hy⟩
          · have := hN.ng; have := hF0.size; omega
          · obtain ⟨p, hp2, rfl⟩ := List.mem_map.1 ht
            have := (hN.nl p (hp.mem_iff.1 hp2) y hy).1
            have := hF0.size; omega
        · cases hy
          have h8 : w0.heap.size ≤ b := hpb.1
          show xb ≤ b
          omega
    rw [List.length_map] at hclone
    exact hclone
  · refine loop1 (fun n u W => ∃ (i : Nat) (ls : List (B3 × Lk)) (pv : Value), u = i64 i ∧ i + n = ports.length ∧ NI false 102 112 149 151 108 w0 g most W ls pv ∧ ls.map (·.2) = (ports.take i).map (newLk sys key) ∧ ∀ p ∈ ports.take i, (Inf.mk sys.prio sys.mac key 128 p 7).right) ?_ ports.length ⟨0, [], _, rfl, by omega, hN, rfl, by simp⟩
    rintro n u W X ⟨i, ls, pv, rfl, hi, hN, hls, hr⟩ hX
    simp only [push_cast, Nat.reduceAdd, Nat.reduceLeDiff, Nat.reduceLT, Int.reduceToNat, Nat.left_eq_add, Nat.add_eq_left, Nat.add_left_cancel_iff, Nat.reduceEqDiff, Nat.add_assoc, Nat.succ_ne_zero]
    refine br_dec (fun hlt => ?_) fun hge2 => hj _ ⟨ls, pv, hN, by rw [List.take_of_length_le (by omega)] at hls; exact hls, by rw [List.take_of_length_le (by omega)] at hr; exact hr⟩
    have hil : i < ports.length := by omega
    have hwk : IntKind.i64.wrap ((i : Int) + 1) = ((i + 1 : Nat) : Int) := by rw [wrap_i64 (by omega)]; rfl
    have qx := hN.fr.heap q0 fun h => h
    refine s_iaE (es := ports.map cellI) (hv0.fr hN.fr fun _ _ h => h) (by omega) (by simpa using hil) fun b1 o1 c1 _ hE => ?_
    simp only [Int.toNat_natCast, List.getElem_map] at hE ⊢
    have hE0 := hE.cell0 (by show 0 < 1; decide)
    simp only [push_cast, Nat.reduceAdd, Nat.reduceLeDiff, Nat.reduceLT, Int.reduceToNat, Nat.left_eq_add, Nat.add_eq_left, Nat.add_left_cancel_iff, Nat.reduceEqDiff, Nat.add_assoc, Nat.succ_ne_zero, hE0, cellI, List.getElem?_cons_zero, qx]
    refine rxnew_spec rfl (fun hnr W2 hF2 => ?_) fun hrr eb W2 heb hE2 hF2 => ?_
    · simp only [push_cast, Nat.reduceAdd, Nat.reduceLeDiff, Nat.reduceLT, Int.reduceToNat, Nat.left_eq_add, Nat.add_eq_left, Nat.add_left_cancel_iff, Nat.reduceEqDiff, Nat.add_assoc, Nat.succ_ne_zero]
      refine br_intro (fun _ => ?_) fun e => absurd e (by decide)
      exact h0 (fun h => hnr (h.2.2.2.2.2 _ (List.getElem_mem hil))) W2 (hF0.trans (hN.fr.trans hF2))
    · simp only [push_cast, Nat.reduceAdd, Nat.reduceLeDiff, Nat.reduceLT, Int.reduceToNat, Nat.left_eq_add, Nat.add_eq_left, Nat.add_left_cancel_iff, Nat.reduceEqDiff, Nat.add_assoc, Nat.succ_ne_zero]
      refine br_intro (fun e => absurd e (by decide)) fun _ => ?_
      have hFd := hF2.trans (Fr.drew (fp := none_) W2)
      have hN2 := hN.fr0 hFd
      have hE2 : EdpAt W2.drew eb _ := hE2
      generalize W2.drew = W3 at *
      have hll : ls.length = i := by
        have := congrArg List.length hls
        rw [List.length_map, List.length_map, List.length_take] at this
        omega
      -- the end: a link lies there, and a slice of it
      have hend : ∀ (mb : Nat) (W4 W5 : World) (y : Value), W3.heap.size ≤ mb → MxAt W4 mb ⟨0, 0⟩ → Fr none_ W3 W4 → Fr none_ (W4.alloc (cellsO (lkC false ⟨W4.heap.size, eb, mb⟩ (newLk sys key ports[i])) 112)) W5 → OwnE 108 1 W5 y [[pt W4.heap.size 0]] →
          opS Try.prog (S.bi .append #[100, 100] 100 [pv, y]) (fun x36 => opS Try.prog (S.nc (pt g 0)) fun x37 => opS Try.prog (S.fa 102 x37 0) fun x38 => opS Try.prog (S.st 100 x38 x36) fun x39 => opS Try.prog (S.binI .add (i64 i) (.int .i64 1)) fun x40 => X x40) W5 := by
        intro mb W4 W5 y hmb hM hF4 hF5 hy
        have hFa : Fr none_ W4 (W4.alloc (cellsO (lkC false ⟨W4.heap.size, eb, mb⟩ (newLk sys key ports[i])) 112)) := (by repeat' first | with_reducible exact Fr.refl _ _ | with_reducible refine Fr.step_alloc ?_ ?_ | with_reducible refine Fr.step_drew ?_ | with_reducible refine Fr.step_wr ?_ ?_ _ _ | exact rfl | exact Or.inr (by omega) | exact Or.inl rfl | exact Or.inl (Or.inl rfl) | exact Or.inl (Or.inr rfl))
        have hF35 : Fr none_ W3 W5 := (hF4.trans hFa).trans hF5
        have hel := lt_of_heap (show W3.heap[eb]? = some _ from hE2)
        have hml := lt_of_heap (show W4.heap[mb]? = some _ from hM)
        have hl5 : CLk W5 ⟨W4.heap.size, eb, mb⟩ (newLk sys key ports[i]) := by
          refine ⟨hF5.heap ?_ fun h => h, hF35.heap hE2 fun h => h, (hFa.trans hF5).heap hM fun h => h, ?_, ?_, ?_⟩
          · simp only [push_cast, Nat.reduceAdd, Nat.reduceLeDiff, Nat.reduceLT, Int.reduceToNat, Nat.left_eq_add, Nat.add_eq_left, Nat.add_left_cancel_iff, Nat.reduceEqDiff, Nat.add_assoc, Nat.succ_ne_zero]
          · have := hF4.size; show W4.heap.size ≠ eb; omega
          · show W4.heap.size ≠ mb; omega
          · show eb ≠ mb; omega
        have hN5 := hN2.fr0 hF35
        refine s_app (sz := 1) (by_ := 8) (z := .pointer none) rfl (by decide) hN5.own hy.rd rfl (by simp only [List.length_map, List.length_singleton]; omega) fun v' W6 hv' hb' hF6 => ?_
        have hNN := hN.push (t := ⟨W4.heap.size, eb, mb⟩) (x := newLk sys key ports[i]) (hFd.trans hF35) hl5 (by
          have hs1 := hFd.size
          have hs2 := hF4.size
          rintro q (e | e | e)
          · have e : q = W4.heap.size := e; omega
          · have e : q = eb := e; omega
          · have e : q = mb := e; omega) hv' hb' hF6
        have hm6 := hF6.heap hN5.main fun e => (hN5.nv g e).2.1 rfl
        simp only [push_cast, Nat.reduceAdd, Nat.reduceLeDiff, Nat.reduceLT, Int.reduceToNat, Nat.left_eq_add, Nat.add_eq_left, Nat.add_left_cancel_iff, Nat.reduceEqDiff, Nat.add_assoc, Nat.succ_ne_zero, hm6, hv'.rd.one, hwk]
        refine hX (n - 1) _ _ (by omega) ⟨i + 1, _, _, rfl, by omega, hNN, ?_, take_all hil hr hrr⟩
        rw [List.map_append, hls, take_snoc hil, List.map_append]; rfl
      have hone : ∀ (mb : Nat) (W4 : World), W3.heap.size ≤ mb → MxAt W4 mb ⟨0, 0⟩ → Fr none_ W3 W4 → ∀ (R : Value → World → Prop), (∀ W5 (y : Value), Fr none_ (W4.alloc (cellsO (lkC false ⟨W4.heap.size, eb, mb⟩ (newLk sys key ports[i])) 112)) W5 → OwnE 108 1 W5 y [[pt W4.heap.size 0]] → R y W5) →
          opS Try.prog (S.buildS 100 1 [(0, pt W4.heap.size 0)]) R (W4.alloc (cellsO (lkC false ⟨W4.heap.size, eb, mb⟩ (newLk sys key ports[i])) 112)) := fun mb W4 _ _ _ R hR => by
        refine s_bs1c (z := .pointer none) rfl rfl fun y W5 hy hF5 _ => hR W5 y hF5 hy
      have hbl : ∀ (mb : Nat) (W4 : World) (R : Value → World → Prop), R (.agg (lkC false ⟨W4.heap.size, eb, mb⟩ (newLk sys key ports[i])).toArray) W4 → opS Try.prog (S.build 112 [(0, pt eb 0), (1, pt mb 0), (2, i64 ports[i]), (5, .int .i64 (-1))]) R W4 := fun mb W4 R hR => by
        rw [build_lk (sys := sys) (key := key) W4.heap.size]; exact hR
      refine allW_intro ?_ ?_
      · simp only [push_cast, Nat.reduceAdd, Nat.reduceLeDiff, Nat.reduceLT, Int.reduceToNat, Nat.left_eq_add, Nat.add_eq_left, Nat.add_left_cancel_iff, Nat.reduceEqDiff, Nat.add_assoc, Nat.succ_ne_zero, hN2.main]
        refine mnew_spec fun mb W4 hmb hM hF4 => ?_
        refine hbl mb W4 _ ?_
        simp only [push_cast, Nat.reduceAdd, Nat.reduceLeDiff, Nat.reduceLT, Int.reduceToNat, Nat.left_eq_add, Nat.add_eq_left, Nat.add_left_cancel_iff, Nat.reduceEqDiff, Nat.add_assoc, Nat.succ_ne_zero]
        refine hone mb W4 hmb hM hF4 _ fun W5 y hF5 hy => ?_
        exact hend mb W4 W5 y hmb hM hF4 hF5 hy
      · simp only [push_cast, Nat.reduceAdd, Nat.reduceLeDiff, Nat.reduceLT, Int.reduceToNat, Nat.left_eq_add, Nat.add_eq_left, Nat.add_left_cancel_iff, Nat.reduceEqDiff, Nat.add_assoc, Nat.succ_ne_zero]
        refine mnew_spec fun mb W4 hmb hM hF4 => ?_
        have m4 := (hN2.fr0 hF4).main
        have hga : g ≠ W4.heap.size := by have := lt_of_heap m4; omega
        refine hbl mb W4 _ ?_
        refine allW_intro ?_ ?_
        · simp only [push_cast, Nat.reduceAdd, Nat.reduceLeDiff, Nat.reduceLT, Int.reduceToNat, Nat.left_eq_add, Nat.add_eq_left, Nat.add_left_cancel_iff, Nat.reduceEqDiff, Nat.add_assoc, Nat.succ_ne_zero, m4, hga]
          refine hone mb W4 hmb hM hF4 _ fun W5 y hF5 hy => ?_
          exact hend mb W4 W5 y hmb hM hF4 hF5 hy
        · simp only [push_cast, Nat.reduceAdd, Nat.reduceLeDiff, Nat.reduceLT, Int.reduceToNat, Nat.left_eq_add, Nat.add_eq_left, Nat.add_left_cancel_iff, Nat.reduceEqDiff, Nat.add_assoc, Nat.succ_ne_zero, m4, hga]
          refine allW_intro ?_ ?_
          · simp only [push_cast, Nat.reduceAdd, Nat.reduceLeDiff, Nat.reduceLT, Int.reduceToNat, Nat.left_eq_add, Nat.add_eq_left, Nat.add_left_cancel_iff, Nat.reduceEqDiff, Nat.add_assoc, Nat.succ_ne_zero, m4, hga]
            refine hone mb W4 hmb hM hF4 _ fun W5 y hF5 hy => ?_
            exact hend mb W4 W5 y hmb hM hF4 hF5 hy
          · refine hone mb W4 hmb hM hF4 _ fun W5 y hF5 hy => ?_
            have hFa : Fr none_ W4 (W4.alloc (cellsO (lkC false ⟨W4.heap.size, eb, mb⟩ (newLk sys key ports[i])) 112)) := (by repeat' first | with_reducible exact Fr.refl _ _ | with_reducible refine Fr.step_alloc ?_ ?_ | with_reducible refine Fr.step_drew ?_ | with_reducible refine Fr.step_wr ?_ ?_ _ _ | exact rfl | exact Or.inr (by omega) | exact Or.inl rfl | exact Or.inl (Or.inl rfl) | exact Or.inl (Or.inr rfl))
            have m5 := (hFa.trans hF5).heap m4 fun h => h
            simp only [push_cast, Nat.reduceAdd, Nat.reduceLeDiff, Nat.reduceLT, Int.reduceToNat, Nat.left_eq_add, Nat.add_eq_left, Nat.add_left_cancel_iff, Nat.reduceEqDiff, Nat.add_assoc, Nat.succ_ne_zero, m5]
            exact hend mb W4 W5 y hmb hM hF4 hF5 hy

end Go.Gx.S
end

section
/- Two groups meet. -/
set_option linter.unusedVariables false
set_option linter.unusedSimpArgs false
set_option maxRecDepth 100000
namespace Go.Gx.S
open Go Go.Gx Go.Proofs Go.Sort
variable {K : Value → World → Prop} {w : World} {g : Nat} {bs : List B3} {pv fv : Value} {s : Grp}

/-! ### Plain -/

theorem newLk_wf {sys : Idn} {key p : Int} (hs : sys.ok) (h : (Inf.mk sys.prio sys.mac key 128 p 7).right) : (newLk sys key p).wf :=
  ⟨newEnd_wf h hs.2 rfl, ⟨by show (0 : Int) ≤ 0 ∧ (0 : Int) ≤ 4; omega, by show momOk 0; decide⟩, rfl, .inl rfl⟩
theorem newG_wf {sys : Idn} {key most : Int} {ports : List Int} (hs : sys.ok) (h : argOk sys key ports most) : (newG sys key ports most).wf := by
  refine ⟨fun x hx => ?_, ⟨h.2.2.1, h.2.2.2.1⟩, ?_⟩
  · obtain ⟨p, hp, rfl⟩ := List.mem_map.1 (show x ∈ (srtI ports).map (newLk sys key) from hx)
    exact newLk_wf hs (h.2.2.2.2.2 p ((srt_perm ports).mem_iff.1 hp))
  · show ((srtI ports).map _).length ≤ 32
    rw [List.length_map, (srt_perm ports).length_eq]
    exact h.2.1
theorem tick_ok {now : Int} (h : s.wf) : ∀ x ∈ s.tickO now, x.ok := fun x hx => by
  unfold Grp.tickO at hx
  split at hx
  · rename_i hn
    unfold saysL at hx
    obtain ⟨y, hy, rfl⟩ := List.mem_map.1 hx
    exact told_ok ((h.ticked hn).l y (List.mem_filter.1 hy).1)
  · cases hx
theorem tick_n {now : Int} (h : s.wf) : (s.tickO now).length ≤ 32 := by
  unfold Grp.tickO
  split
  · rename_i hn
    exact Nat.le_trans (saysL_len _ _) (h.ticked hn).len
  · simp

def takeAll (s : Grp) (now : Int) (l : List Tld) : Grp := l.foldl (fun s x => s.takeP x.port x.l now) s
theorem takeAll_snoc (s : Grp) (now : Int) (l : List Tld) (x : Tld) : takeAll s now (l ++ [x]) = (takeAll s now l).takeP x.port x.l now := by
  unfold takeAll; rw [List.foldl_append]; rfl
theorem _root_.Go.Gx.Grp.wf.takeP (h : s.wf) (port : Int) {l : Lcp} (hl : l.ok) (now : Int) : (s.takeP port l now).wf := h.on port fun x hx => hx.take hl.1.2.1 now
theorem _root_.Go.Gx.Grp.wf.enableP (h : s.wf) (port : Int) (is : Bool) (now : Int) : (s.enableP port is now).wf := h.on port fun x hx => hx.enable is now
theorem _root_.Go.Gx.Grp.wf.takeAll {l : List Tld} (hl : ∀ x ∈ l, x.ok) (now : Int) {s : Grp} (h : s.wf) : (takeAll s now l).wf := by
  induction l generalizing s with
  | nil => exact h
  | cons x l ih => exact ih (fun y hy => hl y (List.mem_cons_of_mem _ hy)) (h.takeP x.port (hl x (List.mem_cons_self ..)).2 now)

/-- one moment: what one says the other one hears, but for what is lost -/
def meetR (lost : Int) (t : Grp × Grp) (now : Int) : Grp × Grp :=
  (if lost ≠ 2 then takeAll (t.1.tickP now) now (t.2.tickO now) else t.1.tickP now, if lost ≠ 1 then takeAll (t.2.tickP now) now (t.1.tickO now) else t.2.tickP now)
def meetK (lost from_ : Int) (t : Grp × Grp) : Nat → Grp × Grp
  | 0 => t
  | k + 1 => meetR lost (meetK lost from_ t k) (from_ + k)
theorem meetK_wf {lost from_ : Int} {t : Grp × Grp} (h1 : t.1.wf) (h2 : t.2.wf) : ∀ k, (meetK lost from_ t k).1.wf ∧ (meetK lost from_ t k).2.wf
  | 0 => ⟨h1, h2⟩
  | k + 1 => by
    obtain ⟨g1, g2⟩ := meetK_wf (lost := lost) (from_ := from_) h1 h2 k
    refine ⟨?_, ?_⟩
    · show (if _ then _ else _ : Grp).wf
      split
      · exact Grp.wf.takeAll (tick_ok g2) _ (g1.tick _)
      · exact g1.tick _
    · show (if _ then _ else _ : Grp).wf
      split
      · exact Grp.wf.takeAll (tick_ok g1) _ (g2.tick _)
      · exact g2.tick _

/-! ### Two groups in memory -/

structure SepG (gA : Nat) (bsA : List B3) (pvA : Value) (gB : Nat) (bsB : List B3) (pvB : Value) : Prop where
  ab : ∀ c, fG gA bsA c → ¬ fG gB bsB c
  pa : ∀ c, blkS pvA = some c → ¬ fG gB bsB c
  pb : ∀ c, blkS pvB = some c → ¬ fG gA bsA c
section
variable {gA gB : Nat} {bsA bsB : List B3} {pvA pvB : Value} {a b : Grp} {rA rB : Bool} {TA TBA TEA TMA : TypeId}
theorem SepG.symm (h : SepG gA bsA pvA gB bsB pvB) : SepG gB bsB pvB gA bsA pvA := ⟨fun c h1 h2 => h.ab c h2 h1, h.pb, h.pa⟩
theorem SepG.frA (h : SepG gA bsA pvA gB bsB pvB) {w' : World} (hA : GS rA TA TBA TEA TMA w gA bsA pvA a) (hF : Fr (fL bsB) w w') : GS rA TA TBA TEA TMA w' gA bsA pvA a :=
  hA.fr hF (fun c h1 h2 => h.ab c h1 (.inr h2)) fun c h1 h2 => h.pa c h1 (.inr h2)

theorem takes_spec {v : Value} {l : List Tld} {now lost q : Int} (h : CG w g bs pv s) (hw : s.wf) (hv : RdE 24 w v (l.map Tld.cells)) (hl : ∀ x ∈ l, x.ok) (hl2 : l.length ≤ 32) (hd : ∀ c, blkS v = some c → ¬ fL bs c) {j : World → Prop}
    (hj : ∀ w', CG w' g bs pv (if lost ≠ q then takeAll s now l else s) → Fr (fL bs) w w' → j w') :
    loopJ 1 (fun j4 x16 => opS Try.prog (S.len v) fun x17 => opS Try.prog (S.binI .lss x16 x17) fun x18 => brn x18 (opS Try.prog (S.binI .neq (i64 lost) (.int .i64 q)) fun x19 => brn x19 (drw <| opS Try.prog (S.ia 61 v x16) fun x20 => opS Try.prog (S.fa 125 x20 0) fun x21 => opS Try.prog (S.ld 3 x21) fun x22 =>
      opS Try.prog (S.ia 61 v x16) fun x23 => opS Try.prog (S.fa 125 x23 1) fun x24 => opS Try.prog (S.ld 123 x24) fun x25 => opS Try.prog (S.cl 63 [pt g 0, x22, x25, i64 now]) fun _ => opS Try.prog (S.binI .add x16 (.int .i64 1)) fun x27 => j4 x27) j) j) (.int .i64 0) w := by
  obtain ⟨va, vc, rfl⟩ := hv.form
  rw [List.length_map] at hv hd ⊢
  by_cases hlost : lost = q
  · refine loop1 (fun n u W => u = i64 0 ∧ W = w) ?_ 0 ⟨rfl, rfl⟩
    rintro n u W X ⟨rfl, rfl⟩ hX
    rw [if_neg (by simpa using hlost)] at hj
    simp only [push_cast, Nat.reduceAdd, Nat.reduceLeDiff, Nat.reduceLT, Int.reduceToNat, Nat.left_eq_add, Nat.add_eq_left, Nat.add_left_cancel_iff, Nat.reduceEqDiff, Nat.add_assoc, Nat.succ_ne_zero]
    refine br_dec (fun _ => ?_) fun _ => hj _ h (Fr.refl _ _)
    refine br_intro (fun e => ?_) fun _ => hj _ h (Fr.refl _ _)
    simp [hlost] at e
  rw [if_pos hlost] at hj
  refine loop1 (fun n u W => ∃ i : Nat, u = i64 i ∧ i + n = l.length ∧ CG W g bs pv (takeAll s now (l.take i)) ∧ Fr (fL bs) w W) ?_ l.length ⟨0, rfl, by omega, h, Fr.refl _ _⟩
  rintro n u W X ⟨i, rfl, hi, hI, hF⟩ hX
  simp only [push_cast, Nat.reduceAdd, Nat.reduceLeDiff, Nat.reduceLT, Int.reduceToNat, Nat.left_eq_add, Nat.add_eq_left, Nat.add_left_cancel_iff, Nat.reduceEqDiff, Nat.add_assoc, Nat.succ_ne_zero]
  refine br_dec (fun hlt => ?_) fun hge => ?_
  · refine br_intro (fun _ => ?_) fun e => ?_
    · have hil : i < l.length := by omega
      have hw1 : IntKind.i64.wrap ((i : Int) + 1) = ((i + 1 : Nat) : Int) := by rw [wrap_i64 (by omega)]; rfl
      have hvd : RdE 24 W.drew _ (l.map Tld.cells) := hv.fr (hF.trans (Fr.drew W)) hd
      refine s_iaE (es := l.map Tld.cells) hvd (by omega) (by simpa using hil) fun b1 o1 c1 _ hE => ?_
      simp only [Int.toNat_natCast, List.getElem_map] at hE ⊢
      have h1 : cellAt W.heap[b1]? (o1 + i * 24) = some (i64 l[i].port) := hE.cell0 (by rw [Tld.len]; decide)
      simp only [push_cast, Nat.reduceAdd, Nat.reduceLeDiff, Nat.reduceLT, Int.reduceToNat, Nat.left_eq_add, Nat.add_eq_left, Nat.add_left_cancel_iff, Nat.reduceEqDiff, Nat.add_assoc, Nat.succ_ne_zero, h1]
      refine s_iaE (es := l.map Tld.cells) hvd (by omega) (by simpa using hil) fun b2 o2 c2 _ hE2 => ?_
      simp only [Int.toNat_natCast, List.getElem_map] at hE2 ⊢
      have h3 : aggAt W.heap[b2]? (o2 + (i * 24 + 1)) 23 = some (.agg l[i].l.cells.toArray) := by
        have := hE2.agg 1 23 (by rw [Tld.len]; decide)
        rw [Tld.d_l, Nat.add_assoc] at this
        exact this
      simp only [push_cast, Nat.reduceAdd, Nat.reduceLeDiff, Nat.reduceLT, Int.reduceToNat, Nat.left_eq_add, Nat.add_eq_left, Nat.add_left_cancel_iff, Nat.reduceEqDiff, Nat.add_assoc, Nat.succ_ne_zero, h3]
      have hwI := Grp.wf.takeAll (l := l.take i) (fun x hx => hl x (List.mem_of_mem_take hx)) now hw
      refine gtake_spec (hI.fr0 (Fr.drew W)) hwI (hl _ (List.getElem_mem hil)).2 fun W2 h2 f2 => ?_
      simp only [push_cast, Nat.reduceAdd, Nat.reduceLeDiff, Nat.reduceLT, Int.reduceToNat, Nat.left_eq_add, Nat.add_eq_left, Nat.add_left_cancel_iff, Nat.reduceEqDiff, Nat.add_assoc, Nat.succ_ne_zero, hw1]
      refine hX (l.length - (i + 1)) _ _ (by omega) ⟨i + 1, rfl, by omega, ?_, (hF.trans (Fr.drew W)).trans f2⟩
      rw [take_snoc hil, takeAll_snoc]
      exact h2
    · simp [hlost] at e
  · rw [List.take_of_length_le (by omega)] at hI
    exact hj _ hI hF

end

end Go.Gx.S
end

section
/- A pair of groups; a check that groups do something. -/
set_option linter.unusedVariables false
set_option linter.unusedSimpArgs false
set_option maxRecDepth 100000
namespace Go.Gx.S
open Go Go.Gx Go.Proofs Go.Sort
variable {K : Value → World → Prop} {w : World} {g : Nat} {bs : List B3} {pv fv : Value} {s : Grp}

/-! ### Plain -/

def idA : Idn := ⟨1, ⟨2, 0, 0, 0, 0, 0⟩⟩
def idB : Idn := ⟨9, ⟨4, 0, 0, 0, 0, 0⟩⟩
theorem isB_n {n : Int} (h : 0 ≤ n ∧ n ≤ 255) : isB n := by unfold isB; omega
theorem idA_ok : idA.ok := ⟨isI_iff.2 (by show (_ : Int) ≤ 1 ∧ (1 : Int) ≤ _; omega), isB_n (by decide), isB_n (by decide), isB_n (by decide), isB_n (by decide), isB_n (by decide), isB_n (by decide)⟩
theorem idB_ok : idB.ok := ⟨isI_iff.2 (by show (_ : Int) ≤ 9 ∧ (9 : Int) ≤ _; omega), isB_n (by decide), isB_n (by decide), isB_n (by decide), isB_n (by decide), isB_n (by decide), isB_n (by decide)⟩

def upTo (n : Nat) : List Int := (List.range n).map fun (i : Nat) => (i : Int) + 1
theorem upTo_succ (n : Nat) : upTo (n + 1) = upTo n ++ [(n : Int) + 1] := by unfold upTo; rw [List.range_succ, List.map_append]; rfl
theorem upTo_len (n : Nat) : (upTo n).length = n := by unfold upTo; simp
theorem upTo_mem {n : Nat} {x : Int} : x ∈ upTo n ↔ 1 ≤ x ∧ x ≤ n := by
  unfold upTo
  rw [List.mem_map]
  constructor
  · rintro ⟨i, hi, rfl⟩
    have := List.mem_range.1 hi
    omega
  · rintro ⟨h1, h2⟩
    exact ⟨(x - 1).toNat, List.mem_range.2 (by omega), by omega⟩
theorem upTo_lt (n : Nat) : (upTo n).Pairwise (· < ·) := by
  unfold upTo
  refine List.Pairwise.map (R := (· < ·)) _ (fun a b h => ?_) List.pairwise_lt_range
  show (a : Int) + 1 < b + 1
  omega
theorem upTo_nodup (n : Nat) : (upTo n).Nodup := (upTo_lt n).imp fun {a b} h => by omega
theorem upTo_srt (n : Nat) : srtI (upTo n) = upTo n := (srt_eq (List.Perm.refl _) ((upTo_lt n).imp fun {a b} h => by omega)).symm
theorem upTo_arg {sys : Idn} {key most : Int} {n : Nat} (h1 : 1 ≤ n) (h2 : n ≤ 8) (hm : 1 ≤ most ∧ most ≤ 32) (hs : wth 65535 sys.prio) (hk : wth 65535 key) : argOk sys key (upTo n) most :=
  ⟨by rw [upTo_len]; exact h1, by rw [upTo_len]; omega, hm.1, hm.2, fun p hp => (upTo_mem.1 hp).1, fun p hp => by
    have := upTo_mem.1 hp
    refine ⟨hs, hk, by show wth 65535 128; decide, ?_, by show wth 255 7; decide⟩
    unfold wth; show 0 ≤ p ∧ p ≤ 65535; omega⟩

def enK (s : Grp) : Nat → Grp
  | 0 => s
  | k + 1 => (enK s k).enableP ((k : Int) + 1) true 0
theorem enK_wf (h : s.wf) : ∀ k, (enK s k).wf
  | 0 => h
  | k + 1 => (enK_wf h k).enableP _ true 0
/-- the two groups of a pair -/
def preP (sys : Idn) (key : Int) (n : Nat) (most : Int) : Grp := ⟨(upTo n).map (newLk sys key), most⟩
theorem newG_rng (sys : Idn) (key : Int) (n : Nat) (most : Int) : newG sys key (upTo n) most = preP sys key n most := by unfold newG preP; rw [upTo_srt]
def pairA (n : Nat) (most : Int) : Grp := enK (preP idA 5 n most) n
def pairB (n : Nat) (most : Int) : Grp := enK (preP idB 6 n most) n
section
variable {n : Nat} {most : Int}
theorem preA_wf (h1 : 1 ≤ n) (h2 : n ≤ 8) (hm : 1 ≤ most ∧ most ≤ 32) : (preP idA 5 n most).wf := newG_rng idA 5 n most ▸ newG_wf idA_ok (upTo_arg h1 h2 hm (by decide) (by decide))
theorem preB_wf (h1 : 1 ≤ n) (h2 : n ≤ 8) (hm : 1 ≤ most ∧ most ≤ 32) : (preP idB 6 n most).wf := newG_rng idB 6 n most ▸ newG_wf idB_ok (upTo_arg h1 h2 hm (by decide) (by decide))
theorem pairA_wf (h1 : 1 ≤ n) (h2 : n ≤ 8) (hm : 1 ≤ most ∧ most ≤ 32) : (pairA n most).wf := enK_wf (preA_wf h1 h2 hm) n
theorem pairB_wf (h1 : 1 ≤ n) (h2 : n ≤ 8) (hm : 1 ≤ most ∧ most ≤ 32) : (pairB n most).wf := enK_wf (preB_wf h1 h2 hm) n
end

/-! ### Memory -/

theorem build_id2 {p : Int} {m : Mac} : opS Try.prog (S.build 58 [(0, .int .i64 p), (1, .agg m.cells.toArray)]) K w = K (.agg (Idn.cells ⟨p, m⟩).toArray) w := by
  rw [opS_build _ rfl]; rfl
theorem build_mac1 {n : Int} : opS Try.prog (S.build 34 [(0, .int .u8 n)]) K w = K (.agg (Mac.cells ⟨n, 0, 0, 0, 0, 0⟩).toArray) w := by
  rw [opS_build _ rfl]; rfl
theorem own2 {a b : Int} : opS Try.prog (S.build 53 [(0, i64 a), (1, i64 b)]) K w = K (.agg [i64 a, i64 b].toArray) w := by
  rw [opS_build _ rfl]; rfl

theorem sameints_spec {a b : Value} {l r : List Int} (ha : RdE 1 w a (l.map cellI)) (hb : RdE 1 w b (r.map cellI)) (hn : l.length < 2 ^ 62) (h : ∀ w', Fr none_ w w' → K (.bool (decide (l = r))) w') : CallsR Try.prog 22 #[a, b] K w := by
  apply c22
  unfold p22
  obtain ⟨aa, ac, rfl⟩ := ha.form
  obtain ⟨ba, bc, rfl⟩ := hb.form
  rw [List.length_map] at ha hb ⊢
  rw [List.length_map]
  simp only [push_cast, Nat.reduceAdd, Nat.reduceLeDiff, Nat.reduceLT, Int.reduceToNat, Nat.left_eq_add, Nat.add_eq_left, Nat.add_left_cancel_iff, Nat.reduceEqDiff, Nat.add_assoc, Nat.succ_ne_zero]
  refine br_intro (fun hne => ?_) fun heq => ?_
  · have : l ≠ r := fun e => by subst e; simp at hne
    rw [decide_eq_false this] at h
    exact h _ (Fr.refl _ _)
  · have hl : l.length = r.length := by
      have : (l.length : Int) = r.length := by simpa using heq
      omega
    refine jn0 (fun w' => Fr none_ w w' ∧ l = r) (fun w' ⟨hF, e⟩ => ?_) fun j hj => ?_
    · rw [decide_eq_true e] at h
      exact h _ hF
    refine loop1 (fun m v w' => ∃ i : Nat, v = i64 i ∧ i + m = l.length ∧ Fr none_ w w' ∧ l.take i = r.take i) ?_ l.length ⟨0, rfl, by omega, Fr.refl _ _, rfl⟩
    rintro m v w' X ⟨i, rfl, hi, hF, htk⟩ hX
    simp only [push_cast, Nat.reduceAdd, Nat.reduceLeDiff, Nat.reduceLT, Int.reduceToNat, Nat.left_eq_add, Nat.add_eq_left, Nat.add_left_cancel_iff, Nat.reduceEqDiff, Nat.add_assoc, Nat.succ_ne_zero]
    refine br_dec (fun hlt => ?_) fun hge => hj _ ⟨hF, ?_⟩
    · have hi2 : i < l.length := by omega
      refine s_iaE (es := l.map cellI) (ha.fr hF.step_drew (fun _ _ h => h)) (by omega) (by simpa using hi2) fun b1 o1 c1 _ hE => ?_
      simp only [Int.toNat_natCast, List.getElem_map] at hE ⊢
      have hE0 := hE.cell0 (show 0 < 1 by decide)
      simp only [push_cast, Nat.reduceAdd, Nat.reduceLeDiff, Nat.reduceLT, Int.reduceToNat, Nat.left_eq_add, Nat.add_eq_left, Nat.add_left_cancel_iff, Nat.reduceEqDiff, Nat.add_assoc, Nat.succ_ne_zero, cellI] at hE0
      simp only [push_cast, Nat.reduceAdd, Nat.reduceLeDiff, Nat.reduceLT, Int.reduceToNat, Nat.left_eq_add, Nat.add_eq_left, Nat.add_left_cancel_iff, Nat.reduceEqDiff, Nat.add_assoc, Nat.succ_ne_zero, hE0]
      refine s_iaE (es := r.map cellI) (hb.fr hF.step_drew (fun _ _ h => h)) (by omega) (by simpa using hl ▸ hi2) fun b2 o2 c2 _ hE2 => ?_
      simp only [Int.toNat_natCast, List.getElem_map] at hE2 ⊢
      have hE3 := hE2.cell0 (show 0 < 1 by decide)
      simp only [push_cast, Nat.reduceAdd, Nat.reduceLeDiff, Nat.reduceLT, Int.reduceToNat, Nat.left_eq_add, Nat.add_eq_left, Nat.add_left_cancel_iff, Nat.reduceEqDiff, Nat.add_assoc, Nat.succ_ne_zero, cellI] at hE3
      simp only [push_cast, Nat.reduceAdd, Nat.reduceLeDiff, Nat.reduceLT, Int.reduceToNat, Nat.left_eq_add, Nat.add_eq_left, Nat.add_left_cancel_iff, Nat.reduceEqDiff, Nat.add_assoc, Nat.succ_ne_zero, hE3]
      have hw : IntKind.i64.wrap ((i : Int) + 1) = ((i + 1 : Nat) : Int) := by rw [wrap_i64 (by omega)]; omega
      refine br_intro (fun hd => ?_) fun hd => ?_
      · have : l ≠ r := fun e => by subst e; simp at hd
        rw [decide_eq_false this] at h
        exact h _ hF.step_drew
      · have he : l[i] = r[i] := by simpa using hd
        simp only [push_cast, Nat.reduceAdd, Nat.reduceLeDiff, Nat.reduceLT, Int.reduceToNat, Nat.left_eq_add, Nat.add_eq_left, Nat.add_left_cancel_iff, Nat.reduceEqDiff, Nat.add_assoc, Nat.succ_ne_zero, hw]
        refine hX (m - 1) _ _ (by omega) ⟨i + 1, rfl, by omega, hF.step_drew, ?_⟩
        rw [List.take_add_one, List.take_add_one, htk, List.getElem?_eq_getElem hi2, List.getElem?_eq_getElem (hl ▸ hi2), he]
    · rw [List.take_of_length_le (by omega), List.take_of_length_le (by omega)] at htk
      exact htk

/-! ### Awake -/

def awM : Grp × Grp := meetK 0 0 (pairA 2 8, pairB 2 8) 8
theorem aw_fact : awM.1.up = [1, 2] ∧ awM.2.up = [1, 2] := by decide +kernel

theorem lit12 (h : ∀ v w', OwnE 3 1 w' v (([1, 2] : List Int).map cellI) → Fr none_ w w' → New w v → K v w') : opS Try.prog (S.buildS 59 2 [(0, .int .i64 1), (1, .int .i64 2)]) K w :=
  s_bsN (z := .int .i64 0) [i64 1, i64 2] (by show 0 < 2; decide) (by decide) (by show 2 * 1 ≤ 2 ^ 24; decide) rfl (by simp [Value.cells]) fun v w' h1 h2 h3 => h v w' h1 h2 h3

end Go.Gx.S
end

section
/- Tables of VLANs: the plain laws. -/
namespace Go.Gx
open Go
namespace VT

theorem mem_members {t : VT} {v p : Int} : p ∈ t.members v ↔ t.port p ∧ t.is v p = true := by
  unfold members port
  rw [List.mem_filter, List.mem_map]
  constructor
  · rintro ⟨⟨n, hn, rfl⟩, h⟩
    rw [List.mem_range] at hn
    exact ⟨⟨by simp, by simpa using hn⟩, h⟩
  · rintro ⟨⟨h1, h2⟩, h⟩
    exact ⟨⟨p.toNat, by rw [List.mem_range]; omega, by simp; omega⟩, h⟩

theorem inn_eq {t : VT} {p : Int} {f : Frm} {n : Nat} : ∃ u, t.inn p f n = if t.port p ∧ f.right n = true then (if t.is u p = true then (u, 0) else (0, 4)) else (0, 1) := ⟨_, rfl⟩

theorem inn_none {t : VT} {p : Int} {f : Frm} {n : Nat} (h : (t.inn p f n).2 ≠ 0) : (t.inn p f n).1 = 0 := by
  obtain ⟨u, hu⟩ := inn_eq (t := t) (p := p) (f := f) (n := n)
  rw [hu] at h ⊢
  by_cases h1 : t.port p ∧ f.right n = true
  · rw [if_pos h1] at h ⊢
    by_cases h2 : t.is u p = true
    · rw [if_pos h2] at h
      exact absurd rfl h
    · rw [if_neg h2]
  · rw [if_neg h1]

theorem inn_some {t : VT} {p : Int} {f : Frm} {n : Nat} (h : (t.inn p f n).2 = 0) : t.port p ∧ f.right n = true ∧ t.is (t.inn p f n).1 p = true := by
  obtain ⟨u, hu⟩ := inn_eq (t := t) (p := p) (f := f) (n := n)
  rw [hu] at h ⊢
  by_cases h1 : t.port p ∧ f.right n = true
  · rw [if_pos h1] at h ⊢
    by_cases h2 : t.is u p = true
    · rw [if_pos h2]
      exact ⟨h1.1, h1.2, h2⟩
    · rw [if_neg h2] at h
      cases h
  · rw [if_neg h1] at h
    cases h

theorem out_some {t : VT} {v p : Int} {f : Frm} {n : Nat} (h : (t.out v p f n).2 = 0) : t.right v p ∧ f.right n = true ∧ ((getL t.tab (v, p) = some true ∧ (t.out v p f n).1 = f.tag v f.prio) ∨ (getL t.tab (v, p) = some false ∧ (t.out v p f n).1 = f.untag)) := by
  unfold out at *
  split at h
  · rename_i hc
    rw [if_pos hc]
    refine ⟨hc.1, hc.2, ?_⟩
    split at h
    · cases h
    · rename_i hl
      rw [hl]; exact .inl ⟨rfl, rfl⟩
    · rename_i hl
      rw [hl]; exact .inr ⟨rfl, rfl⟩
  · cases h

theorem out_is {t : VT} {v p : Int} {f : Frm} {n : Nat} (hr : t.right v p) (hf : f.right n = true) (hi : t.is v p = true) : (t.out v p f n).2 = 0 := by
  unfold out
  rw [if_pos ⟨hr, hf⟩]
  obtain ⟨b, hb⟩ := Option.isSome_iff_exists.1 hi
  rw [hb]
  cases b <;> rfl

theorem right_untag {f : Frm} {n : Nat} (h : f.right n = true) : f.untag.right n = true := by
  unfold Frm.right Frm.untag at *
  simp only [Bool.and_eq_true] at h ⊢
  exact ⟨h.1, by simp⟩

/-- it comes in as what it went out as -/
theorem back_tag {t : VT} {v p : Int} {f : Frm} {n : Nat} (hr : t.right v p) (hf : f.right n = true) (hi : t.is v p = true) : t.inn p (f.tag v f.prio) n = (v, 0) := by
  unfold inn
  rw [if_pos ⟨hr.2.2, tag_right hf hr.1 hr.2.1⟩]
  have h1 := hr.1
  have e : (f.tag v f.prio).vlan = v := rfl
  have h0 : v ≠ 0 := by omega
  rw [e, if_neg h0]
  simp only []
  rw [if_pos hi]

theorem back_untag {t : VT} {v p : Int} {f : Frm} {n : Nat} (hr : t.right v p) (hf : f.right n = true) (hi : t.is v p = true) : (t.native p v).1.inn p f.untag n = (v, 0) := by
  have h1 := hr.1
  have h2 := hr.2.1
  have h3 := hr.2.2
  unfold native
  rw [if_pos ⟨h3, by omega, by omega⟩]
  unfold inn
  have hp : (⟨t.tab, t.nat.set p.toNat v⟩ : VT).port p := by unfold port at *; simpa using h3
  simp only []
  rw [if_pos ⟨hp, right_untag hf⟩]
  have e : f.untag.vlan = 0 := rfl
  have hlt : p.toNat < t.nat.length := by unfold port at h3; omega
  have hg : (t.nat.set p.toNat v).getD p.toNat 0 = v := by
    rw [List.getD_eq_getElem?_getD, List.getElem?_set_self hlt]; rfl
  rw [e, if_pos rfl, hg, if_pos (by exact hi)]

theorem members_native {t : VT} (p v u : Int) : (t.native p v).1.members u = t.members u := by
  unfold native
  split
  · unfold members is; simp
  · rfl

theorem members_step {t t' : VT} {u : Int} (hn : t'.nat.length = t.nat.length) (h : ∀ p, t'.is u p = t.is u p) : t'.members u = t.members u := by
  unfold members
  rw [hn]
  exact List.filter_congr fun p _ => h p

theorem members_add {t : VT} {v p u : Int} {b : Bool} (h : v ≠ u) : (t.add v p b).1.members u = t.members u := by
  unfold add
  split
  · refine members_step rfl fun q => ?_
    unfold is
    simp only []
    rw [lookup_setL, if_neg]
    intro e
    exact h (congrArg Prod.fst e).symm
  · rfl

theorem members_remove {t : VT} {v p u : Int} (h : v ≠ u) : (t.remove v p).1.members u = t.members u := by
  unfold remove
  split
  · split
    · refine members_step rfl fun q => ?_
      unfold is
      simp only []
      rw [lookup_delL, if_neg]
      intro e
      exact h (congrArg Prod.fst e).symm
    · rfl
  · rfl

theorem filter_one_less {l : List Int} {f g : Int → Bool} {p : Int} (hn : l.Nodup) (hp : p ∈ l) (hf : f p = true) (hg : g p = false) (h : ∀ q, q ≠ p → g q = f q) : (l.filter g).length + 1 = (l.filter f).length := by
  induction l with
  | nil => cases hp
  | cons a l ih =>
    rw [List.nodup_cons] at hn
    by_cases e : a = p
    · subst e
      rw [List.filter_cons, List.filter_cons, if_neg (by simp [hg]), if_pos hf, List.length_cons]
      have : l.filter g = l.filter f := List.filter_congr fun q hq => h q fun e => hn.1 (e ▸ hq)
      rw [this]
    · have hp' : p ∈ l := by
        rcases List.mem_cons.1 hp with rfl | hp
        · exact absurd rfl e
        · exact hp
      rw [List.filter_cons, List.filter_cons, h a e]
      have := ih hn.2 hp'
      split
      · simp only [List.length_cons]; omega
      · exact this

theorem range_nodup (n : Nat) : ((List.range n).map Int.ofNat).Nodup := by
  refine List.Pairwise.map (R := (· < ·)) _ ?_ List.pairwise_lt_range
  intro a b hab e
  have : (a : Int) = b := e
  omega

theorem members_rise (t : VT) (v : Int) : (t.members v).Pairwise (· < ·) := by
  unfold members
  refine List.Pairwise.filter _ ?_
  refine List.Pairwise.map (R := (· < ·)) _ ?_ List.pairwise_lt_range
  intro a b hab
  show (a : Int) < b
  omega

theorem native_none {t : VT} (h : t.ok) (p : Int) (f : Frm) (hf : f.vlan = 0) (n : Nat) :
    ((t.native p 0).1.inn p f n).1 = 0 ∧ ((t.native p 0).1.inn p f n).2 ≠ 0 ∧ ((t.inn p f n).2 = 1 ∨ (t.native p 0).2 = 0) := by
  by_cases hp : t.port p
  · have hlt : p.toNat < t.nat.length := by unfold port at hp; omega
    have hn : t.native p 0 = ({ t with nat := t.nat.set p.toNat 0 }, 0) := by unfold native; rw [if_pos ⟨hp, by omega, by omega⟩]
    rw [hn]
    have hok := ok_native h p 0
    rw [hn] at hok
    have hno : (⟨t.tab, t.nat.set p.toNat 0⟩ : VT).is 0 p = false := by
      cases hi : (⟨t.tab, t.nat.set p.toNat 0⟩ : VT).is 0 p with
      | false => rfl
      | true =>
        have := is_right hok hi
        have := this.1
        omega
    have hg : (t.nat.set p.toNat 0).getD p.toNat 0 = 0 := by
      rw [List.getD_eq_getElem?_getD, List.getElem?_set_self hlt]; rfl
    refine ⟨?_, ?_, .inr rfl⟩
    all_goals
      unfold inn
      simp only [hf, if_true, hg, hno]
      split <;> simp
  · have hn : t.native p 0 = (t, 1) := by unfold native; rw [if_neg (fun h => hp h.1)]
    rw [hn]
    have : t.inn p f n = (0, 1) := by unfold inn; rw [if_neg (fun h => hp h.1)]
    rw [this]
    exact ⟨rfl, by decide, .inl rfl⟩

end VT
end Go.Gx
end

section
/- What comes in: keys, structs. -/
namespace Go.Gx
open Go Go.ChangeShapes Go.WideShapes Go.ChangeAt Go.RowKit
section
variable {H : Type} {enc : TypeId × Value → H} {P : Program} {w : World} {base : Nat} {spare : Nat → Bool} {held : Bool}

/-- a struct, or an array, that comes in -/
theorem arg_agg {t base' : Nat} {v : Value} {d : DataW H} {ps : List MemPlace} {r : Reach} (hu : (∃ fs, P.underlying t = some (.struct fs)) ∨ ∃ n e, P.underlying t = some (.array n e)) (hok : Value.okWide P w r base' t v) (h : DataW.Trod enc P w base spare held t v d ps) :
    ∃ cs : List Value, v = .agg cs.toArray ∧ ∃ n, DataW.trod enc P w base spare held n t cs = some (d, ps) := by
  obtain ⟨fuel, h⟩ := h
  unfold Value.okWide at hok
  rcases hu with ⟨fs, hu⟩ | ⟨n, e, hu⟩
  · simp only [hu] at hok
    obtain ⟨cs, rfl, _⟩ := hok
    exact ⟨cs.toList, by simp, fuel, h⟩
  · simp only [hu] at hok
    obtain ⟨cs, rfl, _⟩ := hok
    exact ⟨cs.toList, by simp, fuel, h⟩

/-- .. that may be a key -/
theorem arg_key {t base' : Nat} {v : Value} {d : DataW H} {ps : List MemPlace} {r : Reach} (hu : (∃ fs, P.underlying t = some (.struct fs)) ∨ ∃ n e, P.underlying t = some (.array n e)) (hk : P.keyTypeAt 8 t = true) (hok : Value.okWide P w r base' t v) (h : DataW.Trod enc P w base spare held t v d ps) :
    ∃ cs : List Value, v = .agg cs.toArray ∧ ∃ l, P.keyLits 8 t cs = some l := by
  obtain ⟨cs, h1, n, h2⟩ := arg_agg hu hok h
  exact ⟨cs, h1, _, (keyLits_of_trod 8 t hk n cs _ h2).1⟩

/-- bytes that come in -/
theorem trod_bytes {t e n : Nat} {v : Value} {x : DataW H × List MemPlace} (ht : P.underlying t = some (.slice e)) (he : P.underlying e = some (.int .u8)) (hc : P.cellsOf e = 1) (h : DataW.trod enc P w base spare held n t [v] = some x) :
    ∃ bs, ByR w v bs ∧ bs.length ≤ maxLen := by
  obtain ⟨es, h1, h2, h3⟩ := open_rd ht hc (by decide) h
  have key : ∃ bs : List Int, es = bs.map cell1 ∧ ∀ b ∈ bs, isB b := by
    clear h1 h2
    induction es with
    | nil => exact ⟨[], rfl, by simp⟩
    | cons c es ih =>
      obtain ⟨bs, hb, hbs⟩ := ih fun c hc => h3 c (List.mem_cons_of_mem _ hc)
      obtain ⟨m, y, hy⟩ := h3 c (List.mem_cons_self ..)
      obtain ⟨z, rfl, _, hw⟩ := DataW.trod_int he hy
      refine ⟨z :: bs, by rw [hb]; rfl, fun b hb => ?_⟩
      rcases List.mem_cons.1 hb with rfl | hb
      · simp only [Lit.wf, Bool.and_eq_true, decide_eq_true_eq] at hw
        exact hw
      · exact hbs b hb
  obtain ⟨bs, rfl, hbs⟩ := key
  exact ⟨bs, ⟨h1, hbs⟩, by simpa using h2⟩

theorem arg_bytes {t e base' : Nat} {v : Value} {d : DataW H} {ps : List MemPlace} {r : Reach} (ht : P.underlying t = some (.slice e)) (he : P.underlying e = some (.int .u8)) (hc : P.cellsOf e = 1) (hok : Value.okWide P w r base' t v) (h : DataW.Trod enc P w base spare held t v d ps) :
    ∃ bs, ByR w v bs ∧ bs.length ≤ maxLen := by
  obtain ⟨fuel, h⟩ := h
  rw [okWide_slice ht hok] at h
  exact trod_bytes ht he hc h

end
end Go.Gx
end

section
/- Steps, and numbers, that come in. -/
set_option linter.unusedVariables false
set_option maxRecDepth 100000
namespace Go.Gx.S
open Go Go.Gx Go.Proofs

theorem ctLcp : Try.prog.cellsOf 123 = 23 := by kernel_rfl
theorem ktInt : Try.prog.keyTypeAt 8 3 = true := by kernel_rfl
theorem kt2 : Try.prog.keyTypeAt 8 53 = true := by kernel_rfl
theorem ct2 : Try.prog.cellsOf 53 = 2 := by kernel_rfl
theorem inf_dec {d : Nat} {cs : List Value} {l : List Lit} (h : Try.prog.keyLits (d + 3) 107 cs = some l) : ∃ x : Inf, x.ok ∧ cs = x.cells := by
  obtain ⟨hl, ls, h1, rfl⟩ := kl_struct Try.underlying107 h
  rw [ctInfo] at hl
  match cs, hl with
  | [c0, c1, c2, c3, c4, c5, c6, c7, c8, c9, c10], _ =>
  simp only [List.mapM_cons, List.mapM_nil, ctInt, ctMac, bind, Option.bind_eq_some_iff, pure, Option.some.injEq, List.drop_succ_cons, List.drop_zero, List.take_succ_cons, List.take_zero] at h1
  obtain ⟨y0, g0, _, ⟨y1, g1, _, ⟨y2, g2, _, ⟨y3, g3, _, ⟨y4, g4, _, ⟨y5, g5, _, rfl, rfl⟩, rfl⟩, rfl⟩, rfl⟩, rfl⟩, rfl⟩ := h1
  obtain ⟨k0, e0, _, b0⟩ := kl_int uInt g0
  obtain ⟨m, hm, e1, _⟩ := MacT.dec (d := d) g1
  obtain ⟨k2, e2, _, b2⟩ := kl_int uInt g2
  obtain ⟨k3, e3, _, b3⟩ := kl_int uInt g3
  obtain ⟨k4, e4, _, b4⟩ := kl_int uInt g4
  obtain ⟨k5, e5, _, b5⟩ := kl_int uInt g5
  simp only [List.cons.injEq, and_true] at e0 e2 e3 e4 e5
  subst e0 e2 e3 e4 e5
  simp only [Mac.cells, List.cons.injEq, and_true] at e1
  obtain ⟨rfl, rfl, rfl, rfl, rfl, rfl⟩ := e1
  exact ⟨⟨k0, m, k2, k3, k4, k5⟩, ⟨b0, hm, b2, b3, b4, b5⟩, rfl⟩
theorem lcp_dec {d : Nat} {cs : List Value} {l : List Lit} (h : Try.prog.keyLits (d + 4) 123 cs = some l) : ∃ x : Lcp, x.ok ∧ cs = x.cells := by
  obtain ⟨hl, ls, h1, rfl⟩ := kl_struct Try.underlying123 h
  rw [ctLcp] at hl
  match cs, hl with
  | [a0, a1, a2, a3, a4, a5, a6, a7, a8, a9, a10, b0, b1, b2, b3, b4, b5, b6, b7, b8, b9, b10, c], _ =>
  simp only [List.mapM_cons, List.mapM_nil, ctInt, ctInfo, bind, Option.bind_eq_some_iff, pure, Option.some.injEq, List.drop_succ_cons, List.drop_zero, List.take_succ_cons, List.take_zero] at h1
  obtain ⟨y0, g0, _, ⟨y1, g1, _, ⟨y2, g2, _, rfl, rfl⟩, rfl⟩, rfl⟩ := h1
  obtain ⟨x, hx, e0⟩ := inf_dec g0
  obtain ⟨y, hy, e1⟩ := inf_dec g1
  obtain ⟨k2, e2, _, o2⟩ := kl_int uInt g2
  simp only [List.cons.injEq, and_true] at e2
  subst e2
  simp only [Inf.cells, List.cons.injEq, and_true] at e0 e1
  obtain ⟨rfl, rfl, rfl, rfl, rfl, rfl, rfl, rfl, rfl, rfl, rfl⟩ := e0
  obtain ⟨rfl, rfl, rfl, rfl, rfl, rfl, rfl, rfl, rfl, rfl, rfl⟩ := e1
  exact ⟨⟨x, y, k2⟩, ⟨hx, hy, o2⟩, rfl⟩
theorem ints_dec {es : List (List Value)} (h : ∀ c ∈ es, ∃ l, Try.prog.keyLits 8 3 c = some l) : ∃ st : List Int, (∀ s ∈ st, isI s) ∧ es = st.map cellI := by
  induction es with
  | nil => exact ⟨[], by simp, rfl⟩
  | cons c es ih =>
    obtain ⟨st, h1, h2⟩ := ih fun c hc => h c (List.mem_cons_of_mem _ hc)
    obtain ⟨l, hl⟩ := h c (List.mem_cons_self ..)
    obtain ⟨s, rfl, _, hs⟩ := kl_int uInt hl
    refine ⟨s :: st, fun x hx => ?_, by rw [h2]; rfl⟩
    rcases List.mem_cons.1 hx with rfl | hx
    · exact hs
    · exact h1 x hx

section
variable {H : Type} {enc : TypeId × Value → H} {w : World} {base : Nat} {spare : Nat → Bool} {held : Bool}
theorem arg_ints {base' : Nat} {v : Value} {d : DataW H} {ps : List MemPlace} {r : Reach} (hok : Value.okWide Try.prog w r base' 59 v) (h : DataW.Trod enc Try.prog w base spare held 59 v d ps) : ∃ st : List Int, (∀ s ∈ st, isI s) ∧ RdE 1 w v (st.map cellI) := by
  obtain ⟨es, hes, _, hk⟩ := arg_keys Try.underlying59 ktInt ctInt (by decide) hok h
  obtain ⟨st, h1, rfl⟩ := ints_dec hk
  exact ⟨st, h1, hes⟩
theorem arg_int2 {base' : Nat} {v : Value} {d : DataW H} {ps : List MemPlace} {r : Reach} (hok : Value.okWide Try.prog w r base' 53 v) (h : DataW.Trod enc Try.prog w base spare held 53 v d ps) :
    ∃ a b, isI a ∧ isI b ∧ v = .agg #[i64 a, i64 b] := by
  obtain ⟨cs, rfl, l, hl⟩ := arg_key (.inr ⟨_, _, Try.underlying53⟩) kt2 hok h
  obtain ⟨hc, ls, h1, rfl⟩ := kl_array Try.underlying53 hl
  rw [ct2] at hc
  match cs, hc with
  | [c0, c1], _ =>
  simp only [show List.range 2 = [0, 1] from rfl, List.mapM_cons, List.mapM_nil, ctInt, bind, Option.bind_eq_some_iff, pure, Option.some.injEq, Nat.mul_one, List.drop_succ_cons, List.drop_zero, List.take_succ_cons, List.take_zero] at h1
  obtain ⟨y0, g0, _, ⟨y1, g1, _, rfl, rfl⟩, rfl⟩ := h1
  obtain ⟨k0, e0, rfl, b0⟩ := kl_int uInt g0
  obtain ⟨k1, e1, rfl, b1⟩ := kl_int uInt g1
  simp only [List.cons.injEq, and_true] at e0 e1
  subst e0 e1
  exact ⟨k0, k1, b0, b1, rfl⟩
end
end Go.Gx.S
end

section
/- What the functions of this program ask. -/
set_option linter.unusedVariables false
set_option maxRecDepth 100000
namespace Go.Gx.S
open Go Go.Gx Go.Proofs
-- gemel/gemeltop.TopOneSystem
def p4 (P : Program) (K : Value → World → Prop) (x0 : Value) (x1 : Value) (x2 : Value) : World → Prop :=
  opS P (S.box 53 x2) fun x3 =>
  jnJ 0 (
    opS P (S.build 58 [(0, (.int .i64 1))]) fun x4 =>
    opS P (S.buildS 59 1 [(0, (.int .i64 1))]) fun x5 =>
    opS P (S.cl 18 [x4, (.int .i64 5), x5, (.int .i64 8)]) fun x6 =>
    opS P (S.ext x6 0) fun x7 =>
    opS P (S.ext x6 1) fun x8 =>
    jnJ 1 (fun x9 =>
      K x9
    ) fun j0 =>
    opS P (S.binI .eql x8 (.int .i64 0)) fun x9 =>
    brn x9 (
      opS P (S.binN .neq (S.isNilP x7)) fun x10 =>
      j0 x10
    ) (
      j0 (.bool false)
    )
  ) fun j0 =>
  opS P (S.binI .lss x0 (.int .i64 1)) fun x4 =>
  brn x4 (
    j0
  ) (
    opS P (S.binI .gtr x0 (.int .i64 4)) fun x5 =>
    brn x5 (
      j0
    ) (
      opS P (S.binI .lss x1 (.int .i64 1)) fun x6 =>
      brn x6 (
        j0
      ) (
        opS P (S.binI .gtr x1 (.int .i64 4)) fun x7 =>
        brn x7 (
          j0
        ) (
          opS P (S.ia 53 x3 (.int .i64 0)) fun x8 =>
          opS P (S.ld 3 x8) fun x9 =>
          opS P (S.binI .lss x9 (.int .i64 0)) fun x10 =>
          brn x10 (
            j0
          ) (
            opS P (S.ia 53 x3 (.int .i64 0)) fun x11 =>
            opS P (S.ld 3 x11) fun x12 =>
            opS P (S.binI .gtr x12 (.int .i64 65535)) fun x13 =>
            brn x13 (
              j0
            ) (
              opS P (S.ia 53 x3 (.int .i64 1)) fun x14 =>
              opS P (S.ld 3 x14) fun x15 =>
              opS P (S.binI .lss x15 (.int .i64 0)) fun x16 =>
              brn x16 (
                j0
              ) (
                opS P (S.ia 53 x3 (.int .i64 1)) fun x17 =>
                opS P (S.ld 3 x17) fun x18 =>
                opS P (S.binI .gtr x18 (.int .i64 65535)) fun x19 =>
                brn x19 (
                  j0
                ) (
                  jnJ 3 (fun x20 x21 x22 =>
                    opS P (S.build 34 [(0, (.int .u8 2))]) fun x23 =>
                    opS P (S.build 58 [(0, (.int .i64 1)), (1, x23)]) fun x24 =>
                    opS P (S.alloc 58) fun x25 =>
                    opS P (S.st 58 x25 x24) fun x26 =>
                    opS P (S.build 34 [(0, (.int .u8 4))]) fun x27 =>
                    opS P (S.build 58 [(0, (.int .i64 9)), (1, x27)]) fun x28 =>
                    opS P (S.ia 53 x3 (.int .i64 0)) fun x29 =>
                    opS P (S.ld 3 x29) fun x30 =>
                    opS P (S.cl 18 [x28, x30, x22, (.int .i64 8)]) fun x31 =>
                    opS P (S.ext x31 0) fun x32 =>
                    opS P (S.ext x31 1) fun x33 =>
                    opS P (S.ld 58 x25) fun x34 =>
                    opS P (S.ia 53 x3 (.int .i64 1)) fun x35 =>
                    opS P (S.ld 3 x35) fun x36 =>
                    opS P (S.cl 18 [x34, x36, x20, (.int .i64 8)]) fun x37 =>
                    opS P (S.ext x37 0) fun x38 =>
                    opS P (S.ext x37 1) fun x39 =>
                    opS P (S.ld 58 x25) fun x40 =>
                    opS P (S.ia 53 x3 (.int .i64 1)) fun x41 =>
                    opS P (S.ld 3 x41) fun x42 =>
                    opS P (S.cl 18 [x40, x42, x21, (.int .i64 8)]) fun x43 =>
                    opS P (S.ext x43 0) fun x44 =>
                    opS P (S.ext x43 1) fun x45 =>
                    opS P (S.binI .neq x33 (.int .i64 0)) fun x46 =>
                    brn x46 (
                      K (.bool false)
                    ) (
                      opS P (S.binI .neq x39 (.int .i64 0)) fun x47 =>
                      brn x47 (
                        K (.bool false)
                      ) (
                        opS P (S.binI .neq x45 (.int .i64 0)) fun x48 =>
                        brn x48 (
                          K (.bool false)
                        ) (
                          jnJ 0 (
                            jnJ 0 (
                              opS P (S.cl 23 [x32]) fun x49 =>
                              opS P (S.cl 22 [x49, x22]) fun x50 =>
                              brn x50 (
                                opS P (S.cl 23 [x38]) fun x51 =>
                                opS P (S.cl 22 [x51, x20]) fun x52 =>
                                brn x52 (
                                  opS P (S.cl 23 [x44]) fun x53 =>
                                  opS P (S.cl 22 [x53, x21]) fun x54 =>
                                  K x54
                                ) (
                                  K (.bool false)
                                )
                              ) (
                                K (.bool false)
                              )
                            ) fun j1 =>
                            loopJ 1 (fun j2 x49 =>
                              opS P (S.binI .lss x49 (.int .i64 8)) fun x50 =>
                              brn x50 (
                                opS P (S.cl 20 [x38, x49]) fun x51 =>
                                opS P (S.ext x51 0) fun x52 =>
                                opS P (S.ext x51 1) fun x53 =>
                                opS P (S.cl 20 [x44, x49]) fun x54 =>
                                opS P (S.ext x54 0) fun x55 =>
                                opS P (S.ext x54 1) fun x56 =>
                                opS P (S.cl 20 [x32, x49]) fun x57 =>
                                opS P (S.ext x57 0) fun x58 =>
                                opS P (S.ext x57 1) fun x59 =>
                                opS P (S.cl 21 [x52, x32, x49]) fun x60 =>
                                opS P (S.cl 21 [x55, x32, x49]) fun x61 =>
                                opS P (S.cl 21 [x58, x38, x49]) fun x62 =>
                                opS P (S.cl 21 [x58, x44, x49]) fun x63 =>
                                opS P (S.un .not x60) fun x64 =>
                                brn x64 (
                                  K (.bool false)
                                ) (
                                  opS P (S.un .not x61) fun x65 =>
                                  brn x65 (
                                    K (.bool false)
                                  ) (
                                    opS P (S.un .not x62) fun x66 =>
                                    brn x66 (
                                      K (.bool false)
                                    ) (
                                      opS P (S.un .not x63) fun x67 =>
                                      brn x67 (
                                        K (.bool false)
                                      ) (
                                        opS P (S.binI .add x49 (.int .i64 1)) fun x68 =>
                                        j2 x68
                                      )
                                    )
                                  )
                                )
                              ) (
                                j1
                              )
                            ) (.int .i64 0)
                          ) fun j1 =>
                          loopJ 1 (fun j2 x49 =>
                            opS P (S.binI .add x0 x1) fun x50 =>
                            opS P (S.binI .leq x49 x50) fun x51 =>
                            brn x51 (
                              opS P (S.cl 19 [x32, x49, (.bool true), (.int .i64 0)]) fun x52 =>
                              opS P (S.cl 19 [x38, x49, (.bool true), (.int .i64 0)]) fun x53 =>
                              opS P (S.cl 19 [x44, x49, (.bool true), (.int .i64 0)]) fun x54 =>
                              opS P (S.binI .add x49 (.int .i64 1)) fun x55 =>
                              j2 x55
                            ) (
                              j1
                            )
                          ) (.int .i64 1)
                        )
                      )
                    )
                  ) fun j1 =>
                  loopJ 4 (fun j2 x20 x21 x22 x23 =>
                    opS P (S.binI .add x0 x1) fun x24 =>
                    opS P (S.binI .leq x23 x24) fun x25 =>
                    brn x25 (
                      opS P (S.buildS 59 1 [(0, x23)]) fun x26 =>
                      opS P (S.bi .append #[59, 59] 59 [x22, x26]) fun x27 =>
                      opS P (S.binI .leq x23 x0) fun x28 =>
                      brn x28 (
                        opS P (S.buildS 59 1 [(0, x23)]) fun x29 =>
                        opS P (S.bi .append #[59, 59] 59 [x20, x29]) fun x30 =>
                        opS P (S.binI .add x23 (.int .i64 1)) fun x31 =>
                        j2 x30 x21 x27 x31
                      ) (
                        opS P (S.buildS 59 1 [(0, x23)]) fun x29 =>
                        opS P (S.bi .append #[59, 59] 59 [x21, x29]) fun x30 =>
                        opS P (S.binI .add x23 (.int .i64 1)) fun x31 =>
                        j2 x20 x30 x27 x31
                      )
                    ) (
                      j1 x20 x21 x22
                    )
                  ) (.slice none 0 0) (.slice none 0 0) (.slice none 0 0) (.int .i64 1)
                )
              )
            )
          )
        )
      )
    )
  )
instance fnb4 : FnB Try.prog 4 := ⟨Try.call4⟩
theorem e4 : p4 Try.prog = fun K x0 x1 x2 => denF Try.prog Try.f4 [x0, x1, x2] K := by kernel_rfl
theorem c4 {K : Value → World → Prop} {x0 x1 x2 : Value} {w : World} (h : p4 Try.prog K x0 x1 x2 w) : CallsR Try.prog 4 #[x0, x1, x2] K w := by
  rw [e4] at h
  exact denF_sound mixed Try.func4 h

end Go.Gx.S
-- 4
end

section
/- What the functions of this program ask. -/
set_option linter.unusedVariables false
set_option maxRecDepth 100000
namespace Go.Gx.S
open Go Go.Gx Go.Proofs
-- gemel/gemeltop.over
def p21 (P : Program) (K : Value → World → Prop) (x0 : Value) (x1 : Value) (x2 : Value) : World → Prop :=
  jnJ 0 (
    K (.bool true)
  ) fun j0 =>
  loopJ 1 (fun j1 x3 =>
    opS P (S.len x0) fun x4 =>
    opS P (S.binI .lss x3 x4) fun x5 =>
    brn x5 (
      opS P (S.ia 61 x0 x3) fun x6 =>
      opS P (S.fa 125 x6 1) fun x7 =>
      opS P (S.ld 123 x7) fun x8 =>
      opS P (S.cl 61 [x8]) fun x9 =>
      opS P (S.ext x9 0) fun x10 =>
      opS P (S.ext x9 1) fun x11 =>
      opS P (S.cl 62 [x10]) fun x12 =>
      opS P (S.ext x12 0) fun x13 =>
      opS P (S.ext x12 1) fun x14 =>
      opS P (S.alloc 123) fun x15 =>
      opS P (S.st 123 x15 x13) fun x16 =>
      opS P (S.binI .neq x11 (.int .i64 0)) fun x17 =>
      brn x17 (
        K (.bool false)
      ) (
        opS P (S.binI .neq x14 (.int .i64 0)) fun x18 =>
        brn x18 (
          K (.bool false)
        ) (
          drw <|
          opS P (S.ia 61 x0 x3) fun x19 =>
          opS P (S.fa 125 x19 0) fun x20 =>
          opS P (S.ld 3 x20) fun x21 =>
          opS P (S.ld 123 x15) fun x22 =>
          opS P (S.cl 63 [x1, x21, x22, x2]) fun x23 =>
          opS P (S.binI .add x3 (.int .i64 1)) fun x24 =>
          j1 x24
        )
      )
    ) (
      j0
    )
  ) (.int .i64 0)
instance fnb21 : FnB Try.prog 21 := ⟨Try.call21⟩
theorem e21 : p21 Try.prog = fun K x0 x1 x2 => denF Try.prog Try.f21 [x0, x1, x2] K := by kernel_rfl
theorem c21 {K : Value → World → Prop} {x0 x1 x2 : Value} {w : World} (h : p21 Try.prog K x0 x1 x2 w) : CallsR Try.prog 21 #[x0, x1, x2] K w := by
  rw [e21] at h
  exact denF_sound mixed Try.func21 h

end Go.Gx.S
-- 21
end

section
/- What the functions of this program ask. -/
set_option linter.unusedVariables false
set_option maxRecDepth 100000
namespace Go.Gx.S
open Go Go.Gx Go.Proofs
-- gemel/lacpdu.Decode
def p62 (P : Program) (K : Value → World → Prop) (x0 : Value) : World → Prop :=
  opS P (S.alloc 123) fun x1 =>
  opS P (S.alloc 123) fun x2 =>
  opS P (S.alloc 160) fun x3 =>
  opS P (S.st 160 x3 x0) fun x4 =>
  opS P (S.mkf (.func 96) [] [x3, x2]) fun x5 =>
  opS P (S.cl 95 [x5]) fun x6 =>
  opS P (S.un .not x6) fun x7 =>
  brn x7 (
    opS P (S.build 123 []) fun x8 =>
    opS P (S.st 123 x1 x8) fun x9 =>
    opS P (S.ld 123 x1) fun x10 =>
    K (.tuple #[x10, (.int .i64 2)])
  ) (
    opS P (S.ld 160 x3) fun x8 =>
    opS P (S.len x8) fun x9 =>
    opS P (S.binI .gtr x9 (.int .i64 0)) fun x10 =>
    brn x10 (
      opS P (S.build 123 []) fun x11 =>
      opS P (S.st 123 x1 x11) fun x12 =>
      opS P (S.ld 123 x1) fun x13 =>
      K (.tuple #[x13, (.int .i64 2)])
    ) (
      opS P (S.ld 123 x2) fun x11 =>
      opS P (S.st 123 x1 x11) fun x12 =>
      opS P (S.ld 123 x1) fun x13 =>
      K (.tuple #[x13, (.int .i64 0)])
    )
  )
instance fnb62 : FnB Try.prog 62 := ⟨Try.call62⟩
theorem e62 : p62 Try.prog = fun K x0 => denF Try.prog Try.f62 [x0] K := by kernel_rfl
theorem c62 {K : Value → World → Prop} {x0 : Value} {w : World} (h : p62 Try.prog K x0 w) : CallsR Try.prog 62 #[x0] K w := by
  rw [e62] at h
  exact denF_sound mixed Try.func62 h

-- gemel/lacpdu.guarded
def p95 (P : Program) (K : Value → World → Prop) (x0 : Value) : World → Prop :=
  opS P (S.alloc 4) fun x1 =>
  opS P (S.mkf (.func 126) [] [x1]) fun x2 =>
  opS P (S.isF x2) fun x3 =>
  opS P (S.call x0 []) fun x4 =>
  opS P (S.st 4 x1 (.bool true)) fun x5 =>
  takeD P x2 fun x6 =>
  opS P (S.ld 4 x1) fun x7 =>
  K x7
instance fnb95 : FnB Try.prog 95 := ⟨Try.call95⟩
theorem e95 : p95 Try.prog = fun K x0 => denF Try.prog Try.f95 [x0] K := by kernel_rfl
theorem c95 {K : Value → World → Prop} {x0 : Value} {w : World} (h : p95 Try.prog K x0 w) : CallsR Try.prog 95 #[x0] K w := by
  rw [e95] at h
  exact denF_sound mixed Try.func95 h

-- gemel/lacpdu.Decode$1
def p96 (P : Program) (K : Value → World → Prop) (x0 : Value) (x1 : Value) : World → Prop :=
  opS P (S.buildS 126 2 [(0, (.int .u8 1)), (1, (.int .u8 1))]) fun x2 =>
  opS P (S.cl 97 [x0, x2]) fun x3 =>
  opS P (S.cl 98 [x0, (.int .u8 1)]) fun x4 =>
  opS P (S.cl 98 [x0, (.int .u8 2)]) fun x5 =>
  opS P (S.fa 123 x1 0) fun x6 =>
  opS P (S.st 107 x6 x4) fun x7 =>
  opS P (S.fa 123 x1 1) fun x8 =>
  opS P (S.st 107 x8 x5) fun x9 =>
  opS P (S.buildS 126 2 [(0, (.int .u8 3)), (1, (.int .u8 16))]) fun x10 =>
  opS P (S.cl 97 [x0, x10]) fun x11 =>
  opS P (S.cl 99 [x0]) fun x12 =>
  opS P (S.fa 123 x1 2) fun x13 =>
  opS P (S.st 3 x13 x12) fun x14 =>
  opS P (S.mks 126 (.int .i64 64) (.int .i64 64)) fun x15 =>
  opS P (S.cl 97 [x0, x15]) fun x16 =>
  K (.tuple #[])
instance fnb96 : FnB Try.prog 96 := ⟨Try.call96⟩
theorem e96 : p96 Try.prog = fun K x0 x1 => denF Try.prog Try.f96 [x0, x1] K := by kernel_rfl
theorem c96 {K : Value → World → Prop} {x0 x1 : Value} {w : World} (h : p96 Try.prog K x0 x1 w) : CallsR Try.prog 96 #[x0, x1] K w := by
  rw [e96] at h
  exact denF_sound mixed Try.func96 h

end Go.Gx.S
-- 96 95 62
end

section
/- What the functions of this program ask. -/
set_option linter.unusedVariables false
set_option maxRecDepth 100000
namespace Go.Gx.S
open Go Go.Gx Go.Proofs
-- (*gemel/lacpdu.reader).must
def p97 (P : Program) (K : Value → World → Prop) (x0 : Value) (x1 : Value) : World → Prop :=
  opS P (S.len x1) fun x2 =>
  jnJ 0 (
    K (.tuple #[])
  ) fun j0 =>
  loopJ 1 (fun j1 x3 =>
    opS P (S.binI .lss x3 x2) fun x4 =>
    brn x4 (
      opS P (S.ia 126 x1 x3) fun x5 =>
      opS P (S.ld 5 x5) fun x6 =>
      opS P (S.cl 127 [x0, (.int .i64 1)]) fun x7 =>
      opS P (S.ia 126 x7 (.int .i64 0)) fun x8 =>
      opS P (S.ld 5 x8) fun x9 =>
      opS P (S.binI .neq x9 x6) fun x10 =>
      brn x10 (
        opS P (S.build 190 []) fun x11 =>
        opS P (S.iface 190 x11) fun x12 =>
        fun _ => False
      ) (
        opS P (S.binI .add x3 (.int .i64 1)) fun x11 =>
        j1 x11
      )
    ) (
      j0
    )
  ) (.int .i64 0)
instance fnb97 : FnB Try.prog 97 := ⟨Try.call97⟩
theorem e97 : p97 Try.prog = fun K x0 x1 => denF Try.prog Try.f97 [x0, x1] K := by kernel_rfl
theorem c97 {K : Value → World → Prop} {x0 x1 : Value} {w : World} (h : p97 Try.prog K x0 x1 w) : CallsR Try.prog 97 #[x0, x1] K w := by
  rw [e97] at h
  exact denF_sound mixed Try.func97 h

-- (*gemel/lacpdu.reader).info
def p98 (P : Program) (K : Value → World → Prop) (x0 : Value) (x1 : Value) : World → Prop :=
  opS P (S.alloc 107) fun x2 =>
  opS P (S.buildS 126 2 [(0, x1), (1, (.int .u8 20))]) fun x3 =>
  opS P (S.cl 97 [x0, x3]) fun x4 =>
  opS P (S.cl 99 [x0]) fun x5 =>
  opS P (S.build 107 [(0, x5)]) fun x6 =>
  opS P (S.alloc 107) fun x7 =>
  opS P (S.st 107 x7 x6) fun x8 =>
  drw <|
  opS P (S.fa 107 x7 1) fun x9 =>
  opS P (S.slc 34 x9 none none none) fun x10 =>
  opS P (S.cl 127 [x0, (.int .i64 6)]) fun x11 =>
  opS P (S.bi .copy #[126, 126] 3 [x10, x11]) fun x12 =>
  opS P (S.cl 99 [x0]) fun x13 =>
  opS P (S.cl 99 [x0]) fun x14 =>
  opS P (S.cl 99 [x0]) fun x15 =>
  opS P (S.fa 107 x7 2) fun x16 =>
  opS P (S.st 3 x16 x13) fun x17 =>
  opS P (S.fa 107 x7 3) fun x18 =>
  opS P (S.st 3 x18 x14) fun x19 =>
  opS P (S.fa 107 x7 4) fun x20 =>
  opS P (S.st 3 x20 x15) fun x21 =>
  opS P (S.cl 127 [x0, (.int .i64 1)]) fun x22 =>
  opS P (S.ia 126 x22 (.int .i64 0)) fun x23 =>
  opS P (S.ld 5 x23) fun x24 =>
  opS P (S.convI .i64 x24) fun x25 =>
  opS P (S.fa 107 x7 5) fun x26 =>
  opS P (S.st 3 x26 x25) fun x27 =>
  opS P (S.mks 126 (.int .i64 3) (.int .i64 3)) fun x28 =>
  opS P (S.cl 97 [x0, x28]) fun x29 =>
  opS P (S.ld 107 x7) fun x30 =>
  opS P (S.st 107 x2 x30) fun x31 =>
  opS P (S.ld 107 x2) fun x32 =>
  K x32
instance fnb98 : FnB Try.prog 98 := ⟨Try.call98⟩
theorem e98 : p98 Try.prog = fun K x0 x1 => denF Try.prog Try.f98 [x0, x1] K := by kernel_rfl
theorem c98 {K : Value → World → Prop} {x0 x1 : Value} {w : World} (h : p98 Try.prog K x0 x1 w) : CallsR Try.prog 98 #[x0, x1] K w := by
  rw [e98] at h
  exact denF_sound mixed Try.func98 h

-- (*gemel/lacpdu.reader).number
def p99 (P : Program) (K : Value → World → Prop) (x0 : Value) : World → Prop :=
  opS P (S.cl 127 [x0, (.int .i64 2)]) fun x1 =>
  drw <|
  opS P (S.ia 126 x1 (.int .i64 0)) fun x2 =>
  opS P (S.ld 5 x2) fun x3 =>
  opS P (S.convI .i64 x3) fun x4 =>
  opS P (S.binI .shl x4 (.int .u64 8)) fun x5 =>
  opS P (S.ia 126 x1 (.int .i64 1)) fun x6 =>
  opS P (S.ld 5 x6) fun x7 =>
  opS P (S.convI .i64 x7) fun x8 =>
  opS P (S.binI .or x5 x8) fun x9 =>
  K x9
instance fnb99 : FnB Try.prog 99 := ⟨Try.call99⟩
theorem e99 : p99 Try.prog = fun K x0 => denF Try.prog Try.f99 [x0] K := by kernel_rfl
theorem c99 {K : Value → World → Prop} {x0 : Value} {w : World} (h : p99 Try.prog K x0 w) : CallsR Try.prog 99 #[x0] K w := by
  rw [e99] at h
  exact denF_sound mixed Try.func99 h

-- (*gemel/lacpdu.reader).take
def p127 (P : Program) (K : Value → World → Prop) (x0 : Value) (x1 : Value) : World → Prop :=
  jnJ 0 (
    opS P (S.nc x0) fun x2 =>
    opS P (S.ld 160 x2) fun x3 =>
    opS P (S.slc 160 x3 none (some x1) none) fun x4 =>
    opS P (S.nc x0) fun x5 =>
    opS P (S.ld 160 x5) fun x6 =>
    opS P (S.slc 160 x6 (some x1) none none) fun x7 =>
    opS P (S.nc x0) fun x8 =>
    opS P (S.st 160 x8 x7) fun x9 =>
    K x4
  ) fun j0 =>
  opS P (S.nc x0) fun x2 =>
  opS P (S.ld 160 x2) fun x3 =>
  opS P (S.len x3) fun x4 =>
  opS P (S.binI .gtr x1 x4) fun x5 =>
  brn x5 (
    opS P (S.build 190 []) fun x6 =>
    opS P (S.iface 190 x6) fun x7 =>
    fun _ => False
  ) (
    j0
  )
instance fnb127 : FnB Try.prog 127 := ⟨Try.call127⟩
theorem e127 : p127 Try.prog = fun K x0 x1 => denF Try.prog Try.f127 [x0, x1] K := by kernel_rfl
theorem c127 {K : Value → World → Prop} {x0 x1 : Value} {w : World} (h : p127 Try.prog K x0 x1 w) : CallsR Try.prog 127 #[x0, x1] K w := by
  rw [e127] at h
  exact denF_sound mixed Try.func127 h

end Go.Gx.S
-- 127 97 99 98
end
