/- Own texts, put together. -/
import Derived.Test.YtebfekelonfcgaaDoorQ2
section
/- Bytes that are read as a frame: the reader. -/
set_option linter.unusedVariables false
set_option linter.unusedSimpArgs false
set_option maxRecDepth 100000
namespace Go.Gx.S
open Go Go.Gx Go.Proofs
variable {K Z : Value → World → Prop} {w : World}

/-- what a reader that has too few bytes panics with -/
def shortV : Value := .iface 59 (.agg #[])
theorem build_short : opS Tryd.prog (S.build 59 []) K w = K (.agg #[]) w := by
  rw [opS_build _ rfl]; rfl

theorem by_part {w0 : World} {v v' : Value} {bs : List Int} (h : ByR w0 v bs) {cs : List Int} (hc : ∀ x ∈ cs, x ∈ bs) (h' : RdE 1 w0 v' (cs.map cell1)) : ByR w0 v' cs := ⟨h', fun x hx => h.2 x (hc x hx)⟩

theorem take_spec {w0 : World} {p n : Nat} {v : Value} {bs : List Int} (hp : w.heap[p]? = some (cellsO [v] 61)) (hv : ByR w0 v bs)
    (h : n ≤ bs.length → ∀ v1 v2 w', ByR w0 v1 (bs.take n) → ByR w0 v2 (bs.drop n) → w'.heap[p]? = some (cellsO [v2] 61) → Fr (fun b => b = p) w w' → K v1 w')
    (hz : bs.length < n → Z shortV w) : CallsZ Tryd.prog 29 #[pt p 0, i64 n] K Z w := by
  apply cz29
  unfold z29
  have hml : (bs.map cell1).length = bs.length := List.length_map _
  rw [jn_0]
  obtain ⟨a, c, hva⟩ := hv.form
  simp only [push_cast, Nat.reduceAdd, Nat.reduceLeDiff, Nat.reduceLT, Int.reduceToNat, Nat.left_eq_add, Nat.add_eq_left, Nat.add_left_cancel_iff, Nat.reduceEqDiff, Nat.add_assoc, Nat.succ_ne_zero, hp]
  rw [hva]
  simp only [push_cast, Nat.reduceAdd, Nat.reduceLeDiff, Nat.reduceLT, Int.reduceToNat, Nat.left_eq_add, Nat.add_eq_left, Nat.add_left_cancel_iff, Nat.reduceEqDiff, Nat.add_assoc, Nat.succ_ne_zero]
  refine br_dec (fun hlt => ?_) fun hge => ?_
  · rw [build_short, opS_iface (hT := ⟨Tryd.underlying59⟩)]
    simp only [push_cast, Nat.reduceAdd, Nat.reduceLeDiff, Nat.reduceLT, Int.reduceToNat, Nat.left_eq_add, Nat.add_eq_left, Nat.add_left_cancel_iff, Nat.reduceEqDiff, Nat.add_assoc, Nat.succ_ne_zero]
    exact hz (by omega)
  · simp only [push_cast, Nat.reduceAdd, Nat.reduceLeDiff, Nat.reduceLT, Int.reduceToNat, Nat.left_eq_add, Nat.add_eq_left, Nat.add_left_cancel_iff, Nat.reduceEqDiff, Nat.add_assoc, Nat.succ_ne_zero, hp]
    refine s_slcH0 hv.1 (k := n) (by omega) fun v1 h1 => ?_
    simp only [push_cast, Nat.reduceAdd, Nat.reduceLeDiff, Nat.reduceLT, Int.reduceToNat, Nat.left_eq_add, Nat.add_eq_left, Nat.add_left_cancel_iff, Nat.reduceEqDiff, Nat.add_assoc, Nat.succ_ne_zero, hp]
    refine s_slcL0 hv.1 (k := n) (by omega) fun v2 h2 => ?_
    have o2 : S.oneCell v2 = true := h2.one
    simp only [push_cast, Nat.reduceAdd, Nat.reduceLeDiff, Nat.reduceLT, Int.reduceToNat, Nat.left_eq_add, Nat.add_eq_left, Nat.add_left_cancel_iff, Nat.reduceEqDiff, Nat.add_assoc, Nat.succ_ne_zero, hp, o2]
    rw [← List.map_take] at h1
    rw [← List.map_drop] at h2
    refine h (by omega) v1 v2 _ (by_part hv (fun x hx => List.mem_of_mem_take hx) h1) (by_part hv (fun x hx => List.mem_of_mem_drop hx) h2) ?_ (Fr.step_wr (fp := fun b => b = p) (Fr.refl _ _) (.inl rfl) _ _)
    simp only [push_cast, Nat.reduceAdd, Nat.reduceLeDiff, Nat.reduceLT, Int.reduceToNat, Nat.left_eq_add, Nat.add_eq_left, Nat.add_left_cancel_iff, Nat.reduceEqDiff, Nat.add_assoc, Nat.succ_ne_zero, hp]

/-- a number in two bytes -/
def num2 (bs : List Int) : Int := bs.getD 0 0 * 256 + bs.getD 1 0

theorem by_at0 {w0 : World} {v : Value} {bs : List Int} (h : ByR w0 v bs) (hF : Fr none_ w0 w) {i : Nat} (hi : i < bs.length) {F : Value → World → Prop} (hk : F (u8 (bs.getD i 0)) w) : opS Tryd.prog (S.ia 24 v (.int .i64 i)) (fun x => opS Tryd.prog (S.ld 5 x) F) w := by
  refine s_iaE (h.fr hF fun _ _ h => h).1 (by omega) (by simpa using hi) fun b o c _ he => ?_
  simp only [push_cast, Nat.reduceAdd, Nat.reduceLeDiff, Nat.reduceLT, Int.reduceToNat, Nat.left_eq_add, Nat.add_eq_left, Nat.add_left_cancel_iff, Nat.reduceEqDiff, Nat.add_assoc, Nat.succ_ne_zero]
  rw [he.cell0 (by simp [cell1])]
  simp only [push_cast, Nat.reduceAdd, Nat.reduceLeDiff, Nat.reduceLT, Int.reduceToNat, Nat.left_eq_add, Nat.add_eq_left, Nat.add_left_cancel_iff, Nat.reduceEqDiff, Nat.add_assoc, Nat.succ_ne_zero, List.getElem_map, cell1, Int.toNat_natCast]
  rw [List.getD_eq_getElem?_getD, List.getElem?_eq_getElem hi] at hk
  exact hk

theorem isB_getD {bs : List Int} (h : ∀ x ∈ bs, isB x) (i : Nat) : isB (bs.getD i 0) := by
  rw [List.getD_eq_getElem?_getD]
  cases hi : bs[i]? with
  | none => simp [isB]
  | some x => exact h x (List.mem_of_getElem? hi)

theorem num2_ok {bs : List Int} (h : ∀ x ∈ bs, isB x) : 0 ≤ num2 bs ∧ num2 bs ≤ 65535 := by
  have h0 := isB_getD h 0
  have h1 := isB_getD h 1
  unfold isB at h0 h1
  unfold num2
  omega

theorem number_spec {w0 : World} {p : Nat} {v : Value} {bs : List Int} (hp : w.heap[p]? = some (cellsO [v] 61)) (hv : ByR w0 v bs) (hF : Fr none_ w0 w) (hpn : w0.heap.size ≤ p)
    (h : 2 ≤ bs.length → ∀ v2 w', ByR w0 v2 (bs.drop 2) → w'.heap[p]? = some (cellsO [v2] 61) → Fr (fun b => b = p) w w' → K (i64 (num2 bs)) w')
    (hz : bs.length < 2 → Z shortV w) : CallsZ Tryd.prog 30 #[pt p 0] K Z w := by
  apply cz30
  unfold z30
  simp only [opZ_cl]
  refine take_spec (n := 2) hp hv (fun hl v1 v2 w2 h1 h2 hp2 hF2 => ?_) hz
  have hF02 : Fr none_ w0 w2 := hF.trans_new hF2 fun b hb e => by omega
  have e0 := isB_getD hv.2 0
  have e1 := isB_getD hv.2 1
  unfold isB at e0 e1
  have hl1 : (bs.take 2).length = 2 := by rw [List.length_take]; omega
  simp only [drw_eq]
  refine by_at0 h1 hF02.step_drew (i := 0) (by omega) ?_
  have g0 : (bs.take 2).getD 0 0 = bs.getD 0 0 := by
    match bs, hl with
    | a :: b :: r, _ => rfl
  have g1 : (bs.take 2).getD 1 0 = bs.getD 1 0 := by
    match bs, hl with
    | a :: b :: r, _ => rfl
  rw [g0]
  simp only [push_cast, Nat.reduceAdd, Nat.reduceLeDiff, Nat.reduceLT, Int.reduceToNat, Nat.left_eq_add, Nat.add_eq_left, Nat.add_left_cancel_iff, Nat.reduceEqDiff, Nat.add_assoc, Nat.succ_ne_zero]
  have esh : ∀ (R : Value → World → Prop) W, opS Tryd.prog (S.binI .shl (i64 (bs.getD 0 0)) (.int .u64 8)) R W = R (i64 (bs.getD 0 0 * 256)) W := fun R W => by
    have := opS_shl (P := Tryd.prog) (K := R) (w := W) .i64 .u64 (bs.getD 0 0) 8 (by decide)
    rw [show bs.getD 0 0 * 2 ^ 8 = bs.getD 0 0 * 256 by omega, wrap_i64 (by omega)] at this
    exact this
  rw [wrap_i64 (by omega), esh]
  refine by_at0 h1 hF02.step_drew (i := 1) (by omega) ?_
  rw [g1]
  simp only [push_cast, Nat.reduceAdd, Nat.reduceLeDiff, Nat.reduceLT, Int.reduceToNat, Nat.left_eq_add, Nat.add_eq_left, Nat.add_left_cancel_iff, Nat.reduceEqDiff, Nat.add_assoc, Nat.succ_ne_zero]
  rw [wrap_i64 (by omega), opS_or 8 (by omega) (by omega) (by omega) (by omega) (by omega) (by omega)]
  exact h hl v2 _ h2 hp2 hF2.step_drew

end Go.Gx.S
end

section
/- Bytes that are read as a frame: what is let go. -/
set_option linter.unusedVariables false
set_option linter.unusedSimpArgs false
set_option maxRecDepth 100000
namespace Go.Gx.S
open Go Go.Gx Go.Proofs
variable {K Z : Value → World → Prop} {w : World}

theorem run_storeVar {T n : Nat} {ag : Bool} [hs : Sz Tryd.prog T n ag] {b : Nat} {l : List Value} {T' : TypeId} {v : Value} (hb : w.heap[b]? = some (cellsO l T')) (hv : v.cells.size = n) (h1 : v.cells.toList.all S.oneCell = true) (hle : n ≤ l.length) :
    (storeVar T ⟨b, 0, none⟩ v).run Tryd.prog w = .ok () (wr w b 0 v.cells.toList) := by
  rw [storeVar, Sem.run_bind, hs.size w, Result.andThen_ok, if_neg (by rw [hv]; simp)]
  have := run_storeCells (P := Tryd.prog) v.cells.toList w l.toArray 0 0 hb h1 (by simpa [hv] using hle) (fun j hj => by simp)
  simp only [Nat.add_zero] at this
  rw [this]
  unfold wr
  rw [hb]
  rfl
theorem run_tas (w : World) : (Instr.typeAssert (.iface 59 (.agg #[])) 20 59 true).run Tryd.prog w = .ok (.tuple #[.agg #[], .bool true]) w := by
  unfold Instr.typeAssert
  rw [Sem.run_bind, run_underlying_of Tryd.underlying59, Result.andThen_ok]
  rfl
theorem run_tas_nil (w : World) : (Instr.typeAssert .nilIface 20 59 true).run Tryd.prog w = .ok (.tuple #[.agg #[], .bool false]) w := by
  unfold Instr.typeAssert
  rw [Sem.run_bind, run_underlying_of Tryd.underlying59, Result.andThen_ok]
  show (do pure (.tuple #[← zeroValue 59, .bool false]) : Sem Value).run Tryd.prog w = _
  rw [Sem.run_bind, Tryd.zeroValue59, Result.andThen_ok]
  rfl

theorem read1_short {s t : Nat} {g : Frm} {b : Bool} (hs : w.heap[s]? = some (cellsO g.cells 26)) (ht : w.heap[t]? = some (cellsO [.bool b] 4)) (hst : s ≠ t) {R : World → Prop}
    (h : ∀ w', w'.heap[s]? = some (cellsO zFrm.cells 26) → w'.heap[t]? = some (cellsO [.bool false] 4) → Fr (fun x => x = s ∨ x = t) w w' → R w') :
    CallsDIn Fence.wide 0 Tryd.prog 28 #[pt s 0, pt t 0] (.panicking [{ v := shortV, recovered := false }]) w fun e u' w' => (∃ v, e = .returned v) ∧ settle u' = .returning ∧ R w' := by
  refine callsDIn_of_wpSIn Tryd.func28 rfl trivial fun c₀ cs hu => ?_
  apply wpSIn_seq
  apply wpSIn_region
  simp [wpOpsSIn, go_sem, recoverD, hu, Tryd.ntmps28, Exit.thenS, shortV, run_tas]
  apply wpSIn_seq
  apply wpSIn_region
  simp [wpOpsSIn, go_sem, Exit.thenS]
  refine wpSIn_cond (t := true) (by simp [Act.eval]) ?_
  simp only [if_true]
  refine wpSIn_of_wpIn rfl (wpIn_region (wpSL_sound (ro := none) (zq := none) (top := false) (fun z hz => by cases hz) (fun h => by cases h) _ _ _ ?_))
  simp only [wpSL, wpSD, wpS, wpR, Region.wanted, semL, howOf, Act.eval, Act.put, List.range, List.range.loop, Bool.false_eq_true, if_false, List.size_toArray, List.length_cons, List.length_nil, Nat.zero_add, Nat.reduceAdd, List.getElem?_toArray, List.getElem?_cons_zero, List.getElem?_cons_succ, if_true, Array.toList_empty, List.map_nil]
  simp
  rw [build_zFrm]
  have hs1 : (w.alloc (cellsO [] 59)).heap[s]? = some (cellsO g.cells 26) := (heap_alloc_lt (lt_of_heap hs)).trans hs
  have ht1 : (w.alloc (cellsO [] 59)).heap[t]? = some (cellsO [.bool b] 4) := (heap_alloc_lt (lt_of_heap ht)).trans ht
  have hF : Fr none_ w (w.alloc (cellsO [] 59)) := (by repeat' first | with_reducible exact Fr.refl _ _ | with_reducible refine Fr.step_alloc ?_ ?_ | with_reducible refine Fr.step_drew ?_ | with_reducible refine Fr.step_wr ?_ ?_ _ _ | exact rfl | exact Or.inr (by omega) | exact Or.inl rfl | exact Or.inl (Or.inl rfl) | exact Or.inl (Or.inr rfl))
  have e1 : w.alloc (Obj.cells #[] 59) = w.alloc (cellsO [] 59) := rfl
  rw [e1]
  generalize w.alloc (cellsO [] 59) = W at *
  have o1 : zFrm.cells.all S.oneCell = true := rfl
  have hts : t ≠ s := fun e => hst e.symm
  simp only [push_cast, Nat.reduceAdd, Nat.reduceLeDiff, Nat.reduceLT, Int.reduceToNat, Nat.left_eq_add, Nat.add_eq_left, Nat.add_left_cancel_iff, Nat.reduceEqDiff, Nat.add_assoc, Nat.succ_ne_zero, hs1, ht1, hst, hts, o1]
  cases c₀
  simp [bodyPostS, results, Tryd.results28, settle]
  refine h _ ?_ ?_ (Fr.step_wr (Fr.step_wr (hF.mono fun _ _ h => h.elim) (.inl (.inl rfl)) _ _) (.inl (.inr rfl)) _ _)
  · simp only [push_cast, Nat.reduceAdd, Nat.reduceLeDiff, Nat.reduceLT, Int.reduceToNat, Nat.left_eq_add, Nat.add_eq_left, Nat.add_left_cancel_iff, Nat.reduceEqDiff, Nat.add_assoc, Nat.succ_ne_zero, hs1, ht1, hst, hts]
  · simp only [push_cast, Nat.reduceAdd, Nat.reduceLeDiff, Nat.reduceLT, Int.reduceToNat, Nat.left_eq_add, Nat.add_eq_left, Nat.add_left_cancel_iff, Nat.reduceEqDiff, Nat.add_assoc, Nat.succ_ne_zero, hs1, ht1, hst, hts]

theorem read1_idle {s t : Nat} (w : World) : CallsDIn Fence.wide 0 Tryd.prog 28 #[pt s 0, pt t 0] .returning w fun e u' w' => (∃ v, e = .returned v) ∧ u' = .returning ∧ w' = w.alloc (cellsO [] 59) := by
  refine callsDIn_of_wpSIn Tryd.func28 rfl trivial fun c₀ cs hu => ?_
  apply wpSIn_seq
  apply wpSIn_region
  simp [wpOpsSIn, go_sem, recoverD, hu, Tryd.ntmps28, Exit.thenS, run_tas_nil]
  apply wpSIn_seq
  apply wpSIn_region
  simp [wpOpsSIn, go_sem, Exit.thenS]
  refine wpSIn_cond (t := false) (by simp [Act.eval]) ?_
  simp only [Bool.false_eq_true, if_false]
  refine wpSIn_of_wpIn rfl (wpIn_skip ?_)
  cases c₀
  simp_all [bodyPostS, results, Tryd.results28]
  rfl

/-- a reader's panic is let go: the frame is none -/
theorem read_let {s t : Nat} {g : Frm} {b : Bool} (hs : w.heap[s]? = some (cellsO g.cells 26)) (ht : w.heap[t]? = some (cellsO [.bool b] 4)) (hst : s ≠ t)
    (h : ∀ w', Fr (fun x => x = s ∨ x = t) w w' → K (.tuple #[.agg zFrm.cells.toArray, .bool false]) w') :
    dpanS Tryd.prog (.func (.func 28) #[] #[pt s 0, pt t 0]) shortV (fun x8 => opS Tryd.prog (S.ld 26 (pt s 0)) fun x9 => opS Tryd.prog (S.ld 4 (pt t 0)) fun x10 => K (.tuple #[x9, x10])) w := by
  refine ⟨_, _, rfl, read1_short hs ht hst fun w' h1 h2 hF => ?_⟩
  simp only [push_cast, Nat.reduceAdd, Nat.reduceLeDiff, Nat.reduceLT, Int.reduceToNat, Nat.left_eq_add, Nat.add_eq_left, Nat.add_left_cancel_iff, Nat.reduceEqDiff, Nat.add_assoc, Nat.succ_ne_zero, h1, h2]
  exact h w' hF

/-- nothing panicked -/
theorem read_end {s t : Nat} {R : Value → World → Prop} (h : ∀ w', Fr none_ w w' → R undef w') : dcallS Tryd.prog (.func 28) #[] #[pt s 0, pt t 0] R w := by
  refine ⟨_, _, rfl, (read1_idle (s := s) (t := t) w).mono ?_⟩
  rintro e u' w' ⟨he, hu, rfl⟩
  exact ⟨he, hu, h _ (by repeat' first | with_reducible exact Fr.refl _ _ | with_reducible refine Fr.step_alloc ?_ ?_ | with_reducible refine Fr.step_drew ?_ | with_reducible refine Fr.step_wr ?_ ?_ _ _ | exact rfl | exact Or.inr (by omega) | exact Or.inl rfl | exact Or.inl (Or.inl rfl) | exact Or.inl (Or.inr rfl))⟩

theorem clone_spec {v : Value} {bs : List Int} (hv : ByR w v bs) (hl : bs.length ≤ 2 ^ 30) (h : ∀ v' w', ByR w' v' bs → New w v' → Fr none_ w w' → K v' w') : CallsR Tryd.prog 31 #[v] K w := by
  apply c31
  unfold p31
  obtain ⟨a, c, hva⟩ := hv.form
  have e : S.isNilS v = some a.isNone := by rw [hva]; rfl
  rw [e]
  simp only [push_cast, Nat.reduceAdd, Nat.reduceLeDiff, Nat.reduceLT, Int.reduceToNat, Nat.left_eq_add, Nat.add_eq_left, Nat.add_left_cancel_iff, Nat.reduceEqDiff, Nat.add_assoc, Nat.succ_ne_zero]
  refine br_intro (fun hn => ?_) fun hn => ?_
  · have : a = none := by simpa using hn
    subst this
    have hb : bs = [] := by
      rcases hv.1.1 with ⟨_, h2, _⟩ | ⟨b, o, c', cs, T, fz, hv', _⟩
      · exact List.map_eq_nil_iff.1 (List.eq_nil_of_length_eq_zero h2)
      · rw [hva] at hv'; cases hv'
    subst hb
    exact h _ _ (ByR.nil _ _ _) (fun b hb => by cases hb) (Fr.refl _ _)
  · refine s_bs0 fun v1 w1 h1 hF1 hN1 => ?_
    have hv1 := hv.fr hF1 fun _ _ h => h
    refine s_app (z := .int .u8 0) (sz := 1) (by_ := 1) rfl (by decide) h1 hv1.1 (flat_cell1_one bs) (by simp; omega) fun v2 w2 h2 hb2 hF2 => ?_
    have hF : Fr none_ w w2 := hF1.trans_new hF2 fun b hb e => absurd (hN1 b e) (by omega)
    refine h v2 w2 ⟨h2.rd, hv.2⟩ (fun b hb => ?_) hF
    rcases hb2 with hb2 | hb2
    · exact hN1 b (hb2 ▸ hb)
    · have := hb2 b hb
      have := hF1.size
      omega

end Go.Gx.S
end

section
/- Bytes that are read as a frame: read. -/
set_option linter.unusedVariables false
set_option linter.unusedSimpArgs false
set_option maxRecDepth 100000
namespace Go.Gx.S
open Go Go.Gx Go.Proofs
variable {K Z : Value → World → Prop} {w : World}

def macOf (bs : List Int) : Mac := ⟨bs.getD 0 0, bs.getD 1 0, bs.getD 2 0, bs.getD 3 0, bs.getD 4 0, bs.getD 5 0⟩
/-- the frame of bytes, but for its body, and that -/
def rdF (bs : List Int) : Option (Frm × List Int) :=
  if bs.length < 14 then none
  else if num2 (bs.drop 12) = 33024 then
    (if bs.length < 18 then none else some (⟨macOf bs, macOf (bs.drop 6), true, num2 (bs.drop 14) % 8192, num2 (bs.drop 14) / 8192, num2 (bs.drop 16), .slice none 0 0⟩, bs.drop 18))
  else some (⟨macOf bs, macOf (bs.drop 6), false, 0, 0, num2 (bs.drop 12), .slice none 0 0⟩, bs.drop 14)

/-- while it is read: the frame that lies at s, whether it is fine, and the bytes that are left -/
structure RI (w : World) (g : Frm) (bs : List Int) (w' : World) : Prop where
  f : w'.heap[w.heap.size]? = some (cellsO g.cells 26)
  b : w'.heap[w.heap.size + 1]? = some (cellsO [.bool false] 4)
  r : ∃ v, w'.heap[w.heap.size + 2]? = some (cellsO [v] 61) ∧ ByR w v bs
  fr : Fr none_ w w'

theorem RI.drew {g : Frm} {bs : List Int} {w' : World} (h : RI w g bs w') : RI w g bs w'.drew := ⟨h.f, h.b, h.r, h.fr.step_drew⟩
/-- the frame is written -/
theorem RI.put {g g' : Frm} {bs : List Int} {w' : World} (h : RI w g bs w') {o : Nat} {vs : List Value} (he : splice g.cells o vs = g'.cells) : RI w g' bs (wr w' w.heap.size o vs) := by
  obtain ⟨h1, h2, ⟨v, h3, h4⟩, h5⟩ := h
  refine ⟨?_, ?_, ⟨v, ?_, h4⟩, h5.step_wr (.inr (Nat.le_refl _)) _ _⟩
  · rw [heap_wr, if_pos rfl, h1, putAt_cells, he]
  · rw [heap_wr, if_neg (by omega)]; exact h2
  · rw [heap_wr, if_neg (by omega)]; exact h3
/-- the reader has gone on -/
theorem RI.on {g : Frm} {bs cs : List Int} {w' w'' : World} {v2 : Value} (h : RI w g bs w') (hF : Fr (fun b => b = w.heap.size + 2) w' w'') (hp : w''.heap[w.heap.size + 2]? = some (cellsO [v2] 61)) (hv : ByR w v2 cs) : RI w g cs w'' :=
  ⟨hF.heap h.f (by omega), hF.heap h.b (by omega), ⟨v2, hp, hv⟩, h.fr.trans_new hF fun b hb e => by omega⟩

abbrev letV (w : World) : Value := .func (.func 28) #[] #[pt w.heap.size 0, pt (w.heap.size + 1) 0]

theorem RI.let {g : Frm} {bs : List Int} {w' : World} (h : RI w g bs w') (hk : ∀ w', Fr none_ w w' → K (.tuple #[.agg zFrm.cells.toArray, .bool false]) w') :
    dpanS Tryd.prog (letV w) shortV (fun x8 => opS Tryd.prog (S.ld 26 (pt w.heap.size 0)) fun x9 => opS Tryd.prog (S.ld 4 (pt (w.heap.size + 1) 0)) fun x10 => K (.tuple #[x9, x10])) w' :=
  read_let h.f h.b (by omega) fun w'' hF => hk _ (h.fr.trans_new hF fun b hb e => by omega)

theorem RI.num {g : Frm} {bs : List Int} {w' : World} {Z : Value → World → Prop} (h : RI w g bs w') (hk : 2 ≤ bs.length → ∀ w'', RI w g (bs.drop 2) w'' → K (i64 (num2 bs)) w'') (hz : bs.length < 2 → Z shortV w') :
    CallsZ Tryd.prog 30 #[pt (w.heap.size + 2) 0] K Z w' := by
  obtain ⟨v, hp, hv⟩ := h.r
  exact number_spec hp hv h.fr (by omega) (fun hl v2 w'' h2 hp2 hF => hk hl w'' (h.on hF hp2 h2)) hz

theorem copy6 {g : Frm} {bs : List Int} {v1 : Value} {w' : World} {off : Nat} (h : RI w g bs w') {cs : List Int} (hv : ByR w v1 cs) (hl : cs.length = 6) (ho : off + 6 ≤ 17) {g' : Frm} (he : splice g.cells off (cs.map u8) = g'.cells) (hk : ∀ u w'', RI w g' bs w'' → K u w'') :
    opS Tryd.prog (S.bi .copy #[24, 24] 3 [.slice (some ⟨w.heap.size, off, none⟩) 6 6, v1]) K w' := by
  have hr := (hv.fr h.fr fun _ _ h => h).1.1
  rw [flat_cell1, List.length_map, hl] at hr
  rw [s_copy (sz := 1) h.f hr (by rw [← flat_cell1]; exact flat_cell1_one cs) (Nat.le_refl _) (by show off + 6 * 1 ≤ 17; omega)]
  exact hk _ _ (h.put he)

theorem rd_copy {g g' : Frm} {bs : List Int} {w' : World} {fi off : Nat} {j : World → Prop} {R : Value → World → Prop} (h : RI w g bs w') (hfa : ∀ (K : Value → World → Prop) W, opS Tryd.prog (S.fa 26 (pt w.heap.size 0) fi) K W = K (pt w.heap.size off) W) (ho : off + 6 ≤ 17)
    (he : 6 ≤ bs.length → splice g.cells off ((bs.take 6).map u8) = g'.cells) (hk : 6 ≤ bs.length → ∀ w'', RI w g' (bs.drop 6) w'' → j w'') (hz : bs.length < 6 → ∀ w'', RI w g bs w'' → R shortV w'') :
    drw (allW (opS Tryd.prog (S.fa 26 (pt w.heap.size 0) fi) fun x7 => allW
        (opS Tryd.prog (S.slc 23 x7 none none none) fun x8 => opZ Tryd.prog (S.cl 29 [pt (w.heap.size + 2) 0, .int .i64 6]) (fun x9 => opS Tryd.prog (S.bi .copy #[24, 24] 3 [x8, x9]) fun x10 => j) fun x9 => R x9)
        (opZ Tryd.prog (S.cl 29 [pt (w.heap.size + 2) 0, .int .i64 6]) (fun x8 => opS Tryd.prog (S.slc 23 x7 none none none) fun x9 => opS Tryd.prog (S.bi .copy #[24, 24] 3 [x9, x8]) fun x10 => j) fun x8 => R x8))
      (opZ Tryd.prog (S.cl 29 [pt (w.heap.size + 2) 0, .int .i64 6]) (fun x7 => opS Tryd.prog (S.fa 26 (pt w.heap.size 0) fi) fun x8 => opS Tryd.prog (S.slc 23 x8 none none none) fun x9 => opS Tryd.prog (S.bi .copy #[24, 24] 3 [x9, x7]) fun x10 => j) fun x7 => R x7)) w' := by
  have hd := h.drew
  simp only [drw_eq]
  generalize w'.drew = W at *
  obtain ⟨v, hp, hv⟩ := hd.r
  have fin : 6 ≤ bs.length → ∀ v1 v2 W', ByR w v1 (bs.take 6) → ByR w v2 (bs.drop 6) → W'.heap[w.heap.size + 2]? = some (cellsO [v2] 61) → Fr (fun b => b = w.heap.size + 2) W W' →
      opS Tryd.prog (S.bi .copy #[24, 24] 3 [.slice (some ⟨w.heap.size, off, none⟩) 6 6, v1]) (fun _ => j) W' := fun hl v1 v2 W' h1 h2 hp2 hF2 =>
    copy6 (hd.on hF2 hp2 h2) h1 (by rw [List.length_take]; omega) ho (he hl) fun u w'' hI => hk hl w'' hI
  refine allW_intro ?_ ?_
  · rw [hfa]
    refine allW_intro ?_ ?_
    · rw [opS_slcA, opZ_cl]
      exact take_spec (n := 6) hp hv fin fun hl => hz hl W hd
    · rw [opZ_cl]
      refine take_spec (n := 6) hp hv (fun hl v1 v2 W' h1 h2 hp2 hF2 => ?_) fun hl => hz hl W hd
      rw [opS_slcA]
      exact fin hl v1 v2 W' h1 h2 hp2 hF2
  · rw [opZ_cl]
    refine take_spec (n := 6) hp hv (fun hl v1 v2 W' h1 h2 hp2 hF2 => ?_) fun hl => hz hl W hd
    rw [hfa, opS_slcA]
    exact fin hl v1 v2 W' h1 h2 hp2 hF2


theorem splice_dst {g : Frm} {bs : List Int} (h : 6 ≤ bs.length) : splice g.cells 0 ((bs.take 6).map u8) = { g with dst := macOf bs }.cells := by
  match bs, h with
  | a :: b :: c :: d :: e :: f :: r, _ => rfl
theorem splice_src {g : Frm} {bs : List Int} (h : 6 ≤ bs.length) : splice g.cells 6 ((bs.take 6).map u8) = { g with src := macOf bs }.cells := by
  match bs, h with
  | a :: b :: c :: d :: e :: f :: r, _ => rfl

theorem zalloc_frm0 : opS Tryd.prog (S.alloc 26) K w = K (pt w.heap.size 0) (w.alloc (cellsO zFrm.cells 26)) := by
  rw [opS_alloc]; rfl
theorem zalloc_bool : opS Tryd.prog (S.alloc 4) K w = K (pt w.heap.size 0) (w.alloc (cellsO [.bool false] 4)) := by
  rw [opS_alloc]; rfl
theorem zalloc_reader : opS Tryd.prog (S.alloc 61) K w = K (pt w.heap.size 0) (w.alloc (cellsO [.slice none 0 0] 61)) := by
  rw [opS_alloc]; rfl

theorem read_spec {v : Value} {bs : List Int} (hv : ByR w v bs) (hl : bs.length ≤ 2 ^ 30)
    (h1 : ∀ f cs, rdF bs = some (f, cs) → ∀ v' w', ByR w' v' cs → New w v' → Fr none_ w w' → K (.tuple #[.agg ({ f with body := v' } : Frm).cells.toArray, .bool true]) w')
    (h0 : rdF bs = none → ∀ w', Fr none_ w w' → K (.tuple #[.agg zFrm.cells.toArray, .bool false]) w') : CallsR Tryd.prog 25 #[v] K w := by
  refine CallsZ.calm ?_
  apply cz25
  unfold z25
  have ov : S.oneCell v = true := hv.one
  rw [zalloc_frm0, zalloc_bool]
  simp only [size_alloc]
  rw [opS_mkf]
  simp only [opS_isF]
  rw [zalloc_reader]
  simp only [push_cast, Nat.reduceAdd, Nat.reduceLeDiff, Nat.reduceLT, Int.reduceToNat, Nat.left_eq_add, Nat.add_eq_left, Nat.add_left_cancel_iff, Nat.reduceEqDiff, Nat.add_assoc, Nat.succ_ne_zero, ov]
  -- what lies there
  refine at_w (fun W => RI w zFrm bs W) ⟨?_, ?_, ⟨v, ?_, hv⟩, (by repeat' first | with_reducible exact Fr.refl _ _ | with_reducible refine Fr.step_alloc ?_ ?_ | with_reducible refine Fr.step_drew ?_ | with_reducible refine Fr.step_wr ?_ ?_ _ _ | exact rfl | exact Or.inr (by omega) | exact Or.inl rfl | exact Or.inl (Or.inl rfl) | exact Or.inl (Or.inr rfl))⟩ fun W0 hI0 => ?_
  · simp only [push_cast, Nat.reduceAdd, Nat.reduceLeDiff, Nat.reduceLT, Int.reduceToNat, Nat.left_eq_add, Nat.add_eq_left, Nat.add_left_cancel_iff, Nat.reduceEqDiff, Nat.add_assoc, Nat.succ_ne_zero]
  · simp only [push_cast, Nat.reduceAdd, Nat.reduceLeDiff, Nat.reduceLT, Int.reduceToNat, Nat.left_eq_add, Nat.add_eq_left, Nat.add_left_cancel_iff, Nat.reduceEqDiff, Nat.add_assoc, Nat.succ_ne_zero]
  · simp only [push_cast, Nat.reduceAdd, Nat.reduceLeDiff, Nat.reduceLT, Int.reduceToNat, Nat.left_eq_add, Nat.add_eq_left, Nat.add_left_cancel_iff, Nat.reduceEqDiff, Nat.add_assoc, Nat.succ_ne_zero]
  have nope : rdF bs = none → ∀ {g : Frm} {cs : List Int} {W : World}, RI w g cs W → dpanS Tryd.prog (letV w) shortV (fun x8 => opS Tryd.prog (S.ld 26 (pt w.heap.size 0)) fun x9 => opS Tryd.prog (S.ld 4 (pt (w.heap.size + 1) 0)) fun x10 => K (.tuple #[x9, x10])) W :=
    fun he g cs W hI => hI.let (h0 he)
  have short : bs.length < 14 → rdF bs = none := fun h => by unfold rdF; rw [if_pos h]
  refine jn0 (fun W => RI w { zFrm with dst := macOf bs } (bs.drop 6) W ∧ 6 ≤ bs.length) ?_ fun j hj => ?_
  case refine_2 =>
    exact rd_copy hI0 (fun K W => by rw [fa26_0]) (by decide) splice_dst (fun hl6 W hI => hj W ⟨hI, hl6⟩) fun hl6 W hI => nope (short (by omega)) hI
  rintro W1 ⟨hI1, hl6⟩
  have hd6 : (bs.drop 6).length = bs.length - 6 := List.length_drop
  refine jn0 (fun W => RI w { zFrm with dst := macOf bs, src := macOf (bs.drop 6) } (bs.drop 12) W ∧ 12 ≤ bs.length) ?_ fun j hj => ?_
  case refine_2 =>
    refine rd_copy (g' := { zFrm with dst := macOf bs, src := macOf (bs.drop 6) }) hI1 (fun K W => by rw [fa26_1]) (by decide) splice_src (fun hl7 W hI => hj W ⟨?_, by omega⟩) fun hl7 W hI => nope (short (by omega)) hI
    rw [List.drop_drop] at hI
    exact hI
  rintro W2 ⟨hI2, hl12⟩
  have hd12 : (bs.drop 12).length = bs.length - 12 := List.length_drop
  rw [opZ_cl]
  refine hI2.num (fun hl2 W3 hI3 => ?_) fun hl2 => nope (short (by omega)) hI2
  rw [List.drop_drop] at hI3
  simp only [push_cast, Nat.reduceAdd, Nat.reduceLeDiff, Nat.reduceLT, Int.reduceToNat, Nat.left_eq_add, Nat.add_eq_left, Nat.add_left_cancel_iff, Nat.reduceEqDiff, Nat.add_assoc, Nat.succ_ne_zero, hI3.f]
  have hI4 := hI3.put (Frm.s15 { zFrm with dst := macOf bs, src := macOf (bs.drop 6) } (num2 (bs.drop 12)))
  have hR : ∀ k x, x ∈ bs.drop k → isB x := fun k x hx => hv.2 x (List.mem_of_mem_drop hx)
  have n12 := num2_ok (hR 12)
  generalize wr W3 w.heap.size 15 [i64 (num2 (bs.drop 12))] = W4 at *
  refine jn0 (fun W => ∃ f cs, rdF bs = some (f, cs) ∧ RI w f cs W ∧ cs.length ≤ bs.length) ?_ fun j hj => ?_
  · rintro W5 ⟨f, cs, he, hI5, hcl⟩
    obtain ⟨v5, hp5, hv5⟩ := hI5.r
    simp only [push_cast, Nat.reduceAdd, Nat.reduceLeDiff, Nat.reduceLT, Int.reduceToNat, Nat.left_eq_add, Nat.add_eq_left, Nat.add_left_cancel_iff, Nat.reduceEqDiff, Nat.add_assoc, Nat.succ_ne_zero, hp5]
    have hcs : ∀ x ∈ cs, isB x := hv5.2
    refine CallsZ.of ?_
    refine clone_spec (hv5.fr hI5.fr fun _ _ h => h) (by omega) fun v6 W6 hv6 hN6 hF6 => ?_
    have hI6 : RI w f cs W6 := ⟨hF6.heap hI5.f fun h => h, hF6.heap hI5.b fun h => h, ⟨v5, hF6.heap hp5 fun h => h, hv5⟩, hI5.fr.trans hF6⟩
    have o6 : S.oneCell v6 = true := hv6.one
    have hsz := hI5.fr.size
    have hI7 := hI6.put (Frm.s16 f v6)
    have hb7 : ByR (wr W6 w.heap.size 16 [v6]) v6 cs := hv6.fr (Fr.wr (fp := fun b => b = w.heap.size) W6 _ _ _ rfl) fun b hb e => by
      have := hN6 b hb
      have := lt_of_heap hI5.f
      omega
    have o7 : ({ f with body := v6 } : Frm).cells.all S.oneCell = true := Frm.one _ o6
    have hN : New w v6 := fun b hb => by have := hN6 b hb; omega
    simp only [push_cast, Nat.reduceAdd, Nat.reduceLeDiff, Nat.reduceLT, Int.reduceToNat, Nat.left_eq_add, Nat.add_eq_left, Nat.add_left_cancel_iff, Nat.reduceEqDiff, Nat.add_assoc, Nat.succ_ne_zero, hI6.f, o6]
    generalize wr W6 w.heap.size 16 [v6] = W7 at *
    have hI8 := hI7.put (Frm.sw { f with body := v6 } { f with body := v6 })
    have hb8 : ByR (wr W7 w.heap.size 0 ({ f with body := v6 } : Frm).cells) v6 cs := hb7.fr (Fr.wr (fp := fun b => b = w.heap.size) W7 _ _ _ rfl) fun b hb e => by
      have := hN6 b hb
      have := lt_of_heap hI5.f
      omega
    simp only [push_cast, Nat.reduceAdd, Nat.reduceLeDiff, Nat.reduceLT, Int.reduceToNat, Nat.left_eq_add, Nat.add_eq_left, Nat.add_left_cancel_iff, Nat.reduceEqDiff, Nat.add_assoc, Nat.succ_ne_zero, hI7.f, o7]
    generalize wr W7 w.heap.size 0 ({ f with body := v6 } : Frm).cells = W8 at *
    have hF9 : Fr (fun b => b = w.heap.size + 1) W8 (wr W8 (w.heap.size + 1) 0 [.bool true]) := Fr.wr W8 _ _ _ rfl
    have hb9 := hb8.fr hF9 fun b hb e => by
      have := hN6 b hb
      have := lt_of_heap hI5.b
      omega
    have hf9 := hF9.heap hI8.f (by omega)
    have ht9 : (wr W8 (w.heap.size + 1) 0 [.bool true]).heap[w.heap.size + 1]? = some (cellsO [.bool true] 4) := by simp only [push_cast, Nat.reduceAdd, Nat.reduceLeDiff, Nat.reduceLT, Int.reduceToNat, Nat.left_eq_add, Nat.add_eq_left, Nat.add_left_cancel_iff, Nat.reduceEqDiff, Nat.add_assoc, Nat.succ_ne_zero, hI8.b]
    have hF09 := hI8.fr.trans_new hF9 fun b hb e => by omega
    generalize wr W8 (w.heap.size + 1) 0 [.bool true] = W9 at *
    rw [hI7.b]
    simp only [push_cast, Nat.reduceAdd, Nat.reduceLeDiff, Nat.reduceLT, Int.reduceToNat, Nat.left_eq_add, Nat.add_eq_left, Nat.add_left_cancel_iff, Nat.reduceEqDiff, Nat.add_assoc, Nat.succ_ne_zero]
    refine read_end fun W10 hF10 => ?_
    have hf10 := hF10.heap hf9 fun h => h
    have ht10 := hF10.heap ht9 fun h => h
    simp only [push_cast, Nat.reduceAdd, Nat.reduceLeDiff, Nat.reduceLT, Int.reduceToNat, Nat.left_eq_add, Nat.add_eq_left, Nat.add_left_cancel_iff, Nat.reduceEqDiff, Nat.add_assoc, Nat.succ_ne_zero, hf10, ht10]
    exact h1 f cs he v6 W10 (hb9.fr hF10 fun _ _ h => h) hN (hF09.trans hF10)
  simp only [push_cast, Nat.reduceAdd, Nat.reduceLeDiff, Nat.reduceLT, Int.reduceToNat, Nat.left_eq_add, Nat.add_eq_left, Nat.add_left_cancel_iff, Nat.reduceEqDiff, Nat.add_assoc, Nat.succ_ne_zero, hI4.f]
  refine br_intro (fun ht => ?_) fun ht => ?_
  · have ht : num2 (bs.drop 12) = 33024 := by simpa using ht
    have hd14 : (bs.drop 14).length = bs.length - 14 := List.length_drop
    refine hI4.num (fun hl4 W5 hI5 => ?_) fun hl4 => nope ?_ hI4
    · rw [List.drop_drop] at hI5
      have n14 := num2_ok (hR 14)
      have esh : ∀ (R : Value → World → Prop) W, opS Tryd.prog (S.binI .shr (i64 (num2 (bs.drop 14))) (.int .u64 13)) R W = R (i64 (num2 (bs.drop 14) / 8192)) W := fun R W => opS_shr .i64 .u64 _ 13 (by decide)
      have eand : ∀ (R : Value → World → Prop) W, opS Tryd.prog (S.binI .and (i64 (num2 (bs.drop 14))) (.int .i64 8191)) R W = R (i64 (num2 (bs.drop 14) % 8192)) W := fun R W => opS_and (x := num2 (bs.drop 14)) 13 (by omega) (by omega) (by decide)
      rw [esh, eand]
      have hI6 := hI5.put (Frm.s12 { zFrm with dst := macOf bs, src := macOf (bs.drop 6), type := num2 (bs.drop 12) } true)
      simp only [push_cast, Nat.reduceAdd, Nat.reduceLeDiff, Nat.reduceLT, Int.reduceToNat, Nat.left_eq_add, Nat.add_eq_left, Nat.add_left_cancel_iff, Nat.reduceEqDiff, Nat.add_assoc, Nat.succ_ne_zero, hI5.f]
      generalize wr W5 w.heap.size 12 [.bool true] = W6 at *
      have hI7 := hI6.put (Frm.s14 { zFrm with dst := macOf bs, src := macOf (bs.drop 6), type := num2 (bs.drop 12), tagged := true } (num2 (bs.drop 14) / 8192))
      generalize wr W6 w.heap.size 14 [i64 (num2 (bs.drop 14) / 8192)] = W7 at *
      have hI8 := hI7.put (Frm.s13 { zFrm with dst := macOf bs, src := macOf (bs.drop 6), type := num2 (bs.drop 12), tagged := true, prio := num2 (bs.drop 14) / 8192 } (num2 (bs.drop 14) % 8192))
      generalize wr W7 w.heap.size 13 [i64 (num2 (bs.drop 14) % 8192)] = W8 at *
      have hd16 : (bs.drop 16).length = bs.length - 16 := List.length_drop
      refine hI8.num (fun hl8 W9 hI9 => ?_) fun hl8 => nope ?_ hI8
      · have hl8 : 2 ≤ (bs.drop 16).length := hl8
        rw [List.drop_drop] at hI9
        have hI10 := hI9.put (Frm.s15 { zFrm with dst := macOf bs, src := macOf (bs.drop 6), type := num2 (bs.drop 12), tagged := true, prio := num2 (bs.drop 14) / 8192, vlan := num2 (bs.drop 14) % 8192 } (num2 (bs.drop 16)))
        simp only [push_cast, Nat.reduceAdd, Nat.reduceLeDiff, Nat.reduceLT, Int.reduceToNat, Nat.left_eq_add, Nat.add_eq_left, Nat.add_left_cancel_iff, Nat.reduceEqDiff, Nat.add_assoc, Nat.succ_ne_zero, hI9.f]
        refine hj _ ⟨_, _, ?_, hI10, by rw [List.length_drop]; omega⟩
        unfold rdF
        have e14 : List.length (bs.drop 14) = bs.length - 14 := List.length_drop
        rw [if_neg (by omega), if_pos ht, if_neg (by omega)]
        rfl
      · have hl8 : (bs.drop 16).length < 2 := hl8
        have hl4 : 2 ≤ (bs.drop 14).length := hl4
        unfold rdF
        rw [if_neg (by omega), if_pos ht, if_pos (by omega)]
    · have hl4 : (bs.drop 14).length < 2 := hl4
      unfold rdF
      rw [if_neg (by omega), if_pos ht, if_pos (by omega)]
  · have ht : num2 (bs.drop 12) ≠ 33024 := by simpa using ht
    refine hj _ ⟨_, _, ?_, hI4, by rw [List.length_drop]; omega⟩
    unfold rdF
    rw [if_neg (by omega), if_neg ht]
    rfl

end Go.Gx.S
end

section
/- Bytes that are read as a frame: Decode, and the document's. -/
set_option linter.unusedVariables false
set_option linter.unusedSimpArgs false
set_option maxRecDepth 100000
namespace Go.Gx.S
open Go Go.Gx Go.Proofs
variable {K Z : Value → World → Prop} {w : World}

/-! ### Plain -/

def decF (bs : List Int) : Option (Frm × List Int) := (rdF bs).bind fun x => if x.1.right x.2.length then some x else none

theorem macOf_ok {bs : List Int} (h : ∀ x ∈ bs, isB x) : (macOf bs).ok := ⟨isB_getD h 0, isB_getD h 1, isB_getD h 2, isB_getD h 3, isB_getD h 4, isB_getD h 5⟩
theorem isI_small {n : Int} (h0 : 0 ≤ n) (h1 : n ≤ 65535) : isI n := isI_iff.2 (by omega)
theorem rdF_ok {bs : List Int} (h : ∀ x ∈ bs, isB x) {f : Frm} {cs : List Int} (he : rdF bs = some (f, cs)) : f.ok ∧ (∀ x ∈ cs, isB x) ∧ cs.length ≤ bs.length ∧ f.body = .slice none 0 0 := by
  have hR : ∀ k x, x ∈ bs.drop k → isB x := fun k x hx => h x (List.mem_of_mem_drop hx)
  have n12 := num2_ok (hR 12)
  have n14 := num2_ok (hR 14)
  have n16 := num2_ok (hR 16)
  unfold rdF at he
  split at he
  · cases he
  · split at he
    · split at he
      · cases he
      · cases he
        exact ⟨⟨macOf_ok h, macOf_ok (hR 6), isI_small (by dsimp only; omega) (by dsimp only; omega), isI_small (by dsimp only; omega) (by dsimp only; omega), isI_small (by dsimp only; omega) (by dsimp only; omega)⟩, hR 18, by rw [List.length_drop]; omega, rfl⟩
    · cases he
      exact ⟨⟨macOf_ok h, macOf_ok (hR 6), isI_small (by dsimp only; omega) (by dsimp only; omega), isI_small (by dsimp only; omega) (by dsimp only; omega), isI_small (by dsimp only; omega) (by dsimp only; omega)⟩, hR 14, by rw [List.length_drop]; omega, rfl⟩

theorem getD_drop (bs : List Int) (k i : Nat) : (bs.drop k).getD i 0 = bs.getD (k + i) 0 := by simp [List.getD_eq_getElem?_getD]
theorem two_num {bs : List Int} (h : ∀ x ∈ bs, isB x) (hl : 2 ≤ bs.length) : two (num2 bs) = bs.take 2 := by
  match bs, hl with
  | a :: b :: r, _ =>
    have h0 := h a (by simp)
    have h1 := h b (by simp)
    unfold isB at h0 h1
    simp only [two, num2, List.getD_cons_zero, List.getD_cons_succ, List.take_succ_cons, List.take_zero]
    rw [show (a * 256 + b) / 256 = a by omega, show (a * 256 + b) % 256 = b by omega]
theorem macB_of {bs : List Int} (hl : 6 ≤ bs.length) : macB (macOf bs) = bs.take 6 := by
  match bs, hl with
  | a :: b :: c :: d :: e :: f :: r, _ => rfl

/-- bytes that are a frame's are those of the frame -/
theorem rdF_bytes {bs : List Int} (h : ∀ x ∈ bs, isB x) {f : Frm} {cs : List Int} (he : rdF bs = some (f, cs)) (hr : f.right cs.length = true) : Frm.bytes f cs = bs := by
  have hR : ∀ k x, x ∈ bs.drop k → isB x := fun k x hx => h x (List.mem_of_mem_drop hx)
  have n14 := num2_ok (hR 14)
  have app : ∀ k m, bs.drop k = (bs.drop k).take m ++ bs.drop (k + m) := fun k m => by rw [← List.drop_drop, List.take_append_drop]
  have a0 := app 0 6
  have a6 := app 6 6
  have a12 := app 12 2
  have a14 := app 14 2
  have a16 := app 16 2
  simp only [List.drop_zero, Nat.zero_add, Nat.reduceAdd] at a0 a6 a12 a14 a16
  unfold rdF at he
  split at he
  · cases he
  · rename_i hl
    have l6 : (bs.drop 6).length = bs.length - 6 := List.length_drop
    have l12 : (bs.drop 12).length = bs.length - 12 := List.length_drop
    have l14 : (bs.drop 14).length = bs.length - 14 := List.length_drop
    have l16 : (bs.drop 16).length = bs.length - 16 := List.length_drop
    split at he
    · rename_i ht
      split at he
      · cases he
      · cases he
        simp only [Frm.bytes, if_true]
        rw [macB_of (by omega), macB_of (by omega), ← ht, two_num (hR 12) (by omega), show 8192 * (num2 (bs.drop 14) / 8192) + num2 (bs.drop 14) % 8192 = num2 (bs.drop 14) by omega, two_num (hR 14) (by omega), two_num (hR 16) (by omega)]
        rw [List.append_assoc, List.append_assoc, List.append_assoc, List.append_assoc, ← a16, ← a14, ← a12, ← a6, ← a0]
    · cases he
      simp only [Frm.bytes, Bool.false_eq_true, if_false, List.append_nil]
      rw [macB_of (by omega), macB_of (by omega), two_num (hR 12) (by omega), List.append_assoc, List.append_assoc, ← a12, ← a6, ← a0]

/-- a frame's bytes are read as it -/
theorem rdF_back {f : Frm} {cs : List Int} (hr : f.right cs.length = true) (hp : f.tagged = true → 0 ≤ f.vlan ∧ f.vlan ≤ 4094 ∧ 0 ≤ f.prio ∧ f.prio ≤ 7) (hq : f.tagged = false → f.vlan = 0 ∧ f.prio = 0) : rdF (Frm.bytes f cs) = some ({ f with body := .slice none 0 0 }, cs) := by
  simp only [Frm.right, Bool.and_eq_true, decide_eq_true_eq] at hr
  obtain ⟨⟨r1, r2, r3, r4⟩, _⟩ := hr
  obtain ⟨d, s, t, v, p, ty, b⟩ := f
  simp only at *
  cases t with
  | true =>
    have hp := hp rfl
    unfold rdF
    have hl : (Frm.bytes ⟨d, s, true, v, p, ty, b⟩ cs).length = 18 + cs.length := by simp [Frm.bytes, macB, two]; omega
    have e1 : num2 ((Frm.bytes ⟨d, s, true, v, p, ty, b⟩ cs).drop 12) = 33024 := by simp [Frm.bytes, macB, two, num2]
    rw [if_neg (by omega), if_pos e1, if_neg (by omega)]
    have e2 : num2 ((Frm.bytes ⟨d, s, true, v, p, ty, b⟩ cs).drop 14) = 8192 * p + v := by simp [Frm.bytes, macB, two, num2]; omega
    have e3 : num2 ((Frm.bytes ⟨d, s, true, v, p, ty, b⟩ cs).drop 16) = ty := by simp [Frm.bytes, macB, two, num2]; omega
    have e4 : (Frm.bytes ⟨d, s, true, v, p, ty, b⟩ cs).drop 18 = cs := by simp [Frm.bytes, macB, two]
    have e5 : macOf (Frm.bytes ⟨d, s, true, v, p, ty, b⟩ cs) = d := by simp [Frm.bytes, macB, macOf]
    have e6 : macOf ((Frm.bytes ⟨d, s, true, v, p, ty, b⟩ cs).drop 6) = s := by simp [Frm.bytes, macB, macOf]
    rw [e2, e3, e4, e5, e6, show (8192 * p + v) % 8192 = v by omega, show (8192 * p + v) / 8192 = p by omega]
  | false =>
    have hq := hq rfl
    unfold rdF
    have hl : (Frm.bytes ⟨d, s, false, v, p, ty, b⟩ cs).length = 14 + cs.length := by simp [Frm.bytes, macB, two]; omega
    have e1 : num2 ((Frm.bytes ⟨d, s, false, v, p, ty, b⟩ cs).drop 12) = ty := by simp [Frm.bytes, macB, two, num2]; omega
    rw [if_neg (by omega), if_neg (by rw [e1]; exact r3)]
    have e4 : (Frm.bytes ⟨d, s, false, v, p, ty, b⟩ cs).drop 14 = cs := by simp [Frm.bytes, macB, two]
    have e5 : macOf (Frm.bytes ⟨d, s, false, v, p, ty, b⟩ cs) = d := by simp [Frm.bytes, macB, macOf]
    have e6 : macOf ((Frm.bytes ⟨d, s, false, v, p, ty, b⟩ cs).drop 6) = s := by simp [Frm.bytes, macB, macOf]
    rw [e1, e4, e5, e6, hq.1, hq.2]

/-! ### Decode -/

theorem frm_with {f : Frm} {v : Value} {n : Nat} : ({ f with body := v } : Frm).right n = f.right n := rfl

theorem frm_slot0 {g : Frm} {R : Value → Value → World → Prop} (hone : g.cells.all S.oneCell = true) (h : ∀ u w', w'.heap[w.heap.size]? = some (cellsO g.cells 26) → Fr none_ w w' → R (pt w.heap.size 0) u w') :
    opS Tryd.prog (S.alloc 26) (fun x => opS Tryd.prog (S.st 26 x (.agg g.cells.toArray)) (R x)) w := by
  rw [zalloc_frm0]
  simp only [push_cast, Nat.reduceAdd, Nat.reduceLeDiff, Nat.reduceLT, Int.reduceToNat, Nat.left_eq_add, Nat.add_eq_left, Nat.add_left_cancel_iff, Nat.reduceEqDiff, Nat.add_assoc, Nat.succ_ne_zero, hone]
  refine h _ _ ?_ (Fr.step_wr (Fr.step_alloc (Fr.refl _ _) rfl) (.inr (Nat.le_refl _)) _ _)
  simp only [push_cast, Nat.reduceAdd, Nat.reduceLeDiff, Nat.reduceLT, Int.reduceToNat, Nat.left_eq_add, Nat.add_eq_left, Nat.add_left_cancel_iff, Nat.reduceEqDiff, Nat.add_assoc, Nat.succ_ne_zero]

theorem build_z : opS Tryd.prog (S.build 26 []) K w = K (.agg zFrm.cells.toArray) w := by
  rw [opS_build _ rfl]; rfl

/-- a frame is told through a slot of its own -/
theorem told_slot {w0 : World} {s : Nat} {g0 g : Frm} {n : Int} (hs : w.heap[s]? = some (cellsO g0.cells 26)) (hone : g.cells.all S.oneCell = true) (hF : Fr none_ w0 w) (hn : w0.heap.size ≤ s)
    (h : ∀ w', Fr none_ w0 w' → Fr (fun b => b = s) w w' → K (.tuple #[.agg g.cells.toArray, i64 n]) w') :
    opS Tryd.prog (S.st 26 (pt s 0) (.agg g.cells.toArray)) (fun _ => opS Tryd.prog (S.ld 26 (pt s 0)) fun x => K (.tuple #[x, i64 n])) w := by
  simp only [push_cast, Nat.reduceAdd, Nat.reduceLeDiff, Nat.reduceLT, Int.reduceToNat, Nat.left_eq_add, Nat.add_eq_left, Nat.add_left_cancel_iff, Nat.reduceEqDiff, Nat.add_assoc, Nat.succ_ne_zero, hs, hone]
  exact h _ (hF.step_wr (.inr hn) _ _) (Fr.wr w _ _ _ rfl)

theorem decode_spec {v : Value} {bs : List Int} (hv : ByR w v bs) (hl : bs.length ≤ 2 ^ 30)
    (h1 : ∀ f cs, decF bs = some (f, cs) → ∀ v' w', ByR w' v' cs → New w v' → Fr none_ w w' → K (.tuple #[.agg ({ f with body := v' } : Frm).cells.toArray, i64 0]) w')
    (h0 : decF bs = none → ∀ w', Fr none_ w w' → K (.tuple #[.agg zFrm.cells.toArray, i64 2]) w') : CallsR Tryd.prog 19 #[v] K w := by
  apply c19
  unfold p19
  rw [zalloc_frm0]
  have hz : zFrm.cells.all S.oneCell = true := rfl
  have hF0 : Fr none_ w (w.alloc (cellsO zFrm.cells 26)) := (by repeat' first | with_reducible exact Fr.refl _ _ | with_reducible refine Fr.step_alloc ?_ ?_ | with_reducible refine Fr.step_drew ?_ | with_reducible refine Fr.step_wr ?_ ?_ _ _ | exact rfl | exact Or.inr (by omega) | exact Or.inl rfl | exact Or.inl (Or.inl rfl) | exact Or.inl (Or.inr rfl))
  have hx0 : (w.alloc (cellsO zFrm.cells 26)).heap[w.heap.size]? = some (cellsO zFrm.cells 26) := by simp only [push_cast, Nat.reduceAdd, Nat.reduceLeDiff, Nat.reduceLT, Int.reduceToNat, Nat.left_eq_add, Nat.add_eq_left, Nat.add_left_cancel_iff, Nat.reduceEqDiff, Nat.add_assoc, Nat.succ_ne_zero]
  have hs0 : (w.alloc (cellsO zFrm.cells 26)).heap.size = w.heap.size + 1 := size_alloc _ _
  generalize w.alloc (cellsO zFrm.cells 26) = W0 at *
  simp only [opS_cl]
  refine read_spec (hv.fr hF0 fun _ _ h => h) hl (fun f cs he v1 W1 hv1 hN1 hF1 => ?_) fun he W1 hF1 => ?_
  · have hx1 := hF1.heap hx0 fun h => h
    have hF01 := hF0.trans hF1
    have o1 : S.oneCell v1 = true := hv1.one
    have of : ({ f with body := v1 } : Frm).cells.all S.oneCell = true := Frm.one _ o1
    obtain ⟨a, c, hva⟩ := hv1.form
    simp only [s_ext, List.getElem?_toArray, List.getElem?_cons_zero, List.getElem?_cons_succ, onS_some]
    refine frm_slot0 of fun _ W2 hx2 hF2 => ?_
    have hx0' := hF2.heap hx1 fun h => h
    have hF02 := hF01.trans hF2
    have hv2 := hv1.fr hF2 fun _ _ h => h
    have hN : New w v1 := fun b hb => by have := hN1 b hb; omega
    simp only [push_cast, Nat.reduceAdd, Nat.reduceLeDiff, Nat.reduceLT, Int.reduceToNat, Nat.left_eq_add, Nat.add_eq_left, Nat.add_left_cancel_iff, Nat.reduceEqDiff, Nat.add_assoc, Nat.succ_ne_zero, hx2]
    refine right_spec (f := { f with body := v1 }) hva fun W3 hF3 => ?_
    have hx3 := hF3.heap hx2 fun h => h
    have hx03 := hF3.heap hx0' fun h => h
    have hF03 := hF02.trans hF3
    have hv3 := hv2.fr hF3 fun _ _ h => h
    have hsz := hF3.size
    rw [frm_with]
    simp only [push_cast, Nat.reduceAdd, Nat.reduceLeDiff, Nat.reduceLT, Int.reduceToNat, Nat.left_eq_add, Nat.add_eq_left, Nat.add_left_cancel_iff, Nat.reduceEqDiff, Nat.add_assoc, Nat.succ_ne_zero]
    refine br_intro (fun hr => ?_) fun hr => ?_
    · have hd : decF bs = none := by
        unfold decF
        rw [he, Option.bind_some, if_neg (by simpa using hr)]
      rw [build_z]
      exact told_slot hx03 hz hF03 (Nat.le_refl _) fun W4 hF4 _ => h0 hd W4 hF4
    · have hd : decF bs = some (f, cs) := by
        unfold decF
        rw [he, Option.bind_some, if_pos (by simpa using hr)]
      simp only [push_cast, Nat.reduceAdd, Nat.reduceLeDiff, Nat.reduceLT, Int.reduceToNat, Nat.left_eq_add, Nat.add_eq_left, Nat.add_left_cancel_iff, Nat.reduceEqDiff, Nat.add_assoc, Nat.succ_ne_zero, hx3]
      refine told_slot hx03 of hF03 (Nat.le_refl _) fun W4 hF4 hFs => h1 f cs hd v1 W4 (hv3.fr hFs fun b hb e => ?_) hN hF4
      have := hN1 b hb
      omega
  · have hx1 := hF1.heap hx0 fun h => h
    have hF01 := hF0.trans hF1
    simp only [s_ext, List.getElem?_toArray, List.getElem?_cons_zero, List.getElem?_cons_succ, onS_some]
    refine frm_slot0 hz fun _ W2 hx2 hF2 => ?_
    have hx0' := hF2.heap hx1 fun h => h
    have hd : decF bs = none := by unfold decF; rw [he]; rfl
    simp only [push_cast, Nat.reduceAdd, Nat.reduceLeDiff, Nat.reduceLT, Int.reduceToNat, Nat.left_eq_add, Nat.add_eq_left, Nat.add_left_cancel_iff, Nat.reduceEqDiff, Nat.add_assoc, Nat.succ_ne_zero]
    rw [build_z]
    exact told_slot hx0' hz (hF01.trans hF2) (Nat.le_refl _) fun W4 hF4 _ => h0 hd W4 hF4

end Go.Gx.S
end

section
/- Bytes that are read as a frame: the document's. -/
set_option linter.unusedVariables false
set_option linter.unusedSimpArgs false
set_option maxRecDepth 100000
namespace Go.Gx.S
open Go Go.Gx Go.Proofs
variable {K Z : Value → World → Prop} {w : World}

theorem s_neS {a b : List Int} (ha : ∀ x ∈ a, isB x) (hb : ∀ x ∈ b, isB x) : opS Tryd.prog (S.binS .neq (.string (strOf a)) (.string (strOf b))) K w = K (.bool (!decide (a = b))) w := by
  unfold S.binS
  simp only []
  rw [opS_bind]
  have : (Op.stringOp .neq (strOf a) (strOf b)).run Tryd.prog w = .ok (.bool (!decide (a = b))) w := by
    unfold Op.stringOp
    simp only [Sem.run_pure]
    congr 3
    have e : ∀ x : List Int, (strOf x).toList = (strOf x).data.toList := fun x => ByteArray.toList_eq _
    rw [e, e]
    have := strOf_inj ha hb
    by_cases h : a = b
    · subst h; simp
    · rw [decide_eq_false h]
      simpa using fun h2 => h (this.1 h2)
  rw [this]

/-- the first k bytes -/
def macK (k : Nat) (bs : List Int) : Mac := ⟨if 0 < k then bs.getD 0 0 else 0, if 1 < k then bs.getD 1 0 else 0, if 2 < k then bs.getD 2 0 else 0, if 3 < k then bs.getD 3 0 else 0, if 4 < k then bs.getD 4 0 else 0, if 5 < k then bs.getD 5 0 else 0⟩
theorem macK_dst {g : Frm} {bs : List Int} {k : Nat} (hk : k < 6) : splice ({ g with dst := macK k bs } : Frm).cells (0 + k) [u8 (bs.getD k 0)] = ({ g with dst := macK (k + 1) bs } : Frm).cells := by
  match k, hk with
  | 0, _ | 1, _ | 2, _ | 3, _ | 4, _ | 5, _ => rfl
theorem macK_src {g : Frm} {bs : List Int} {k : Nat} (hk : k < 6) : splice ({ g with src := macK k bs } : Frm).cells (6 + k) [u8 (bs.getD k 0)] = ({ g with src := macK (k + 1) bs } : Frm).cells := by
  match k, hk with
  | 0, _ | 1, _ | 2, _ | 3, _ | 4, _ | 5, _ => rfl
theorem macK_6 (bs : List Int) : macK 6 bs = macOf bs := id rfl
theorem macK_0 (bs : List Int) : macK 0 bs = zMac := id rfl

/-- while the document's is read: the frame that is told, and the one that is read -/
structure RJ (w : World) (g : Frm) (w' : World) : Prop where
  a : w'.heap[w.heap.size]? = some (cellsO zFrm.cells 26)
  f : w'.heap[w.heap.size + 1]? = some (cellsO g.cells 26)
  fr : Fr none_ w w'
theorem RJ.drew {g : Frm} {w' : World} (h : RJ w g w') : RJ w g w'.drew := ⟨h.a, h.f, h.fr.step_drew⟩
theorem RJ.put {g g' : Frm} {w' : World} (h : RJ w g w') {o : Nat} {vs : List Value} (he : splice g.cells o vs = g'.cells) : RJ w g' (wr w' (w.heap.size + 1) o vs) := by
  obtain ⟨h1, h2, h5⟩ := h
  refine ⟨?_, ?_, h5.step_wr (.inr (by omega)) _ _⟩
  · rw [heap_wr, if_neg (by omega)]; exact h1
  · rw [heap_wr, if_pos rfl, h2, putAt_cells, he]
theorem RJ.fr0 {g : Frm} {w' w'' : World} (h : RJ w g w') (hF : Fr none_ w' w'') : RJ w g w'' := ⟨hF.heap h.a fun h => h, hF.heap h.f fun h => h, h.fr.trans hF⟩

/-- a number of two bytes -/
theorem s_num {v : Value} {bs : List Int} (h : ByR w v bs) {i : Nat} (hi : i + 1 < bs.length) {W : World} (hW : Fr none_ w W) {R : Value → World → Prop} (hk : R (i64 (num2 (bs.drop i))) W) {j : Int} (hj : j = ((i + 1 : Nat) : Int)) :
    opS Tryd.prog (S.ia 24 v (.int .i64 (i : Nat))) (fun x6 => opS Tryd.prog (S.ld 5 x6) fun x7 => opS Tryd.prog (S.convI .i64 x7) fun x8 => opS Tryd.prog (S.binI .mul x8 (.int .i64 256)) fun x9 =>
      opS Tryd.prog (S.ia 24 v (.int .i64 j)) fun x10 => opS Tryd.prog (S.ld 5 x10) fun x11 => opS Tryd.prog (S.convI .i64 x11) fun x12 => opS Tryd.prog (S.binI .add x9 x12) R) W := by
  subst hj
  have e0 := isB_getD h.2 i
  have e1 := isB_getD h.2 (i + 1)
  unfold isB at e0 e1
  refine by_at0 h hW (i := i) (by omega) ?_
  simp only [push_cast, Nat.reduceAdd, Nat.reduceLeDiff, Nat.reduceLT, Int.reduceToNat, Nat.left_eq_add, Nat.add_eq_left, Nat.add_left_cancel_iff, Nat.reduceEqDiff, Nat.add_assoc, Nat.succ_ne_zero]
  rw [wrap_i64 (x := bs.getD i 0) (by omega), wrap_i64 (by omega)]
  refine by_at0 h hW (i := i + 1) hi ?_
  simp only [push_cast, Nat.reduceAdd, Nat.reduceLeDiff, Nat.reduceLT, Int.reduceToNat, Nat.left_eq_add, Nat.add_eq_left, Nat.add_left_cancel_iff, Nat.reduceEqDiff, Nat.add_assoc, Nat.succ_ne_zero]
  rw [wrap_i64 (x := bs.getD (i + 1) 0) (by omega), wrap_i64 (by omega)]
  have e : num2 (bs.drop i) = bs.getD i 0 * 256 + bs.getD (i + 1) 0 := by
    unfold num2
    rw [getD_drop, getD_drop, Nat.add_zero]
  rw [e] at hk
  exact hk

theorem rdecode_spec {v : Value} {bs : List Int} (hv : ByR w v bs) (hl : bs.length ≤ 2 ^ 20)
    (h1 : ∀ f cs, decF bs = some (f, cs) → ∀ v' w', ByR w' v' cs → Fr none_ w w' → K (.tuple #[.agg ({ f with body := v' } : Frm).cells.toArray, i64 0]) w')
    (h0 : decF bs = none → ∀ w', Fr none_ w w' → K (.tuple #[.agg zFrm.cells.toArray, i64 2]) w') : CallsR Tryd.prog 20 #[v] K w := by
  apply c20
  unfold p20
  have hz : zFrm.cells.all S.oneCell = true := rfl
  obtain ⟨a, c, hva⟩ := hv.form
  have elen : ∀ (R : Value → World → Prop) W, opS Tryd.prog (S.len v) R W = R (i64 bs.length) W := fun R W => by rw [hva]; rfl
  rw [zalloc_frm0, elen]
  have hF0 : Fr none_ w (w.alloc (cellsO zFrm.cells 26)) := (by repeat' first | with_reducible exact Fr.refl _ _ | with_reducible refine Fr.step_alloc ?_ ?_ | with_reducible refine Fr.step_drew ?_ | with_reducible refine Fr.step_wr ?_ ?_ _ _ | exact rfl | exact Or.inr (by omega) | exact Or.inl rfl | exact Or.inl (Or.inl rfl) | exact Or.inl (Or.inr rfl))
  have hx0 : (w.alloc (cellsO zFrm.cells 26)).heap[w.heap.size]? = some (cellsO zFrm.cells 26) := by simp only [push_cast, Nat.reduceAdd, Nat.reduceLeDiff, Nat.reduceLT, Int.reduceToNat, Nat.left_eq_add, Nat.add_eq_left, Nat.add_left_cancel_iff, Nat.reduceEqDiff, Nat.add_assoc, Nat.succ_ne_zero]
  have hs0 : (w.alloc (cellsO zFrm.cells 26)).heap.size = w.heap.size + 1 := size_alloc _ _
  generalize w.alloc (cellsO zFrm.cells 26) = W0 at *
  have no : ∀ {W : World}, decF bs = none → W.heap[w.heap.size]? = some (cellsO zFrm.cells 26) → Fr none_ w W →
      opS Tryd.prog (S.build 26 []) (fun x => opS Tryd.prog (S.st 26 (pt w.heap.size 0) x) fun _ => opS Tryd.prog (S.ld 26 (pt w.heap.size 0)) fun x => K (.tuple #[x, i64 2])) W := fun hd hx hF => by
    rw [build_z]
    exact told_slot hx hz hF (Nat.le_refl _) fun W4 hF4 _ => h0 hd W4 hF4
  simp only [push_cast, Nat.reduceAdd, Nat.reduceLeDiff, Nat.reduceLT, Int.reduceToNat, Nat.left_eq_add, Nat.add_eq_left, Nat.add_left_cancel_iff, Nat.reduceEqDiff, Nat.add_assoc, Nat.succ_ne_zero]
  refine br_dec (fun h14 => ?_) fun h14 => ?_
  · exact no (by unfold decF rdF; rw [if_pos (by omega)]; rfl) hx0 hF0
  rw [hs0]
  refine at_w (RJ w zFrm) ⟨(heap_alloc_lt (lt_of_heap hx0)).trans hx0, by rw [← hs0]; exact heap_alloc_new _ _, hF0.step_alloc rfl⟩ fun W1 hI0 => ?_
  refine jn0 (RJ w { zFrm with dst := macOf bs, src := macOf (bs.drop 6) }) ?_ fun j hj => ?_
  case refine_2 =>
    refine loop1 (fun n v' W => ∃ k : Nat, k ≤ 6 ∧ v' = i64 k ∧ n = 6 - k ∧ RJ w { zFrm with dst := macK k bs, src := macK k (bs.drop 6) } W) ?_ 6 ⟨0, by omega, rfl, rfl, hI0⟩
    rintro n v' W X ⟨k, hk, rfl, rfl, hI⟩ hX
    simp only [push_cast, Nat.reduceAdd, Nat.reduceLeDiff, Nat.reduceLT, Int.reduceToNat, Nat.left_eq_add, Nat.add_eq_left, Nat.add_left_cancel_iff, Nat.reduceEqDiff, Nat.add_assoc, Nat.succ_ne_zero]
    refine br_dec (fun hlt => ?_) fun hge => ?_
    · refine by_at0 hv hI.fr (i := k) (by omega) ?_
      simp only [push_cast, Nat.reduceAdd, Nat.reduceLeDiff, Nat.reduceLT, Int.reduceToNat, Nat.left_eq_add, Nat.add_eq_left, Nat.add_left_cancel_iff, Nat.reduceEqDiff, Nat.add_assoc, Nat.succ_ne_zero]
      have hI2 := hI.put (macK_dst (g := { zFrm with src := macK k (bs.drop 6) }) (bs := bs) (show k < 6 by omega))
      have hia : ∀ (o : Nat) (K : Value → World → Prop) W, opS Tryd.prog (S.ia 23 (pt (w.heap.size + 1) o) (i64 k)) K W = K (pt (w.heap.size + 1) (o + k)) W := fun o K W => by
        rw [opS_iaA (w.heap.size + 1) o .i64 (k : Int) (by omega), Int.toNat_natCast, Nat.mul_one]
      have hwr : okAt W.heap[w.heap.size + 1]? (0 + k) 1 = true := by rw [hI.f, okAt_cells]; exact decide_eq_true (by show 0 + k + 1 ≤ 17; omega)
      rw [hia, s_st1 _ _ _ rfl, hwr, onB_true]
      generalize wr W (w.heap.size + 1) (0 + k) [u8 (bs.getD k 0)] = W2 at *
      simp only [push_cast, Nat.reduceAdd, Nat.reduceLeDiff, Nat.reduceLT, Int.reduceToNat, Nat.left_eq_add, Nat.add_eq_left, Nat.add_left_cancel_iff, Nat.reduceEqDiff, Nat.add_assoc, Nat.succ_ne_zero]
      rw [wrap_i64 (by omega)]
      have e6 : (6 : Int) + (k : Int) = ((6 + k : Nat) : Int) := by omega
      rw [e6]
      refine by_at0 hv hI2.fr (i := 6 + k) (by omega) ?_
      simp only [push_cast, Nat.reduceAdd, Nat.reduceLeDiff, Nat.reduceLT, Int.reduceToNat, Nat.left_eq_add, Nat.add_eq_left, Nat.add_left_cancel_iff, Nat.reduceEqDiff, Nat.add_assoc, Nat.succ_ne_zero]
      have hI3 := hI2.put (macK_src (g := { zFrm with dst := macK (k + 1) bs }) (bs := bs.drop 6) (show k < 6 by omega))
      rw [getD_drop] at hI3
      have hwr2 : okAt W2.heap[w.heap.size + 1]? (6 + k) 1 = true := by rw [hI2.f, okAt_cells]; exact decide_eq_true (by show 6 + k + 1 ≤ 17; omega)
      rw [hia, s_st1 _ _ _ rfl, hwr2, onB_true]
      generalize wr W2 (w.heap.size + 1) (6 + k) [u8 (bs.getD (6 + k) 0)] = W3 at *
      simp only [push_cast, Nat.reduceAdd, Nat.reduceLeDiff, Nat.reduceLT, Int.reduceToNat, Nat.left_eq_add, Nat.add_eq_left, Nat.add_left_cancel_iff, Nat.reduceEqDiff, Nat.add_assoc, Nat.succ_ne_zero]
      rw [wrap_i64 (by omega)]
      exact hX (6 - (k + 1)) _ _ (by omega) ⟨k + 1, by omega, rfl, rfl, hI3⟩
    · obtain rfl : k = 6 := by omega
      exact hj W hI
  intro W2 hI2
  refine s_slcL0 hv.1 (k := 12) (by simp; omega) fun v12 h12 => ?_
  rw [← List.map_drop] at h12
  have h12 := by_part hv (fun x hx => List.mem_of_mem_drop hx) h12
  have hd12 : (bs.drop 12).length = bs.length - 12 := List.length_drop
  refine jn1 (fun x W => ∃ g r, ByR w x r ∧ 2 ≤ r.length ∧ r.length ≤ bs.length ∧ g.body = .slice none 0 0 ∧ RJ w g W ∧ rdF bs = some ({ g with type := num2 r }, r.drop 2)) ?_ fun j hj => ?_
  · rintro x W ⟨g, r, hx, hr2, hrl, hgb, hI, he⟩
    simp only [drw_eq]
    replace hI := hI.drew
    generalize W.drew = W3 at *
    refine s_num (i := 0) hx (by omega) hI.fr ?_ rfl
    rw [List.drop_zero]
    have hI4 := hI.put (Frm.s15 g (num2 r))
    simp only [push_cast, Nat.reduceAdd, Nat.reduceLeDiff, Nat.reduceLT, Int.reduceToNat, Nat.left_eq_add, Nat.add_eq_left, Nat.add_left_cancel_iff, Nat.reduceEqDiff, Nat.add_assoc, Nat.succ_ne_zero, hI.f]
    generalize wr W3 (w.heap.size + 1) 15 [i64 (num2 r)] = W4 at *
    refine s_bs0 fun v5 W5 h5 hF5 hN5 => ?_
    have hI5 := hI4.fr0 hF5
    refine s_slcL0 hx.1 (k := 2) (by simp; omega) fun v6 h6 => ?_
    rw [← List.map_drop] at h6
    have h6 := by_part hx (fun x hx => List.mem_of_mem_drop hx) h6
    have hrd : (r.drop 2).length = r.length - 2 := List.length_drop
    refine s_app (z := .int .u8 0) (sz := 1) (by_ := 1) rfl (by decide) h5 (h6.fr hI5.fr fun _ _ h => h).1 (flat_cell1_one _) (by simp; omega) fun v7 W7 h7 hb7 hF7 => ?_
    have hb : ByR W7 v7 (r.drop 2) := ⟨h7.rd, h6.2⟩
    have hsz := hF5.size
    have hF47 : Fr none_ W4 W7 := hF5.trans_new hF7 fun b hb e => absurd (hN5 b e) (by omega)
    have hI7 := hI4.fr0 hF47
    have hN7 : New W4 v7 := fun b hb => by
      rcases hb7 with hb7 | hb7
      · exact hN5 b (hb7 ▸ hb)
      · have := hb7 b hb; omega
    have o7 : S.oneCell v7 = true := hb.one
    have hI8 := hI7.put (Frm.s16 { g with type := num2 r } v7)
    have lt4 := lt_of_heap hI4.f
    have hb8 : ByR (wr W7 (w.heap.size + 1) 16 [v7]) v7 (r.drop 2) := hb.fr (Fr.wr (fp := fun b => b = w.heap.size + 1) W7 _ _ _ rfl) fun b hb e => by
      have := hN7 b hb
      omega
    simp only [push_cast, Nat.reduceAdd, Nat.reduceLeDiff, Nat.reduceLT, Int.reduceToNat, Nat.left_eq_add, Nat.add_eq_left, Nat.add_left_cancel_iff, Nat.reduceEqDiff, Nat.add_assoc, Nat.succ_ne_zero, hI7.f, o7]
    generalize wr W7 (w.heap.size + 1) 16 [v7] = W8 at *
    obtain ⟨hok, hby, hle, _⟩ := rdF_ok hv.2 he
    have hfr : FrmR W8 { g with type := num2 r, body := v7 } (r.drop 2) := ⟨hok, hb8⟩
    refine renc_spec hfr (by omega) fun v9 W9 hv9 hF9 => ?_
    have hI9 := hI8.fr0 hF9
    have hb9 := hb8.fr hF9 fun _ _ h => h
    have hv' := hv.fr hI9.fr fun _ _ h => h
    have er : ({ g with type := num2 r, body := v7 } : Frm).right (r.drop 2).length = ({ g with type := num2 r } : Frm).right (r.drop 2).length := rfl
    rw [er] at hv9 ⊢
    simp only [push_cast, Nat.reduceAdd, Nat.reduceLeDiff, Nat.reduceLT, Int.reduceToNat, Nat.left_eq_add, Nat.add_eq_left, Nat.add_left_cancel_iff, Nat.reduceEqDiff, Nat.add_assoc, Nat.succ_ne_zero]
    refine br_intro (fun hr => ?_) fun hr => ?_
    · refine no ?_ hI9.a hI9.fr
      unfold decF
      rw [he, Option.bind_some, if_neg (by intro h; rw [if_pos h] at hr; exact absurd hr (by decide))]
    · have hr : ({ g with type := num2 r } : Frm).right (r.drop 2).length = true := by
        cases hrr : ({ g with type := num2 r } : Frm).right (r.drop 2).length with
        | true => rfl
        | false => rw [hrr] at hr; exact absurd hr (by decide)
      rw [if_pos hr] at hv9
      have eb : Frm.bytes { g with type := num2 r, body := v7 } (r.drop 2) = bs := rdF_bytes (f := { g with type := num2 r }) hv.2 he hr
      rw [eb] at hv9
      rw [s_b2s hv9, s_b2s hv', s_neS hv.2 hv.2]
      have hd : decF bs = some ({ g with type := num2 r }, r.drop 2) := by
        unfold decF
        rw [he, Option.bind_some, if_pos hr]
      have of : ({ g with type := num2 r, body := v7 } : Frm).cells.all S.oneCell = true := Frm.one _ o7
      simp only [push_cast, Nat.reduceAdd, Nat.reduceLeDiff, Nat.reduceLT, Int.reduceToNat, Nat.left_eq_add, Nat.add_eq_left, Nat.add_left_cancel_iff, Nat.reduceEqDiff, Nat.add_assoc, Nat.succ_ne_zero]
      simp only [push_cast, Nat.reduceAdd, Nat.reduceLeDiff, Nat.reduceLT, Int.reduceToNat, Nat.left_eq_add, Nat.add_eq_left, Nat.add_left_cancel_iff, Nat.reduceEqDiff, Nat.add_assoc, Nat.succ_ne_zero, hI9.f]
      refine told_slot hI9.a of hI9.fr (Nat.le_refl _) fun W4' hF4 hFs => h1 _ _ hd v7 W4' (hb9.fr hFs fun b hb e => ?_) hF4
      have := hN7 b hb
      omega
  · simp only [drw_eq]
    replace hI2 := hI2.drew
    generalize W2.drew = W3 at *
    refine s_num (i := 0) h12 (by omega) hI2.fr ?_ rfl
    rw [List.drop_zero]
    simp only [push_cast, Nat.reduceAdd, Nat.reduceLeDiff, Nat.reduceLT, Int.reduceToNat, Nat.left_eq_add, Nat.add_eq_left, Nat.add_left_cancel_iff, Nat.reduceEqDiff, Nat.add_assoc, Nat.succ_ne_zero]
    refine br_intro (fun ht => ?_) fun ht => ?_
    · have ht : num2 (bs.drop 12) = 33024 := by simpa using ht
      obtain ⟨a12, c12, hva12⟩ := h12.form
      have elen12 : ∀ (R : Value → World → Prop) W, opS Tryd.prog (S.len v12) R W = R (i64 (bs.drop 12).length) W := fun R W => by rw [hva12]; rfl
      rw [elen12]
      simp only [push_cast, Nat.reduceAdd, Nat.reduceLeDiff, Nat.reduceLT, Int.reduceToNat, Nat.left_eq_add, Nat.add_eq_left, Nat.add_left_cancel_iff, Nat.reduceEqDiff, Nat.add_assoc, Nat.succ_ne_zero]
      refine br_dec (fun h6 => ?_) fun h6 => ?_
      · refine no ?_ hI2.a hI2.fr
        unfold decF rdF
        rw [if_neg (by omega), if_pos ht, if_pos (by omega)]
        rfl
      · replace hI2 := hI2.drew
        generalize W3.drew = W4 at *
        refine s_num (i := 2) h12 (by omega) hI2.fr ?_ rfl
        rw [List.drop_drop]
        have n14 := num2_ok (bs := bs.drop 14) fun x hx => hv.2 x (List.mem_of_mem_drop hx)
        have hI5 := hI2.put (Frm.s12 { zFrm with dst := macOf bs, src := macOf (bs.drop 6) } true)
        simp only [push_cast, Nat.reduceAdd, Nat.reduceLeDiff, Nat.reduceLT, Int.reduceToNat, Nat.left_eq_add, Nat.add_eq_left, Nat.add_left_cancel_iff, Nat.reduceEqDiff, Nat.add_assoc, Nat.succ_ne_zero, hI2.f]
        generalize wr W4 (w.heap.size + 1) 12 [.bool true] = W5 at *
        have eq : ∀ (R : Value → World → Prop) W, opS Tryd.prog (S.binI .quo (i64 (num2 (bs.drop 14))) (.int .i64 8192)) R W = R (i64 (num2 (bs.drop 14) / 8192)) W := fun R W => by
          rw [opS_quo _ _ _ (by decide), Int.tdiv_eq_ediv_of_nonneg (by omega), wrap_i64 (by omega)]
        have em : ∀ (R : Value → World → Prop) W, opS Tryd.prog (S.binI .rem (i64 (num2 (bs.drop 14))) (.int .i64 8192)) R W = R (i64 (num2 (bs.drop 14) % 8192)) W := fun R W => by
          rw [opS_rem _ _ _ (by decide), Int.tmod_eq_emod_of_nonneg (by omega)]
        rw [eq]
        have hI6 := hI5.put (Frm.s14 { zFrm with dst := macOf bs, src := macOf (bs.drop 6), tagged := true } (num2 (bs.drop 14) / 8192))
        simp only [push_cast, Nat.reduceAdd, Nat.reduceLeDiff, Nat.reduceLT, Int.reduceToNat, Nat.left_eq_add, Nat.add_eq_left, Nat.add_left_cancel_iff, Nat.reduceEqDiff, Nat.add_assoc, Nat.succ_ne_zero, hI5.f]
        generalize wr W5 (w.heap.size + 1) 14 [i64 (num2 (bs.drop 14) / 8192)] = W6 at *
        rw [em]
        have hI7 := hI6.put (Frm.s13 { zFrm with dst := macOf bs, src := macOf (bs.drop 6), tagged := true, prio := num2 (bs.drop 14) / 8192 } (num2 (bs.drop 14) % 8192))
        simp only [push_cast, Nat.reduceAdd, Nat.reduceLeDiff, Nat.reduceLT, Int.reduceToNat, Nat.left_eq_add, Nat.add_eq_left, Nat.add_left_cancel_iff, Nat.reduceEqDiff, Nat.add_assoc, Nat.succ_ne_zero, hI6.f]
        generalize wr W6 (w.heap.size + 1) 13 [i64 (num2 (bs.drop 14) % 8192)] = W7 at *
        refine s_slcL0 h12.1 (k := 4) (by simp; omega) fun v16 h16 => ?_
        rw [← List.map_drop] at h16
        have h16 := by_part h12 (fun x hx => List.mem_of_mem_drop hx) h16
        rw [List.drop_drop] at h16
        have hd16 : (bs.drop 16).length = bs.length - 16 := List.length_drop
        refine hj _ _ ⟨_, bs.drop 16, h16, by omega, by omega, rfl, hI7, ?_⟩
        unfold rdF
        rw [if_neg (by omega), if_pos ht, if_neg (by omega), List.drop_drop]
        rfl
    · have ht : num2 (bs.drop 12) ≠ 33024 := by simpa using ht
      refine hj _ _ ⟨_, bs.drop 12, h12, by omega, by omega, rfl, hI2, ?_⟩
      unfold rdF
      rw [if_neg (by omega), if_neg ht, List.drop_drop]
      rfl

end Go.Gx.S
end

section
/- Bytes that are read as a frame: the laws. -/
set_option linter.unusedVariables false
set_option linter.unusedSimpArgs false
set_option maxRecDepth 100000
namespace Go.Gx.S
open Go Go.Gx Go.Proofs
variable {K Z : Value → World → Prop} {w : World}

/-- what Decode tells -/
theorem decode_told {v : Value} {bs : List Int} (hv : ByR w v bs) (hl : bs.length ≤ 2 ^ 30)
    (h : ∀ (f : Frm) (cs : List Int) (e : Int) w', FrmR w' f cs → Fr none_ w w' → ((∃ g, decF bs = some (g, cs) ∧ e = 0 ∧ f = { g with body := f.body }) ∨ (decF bs = none ∧ e = 2 ∧ f = zFrm ∧ cs = [])) → K (.tuple #[.agg f.cells.toArray, i64 e]) w') : CallsR Tryd.prog 19 #[v] K w := by
  refine decode_spec hv hl (fun f cs he v1 w1 hv1 hN hF => ?_) fun he w1 hF => ?_
  · have he' := he
    unfold decF at he'
    obtain ⟨⟨f', cs'⟩, hr, he'⟩ := Option.bind_eq_some_iff.1 he'
    split at he'
    · cases he'
      obtain ⟨hok, _, _, _⟩ := rdF_ok hv.2 hr
      exact h _ cs 0 w1 ⟨hok, hv1⟩ hF (.inl ⟨f, he, rfl, rfl⟩)
    · cases he'
  · exact h zFrm [] 2 w1 (zFrmR w1) hF (.inr ⟨he, rfl, rfl, rfl⟩)

theorem rdecode_told {v : Value} {bs : List Int} (hv : ByR w v bs) (hl : bs.length ≤ 2 ^ 20)
    (h : ∀ (f : Frm) (cs : List Int) (e : Int) w', FrmR w' f cs → Fr none_ w w' → ((∃ g, decF bs = some (g, cs) ∧ e = 0 ∧ f = { g with body := f.body }) ∨ (decF bs = none ∧ e = 2 ∧ f = zFrm ∧ cs = [])) → K (.tuple #[.agg f.cells.toArray, i64 e]) w') : CallsR Tryd.prog 20 #[v] K w := by
  refine rdecode_spec hv hl (fun f cs he v1 w1 hv1 hF => ?_) fun he w1 hF => ?_
  · have he' := he
    unfold decF at he'
    obtain ⟨⟨f', cs'⟩, hr, he'⟩ := Option.bind_eq_some_iff.1 he'
    split at he'
    · cases he'
      obtain ⟨hok, _, _, _⟩ := rdF_ok hv.2 hr
      exact h _ cs 0 w1 ⟨hok, hv1⟩ hF (.inl ⟨f, he, rfl, rfl⟩)
    · cases he'
  · exact h zFrm [] 2 w1 (zFrmR w1) hF (.inr ⟨he, rfl, rfl, rfl⟩)

theorem decodes_law {v : Value} {bs : List Int} (hv : ByR w v bs) (h : ∀ w', Fr none_ w w' → K (.bool true) w') : CallsR Tryd.prog 7 #[v] K w := by
  apply c7
  unfold p7
  obtain ⟨a, c, hva⟩ := hv.form
  have elen : ∀ (R : Value → World → Prop) W, opS Tryd.prog (S.len v) R W = R (i64 bs.length) W := fun R W => by rw [hva]; rfl
  simp only [push_cast, Nat.reduceAdd, Nat.reduceLeDiff, Nat.reduceLT, Int.reduceToNat, Nat.left_eq_add, Nat.add_eq_left, Nat.add_left_cancel_iff, Nat.reduceEqDiff, Nat.add_assoc, Nat.succ_ne_zero]
  refine awake_spec fun w1 hF1 => ?_
  simp only [push_cast, Nat.reduceAdd, Nat.reduceLeDiff, Nat.reduceLT, Int.reduceToNat, Nat.left_eq_add, Nat.add_eq_left, Nat.add_left_cancel_iff, Nat.reduceEqDiff, Nat.add_assoc, Nat.succ_ne_zero]
  rw [elen]
  simp only [push_cast, Nat.reduceAdd, Nat.reduceLeDiff, Nat.reduceLT, Int.reduceToNat, Nat.left_eq_add, Nat.add_eq_left, Nat.add_left_cancel_iff, Nat.reduceEqDiff, Nat.add_assoc, Nat.succ_ne_zero]
  refine br_dec (fun _ => h _ hF1) fun hl => ?_
  refine decode_told (hv.fr hF1 fun _ _ h => h) (by omega) fun f cs e w2 hf hF2 hd => ?_
  replace hF1 := hF1.trans hF2
  simp only [s_ext, List.getElem?_toArray, List.getElem?_cons_zero, List.getElem?_cons_succ, onS_some]
  refine frm_slot hf.one fun _ w3 hx3 hF3 => ?_
  replace hF1 := hF1.trans hF3
  replace hf := hf.fr0 hF3
  simp only [push_cast, Nat.reduceAdd, Nat.reduceLeDiff, Nat.reduceLT, Int.reduceToNat, Nat.left_eq_add, Nat.add_eq_left, Nat.add_left_cancel_iff, Nat.reduceEqDiff, Nat.add_assoc, Nat.succ_ne_zero]
  refine rdecode_told (hv.fr hF1 fun _ _ h => h) (by omega) fun g ds e2 w4 hg hF4 hd2 => ?_
  replace hF1 := hF1.trans hF4
  replace hx3 := hF4.heap hx3 fun h => h
  replace hf := hf.fr0 hF4
  simp only [s_ext, List.getElem?_toArray, List.getElem?_cons_zero, List.getElem?_cons_succ, onS_some]
  refine frm_slot hg.one fun _ w5 hx5 hF5 => ?_
  replace hF1 := hF1.trans hF5
  replace hx3 := hF5.heap hx3 fun h => h
  replace hf := hf.fr0 hF5
  replace hg := hg.fr0 hF5
  simp only [push_cast, Nat.reduceAdd, Nat.reduceLeDiff, Nat.reduceLT, Int.reduceToNat, Nat.left_eq_add, Nat.add_eq_left, Nat.add_left_cancel_iff, Nat.reduceEqDiff, Nat.add_assoc, Nat.succ_ne_zero, hx3, hx5]
  have key : (f.dst = g.dst ∧ f.src = g.src ∧ f.tagged = g.tagged ∧ f.vlan = g.vlan ∧ f.prio = g.prio ∧ f.type = g.type ∧ cs = ds) ∧ e = e2 := by
    rcases hd with ⟨f1, h1, rfl, hf1⟩ | ⟨h1, rfl, rfl, rfl⟩ <;> rcases hd2 with ⟨g1, h2, rfl, hg1⟩ | ⟨h2, rfl, rfl, rfl⟩
    · rw [h1] at h2
      cases h2
      rw [hf1, hg1]
      exact ⟨⟨rfl, rfl, rfl, rfl, rfl, rfl, rfl⟩, rfl⟩
    · rw [h1] at h2; cases h2
    · rw [h1] at h2; cases h2
    · exact ⟨⟨rfl, rfl, rfl, rfl, rfl, rfl, rfl⟩, rfl⟩
  refine same_spec hf hg fun w6 hF6 => ?_
  rw [decide_eq_true key.1, key.2]
  simp only [push_cast, Nat.reduceAdd, Nat.reduceLeDiff, Nat.reduceLT, Int.reduceToNat, Nat.left_eq_add, Nat.add_eq_left, Nat.add_left_cancel_iff, Nat.reduceEqDiff, Nat.add_assoc, Nat.succ_ne_zero]
  simp only [beq_self_eq_true]
  exact h _ (hF1.trans hF6)

theorem back_law {f : Frm} {fs : List Int} {v : Value} {bs : List Int} (hf : FrmR w f fs) (hv : ByR w v bs) (h : ∀ w', Fr none_ w w' → K (.bool true) w') : CallsR Tryd.prog 8 #[.agg f.cells.toArray, v] K w := by
  apply c8
  unfold p8
  obtain ⟨a, c, hva⟩ := hv.form
  obtain ⟨fa, fc, hbd⟩ := hf.2.form
  have elen : ∀ (R : Value → World → Prop) W, opS Tryd.prog (S.len v) R W = R (i64 bs.length) W := fun R W => by rw [hva]; rfl
  simp only [push_cast, Nat.reduceAdd, Nat.reduceLeDiff, Nat.reduceLT, Int.reduceToNat, Nat.left_eq_add, Nat.add_eq_left, Nat.add_left_cancel_iff, Nat.reduceEqDiff, Nat.add_assoc, Nat.succ_ne_zero]
  refine awake_spec fun w1 hF1 => ?_
  have h1 := hF1.heap (b := w.heap.size) (o := cellsO f.cells 26) (by simp only [push_cast, Nat.reduceAdd, Nat.reduceLeDiff, Nat.reduceLT, Int.reduceToNat, Nat.left_eq_add, Nat.add_eq_left, Nat.add_left_cancel_iff, Nat.reduceEqDiff, Nat.add_assoc, Nat.succ_ne_zero]) (fun h => h)
  have hF : Fr none_ w w1 := Fr.trans (by repeat' first | with_reducible exact Fr.refl _ _ | with_reducible refine Fr.step_alloc ?_ ?_ | with_reducible refine Fr.step_drew ?_ | with_reducible refine Fr.step_wr ?_ ?_ _ _ | exact rfl | exact Or.inr (by omega) | exact Or.inl rfl | exact Or.inl (Or.inl rfl) | exact Or.inl (Or.inr rfl)) hF1
  clear hF1
  simp only [push_cast, Nat.reduceAdd, Nat.reduceLeDiff, Nat.reduceLT, Int.reduceToNat, Nat.left_eq_add, Nat.add_eq_left, Nat.add_left_cancel_iff, Nat.reduceEqDiff, Nat.add_assoc, Nat.succ_ne_zero, h1, hbd]
  refine br_dec (fun _ => h _ hF) fun hfl => ?_
  rw [elen]
  simp only [push_cast, Nat.reduceAdd, Nat.reduceLeDiff, Nat.reduceLT, Int.reduceToNat, Nat.left_eq_add, Nat.add_eq_left, Nat.add_left_cancel_iff, Nat.reduceEqDiff, Nat.add_assoc, Nat.succ_ne_zero]
  refine br_dec (fun _ => h _ hF) fun hl => ?_
  simp only [h1, push_cast, Nat.reduceAdd, Nat.reduceLeDiff, Nat.reduceLT, Int.reduceToNat, Nat.left_eq_add, Nat.add_eq_left, Nat.add_left_cancel_iff, Nat.reduceEqDiff, Nat.add_assoc, Nat.succ_ne_zero]
  refine enc_spec (hf.fr0 hF) (by omega) fun v2 w2 hv2 hN2 hF2 => ?_
  have h2 := hF2.heap h1 fun h => h
  replace hF := hF.trans hF2
  simp only [s_ext, List.getElem?_toArray, List.getElem?_cons_zero, List.getElem?_cons_succ, onS_some]
  refine jn0 (Fr none_ w) ?_ fun j hj => ?_
  · intro w3 hF3
    simp only [push_cast, Nat.reduceAdd, Nat.reduceLeDiff, Nat.reduceLT, Int.reduceToNat, Nat.left_eq_add, Nat.add_eq_left, Nat.add_left_cancel_iff, Nat.reduceEqDiff, Nat.add_assoc, Nat.succ_ne_zero]
    refine decode_told (hv.fr hF3 fun _ _ h => h) (by omega) fun g cs e w4 hg hF4 hd => ?_
    replace hF3 := hF3.trans hF4
    simp only [s_ext, List.getElem?_toArray, List.getElem?_cons_zero, List.getElem?_cons_succ, onS_some]
    refine frm_slot hg.one fun _ w5 hx5 hF5 => ?_
    replace hF3 := hF3.trans hF5
    replace hg := hg.fr0 hF5
    obtain ⟨ga, gc, hgbd⟩ := hg.2.form
    simp only [push_cast, Nat.reduceAdd, Nat.reduceLeDiff, Nat.reduceLT, Int.reduceToNat, Nat.left_eq_add, Nat.add_eq_left, Nat.add_left_cancel_iff, Nat.reduceEqDiff, Nat.add_assoc, Nat.succ_ne_zero]
    rcases hd with ⟨g1, hd, rfl, hg1⟩ | ⟨hd, rfl, rfl, rfl⟩
    · refine br_intro (fun e => absurd e (by decide)) fun _ => ?_
      have hd' := hd
      unfold decF at hd'
      obtain ⟨⟨f', cs'⟩, hr, hd'⟩ := Option.bind_eq_some_iff.1 hd'
      split at hd'
      · rename_i hrr
        cases hd'
        obtain ⟨_, _, hle, _⟩ := rdF_ok hv.2 hr
        have hgr : g.right cs.length = true := by rw [hg1]; exact hrr
        have hgb : Frm.bytes g cs = bs := by
          rw [hg1]
          have hb : Frm.bytes g1 cs = bs := rdF_bytes hv.2 hr hrr
          exact hb
        simp only [push_cast, Nat.reduceAdd, Nat.reduceLeDiff, Nat.reduceLT, Int.reduceToNat, Nat.left_eq_add, Nat.add_eq_left, Nat.add_left_cancel_iff, Nat.reduceEqDiff, Nat.add_assoc, Nat.succ_ne_zero, hx5]
        refine enc_spec hg (by omega) fun v6 w6 hv6 hN6 hF6 => ?_
        replace hx5 := hF6.heap hx5 fun h => h
        replace hF3 := hF3.trans hF6
        rw [hgr, if_pos rfl] at hv6 ⊢
        rw [hgb] at hv6
        simp only [push_cast, Nat.reduceAdd, Nat.reduceLeDiff, Nat.reduceLT, Int.reduceToNat, Nat.left_eq_add, Nat.add_eq_left, Nat.add_left_cancel_iff, Nat.reduceEqDiff, Nat.add_assoc, Nat.succ_ne_zero]
        refine br_intro (fun _ => ?_) fun e => absurd e (by decide)
        rw [s_b2s hv6, s_b2s (hv.fr hF3 fun _ _ h => h), s_eqS hv.2 hv.2]
        simp only [push_cast, Nat.reduceAdd, Nat.reduceLeDiff, Nat.reduceLT, Int.reduceToNat, Nat.left_eq_add, Nat.add_eq_left, Nat.add_left_cancel_iff, Nat.reduceEqDiff, Nat.add_assoc, Nat.succ_ne_zero]
        simp only [push_cast, Nat.reduceAdd, Nat.reduceLeDiff, Nat.reduceLT, Int.reduceToNat, Nat.left_eq_add, Nat.add_eq_left, Nat.add_left_cancel_iff, Nat.reduceEqDiff, Nat.add_assoc, Nat.succ_ne_zero, hx5]
        refine right_spec hgbd fun w7 hF7 => ?_
        rw [hgr]
        exact h _ (hF3.trans hF7)
      · cases hd'
    · refine br_intro (fun _ => ?_) fun e => absurd e (by decide)
      rw [jn_1]
      simp only [push_cast, Nat.reduceAdd, Nat.reduceLeDiff, Nat.reduceLT, Int.reduceToNat, Nat.left_eq_add, Nat.add_eq_left, Nat.add_left_cancel_iff, Nat.reduceEqDiff, Nat.add_assoc, Nat.succ_ne_zero]
      refine br_intro (fun _ => ?_) fun e => absurd e (by decide)
      have g16 : zFrm.cells[16]? = some (.slice none 0 0) := rfl
      simp only [push_cast, Nat.reduceAdd, Nat.reduceLeDiff, Nat.reduceLT, Int.reduceToNat, Nat.left_eq_add, Nat.add_eq_left, Nat.add_left_cancel_iff, Nat.reduceEqDiff, Nat.add_assoc, Nat.succ_ne_zero, hx5]
      exact h _ hF3
  · simp only [push_cast, Nat.reduceAdd, Nat.reduceLeDiff, Nat.reduceLT, Int.reduceToNat, Nat.left_eq_add, Nat.add_eq_left, Nat.add_left_cancel_iff, Nat.reduceEqDiff, Nat.add_assoc, Nat.succ_ne_zero]
    refine br_intro (fun he => ?_) fun he => hj _ hF
    have hr : f.right fs.length = true := by
      cases hrr : f.right fs.length with
      | true => rfl
      | false => rw [hrr] at he; exact absurd he (by decide)
    rw [if_pos hr] at hv2
    have hlen := bytes_len f fs
    have hback : decF (Frm.bytes f fs) = some ({ f with body := .slice none 0 0 }, fs) := by
      have hr2 := hr
      simp only [Frm.right, Bool.and_eq_true, decide_eq_true_eq] at hr2
      unfold decF
      rw [rdF_back hr (fun ht => by rw [ht] at hr2; simpa using hr2.2) (fun ht => by rw [ht] at hr2; simpa using hr2.2), Option.bind_some]
      have : ({ f with body := .slice none 0 0 } : Frm).right fs.length = true := hr
      rw [if_pos this]
    refine decode_told hv2 (by rw [hlen]; split <;> omega) fun g cs e w3 hg hF3 hd => ?_
    replace h2 := hF3.heap h2 fun h => h
    replace hF := hF.trans hF3
    simp only [s_ext, List.getElem?_toArray, List.getElem?_cons_zero, List.getElem?_cons_succ, onS_some]
    refine frm_slot hg.one fun _ w4 hx4 hF4 => ?_
    replace h2 := hF4.heap h2 fun h => h
    replace hF := hF.trans hF4
    replace hg := hg.fr0 hF4
    simp only [push_cast, Nat.reduceAdd, Nat.reduceLeDiff, Nat.reduceLT, Int.reduceToNat, Nat.left_eq_add, Nat.add_eq_left, Nat.add_left_cancel_iff, Nat.reduceEqDiff, Nat.add_assoc, Nat.succ_ne_zero, h2, hx4]
    refine same_spec (hf.fr0 hF) hg fun w5 hF5 => ?_
    replace hF := hF.trans hF5
    rcases hd with ⟨g1, hd, rfl, hg1⟩ | ⟨hd, _⟩
    · rw [hback] at hd
      cases hd
      rw [decide_eq_true (by rw [hg1]; exact ⟨rfl, rfl, rfl, rfl, rfl, rfl, rfl⟩)]
      simp only [push_cast, Nat.reduceAdd, Nat.reduceLeDiff, Nat.reduceLT, Int.reduceToNat, Nat.left_eq_add, Nat.add_eq_left, Nat.add_left_cancel_iff, Nat.reduceEqDiff, Nat.add_assoc, Nat.succ_ne_zero]
      refine br_intro (fun e => absurd e (by decide)) fun _ => ?_
      exact hj _ hF
    · rw [hback] at hd; cases hd

end Go.Gx.S
end

section
/- Bytes that come in; the laws on frames that are read. -/
set_option maxRecDepth 100000
namespace Go.Gx.S
open Go Go.Gx Go.Proofs

theorem arg_by {H : Type} {enc : TypeId × Value → H} {w : World} {base base' : Nat} {spare : Nat → Bool} {held : Bool} {v : Value} {d : DataW H} {ps : List MemPlace} {r : Reach} (hok : Value.okWide Tryd.prog w r base' 24 v) (h : DataW.Trod enc Tryd.prog w base spare held 24 v d ps) :
    ∃ bs, ByR w v bs ∧ bs.length ≤ maxLen := arg_bytes Tryd.underlying24 Tryd.underlying5 ctByte hok h
end Go.Gx.S
end
