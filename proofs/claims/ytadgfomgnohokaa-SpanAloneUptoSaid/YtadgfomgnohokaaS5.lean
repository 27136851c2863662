/- Own texts, put together. -/
import Derived.Test.YtadgfomgnohokaaS4
import Derived.Test.YtadgfomgnohokaaS1
import Derived.Test.YtadgfomgnohokaaS2
import Derived.Test.YtadgfomgnohokaaRows
section
/- Bridges that are made, and meet. -/
set_option linter.unusedVariables false
set_option linter.unusedSimpArgs false
set_option maxRecDepth 100000
namespace Go.Gx.S
open Go Go.Gx Go.Proofs
variable {K : Value → World → Prop} {w : World} {sp mb : Nat} {bs : List Nat} {pv fv : Value} {s : Sp}

/-! ### Lists are the same -/

theorem sameints_spec {a b : Value} {l r : List Int} (ha : RdE 1 w a (l.map cellI)) (hb : RdE 1 w b (r.map cellI)) (hn : l.length < 2 ^ 62) (h : ∀ w', Fr none_ w w' → K (.bool (decide (l = r))) w') : CallsR Try.prog 18 #[a, b] K w := by
  apply c18
  unfold p18
  obtain ⟨aa, ac, rfl⟩ := ha.form
  obtain ⟨ba, bc, rfl⟩ := hb.form
  rw [List.length_map] at ha hb ⊢
  rw [List.length_map]
  simp only [push_cast, Nat.reduceAdd, Nat.reduceLeDiff, Nat.reduceLT, Int.reduceToNat, Nat.left_eq_add, Nat.add_eq_left, Nat.add_left_cancel_iff, Nat.reduceEqDiff, Nat.add_assoc, Nat.succ_ne_zero]
  refine br_intro (fun hne => ?_) fun heq => ?_
  · have : l ≠ r := fun e => by subst e; simp at hne
    rw [decide_eq_false this] at h
    exact h _ (Fr.refl _ _)
  · have hl : l.length = r.length := by
      have : (l.length : Int) = r.length := by simpa using heq
      omega
    refine jn0 (fun w' => Fr none_ w w' ∧ l = r) (fun w' ⟨hF, e⟩ => ?_) fun j hj => ?_
    · rw [decide_eq_true e] at h
      exact h _ hF
    refine loop1 (fun m v w' => ∃ i : Nat, v = i64 i ∧ i + m = l.length ∧ Fr none_ w w' ∧ l.take i = r.take i) ?_ l.length ⟨0, rfl, by omega, Fr.refl _ _, rfl⟩
    rintro m v w' X ⟨i, rfl, hi, hF, htk⟩ hX
    simp only [push_cast, Nat.reduceAdd, Nat.reduceLeDiff, Nat.reduceLT, Int.reduceToNat, Nat.left_eq_add, Nat.add_eq_left, Nat.add_left_cancel_iff, Nat.reduceEqDiff, Nat.add_assoc, Nat.succ_ne_zero]
    refine br_dec (fun hlt => ?_) fun hge => hj _ ⟨hF, ?_⟩
    · have hi2 : i < l.length := by omega
      have ha' : RdE 1 w'.drew _ (l.map cellI) := ha.fr hF.step_drew (fun _ _ h => h)
      have hb' : RdE 1 w'.drew _ (r.map cellI) := hb.fr hF.step_drew (fun _ _ h => h)
      rw [← List.length_map (f := cellI)] at ha'
      rw [← List.length_map (f := cellI)] at hb'
      refine s_iaE (es := l.map cellI) (ha.fr hF.step_drew (fun _ _ h => h)) (by omega) (by simpa using hi2) fun b1 o1 c1 _ hE => ?_
      simp only [Int.toNat_natCast, List.getElem_map] at hE ⊢
      have hE0 := hE.cell0 (show 0 < 1 by decide)
      simp only [push_cast, Nat.reduceAdd, Nat.reduceLeDiff, Nat.reduceLT, Int.reduceToNat, Nat.left_eq_add, Nat.add_eq_left, Nat.add_left_cancel_iff, Nat.reduceEqDiff, Nat.add_assoc, Nat.succ_ne_zero, cellI] at hE0
      simp only [push_cast, Nat.reduceAdd, Nat.reduceLeDiff, Nat.reduceLT, Int.reduceToNat, Nat.left_eq_add, Nat.add_eq_left, Nat.add_left_cancel_iff, Nat.reduceEqDiff, Nat.add_assoc, Nat.succ_ne_zero, hE0]
      refine s_iaE (es := r.map cellI) (hb.fr hF.step_drew (fun _ _ h => h)) (by omega) (by simpa using hl ▸ hi2) fun b2 o2 c2 _ hE2 => ?_
      simp only [Int.toNat_natCast, List.getElem_map] at hE2 ⊢
      have hE3 := hE2.cell0 (show 0 < 1 by decide)
      simp only [push_cast, Nat.reduceAdd, Nat.reduceLeDiff, Nat.reduceLT, Int.reduceToNat, Nat.left_eq_add, Nat.add_eq_left, Nat.add_left_cancel_iff, Nat.reduceEqDiff, Nat.add_assoc, Nat.succ_ne_zero, cellI] at hE3
      simp only [push_cast, Nat.reduceAdd, Nat.reduceLeDiff, Nat.reduceLT, Int.reduceToNat, Nat.left_eq_add, Nat.add_eq_left, Nat.add_left_cancel_iff, Nat.reduceEqDiff, Nat.add_assoc, Nat.succ_ne_zero, hE3]
      have hw : IntKind.i64.wrap ((i : Int) + 1) = ((i + 1 : Nat) : Int) := by rw [wrap_i64 (by omega)]; omega
      refine br_intro (fun hd => ?_) fun hd => ?_
      · have : l ≠ r := fun e => by subst e; simp at hd
        rw [decide_eq_false this] at h
        exact h _ hF.step_drew
      · have he : l[i] = r[i] := by simpa using hd
        simp only [push_cast, Nat.reduceAdd, Nat.reduceLeDiff, Nat.reduceLT, Int.reduceToNat, Nat.left_eq_add, Nat.add_eq_left, Nat.add_left_cancel_iff, Nat.reduceEqDiff, Nat.add_assoc, Nat.succ_ne_zero, hw]
        refine hX (m - 1) _ _ (by omega) ⟨i + 1, rfl, by omega, hF.step_drew, ?_⟩
        rw [List.take_add_one, List.take_add_one, htk, List.getElem?_eq_getElem hi2, List.getElem?_eq_getElem (hl ▸ hi2), he]
    · rw [List.take_of_length_le (by omega), List.take_of_length_le (by omega)] at htk
      exact htk

theorem ctSpk : Try.prog.cellsOf 56 = 23 := by kernel_rfl
theorem spk_enc {d : Nat} {x : Spk} (h : x.ok) : Try.prog.keyLits (d + 5) 56 x.cells = some x.lits := by
  refine kl_struct_mk (ls := [[_], x.b.lits]) Try.underlying56 (by simp) (by rw [ctSpk]; rfl) ?_
  simp only [List.mapM_cons, List.mapM_nil, ctInt, ctBpd, Spk.cells, bind, Option.bind_eq_some_iff, pure, Option.some.injEq, List.drop_succ_cons, List.drop_zero, List.take_succ_cons, List.take_zero]
  exact ⟨_, kl_int_mk uInt h.1, _, ⟨_, bpd_enc h.2, _, rfl, rfl⟩, rfl⟩
theorem s_neSpk {x y : Spk} (hx : x.ok) (hy : y.ok) (h : K (.bool (!decide (x = y))) w) : opS Try.prog (S.binG .neq 56 (.agg x.cells.toArray) (.agg y.cells.toArray)) K w :=
  s_neqG (spk_enc (d := 3) hx) (spk_enc (d := 3) hy) fun q hq => by
    rw [Spk.lits_inj] at hq
    have : q = decide (x = y) := by rw [Bool.eq_iff_iff, hq, decide_eq_true_iff]
    rw [this]; exact h

/-! ### What is said is in form -/

theorem wrap_in (x : Int) : isI (IntKind.i64.wrap x) := isI_iff.2 (by
  unfold IntKind.wrap
  have e1 : (2 : Int) ^ IntKind.i64.bits = 18446744073709551616 := rfl
  have e2 : (2 : Int) ^ (IntKind.i64.bits - 1) = 9223372036854775808 := rfl
  have e3 : IntKind.i64.signed = true := rfl
  simp only [e1, e2, e3, Bool.true_and, decide_eq_true_eq]
  split <;> omega)
theorem putI_ok {f : Int} (h : isI f) (is : Bool) (b : Int) : isI (putI f is b) := by
  unfold putI
  split
  · exact wrap_in _
  · exact h
theorem baseF_ok (p : Prt) (due tells : Bool) : isI (baseF p due tells) := by
  unfold baseF
  split
  · exact putI_ok (putI_ok isI0 _ _) _ _
  · exact putI_ok (putI_ok (putI_ok isI0 _ _) _ _) _ _
theorem flagsF_ok (p : Prt) (due tells : Bool) : isI (flagsF p due tells) := by
  unfold flagsF
  split
  · exact isI0
  · exact putI_ok (putI_ok (putI_ok (baseF_ok p due tells) _ _) _ _) _ _
theorem rootAge_in (h : s.wf) : 0 ≤ s.rootAge ∧ s.rootAge ≤ 65535 := by
  unfold Sp.rootAge ageK
  cases hf : (s.l.take s.l.length).find? isRoot with
  | none => exact ⟨Int.le_refl 0, by show (0 : Int) ≤ 65535; omega⟩
  | some p =>
    have hm := List.mem_of_find?_eq_some hf
    rw [List.take_length] at hm
    have := (h.rl p hm).age
    show 0 ≤ min (p.age + 1) 65535 ∧ min (p.age + 1) 65535 ≤ 65535
    omega
theorem sayB_ok (h : s.wf) {k : Nat} (hk : k < 2 ^ 20) {f : Int} (hf : isI f) : (sayB s k f).ok := by
  have h1 := rootAge_in h
  have h2 : isI ((k : Int) + 1) := isI_iff.2 (by omega)
  exact ⟨h2, isI2, hf, h.best.1, h.best.2.1, h.me, h2, isI_iff.2 (by show _ ≤ s.rootAge ∧ s.rootAge ≤ _; omega), isI_iff.2 (by show (_ : Int) ≤ 20 ∧ (20 : Int) ≤ _; omega), isI2, isI_iff.2 (by show (_ : Int) ≤ 15 ∧ (15 : Int) ≤ _; omega)⟩
theorem sayK_ok (h : s.wf) (due : Bool) (now : Int) : ∀ k, k ≤ s.l.length → ∀ x ∈ (s.sayK due now k).2, x.ok
  | 0, _ => fun x hx => by cases hx
  | k + 1, hk => fun x hx => by
    have ih := sayK_ok h due now k (by omega)
    have h64 := h.n64
    obtain ⟨p, hp⟩ : ∃ p, (s.sayK due now k).1.l[k]? = some p := ⟨_, List.getElem?_eq_getElem (by rw [sayK_len]; omega)⟩
    rw [sayK_succ hp] at hx
    unfold sayN at hx
    split at hx
    · exact ih x hx
    · rcases List.mem_append.1 hx with hx | hx
      · exact ih x hx
      · simp only [List.mem_singleton] at hx
        rw [hx]
        exact sayB_ok (h.sayK due now k) (by omega) (flagsF_ok _ _ _)
theorem tick_ok (h : s.wf) {now : Int} (hn : momB now) : ∀ x ∈ (s.tickP now).2, x.ok :=
  sayK_ok ((h.tick3 hn).dueS hn) _ now _ (by rw [dueS_l, tick3_len]; exact Nat.le_refl _)
theorem sayK_n (s : Sp) (due : Bool) (now : Int) : ∀ k, (s.sayK due now k).2.length ≤ k
  | 0 => Nat.le_refl _
  | k + 1 => by
    have ih := sayK_n s due now k
    show (match (s.sayK due now k).1.l[k]? with
      | none => s.sayK due now k
      | some p => sayN (s.sayK due now k) k p ((s.sayK due now k).1.says p due now)).2.length ≤ k + 1
    split
    · omega
    · unfold sayN
      split
      · omega
      · simp; omega
theorem tick_n (s : Sp) (now : Int) : (s.tickP now).2.length ≤ s.l.length := sayK_n _ _ _ _

/-! ### Two meet -/

def takeAll (s : Sp) (now : Int) : List Spk → Sp
  | [] => s
  | x :: l => takeAll (s.take x.port x.b now).1 now l
def meetR (t : Sp × Sp) (now : Int) : Sp × Sp := (takeAll (t.1.tickP now).1 now (t.2.tickP now).2, takeAll (t.2.tickP now).1 now (t.1.tickP now).2)
def meetK (t : Sp × Sp) : Nat → Sp × Sp
  | 0 => t
  | k + 1 => meetR (meetK t k) k
theorem takeAll_app (s : Sp) (now : Int) (l : List Spk) (x : Spk) : takeAll s now (l ++ [x]) = ((takeAll s now l).take x.port x.b now).1 := by
  induction l generalizing s with
  | nil => rfl
  | cons y l ih => exact ih _
theorem Sp.wf.takeAll (h : s.wf) (now : Int) {l : List Spk} (hl : ∀ x ∈ l, x.ok) : (takeAll s now l).wf := by
  induction l generalizing s with
  | nil => exact h
  | cons y l ih => exact ih (h.take _ (hl y (List.mem_cons_self ..)).2 now) fun x hx => hl x (List.mem_cons_of_mem _ hx)
theorem Sp.wf.meetK {t : Sp × Sp} (h1 : t.1.wf) (h2 : t.2.wf) : ∀ k, k ≤ 1000 → (meetK t k).1.wf ∧ (meetK t k).2.wf
  | 0, _ => ⟨h1, h2⟩
  | k + 1, hk => by
    obtain ⟨g1, g2⟩ := Sp.wf.meetK h1 h2 k (by omega)
    have hn : momB (k : Int) := by unfold momB; omega
    exact ⟨(g1.tickP hn).takeAll k (tick_ok g2 hn), (g2.tickP hn).takeAll k (tick_ok g1 hn)⟩

/-- nothing of one is the other's -/
structure Sep (spA : Nat) (bsA : List Nat) (pvA : Value) (mbA : Nat) (spB : Nat) (bsB : List Nat) (pvB : Value) (mbB : Nat) : Prop where
  ab : ∀ c, fC spA bsA mbA c → ¬ fC spB bsB mbB c
  pa : ∀ c, blkS pvA = some c → ¬ fC spB bsB mbB c
  pb : ∀ c, blkS pvB = some c → ¬ fC spA bsA mbA c

section
variable {spA mbA spB mbB : Nat} {bsA bsB : List Nat} {pvA pvB : Value} {a b : Sp}
theorem Sep.symm (h : Sep spA bsA pvA mbA spB bsB pvB mbB) : Sep spB bsB pvB mbB spA bsA pvA mbA := ⟨fun c h1 h2 => h.ab c h2 h1, h.pb, h.pa⟩
theorem Sep.frA (h : Sep spA bsA pvA mbA spB bsB pvB mbB) {w' : World} (hA : CS w spA bsA pvA mbA a) (hF : Fr (fC spB bsB mbB) w w') : CS w' spA bsA pvA mbA a := hA.fr hF h.ab h.pa

/-- all that was said is taken -/
theorem takes_spec {v : Value} {l : List Spk} {now : Int} (h : CS w sp bs pv mb s) (hw : s.wf) (hv : RdE 23 w v (l.map Spk.cells)) (hl : ∀ x ∈ l, x.ok) (hl2 : l.length ≤ 2 ^ 20) (hd : ∀ c, blkS v = some c → ¬ fC sp bs mb c) {j : World → Prop}
    (hj : ∀ w', CS w' sp bs pv mb (takeAll s now l) → Fr (fC sp bs mb) w w' → j w') :
    loopJ 1 (fun j4 x15 => opS Try.prog (S.len v) fun x16 => opS Try.prog (S.binI .lss x15 x16) fun x17 => brn x17 (drw <| opS Try.prog (S.ia 44 v x15) fun x18 => opS Try.prog (S.fa 56 x18 0) fun x19 => opS Try.prog (S.ld 3 x19) fun x20 =>
      opS Try.prog (S.ia 44 v x15) fun x21 => opS Try.prog (S.fa 56 x21 1) fun x22 => opS Try.prog (S.ld 50 x22) fun x23 => opS Try.prog (S.cl 16 [pt sp 0, x20, x23, i64 now]) fun _ => opS Try.prog (S.binI .add x15 (.int .i64 1)) fun x25 => j4 x25) j) (.int .i64 0) w := by
  obtain ⟨va, vc, rfl⟩ := hv.form
  rw [List.length_map] at hv hd ⊢
  refine loop1 (fun n u W => ∃ i : Nat, u = i64 i ∧ i + n = l.length ∧ CS W sp bs pv mb (takeAll s now (l.take i)) ∧ Fr (fC sp bs mb) w W) ?_ l.length ⟨0, rfl, by omega, h, Fr.refl _ _⟩
  rintro n u W X ⟨i, rfl, hi, hI, hF⟩ hX
  simp only [push_cast, Nat.reduceAdd, Nat.reduceLeDiff, Nat.reduceLT, Int.reduceToNat, Nat.left_eq_add, Nat.add_eq_left, Nat.add_left_cancel_iff, Nat.reduceEqDiff, Nat.add_assoc, Nat.succ_ne_zero]
  refine br_dec (fun hlt => ?_) fun hge => ?_
  · have hil : i < l.length := by omega
    have hw1 : IntKind.i64.wrap ((i : Int) + 1) = ((i + 1 : Nat) : Int) := by rw [wrap_i64 (by omega)]; rfl
    have hvd : RdE 23 W.drew _ (l.map Spk.cells) := hv.fr (hF.trans (Fr.drew W)) hd
    refine s_iaE (es := l.map Spk.cells) hvd (by omega) (by simpa using hil) fun b1 o1 c1 _ hE => ?_
    simp only [Int.toNat_natCast, List.getElem_map] at hE ⊢
    have h1 : cellAt W.heap[b1]? (o1 + i * 23) = some (i64 l[i].port) := hE.cell0 (by rw [Spk.len]; decide)
    have h2 : aggAt W.heap[b1]? (o1 + i * 23 + 1) 22 = some (.agg l[i].b.cells.toArray) := by
      have := hE.agg 1 22 (by rw [Spk.len]; decide)
      rw [Spk.d_b] at this
      exact this
    have h2' : aggAt W.heap[b1]? (o1 + (i * 23 + 1)) 22 = some (.agg l[i].b.cells.toArray) := by rw [← Nat.add_assoc]; exact h2
    simp only [push_cast, Nat.reduceAdd, Nat.reduceLeDiff, Nat.reduceLT, Int.reduceToNat, Nat.left_eq_add, Nat.add_eq_left, Nat.add_left_cancel_iff, Nat.reduceEqDiff, Nat.add_assoc, Nat.succ_ne_zero, h1]
    refine s_iaE (es := l.map Spk.cells) hvd (by omega) (by simpa using hil) fun b2 o2 c2 _ hE2 => ?_
    simp only [Int.toNat_natCast, List.getElem_map] at hE2 ⊢
    have h3 : aggAt W.heap[b2]? (o2 + (i * 23 + 1)) 22 = some (.agg l[i].b.cells.toArray) := by
      have := hE2.agg 1 22 (by rw [Spk.len]; decide)
      rw [Spk.d_b, Nat.add_assoc] at this
      exact this
    simp only [push_cast, Nat.reduceAdd, Nat.reduceLeDiff, Nat.reduceLT, Int.reduceToNat, Nat.left_eq_add, Nat.add_eq_left, Nat.add_left_cancel_iff, Nat.reduceEqDiff, Nat.add_assoc, Nat.succ_ne_zero, h3]
    have hwI := hw.takeAll now (l := l.take i) fun x hx => hl x (List.mem_of_mem_take hx)
    refine take_spec (hI.fr0 (Fr.drew W)) hwI (hl _ (List.getElem_mem hil)).2 fun W2 h2 f2 => ?_
    simp only [push_cast, Nat.reduceAdd, Nat.reduceLeDiff, Nat.reduceLT, Int.reduceToNat, Nat.left_eq_add, Nat.add_eq_left, Nat.add_left_cancel_iff, Nat.reduceEqDiff, Nat.add_assoc, Nat.succ_ne_zero, hw1]
    refine hX (l.length - (i + 1)) _ _ (by omega) ⟨i + 1, rfl, by omega, ?_, (hF.trans (Fr.drew W)).trans f2⟩
    rw [List.take_add_one, List.getElem?_eq_getElem hil]
    show CS W2 sp bs pv mb (takeAll s now (l.take i ++ [l[i]]))
    rw [takeAll_app]
    exact h2
  · rw [List.take_of_length_le (by omega)] at hI
    exact hj _ hI hF

theorem meet_spec {n : Int} (hA : CS w spA bsA pvA mbA a) (hB : CS w spB bsB pvB mbB b) (ha : a.wf) (hb : b.wf) (hs : Sep spA bsA pvA mbA spB bsB pvB mbB) (hn0 : 0 ≤ n) (hn : n ≤ 1000)
    (hk : ∀ w', CS w' spA bsA pvA mbA (meetK (a, b) n.toNat).1 → CS w' spB bsB pvB mbB (meetK (a, b) n.toNat).2 → Fr (fun c => fC spA bsA mbA c ∨ fC spB bsB mbB c) w w' → K (.bool true) w') :
    CallsR Try.prog 9 #[pt spA 0, pt spB 0, i64 0, i64 n] K w := by
  apply c9
  unfold p9
  refine jn0 (fun W => CS W spA bsA pvA mbA (meetK (a, b) n.toNat).1 ∧ CS W spB bsB pvB mbB (meetK (a, b) n.toNat).2 ∧ Fr (fun c => fC spA bsA mbA c ∨ fC spB bsB mbB c) w W) (fun W ⟨h1, h2, h3⟩ => hk W h1 h2 h3) fun j hj => ?_
  refine loop1 (fun m u W => ∃ k : Nat, k ≤ n.toNat ∧ m = n.toNat - k ∧ u = i64 k ∧ CS W spA bsA pvA mbA (meetK (a, b) k).1 ∧ CS W spB bsB pvB mbB (meetK (a, b) k).2 ∧ Fr (fun c => fC spA bsA mbA c ∨ fC spB bsB mbB c) w W) ?_ n.toNat ⟨0, by omega, rfl, rfl, hA, hB, Fr.refl _ _⟩
  rintro m u W X ⟨k, hk2, rfl, rfl, hA, hB, hF⟩ hX
  have hw0 : IntKind.i64.wrap (0 + n) = n := by rw [wrap_i64 (by omega)]; omega
  simp only [push_cast, Nat.reduceAdd, Nat.reduceLeDiff, Nat.reduceLT, Int.reduceToNat, Nat.left_eq_add, Nat.add_eq_left, Nat.add_left_cancel_iff, Nat.reduceEqDiff, Nat.add_assoc, Nat.succ_ne_zero, hw0]
  refine br_dec (fun hlt => ?_) fun hge => ?_
  · have hkn : k < n.toNat := by omega
    have hmn : momB (k : Int) := by unfold momB; omega
    obtain ⟨wa, wb⟩ := Sp.wf.meetK (t := (a, b)) ha hb k (by omega)
    have hsucc : meetK (a, b) (k + 1) = meetR (meetK (a, b) k) k := rfl
    have hla := wa.n64
    have hlb := wb.n64
    generalize meetK (a, b) k = T at *
    refine jn0 (fun W => CS W spA bsA pvA mbA (meetK (a, b) (k + 1)).1 ∧ CS W spB bsB pvB mbB (meetK (a, b) (k + 1)).2 ∧ Fr (fun c => fC spA bsA mbA c ∨ fC spB bsB mbB c) w W) ?_ fun j1 hj1 => ?_
    · rintro W ⟨h1, h2, h3⟩
      have hwk : IntKind.i64.wrap ((k : Int) + 1) = ((k + 1 : Nat) : Int) := by rw [wrap_i64 (by omega)]; rfl
      simp only [push_cast, Nat.reduceAdd, Nat.reduceLeDiff, Nat.reduceLT, Int.reduceToNat, Nat.left_eq_add, Nat.add_eq_left, Nat.add_left_cancel_iff, Nat.reduceEqDiff, Nat.add_assoc, Nat.succ_ne_zero, hwk]
      exact hX (n.toNat - (k + 1)) _ _ (by omega) ⟨k + 1, by omega, rfl, rfl, h1, h2, h3⟩
    · refine tick_spec hA wa (fun e => absurd hmn e) fun x W1 _ hA1 hx1 nx1 f1 => ?_
      simp only [push_cast, Nat.reduceAdd, Nat.reduceLeDiff, Nat.reduceLT, Int.reduceToNat, Nat.left_eq_add, Nat.add_eq_left, Nat.add_left_cancel_iff, Nat.reduceEqDiff, Nat.add_assoc, Nat.succ_ne_zero]
      have hB1 : CS W1 spB bsB pvB mbB T.2 := hs.symm.frA hB f1
      refine tick_spec hB1 wb (fun e => absurd hmn e) fun y W2 _ hB2 hy2 ny2 f2 => ?_
      have hA2 : CS W2 spA bsA pvA mbA (T.1.tickP k).1 := hs.frA hA1 f2
      have hs1 := f1.size
      have hs2 := f2.size
      have hx2 := hx1.fr f2 fun c hc e => by
        have := nx1 c hc
        have := hB.lt c e
        omega
      have hxl : ∀ c, blkS x = some c → W.heap.size ≤ c := nx1
      have hyl : ∀ c, blkS y = some c → W.heap.size ≤ c := fun c hc => by have := ny2 c hc; omega
      have hF2 : Fr (fun c => fC spA bsA mbA c ∨ fC spB bsB mbB c) w W2 := (hF.trans (f1.mono fun _ _ h => .inl h)).trans (f2.mono fun _ _ h => .inr h)
      have oa := tick_ok wa hmn
      have ob := tick_ok wb hmn
      have na := tick_n T.1 k
      have nb := tick_n T.2 k
      have wta := wa.tickP hmn
      have wtb := wb.tickP hmn
      refine jn0 (fun W3 => CS W3 spA bsA pvA mbA (T.1.tickP k).1 ∧ CS W3 spB bsB pvB mbB (takeAll (T.2.tickP k).1 k (T.1.tickP k).2) ∧ RdE 23 W3 y ((T.2.tickP k).2.map Spk.cells) ∧ Fr (fun c => fC spA bsA mbA c ∨ fC spB bsB mbB c) w W3) ?_ fun j3 hj3 => ?_
      · rintro W3 ⟨hA3, hB3, hy3, hF3⟩
        rw [jn_0]
        refine takes_spec hA3 wta hy3 ob (by omega) (fun c hc e => ?_) fun W4 h4 f4 => hj1 _ ⟨?_, ?_, hF3.trans (f4.mono fun _ _ h => .inl h)⟩
        · have := hyl c hc
          have := hA.lt c e
          omega
        · rw [hsucc]; exact h4
        · rw [hsucc]; exact hs.symm.frA hB3 f4
      · refine takes_spec hB2 wtb hx2.rd oa (by omega) (fun c hc e => ?_) fun W4 h4 f4 => hj3 _ ⟨hs.frA hA2 f4, h4, (hy2.fr f4 fun c hc e => ?_).rd, hF2.trans (f4.mono fun _ _ h => .inr h)⟩
        · have := hxl c hc
          have := hB.lt c e
          omega
        · have := hyl c hc
          have := hB.lt c e
          omega
  · obtain rfl : k = n.toNat := by omega
    exact hj _ ⟨hA, hB, hF⟩
end

/-! ### One is made -/

def idn (n : Int) : Idn := ⟨32768, ⟨2, 0, 0, 0, 0, IntKind.u8.wrap n⟩⟩
theorem isB_2 : isB 2 := by unfold isB; omega
theorem isB_0 : isB 0 := by unfold isB; omega
theorem idn_ok (n : Int) : (idn n).ok := by
  have h : isB (IntKind.u8.wrap n) := by rw [wrap_u8]; unfold isB; omega
  exact ⟨isI_iff.2 (by show (_ : Int) ≤ 32768 ∧ (32768 : Int) ≤ _; omega), isB_2, isB_0, isB_0, isB_0, isB_0, h⟩
theorem build_mac {n : Int} : opS Try.prog (S.build 29 [(0, .int .u8 2), (1, .int .u8 0), (2, .int .u8 0), (3, .int .u8 0), (4, .int .u8 0), (5, .int .u8 n)]) K w = K (.agg (Mac.cells ⟨2, 0, 0, 0, 0, n⟩).toArray) w := by
  rw [opS_build _ rfl]; rfl
theorem build_id {p : Int} {m : Mac} : opS Try.prog (S.build 31 [(0, .int .i64 p), (1, .agg m.cells.toArray)]) K w = K (.agg (Idn.cells ⟨p, m⟩).toArray) w := by
  rw [opS_build _ rfl]; rfl
theorem id_spec {n : Int} (hk : ∀ w', Fr none_ w w' → K (.agg (idn n).cells.toArray) w') : CallsR Try.prog 8 #[i64 n] K w := by
  apply c8
  unfold p8
  simp only [push_cast, Nat.reduceAdd, Nat.reduceLeDiff, Nat.reduceLT, Int.reduceToNat, Nat.left_eq_add, Nat.add_eq_left, Nat.add_left_cancel_iff, Nat.reduceEqDiff, Nat.add_assoc, Nat.succ_ne_zero]
  rw [build_mac, build_id]
  have hz : splice [Value.int .i64 0, .int .u8 0, .int .u8 0, .int .u8 0, .int .u8 0, .int .u8 0, .int .u8 0] 0 (idn n).cells = (idn n).cells := id rfl
  have hi : (⟨32768, ⟨2, 0, 0, 0, 0, IntKind.u8.wrap n⟩⟩ : Idn) = idn n := rfl
  rw [hi]
  simp only [push_cast, Nat.reduceAdd, Nat.reduceLeDiff, Nat.reduceLT, Int.reduceToNat, Nat.left_eq_add, Nat.add_eq_left, Nat.add_left_cancel_iff, Nat.reduceEqDiff, Nat.add_assoc, Nat.succ_ne_zero, hz]
  exact hk _ (by repeat' first | with_reducible exact Fr.refl _ _ | with_reducible refine Fr.step_alloc ?_ ?_ | with_reducible refine Fr.step_drew ?_ | with_reducible refine Fr.step_wr ?_ ?_ _ _ | exact rfl | exact Or.inr (by omega) | exact Or.inl rfl | exact Or.inl (Or.inl rfl) | exact Or.inl (Or.inr rfl))

/-- its ports come up -/
def Sp.upAt (s : Sp) (i : Nat) (up edge : Bool) (now : Int) : Sp := s.onP i fun p => (s.setP i (upQ p up edge)).reckon now
def madeK (s : Sp) : Nat → Sp
  | 0 => s
  | k + 1 => (madeK s k).upAt k true false 0
theorem upAt_len (s : Sp) (i : Nat) (up edge : Bool) (now : Int) : (s.upAt i up edge now).l.length = s.l.length := by
  unfold Sp.upAt Sp.onP
  split
  · rw [reckon_len, setP_len]
  · rfl
theorem Sp.wf.upAt (h : s.wf) (i : Nat) (up edge : Bool) {now : Int} (hn : momB now) : (s.upAt i up edge now).wf := by
  unfold Sp.upAt Sp.onP
  split
  · rename_i p hp
    exact (h.setP (q := upQ p up edge) hp ⟨rfl, rfl⟩ (upQ_ok (h.l p (List.mem_of_getElem? hp)) _ _)).reckon hn
  · exact h
theorem madeK_len (s : Sp) : ∀ k, (madeK s k).l.length = s.l.length
  | 0 => rfl
  | k + 1 => by
    show ((madeK s k).upAt k true false 0).l.length = _
    rw [upAt_len, madeK_len s k]
theorem mom0 : momB 0 := by unfold momB; omega
theorem Sp.wf.madeK (h : s.wf) : ∀ k, (madeK s k).wf
  | 0 => h
  | k + 1 => (Sp.wf.madeK h k).upAt k true false mom0
def madeS (me : Idn) (costs : List Int) : Sp := madeK (newS me costs) costs.length

theorem made_spec {me : Idn} {costs : List Int} {cv : Value} (hm : me.ok) (hc : RdE 1 w cv (costs.map cellI)) (hci : ∀ c ∈ costs, isI c) (hl : costs.length ≤ 2 ^ 20)
    (h0 : newB me costs = false → ∀ w', Fr none_ w w' → K (.tuple #[.pointer none, .bool false]) w')
    (h1 : newB me costs = true → ∀ sp bs pv mb w', CS w' sp bs pv mb (madeS me costs) → (∀ b, fC sp bs mb b → w.heap.size ≤ b) → (∀ b, blkS pv = some b → w.heap.size ≤ b) → Fr none_ w w' → K (.tuple #[pt sp 0, .bool true]) w') :
    CallsR Try.prog 7 #[.agg me.cells.toArray, cv] K w := by
  apply c7
  unfold p7
  have elen : ∀ (R : Value → World → Prop) W, opS Try.prog (S.len cv) R W = R (i64 costs.length) W := fun R W => by
    obtain ⟨a, c, e⟩ := hc.form
    rw [e, List.length_map]; rfl
  simp only [push_cast, Nat.reduceAdd, Nat.reduceLeDiff, Nat.reduceLT, Int.reduceToNat, Nat.left_eq_add, Nat.add_eq_left, Nat.add_left_cancel_iff, Nat.reduceEqDiff, Nat.add_assoc, Nat.succ_ne_zero]
  have hF0 : Fr none_ w (w.alloc (cellsO me.cells 31)) := (by repeat' first | with_reducible exact Fr.refl _ _ | with_reducible refine Fr.step_alloc ?_ ?_ | with_reducible refine Fr.step_drew ?_ | with_reducible refine Fr.step_wr ?_ ?_ _ _ | exact rfl | exact Or.inr (by omega) | exact Or.inl rfl | exact Or.inl (Or.inl rfl) | exact Or.inl (Or.inr rfl))
  refine new_spec hm (hc.fr hF0 fun _ _ h => h) hci hl (fun e W hF => ?_) fun e sp bs pv mb W hC hb hp hF => ?_
  · simp only [push_cast, Nat.reduceAdd, Nat.reduceLeDiff, Nat.reduceLT, Int.reduceToNat, Nat.left_eq_add, Nat.add_eq_left, Nat.add_left_cancel_iff, Nat.reduceEqDiff, Nat.add_assoc, Nat.succ_ne_zero]
    exact h0 e W (hF0.trans hF)
  · simp only [push_cast, Nat.reduceAdd, Nat.reduceLeDiff, Nat.reduceLT, Int.reduceToNat, Nat.left_eq_add, Nat.add_eq_left, Nat.add_left_cancel_iff, Nat.reduceEqDiff, Nat.add_assoc, Nat.succ_ne_zero]
    have hsz := hF0.size
    have hwf := newS_wf hm e
    have hlS := newS_len me costs
    have hl64 := hwf.n64
    refine jn0 (fun W => CS W sp bs pv mb (madeS me costs) ∧ Fr none_ w W) (fun W ⟨g1, g2⟩ => h1 e sp bs pv mb W g1 (fun b h => by have := hb b h; omega) (fun b h => by have := hp b h; omega) g2) fun j hj => ?_
    refine loop1 (fun m u W => ∃ k : Nat, k ≤ costs.length ∧ m = costs.length - k ∧ u = i64 ((k + 1 : Nat) : Int) ∧ CS W sp bs pv mb (madeK (newS me costs) k) ∧ Fr none_ w W) ?_ costs.length ⟨0, by omega, rfl, rfl, hC, hF0.trans hF⟩
    rintro m u W X ⟨k, hk2, rfl, rfl, hC, hF⟩ hX
    rw [elen]
    simp only [push_cast, Nat.reduceAdd, Nat.reduceLeDiff, Nat.reduceLT, Int.reduceToNat, Nat.left_eq_add, Nat.add_eq_left, Nat.add_left_cancel_iff, Nat.reduceEqDiff, Nat.add_assoc, Nat.succ_ne_zero]
    refine br_dec (fun hlt => ?_) fun hge => ?_
    · have hkl : k < costs.length := by omega
      refine up_spec hC (hwf.madeK k) (fun e => absurd ⟨⟨by omega, by rw [madeK_len, hlS]; omega⟩, mom0⟩ e) fun i p W2 hi hpb hmo hpi h2 f2 => ?_
      have hik : i = k := by omega
      subst hik
      have hwk : IntKind.i64.wrap ((i : Int) + 1 + 1) = ((i + 1 + 1 : Nat) : Int) := by rw [wrap_i64 (by omega)]; rfl
      simp only [push_cast, Nat.reduceAdd, Nat.reduceLeDiff, Nat.reduceLT, Int.reduceToNat, Nat.left_eq_add, Nat.add_eq_left, Nat.add_left_cancel_iff, Nat.reduceEqDiff, Nat.add_assoc, Nat.succ_ne_zero, hwk]
      refine hX (costs.length - (i + 1)) _ _ (by omega) ⟨i + 1, by omega, rfl, rfl, ?_, hF.trans_new f2 fun c hc e => by have := hb c e; omega⟩
      have : madeK (newS me costs) (i + 1) = ((madeK (newS me costs) i).setP i (upQ p true false)).reckon 0 := Sp.onP_eq hpi _
      rw [this]; exact h2
    · obtain rfl : k = costs.length := by omega
      exact hj _ ⟨hC, hF⟩

end Go.Gx.S
end

section
/- A check that bridges do something. -/
set_option linter.unusedVariables false
set_option linter.unusedSimpArgs false
set_option maxRecDepth 100000
namespace Go.Gx.S
open Go Go.Gx Go.Proofs
variable {K : Value → World → Prop} {w : World} {sp mb : Nat} {bs : List Nat} {pv fv : Value} {s : Sp}

def awM : Sp × Sp := meetK (madeS (idn 1) [5], madeS (idn 2) [5]) 3
theorem aw_new (n : Int) : newB (idn n) [5] = true := id rfl
theorem aw_fact : awM.1.statesOf = [2] ∧ awM.2.statesOf = [2] ∧ awM.2.best.root = idn 1 := by decide +kernel

theorem lit5 (h : ∀ v w', OwnE 3 1 w' v ([5].map cellI) → Fr none_ w w' → New w v → K v w') : opS Try.prog (S.buildS 23 1 [(0, .int .i64 5)]) K w :=
  s_bs1c (z := .int .i64 0) rfl rfl fun v w' h1 h2 h3 => h v w' h1 h2 h3
theorem lit2 (h : ∀ v w', OwnE 3 1 w' v ([2].map cellI) → Fr none_ w w' → New w v → K v w') : opS Try.prog (S.buildS 23 1 [(0, .int .i64 2)]) K w :=
  s_bs1c (z := .int .i64 0) rfl rfl fun v w' h1 h2 h3 => h v w' h1 h2 h3
theorem isI5 : ∀ c ∈ ([5] : List Int), isI c := fun c hc => by
  simp only [List.mem_singleton] at hc
  subst hc
  exact isI_iff.2 (by omega)

theorem fld_root {v : Vec} : opS Try.prog (S.fld 36 (.agg v.cells.toArray) 0) K w = K (.agg v.root.cells.toArray) w := by
  rfl

theorem awake_spec (hk : ∀ w', Fr none_ w w' → K (.bool true) w') : CallsR Try.prog 6 #[] K w := by
  apply c6
  unfold p6
  obtain ⟨q1, q2, q3⟩ := aw_fact
  simp only [push_cast, Nat.reduceAdd, Nat.reduceLeDiff, Nat.reduceLT, Int.reduceToNat, Nat.left_eq_add, Nat.add_eq_left, Nat.add_left_cancel_iff, Nat.reduceEqDiff, Nat.add_assoc, Nat.succ_ne_zero]
  refine id_spec fun w1 f1 => ?_
  refine lit5 fun v w2 hv f2 nv => ?_
  simp only [push_cast, Nat.reduceAdd, Nat.reduceLeDiff, Nat.reduceLT, Int.reduceToNat, Nat.left_eq_add, Nat.add_eq_left, Nat.add_left_cancel_iff, Nat.reduceEqDiff, Nat.add_assoc, Nat.succ_ne_zero]
  have f12 := f1.trans f2
  refine made_spec (idn_ok 1) hv.rd isI5 (by decide) (fun e => by rw [aw_new] at e; cases e) fun _ spA bsA pvA mbA w3 hA a1 a2 f3 => ?_
  simp only [push_cast, Nat.reduceAdd, Nat.reduceLeDiff, Nat.reduceLT, Int.reduceToNat, Nat.left_eq_add, Nat.add_eq_left, Nat.add_left_cancel_iff, Nat.reduceEqDiff, Nat.add_assoc, Nat.succ_ne_zero]
  refine id_spec fun w4 f4 => ?_
  refine lit5 fun v2 w5 hv2 f5 nv2 => ?_
  simp only [push_cast, Nat.reduceAdd, Nat.reduceLeDiff, Nat.reduceLT, Int.reduceToNat, Nat.left_eq_add, Nat.add_eq_left, Nat.add_left_cancel_iff, Nat.reduceEqDiff, Nat.add_assoc, Nat.succ_ne_zero]
  have f13 := f12.trans f3
  have f45 := f4.trans f5
  have hA5 := hA.fr0 f45
  refine made_spec (idn_ok 2) hv2.rd isI5 (by decide) (fun e => by rw [aw_new] at e; cases e) fun _ spB bsB pvB mbB w6 hB b1 b2 f6 => ?_
  have hA6 := hA5.fr0 f6
  have hwA : (madeS (idn 1) [5]).wf := (newS_wf (idn_ok 1) (aw_new 1)).madeK _
  have hwB : (madeS (idn 2) [5]).wf := (newS_wf (idn_ok 2) (aw_new 2)).madeK _
  have s1 := f12.size
  have s3 := f3.size
  have s45 := f45.size
  have hlA : 0 < (madeS (idn 1) [5]).l.length := by unfold madeS; rw [madeK_len, newS_len]; decide
  have hsep : Sep spA bsA pvA mbA spB bsB pvB mbB := ⟨fun c h1 h2 => by have := hA5.lt c h1; have := b1 c h2; omega, fun c h1 h2 => by have := hA5.ps.pv_lt hlA c h1; have := b1 c h2; omega, fun c h1 h2 => by have := hA5.lt c h2; have := b2 c h1; omega⟩
  simp only [push_cast, Nat.reduceAdd, Nat.reduceLeDiff, Nat.reduceLT, Int.reduceToNat, Nat.left_eq_add, Nat.add_eq_left, Nat.add_left_cancel_iff, Nat.reduceEqDiff, Nat.add_assoc, Nat.succ_ne_zero]
  refine meet_spec (n := 3) hA6 hB hwA hwB hsep (by decide) (by decide) fun w7 hA7 hB7 f7 => ?_
  have hM : meetK (madeS (idn 1) [5], madeS (idn 2) [5]) (3 : Int).toNat = awM := rfl
  rw [hM] at hA7 hB7
  obtain ⟨wA7, wB7⟩ := Sp.wf.meetK (t := (madeS (idn 1) [5], madeS (idn 2) [5])) hwA hwB 3 (by decide)
  have f17 : Fr none_ w w7 := (((f13.trans f45).trans f6)).trans_new f7 fun c hc e => by
    rcases e with e | e
    · have := a1 c e; omega
    · have := b1 c e; omega
  simp only [push_cast, Nat.reduceAdd, Nat.reduceLeDiff, Nat.reduceLT, Int.reduceToNat, Nat.left_eq_add, Nat.add_eq_left, Nat.add_left_cancel_iff, Nat.reduceEqDiff, Nat.add_assoc, Nat.succ_ne_zero]
  refine states_spec hA7 wA7 fun x w8 hx nx f8 => ?_
  refine lit2 fun y w9 hy f9 ny => ?_
  simp only [push_cast, Nat.reduceAdd, Nat.reduceLeDiff, Nat.reduceLT, Int.reduceToNat, Nat.left_eq_add, Nat.add_eq_left, Nat.add_left_cancel_iff, Nat.reduceEqDiff, Nat.add_assoc, Nat.succ_ne_zero]
  have q1 : Sp.statesOf awM.1 = [2] := q1
  rw [q1] at hx
  refine sameints_spec (hx.fr f9 fun _ _ h => h).rd hy.rd (by decide) fun w10 f10 => ?_
  simp only [push_cast, Nat.reduceAdd, Nat.reduceLeDiff, Nat.reduceLT, Int.reduceToNat, Nat.left_eq_add, Nat.add_eq_left, Nat.add_left_cancel_iff, Nat.reduceEqDiff, Nat.add_assoc, Nat.succ_ne_zero]
  have hB10 := ((hB7.fr0 f8).fr0 f9).fr0 f10
  refine states_spec hB10 wB7 fun x w11 hx nx f11 => ?_
  refine lit2 fun y w12 hy f12 ny => ?_
  simp only [push_cast, Nat.reduceAdd, Nat.reduceLeDiff, Nat.reduceLT, Int.reduceToNat, Nat.left_eq_add, Nat.add_eq_left, Nat.add_left_cancel_iff, Nat.reduceEqDiff, Nat.add_assoc, Nat.succ_ne_zero]
  have q2 : Sp.statesOf awM.2 = [2] := q2
  rw [q2] at hx
  refine sameints_spec (hx.fr f12 fun _ _ h => h).rd hy.rd (by decide) fun w13 f13 => ?_
  simp only [push_cast, Nat.reduceAdd, Nat.reduceLeDiff, Nat.reduceLT, Int.reduceToNat, Nat.left_eq_add, Nat.add_eq_left, Nat.add_left_cancel_iff, Nat.reduceEqDiff, Nat.add_assoc, Nat.succ_ne_zero]
  have hB13 := ((hB10.fr0 f11).fr0 f12).fr0 f13
  refine best_spec hB13 fun w14 f14 => ?_
  have q3 : awM.2.best.root = idn 1 := q3
  rw [fld_root, q3]
  simp only [push_cast, Nat.reduceAdd, Nat.reduceLeDiff, Nat.reduceLT, Int.reduceToNat, Nat.left_eq_add, Nat.add_eq_left, Nat.add_left_cancel_iff, Nat.reduceEqDiff, Nat.add_assoc, Nat.succ_ne_zero]
  refine id_spec fun w15 f15 => ?_
  refine s_eqId (idn_ok 1) (idn_ok 1) ?_
  rw [decide_eq_true rfl]
  exact hk _ ((((((((f17.trans f8).trans f9).trans f10).trans f11).trans f12).trans f13).trans f14).trans f15)

end Go.Gx.S
end

section
/- What each port becomes. -/
set_option linter.unusedVariables false
set_option linter.unusedSimpArgs false
set_option maxRecDepth 100000
namespace Go.Gx.S
open Go Go.Gx Go.Proofs
variable {s t : Sp}

/-! ### Reckoned -/

def portStep (p : Prt) (r now : Int) : Prt :=
  if r = 1 ∨ (r = 2 ∧ p.role ≠ 2 ∧ p.edge = true) then { newRole p r with state := 2 }
  else if r = 2 ∧ p.role ≠ 2 then holdP (newRole p r) now
  else if r ≠ 2 then { newRole p r with state := 0 } else newRole p r
theorem forwQ_l (s : Sp) (i : Nat) (p : Prt) (now : Int) : (s.forwQ i p now).l = s.l.set i { p with state := 2 } := by
  unfold Sp.forwQ Sp.setP
  split <;> rfl
theorem stepQ_l (s : Sp) (i : Nat) (p : Prt) (r now : Int) : (s.stepQ i p r now).l = s.l.set i (portStep p r now) := by
  unfold Sp.stepQ portStep
  split
  · rw [forwQ_l]
    show (s.l.set i _).set i _ = _
    rw [List.set_set]
  · split
    · rfl
    · split <;> rfl
theorem reckK_get (s : Sp) (rs : List Int) (now : Int) (i : Nat) : ∀ k, (s.reckK rs now k).l[i]? = if i < k then (s.l[i]?).map (fun p => portStep p (rs[i]?.getD 0) now) else s.l[i]?
  | 0 => by rw [if_neg (by omega)]; rfl
  | k + 1 => by
    have ih := reckK_get s rs now i k
    have hl := reckK_len s rs now k
    show ((s.reckK rs now k).stepR k (rs[k]?.getD 0) now).l[i]? = _
    unfold Sp.stepR
    split
    · rename_i h
      have hk := List.getElem?_eq_none_iff.1 h
      rw [hl] at hk
      rw [ih]
      by_cases e : i < k
      · rw [if_pos e, if_pos (by omega)]
      · rw [if_neg e]
        split
        · rw [List.getElem?_eq_none (by omega)]; rfl
        · rfl
    · rename_i p hp
      rw [stepQ_l, List.getElem?_set]
      by_cases e : k = i
      · subst e
        have hk := (List.getElem?_eq_some_iff.1 hp).1
        rw [if_pos rfl, if_pos hk, if_pos (by omega)]
        rw [ih, if_neg (by omega)] at hp
        rw [hp]; rfl
      · rw [if_neg e, ih]
        by_cases h : i < k
        · rw [if_pos h, if_pos (by omega)]
        · rw [if_neg h, if_neg (by omega)]
theorem reckon_get (s : Sp) (now : Int) (i : Nat) : (s.reckon now).l[i]? = (s.l[i]?).map fun p => portStep p ((rolesL s.me s.hs)[i]?.getD 0) now := by
  unfold Sp.reckon
  rw [reckK_get]
  by_cases h : i < s.l.length
  · rw [if_pos h]
  · have hn : s.l[i]? = none := List.getElem?_eq_none (by omega)
    rw [if_neg h, hn]
    rfl
theorem forwQ_meb (s : Sp) (i : Nat) (p : Prt) (now : Int) : (s.forwQ i p now).me = s.me ∧ (s.forwQ i p now).best = s.best ∧ (s.forwQ i p now).last = s.last := by
  unfold Sp.forwQ
  split <;> exact ⟨rfl, rfl, rfl⟩
theorem stepQ_meb (s : Sp) (i : Nat) (p : Prt) (r now : Int) : (s.stepQ i p r now).me = s.me ∧ (s.stepQ i p r now).best = s.best ∧ (s.stepQ i p r now).last = s.last := by
  unfold Sp.stepQ
  split
  · exact forwQ_meb _ _ _ _
  · split
    · exact ⟨rfl, rfl, rfl⟩
    · split <;> exact ⟨rfl, rfl, rfl⟩
theorem reckK_meb (s : Sp) (rs : List Int) (now : Int) : ∀ k, (s.reckK rs now k).me = s.me ∧ (s.reckK rs now k).best = s.best ∧ (s.reckK rs now k).last = s.last
  | 0 => ⟨rfl, rfl, rfl⟩
  | k + 1 => by
    have ih := reckK_meb s rs now k
    show ((s.reckK rs now k).stepR k _ now).me = _ ∧ ((s.reckK rs now k).stepR k _ now).best = _ ∧ ((s.reckK rs now k).stepR k _ now).last = _
    unfold Sp.stepR
    split
    · exact ih
    · have := stepQ_meb (s.reckK rs now k) k (by assumption) (rs[k]?.getD 0) now
      exact ⟨this.1.trans ih.1, this.2.1.trans ih.2.1, this.2.2.trans ih.2.2⟩
theorem reckon_me (s : Sp) (now : Int) : (s.reckon now).me = s.me := (reckK_meb _ _ _ _).1
theorem reckon_best (s : Sp) (now : Int) : (s.reckon now).best = (bestL s.me s.hs).1 := (reckK_meb _ _ _ _).2.1
theorem reckon_last (s : Sp) (now : Int) : (s.reckon now).last = s.last := (reckK_meb _ _ _ _).2.2
theorem newRole_same (p : Prt) : newRole p p.role = p := by
  unfold newRole
  rw [if_pos rfl, if_pos rfl]
def stP (p : Prt) : Prop := (p.role ≠ 1 → p.role ≠ 2 → p.state = 0) ∧ (p.role = 1 → p.state = 2)
theorem portStep_id {p : Prt} (h : stP p) (now : Int) : portStep p p.role now = p := by
  unfold portStep
  rw [newRole_same]
  split
  · rename_i hc
    have h1 : p.role = 1 := by
      rcases hc with hc | hc
      · exact hc
      · exact absurd hc.1 hc.2.1
    have := h.2 h1
    rw [← this]
  · rename_i hc
    split
    · rename_i hc2
      exact absurd hc2.1 hc2.2
    · split
      · rename_i hc3
        have := h.1 (fun e => hc (.inl e)) hc3
        rw [← this]
      · rfl

/-! ### Time -/

theorem hasK_get (s : Sp) (now : Int) (i : Nat) : ∀ k, (s.hasK now k).l[i]? = if i < k then (s.l[i]?).map (fun p => hasQ p now) else s.l[i]?
  | 0 => by rw [if_neg (by omega)]; rfl
  | k + 1 => by
    have ih := hasK_get s now i k
    have hl := hasK_len s now k
    show ((s.hasK now k).onP k _).l[i]? = _
    unfold Sp.onP
    split
    · rename_i p hp
      show ((s.hasK now k).l.set k _)[i]? = _
      rw [List.getElem?_set]
      by_cases e : k = i
      · subst e
        have hk := (List.getElem?_eq_some_iff.1 hp).1
        rw [if_pos rfl, if_pos hk, if_pos (by omega)]
        rw [ih, if_neg (by omega)] at hp
        rw [hp]; rfl
      · rw [if_neg e, ih]
        by_cases h : i < k
        · rw [if_pos h, if_pos (by omega)]
        · rw [if_neg h, if_neg (by omega)]
    · rename_i h
      have hk := List.getElem?_eq_none_iff.1 h
      rw [hl] at hk
      rw [ih]
      by_cases e : i < k
      · rw [if_pos e, if_pos (by omega)]
      · rw [if_neg e]
        split
        · rw [List.getElem?_eq_none (by omega)]; rfl
        · rfl
theorem hasK_meb (s : Sp) (now : Int) : ∀ k, (s.hasK now k).me = s.me ∧ (s.hasK now k).best = s.best ∧ (s.hasK now k).last = s.last
  | 0 => ⟨rfl, rfl, rfl⟩
  | k + 1 => by
    have ih := hasK_meb s now k
    show ((s.hasK now k).onP k _).me = _ ∧ ((s.hasK now k).onP k _).best = _ ∧ ((s.hasK now k).onP k _).last = _
    unfold Sp.onP
    split <;> exact ih
def goesPort (p : Prt) (now : Int) : Prt :=
  if p.role = 2 ∧ ¬ now < p.on then (if p.state = 0 then { p with state := 1, on := now + 15 } else if p.state = 1 then { p with state := 2 } else p) else p
theorem goesQ_l {s : Sp} {i : Nat} {p : Prt} (hp : s.l[i]? = some p) (now : Int) : (s.goesQ i p now).l = s.l.set i (goesPort p now) := by
  have hs : s.l.set i p = s.l := set_same hp
  unfold Sp.goesQ goesPort
  split
  · split
    · rfl
    · split
      · exact forwQ_l _ _ _ _
      · exact hs.symm
  · exact hs.symm
theorem goesQ_meb (s : Sp) (i : Nat) (p : Prt) (now : Int) : (s.goesQ i p now).me = s.me ∧ (s.goesQ i p now).best = s.best ∧ (s.goesQ i p now).last = s.last := by
  unfold Sp.goesQ
  split
  · split
    · exact ⟨rfl, rfl, rfl⟩
    · split
      · exact forwQ_meb _ _ _ _
      · exact ⟨rfl, rfl, rfl⟩
  · exact ⟨rfl, rfl, rfl⟩
theorem goesK_get (s : Sp) (now : Int) (i : Nat) : ∀ k, (s.goesK now k).l[i]? = if i < k then (s.l[i]?).map (fun p => goesPort p now) else s.l[i]?
  | 0 => by rw [if_neg (by omega)]; rfl
  | k + 1 => by
    have ih := goesK_get s now i k
    have hl := goesK_len s now k
    show ((s.goesK now k).onP k _).l[i]? = _
    unfold Sp.onP
    split
    · rename_i p hp
      show ((s.goesK now k).goesQ k p now).l[i]? = _
      rw [goesQ_l hp, List.getElem?_set]
      by_cases e : k = i
      · subst e
        have hk := (List.getElem?_eq_some_iff.1 hp).1
        rw [if_pos rfl, if_pos hk, if_pos (by omega)]
        rw [ih, if_neg (by omega)] at hp
        rw [hp]; rfl
      · rw [if_neg e, ih]
        by_cases h : i < k
        · rw [if_pos h, if_pos (by omega)]
        · rw [if_neg h, if_neg (by omega)]
    · rename_i h
      have hk := List.getElem?_eq_none_iff.1 h
      rw [hl] at hk
      rw [ih]
      by_cases e : i < k
      · rw [if_pos e, if_pos (by omega)]
      · rw [if_neg e]
        split
        · rw [List.getElem?_eq_none (by omega)]; rfl
        · rfl
theorem goesK_meb (s : Sp) (now : Int) : ∀ k, (s.goesK now k).me = s.me ∧ (s.goesK now k).best = s.best ∧ (s.goesK now k).last = s.last
  | 0 => ⟨rfl, rfl, rfl⟩
  | k + 1 => by
    have ih := goesK_meb s now k
    show ((s.goesK now k).onP k _).me = _ ∧ ((s.goesK now k).onP k _).best = _ ∧ ((s.goesK now k).onP k _).last = _
    unfold Sp.onP
    split
    · rename_i p hp
      have := goesQ_meb (s.goesK now k) k p now
      exact ⟨this.1.trans ih.1, this.2.1.trans ih.2.1, this.2.2.trans ih.2.2⟩
    · exact ih
/-- behind the first part of a tick -/
theorem tick3_get (s : Sp) (now : Int) (i : Nat) : (s.tick3 now).l[i]? = (s.l[i]?).map fun p => goesPort (portStep (hasQ p now) ((rolesL s.me (s.hasK now s.l.length).hs)[i]?.getD 0) now) now := by
  unfold Sp.tick3
  rw [goesK_get]
  by_cases h : i < s.l.length
  · rw [if_pos h, reckon_get, hasK_get, if_pos h, (hasK_meb s now _).1, Option.map_map, Option.map_map]
    rfl
  · have hn : s.l[i]? = none := List.getElem?_eq_none (by omega)
    rw [if_neg h, reckon_get, hasK_get, if_neg h, hn]; rfl
theorem tick3_me (s : Sp) (now : Int) : (s.tick3 now).me = s.me := by
  unfold Sp.tick3
  rw [(goesK_meb _ _ _).1, reckon_me, (hasK_meb _ _ _).1]
theorem tick3_best (s : Sp) (now : Int) : (s.tick3 now).best = (bestL s.me (s.hasK now s.l.length).hs).1 := by
  unfold Sp.tick3
  rw [(goesK_meb _ _ _).2.1, reckon_best, (hasK_meb _ _ _).1]
theorem tick3_last (s : Sp) (now : Int) : (s.tick3 now).last = s.last := by
  unfold Sp.tick3
  rw [(goesK_meb _ _ _).2.2, reckon_last, (hasK_meb _ _ _).2.2]

/-! ### What is said -/

def sayPort (p : Prt) (due tells : Bool) : Prt := if flagsF p due tells = 0 then p else { p with reply := false }
theorem sayK_meb (s : Sp) (due : Bool) (now : Int) : ∀ k, (s.sayK due now k).1.me = s.me ∧ (s.sayK due now k).1.best = s.best ∧ (s.sayK due now k).1.last = s.last ∧ (s.sayK due now k).1.change = s.change ∧ (s.sayK due now k).1.spokenB = s.spokenB
  | 0 => ⟨rfl, rfl, rfl, rfl, rfl⟩
  | k + 1 => by
    have ih := sayK_meb s due now k
    cases hp : (s.sayK due now k).1.l[k]? with
    | none =>
      have e : s.sayK due now (k + 1) = s.sayK due now k := by
        show (match (s.sayK due now k).1.l[k]? with
          | none => s.sayK due now k
          | some p => sayN (s.sayK due now k) k p ((s.sayK due now k).1.says p due now)) = _
        rw [hp]
      rw [e]; exact ih
    | some p =>
      rw [sayK_succ hp]
      by_cases e : (s.sayK due now k).1.says p due now = 0
      · have e2 : sayN (s.sayK due now k) k p ((s.sayK due now k).1.says p due now) = s.sayK due now k := by unfold sayN; rw [if_pos e]
        rw [e2]; exact ih
      · have e2 : sayN (s.sayK due now k) k p ((s.sayK due now k).1.says p due now) = ((s.sayK due now k).1.setP k { p with reply := false }, (s.sayK due now k).2 ++ [sayB (s.sayK due now k).1 k ((s.sayK due now k).1.says p due now)]) := by unfold sayN; rw [if_neg e]
        rw [e2]
        exact ⟨ih.1, ih.2.1, ih.2.2.1, ih.2.2.2.1, (spokenB_setS (q := { p with reply := false }) hp rfl rfl).trans ih.2.2.2.2⟩
theorem sayK_get (s : Sp) (due : Bool) (now : Int) (i : Nat) : ∀ k, (s.sayK due now k).1.l[i]? = if i < k then (s.l[i]?).map (fun p => sayPort p due (decide (now < s.change))) else s.l[i]?
  | 0 => by rw [if_neg (by omega)]; rfl
  | k + 1 => by
    have ih := sayK_get s due now i k
    have hl := sayK_len s due now k
    cases hp : (s.sayK due now k).1.l[k]? with
    | none =>
      have e : s.sayK due now (k + 1) = s.sayK due now k := by
        show (match (s.sayK due now k).1.l[k]? with
          | none => s.sayK due now k
          | some p => sayN (s.sayK due now k) k p ((s.sayK due now k).1.says p due now)) = _
        rw [hp]
      rw [e, ih]
      have hk := List.getElem?_eq_none_iff.1 hp
      rw [hl] at hk
      by_cases e : i < k
      · rw [if_pos e, if_pos (by omega)]
      · rw [if_neg e]
        split
        · rw [List.getElem?_eq_none (by omega)]; rfl
        · rfl
    | some p =>
      rw [sayK_succ hp]
      have hch := (sayK_meb s due now k).2.2.2.1
      have hset : (sayN (s.sayK due now k) k p ((s.sayK due now k).1.says p due now)).1.l = (s.sayK due now k).1.l.set k (sayPort p due (decide (now < s.change))) := by
        unfold sayN sayPort Sp.says
        rw [hch]
        split
        · exact (set_same hp).symm
        · rfl
      rw [hset, List.getElem?_set]
      by_cases e : k = i
      · subst e
        have hk := (List.getElem?_eq_some_iff.1 hp).1
        rw [if_pos rfl, if_pos hk, if_pos (by omega)]
        rw [ih, if_neg (by omega)] at hp
        rw [hp]; rfl
      · rw [if_neg e, ih]
        by_cases h : i < k
        · rw [if_pos h, if_pos (by omega)]
        · rw [if_neg h, if_neg (by omega)]
/-- what the bridge says at a port -/
def spkAt (s : Sp) (due : Bool) (now : Int) (i : Nat) : Option Spk := (s.l[i]?).bind fun p => if flagsF p due (decide (now < s.change)) = 0 then none else some ⟨(i : Int) + 1, { s.spokenB with flags := flagsF p due (decide (now < s.change)), port := (i : Int) + 1 }⟩
theorem sayK_out (s : Sp) (due : Bool) (now : Int) : ∀ k, (s.sayK due now k).2 = (List.range k).filterMap (spkAt s due now)
  | 0 => rfl
  | k + 1 => by
    have ih := sayK_out s due now k
    rw [List.range_succ, List.filterMap_append, ← ih]
    have hl := sayK_len s due now k
    have hg := sayK_get s due now k k
    rw [if_neg (by omega)] at hg
    have hm := sayK_meb s due now k
    cases hp : (s.sayK due now k).1.l[k]? with
    | none =>
      have e : s.sayK due now (k + 1) = s.sayK due now k := by
        show (match (s.sayK due now k).1.l[k]? with
          | none => s.sayK due now k
          | some p => sayN (s.sayK due now k) k p ((s.sayK due now k).1.says p due now)) = _
        rw [hp]
      rw [e]
      rw [hp] at hg
      have : spkAt s due now k = none := by unfold spkAt; rw [← hg]; rfl
      rw [List.filterMap_cons_none this]; simp
    | some p =>
      rw [sayK_succ hp]
      rw [hp] at hg
      unfold sayN Sp.says
      rw [hm.2.2.2.1]
      split
      · rename_i h0
        have : spkAt s due now k = none := by unfold spkAt; rw [← hg]; show (if _ then _ else _) = _; rw [if_pos h0]
        rw [List.filterMap_cons_none this]; simp
      · rename_i h0
        have : spkAt s due now k = some (sayB (s.sayK due now k).1 k (flagsF p due (decide (now < s.change)))) := by
          unfold spkAt
          rw [← hg]
          show (if _ then _ else _) = _
          rw [if_neg h0]
          unfold sayB
          rw [hm.2.2.2.2]
        rw [List.filterMap_cons_some this]; rfl

/-! ### Flags -/

def flagsB (r2 r1 s0 s2 up reply due tells : Bool) : Int :=
  let b := if r2 = true then putI (putI 0 due 12) (due && !s2) 2 else putI (putI (putI 0 ((reply || r1 && due && tells) && r1) 8) ((reply || r1 && due && tells) && !r1) 4) reply 64
  if b = 0 ∨ up = false then 0 else putI (putI (putI b (!s0) 16) s2 32) tells 1
theorem flagsF_eq (p : Prt) (due tells : Bool) : flagsF p due tells = flagsB (decide (p.role = 2)) (decide (p.role = 1)) (decide (p.state = 0)) (decide (p.state = 2)) p.h.up p.reply due tells := by
  have hb : baseF p due tells = (if decide (p.role = 2) = true then putI (putI 0 due 12) (due && !decide (p.state = 2)) 2 else putI (putI (putI 0 ((p.reply || decide (p.role = 1) && due && tells) && decide (p.role = 1)) 8) ((p.reply || decide (p.role = 1) && due && tells) && !decide (p.role = 1)) 4) p.reply 64) := by
    unfold baseF
    by_cases h : p.role = 2
    · rw [if_pos h, if_pos (decide_eq_true h)]
    · rw [if_neg h, if_neg (by simpa using h)]
  unfold flagsF flagsB
  rw [hb]

/-- what a designated port says -/
theorem flags_des : ∀ s0 s2 reply tells : Bool, flagsB true false s0 s2 true reply false tells = 0 ∧ flagsB true false s0 s2 true reply true tells ≠ 0 ∧ andI (flagsB true false s0 s2 true reply true tells) 12 = 12 ∧ 0 ≤ flagsB true false s0 s2 true reply true tells ∧ flagsB true false s0 s2 true reply true tells ≤ 255 := by decide +kernel
/-- .. and others -/
theorem flags_oth : ∀ r1 s0 s2 reply due tells : Bool, andI (flagsB false r1 s0 s2 true reply due tells) 12 ≠ 12 ∧ 0 ≤ flagsB false r1 s0 s2 true reply due tells ∧ flagsB false r1 s0 s2 true reply due tells ≤ 255 := by decide +kernel
theorem flags_prop : ∀ s0 tells : Bool, andI (flagsB true false s0 false true false true tells) 2 ≠ 0 := by decide +kernel
theorem flags_agree : ∀ s0 s2 due tells : Bool, flagsB false true s0 s2 true true due tells ≠ 0 ∧ andI (flagsB false true s0 s2 true true due tells) 64 ≠ 0 := by decide +kernel

end Go.Gx.S
end

section
/- A bridge that hears nobody. -/
set_option linter.unusedVariables false
set_option linter.unusedSimpArgs false
set_option maxRecDepth 100000
namespace Go.Gx.S
open Go Go.Gx Go.Proofs
variable {s t : Sp}

def ownV (me : Idn) : Vec := ⟨me, 0, me, 0, 0⟩
theorem none_best (me : Idn) {l : List Hrd} (h : ∀ x ∈ l, cntB x = false) : ∀ k, bestK me l k = (ownV me, -1)
  | 0 => rfl
  | k + 1 => by
    have ih := none_best me h k
    cases hk : l[k]? with
    | none =>
      have e : bestK me l (k + 1) = bestK me l k := by
        show (match l[k]? with | some h => bestStep me (bestK me l k) k h | none => bestK me l k) = _
        rw [hk]
      rw [e]; exact ih
    | some x =>
      have e : bestK me l (k + 1) = bestStep me (bestK me l k) k x := by
        show (match l[k]? with | some h => bestStep me (bestK me l k) k h | none => bestK me l k) = _
        rw [hk]
      rw [e, ih]
      unfold bestStep
      rw [if_neg]
      rintro ⟨h1, _⟩
      rw [h x (List.mem_of_getElem? hk)] at h1
      cases h1
theorem none_roles {me : Idn} {l : List Hrd} (h : ∀ x ∈ l, cntB x = false) {i : Nat} {x : Hrd} (hx : l[i]? = some x) : (rolesL me l)[i]?.getD 0 = if x.up = true then 2 else 0 := by
  unfold rolesL bestL
  rw [List.getElem?_mapIdx, hx, none_best me h]
  show roleOf me (ownV me) (-1) i x = _
  unfold roleOf
  cases hu : x.up
  · rfl
  · rw [if_neg (by simp), if_neg (by omega), if_pos (.inl (h x (List.mem_of_getElem? hx)))]; rfl

/-! ### Alone -/

def alH (i : Nat) (c : Int) : Hrd := ⟨(i : Int) + 1, c, true, false, zVec⟩
def alP (i : Nat) (c : Int) (e : Bool) (st on : Int) : Prt := if e = true then ⟨alH i c, 0, 0, true, 2, 2, 0, false, false⟩ else ⟨alH i c, 0, 0, false, 2, st, on, false, false⟩
/-- k ports are up -/
structure AInv (me : Idn) (costs : List Int) (E : Nat → Bool) (k : Nat) (st on last : Int) (s : Sp) : Prop where
  eme : s.me = me
  ebest : s.best = ownV me
  elast : s.last = last
  l : ∀ i : Nat, s.l[i]? = (costs[i]?).map fun c => if i < k then alP i c (E i) st on else newP i c

variable {me : Idn} {costs : List Int} {E : Nat → Bool} {k : Nat} {st on last : Int}
theorem AInv.get (h : AInv me costs E k st on last s) {i : Nat} {p : Prt} (hp : s.l[i]? = some p) : ∃ c, costs[i]? = some c ∧ p = if i < k then alP i c (E i) st on else newP i c := by
  rw [h.l i] at hp
  cases hc : costs[i]? with
  | none => rw [hc] at hp; cases hp
  | some c => rw [hc] at hp; exact ⟨c, rfl, (Option.some.inj hp).symm⟩
theorem AInv.len (h : AInv me costs E k st on last s) : s.l.length = costs.length := by
  have h1 : ∀ i, i < s.l.length ↔ i < costs.length := fun i => by
    have := h.l i
    constructor
    · intro hi
      rw [List.getElem?_eq_getElem hi] at this
      cases hc : costs[i]? with
      | none => rw [hc] at this; cases this
      | some c => exact (List.getElem?_eq_some_iff.1 hc).1
    · intro hi
      rw [List.getElem?_eq_getElem hi] at this
      exact (List.getElem?_eq_some_iff.1 this).1
  have h2 := h1 s.l.length
  have h3 := h1 costs.length
  omega
theorem alP_h (i : Nat) (c : Int) (e : Bool) (st on : Int) : (alP i c e st on).h = alH i c := by cases e <;> rfl
theorem alP_role (i : Nat) (c : Int) (e : Bool) (st on : Int) : (alP i c e st on).role = 2 := by cases e <;> rfl
theorem AInv.cnt (h : AInv me costs E k st on last s) : ∀ x ∈ s.hs, cntB x = false := fun x hx => by
  obtain ⟨p, hp, rfl⟩ := List.mem_map.1 hx
  obtain ⟨i, hi⟩ := List.mem_iff_getElem?.1 hp
  obtain ⟨c, _, rfl⟩ := h.get hi
  split
  · rw [alP_h]; rfl
  · rfl
theorem newS_AInv (me : Idn) (costs : List Int) (E : Nat → Bool) : AInv me costs E 0 0 15 (-1) (newS me costs) := ⟨rfl, rfl, rfl, fun i => by
  rw [newS_get]
  congr 1⟩
theorem step2 {p : Prt} (h : p.role = 2) (now : Int) : portStep p 2 now = p := by
  rw [← h]
  exact portStep_id ⟨fun _ e => absurd h e, fun e => by omega⟩ now

theorem upAt_last (s : Sp) (i : Nat) (up edge : Bool) (now : Int) : (s.upAt i up edge now).last = s.last := by
  unfold Sp.upAt Sp.onP
  split
  · rw [reckon_last]; rfl
  · rfl
theorem upAt_me (s : Sp) (i : Nat) (up edge : Bool) (now : Int) : (s.upAt i up edge now).me = s.me := by
  unfold Sp.upAt Sp.onP
  split
  · rw [reckon_me]; rfl
  · rfl

theorem AInv.up (h : AInv me costs E k 0 15 last s) {c : Int} (hc : costs[k]? = some c) : AInv me costs E (k + 1) 0 15 last (s.upAt k true (E k) 0) := by
  have hp : s.l[k]? = some (newP k c) := by rw [h.l k, hc]; show some (if k < k then _ else _) = _; rw [if_neg (by omega)]
  have e : s.upAt k true (E k) 0 = (s.setP k (upQ (newP k c) true (E k))).reckon 0 := Sp.onP_eq hp _
  have hcnt : ∀ x ∈ (s.setP k (upQ (newP k c) true (E k))).hs, cntB x = false := fun x hx => by
    obtain ⟨p, hp, rfl⟩ := List.mem_map.1 hx
    rcases List.mem_or_eq_of_mem_set hp with hp | rfl
    · exact h.cnt _ (List.mem_map.2 ⟨p, hp, rfl⟩)
    · rfl
  refine ⟨by rw [upAt_me, h.eme], ?_, by rw [upAt_last, h.elast], fun i => ?_⟩
  · rw [e, reckon_best]
    show (bestL s.me _).1 = _
    unfold bestL
    rw [none_best _ hcnt, h.eme]
  · rw [e, reckon_get]
    show ((s.l.set k _)[i]?).map _ = _
    rw [List.getElem?_set]
    by_cases ek : k = i
    · subst ek
      rw [if_pos rfl, if_pos (List.getElem?_eq_some_iff.1 hp).1, hc]
      have hx : (s.setP k (upQ (newP k c) true (E k))).hs[k]? = some (upQ (newP k c) true (E k)).h := hs_get (s.setP_get hp _)
      show some (portStep _ ((rolesL (s.setP k (upQ (newP k c) true (E k))).me (s.setP k (upQ (newP k c) true (E k))).hs)[k]?.getD 0) 0) = some _
      rw [none_roles hcnt hx]
      show some (portStep (upQ (newP k c) true (E k)) 2 0) = some (if k < k + 1 then alP k c (E k) 0 15 else newP k c)
      rw [if_pos (show k < k + 1 by omega)]
      cases E k <;> rfl
    · rw [if_neg ek, h.l i]
      cases hci : costs[i]? with
      | none => rfl
      | some c2 =>
        have hpi : s.l[i]? = some (if i < k then alP i c2 (E i) 0 15 else newP i c2) := by rw [h.l i, hci]; rfl
        have hx : (s.setP k (upQ (newP k c) true (E k))).hs[i]? = some (if i < k then alP i c2 (E i) 0 15 else newP i c2).h := hs_get (by rw [Sp.setP_ne _ ek]; exact hpi)
        show some (portStep _ ((rolesL (s.setP k (upQ (newP k c) true (E k))).me (s.setP k (upQ (newP k c) true (E k))).hs)[i]?.getD 0) 0) = some _
        rw [none_roles hcnt hx]
        show some (portStep (if i < k then alP i c2 (E i) 0 15 else newP i c2) _ 0) = some (if i < k + 1 then alP i c2 (E i) 0 15 else newP i c2)
        by_cases hi : i < k
        · rw [if_pos hi, if_pos (show i < k + 1 by omega), alP_h]
          show some (portStep _ 2 0) = _
          rw [step2 (alP_role ..)]
        · rw [if_neg hi, if_neg (show ¬ i < k + 1 by omega)]
          rfl

theorem AInv.down (h : AInv me costs E costs.length st on last s) {i : Nat} (hi : i < costs.length) (now : Int) : ∃ q, (s.upAt i false true now).l[i]? = some q ∧ q.role = 0 ∧ q.state = 0 := by
  have hp : s.l[i]? = some (alP i costs[i] (E i) st on) := by
    rw [h.l i, List.getElem?_eq_getElem hi]
    show some (if i < costs.length then _ else _) = _
    rw [if_pos hi]
  have e : s.upAt i false true now = (s.setP i (upQ (alP i costs[i] (E i) st on) false true)).reckon now := Sp.onP_eq hp _
  have hcnt : ∀ x ∈ (s.setP i (upQ (alP i costs[i] (E i) st on) false true)).hs, cntB x = false := fun x hx => by
    obtain ⟨p, hp, rfl⟩ := List.mem_map.1 hx
    rcases List.mem_or_eq_of_mem_set hp with hp | rfl
    · exact h.cnt _ (List.mem_map.2 ⟨p, hp, rfl⟩)
    · rfl
  have hg := s.setP_get hp (upQ (alP i costs[i] (E i) st on) false true)
  rw [e, reckon_get, hg]
  refine ⟨_, rfl, ?_, ?_⟩
  · rw [none_roles hcnt (hs_get hg)]; rfl
  · rw [none_roles hcnt (hs_get hg)]; rfl

/-- one tick of those that are not edges -/
def goS (st on now : Int) : Int × Int := if ¬ now < on then (if st = 0 then (1, now + 15) else if st = 1 then (2, on) else (st, on)) else (st, on)
theorem goes_al (i : Nat) (c : Int) (e : Bool) (st on now : Int) (hn : 0 ≤ now) : goesPort (alP i c e st on) now = alP i c e (goS st on now).1 (goS st on now).2 := by
  cases e
  · show goesPort ⟨alH i c, 0, 0, false, 2, st, on, false, false⟩ now = ⟨alH i c, 0, 0, false, 2, (goS st on now).1, (goS st on now).2, false, false⟩
    unfold goesPort goS
    by_cases h : now < on
    · rw [if_neg (fun e => e.2 h), if_neg (fun e => e h)]
    · rw [if_pos ⟨rfl, h⟩, if_pos h]
      by_cases h0 : st = 0
      · rw [if_pos h0, if_pos h0]
      · rw [if_neg h0, if_neg h0]
        by_cases h1 : st = 1
        · rw [if_pos h1, if_pos h1]
        · rw [if_neg h1, if_neg h1]
  · show goesPort ⟨alH i c, 0, 0, true, 2, 2, 0, false, false⟩ now = ⟨alH i c, 0, 0, true, 2, 2, 0, false, false⟩
    unfold goesPort
    rw [if_pos ⟨rfl, by show ¬ now < 0; omega⟩, if_neg (by show ¬ (2 : Int) = 0; omega), if_neg (by show ¬ (2 : Int) = 1; omega)]
theorem hasQ_al (i : Nat) (c : Int) (e : Bool) (st on now : Int) : hasQ (alP i c e st on) now = alP i c e st on := by cases e <;> rfl
def dueB (last now : Int) : Bool := decide (last = -1) || decide (2 ≤ now - last)

theorem fm_all {f : Nat → Option Spk} : ∀ n, (∀ i, i < n → ∃ x, f i = some x) → ((List.range n).filterMap f).length = n
  | 0, _ => rfl
  | n + 1, h => by
    obtain ⟨x, hx⟩ := h n (by omega)
    rw [List.range_succ, List.filterMap_append, List.length_append, fm_all n fun i hi => h i (by omega), List.filterMap_cons_some hx]; rfl
theorem fm_none {f : Nat → Option Spk} : ∀ n, (∀ i, i < n → f i = none) → (List.range n).filterMap f = []
  | 0, _ => rfl
  | n + 1, h => by
    rw [List.range_succ, List.filterMap_append, fm_none n fun i hi => h i (by omega), List.filterMap_cons_none (h n (by omega))]; rfl

theorem AInv.tick (h : AInv me costs E costs.length st on last s) {now : Int} (hn : 0 ≤ now) :
    AInv me costs E costs.length (goS st on now).1 (goS st on now).2 (if dueB last now = true then now else last) (s.tickP now).1 ∧ (s.tickP now).2.length = if dueB last now = true then costs.length else 0 := by
  have hl := h.len
  have hhas : ∀ i : Nat, (s.hasK now s.l.length).l[i]? = s.l[i]? := fun i => by
    rw [hasK_get]
    by_cases hi : i < s.l.length
    · rw [if_pos hi]
      cases hp : s.l[i]? with
      | none => rfl
      | some p =>
        obtain ⟨c, hc, rfl⟩ := h.get hp
        have hic := (List.getElem?_eq_some_iff.1 hc).1
        rw [if_pos hic]
        show some (hasQ _ now) = _
        rw [hasQ_al]
    · rw [if_neg hi]
  have hll : (s.hasK now s.l.length).l = s.l := List.ext_getElem? hhas
  have hhs : (s.hasK now s.l.length).hs = s.hs := by unfold Sp.hs; rw [hll]
  have h3 : AInv me costs E costs.length (goS st on now).1 (goS st on now).2 last (s.tick3 now) := by
    refine ⟨by rw [tick3_me, h.eme], ?_, by rw [tick3_last, h.elast], fun i => ?_⟩
    · rw [tick3_best, hhs, h.eme]
      unfold bestL
      rw [none_best _ h.cnt]
    · rw [tick3_get, hhs, h.l i]
      cases hc : costs[i]? with
      | none => rfl
      | some c =>
        have hic := (List.getElem?_eq_some_iff.1 hc).1
        have hp : s.l[i]? = some (alP i c (E i) st on) := by rw [h.l i, hc]; show some (if _ then _ else _) = _; rw [if_pos hic]
        show some (goesPort (portStep (hasQ (if i < costs.length then _ else _) now) _ now) now) = some (if i < costs.length then _ else _)
        rw [if_pos hic, if_pos hic, hasQ_al, none_roles h.cnt (hs_get hp), alP_h]
        show some (goesPort (portStep _ 2 now) now) = _
        rw [step2 (alP_role ..), goes_al _ _ _ _ _ _ hn]
  have hdue : (s.tick3 now).due now = dueB last now := by unfold Sp.due dueB; rw [h3.elast]
  have hd4 : AInv me costs E costs.length (goS st on now).1 (goS st on now).2 (if dueB last now = true then now else last) ((s.tick3 now).dueS now) := by
    unfold Sp.dueS
    rw [hdue]
    cases hd : dueB last now
    · exact h3
    · exact ⟨h3.eme, h3.ebest, rfl, h3.l⟩
  have hfl : ∀ (i : Nat) (c : Int) (tells : Bool), flagsF (alP i c (E i) (goS st on now).1 (goS st on now).2) true tells ≠ 0 ∧ flagsF (alP i c (E i) (goS st on now).1 (goS st on now).2) false tells = 0 := fun i c tells => by
    rw [flagsF_eq, flagsF_eq, alP_role, alP_h]
    have h := flags_des (decide ((alP i c (E i) (goS st on now).1 (goS st on now).2).state = 0)) (decide ((alP i c (E i) (goS st on now).1 (goS st on now).2).state = 2)) (alP i c (E i) (goS st on now).1 (goS st on now).2).reply tells
    exact ⟨h.2.1, h.1⟩
  unfold Sp.tickP
  rw [hdue]
  generalize (s.tick3 now).dueS now = s4 at *
  obtain ⟨m1, m2, m3, m4, m5⟩ := sayK_meb s4 (dueB last now) now s.l.length
  refine ⟨⟨m1.trans hd4.eme, m2.trans hd4.ebest, m3.trans hd4.elast, fun i => ?_⟩, ?_⟩
  · rw [sayK_get, hl, hd4.l i]
    cases hc : costs[i]? with
    | none => split <;> rfl
    | some c =>
      have hic := (List.getElem?_eq_some_iff.1 hc).1
      rw [if_pos hic]
      show some (sayPort (if i < costs.length then _ else _) _ _) = some (if i < costs.length then _ else _)
      rw [if_pos hic]
      have : sayPort (alP i c (E i) (goS st on now).1 (goS st on now).2) (dueB last now) (decide (now < s4.change)) = alP i c (E i) (goS st on now).1 (goS st on now).2 := by
        unfold sayPort
        split
        · rfl
        · cases E i <;> rfl
      rw [this]
  · rw [sayK_out, hl]
    have hsp : ∀ i, i < costs.length → ∃ c, s4.l[i]? = some (alP i c (E i) (goS st on now).1 (goS st on now).2) := fun i hi => by
      refine ⟨costs[i], ?_⟩
      rw [hd4.l i, List.getElem?_eq_getElem hi]
      show some (if i < costs.length then _ else _) = _
      rw [if_pos hi]
    cases hd : dueB last now
    · show _ = 0
      rw [fm_none costs.length fun i hi => ?_]
      · rfl
      · obtain ⟨c, hc⟩ := hsp i hi
        unfold spkAt
        rw [hc]
        show (if _ = 0 then none else some _) = none
        rw [if_pos (hfl i c _).2]
    · refine fm_all costs.length fun i hi => ?_
      obtain ⟨c, hc⟩ := hsp i hi
      unfold spkAt
      rw [hc]
      exact ⟨_, if_neg (hfl i c _).1⟩

end Go.Gx.S
end

section
/- A bridge that hears one other. -/
set_option linter.unusedVariables false
set_option linter.unusedSimpArgs false
set_option maxRecDepth 100000
namespace Go.Gx.S
open Go Go.Gx Go.Proofs
variable {s t : Sp}

/-! ### What ports heard -/

theorem portStep_h (p : Prt) (r now : Int) : (portStep p r now).h = p.h ∧ (portStep p r now).until_ = p.until_ ∧ (portStep p r now).edge = p.edge ∧ (portStep p r now).age = p.age := by
  unfold portStep
  split
  · exact ⟨rfl, rfl, rfl, rfl⟩
  · split
    · exact ⟨rfl, rfl, rfl, rfl⟩
    · split <;> exact ⟨rfl, rfl, rfl, rfl⟩
theorem goesPort_h (p : Prt) (now : Int) : (goesPort p now).h = p.h ∧ (goesPort p now).until_ = p.until_ ∧ (goesPort p now).edge = p.edge ∧ (goesPort p now).age = p.age ∧ (goesPort p now).role = p.role ∧ (goesPort p now).reply = p.reply := by
  unfold goesPort
  split
  · split
    · exact ⟨rfl, rfl, rfl, rfl, rfl, rfl⟩
    · split <;> exact ⟨rfl, rfl, rfl, rfl, rfl, rfl⟩
  · exact ⟨rfl, rfl, rfl, rfl, rfl, rfl⟩
theorem sayPort_h (p : Prt) (due tells : Bool) : (sayPort p due tells).h = p.h ∧ (sayPort p due tells).until_ = p.until_ ∧ (sayPort p due tells).edge = p.edge ∧ (sayPort p due tells).age = p.age ∧ (sayPort p due tells).role = p.role ∧ (sayPort p due tells).state = p.state ∧ (sayPort p due tells).on = p.on := by
  unfold sayPort
  split <;> exact ⟨rfl, rfl, rfl, rfl, rfl, rfl, rfl⟩
theorem hs_ext {s t : Sp} (h : ∀ i : Nat, (t.l[i]?).map (·.h) = (s.l[i]?).map (·.h)) : t.hs = s.hs := by
  apply List.ext_getElem?
  intro i
  unfold Sp.hs
  rw [List.getElem?_map, List.getElem?_map, h i]
theorem reckon_hs (s : Sp) (now : Int) : (s.reckon now).hs = s.hs := hs_ext fun i => by
  rw [reckon_get]
  cases s.l[i]? with
  | none => rfl
  | some p => exact congrArg some (portStep_h p _ now).1
def tickSt (s : Sp) (now : Int) : Sp := s.hasK now s.l.length
theorem tickP_get (s : Sp) (now : Int) (i : Nat) : (s.tickP now).1.l[i]? = (s.l[i]?).map fun p => sayPort (goesPort (portStep (hasQ p now) ((rolesL s.me (tickSt s now).hs)[i]?.getD 0) now) now) ((s.tick3 now).due now) (decide (now < ((s.tick3 now).dueS now).change)) := by
  unfold Sp.tickP
  rw [sayK_get, dueS_l, tick3_get]
  by_cases h : i < s.l.length
  · rw [if_pos h, Option.map_map]; rfl
  · have hn : s.l[i]? = none := List.getElem?_eq_none (by omega)
    rw [if_neg h, hn]; rfl
theorem tickP_me (s : Sp) (now : Int) : (s.tickP now).1.me = s.me := by
  unfold Sp.tickP
  rw [(sayK_meb _ _ _ _).1]
  unfold Sp.dueS
  split
  · exact tick3_me s now
  · exact tick3_me s now
theorem tickP_best (s : Sp) (now : Int) : (s.tickP now).1.best = (bestL s.me (tickSt s now).hs).1 := by
  unfold Sp.tickP
  rw [(sayK_meb _ _ _ _).2.1]
  unfold Sp.dueS
  split
  · exact tick3_best s now
  · exact tick3_best s now
theorem tickP_last (s : Sp) (now : Int) : (s.tickP now).1.last = if dueB s.last now = true then now else s.last := by
  unfold Sp.tickP
  rw [(sayK_meb _ _ _ _).2.2.1]
  have hd : (s.tick3 now).due now = dueB s.last now := by unfold Sp.due dueB; rw [tick3_last]
  unfold Sp.dueS
  rw [hd]
  split
  · rfl
  · exact tick3_last s now
theorem tickP_roles (s : Sp) (now : Int) : (s.tickP now).1.rolesOf = rolesL s.me (tickSt s now).hs := by
  unfold Sp.tickP
  rw [sayK_roles, dueS_roles, tick3_roles, rolesOf_reckon, (hasK_meb _ _ _).1]; rfl
theorem tickP_hs (s : Sp) (now : Int) : (s.tickP now).1.hs = (tickSt s now).hs := hs_ext fun i => by
  rw [tickP_get]
  unfold tickSt
  rw [hasK_get]
  by_cases h : i < s.l.length
  · rw [if_pos h]
    cases s.l[i]? with
    | none => rfl
    | some p => exact congrArg some ((sayPort_h _ _ _).1.trans ((goesPort_h _ _).1.trans (portStep_h _ _ _).1))
  · have hn : s.l[i]? = none := List.getElem?_eq_none (by omega)
    rw [if_neg h, hn]; rfl
/-- nothing is too old -/
theorem tickSt_same {now : Int} (h : ∀ p ∈ s.l, p.h.has = true → now < p.until_) : (tickSt s now).hs = s.hs := hs_ext fun i => by
  unfold tickSt
  rw [hasK_get]
  by_cases hi : i < s.l.length
  · rw [if_pos hi]
    cases hp : s.l[i]? with
    | none => rfl
    | some p =>
      have h1 := h p (List.mem_of_getElem? hp)
      have : (hasQ p now).h = p.h := by
        show { p.h with has := p.h.has && decide (now < p.until_) } = p.h
        cases hb : p.h.has
        · rw [Bool.false_and, ← hb]
        · rw [decide_eq_true (h1 hb), Bool.true_and, ← hb]
      exact congrArg some this
  · have hn : s.l[i]? = none := List.getElem?_eq_none (by omega)
    rw [if_neg hi, hn]
/-- all is too old -/
theorem tickSt_none {now : Int} (h : ∀ p ∈ s.l, p.h.has = true → ¬ now < p.until_) : ∀ x ∈ (tickSt s now).hs, cntB x = false := fun x hx => by
  obtain ⟨p, hp, rfl⟩ := List.mem_map.1 hx
  obtain ⟨i, hi⟩ := List.mem_iff_getElem?.1 hp
  unfold tickSt at hi
  rw [hasK_get] at hi
  have hil : i < s.l.length := by
    by_cases h : i < s.l.length
    · exact h
    · rw [if_neg h, List.getElem?_eq_none (by omega)] at hi; cases hi
  rw [if_pos hil, List.getElem?_eq_getElem hil] at hi
  have e := (Option.some.inj hi).symm
  rw [e]
  show (_ && ((s.l[i]).h.has && decide (now < (s.l[i]).until_))) = false
  have h1 := h _ (List.getElem_mem hil)
  cases hb : (s.l[i]).h.has
  · simp
  · rw [decide_eq_false (h1 hb)]; simp

/-! ### The best of one -/

theorem one_best (me : Idn) {l : List Hrd} {i : Nat} {x : Hrd} (hx : l[i]? = some x) (h : ∀ (j : Nat) y, j ≠ i → l[j]? = some y → cntB y = false) : ∀ k, bestK me l k = if i < k then bestStep me (ownV me, -1) i x else (ownV me, -1)
  | 0 => by rw [if_neg (by omega)]; rfl
  | k + 1 => by
    have ih := one_best me hx h k
    cases hk : l[k]? with
    | none =>
      have e : bestK me l (k + 1) = bestK me l k := by
        show (match l[k]? with | some h => bestStep me (bestK me l k) k h | none => bestK me l k) = _
        rw [hk]
      rw [e, ih]
      have hki : k ≠ i := fun e => by rw [e, hx] at hk; cases hk
      by_cases h1 : i < k
      · rw [if_pos h1, if_pos (by omega)]
      · rw [if_neg h1, if_neg (by omega)]
    | some y =>
      have e : bestK me l (k + 1) = bestStep me (bestK me l k) k y := by
        show (match l[k]? with | some h => bestStep me (bestK me l k) k h | none => bestK me l k) = _
        rw [hk]
      rw [e, ih]
      by_cases hki : k = i
      · subst hki
        rw [hx] at hk
        cases hk
        rw [if_neg (by omega), if_pos (by omega)]
      · have hy := h k y hki hk
        have hs : ∀ acc, bestStep me acc k y = acc := fun acc => by
          unfold bestStep
          rw [if_neg (fun h => by rw [hy] at h; cases h.1)]
        rw [hs]
        by_cases h1 : i < k
        · rw [if_pos h1, if_pos (by omega)]
        · rw [if_neg h1, if_neg (by omega)]

theorem cmpD_self (a : Idn) : cmpD a a = 0 := by
  unfold cmpD cmpM cmpI
  simp

/-! ### Bpdus -/

def desS (s : Sp) (i : Nat) (p : Prt) (b : Bpd) (now : Int) : Sp := (s.setP i (hearP { p with edge := false } b now)).reckon now
def propO (s : Sp) (i : Nat) (b : Bpd) (now : Int) : Sp := if andI b.flags 2 ≠ 0 then s.onP i (fun q => s.propP i q now) else s
theorem take_des {i : Nat} {p : Prt} {b : Bpd} {now : Int} (hp : s.l[i]? = some p) (hm : momB now) (hr : rightP b = true) (hup : p.h.up = true) (hk : b.kind = 2) (hf : andI b.flags 12 = 12) (ha : b.age < 20) :
    s.take ((i : Int) + 1) b now = ((propO (desS s i p b now) i b now).take3 i b now, 0) := by
  have hi := (List.getElem?_eq_some_iff.1 hp).1
  rw [Sp.take_eq rfl hp ⟨by omega, by omega⟩ hm hr]
  unfold Sp.takeQ
  rw [if_neg (by rw [hup]; decide), if_neg (by rw [hk]; decide)]
  have hF : takeF b = b.flags := by unfold takeF; rw [if_neg (by rw [hk]; decide)]
  have h2 : ∀ t : Sp, t.take2 i b now = t := fun t => by unfold Sp.take2; rw [hF, if_neg (fun h => h.1 hf)]
  have h1 : (s.setP i { p with edge := false }).take1 i { p with edge := false } b now = propO (desS s i p b now) i b now := by
    unfold Sp.take1
    rw [hF, if_pos ⟨hf, ha⟩, Sp.setP_setP]
    rfl
  unfold Sp.takeP
  rw [h1, h2]
def othS (s : Sp) (i : Nat) (p : Prt) (b : Bpd) (now : Int) : Sp :=
  if andI b.flags 64 ≠ 0 ∧ p.role = 2 ∧ b.root = s.best.root then (s.setP i { p with edge := false, agreed := true }).forwQ i { p with edge := false, agreed := true } now else s.setP i { p with edge := false }
theorem take_oth {i : Nat} {p : Prt} {b : Bpd} {now : Int} (hp : s.l[i]? = some p) (hm : momB now) (hr : rightP b = true) (hup : p.h.up = true) (hk : b.kind = 2) (hf : andI b.flags 12 ≠ 12) :
    s.take ((i : Int) + 1) b now = ((othS s i p b now).take3 i b now, 0) := by
  have hi := (List.getElem?_eq_some_iff.1 hp).1
  rw [Sp.take_eq rfl hp ⟨by omega, by omega⟩ hm hr]
  unfold Sp.takeQ
  rw [if_neg (by rw [hup]; decide), if_neg (by rw [hk]; decide)]
  have hF : takeF b = b.flags := by unfold takeF; rw [if_neg (by rw [hk]; decide)]
  have hg := s.setP_get hp { p with edge := false }
  unfold Sp.takeP Sp.take1
  rw [hF, if_neg (fun h => hf h.1)]
  have : (s.setP i { p with edge := false }).take2 i b now = othS s i p b now := by
    unfold Sp.take2 othS
    rw [hF]
    by_cases h64 : andI b.flags 64 ≠ 0
    · rw [if_pos ⟨hf, h64⟩, Sp.onP_eq hg]
      show (if p.role = 2 ∧ b.root = s.best.root then _ else _) = _
      by_cases h2 : p.role = 2 ∧ b.root = s.best.root
      · rw [if_pos h2, if_pos ⟨h64, h2⟩, Sp.setP_setP]
      · rw [if_neg h2, if_neg (fun h => h2 h.2)]
    · rw [if_neg (fun h => h64 h.2), if_neg (fun h => h64 h.1)]
  rw [this]
theorem take3_view (s : Sp) (i : Nat) (b : Bpd) (now : Int) : (s.take3 i b now).l = s.l ∧ (s.take3 i b now).me = s.me ∧ (s.take3 i b now).best = s.best ∧ (s.take3 i b now).last = s.last := by
  unfold Sp.take3
  split <;> exact ⟨rfl, rfl, rfl, rfl⟩

end Go.Gx.S
end

section
/- A bridge that hears one other, and then nobody. -/
set_option linter.unusedVariables false
set_option linter.unusedSimpArgs false
set_option maxRecDepth 100000
namespace Go.Gx.S
open Go Go.Gx Go.Proofs
variable {s t : Sp}

theorem made_AInv {me : Idn} {costs : List Int} : ∀ k, k ≤ costs.length → AInv me costs (fun _ => false) k 0 15 (-1) (madeK (newS me costs) k)
  | 0, _ => newS_AInv me costs _
  | k + 1, hk => (made_AInv k (by omega)).up (List.getElem?_eq_getElem (show k < costs.length by omega))
theorem AInv.at {me : Idn} {costs : List Int} {E : Nat → Bool} {st on last : Int} (h : AInv me costs E costs.length st on last s) {i : Nat} {c : Int} (hc : costs[i]? = some c) : s.l[i]? = some (alP i c (E i) st on) := by
  have hi := (List.getElem?_eq_some_iff.1 hc).1
  rw [h.l i, hc]
  show some (if i < costs.length then _ else _) = _
  rw [if_pos hi]

def earB (o : Idn) : Bpd := ⟨2, 12, o, 0, o, 1, 0, 20, 2, 15⟩
def earQ (i : Nat) (c : Int) (o : Idn) : Prt := ⟨⟨(i : Int) + 1, c, true, true, ⟨o, 0, o, 1, 0⟩⟩, 0, 6, false, 2, 0, 15, false, false⟩
theorem earB_right {o : Idn} (h : 0 ≤ o.prio ∧ o.prio ≤ 65535) : rightP (earB o) = true := by
  have h1 : inR o.prio 65536 = true := by unfold inR; simp; omega
  show ((decide ((2 : Int) = 0) || decide ((2 : Int) = 2)) && (oksB (earB o)).all id) = true
  have : oksB (earB o) = [true, inR o.prio 65536, true, true, inR o.prio 65536, true, true, true, true, true, true] := rfl
  rw [this, h1]; rfl
theorem ear_hear {o : Idn} (h : 0 ≤ o.prio ∧ o.prio ≤ 65535) (i : Nat) (c : Int) : hearP { alP i c false 0 15 with edge := false } (earB o) 0 = earQ i c o := by
  unfold hearP
  rw [if_pos (.inl rfl)]
  have hv : heardV (earB o) = ⟨o, 0, o, 1, 0⟩ := by
    unfold heardV ofV
    rw [if_neg (fun h2 => by rw [earB_right h] at h2; rcases h2 with h2 | h2 <;> cases h2), if_neg (by omega)]; rfl
  unfold hearN
  rw [hv]
  rfl

section
variable {me o : Idn} {costs : List Int} {i : Nat} {c : Int}
/-- with what it heard -/
def ear1 (s : Sp) (i : Nat) (c : Int) (o : Idn) : Sp := s.setP i (earQ i c o)
theorem ear_take (h : AInv me costs (fun _ => false) costs.length 0 15 (-1) s) (hc : costs[i]? = some c) (ho : 0 ≤ o.prio ∧ o.prio ≤ 65535) : s.take ((i : Int) + 1) (earB o) 0 = ((ear1 s i c o).reckon 0, 0) := by
  have hp := h.at hc
  rw [take_des hp mom0 (earB_right ho) (by rw [alP_h]; rfl) rfl (show andI 12 12 = 12 by decide) (show (0 : Int) < 20 by decide)]
  unfold desS
  rw [ear_hear ho]
  unfold propO Sp.take3
  have h2 : ¬ andI (earB o).flags 2 ≠ 0 := fun h => absurd (show andI 12 2 = 0 by decide) h
  have h1 : ¬ andI (takeF (earB o)) 1 ≠ 0 := fun h => absurd (show andI (takeF (earB o)) 1 = 0 from (show andI 12 1 = 0 by decide)) h
  rw [if_neg h2, if_neg h1]
  rfl
theorem ear1_hs (h : AInv me costs (fun _ => false) costs.length 0 15 (-1) s) (hc : costs[i]? = some c) : (ear1 s i c o).hs[i]? = some (earQ i c o).h ∧ ∀ (j : Nat) y, j ≠ i → (ear1 s i c o).hs[j]? = some y → cntB y = false := by
  refine ⟨hs_get (s.setP_get (h.at hc) _), fun j y hj hy => ?_⟩
  unfold Sp.hs ear1 at hy
  rw [List.getElem?_map, Sp.setP_ne _ (fun e => hj e.symm)] at hy
  cases hp : s.l[j]? with
  | none => rw [hp] at hy; cases hy
  | some p =>
    rw [hp] at hy
    rw [← Option.some.inj hy]
    exact h.cnt _ (List.mem_map.2 ⟨p, List.mem_of_getElem? hp, rfl⟩)
def earC (i : Nat) (c : Int) (o : Idn) : Vec := ⟨o, c, o, 1, (i : Int) + 1⟩
theorem ear_cand (hc : 1 ≤ c ∧ c ≤ 200000000) : candV (earQ i c o).h = earC i c o := by
  unfold candV addV
  have h1 : costB 0 = true := by decide
  have h2 : costB c = true := costB_iff.2 (by omega)
  show ({ (if costB 0 && costB c then _ else _ : Vec) with own := _ } : Vec) = _
  rw [h1, h2]
  show (⟨o, if (0 : Int) + c ≤ 4294967295 then (0 : Int) + c else 4294967295, o, 1, (i : Int) + 1⟩ : Vec) = _
  rw [if_pos (by omega)]
  unfold earC
  rw [Int.zero_add]
theorem ear_cmp (hc : 1 ≤ c) : cmpV (earC i c o) (ownV me) < 0 ↔ cmpD o me < 0 := by
  unfold cmpV
  rw [orL_cons]
  show (if cmpD o me ≠ 0 then cmpD o me else _) < 0 ↔ _
  by_cases h : cmpD o me ≠ 0
  · rw [if_pos h]
  · rw [if_neg h, orL_cons]
    have h2 : cmpI c 0 = 1 := by unfold cmpI; rw [if_neg (by omega), if_pos (by omega)]
    show (if cmpI c 0 ≠ 0 then cmpI c 0 else _) < 0 ↔ _
    rw [h2, if_pos (by decide)]
    have h3 : cmpD o me = 0 := by omega
    rw [h3]
    omega
theorem ear_best (h : AInv me costs (fun _ => false) costs.length 0 15 (-1) s) (hc : costs[i]? = some c) (hr : 1 ≤ c ∧ c ≤ 200000000) :
    bestL me (ear1 s i c o).hs = if cmpD o me < 0 then (earC i c o, (i : Int)) else (ownV me, -1) := by
  obtain ⟨h1, h2⟩ := ear1_hs (o := o) h hc
  have hi := (List.getElem?_eq_some_iff.1 h1).1
  unfold bestL
  rw [one_best me h1 h2, if_pos hi]
  unfold bestStep
  rw [ear_cand hr]
  by_cases hl : cmpD o me < 0
  · have hne : (earQ i c o).h.v.br ≠ me := fun e => by
      have e : o = me := e
      rw [e, cmpD_self] at hl
      omega
    rw [if_pos ⟨rfl, hne, (ear_cmp hr.1).2 hl⟩, if_pos hl]
  · rw [if_neg (fun h => hl ((ear_cmp hr.1).1 h.2.2)), if_neg hl]
theorem ear_role (h : AInv me costs (fun _ => false) costs.length 0 15 (-1) s) (hc : costs[i]? = some c) (hr : 1 ≤ c ∧ c ≤ 200000000) :
    ∃ r, (rolesL me (ear1 s i c o).hs)[i]? = some r ∧ (r = 1 ↔ cmpD o me < 0) := by
  obtain ⟨h1, _⟩ := ear1_hs (o := o) h hc
  refine ⟨roleOf me (bestL me (ear1 s i c o).hs).1 (bestL me (ear1 s i c o).hs).2 i (earQ i c o).h, by unfold rolesL; rw [List.getElem?_mapIdx, h1]; rfl, ?_⟩
  rw [ear_best h hc hr]
  unfold roleOf
  rw [if_neg (show ¬ (earQ i c o).h.up = false by show ¬ true = false; decide)]
  by_cases hl : cmpD o me < 0
  · rw [if_pos hl, if_pos rfl]
    exact ⟨fun _ => hl, fun _ => rfl⟩
  · rw [if_neg hl, if_neg (show ¬ (i : Int) = -1 by omega)]
    refine ⟨fun e => ?_, fun h => absurd h hl⟩
    split at e
    · omega
    · split at e <;> omega

/-- behind it was heard -/
def ear2 (s : Sp) (i : Nat) (c : Int) (o : Idn) : Sp := (ear1 s i c o).reckon 0
theorem ear2_until (h : AInv me costs (fun _ => false) costs.length 0 15 (-1) s) (hc : costs[i]? = some c) : ∀ p ∈ (ear2 s i c o).l, p.h.has = true → p.until_ = 6 := fun p hp hh => by
  obtain ⟨j, hj⟩ := List.mem_iff_getElem?.1 hp
  unfold ear2 at hj
  rw [reckon_get] at hj
  cases hq : (ear1 s i c o).l[j]? with
  | none => rw [hq] at hj; cases hj
  | some q =>
    rw [hq] at hj
    have e := (Option.some.inj hj).symm
    have h2 := portStep_h q ((rolesL (ear1 s i c o).me (ear1 s i c o).hs)[j]?.getD 0) 0
    rw [e, h2.1] at hh
    rw [e, h2.2.1]
    by_cases ej : j = i
    · subst ej
      unfold ear1 at hq
      rw [s.setP_get (h.at hc)] at hq
      rw [← Option.some.inj hq]; rfl
    · have := (ear1_hs (o := o) h hc).2 j q.h ej (hs_get hq)
      exfalso
      unfold ear1 at hq
      rw [Sp.setP_ne _ (fun e => ej e.symm)] at hq
      obtain ⟨c2, hc2, e3⟩ := h.get hq
      rw [e3] at hh
      split at hh
      · rw [alP_h] at hh; cases hh
      · cases hh
theorem ear_view (h : AInv me costs (fun _ => false) costs.length 0 15 (-1) s) (hc : costs[i]? = some c) :
    (ear2 s i c o).me = me ∧ (ear2 s i c o).rolesOf = rolesL me (ear1 s i c o).hs ∧ (ear2 s i c o).best = (bestL me (ear1 s i c o).hs).1 ∧ (ear2 s i c o).hs = (ear1 s i c o).hs := by
  have hm : (ear1 s i c o).me = me := h.eme
  unfold ear2
  refine ⟨by rw [reckon_me, hm], by rw [rolesOf_reckon, hm], by rw [reckon_best, hm], reckon_hs _ _⟩
theorem ear_state (h : AInv me costs (fun _ => false) costs.length 0 15 (-1) s) (hc : costs[i]? = some c) (hr : (rolesL me (ear1 s i c o).hs)[i]? = some 1) : ∃ q, (ear2 s i c o).l[i]? = some q ∧ q.state = 2 := by
  have hm : (ear1 s i c o).me = me := h.eme
  unfold ear2
  rw [reckon_get, hm, hr]
  have : (ear1 s i c o).l[i]? = some (earQ i c o) := s.setP_get (h.at hc) _
  rw [this]
  exact ⟨_, rfl, rfl⟩
/-- .. and a moment before it is too old -/
theorem ear_five (h : AInv me costs (fun _ => false) costs.length 0 15 (-1) s) (hc : costs[i]? = some c) : ((ear2 s i c o).tickP 5).1.rolesOf = (ear2 s i c o).rolesOf ∧ ((ear2 s i c o).tickP 5).1.me = me := by
  obtain ⟨v1, v2, v3, v4⟩ := ear_view (o := o) h hc
  refine ⟨?_, by rw [tickP_me, v1]⟩
  rw [tickP_roles, tickSt_same (fun p hp hh => by rw [ear2_until h hc p hp hh]; decide), v1, v2, v4]
theorem ear_six (h : AInv me costs (fun _ => false) costs.length 0 15 (-1) s) (hc : costs[i]? = some c) : (((ear2 s i c o).tickP 5).1.tickP 6).1.best = ownV me ∧ (((ear2 s i c o).tickP 5).1.tickP 6).1.rolesOf[i]? = some 2 := by
  have hm := (ear_five (o := o) h hc).2
  have hu : ∀ p ∈ ((ear2 s i c o).tickP 5).1.l, p.h.has = true → ¬ (6 : Int) < p.until_ := fun p hp hh => by
    obtain ⟨j, hj⟩ := List.mem_iff_getElem?.1 hp
    rw [tickP_get] at hj
    cases hq : (ear2 s i c o).l[j]? with
    | none => rw [hq] at hj; cases hj
    | some q =>
      rw [hq] at hj
      have e := (Option.some.inj hj).symm
      have e1 : p.h = (hasQ q 5).h := by rw [e, (sayPort_h _ _ _).1, (goesPort_h _ _).1, (portStep_h _ _ _).1]
      have e2 : p.until_ = q.until_ := by rw [e, (sayPort_h _ _ _).2.1, (goesPort_h _ _).2.1, (portStep_h _ _ _).2.1]; rfl
      rw [e1] at hh
      have hh2 : q.h.has = true := by
        have : (q.h.has && decide ((5 : Int) < q.until_)) = true := hh
        rw [Bool.and_eq_true] at this
        exact this.1
      rw [e2, ear2_until h hc q (List.mem_of_getElem? hq) hh2]
      decide
  have hn := tickSt_none hu
  refine ⟨?_, ?_⟩
  · rw [tickP_best, hm]
    unfold bestL
    rw [none_best _ hn]
  · rw [tickP_roles, hm]
    have hl : i < (tickSt ((ear2 s i c o).tickP 5).1 6).hs.length := by
      rw [hs_len]
      unfold tickSt
      rw [hasK_len, tickP_len]
      unfold ear2 ear1
      rw [reckon_len, setP_len, h.len]
      exact (List.getElem?_eq_some_iff.1 hc).1
    have hx := List.getElem?_eq_getElem hl
    have hro := none_roles (me := me) hn hx
    have hup : ((tickSt ((ear2 s i c o).tickP 5).1 6).hs[i]'hl).up = true := by
      have e1 : ∀ (u : Sp) (now : Int), (tickSt u now).hs[i]?.map (·.up) = u.hs[i]?.map (·.up) := fun u now => by
        unfold tickSt Sp.hs
        rw [List.getElem?_map, List.getElem?_map, hasK_get]
        split
        · cases u.l[i]? <;> rfl
        · rfl
      have e2 := e1 ((ear2 s i c o).tickP 5).1 6
      rw [hx, tickP_hs, e1, (ear_view (o := o) h hc).2.2.2, (ear1_hs (o := o) h hc).1] at e2
      exact Option.some.inj e2
    rw [hup, if_pos rfl] at hro
    have hrl : i < (rolesL me (tickSt ((ear2 s i c o).tickP 5).1 6).hs).length := by rw [rolesL_len]; exact hl
    rw [List.getElem?_eq_getElem hrl] at hro ⊢
    exact congrArg some hro
end

end Go.Gx.S
end

section
/- What the functions of this program ask. -/
set_option linter.unusedVariables false
set_option maxRecDepth 100000
namespace Go.Gx.S
open Go Go.Gx Go.Proofs
-- gemel/gemellaw18.SpanAlone
def p4 (P : Program) (K : Value → World → Prop) (x0 : Value) (x1 : Value) (x2 : Value) : World → Prop :=
  opS P (S.cl 6 []) fun x3 =>
  opS P (S.cl 8 [(.int .i64 3)]) fun x4 =>
  opS P (S.cl 12 [x4, x0]) fun x5 =>
  opS P (S.ext x5 0) fun x6 =>
  opS P (S.ext x5 1) fun x7 =>
  jnJ 0 (
    jnJ 1 (fun x8 =>
      K x8
    ) fun j0 =>
    brn x3 (
      opS P (S.binI .eql x7 (.int .i64 1)) fun x8 =>
      j0 x8
    ) (
      j0 (.bool false)
    )
  ) fun j0 =>
  opS P (S.un .not x3) fun x8 =>
  brn x8 (
    j0
  ) (
    opS P (S.binI .neq x7 (.int .i64 0)) fun x9 =>
    brn x9 (
      j0
    ) (
      opS P (S.binN .eql (S.isNilP x6)) fun x10 =>
      brn x10 (
        j0
      ) (
        jnJ 0 (
          jnJ 0 (
            opS P (S.cl 10 [x6]) fun x11 =>
            jnJ 0 (
              opS P (S.cl 13 [x6, x2, (.bool false), (.bool true), (.int .i64 31)]) fun x12 =>
              opS P (S.binI .neq x12 (.int .i64 0)) fun x13 =>
              brn x13 (
                jnJ 1 (fun x14 =>
                  K x14
                ) fun j1 =>
                opS P (S.binI .eql x12 (.int .i64 1)) fun x14 =>
                brn x14 (
                  opS P (S.binI .lss x2 (.int .i64 1)) fun x15 =>
                  brn x15 (
                    j1 (.bool true)
                  ) (
                    opS P (S.len x0) fun x16 =>
                    opS P (S.binI .gtr x2 x16) fun x17 =>
                    j1 x17
                  )
                ) (
                  j1 (.bool false)
                )
              ) (
                opS P (S.cl 10 [x6]) fun x14 =>
                opS P (S.binI .sub x2 (.int .i64 1)) fun x15 =>
                opS P (S.ia 23 x14 x15) fun x16 =>
                opS P (S.ld 3 x16) fun x17 =>
                opS P (S.binI .eql x17 (.int .i64 0)) fun x18 =>
                brn x18 (
                  opS P (S.cl 15 [x6]) fun x19 =>
                  opS P (S.binI .sub x2 (.int .i64 1)) fun x20 =>
                  opS P (S.ia 23 x19 x20) fun x21 =>
                  opS P (S.ld 3 x21) fun x22 =>
                  opS P (S.binI .eql x22 (.int .i64 0)) fun x23 =>
                  K x23
                ) (
                  K (.bool false)
                )
              )
            ) fun j1 =>
            loopJ 1 (fun j2 x12 =>
              opS P (S.len x11) fun x13 =>
              opS P (S.binI .lss x12 x13) fun x14 =>
              brn x14 (
                opS P (S.ia 23 x11 x12) fun x15 =>
                opS P (S.ld 3 x15) fun x16 =>
                opS P (S.binI .neq x16 (.int .i64 2)) fun x17 =>
                brn x17 (
                  K (.bool false)
                ) (
                  opS P (S.binI .add x12 (.int .i64 1)) fun x18 =>
                  j2 x18
                )
              ) (
                j1
              )
            ) (.int .i64 0)
          ) fun j1 =>
          loopJ 1 (fun j2 x11 =>
            opS P (S.binI .leq x11 (.int .i64 30)) fun x12 =>
            brn x12 (
              opS P (S.cl 14 [x6, x11]) fun x13 =>
              opS P (S.ext x13 0) fun x14 =>
              opS P (S.ext x13 1) fun x15 =>
              opS P (S.binI .neq x15 (.int .i64 0)) fun x16 =>
              brn x16 (
                K (.bool false)
              ) (
                opS P (S.len x14) fun x17 =>
                opS P (S.len x0) fun x18 =>
                opS P (S.binI .eql x17 x18) fun x19 =>
                opS P (S.binI .rem x11 (.int .i64 2)) fun x20 =>
                opS P (S.binI .eql x20 (.int .i64 0)) fun x21 =>
                opS P (S.binB .neq x19 x21) fun x22 =>
                brn x22 (
                  K (.bool false)
                ) (
                  opS P (S.binI .add x11 (.int .i64 1)) fun x23 =>
                  j2 x23
                )
              )
            ) (
              j1
            )
          ) (.int .i64 0)
        ) fun j1 =>
        loopJ 1 (fun j2 x11 =>
          opS P (S.len x0) fun x12 =>
          opS P (S.binI .lss x11 x12) fun x13 =>
          brn x13 (
            jnJ 1 (fun x14 =>
              opS P (S.binI .add x11 (.int .i64 1)) fun x15 =>
              opS P (S.cl 13 [x6, x15, (.bool true), x14, (.int .i64 0)]) fun x16 =>
              opS P (S.binI .neq x16 (.int .i64 0)) fun x17 =>
              brn x17 (
                K (.bool false)
              ) (
                brn x14 (
                  opS P (S.cl 10 [x6]) fun x18 =>
                  opS P (S.ia 23 x18 x11) fun x19 =>
                  opS P (S.ld 3 x19) fun x20 =>
                  opS P (S.binI .neq x20 (.int .i64 2)) fun x21 =>
                  brn x21 (
                    K (.bool false)
                  ) (
                    opS P (S.binI .add x11 (.int .i64 1)) fun x22 =>
                    j2 x22
                  )
                ) (
                  opS P (S.binI .add x11 (.int .i64 1)) fun x18 =>
                  j2 x18
                )
              )
            ) fun j3 =>
            opS P (S.len x1) fun x14 =>
            opS P (S.binI .lss x11 x14) fun x15 =>
            brn x15 (
              opS P (S.ia 39 x1 x11) fun x16 =>
              opS P (S.ld 4 x16) fun x17 =>
              j3 x17
            ) (
              j3 (.bool false)
            )
          ) (
            j1
          )
        ) (.int .i64 0)
      )
    )
  )
instance fnb4 : FnB Try.prog 4 := ⟨Try.call4⟩
theorem e4 : p4 Try.prog = fun K x0 x1 x2 => denF Try.prog Try.f4 [x0, x1, x2] K := by kernel_rfl
theorem c4 {K : Value → World → Prop} {x0 x1 x2 : Value} {w : World} (h : p4 Try.prog K x0 x1 x2 w) : CallsR Try.prog 4 #[x0, x1, x2] K w := by
  rw [e4] at h
  exact denF_sound mixed Try.func4 h

end Go.Gx.S
-- 4
end

section
/- A bridge alone. -/
set_option linter.unusedVariables false
set_option linter.unusedSimpArgs false
set_option maxRecDepth 100000
namespace Go.Gx.S
open Go Go.Gx Go.Proofs
variable {K : Value → World → Prop} {w : World} {sp mb : Nat} {bs : List Nat} {pv fv : Value} {s : Sp}

def aK : Nat → (Int × Int) × Int
  | 0 => ((0, 15), -1)
  | t + 1 => (goS (aK t).1.1 (aK t).1.2 t, if dueB (aK t).2 t = true then (t : Int) else (aK t).2)
theorem aK_due : ∀ t, t < 31 → dueB (aK t).2 t = decide (t % 2 = 0) := by decide +kernel
theorem aK_end : (aK 31).1.1 = 2 := by decide +kernel

theorem cupA_spec {n now : Int} {up edge : Bool} (h : CS w sp bs pv mb s) (hw : s.wf) (h0 : ¬ (portB s n ∧ momB now) → K (i64 1) w)
    (h1 : ∀ (i : Nat) w', n = (i : Int) + 1 → i < s.l.length → CS w' sp bs pv mb (s.upAt i up edge now) → Fr (fC sp bs mb) w w' → K (i64 0) w') :
    CallsR Try.prog 13 #[pt sp 0, i64 n, .bool up, .bool edge, i64 now] K w := by
  refine up_spec h hw h0 fun i p W hi hpb hm hp hC hF => ?_
  refine h1 i W hi (List.getElem?_eq_some_iff.1 hp).1 ?_ hF
  have e2 : s.upAt i up edge now = (s.setP i (upQ p up edge)).reckon now := Sp.onP_eq hp _
  rw [e2]; exact hC
theorem ld_boolA {TS : TypeId} [hS : SlT Try.prog TS 4] {v : Value} {l : List Bool} (h : RdE 1 w v (l.map cellB)) {k : Nat} {r : Bool} (hr : l[k]? = some r) {R : Value → World → Prop} (hk : R (.bool r) w) : opS Try.prog (S.ia TS v (i64 k)) (fun x => opS Try.prog (S.ld 4 x) R) w := by
  obtain ⟨hi, e⟩ := List.getElem?_eq_some_iff.1 hr
  refine s_iaE h (by omega) (by simpa using hi) fun c o c' _ he => ?_
  simp only [Int.toNat_natCast, List.getElem_map, e] at he ⊢
  rw [s_ld1, he.cell0 (by exact Nat.one_pos)]
  exact hk

theorem alone_law {costs : List Int} {edges : List Bool} {cv ev : Value} {down : Int} (hc : RdE 1 w cv (costs.map cellI)) (hci : ∀ c ∈ costs, isI c) (hl : costs.length ≤ 2 ^ 20) (he : RdE 1 w ev (edges.map cellB))
    (hk : ∀ w', Fr none_ w w' → K (.bool true) w') : CallsR Try.prog 4 #[cv, ev, i64 down] K w := by
  apply c4
  unfold p4
  have elen : ∀ (R : Value → World → Prop) W, opS Try.prog (S.len cv) R W = R (i64 costs.length) W := fun R W => by
    obtain ⟨a, c, e⟩ := hc.form
    rw [e, List.length_map]; rfl
  have glen : ∀ (R : Value → World → Prop) W, opS Try.prog (S.len ev) R W = R (i64 edges.length) W := fun R W => by
    obtain ⟨a, c, e⟩ := he.form
    rw [e, List.length_map]; rfl
  simp only [push_cast, Nat.reduceAdd, Nat.reduceLeDiff, Nat.reduceLT, Int.reduceToNat, Nat.left_eq_add, Nat.add_eq_left, Nat.add_left_cancel_iff, Nat.reduceEqDiff, Nat.add_assoc, Nat.succ_ne_zero]
  refine awake_spec fun w1 f1 => ?_
  simp only [push_cast, Nat.reduceAdd, Nat.reduceLeDiff, Nat.reduceLT, Int.reduceToNat, Nat.left_eq_add, Nat.add_eq_left, Nat.add_left_cancel_iff, Nat.reduceEqDiff, Nat.add_assoc, Nat.succ_ne_zero]
  refine id_spec fun w2 f2 => ?_
  simp only [push_cast, Nat.reduceAdd, Nat.reduceLeDiff, Nat.reduceLT, Int.reduceToNat, Nat.left_eq_add, Nat.add_eq_left, Nat.add_left_cancel_iff, Nat.reduceEqDiff, Nat.add_assoc, Nat.succ_ne_zero]
  have F2 := f1.trans f2
  refine new_spec (idn_ok 3) (hc.fr F2 fun _ _ h => h) hci hl (fun e w3 f3 => ?_) fun e sp bs pv mb w3 hA a1 a2 f3 => ?_
  · simp only [push_cast, Nat.reduceAdd, Nat.reduceLeDiff, Nat.reduceLT, Int.reduceToNat, Nat.left_eq_add, Nat.add_eq_left, Nat.add_left_cancel_iff, Nat.reduceEqDiff, Nat.add_assoc, Nat.succ_ne_zero]
    refine jn0 (fun W => Fr none_ w W) (fun W hW => ?_) fun j hj => ?_
    · rw [jn_1]
      simp only [push_cast, Nat.reduceAdd, Nat.reduceLeDiff, Nat.reduceLT, Int.reduceToNat, Nat.left_eq_add, Nat.add_eq_left, Nat.add_left_cancel_iff, Nat.reduceEqDiff, Nat.add_assoc, Nat.succ_ne_zero]
      exact hk W hW
    · simp only [push_cast, Nat.reduceAdd, Nat.reduceLeDiff, Nat.reduceLT, Int.reduceToNat, Nat.left_eq_add, Nat.add_eq_left, Nat.add_left_cancel_iff, Nat.reduceEqDiff, Nat.add_assoc, Nat.succ_ne_zero]
      refine br_intro (fun _ => hj _ (F2.trans f3)) fun e => absurd e (by decide)
  · simp only [push_cast, Nat.reduceAdd, Nat.reduceLeDiff, Nat.reduceLT, Int.reduceToNat, Nat.left_eq_add, Nat.add_eq_left, Nat.add_left_cancel_iff, Nat.reduceEqDiff, Nat.add_assoc, Nat.succ_ne_zero]
    have F3 := F2.trans f3
    have hwN := newS_wf (idn_ok 3) e
    have hn64 : costs.length ≤ 64 ∧ 1 ≤ costs.length := by
      unfold newB at e
      simp only [Bool.and_eq_true, decide_eq_true_eq] at e
      omega
    have hs2 := F2.size
    have hnew : ∀ c, fC sp bs mb c → w.heap.size ≤ c := fun c hc => by have := a1 c hc; omega
    have hFn : ∀ {W W'}, Fr none_ w W → Fr (fC sp bs mb) W W' → Fr none_ w W' := fun h1 h2 => h1.trans_new h2 fun c hc e => by have := hnew c e; omega
    refine jn0 (fun _ => False) (fun _ h => h.elim) fun j0 _ => ?_
    simp only [push_cast, Nat.reduceAdd, Nat.reduceLeDiff, Nat.reduceLT, Int.reduceToNat, Nat.left_eq_add, Nat.add_eq_left, Nat.add_left_cancel_iff, Nat.reduceEqDiff, Nat.add_assoc, Nat.succ_ne_zero]
    refine br_intro (fun e => absurd e (by decide)) fun _ => ?_
    refine jn0 (fun W => ∃ s, CS W sp bs pv mb s ∧ s.wf ∧ AInv (idn 3) costs (fun i => edges[i]?.getD false) costs.length 0 15 (-1) s ∧ Fr none_ w W) ?_ fun j hj => ?_
    · rintro W ⟨s, hC, hw, hI, hF⟩
      refine jn0 (fun W => ∃ s, CS W sp bs pv mb s ∧ s.wf ∧ AInv (idn 3) costs (fun i => edges[i]?.getD false) costs.length (aK 31).1.1 (aK 31).1.2 (aK 31).2 s ∧ Fr none_ w W) ?_ fun j hj => ?_
      · rintro W ⟨s, hC, hw, hI, hF⟩
        rw [aK_end] at hI
        have hsl := hI.len
        simp only [push_cast, Nat.reduceAdd, Nat.reduceLeDiff, Nat.reduceLT, Int.reduceToNat, Nat.left_eq_add, Nat.add_eq_left, Nat.add_left_cancel_iff, Nat.reduceEqDiff, Nat.add_assoc, Nat.succ_ne_zero]
        refine states_spec hC hw fun x W2 hx nx g2 => ?_
        have htl : s.statesOf.length = costs.length := by unfold Sp.statesOf; rw [List.length_map, hsl]
        have xlen : ∀ (R : Value → World → Prop) W, opS Try.prog (S.len x) R W = R (i64 costs.length) W := fun R W => by
          obtain ⟨a, c, e⟩ := hx.rd.form
          rw [e, List.length_map, htl]; rfl
        refine jn0 (fun W => W = W2) ?_ fun j hj => ?_
        · rintro W rfl
          have hC2 := hC.fr0 g2
          have hF2 := hF.trans g2
          refine cupA_spec hC2 hw (fun e => ?_) fun i W3 hi hil hC3 g3 => ?_
          · simp only [push_cast, Nat.reduceAdd, Nat.reduceLeDiff, Nat.reduceLT, Int.reduceToNat, Nat.left_eq_add, Nat.add_eq_left, Nat.add_left_cancel_iff, Nat.reduceEqDiff, Nat.add_assoc, Nat.succ_ne_zero]
            refine br_intro (fun _ => ?_) fun e => absurd e (by decide)
            rw [jn_1]
            simp only [push_cast, Nat.reduceAdd, Nat.reduceLeDiff, Nat.reduceLT, Int.reduceToNat, Nat.left_eq_add, Nat.add_eq_left, Nat.add_left_cancel_iff, Nat.reduceEqDiff, Nat.add_assoc, Nat.succ_ne_zero]
            refine br_intro (fun _ => ?_) fun e => absurd e (by decide)
            refine br_dec (fun _ => hk _ hF2) fun h1 => ?_
            rw [elen]
            simp only [push_cast, Nat.reduceAdd, Nat.reduceLeDiff, Nat.reduceLT, Int.reduceToNat, Nat.left_eq_add, Nat.add_eq_left, Nat.add_left_cancel_iff, Nat.reduceEqDiff, Nat.add_assoc, Nat.succ_ne_zero]
            have hgt : down > (costs.length : Int) := by
              by_cases h2 : down ≤ (costs.length : Int)
              · exact absurd ⟨⟨by omega, by rw [hsl]; exact h2⟩, by unfold momB; omega⟩ e
              · omega
            rw [decide_eq_true hgt]
            exact hk _ hF2
          · have hF3 := hFn hF2 g3
            have hw3 := hw.upAt i false true (now := 31) (by unfold momB; omega)
            obtain ⟨q, hq, hq0, hq1⟩ := hI.down (i := i) (by omega) 31
            have hwi : IntKind.i64.wrap (down - 1) = (i : Int) := by rw [wrap_i64 (by omega)]; omega
            simp only [push_cast, Nat.reduceAdd, Nat.reduceLeDiff, Nat.reduceLT, Int.reduceToNat, Nat.left_eq_add, Nat.add_eq_left, Nat.add_left_cancel_iff, Nat.reduceEqDiff, Nat.add_assoc, Nat.succ_ne_zero, hwi]
            refine br_intro (fun e => absurd e (by decide)) fun _ => ?_
            refine states_spec hC3 hw3 fun x W4 hx nx g4 => ?_
            have hst : (s.upAt i false true 31).statesOf[i]? = some 0 := by
              unfold Sp.statesOf; rw [List.getElem?_map, hq, ← hq1]; rfl
            simp only [push_cast, Nat.reduceAdd, Nat.reduceLeDiff, Nat.reduceLT, Int.reduceToNat, Nat.left_eq_add, Nat.add_eq_left, Nat.add_left_cancel_iff, Nat.reduceEqDiff, Nat.add_assoc, Nat.succ_ne_zero, hwi]
            refine ld_int hx.rd hst ?_
            simp only [push_cast, Nat.reduceAdd, Nat.reduceLeDiff, Nat.reduceLT, Int.reduceToNat, Nat.left_eq_add, Nat.add_eq_left, Nat.add_left_cancel_iff, Nat.reduceEqDiff, Nat.add_assoc, Nat.succ_ne_zero]
            refine br_intro (fun _ => ?_) fun e => absurd e (by decide)
            refine roles_spec (hC3.fr0 g4) hw3 fun y W5 hy ny g5 => ?_
            have hro : (s.upAt i false true 31).rolesOf[i]? = some 0 := by
              rw [rolesOf_get hq, hq0]
            simp only [push_cast, Nat.reduceAdd, Nat.reduceLeDiff, Nat.reduceLT, Int.reduceToNat, Nat.left_eq_add, Nat.add_eq_left, Nat.add_left_cancel_iff, Nat.reduceEqDiff, Nat.add_assoc, Nat.succ_ne_zero, hwi]
            refine ld_int hy.rd hro ?_
            simp only [push_cast, Nat.reduceAdd, Nat.reduceLeDiff, Nat.reduceLT, Int.reduceToNat, Nat.left_eq_add, Nat.add_eq_left, Nat.add_left_cancel_iff, Nat.reduceEqDiff, Nat.add_assoc, Nat.succ_ne_zero]
            exact hk _ ((hF3.trans g4).trans g5)
        · refine loop1 (fun n u W => ∃ k : Nat, k + n = costs.length ∧ u = i64 k ∧ W = W2) ?_ costs.length ⟨0, by omega, rfl, rfl⟩
          rintro n u W X ⟨k, hkn, rfl, rfl⟩ hX
          rw [xlen]
          simp only [push_cast, Nat.reduceAdd, Nat.reduceLeDiff, Nat.reduceLT, Int.reduceToNat, Nat.left_eq_add, Nat.add_eq_left, Nat.add_left_cancel_iff, Nat.reduceEqDiff, Nat.add_assoc, Nat.succ_ne_zero]
          refine br_dec (fun hlt => ?_) fun hge => hj _ rfl
          have hkl : k < costs.length := by omega
          have hwk : IntKind.i64.wrap ((k : Int) + 1) = ((k + 1 : Nat) : Int) := by rw [wrap_i64 (by omega)]; rfl
          have hst : s.statesOf[k]? = some 2 := by
            unfold Sp.statesOf
            rw [List.getElem?_map, hI.l k, List.getElem?_eq_getElem hkl]
            show some (Prt.state (if k < costs.length then _ else _)) = _
            rw [if_pos hkl]
            cases edges[k]?.getD false <;> rfl
          refine ld_int hx.rd hst ?_
          simp only [push_cast, Nat.reduceAdd, Nat.reduceLeDiff, Nat.reduceLT, Int.reduceToNat, Nat.left_eq_add, Nat.add_eq_left, Nat.add_left_cancel_iff, Nat.reduceEqDiff, Nat.add_assoc, Nat.succ_ne_zero]
          refine br_intro (fun e => absurd e (by decide)) fun _ => ?_
          simp only [push_cast, Nat.reduceAdd, Nat.reduceLeDiff, Nat.reduceLT, Int.reduceToNat, Nat.left_eq_add, Nat.add_eq_left, Nat.add_left_cancel_iff, Nat.reduceEqDiff, Nat.add_assoc, Nat.succ_ne_zero, hwk]
          exact hX (n - 1) _ _ (by omega) ⟨k + 1, by omega, rfl, rfl⟩
      · refine loop1 (fun n u W => ∃ (t : Nat) (s : Sp), t + n = 31 ∧ u = i64 t ∧ CS W sp bs pv mb s ∧ s.wf ∧ AInv (idn 3) costs (fun i => edges[i]?.getD false) costs.length (aK t).1.1 (aK t).1.2 (aK t).2 s ∧ Fr none_ w W) ?_ 31 ⟨0, s, rfl, rfl, hC, hw, hI, hF⟩
        rintro n u W X ⟨t, s, htn, rfl, hC, hw, hI, hF⟩ hX
        simp only [push_cast, Nat.reduceAdd, Nat.reduceLeDiff, Nat.reduceLT, Int.reduceToNat, Nat.left_eq_add, Nat.add_eq_left, Nat.add_left_cancel_iff, Nat.reduceEqDiff, Nat.add_assoc, Nat.succ_ne_zero]
        refine br_dec (fun hle => ?_) fun hgt => ?_
        · have ht : t < 31 := by omega
          have hm : momB (t : Int) := by unfold momB; omega
          obtain ⟨hI2, hlen⟩ := hI.tick (now := (t : Int)) (by omega)
          refine tick_spec hC hw (fun e => absurd hm e) fun v W2 _ hC2 hv nv g2 => ?_
          have hw2 := hw.tickP hm
          have hwk : IntKind.i64.wrap ((t : Int) + 1) = ((t + 1 : Nat) : Int) := by rw [wrap_i64 (by omega)]; rfl
          have vlen : ∀ (R : Value → World → Prop) W, opS Try.prog (S.len v) R W = R (i64 (s.tickP t).2.length) W := fun R W => by
            obtain ⟨a, c, e⟩ := hv.rd.form
            rw [e, List.length_map]; rfl
          simp only [push_cast, Nat.reduceAdd, Nat.reduceLeDiff, Nat.reduceLT, Int.reduceToNat, Nat.left_eq_add, Nat.add_eq_left, Nat.add_left_cancel_iff, Nat.reduceEqDiff, Nat.add_assoc, Nat.succ_ne_zero]
          refine br_intro (fun e => absurd e (by decide)) fun _ => ?_
          rw [vlen, elen, hlen]
          obtain ⟨r, hr, hr0⟩ : ∃ r : Int, (t : Int).tmod 2 = r ∧ (r = 0 ↔ t % 2 = 0) := ⟨_, rfl, by rw [Int.tmod_eq_emod_of_nonneg (by omega)]; omega⟩
          have hgo : opS Try.prog (S.binI .add (i64 t) (.int .i64 1)) (fun x23 => X x23) W2 := by
            simp only [push_cast, Nat.reduceAdd, Nat.reduceLeDiff, Nat.reduceLT, Int.reduceToNat, Nat.left_eq_add, Nat.add_eq_left, Nat.add_left_cancel_iff, Nat.reduceEqDiff, Nat.add_assoc, Nat.succ_ne_zero, hwk]
            exact hX (n - 1) _ _ (by omega) ⟨t + 1, _, by omega, rfl, hC2, hw2, hI2, hFn hF g2⟩
          obtain ⟨b, hb, hb0⟩ : ∃ b : Bool, (((if dueB (aK t).2 t = true then costs.length else 0 : Nat) : Int) == (costs.length : Int)) = b ∧ (b = true ↔ t % 2 = 0) := ⟨_, rfl, by
            rw [aK_due t ht]
            by_cases h2 : t % 2 = 0
            · rw [decide_eq_true h2, if_pos rfl]; simp [h2]
            · rw [decide_eq_false h2, if_neg (by decide)]
              have h4 : ¬ (((0 : Nat) : Int) = (costs.length : Int)) := by omega
              simp [h2]
              omega⟩
          have hbr : b = (r == 0) := by
            rw [Bool.eq_iff_iff, hb0, ← hr0]; simp
          rw [opS_eql, hb, opS_rem _ _ _ (by decide), hr, hbr]
          simp only [push_cast, Nat.reduceAdd, Nat.reduceLeDiff, Nat.reduceLT, Int.reduceToNat, Nat.left_eq_add, Nat.add_eq_left, Nat.add_left_cancel_iff, Nat.reduceEqDiff, Nat.add_assoc, Nat.succ_ne_zero]
          refine br_intro (fun e => absurd e (by simp)) fun _ => ?_
          rw [hwk]
          exact hX (n - 1) _ _ (by omega) ⟨t + 1, _, by omega, rfl, hC2, hw2, hI2, hFn hF g2⟩
        · obtain rfl : t = 31 := by omega
          exact hj _ ⟨s, hC, hw, hI, hF⟩
    · refine loop1 (fun n u W => ∃ (i : Nat) (s : Sp), i + n = costs.length ∧ u = i64 i ∧ CS W sp bs pv mb s ∧ s.wf ∧ AInv (idn 3) costs (fun i => edges[i]?.getD false) i 0 15 (-1) s ∧ Fr none_ w W) ?_ costs.length ⟨0, _, by omega, rfl, hA, hwN, newS_AInv _ _ _, F3⟩
      rintro n u W X ⟨i, s, hin, rfl, hC, hw, hI, hF⟩ hX
      rw [elen]
      simp only [push_cast, Nat.reduceAdd, Nat.reduceLeDiff, Nat.reduceLT, Int.reduceToNat, Nat.left_eq_add, Nat.add_eq_left, Nat.add_left_cancel_iff, Nat.reduceEqDiff, Nat.add_assoc, Nat.succ_ne_zero]
      refine br_dec (fun hlt => ?_) fun hge => ?_
      · have hil : i < costs.length := by omega
        have hwk : IntKind.i64.wrap ((i : Int) + 1) = (i : Int) + 1 := wrap_i64 (by omega)
        have hsl := hI.len
        refine jn1 (fun v W' => v = .bool (edges[i]?.getD false) ∧ W' = W) ?_ fun j3 hj3 => ?_
        · rintro v W' ⟨rfl, rfl⟩
          have hnext := hI.up (List.getElem?_eq_getElem hil)
          obtain ⟨b, hbe⟩ : ∃ b, edges[i]?.getD false = b := ⟨_, rfl⟩
          simp only [hbe] at hnext
          rw [hbe]
          simp only [push_cast, Nat.reduceAdd, Nat.reduceLeDiff, Nat.reduceLT, Int.reduceToNat, Nat.left_eq_add, Nat.add_eq_left, Nat.add_left_cancel_iff, Nat.reduceEqDiff, Nat.add_assoc, Nat.succ_ne_zero, hwk]
          refine cupA_spec hC hw (fun e => absurd ⟨⟨by omega, by omega⟩, mom0⟩ e) fun i2 W2 hi2 _ hC2 g2 => ?_
          have e2 : i2 = i := by omega
          subst e2
          have hw2 := hw.upAt i2 true b mom0
          have hF2 := hFn hF g2
          simp only [push_cast, Nat.reduceAdd, Nat.reduceLeDiff, Nat.reduceLT, Int.reduceToNat, Nat.left_eq_add, Nat.add_eq_left, Nat.add_left_cancel_iff, Nat.reduceEqDiff, Nat.add_assoc, Nat.succ_ne_zero]
          refine br_intro (fun e => absurd e (by decide)) fun _ => ?_
          have hgo : X (.int .i64 (IntKind.i64.wrap ((i2 : Int) + 1))) W2 := by
            have hwk2 : IntKind.i64.wrap ((i2 : Int) + 1) = ((i2 + 1 : Nat) : Int) := hwk
            rw [hwk2]
            exact hX (n - 1) _ _ (by omega) ⟨i2 + 1, _, by omega, rfl, hC2, hw2, hnext, hF2⟩
          refine br_intro (fun eb => ?_) fun _ => hgo
          refine states_spec hC2 hw2 fun x W3 hx nx g3 => ?_
          have hst : (s.upAt i2 true b 0).statesOf[i2]? = some 2 := by
            unfold Sp.statesOf
            rw [List.getElem?_map, hnext.l i2, List.getElem?_eq_getElem hil]
            show some (Prt.state (if i2 < i2 + 1 then alP i2 costs[i2] (edges[i2]?.getD false) 0 15 else _)) = _
            rw [if_pos (by omega), hbe, eb]
            rfl
          refine ld_int hx.rd hst ?_
          simp only [push_cast, Nat.reduceAdd, Nat.reduceLeDiff, Nat.reduceLT, Int.reduceToNat, Nat.left_eq_add, Nat.add_eq_left, Nat.add_left_cancel_iff, Nat.reduceEqDiff, Nat.add_assoc, Nat.succ_ne_zero]
          refine br_intro (fun e => absurd e (by decide)) fun _ => ?_
          have hwk2 : IntKind.i64.wrap ((i2 : Int) + 1) = ((i2 + 1 : Nat) : Int) := hwk
          simp only [push_cast, Nat.reduceAdd, Nat.reduceLeDiff, Nat.reduceLT, Int.reduceToNat, Nat.left_eq_add, Nat.add_eq_left, Nat.add_left_cancel_iff, Nat.reduceEqDiff, Nat.add_assoc, Nat.succ_ne_zero, hwk2]
          exact hX (n - 1) _ _ (by omega) ⟨i2 + 1, _, by omega, rfl, hC2.fr0 g3, hw2, hnext, hF2.trans g3⟩
        · rw [glen]
          simp only [push_cast, Nat.reduceAdd, Nat.reduceLeDiff, Nat.reduceLT, Int.reduceToNat, Nat.left_eq_add, Nat.add_eq_left, Nat.add_left_cancel_iff, Nat.reduceEqDiff, Nat.add_assoc, Nat.succ_ne_zero]
          refine br_dec (fun h1 => ?_) fun h1 => ?_
          · have h2 : i < edges.length := by omega
            rw [List.getElem?_eq_getElem h2] at hj3
            exact ld_boolA (he.fr hF fun _ _ h => h) (List.getElem?_eq_getElem h2) (hj3 _ _ ⟨rfl, rfl⟩)
          · rw [List.getElem?_eq_none (by omega)] at hj3
            exact hj3 _ _ ⟨rfl, rfl⟩
      · obtain rfl : i = costs.length := by omega
        exact hj _ ⟨s, hC, hw, hI, hF⟩

end Go.Gx.S
end

section
/- A bridge that hears a better one. -/
set_option linter.unusedVariables false
set_option linter.unusedSimpArgs false
set_option maxRecDepth 100000
namespace Go.Gx.S
open Go Go.Gx Go.Proofs
variable {K : Value → World → Prop} {w : World} {sp mb : Nat} {bs : List Nat} {pv fv : Value} {s : Sp}

def twoC (a b : Idn) : List Value := a.cells ++ b.cells
theorem twoC_0 (a b : Idn) : ((twoC a b).drop 0).take 7 = a.cells := id rfl
theorem twoC_7 (a b : Idn) : ((twoC a b).drop 7).take 7 = b.cells := id rfl
theorem twoC_len (a b : Idn) : (twoC a b).length = 14 := id rfl
theorem twoC_one (a b : Idn) : (twoC a b).all S.oneCell = true := id rfl
attribute [push_cast] twoC_0 twoC_7 twoC_len twoC_one
theorem ia2I_0 (b : Nat) : opS Try.prog (S.ia 48 (pt b 0) (.int .i64 0)) K w = K (pt b 0) w := opS_iaA (T := 48) (E := 31) (m := 2) (n := 7) b 0 .i64 0 (by decide)
theorem ia2I_1 (b : Nat) : opS Try.prog (S.ia 48 (pt b 0) (.int .i64 1)) K w = K (pt b 7) w := opS_iaA (T := 48) (E := 31) (m := 2) (n := 7) b 0 .i64 1 (by decide)
theorem zalloc_id : opS Try.prog (S.alloc 31) K w = K (pt w.heap.size 0) (w.alloc (cellsO zId.cells 31)) := by
  rw [opS_alloc]; rfl
theorem build_ear {o : Idn} : opS Try.prog (S.build 50 [(0, .int .i64 2), (1, .int .i64 12), (2, .agg o.cells.toArray), (4, .agg o.cells.toArray), (5, .int .i64 1), (7, .int .i64 20), (8, .int .i64 2), (9, .int .i64 15)]) K w = K (.agg (earB o).cells.toArray) w := by
  rw [opS_build _ rfl]; rfl
theorem earB_ok {o : Idn} (h : o.ok) : (earB o).ok :=
  ⟨isI2, isI_iff.2 (by show (_ : Int) ≤ 12 ∧ (12 : Int) ≤ _; omega), h, isI0, h, isI1, isI0, isI_iff.2 (by show (_ : Int) ≤ 20 ∧ (20 : Int) ≤ _; omega), isI2, isI_iff.2 (by show (_ : Int) ≤ 15 ∧ (15 : Int) ≤ _; omega)⟩

/-- its two names -/
structure EW (w : World) (xm xo : Nat) (me o : Idn) (W : World) : Prop where
  m : W.heap[xm]? = some (cellsO me.cells 31)
  o : W.heap[xo]? = some (cellsO o.cells 31)
  f : Fr none_ w W
theorem EW.fr0 {xm xo : Nat} {me o : Idn} {W W' : World} (h : EW w xm xo me o W) (hF : Fr none_ W W') : EW w xm xo me o W' := ⟨hF.heap h.m fun h => h, hF.heap h.o fun h => h, h.f.trans hF⟩

theorem fld_cost {v : Vec} : opS Try.prog (S.fld 36 (.agg v.cells.toArray) 1) K w = K (i64 v.cost) w := by
  rfl
theorem int_at {cv : Value} {l : List Int} (hl : RdE 1 w cv (l.map cellI)) {k : Nat} (hk : k < l.length) : ∃ b p, (∀ (R : Value → World → Prop) W, opS Try.prog (S.ia 23 cv (i64 k)) R W = R (pt b p) W) ∧ ∀ W, RdE 1 W cv (l.map cellI) → cellAt W.heap[b]? p = some (i64 l[k]) := by
  have hform : ∃ b o c, cv = .slice (some ⟨b, o, none⟩) l.length c := by
    obtain ⟨h1, h2⟩ := hl
    rcases h1 with ⟨_, h1, _⟩ | ⟨b, o, c, cs, T, fz, rfl, _⟩
    · rw [List.length_map] at h1; omega
    · exact ⟨b, o, c, by rw [List.length_map]⟩
  obtain ⟨b, o, c, rfl⟩ := hform
  have hia : ∀ (R : Value → World → Prop) W, opS Try.prog (S.ia 23 (.slice (some ⟨b, o, none⟩) l.length c) (i64 k)) R W = R (pt b (o + k * 1)) W := fun R W => by
    rw [opS_iaS, if_pos (by omega), Int.toNat_natCast]
  refine ⟨b, o + k * 1, hia, fun W hW => ?_⟩
  have := s_iaE (P := Try.prog) (T := 23) (w := W) (K := fun v _ => ∃ b' p', v = pt b' p' ∧ El W b' p' (cellI l[k])) (k := .i64) (i := (k : Int)) hW (by omega) (by simpa using hk) fun b' o' c' _ he => ⟨_, _, rfl, by simpa using he⟩
  rw [hia] at this
  obtain ⟨b', p', he, h⟩ := this
  simp only [pt, Value.pointer.injEq, Option.some.injEq, Addr.mk.injEq, and_true] at he
  rw [he.1, he.2, h.cell0 (by exact Nat.one_pos)]
  rfl

theorem ears_law {me o : Idn} {costs : List Int} {cv : Value} {port : Int} (hm : me.ok) (ho : o.ok) (hc : RdE 1 w cv (costs.map cellI)) (hci : ∀ c ∈ costs, isI c)
    (hk : ∀ w', Fr none_ w w' → K (.bool true) w') : CallsR Try.prog 5 #[.agg (twoC me o).toArray, cv, i64 port] K w := by
  apply c5
  unfold p5
  have elen : ∀ (R : Value → World → Prop) W, opS Try.prog (S.len cv) R W = R (i64 costs.length) W := fun R W => by
    obtain ⟨a, c, e⟩ := hc.form
    rw [e, List.length_map]; rfl
  have hx0 : (w.alloc (cellsO (twoC me o) 48)).heap[w.heap.size]? = some (cellsO (twoC me o) 48) := by simp only [push_cast, Nat.reduceAdd, Nat.reduceLeDiff, Nat.reduceLT, Int.reduceToNat, Nat.left_eq_add, Nat.add_eq_left, Nat.add_left_cancel_iff, Nat.reduceEqDiff, Nat.add_assoc, Nat.succ_ne_zero]
  have hF0 : Fr none_ w (w.alloc (cellsO (twoC me o) 48)) := (by repeat' first | with_reducible exact Fr.refl _ _ | with_reducible refine Fr.step_alloc ?_ ?_ | with_reducible refine Fr.step_drew ?_ | with_reducible refine Fr.step_wr ?_ ?_ _ _ | exact rfl | exact Or.inr (by omega) | exact Or.inl rfl | exact Or.inl (Or.inl rfl) | exact Or.inl (Or.inr rfl))
  have hbox : ∀ (R : Value → World → Prop), opS Try.prog (S.box 48 (.agg (twoC me o).toArray)) R w = R (pt w.heap.size 0) (w.alloc (cellsO (twoC me o) 48)) := fun R => by
    simp only [opS_box, cells_agg, alloc_cellsO]
  rw [hbox]
  have hxe : w.heap.size ≤ w.heap.size := Nat.le_refl _
  generalize w.alloc (cellsO (twoC me o) 48) = W0 at *
  generalize w.heap.size = xb at hx0 ⊢
  simp only [push_cast, Nat.reduceAdd, Nat.reduceLeDiff, Nat.reduceLT, Int.reduceToNat, Nat.left_eq_add, Nat.add_eq_left, Nat.add_left_cancel_iff, Nat.reduceEqDiff, Nat.add_assoc, Nat.succ_ne_zero]
  refine awake_spec fun w1 f1 => ?_
  have F1 := hF0.trans f1
  have hx1 := f1.heap hx0 fun h => h
  have hxl := lt_of_heap hx1
  rw [ia2I_0]
  have hn1 : ¬ xb = w1.heap.size := by omega
  have hn2 : ¬ xb = w1.heap.size + 1 := by omega
  simp only [push_cast, Nat.reduceAdd, Nat.reduceLeDiff, Nat.reduceLT, Int.reduceToNat, Nat.left_eq_add, Nat.add_eq_left, Nat.add_left_cancel_iff, Nat.reduceEqDiff, Nat.add_assoc, Nat.succ_ne_zero, hx1, ia2I_1, zalloc_id, hn1, hn2]
  refine at_w (fun W => EW w w1.heap.size (w1.heap.size + 1) me o W) ⟨?_, ?_, ?_⟩ ?_
  · simp only [push_cast, Nat.reduceAdd, Nat.reduceLeDiff, Nat.reduceLT, Int.reduceToNat, Nat.left_eq_add, Nat.add_eq_left, Nat.add_left_cancel_iff, Nat.reduceEqDiff, Nat.add_assoc, Nat.succ_ne_zero]
  · simp only [push_cast, Nat.reduceAdd, Nat.reduceLeDiff, Nat.reduceLT, Int.reduceToNat, Nat.left_eq_add, Nat.add_eq_left, Nat.add_left_cancel_iff, Nat.reduceEqDiff, Nat.add_assoc, Nat.succ_ne_zero]
  · exact F1.trans (by repeat' first | with_reducible exact Fr.refl _ _ | with_reducible refine Fr.step_alloc ?_ ?_ | with_reducible refine Fr.step_drew ?_ | with_reducible refine Fr.step_wr ?_ ?_ _ _ | exact rfl | exact Or.inr (by omega) | exact Or.inl rfl | exact Or.inl (Or.inl rfl) | exact Or.inl (Or.inr rfl))
  rintro W hE
  have hsz1 := F1.size
  have hw1m : w.heap.size ≤ w1.heap.size := hsz1
  generalize w1.heap.size + 1 = xo at *
  generalize w1.heap.size = xm at *
  rw [elen]
  simp only [push_cast, Nat.reduceAdd, Nat.reduceLeDiff, Nat.reduceLT, Int.reduceToNat, Nat.left_eq_add, Nat.add_eq_left, Nat.add_left_cancel_iff, Nat.reduceEqDiff, Nat.add_assoc, Nat.succ_ne_zero]
  refine br_dec (fun _ => hk _ hE.f) fun h20 => ?_
  refine br_dec (fun _ => hk _ hE.f) fun hp1 => ?_
  rw [elen]
  simp only [push_cast, Nat.reduceAdd, Nat.reduceLeDiff, Nat.reduceLT, Int.reduceToNat, Nat.left_eq_add, Nat.add_eq_left, Nat.add_left_cancel_iff, Nat.reduceEqDiff, Nat.add_assoc, Nat.succ_ne_zero]
  refine br_dec (fun _ => hk _ hE.f) fun hpn => ?_
  simp only [push_cast, Nat.reduceAdd, Nat.reduceLeDiff, Nat.reduceLT, Int.reduceToNat, Nat.left_eq_add, Nat.add_eq_left, Nat.add_left_cancel_iff, Nat.reduceEqDiff, Nat.add_assoc, Nat.succ_ne_zero, hE.m]
  refine br_dec (fun _ => hk _ hE.f) fun hm0 => ?_
  refine br_dec (fun _ => hk _ hE.f) fun hm1 => ?_
  simp only [push_cast, Nat.reduceAdd, Nat.reduceLeDiff, Nat.reduceLT, Int.reduceToNat, Nat.left_eq_add, Nat.add_eq_left, Nat.add_left_cancel_iff, Nat.reduceEqDiff, Nat.add_assoc, Nat.succ_ne_zero, hE.o]
  refine br_dec (fun _ => hk _ hE.f) fun ho0 => ?_
  refine br_dec (fun _ => hk _ hE.f) fun ho1 => ?_
  simp only [push_cast, Nat.reduceAdd, Nat.reduceLeDiff, Nat.reduceLT, Int.reduceToNat, Nat.left_eq_add, Nat.add_eq_left, Nat.add_left_cancel_iff, Nat.reduceEqDiff, Nat.add_assoc, Nat.succ_ne_zero, hE.m]
  refine made_spec hm (hc.fr hE.f fun _ _ h => h) hci (by omega) (fun _ w3 f3 => ?_) fun hB sp bs pv mb w3 hC a1 a2 f3 => ?_
  · simp only [push_cast, Nat.reduceAdd, Nat.reduceLeDiff, Nat.reduceLT, Int.reduceToNat, Nat.left_eq_add, Nat.add_eq_left, Nat.add_left_cancel_iff, Nat.reduceEqDiff, Nat.add_assoc, Nat.succ_ne_zero]
    exact hk _ (hE.f.trans f3)
  · simp only [push_cast, Nat.reduceAdd, Nat.reduceLeDiff, Nat.reduceLT, Int.reduceToNat, Nat.left_eq_add, Nat.add_eq_left, Nat.add_left_cancel_iff, Nat.reduceEqDiff, Nat.add_assoc, Nat.succ_ne_zero]
    have hE3 := hE.fr0 f3
    have hsW := hE.f.size
    obtain ⟨i, hi⟩ : ∃ i : Nat, port = (i : Int) + 1 := ⟨(port - 1).toNat, by omega⟩
    have hil : i < costs.length := by omega
    have hci' : costs[i]? = some costs[i] := List.getElem?_eq_getElem hil
    have hcr : 1 ≤ costs[i] ∧ costs[i] ≤ 200000000 := by
      unfold newB at hB
      rw [Bool.and_eq_true, List.all_eq_true] at hB
      have := hB.2 _ (List.getElem_mem hil)
      unfold costC at this
      simpa using this
    have hI : AInv me costs (fun _ => false) costs.length 0 15 (-1) (madeS me costs) := made_AInv costs.length (Nat.le_refl _)
    have hwf : (madeS me costs).wf := (newS_wf hm hB).madeK _
    have hxlt : xm < W.heap.size ∧ xo < W.heap.size := ⟨lt_of_heap hE.m, lt_of_heap hE.o⟩
    have hFn : ∀ {W1 W2}, EW w xm xo me o W1 → Fr (fC sp bs mb) W1 W2 → EW w xm xo me o W2 := fun h1 h2 => ⟨h2.heap h1.m fun e => by have := a1 _ e; omega, h2.heap h1.o fun e => by have := a1 _ e; omega, h1.f.trans_new h2 fun c hc e => by have := a1 c e; omega⟩
    simp only [push_cast, Nat.reduceAdd, Nat.reduceLeDiff, Nat.reduceLT, Int.reduceToNat, Nat.left_eq_add, Nat.add_eq_left, Nat.add_left_cancel_iff, Nat.reduceEqDiff, Nat.add_assoc, Nat.succ_ne_zero, hE3.o]
    rw [build_ear]
    have hxl3 := lt_of_heap hE3.o
    simp only [push_cast, Nat.reduceAdd, Nat.reduceLeDiff, Nat.reduceLT, Int.reduceToNat, Nat.left_eq_add, Nat.add_eq_left, Nat.add_left_cancel_iff, Nat.reduceEqDiff, Nat.add_assoc, Nat.succ_ne_zero, zalloc_bpd]
    refine at_w (fun W4 => Fr none_ w3 W4) (by repeat' first | with_reducible exact Fr.refl _ _ | with_reducible refine Fr.step_alloc ?_ ?_ | with_reducible refine Fr.step_drew ?_ | with_reducible refine Fr.step_wr ?_ ?_ _ _ | exact rfl | exact Or.inr (by omega) | exact Or.inl rfl | exact Or.inl (Or.inl rfl) | exact Or.inl (Or.inr rfl)) ?_
    intro W4 f4
    have hE4 := hE3.fr0 f4
    refine take_spec (hC.fr0 f4) hwf (earB_ok ho) fun W5 hC5 g5 => ?_
    have hE5 := hFn hE4 g5
    have htk := ear_take hI hci' (o := o) ⟨by omega, by omega⟩
    rw [hi] at hC5 ⊢
    rw [htk] at hC5 ⊢
    have hw5 : (ear2 (madeS me costs) i costs[i] o).wf := by
      have := hwf.take ((i : Int) + 1) (earB_ok ho) 0
      rw [htk] at this
      exact this
    have hwi : IntKind.i64.wrap ((i : Int) + 1 - 1) = (i : Int) := by rw [wrap_i64 (by omega)]; omega
    obtain ⟨v1, v2, v3, v4⟩ := ear_view (o := o) hI hci'
    have hbest := ear_best (o := o) hI hci' hcr
    obtain ⟨r, hr, hr1⟩ := ear_role (o := o) hI hci' hcr
    have hstt := ear_state (o := o) hI hci'
    have hfive := ear_five (o := o) hI hci'
    have hsix := ear_six (o := o) hI hci'
    have hC5 : CS W5 sp bs pv mb (ear2 (madeS me costs) i costs[i] o) := hC5
    generalize ear2 (madeS me costs) i costs[i] o = s2 at *
    simp only [push_cast, Nat.reduceAdd, Nat.reduceLeDiff, Nat.reduceLT, Int.reduceToNat, Nat.left_eq_add, Nat.add_eq_left, Nat.add_left_cancel_iff, Nat.reduceEqDiff, Nat.add_assoc, Nat.succ_ne_zero, hE5.o, hE5.m]
    refine rdcmp_spec ho hm fun W6 g6 => ?_
    have hE6 := hE5.fr0 g6
    have hC6 := hC5.fr0 g6
    simp only [push_cast, Nat.reduceAdd, Nat.reduceLeDiff, Nat.reduceLT, Int.reduceToNat, Nat.left_eq_add, Nat.add_eq_left, Nat.add_left_cancel_iff, Nat.reduceEqDiff, Nat.add_assoc, Nat.succ_ne_zero]
    refine roles_spec hC6 hw5 fun x W7 hx nx g7 => ?_
    have hE7 := hE6.fr0 g7
    have hC7 := hC6.fr0 g7
    have hro : s2.rolesOf[i]? = some r := by rw [v2]; exact hr
    have hxn : ∀ b, blkS x = some b → ¬ fC sp bs mb b := fun b hb e => by have := nx b hb; have := hC6.lt b e; omega
    have hil2 : i < s2.rolesOf.length := (List.getElem?_eq_some_iff.1 hro).1
    refine jn0 (fun W => CS W sp bs pv mb s2 ∧ EW w xm xo me o W ∧ OwnE 3 1 W x (s2.rolesOf.map cellI)) ?_ fun j hj => ?_
    · rintro W8 ⟨hC8, hE8, hx8⟩
      have hm5 : momB 5 := by unfold momB; omega
      have hm6 : momB 6 := by unfold momB; omega
      refine tick_spec hC8 hw5 (fun e => absurd hm5 e) fun y W9 _ hC9 _ _ g9 => ?_
      have hE9 := hFn hE8 g9
      have hx9 := hx8.fr g9 fun b hb e => hxn b hb e
      have hw9 := hw5.tickP hm5
      simp only [push_cast, Nat.reduceAdd, Nat.reduceLeDiff, Nat.reduceLT, Int.reduceToNat, Nat.left_eq_add, Nat.add_eq_left, Nat.add_left_cancel_iff, Nat.reduceEqDiff, Nat.add_assoc, Nat.succ_ne_zero]
      refine jn1 (fun v W => v = .bool true ∧ CS W sp bs pv mb (s2.tickP 5).1 ∧ EW w xm xo me o W) ?_ fun j hj => ?_
      · rintro v W10 ⟨rfl, hC10, hE10⟩
        refine tick_spec hC10 hw9 (fun e => absurd hm6 e) fun y W11 _ hC11 _ _ g11 => ?_
        have hE11 := hFn hE10 g11
        have hw11 := hw9.tickP hm6
        simp only [push_cast, Nat.reduceAdd, Nat.reduceLeDiff, Nat.reduceLT, Int.reduceToNat, Nat.left_eq_add, Nat.add_eq_left, Nat.add_left_cancel_iff, Nat.reduceEqDiff, Nat.add_assoc, Nat.succ_ne_zero]
        obtain ⟨q3, q4⟩ := hsix
        generalize ((s2.tickP 5).1.tickP 6).1 = s4 at *
        refine jn1 (fun v W => v = .bool true ∧ CS W sp bs pv mb s4 ∧ EW w xm xo me o W) ?_ fun j hj => ?_
        · rintro v W12 ⟨rfl, hC12, hE12⟩
          simp only [push_cast, Nat.reduceAdd, Nat.reduceLeDiff, Nat.reduceLT, Int.reduceToNat, Nat.left_eq_add, Nat.add_eq_left, Nat.add_left_cancel_iff, Nat.reduceEqDiff, Nat.add_assoc, Nat.succ_ne_zero]
          refine br_intro (fun _ => ?_) fun e => absurd e (by decide)
          refine br_intro (fun _ => ?_) fun e => absurd e (by decide)
          refine roles_spec hC12 hw11 fun z W13 hz nz g13 => ?_
          simp only [push_cast, Nat.reduceAdd, Nat.reduceLeDiff, Nat.reduceLT, Int.reduceToNat, Nat.left_eq_add, Nat.add_eq_left, Nat.add_left_cancel_iff, Nat.reduceEqDiff, Nat.add_assoc, Nat.succ_ne_zero, hwi]
          refine ld_int hz.rd q4 ?_
          simp only [push_cast, Nat.reduceAdd, Nat.reduceLeDiff, Nat.reduceLT, Int.reduceToNat, Nat.left_eq_add, Nat.add_eq_left, Nat.add_left_cancel_iff, Nat.reduceEqDiff, Nat.add_assoc, Nat.succ_ne_zero]
          exact hk _ (hE12.f.trans g13)
        · simp only [drw_eq]
          have hEd := hE11.fr0 (Fr.drew W11)
          have hCd := hC11.fr0 (Fr.drew W11)
          generalize W11.drew = W12 at *
          have rb : ∀ {R : Value → World → Prop} {W'}, CS W' sp bs pv mb s4 ∧ EW w xm xo me o W' → (∀ W'', CS W'' sp bs pv mb s4 ∧ EW w xm xo me o W'' → R (.agg s4.best.cells.toArray) W'') → opS Try.prog (S.cl 11 [pt sp 0]) R W' := by
            rintro R W' ⟨g1, g2⟩ hR
            rw [opS_cl]
            exact best_spec g1 fun W6 g6 => hR _ ⟨g1.fr0 g6, g2.fr0 g6⟩
          have rl : ∀ {R : Value → World → Prop} {W'}, CS W' sp bs pv mb s4 ∧ EW w xm xo me o W' → R (.agg me.cells.toArray) W' → opS Try.prog (S.ld 31 (pt xm 0)) R W' := by
            rintro R W' ⟨g1, g2⟩ hR
            simp only [push_cast, Nat.reduceAdd, Nat.reduceLeDiff, Nat.reduceLT, Int.reduceToNat, Nat.left_eq_add, Nat.add_eq_left, Nat.add_left_cancel_iff, Nat.reduceEqDiff, Nat.add_assoc, Nat.succ_ne_zero, g2.m]
            exact hR
          have hown : ∀ {W'}, CS W' sp bs pv mb s4 ∧ EW w xm xo me o W' → opS Try.prog (S.build 36 [(0, .agg me.cells.toArray), (2, .agg me.cells.toArray)]) (fun x39 => opS Try.prog (S.binG .eql 36 (.agg s4.best.cells.toArray) x39) fun x40 => j x40) W' := by
            rintro W' ⟨g1, g2⟩
            rw [build_vec2]
            refine s_eqVec hw11.best ⟨hm, isI0, hm, isI0, isI0⟩ ?_
            rw [decide_eq_true (show s4.best = ⟨me, 0, me, 0, 0⟩ from q3)]
            exact hj _ _ ⟨rfl, g1, g2⟩
          have h0 : CS W12 sp bs pv mb s4 ∧ EW w xm xo me o W12 := ⟨hCd, hEd⟩
          repeat' first
            | with_reducible refine allW_intro ?_ ?_
            | with_reducible refine rb (by assumption) fun _ _ => ?_
            | with_reducible refine rl (by assumption) ?_
            | with_reducible exact hown (by assumption)
      · obtain ⟨q1, q2⟩ := hfive
        have hre : s2.rolesOf[i]'hil2 = r := by
          have := List.getElem?_eq_getElem hil2
          rw [hro] at this
          exact (Option.some.inj this).symm
        obtain ⟨pb, po, hia, hcell⟩ := int_at hx9.rd hil2
        rw [hre] at hcell
        simp only [push_cast, Nat.reduceAdd, Nat.reduceLeDiff, Nat.reduceLT, Int.reduceToNat, Nat.left_eq_add, Nat.add_eq_left, Nat.add_left_cancel_iff, Nat.reduceEqDiff, Nat.add_assoc, Nat.succ_ne_zero, hwi]
        have hEd := hE9.fr0 (Fr.drew W9)
        have hCd := hC9.fr0 (Fr.drew W9)
        have hxd := hx9.fr (Fr.drew (fp := none_) W9) fun _ _ h => h
        rw [hia]
        generalize W9.drew = W10 at *
        refine allW_intro ?_ ?_
        · rw [opS_cl]
          refine roles_spec hCd hw9 fun z W11 hz nz g11 => ?_
          rw [q1] at hz
          refine ld_int hz.rd hro ?_
          have hce := hcell W11 (hxd.fr g11 fun _ _ h => h).rd
          simp only [push_cast, Nat.reduceAdd, Nat.reduceLeDiff, Nat.reduceLT, Int.reduceToNat, Nat.left_eq_add, Nat.add_eq_left, Nat.add_left_cancel_iff, Nat.reduceEqDiff, Nat.add_assoc, Nat.succ_ne_zero, hce, beq_self_eq_true]
          exact hj _ _ ⟨rfl, hCd.fr0 g11, hEd.fr0 g11⟩
        · have hce := hcell W10 hxd.rd
          simp only [push_cast, Nat.reduceAdd, Nat.reduceLeDiff, Nat.reduceLT, Int.reduceToNat, Nat.left_eq_add, Nat.add_eq_left, Nat.add_left_cancel_iff, Nat.reduceEqDiff, Nat.add_assoc, Nat.succ_ne_zero, hce]
          refine roles_spec hCd hw9 fun z W11 hz nz g11 => ?_
          rw [q1] at hz
          refine ld_int hz.rd hro ?_
          simp only [push_cast, Nat.reduceAdd, Nat.reduceLeDiff, Nat.reduceLT, Int.reduceToNat, Nat.left_eq_add, Nat.add_eq_left, Nat.add_left_cancel_iff, Nat.reduceEqDiff, Nat.add_assoc, Nat.succ_ne_zero, beq_self_eq_true]
          exact hj _ _ ⟨rfl, hCd.fr0 g11, hEd.fr0 g11⟩
    · simp only [push_cast, Nat.reduceAdd, Nat.reduceLeDiff, Nat.reduceLT, Int.reduceToNat, Nat.left_eq_add, Nat.add_eq_left, Nat.add_left_cancel_iff, Nat.reduceEqDiff, Nat.add_assoc, Nat.succ_ne_zero]
      refine br_intro (fun e => absurd e (by decide)) fun _ => ?_
      rw [hwi]
      have hEd := hE7.fr0 (Fr.drew W7)
      have hCd := hC7.fr0 (Fr.drew W7)
      have hxd := hx.fr (Fr.drew (fp := none_) W7) fun _ _ h => h
      generalize W7.drew = W8 at *
      refine ld_int hxd.rd hro ?_
      simp only [push_cast, Nat.reduceAdd, Nat.reduceLeDiff, Nat.reduceLT, Int.reduceToNat, Nat.left_eq_add, Nat.add_eq_left, Nat.add_left_cancel_iff, Nat.reduceEqDiff, Nat.add_assoc, Nat.succ_ne_zero]
      have hr2 : (r == 1) = decide (cmpD o me < 0) := by rw [Bool.eq_iff_iff, decide_eq_true_iff, beq_iff_eq]; exact hr1
      rw [hr2]
      refine br_intro (fun e => by simp at e) fun _ => ?_
      have hjj : ∀ W, CS W sp bs pv mb s2 → EW w xm xo me o W → OwnE 3 1 W x (s2.rolesOf.map cellI) → j W := fun W h1 h2 h3 => hj W ⟨h1, h2, h3⟩
      refine br_dec (fun hl => ?_) fun hl => ?_
      · rw [if_pos hl] at hbest
        have hb2 : s2.best = earC i costs[i] o := by rw [v3, hbest]
        have hr3 : r = 1 := hr1.2 hl
        obtain ⟨q, hq, hq2⟩ := hstt (by rw [hr, hr3])
        have hst : s2.statesOf[i]? = some 2 := by unfold Sp.statesOf; rw [List.getElem?_map, hq]; exact congrArg some hq2
        obtain ⟨pb, po, hia, hcell⟩ := int_at hc hil
        have hb0 : ∀ q r : World → Prop, brn (.bool (!true)) q r = r := fun q r => by funext W; rfl
        refine allW_intro ?_ ?_
        · rw [opS_cl]
          refine best_spec hCd fun W9 g9 => ?_
          have hE9 := hEd.fr0 g9
          have hC9 := hCd.fr0 g9
          have hx9 := hxd.fr g9 fun _ _ h => h
          rw [fld_root, hb2]
          simp only [push_cast, Nat.reduceAdd, Nat.reduceLeDiff, Nat.reduceLT, Int.reduceToNat, Nat.left_eq_add, Nat.add_eq_left, Nat.add_left_cancel_iff, Nat.reduceEqDiff, Nat.add_assoc, Nat.succ_ne_zero, hE9.o]
          refine s_neId ho ho ?_
          rw [show decide ((earC i costs[i] o).root = o) = true from decide_eq_true rfl, hb0]
          simp only [push_cast, Nat.reduceAdd, Nat.reduceLeDiff, Nat.reduceLT, Int.reduceToNat, Nat.left_eq_add, Nat.add_eq_left, Nat.add_left_cancel_iff, Nat.reduceEqDiff, Nat.add_assoc, Nat.succ_ne_zero, hwi]
          rw [hia]
          refine allW_intro ?_ ?_
          · rw [opS_cl]
            refine best_spec hC9 fun W10 g10 => ?_
            have hE10 := hE9.fr0 g10
            have hC10 := hC9.fr0 g10
            have hx10 := hx9.fr g10 fun _ _ h => h
            rw [fld_cost, hb2]
            have hce := hcell W10 (hc.fr hE10.f fun _ _ h => h)
            simp only [push_cast, Nat.reduceAdd, Nat.reduceLeDiff, Nat.reduceLT, Int.reduceToNat, Nat.left_eq_add, Nat.add_eq_left, Nat.add_left_cancel_iff, Nat.reduceEqDiff, Nat.add_assoc, Nat.succ_ne_zero, hce]
            refine br_intro (fun e => by simp [earC] at e) fun _ => ?_
            refine states_spec hC10 hw5 fun z Wz hz nz gz => ?_
            simp only [push_cast, Nat.reduceAdd, Nat.reduceLeDiff, Nat.reduceLT, Int.reduceToNat, Nat.left_eq_add, Nat.add_eq_left, Nat.add_left_cancel_iff, Nat.reduceEqDiff, Nat.add_assoc, Nat.succ_ne_zero, hwi]
            refine ld_int hz.rd hst ?_
            simp only [push_cast, Nat.reduceAdd, Nat.reduceLeDiff, Nat.reduceLT, Int.reduceToNat, Nat.left_eq_add, Nat.add_eq_left, Nat.add_left_cancel_iff, Nat.reduceEqDiff, Nat.add_assoc, Nat.succ_ne_zero]
            refine br_intro (fun e => absurd e (by decide)) fun _ => ?_
            exact hjj _ (hC10.fr0 gz) (hE10.fr0 gz) (hx10.fr gz fun _ _ h => h)
          · have hce := hcell _ (hc.fr hE9.f fun _ _ h => h)
            simp only [push_cast, Nat.reduceAdd, Nat.reduceLeDiff, Nat.reduceLT, Int.reduceToNat, Nat.left_eq_add, Nat.add_eq_left, Nat.add_left_cancel_iff, Nat.reduceEqDiff, Nat.add_assoc, Nat.succ_ne_zero, hce]
            refine best_spec hC9 fun W10 g10 => ?_
            have hE10 := hE9.fr0 g10
            have hC10 := hC9.fr0 g10
            have hx10 := hx9.fr g10 fun _ _ h => h
            rw [fld_cost, hb2]
            simp only [push_cast, Nat.reduceAdd, Nat.reduceLeDiff, Nat.reduceLT, Int.reduceToNat, Nat.left_eq_add, Nat.add_eq_left, Nat.add_left_cancel_iff, Nat.reduceEqDiff, Nat.add_assoc, Nat.succ_ne_zero]
            refine br_intro (fun e => by simp [earC] at e) fun _ => ?_
            refine states_spec hC10 hw5 fun z Wz hz nz gz => ?_
            simp only [push_cast, Nat.reduceAdd, Nat.reduceLeDiff, Nat.reduceLT, Int.reduceToNat, Nat.left_eq_add, Nat.add_eq_left, Nat.add_left_cancel_iff, Nat.reduceEqDiff, Nat.add_assoc, Nat.succ_ne_zero, hwi]
            refine ld_int hz.rd hst ?_
            simp only [push_cast, Nat.reduceAdd, Nat.reduceLeDiff, Nat.reduceLT, Int.reduceToNat, Nat.left_eq_add, Nat.add_eq_left, Nat.add_left_cancel_iff, Nat.reduceEqDiff, Nat.add_assoc, Nat.succ_ne_zero]
            refine br_intro (fun e => absurd e (by decide)) fun _ => ?_
            exact hjj _ (hC10.fr0 gz) (hE10.fr0 gz) (hx10.fr gz fun _ _ h => h)
        · simp only [push_cast, Nat.reduceAdd, Nat.reduceLeDiff, Nat.reduceLT, Int.reduceToNat, Nat.left_eq_add, Nat.add_eq_left, Nat.add_left_cancel_iff, Nat.reduceEqDiff, Nat.add_assoc, Nat.succ_ne_zero, hEd.o]
          refine best_spec hCd fun W9 g9 => ?_
          have hE9 := hEd.fr0 g9
          have hC9 := hCd.fr0 g9
          have hx9 := hxd.fr g9 fun _ _ h => h
          rw [fld_root, hb2]
          refine s_neId ho ho ?_
          rw [show decide ((earC i costs[i] o).root = o) = true from decide_eq_true rfl, hb0]
          simp only [push_cast, Nat.reduceAdd, Nat.reduceLeDiff, Nat.reduceLT, Int.reduceToNat, Nat.left_eq_add, Nat.add_eq_left, Nat.add_left_cancel_iff, Nat.reduceEqDiff, Nat.add_assoc, Nat.succ_ne_zero, hwi]
          rw [hia]
          refine allW_intro ?_ ?_
          · rw [opS_cl]
            refine best_spec hC9 fun W10 g10 => ?_
            have hE10 := hE9.fr0 g10
            have hC10 := hC9.fr0 g10
            have hx10 := hx9.fr g10 fun _ _ h => h
            rw [fld_cost, hb2]
            have hce := hcell W10 (hc.fr hE10.f fun _ _ h => h)
            simp only [push_cast, Nat.reduceAdd, Nat.reduceLeDiff, Nat.reduceLT, Int.reduceToNat, Nat.left_eq_add, Nat.add_eq_left, Nat.add_left_cancel_iff, Nat.reduceEqDiff, Nat.add_assoc, Nat.succ_ne_zero, hce]
            refine br_intro (fun e => by simp [earC] at e) fun _ => ?_
            refine states_spec hC10 hw5 fun z Wz hz nz gz => ?_
            simp only [push_cast, Nat.reduceAdd, Nat.reduceLeDiff, Nat.reduceLT, Int.reduceToNat, Nat.left_eq_add, Nat.add_eq_left, Nat.add_left_cancel_iff, Nat.reduceEqDiff, Nat.add_assoc, Nat.succ_ne_zero, hwi]
            refine ld_int hz.rd hst ?_
            simp only [push_cast, Nat.reduceAdd, Nat.reduceLeDiff, Nat.reduceLT, Int.reduceToNat, Nat.left_eq_add, Nat.add_eq_left, Nat.add_left_cancel_iff, Nat.reduceEqDiff, Nat.add_assoc, Nat.succ_ne_zero]
            refine br_intro (fun e => absurd e (by decide)) fun _ => ?_
            exact hjj _ (hC10.fr0 gz) (hE10.fr0 gz) (hx10.fr gz fun _ _ h => h)
          · have hce := hcell _ (hc.fr hE9.f fun _ _ h => h)
            simp only [push_cast, Nat.reduceAdd, Nat.reduceLeDiff, Nat.reduceLT, Int.reduceToNat, Nat.left_eq_add, Nat.add_eq_left, Nat.add_left_cancel_iff, Nat.reduceEqDiff, Nat.add_assoc, Nat.succ_ne_zero, hce]
            refine best_spec hC9 fun W10 g10 => ?_
            have hE10 := hE9.fr0 g10
            have hC10 := hC9.fr0 g10
            have hx10 := hx9.fr g10 fun _ _ h => h
            rw [fld_cost, hb2]
            simp only [push_cast, Nat.reduceAdd, Nat.reduceLeDiff, Nat.reduceLT, Int.reduceToNat, Nat.left_eq_add, Nat.add_eq_left, Nat.add_left_cancel_iff, Nat.reduceEqDiff, Nat.add_assoc, Nat.succ_ne_zero]
            refine br_intro (fun e => by simp [earC] at e) fun _ => ?_
            refine states_spec hC10 hw5 fun z Wz hz nz gz => ?_
            simp only [push_cast, Nat.reduceAdd, Nat.reduceLeDiff, Nat.reduceLT, Int.reduceToNat, Nat.left_eq_add, Nat.add_eq_left, Nat.add_left_cancel_iff, Nat.reduceEqDiff, Nat.add_assoc, Nat.succ_ne_zero, hwi]
            refine ld_int hz.rd hst ?_
            simp only [push_cast, Nat.reduceAdd, Nat.reduceLeDiff, Nat.reduceLT, Int.reduceToNat, Nat.left_eq_add, Nat.add_eq_left, Nat.add_left_cancel_iff, Nat.reduceEqDiff, Nat.add_assoc, Nat.succ_ne_zero]
            refine br_intro (fun e => absurd e (by decide)) fun _ => ?_
            exact hjj _ (hC10.fr0 gz) (hE10.fr0 gz) (hx10.fr gz fun _ _ h => h)
      · repeat' first
          | with_reducible refine allW_intro ?_ ?_
          | with_reducible exact hjj _ hCd hEd hxd

end Go.Gx.S
end

section
/- Tables of VLANs: the plain laws. -/
namespace Go.Gx
open Go
namespace VT

theorem mem_members {t : VT} {v p : Int} : p ∈ t.members v ↔ t.port p ∧ t.is v p = true := by
  unfold members port
  rw [List.mem_filter, List.mem_map]
  constructor
  · rintro ⟨⟨n, hn, rfl⟩, h⟩
    rw [List.mem_range] at hn
    exact ⟨⟨by simp, by simpa using hn⟩, h⟩
  · rintro ⟨⟨h1, h2⟩, h⟩
    exact ⟨⟨p.toNat, by rw [List.mem_range]; omega, by simp; omega⟩, h⟩

theorem inn_eq {t : VT} {p : Int} {f : Frm} {n : Nat} : ∃ u, t.inn p f n = if t.port p ∧ f.right n = true then (if t.is u p = true then (u, 0) else (0, 4)) else (0, 1) := ⟨_, rfl⟩

theorem inn_none {t : VT} {p : Int} {f : Frm} {n : Nat} (h : (t.inn p f n).2 ≠ 0) : (t.inn p f n).1 = 0 := by
  obtain ⟨u, hu⟩ := inn_eq (t := t) (p := p) (f := f) (n := n)
  rw [hu] at h ⊢
  by_cases h1 : t.port p ∧ f.right n = true
  · rw [if_pos h1] at h ⊢
    by_cases h2 : t.is u p = true
    · rw [if_pos h2] at h
      exact absurd rfl h
    · rw [if_neg h2]
  · rw [if_neg h1]

theorem inn_some {t : VT} {p : Int} {f : Frm} {n : Nat} (h : (t.inn p f n).2 = 0) : t.port p ∧ f.right n = true ∧ t.is (t.inn p f n).1 p = true := by
  obtain ⟨u, hu⟩ := inn_eq (t := t) (p := p) (f := f) (n := n)
  rw [hu] at h ⊢
  by_cases h1 : t.port p ∧ f.right n = true
  · rw [if_pos h1] at h ⊢
    by_cases h2 : t.is u p = true
    · rw [if_pos h2]
      exact ⟨h1.1, h1.2, h2⟩
    · rw [if_neg h2] at h
      cases h
  · rw [if_neg h1] at h
    cases h

theorem out_some {t : VT} {v p : Int} {f : Frm} {n : Nat} (h : (t.out v p f n).2 = 0) : t.right v p ∧ f.right n = true ∧ ((getL t.tab (v, p) = some true ∧ (t.out v p f n).1 = f.tag v f.prio) ∨ (getL t.tab (v, p) = some false ∧ (t.out v p f n).1 = f.untag)) := by
  unfold out at *
  split at h
  · rename_i hc
    rw [if_pos hc]
    refine ⟨hc.1, hc.2, ?_⟩
    split at h
    · cases h
    · rename_i hl
      rw [hl]; exact .inl ⟨rfl, rfl⟩
    · rename_i hl
      rw [hl]; exact .inr ⟨rfl, rfl⟩
  · cases h

theorem out_is {t : VT} {v p : Int} {f : Frm} {n : Nat} (hr : t.right v p) (hf : f.right n = true) (hi : t.is v p = true) : (t.out v p f n).2 = 0 := by
  unfold out
  rw [if_pos ⟨hr, hf⟩]
  obtain ⟨b, hb⟩ := Option.isSome_iff_exists.1 hi
  rw [hb]
  cases b <;> rfl

theorem right_untag {f : Frm} {n : Nat} (h : f.right n = true) : f.untag.right n = true := by
  unfold Frm.right Frm.untag at *
  simp only [Bool.and_eq_true] at h ⊢
  exact ⟨h.1, by simp⟩

/-- it comes in as what it went out as -/
theorem back_tag {t : VT} {v p : Int} {f : Frm} {n : Nat} (hr : t.right v p) (hf : f.right n = true) (hi : t.is v p = true) : t.inn p (f.tag v f.prio) n = (v, 0) := by
  unfold inn
  rw [if_pos ⟨hr.2.2, tag_right hf hr.1 hr.2.1⟩]
  have h1 := hr.1
  have e : (f.tag v f.prio).vlan = v := rfl
  have h0 : v ≠ 0 := by omega
  rw [e, if_neg h0]
  simp only []
  rw [if_pos hi]

theorem back_untag {t : VT} {v p : Int} {f : Frm} {n : Nat} (hr : t.right v p) (hf : f.right n = true) (hi : t.is v p = true) : (t.native p v).1.inn p f.untag n = (v, 0) := by
  have h1 := hr.1
  have h2 := hr.2.1
  have h3 := hr.2.2
  unfold native
  rw [if_pos ⟨h3, by omega, by omega⟩]
  unfold inn
  have hp : (⟨t.tab, t.nat.set p.toNat v⟩ : VT).port p := by unfold port at *; simpa using h3
  simp only []
  rw [if_pos ⟨hp, right_untag hf⟩]
  have e : f.untag.vlan = 0 := rfl
  have hlt : p.toNat < t.nat.length := by unfold port at h3; omega
  have hg : (t.nat.set p.toNat v).getD p.toNat 0 = v := by
    rw [List.getD_eq_getElem?_getD, List.getElem?_set_self hlt]; rfl
  rw [e, if_pos rfl, hg, if_pos (by exact hi)]

theorem members_native {t : VT} (p v u : Int) : (t.native p v).1.members u = t.members u := by
  unfold native
  split
  · unfold members is; simp
  · rfl

theorem members_step {t t' : VT} {u : Int} (hn : t'.nat.length = t.nat.length) (h : ∀ p, t'.is u p = t.is u p) : t'.members u = t.members u := by
  unfold members
  rw [hn]
  exact List.filter_congr fun p _ => h p

theorem members_add {t : VT} {v p u : Int} {b : Bool} (h : v ≠ u) : (t.add v p b).1.members u = t.members u := by
  unfold add
  split
  · refine members_step rfl fun q => ?_
    unfold is
    simp only []
    rw [lookup_setL, if_neg]
    intro e
    exact h (congrArg Prod.fst e).symm
  · rfl

theorem members_remove {t : VT} {v p u : Int} (h : v ≠ u) : (t.remove v p).1.members u = t.members u := by
  unfold remove
  split
  · split
    · refine members_step rfl fun q => ?_
      unfold is
      simp only []
      rw [lookup_delL, if_neg]
      intro e
      exact h (congrArg Prod.fst e).symm
    · rfl
  · rfl

theorem filter_one_less {l : List Int} {f g : Int → Bool} {p : Int} (hn : l.Nodup) (hp : p ∈ l) (hf : f p = true) (hg : g p = false) (h : ∀ q, q ≠ p → g q = f q) : (l.filter g).length + 1 = (l.filter f).length := by
  induction l with
  | nil => cases hp
  | cons a l ih =>
    rw [List.nodup_cons] at hn
    by_cases e : a = p
    · subst e
      rw [List.filter_cons, List.filter_cons, if_neg (by simp [hg]), if_pos hf, List.length_cons]
      have : l.filter g = l.filter f := List.filter_congr fun q hq => h q fun e => hn.1 (e ▸ hq)
      rw [this]
    · have hp' : p ∈ l := by
        rcases List.mem_cons.1 hp with rfl | hp
        · exact absurd rfl e
        · exact hp
      rw [List.filter_cons, List.filter_cons, h a e]
      have := ih hn.2 hp'
      split
      · simp only [List.length_cons]; omega
      · exact this

theorem range_nodup (n : Nat) : ((List.range n).map Int.ofNat).Nodup := by
  refine List.Pairwise.map (R := (· < ·)) _ ?_ List.pairwise_lt_range
  intro a b hab e
  have : (a : Int) = b := e
  omega

theorem members_rise (t : VT) (v : Int) : (t.members v).Pairwise (· < ·) := by
  unfold members
  refine List.Pairwise.filter _ ?_
  refine List.Pairwise.map (R := (· < ·)) _ ?_ List.pairwise_lt_range
  intro a b hab
  show (a : Int) < b
  omega

theorem native_none {t : VT} (h : t.ok) (p : Int) (f : Frm) (hf : f.vlan = 0) (n : Nat) :
    ((t.native p 0).1.inn p f n).1 = 0 ∧ ((t.native p 0).1.inn p f n).2 ≠ 0 ∧ ((t.inn p f n).2 = 1 ∨ (t.native p 0).2 = 0) := by
  by_cases hp : t.port p
  · have hlt : p.toNat < t.nat.length := by unfold port at hp; omega
    have hn : t.native p 0 = ({ t with nat := t.nat.set p.toNat 0 }, 0) := by unfold native; rw [if_pos ⟨hp, by omega, by omega⟩]
    rw [hn]
    have hok := ok_native h p 0
    rw [hn] at hok
    have hno : (⟨t.tab, t.nat.set p.toNat 0⟩ : VT).is 0 p = false := by
      cases hi : (⟨t.tab, t.nat.set p.toNat 0⟩ : VT).is 0 p with
      | false => rfl
      | true =>
        have := is_right hok hi
        have := this.1
        omega
    have hg : (t.nat.set p.toNat 0).getD p.toNat 0 = 0 := by
      rw [List.getD_eq_getElem?_getD, List.getElem?_set_self hlt]; rfl
    refine ⟨?_, ?_, .inr rfl⟩
    all_goals
      unfold inn
      simp only [hf, if_true, hg, hno]
      split <;> simp
  · have hn : t.native p 0 = (t, 1) := by unfold native; rw [if_neg (fun h => hp h.1)]
    rw [hn]
    have : t.inn p f n = (0, 1) := by unfold inn; rw [if_neg (fun h => hp h.1)]
    rw [this]
    exact ⟨rfl, by decide, .inl rfl⟩

end VT
end Go.Gx
end

section
/- What comes in: keys, structs. -/
namespace Go.Gx
open Go Go.ChangeShapes Go.WideShapes Go.ChangeAt Go.RowKit
section
variable {H : Type} {enc : TypeId × Value → H} {P : Program} {w : World} {base : Nat} {spare : Nat → Bool} {held : Bool}

/-- a struct, or an array, that comes in -/
theorem arg_agg {t base' : Nat} {v : Value} {d : DataW H} {ps : List MemPlace} {r : Reach} (hu : (∃ fs, P.underlying t = some (.struct fs)) ∨ ∃ n e, P.underlying t = some (.array n e)) (hok : Value.okWide P w r base' t v) (h : DataW.Trod enc P w base spare held t v d ps) :
    ∃ cs : List Value, v = .agg cs.toArray ∧ ∃ n, DataW.trod enc P w base spare held n t cs = some (d, ps) := by
  obtain ⟨fuel, h⟩ := h
  unfold Value.okWide at hok
  rcases hu with ⟨fs, hu⟩ | ⟨n, e, hu⟩
  · simp only [hu] at hok
    obtain ⟨cs, rfl, _⟩ := hok
    exact ⟨cs.toList, by simp, fuel, h⟩
  · simp only [hu] at hok
    obtain ⟨cs, rfl, _⟩ := hok
    exact ⟨cs.toList, by simp, fuel, h⟩

/-- .. that may be a key -/
theorem arg_key {t base' : Nat} {v : Value} {d : DataW H} {ps : List MemPlace} {r : Reach} (hu : (∃ fs, P.underlying t = some (.struct fs)) ∨ ∃ n e, P.underlying t = some (.array n e)) (hk : P.keyTypeAt 8 t = true) (hok : Value.okWide P w r base' t v) (h : DataW.Trod enc P w base spare held t v d ps) :
    ∃ cs : List Value, v = .agg cs.toArray ∧ ∃ l, P.keyLits 8 t cs = some l := by
  obtain ⟨cs, h1, n, h2⟩ := arg_agg hu hok h
  exact ⟨cs, h1, _, (keyLits_of_trod 8 t hk n cs _ h2).1⟩

/-- bytes that come in -/
theorem trod_bytes {t e n : Nat} {v : Value} {x : DataW H × List MemPlace} (ht : P.underlying t = some (.slice e)) (he : P.underlying e = some (.int .u8)) (hc : P.cellsOf e = 1) (h : DataW.trod enc P w base spare held n t [v] = some x) :
    ∃ bs, ByR w v bs ∧ bs.length ≤ maxLen := by
  obtain ⟨es, h1, h2, h3⟩ := open_rd ht hc (by decide) h
  have key : ∃ bs : List Int, es = bs.map cell1 ∧ ∀ b ∈ bs, isB b := by
    clear h1 h2
    induction es with
    | nil => exact ⟨[], rfl, by simp⟩
    | cons c es ih =>
      obtain ⟨bs, hb, hbs⟩ := ih fun c hc => h3 c (List.mem_cons_of_mem _ hc)
      obtain ⟨m, y, hy⟩ := h3 c (List.mem_cons_self ..)
      obtain ⟨z, rfl, _, hw⟩ := DataW.trod_int he hy
      refine ⟨z :: bs, by rw [hb]; rfl, fun b hb => ?_⟩
      rcases List.mem_cons.1 hb with rfl | hb
      · simp only [Lit.wf, Bool.and_eq_true, decide_eq_true_eq] at hw
        exact hw
      · exact hbs b hb
  obtain ⟨bs, rfl, hbs⟩ := key
  exact ⟨bs, ⟨h1, hbs⟩, by simpa using h2⟩

theorem arg_bytes {t e base' : Nat} {v : Value} {d : DataW H} {ps : List MemPlace} {r : Reach} (ht : P.underlying t = some (.slice e)) (he : P.underlying e = some (.int .u8)) (hc : P.cellsOf e = 1) (hok : Value.okWide P w r base' t v) (h : DataW.Trod enc P w base spare held t v d ps) :
    ∃ bs, ByR w v bs ∧ bs.length ≤ maxLen := by
  obtain ⟨fuel, h⟩ := h
  rw [okWide_slice ht hok] at h
  exact trod_bytes ht he hc h

end
end Go.Gx
end

section
/- Numbers, and names, that come in. -/
set_option linter.unusedVariables false
set_option maxRecDepth 100000
namespace Go.Gx.S
open Go Go.Gx Go.Proofs

theorem ktInt : Try.prog.keyTypeAt 8 3 = true := by kernel_rfl
theorem ktBool : Try.prog.keyTypeAt 8 4 = true := by kernel_rfl
theorem kt2 : Try.prog.keyTypeAt 8 22 = true := by kernel_rfl
theorem ct2 : Try.prog.cellsOf 22 = 2 := by kernel_rfl
theorem kt2I : Try.prog.keyTypeAt 8 48 = true := by kernel_rfl
theorem ct2I : Try.prog.cellsOf 48 = 14 := by kernel_rfl

theorem id_dec {d : Nat} {cs : List Value} {l : List Lit} (h : Try.prog.keyLits (d + 3) 31 cs = some l) : ∃ x : Idn, x.ok ∧ cs = x.cells := by
  obtain ⟨hl, ls, h1, rfl⟩ := kl_struct Try.underlying31 h
  rw [ctId] at hl
  match cs, hl with
  | [c0, c1, c2, c3, c4, c5, c6], _ =>
  simp only [List.mapM_cons, List.mapM_nil, ctInt, ctMac, bind, Option.bind_eq_some_iff, pure, Option.some.injEq, List.drop_succ_cons, List.drop_zero, List.take_succ_cons, List.take_zero] at h1
  obtain ⟨y0, g0, _, ⟨y1, g1, _, rfl, rfl⟩, rfl⟩ := h1
  obtain ⟨k0, e0, rfl, b0⟩ := kl_int uInt g0
  obtain ⟨m, hm, e2, _⟩ := MacT.dec (d := d) g1
  simp only [List.cons.injEq, and_true] at e0
  subst e0
  refine ⟨⟨k0, m⟩, ⟨b0, hm⟩, ?_⟩
  rw [e2]
  rfl
theorem ints_dec {es : List (List Value)} (h : ∀ c ∈ es, ∃ l, Try.prog.keyLits 8 3 c = some l) : ∃ st : List Int, (∀ s ∈ st, isI s) ∧ es = st.map cellI := by
  induction es with
  | nil => exact ⟨[], by simp, rfl⟩
  | cons c es ih =>
    obtain ⟨st, h1, h2⟩ := ih fun c hc => h c (List.mem_cons_of_mem _ hc)
    obtain ⟨l, hl⟩ := h c (List.mem_cons_self ..)
    obtain ⟨s, rfl, _, hs⟩ := kl_int uInt hl
    refine ⟨s :: st, fun x hx => ?_, by rw [h2]; rfl⟩
    rcases List.mem_cons.1 hx with rfl | hx
    · exact hs
    · exact h1 x hx

theorem bools_dec {es : List (List Value)} (h : ∀ c ∈ es, ∃ l, Try.prog.keyLits 8 4 c = some l) : ∃ st : List Bool, es = st.map cellB := by
  induction es with
  | nil => exact ⟨[], rfl⟩
  | cons c es ih =>
    obtain ⟨st, h2⟩ := ih fun c hc => h c (List.mem_cons_of_mem _ hc)
    obtain ⟨l, hl⟩ := h c (List.mem_cons_self ..)
    obtain ⟨s, rfl, _⟩ := kl_bool uBool hl
    exact ⟨s :: st, by rw [h2]; rfl⟩

section
variable {H : Type} {enc : TypeId × Value → H} {w : World} {base : Nat} {spare : Nat → Bool} {held : Bool}
theorem arg_ints {base' : Nat} {v : Value} {d : DataW H} {ps : List MemPlace} {r : Reach} (hok : Value.okWide Try.prog w r base' 23 v) (h : DataW.Trod enc Try.prog w base spare held 23 v d ps) : ∃ st : List Int, (∀ s ∈ st, isI s) ∧ RdE 1 w v (st.map cellI) := by
  obtain ⟨es, hes, _, hk⟩ := arg_keys Try.underlying23 ktInt ctInt (by decide) hok h
  obtain ⟨st, h1, rfl⟩ := ints_dec hk
  exact ⟨st, h1, hes⟩
theorem arg_bools {base' : Nat} {v : Value} {d : DataW H} {ps : List MemPlace} {r : Reach} (hok : Value.okWide Try.prog w r base' 39 v) (h : DataW.Trod enc Try.prog w base spare held 39 v d ps) : ∃ st : List Bool, RdE 1 w v (st.map cellB) := by
  obtain ⟨es, hes, _, hk⟩ := arg_keys Try.underlying39 ktBool ctBool (by decide) hok h
  obtain ⟨st, rfl⟩ := bools_dec hk
  exact ⟨st, hes⟩
theorem arg_int2 {base' : Nat} {v : Value} {d : DataW H} {ps : List MemPlace} {r : Reach} (hok : Value.okWide Try.prog w r base' 22 v) (h : DataW.Trod enc Try.prog w base spare held 22 v d ps) :
    ∃ a b, isI a ∧ isI b ∧ v = .agg #[i64 a, i64 b] := by
  obtain ⟨cs, rfl, l, hl⟩ := arg_key (.inr ⟨_, _, Try.underlying22⟩) kt2 hok h
  obtain ⟨hc, ls, h1, rfl⟩ := kl_array Try.underlying22 hl
  rw [ct2] at hc
  match cs, hc with
  | [c0, c1], _ =>
  simp only [show List.range 2 = [0, 1] from rfl, List.mapM_cons, List.mapM_nil, ctInt, bind, Option.bind_eq_some_iff, pure, Option.some.injEq, Nat.mul_one, List.drop_succ_cons, List.drop_zero, List.take_succ_cons, List.take_zero] at h1
  obtain ⟨y0, g0, _, ⟨y1, g1, _, rfl, rfl⟩, rfl⟩ := h1
  obtain ⟨k0, e0, rfl, b0⟩ := kl_int uInt g0
  obtain ⟨k1, e1, rfl, b1⟩ := kl_int uInt g1
  simp only [List.cons.injEq, and_true] at e0 e1
  subst e0 e1
  exact ⟨k0, k1, b0, b1, rfl⟩
theorem arg_id2 {base' : Nat} {v : Value} {d : DataW H} {ps : List MemPlace} {r : Reach} (hok : Value.okWide Try.prog w r base' 48 v) (h : DataW.Trod enc Try.prog w base spare held 48 v d ps) :
    ∃ a b : Idn, a.ok ∧ b.ok ∧ v = .agg (twoC a b).toArray := by
  obtain ⟨cs, rfl, l, hl⟩ := arg_key (.inr ⟨_, _, Try.underlying48⟩) kt2I hok h
  obtain ⟨hc, ls, h1, rfl⟩ := kl_array Try.underlying48 hl
  rw [ct2I] at hc
  match cs, hc with
  | [a0, a1, a2, a3, a4, a5, a6, b0, b1, b2, b3, b4, b5, b6], _ =>
  simp only [show List.range 2 = [0, 1] from rfl, List.mapM_cons, List.mapM_nil, ctId, bind, Option.bind_eq_some_iff, pure, Option.some.injEq, Nat.zero_mul, Nat.one_mul, List.drop_succ_cons, List.drop_zero, List.take_succ_cons, List.take_zero] at h1
  obtain ⟨y0, g0, _, ⟨y1, g1, _, rfl, rfl⟩, rfl⟩ := h1
  obtain ⟨x, hx, e0⟩ := id_dec (d := 4) g0
  obtain ⟨y, hy, e1⟩ := id_dec (d := 4) g1
  refine ⟨x, y, hx, hy, ?_⟩
  unfold twoC
  rw [← e0, ← e1]
  rfl
end
end Go.Gx.S
end
