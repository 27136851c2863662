/- Own texts, put together. -/
import Derived.Test.YtijpdcidhbkmmaaGreatP4
import Derived.Test.YtijpdcidhbkmmaaGreatP3
import Derived.Test.YtijpdcidhbkmmaaGreatP1
import Derived.Test.YtijpdcidhbkmmaaGreatP2
section
/- Entries that are compared (the table's). -/
set_option linter.unusedVariables false
set_option linter.unusedSimpArgs false
set_option maxRecDepth 100000
namespace Go.Gx.S
open Go Go.Gx Go.Proofs
variable {K : Value → World → Prop} {w : World}

theorem isnan_spec {a : Int} (h : K (.bool false) w) : CallsR Tryz.prog 81 #[i64 a] K w := by
  apply c81
  unfold p81
  simp only [push_cast, Nat.reduceAdd, Nat.reduceLeDiff, Nat.reduceLT, Int.reduceToNat, Nat.left_eq_add, Nat.add_eq_left, Nat.add_left_cancel_iff, Nat.reduceEqDiff, Nat.add_assoc, Nat.succ_ne_zero]
  have : (a != a) = false := by simp
  rw [this]; exact h

theorem ccmp_spec {a b : Int} (h : K (i64 (cmpI a b)) w) : CallsR Tryz.prog 47 #[i64 a, i64 b] K w := by
  apply c47
  unfold p47
  simp only [push_cast, Nat.reduceAdd, Nat.reduceLeDiff, Nat.reduceLT, Int.reduceToNat, Nat.left_eq_add, Nat.add_eq_left, Nat.add_left_cancel_iff, Nat.reduceEqDiff, Nat.add_assoc, Nat.succ_ne_zero]
  refine isnan_spec ?_
  refine isnan_spec ?_
  simp only [push_cast, Nat.reduceAdd, Nat.reduceLeDiff, Nat.reduceLT, Int.reduceToNat, Nat.left_eq_add, Nat.add_eq_left, Nat.add_left_cancel_iff, Nat.reduceEqDiff, Nat.add_assoc, Nat.succ_ne_zero]
  unfold cmpI at h
  refine br_dec (fun h1 => ?_) fun h1 => ?_
  · rw [if_pos h1] at h; exact h
  · rw [if_neg h1] at h
    refine br_dec (fun h2 => ?_) fun h2 => ?_
    · rw [if_pos h2] at h; exact h
    · rw [if_neg (by omega)] at h; exact h

/-- the first that is not zero -/
def orL : List Int → Int
  | [] => 0
  | x :: l => if x ≠ 0 then x else orL l

theorem orL_cons (x : Int) (l : List Int) : orL (x :: l) = if x ≠ 0 then x else orL l := id rfl

theorem cor_spec {v : Value} {l : List Int} (hv : RdE 1 w v (l.map cellI)) (hl : l.length < 2 ^ 62) (h : K (i64 (orL l)) w) : CallsR Tryz.prog 46 #[v] K w := by
  apply c46
  unfold p46
  obtain ⟨a, c, rfl⟩ := hv.form
  rw [List.length_map] at hv ⊢
  simp only [push_cast, Nat.reduceAdd, Nat.reduceLeDiff, Nat.reduceLT, Int.reduceToNat, Nat.left_eq_add, Nat.add_eq_left, Nat.add_left_cancel_iff, Nat.reduceEqDiff, Nat.add_assoc, Nat.succ_ne_zero]
  refine jn0 (fun w' => w' = w ∧ orL l = 0) (fun w' ⟨e, e2⟩ => by rw [e]; rw [e2] at h; exact h) fun j hj => ?_
  refine loop1 (fun n v' w' => ∃ i : Nat, v' = i64 i ∧ n + i = l.length ∧ w' = w ∧ orL l = orL (l.drop i)) ?_ l.length ⟨0, rfl, rfl, rfl, rfl⟩
  rintro n v' w' X ⟨i, rfl, hi, rfl, ho⟩ hX
  simp only [push_cast, Nat.reduceAdd, Nat.reduceLeDiff, Nat.reduceLT, Int.reduceToNat, Nat.left_eq_add, Nat.add_eq_left, Nat.add_left_cancel_iff, Nat.reduceEqDiff, Nat.add_assoc, Nat.succ_ne_zero]
  refine br_dec (fun hlt => ?_) fun hge => ?_
  · have hil : i < l.length := by omega
    refine s_iaE hv (by omega) (by simpa using hil) fun b o c _ he => ?_
    simp only [push_cast, Nat.reduceAdd, Nat.reduceLeDiff, Nat.reduceLT, Int.reduceToNat, Nat.left_eq_add, Nat.add_eq_left, Nat.add_left_cancel_iff, Nat.reduceEqDiff, Nat.add_assoc, Nat.succ_ne_zero]
    rw [he.cell0 (by simp [cellI])]
    simp only [push_cast, Nat.reduceAdd, Nat.reduceLeDiff, Nat.reduceLT, Int.reduceToNat, Nat.left_eq_add, Nat.add_eq_left, Nat.add_left_cancel_iff, Nat.reduceEqDiff, Nat.add_assoc, Nat.succ_ne_zero, List.getElem_map, cellI, Int.toNat_natCast]
    rw [List.drop_eq_getElem_cons hil, orL_cons] at ho
    refine br_intro (fun e => ?_) fun e => ?_
    · rw [if_pos (by simpa using e)] at ho
      rw [ho] at h; exact h
    · rw [if_neg (by simpa using e)] at ho
      rw [wrap_i64 (by omega)]
      exact hX (n - 1) _ _ (by omega) ⟨i + 1, by simp, by omega, rfl, ho⟩
  · rw [List.drop_eq_nil_of_le (by omega)] at ho
    exact hj _ ⟨rfl, ho⟩

theorem bcmp_spec {a b : Value} {x y : List Int} (ha : ByR w a x) (hb : ByR w b y) (h : K (.int .i64 (Extern.BytealgCompare.cmp (strOf x) (strOf y))) w) : CallsR Tryz.prog 82 #[a, b] K w := by
  apply c82
  unfold p82
  exact s_bytecmp Tryz.func112 (by kernel_rfl) (by kernel_rfl) (by kernel_rfl) (by kernel_rfl) ha hb h

theorem by_mac {m : Mac} {b : Nat} {T : TypeId} (hb : w.heap[b]? = some (cellsO m.cells T)) (h : m.ok) : ByR w (.slice (some ⟨b, 0, none⟩) 6 6) (macL m) :=
  ⟨⟨.inr ⟨b, 0, 6, _, T, (0, 0), rfl, hb, Nat.le_refl _, by show 0 + 6 * 1 ≤ 6; decide, rfl⟩, by simp [macL, cell1]⟩, macL_ok h⟩

theorem mcmp_spec {a b : Mac} (ha : a.ok) (hb : b.ok) (h : ∀ w', Gr w w' → K (i64 (cmpM a b)) w') : CallsR Tryz.prog 48 #[.agg a.cells.toArray, .agg b.cells.toArray] K w := by
  apply c48
  unfold p48
  have hG : Gr w ((w.alloc (cellsO a.cells 24)).alloc (cellsO b.cells 24)).drew := ((Gr.refl _).step_alloc _ |>.step_alloc _).step_drew
  have h0 : ((w.alloc (cellsO a.cells 24)).alloc (cellsO b.cells 24)).drew.heap[w.heap.size]? = some (cellsO a.cells 24) := by simp only [push_cast, Nat.reduceAdd, Nat.reduceLeDiff, Nat.reduceLT, Int.reduceToNat, Nat.left_eq_add, Nat.add_eq_left, Nat.add_left_cancel_iff, Nat.reduceEqDiff, Nat.add_assoc, Nat.succ_ne_zero]
  have h1 : ((w.alloc (cellsO a.cells 24)).alloc (cellsO b.cells 24)).drew.heap[w.heap.size + 1]? = some (cellsO b.cells 24) := by simp only [push_cast, Nat.reduceAdd, Nat.reduceLeDiff, Nat.reduceLT, Int.reduceToNat, Nat.left_eq_add, Nat.add_eq_left, Nat.add_left_cancel_iff, Nat.reduceEqDiff, Nat.add_assoc, Nat.succ_ne_zero]
  simp only [push_cast, Nat.reduceAdd, Nat.reduceLeDiff, Nat.reduceLT, Int.reduceToNat, Nat.left_eq_add, Nat.add_eq_left, Nat.add_left_cancel_iff, Nat.reduceEqDiff, Nat.add_assoc, Nat.succ_ne_zero]
  generalize ((w.alloc (cellsO a.cells 24)).alloc (cellsO b.cells 24)).drew = W at *
  simp only [opS_slcA, push_cast, Nat.reduceAdd, Nat.reduceLeDiff, Nat.reduceLT, Int.reduceToNat, Nat.left_eq_add, Nat.add_eq_left, Nat.add_left_cancel_iff, Nat.reduceEqDiff, Nat.add_assoc, Nat.succ_ne_zero]
  refine bcmp_spec (by_mac h0 ha) (by_mac h1 hb) ?_
  rw [cmp_mac ha hb]
  exact h W hG

theorem orL_two (a b : Int) : orL [a, b] = if a ≠ 0 then a else b := by
  rw [orL_cons, orL_cons]
  split
  · rfl
  · split
    · rfl
    · rename_i h; unfold orL; omega

theorem ecmp_spec {a b : Ent} (ha : a.ok) (hb : b.ok) (h : ∀ w', Gr w w' → K (i64 (cmpE a b)) w') : CallsR Tryz.prog 45 #[.agg a.cells.toArray, .agg b.cells.toArray] K w := by
  apply c45
  unfold p45
  have hG : Gr w ((w.alloc (cellsO a.cells 40)).alloc (cellsO b.cells 40)).drew := ((Gr.refl _).step_alloc _ |>.step_alloc _).step_drew
  have h0 : ((w.alloc (cellsO a.cells 40)).alloc (cellsO b.cells 40)).drew.heap[w.heap.size]? = some (cellsO a.cells 40) := by simp only [push_cast, Nat.reduceAdd, Nat.reduceLeDiff, Nat.reduceLT, Int.reduceToNat, Nat.left_eq_add, Nat.add_eq_left, Nat.add_left_cancel_iff, Nat.reduceEqDiff, Nat.add_assoc, Nat.succ_ne_zero]
  have h1 : ((w.alloc (cellsO a.cells 40)).alloc (cellsO b.cells 40)).drew.heap[w.heap.size + 1]? = some (cellsO b.cells 40) := by simp only [push_cast, Nat.reduceAdd, Nat.reduceLeDiff, Nat.reduceLT, Int.reduceToNat, Nat.left_eq_add, Nat.add_eq_left, Nat.add_left_cancel_iff, Nat.reduceEqDiff, Nat.add_assoc, Nat.succ_ne_zero]
  simp only [push_cast, Nat.reduceAdd, Nat.reduceLeDiff, Nat.reduceLT, Int.reduceToNat, Nat.left_eq_add, Nat.add_eq_left, Nat.add_left_cancel_iff, Nat.reduceEqDiff, Nat.add_assoc, Nat.succ_ne_zero]
  generalize ((w.alloc (cellsO a.cells 40)).alloc (cellsO b.cells 40)).drew = W at *
  -- behind the loads
  have fin : opS Tryz.prog (S.cl 48 [.agg a.mac.cells.toArray, .agg b.mac.cells.toArray]) (fun x13 => opS Tryz.prog (S.buildS 70 2 [(0, i64 (cmpI a.vlan b.vlan)), (1, x13)]) fun x14 => opS Tryz.prog (S.cl 46 [x14]) K) W := by
    simp only [push_cast, Nat.reduceAdd, Nat.reduceLeDiff, Nat.reduceLT, Int.reduceToNat, Nat.left_eq_add, Nat.add_eq_left, Nat.add_left_cancel_iff, Nat.reduceEqDiff, Nat.add_assoc, Nat.succ_ne_zero]
    refine mcmp_spec ha.2.1 hb.2.1 fun w2 hG2 => ?_
    refine s_bs2o (z := .int .i64 0) rfl rfl rfl fun v o hv _ _ => ?_
    simp only [push_cast, Nat.reduceAdd, Nat.reduceLeDiff, Nat.reduceLT, Int.reduceToNat, Nat.left_eq_add, Nat.add_eq_left, Nat.add_left_cancel_iff, Nat.reduceEqDiff, Nat.add_assoc, Nat.succ_ne_zero]
    refine cor_spec (l := [cmpI a.vlan b.vlan, cmpM a.mac b.mac]) hv.rd (by show 2 < 2 ^ 62; decide) ?_
    rw [orL_two]
    exact h _ ((hG.trans hG2).step_alloc _)
  repeat' first
    | exact fin
    | with_reducible refine allW_intro ?_ ?_
    | with_reducible refine ccmp_spec ?_
    | simp only [push_cast, Nat.reduceAdd, Nat.reduceLeDiff, Nat.reduceLT, Int.reduceToNat, Nat.left_eq_add, Nat.add_eq_left, Nat.add_left_cancel_iff, Nat.reduceEqDiff, Nat.add_assoc, Nat.succ_ne_zero, h0, h1]

/-! ### The document's -/

end Go.Gx.S

namespace Go.Gx.S
open Go Go.Gx Go.Proofs
variable {K : Value → World → Prop} {w : World}

theorem s_putE {b o c n i : Nat} {es : List Ent} {x : Ent} {R : Value → World → Prop} (ho : OwnE 40 10 w (.slice (some ⟨b, o, none⟩) n c) (es.map Ent.cells)) (hn : es.length = n) (hi : i < n) (h : ∀ w', OwnE 40 10 w' (.slice (some ⟨b, o, none⟩) n c) ((es.set i x).map Ent.cells) → Fr (fun y => y = b) w w' → R undef w') :
    opS Tryz.prog (S.ia 51 (.slice (some ⟨b, o, none⟩) n c) (i64 i)) (fun y => opS Tryz.prog (S.st 40 y (.agg x.cells.toArray)) R) w := by
  have hl : (es.map Ent.cells).length = n := by rw [List.length_map]; exact hn
  rw [← hl] at ho ⊢
  refine s_iaE ho.rd (by omega) (by rw [hl]; simpa using hi) fun b' o' c' hv _ => ?_
  simp only [Value.slice.injEq, Option.some.injEq, Addr.mk.injEq] at hv
  obtain ⟨⟨rfl, rfl, _⟩, _, rfl⟩ := hv
  rw [Int.toNat_natCast]
  obtain ⟨hok, hput⟩ := ho.put (Ent.cells_length x) (by rw [hl]; exact hi)
  rw [s_stA _ _ _ (Ent.cells_length x) (Ent.cells_one x), hok, onB_true]
  refine h _ ?_ (Fr.step_wr (fp := fun y => y = b) (Fr.refl _ _) (.inl rfl) _ _)
  rw [List.map_set, ← hl]
  exact hput

theorem s_getE {v : Value} {i : Nat} {l : List Ent} {R : Value → World → Prop} (hv : RdE 10 w v (l.map Ent.cells)) (hi : i < l.length) (h : R (.agg l[i].cells.toArray) w) : opS Tryz.prog (S.ia 51 v (i64 i)) (fun y => opS Tryz.prog (S.ld 40 y) R) w := by
  refine s_iaE hv (by omega) (by simpa using hi) fun b o c _ he => ?_
  simp only [Int.toNat_natCast, List.getElem_map] at he ⊢
  rw [s_ldN (by decide), he.agg0 (Ent.cells_length _), onS_some]
  exact h

def Fine (e : Ent) : Prop := e.ok ∧ timedB e.at_ = true

/-- a function that tells something of entries -/
def Tells (C : World → Prop) (D : Ent → Bool) (fv : Value) : Prop :=
  ∀ (e : Ent) (w1 : World) (K : Value → World → Prop), Fine e → C w1 → (∀ w2, Fr none_ w1 w2 → K (.bool (D e)) w2) → opS Tryz.prog (S.call fv [.agg e.cells.toArray]) K w1

theorem index_spec {fv : Value} {D : Ent → Bool} {C : World → Prop} (hC : ∀ w1 w2, C w1 → Fr none_ w1 w2 → C w2) (hcall : Tells C D fv) {v : Value} {l : List Ent} (hv : RdE 10 w v (l.map Ent.cells)) (hlo : ∀ e ∈ l, Fine e) (hw : C w) (hn : l.length < 2 ^ 30)
    (h0 : (∀ e ∈ l, D e = false) → ∀ w', Fr none_ w w' → K (i64 (-1)) w')
    (h1 : ∀ i (hi : i < l.length), (∀ k (h : k < l.length), k < i → D l[k] = false) → D l[i] = true → ∀ w', Fr none_ w w' → K (i64 i) w') :
    CallsR Tryz.prog 78 #[v, fv] K w := by
  apply c78
  unfold p78
  obtain ⟨a, c, rfl⟩ := hv.form
  rw [List.length_map] at hv ⊢
  simp only [push_cast, Nat.reduceAdd, Nat.reduceLeDiff, Nat.reduceLT, Int.reduceToNat, Nat.left_eq_add, Nat.add_eq_left, Nat.add_left_cancel_iff, Nat.reduceEqDiff, Nat.add_assoc, Nat.succ_ne_zero]
  refine jn0 (fun w' => Fr none_ w w' ∧ ∀ e ∈ l, D e = false) (fun w' ⟨hF, hd⟩ => h0 hd w' hF) fun j hj => ?_
  refine loop1 (fun n y w' => ∃ i : Nat, y = i64 i ∧ n + i = l.length ∧ Fr none_ w w' ∧ ∀ k (h : k < l.length), k < i → D l[k] = false) ?_ l.length ⟨0, rfl, rfl, Fr.refl _ _, fun _ _ h => by omega⟩
  rintro n y w2 X ⟨i, rfl, hi, hF, hno⟩ hX
  simp only [push_cast, Nat.reduceAdd, Nat.reduceLeDiff, Nat.reduceLT, Int.reduceToNat, Nat.left_eq_add, Nat.add_eq_left, Nat.add_left_cancel_iff, Nat.reduceEqDiff, Nat.add_assoc, Nat.succ_ne_zero]
  refine br_dec (fun hlt => ?_) fun hge => hj _ ⟨hF, fun e he => ?_⟩
  case refine_2 =>
    obtain ⟨k, hk, rfl⟩ := List.getElem_of_mem he
    exact hno k hk (by omega)
  have hil : i < l.length := by omega
  refine s_getE (hv.fr hF fun _ _ h => h) hil ?_
  refine hcall _ _ _ (hlo _ (List.getElem_mem hil)) (hC _ _ hw hF) fun w3 hF3 => ?_
  simp only [push_cast, Nat.reduceAdd, Nat.reduceLeDiff, Nat.reduceLT, Int.reduceToNat, Nat.left_eq_add, Nat.add_eq_left, Nat.add_left_cancel_iff, Nat.reduceEqDiff, Nat.add_assoc, Nat.succ_ne_zero]
  refine br_intro (fun hd => h1 i hil hno hd _ (hF.trans hF3)) fun hd => ?_
  rw [wrap_i64 (by omega)]
  refine hX (n - 1) _ _ (by omega) ⟨i + 1, by simp, by omega, hF.trans hF3, fun k h hk => ?_⟩
  rcases Nat.lt_or_ge k i with h2 | h2
  · exact hno k h h2
  · have : k = i := by omega
    subst this
    exact hd

theorem delete_spec {fv : Value} {D : Ent → Bool} {C : World → Prop} {b o c : Nat} (hC : ∀ w1 w2, C w1 → Fr (fun x => x = b) w1 w2 → C w2) (hcall : Tells C D fv) {l : List Ent} (hv : OwnE 40 10 w (.slice (some ⟨b, o, none⟩) l.length c) (l.map Ent.cells)) (hlo : ∀ e ∈ l, Fine e) (hw : C w) (hn : l.length < 2 ^ 30)
    (h : ∀ w', OwnE 40 10 w' (.slice (some ⟨b, o, none⟩) (l.filter fun e => !D e).length c) ((l.filter fun e => !D e).map Ent.cells) → Fr (fun x => x = b) w w' → K (.slice (some ⟨b, o, none⟩) (l.filter fun e => !D e).length c) w') :
    CallsR Tryz.prog 42 #[.slice (some ⟨b, o, none⟩) l.length c, fv] K w := by
  apply c42
  unfold p42
  have hC0 : ∀ w1 w2, C w1 → Fr none_ w1 w2 → C w2 := fun w1 w2 h1 h2 => hC w1 w2 h1 (h2.mono fun _ _ e => e.elim)
  have hlc : l.length ≤ c := by
    obtain ⟨a', c', e, hc⟩ := hv.rd.cap
    simp only [Value.slice.injEq, List.length_map] at e hc
    omega
  simp only [push_cast, Nat.reduceAdd, Nat.reduceLeDiff, Nat.reduceLT, Int.reduceToNat, Nat.left_eq_add, Nat.add_eq_left, Nat.add_left_cancel_iff, Nat.reduceEqDiff, Nat.add_assoc, Nat.succ_ne_zero]
  refine index_spec hC0 hcall hv.rd hlo hw hn (fun hall w1 hF1 => ?_) fun i0 hi0 hno hyes w1 hF1 => ?_
  · simp only [push_cast, Nat.reduceAdd, Nat.reduceLeDiff, Nat.reduceLT, Int.reduceToNat, Nat.left_eq_add, Nat.add_eq_left, Nat.add_left_cancel_iff, Nat.reduceEqDiff, Nat.add_assoc, Nat.succ_ne_zero]
    have : l.filter (fun e => !D e) = l := List.filter_eq_self.2 fun e he => by rw [hall e he]; rfl
    rw [this] at h
    refine br_intro (fun _ => h _ (hv.fr hF1 fun _ _ h => h) (hF1.mono fun _ _ e => e.elim)) fun e => ?_
    simp at e
  simp only [push_cast, Nat.reduceAdd, Nat.reduceLeDiff, Nat.reduceLT, Int.reduceToNat, Nat.left_eq_add, Nat.add_eq_left, Nat.add_left_cancel_iff, Nat.reduceEqDiff, Nat.add_assoc, Nat.succ_ne_zero]
  refine br_intro (fun e => by simp at e) fun _ => ?_
  rw [wrap_i64 (by omega)]
  have hF1' : Fr (fun x => x = b) w w1 := hF1.mono fun _ _ e => e.elim
  refine jn1 (fun x w' => ∃ (cur : List Ent), x = i64 (l.filter fun e => !D e).length ∧ cur.length = l.length ∧ cur.take (l.filter fun e => !D e).length = l.filter (fun e => !D e) ∧ OwnE 40 10 w' (.slice (some ⟨b, o, none⟩) l.length c) (cur.map Ent.cells) ∧ Fr (fun x => x = b) w w') ?_ fun j hj => ?_
  · rintro x w2 ⟨cur, rfl, hcl, htk, ho, hF2⟩
    have hfl : (l.filter fun e => !D e).length ≤ l.length := List.length_filter_le _ _
    have hml : (cur.map Ent.cells).length = l.length := by rw [List.length_map]; exact hcl
    rw [← hml] at ho
    rw [← hml]
    refine s_slcClear (z := .agg zE.cells.toArray) (Ent.cells_length _) (Ent.cells_one _) ho (by omega) fun w3 ho3 hF3 => ?_
    rw [opS_slcHo (by omega)]
    rw [← List.map_take, htk] at ho3
    exact h w3 ho3 (hF2.trans hF3)
  refine loop2 (fun q x y w' => ∃ (i j : Nat) (cur : List Ent), x = i64 i ∧ y = i64 j ∧ q + j = l.length ∧ i ≤ j ∧ cur.length = l.length ∧ cur.take i = (l.take j).filter (fun e => !D e) ∧ cur.drop j = l.drop j ∧ OwnE 40 10 w' (.slice (some ⟨b, o, none⟩) l.length c) (cur.map Ent.cells) ∧ (∀ e ∈ cur, Fine e) ∧ C w' ∧ Fr (fun x => x = b) w w') ?_ (l.length - (i0 + 1))
    ⟨i0, i0 + 1, l, rfl, by simp, by omega, by omega, rfl, ?_, rfl, hv.fr hF1 fun _ _ h => h, hlo, hC0 _ _ hw hF1, hF1'⟩
  case refine_2 =>
    rw [List.take_succ_eq_append_getElem hi0, List.filter_append]
    have e1 : (l.take i0).filter (fun e => !D e) = l.take i0 := List.filter_eq_self.2 fun e he => by
      obtain ⟨k, hk, rfl⟩ := List.getElem_of_mem he
      rw [List.length_take] at hk
      rw [List.getElem_take, hno k (by omega) (by omega)]; rfl
    rw [e1]
    simp [hyes]
  rintro q x y w2 X ⟨i, j', cur, rfl, rfl, hq, hij, hcl, htk, hdr, ho, hco, hw2, hF2⟩ hX
  simp only [push_cast, Nat.reduceAdd, Nat.reduceLeDiff, Nat.reduceLT, Int.reduceToNat, Nat.left_eq_add, Nat.add_eq_left, Nat.add_left_cancel_iff, Nat.reduceEqDiff, Nat.add_assoc, Nat.succ_ne_zero]
  refine br_dec (fun hlt => ?_) fun hge => ?_
  case refine_2 =>
    have : j' = l.length := by omega
    subst this
    rw [List.take_length] at htk
    have hli := congrArg List.length htk
    rw [List.length_take, Nat.min_eq_left (by omega)] at hli
    rw [hli] at htk ⊢
    exact hj _ _ ⟨cur, rfl, hcl, htk, ho, hF2⟩
  have hjl : j' < l.length := by omega
  have hcj : cur[j']'(by omega) = l[j'] := by
    have := congrArg (fun q => q[0]?) hdr
    simp only [List.getElem?_drop, Nat.add_zero] at this
    rw [List.getElem?_eq_getElem (by omega), List.getElem?_eq_getElem hjl] at this
    exact Option.some.inj this
  refine s_getE ho.rd (by omega) ?_
  rw [hcj]
  have hok := hlo _ (List.getElem_mem hjl)
  have hlt2 := ho.lt (b := b) rfl
  refine ent_slot fun _ w3 hw3 hF3 => ?_
  have hsl : w2.heap.size ≠ b := by omega
  generalize w2.heap.size = sl at *
  simp only [push_cast, Nat.reduceAdd, Nat.reduceLeDiff, Nat.reduceLT, Int.reduceToNat, Nat.left_eq_add, Nat.add_eq_left, Nat.add_left_cancel_iff, Nat.reduceEqDiff, Nat.add_assoc, Nat.succ_ne_zero, hw3]
  refine hcall _ _ _ hok (hC0 _ _ hw2 hF3) fun w4 hF4 => ?_
  have hF34 := hF3.trans hF4
  have hw4 := hF4.heap hw3 fun h => h
  have ho4 := ho.fr hF34 fun _ _ h => h
  have hw4C := hC0 _ _ hw2 hF34
  have hF24 : Fr (fun x => x = b) w w4 := hF2.trans_new hF34 fun _ _ e => e.elim
  simp only [push_cast, Nat.reduceAdd, Nat.reduceLeDiff, Nat.reduceLT, Int.reduceToNat, Nat.left_eq_add, Nat.add_eq_left, Nat.add_left_cancel_iff, Nat.reduceEqDiff, Nat.add_assoc, Nat.succ_ne_zero]
  refine br_intro (fun hd => ?_) fun hd => ?_
  · simp only [push_cast, Nat.reduceAdd, Nat.reduceLeDiff, Nat.reduceLT, Int.reduceToNat, Nat.left_eq_add, Nat.add_eq_left, Nat.add_left_cancel_iff, Nat.reduceEqDiff, Nat.add_assoc, Nat.succ_ne_zero, hw4]
    refine s_putE ho4 hcl (show i < l.length by omega) fun w5 ho5 hF5 => ?_
    simp only [push_cast, Nat.reduceAdd, Nat.reduceLeDiff, Nat.reduceLT, Int.reduceToNat, Nat.left_eq_add, Nat.add_eq_left, Nat.add_left_cancel_iff, Nat.reduceEqDiff, Nat.add_assoc, Nat.succ_ne_zero]
    rw [wrap_i64 (by omega), wrap_i64 (by omega)]
    refine hX (q - 1) _ _ _ (by omega) ⟨i + 1, j' + 1, cur.set i l[j'], by simp, by simp, by omega, by omega, by rw [List.length_set]; exact hcl, ?_, ?_, ho5, fun e he => ?_, hC _ _ hw4C hF5, hF24.trans hF5⟩
    · rw [List.take_succ_eq_append_getElem hjl, List.filter_append, ← htk, List.take_succ_eq_append_getElem (by rw [List.length_set]; omega), List.take_set_of_le (Nat.le_refl _), List.getElem_set_self]
      simp [hd]
    · rw [List.drop_set_of_lt (by omega), ← List.drop_drop, hdr, List.drop_drop]
    · rcases List.mem_or_eq_of_mem_set he with h1 | h1
      · exact hco e h1
      · rw [h1]; exact hok
  · rw [wrap_i64 (by omega)]
    refine hX (q - 1) _ _ _ (by omega) ⟨i, j' + 1, cur, by simp, by simp, by omega, by omega, hcl, ?_, ?_, ho4, hco, hw4C, hF24⟩
    · rw [List.take_succ_eq_append_getElem hjl, List.filter_append, ← htk]
      simp at hd
      simp [hd]
    · rw [← List.drop_drop, hdr, List.drop_drop]

end Go.Gx.S

namespace Go.Gx.S
open Go Go.Gx Go.Proofs
variable {K : Value → World → Prop} {w : World}

abbrev OkE := { e : Ent // e.ok }
instance : Inhabited OkE := ⟨⟨zE, zE_ok⟩⟩
theorem attach_ok {es : List Ent} (h : ∀ e ∈ es, e.ok) : ∃ zs : List OkE, zs.map Subtype.val = es := by
  induction es with
  | nil => exact ⟨[], rfl⟩
  | cons e es ih =>
    obtain ⟨zs, hz⟩ := ih fun x hx => h x (List.mem_cons_of_mem _ hx)
    exact ⟨⟨e, h e (List.mem_cons_self ..)⟩ :: zs, by rw [List.map_cons, hz]⟩
theorem sortE_spec {v : Value} {es : List Ent} (hv : OwnE 40 10 w v (es.map Ent.cells)) (hok : ∀ e ∈ es, e.ok) (hl : es.length < 2 ^ 60)
    (h : ∀ (ys : List Ent) w', ys.Perm es → ys.Pairwise (fun x y => ¬ cmpE y x < 0) → OwnE 40 10 w' v (ys.map Ent.cells) → Fr (fun b => blkS v = some b) w w' → K (.tuple #[]) w') :
    CallsR Tryz.prog 44 #[v, .func (.func 45) #[] #[]] K w := by
  obtain ⟨zs, rfl⟩ := attach_ok hok
  rw [List.length_map] at hl
  have hv' : OwnE 40 10 w v (zs.map fun z : OkE => z.1.cells) := by rw [List.map_map] at hv; exact hv
  refine sortK_spec (α := OkE) (enc := fun z => z.1.cells) Tryz.sortE (by decide) (fun z => Ent.cells_length z.1) (fun z v hv => ?_) Tryz.isAgg40 Tryz.sizeOf40 (fun x y => cmpE x.1 y.1) swoE 45 #[] (fun args w => enters_of Tryz.func45 (by kernel_rfl) rfl args w) (fun x y W => ?_) hv' hl fun ys w' hp hs ho hF => ?_
  · simp only [Ent.cells, List.mem_cons, List.not_mem_nil, or_false] at hv
    rcases hv with rfl | rfl | rfl | rfl | rfl | rfl | rfl | rfl | rfl | rfl <;> rfl
  · exact ecmp_spec x.2 y.2 fun w' hG => ⟨rfl, hG⟩
  · refine h (ys.map Subtype.val) w' (hp.map _) ?_ (by rw [List.map_map]; exact ho) hF
    rw [List.pairwise_map]
    exact hs

theorem srt_out {r ys : List Ent} (h : Srt r) (hp : ys.Perm r) (hs : ys.Pairwise fun x y => ¬ cmpE y x < 0) : ys = r := by
  have hnr : r.Nodup := List.Pairwise.imp (fun {a b} (hab : ltE a b) (e : a = b) => ltE_irr b (e ▸ hab)) h.1
  have hnd : ys.Nodup := hp.nodup_iff.2 hnr
  have hm : ∀ e, e ∈ ys ↔ e ∈ r := fun e => hp.mem_iff
  refine Srt.eq ⟨?_, fun e he => h.2 e ((hm e).1 he)⟩ h hm
  rw [List.pairwise_iff_getElem] at hs ⊢
  intro i j hi hj hij
  have h1 := hs i j hi hj hij
  rw [cmpE_lt] at h1
  have hne : ys[i] ≠ ys[j] := List.pairwise_iff_getElem.1 hnd i j hi hj hij
  have hmi := (hm _).1 (List.getElem_mem hi)
  have hmj := (hm _).1 (List.getElem_mem hj)
  have hk : eKey ys[i] ≠ eKey ys[j] := fun e => hne (h.key hmi hmj e)
  exact (ltE_total (h.2 _ hmi) (h.2 _ hmj) hk).resolve_right h1

theorem ents_one (l : List Ent) : (l.map Ent.cells).flatten.all S.oneCell = true := by
  rw [List.all_eq_true]
  intro v hv
  obtain ⟨e, he, hv⟩ := List.mem_flatten.1 hv
  obtain ⟨y, _, rfl⟩ := List.mem_map.1 he
  exact List.all_eq_true.1 (Ent.cells_one y) v hv

theorem clone_spec {b o n c : Nat} {l : List Ent} (hv : RdE 10 w (.slice (some ⟨b, o, none⟩) n c) (l.map Ent.cells)) (hn : 0 < l.length) (hl : l.length ≤ 2 ^ 20)
    (h : ∀ w' b' o' c', OwnE 40 10 w' (.slice (some ⟨b', o', none⟩) l.length c') (l.map Ent.cells) → Fr none_ w w' → w.heap.size ≤ b' → K (.slice (some ⟨b', o', none⟩) l.length c') w') :
    CallsR Tryz.prog 43 #[.slice (some ⟨b, o, none⟩) n c] K w := by
  apply c43
  unfold p43
  show opS Tryz.prog (S.binN .eql (some false)) _ w
  simp only [push_cast, Nat.reduceAdd, Nat.reduceLeDiff, Nat.reduceLT, Int.reduceToNat, Nat.left_eq_add, Nat.add_eq_left, Nat.add_left_cancel_iff, Nat.reduceEqDiff, Nat.add_assoc, Nat.succ_ne_zero]
  refine s_bs0 (sz := 10) fun v3 w3 ho3 hF3 hN3 => ?_
  refine s_app (sz := 10) (by_ := 40) (z := .agg zE.cells.toArray) rfl (by decide) ho3 (hv.fr hF3 fun _ _ h => h) (ents_one _) (by simp; omega) fun v5 w5 ho5 hb5 hF5 => ?_
  rw [List.nil_append] at ho5
  have hN5 : New w v5 := fun b hb => by
    rcases hb5 with hb5 | hb5
    · exact hN3 b (hb5 ▸ hb)
    · have := hb5 b hb; have := hF3.size; omega
  obtain ⟨b', o', c', rfl⟩ := ho5.form' (by rw [List.length_map]; exact hn)
  rw [List.length_map] at ho5 hN5 ⊢
  exact h w5 b' o' c' ho5 (hF3.trans_new hF5 fun b hb e => by have := hN3 _ e; omega) (hN5 b' rfl)

theorem all1_spec {e : Ent} (he : e.ok) (h : ∀ w', Fr none_ w w' → K (.bool (decide (e = zE))) w') : CallsR Tryz.prog 41 #[.agg e.cells.toArray] K w := by
  apply c41
  unfold p41
  simp only [push_cast, Nat.reduceAdd, Nat.reduceLeDiff, Nat.reduceLT, Int.reduceToNat, Nat.left_eq_add, Nat.add_eq_left, Nat.add_left_cancel_iff, Nat.reduceEqDiff, Nat.add_assoc, Nat.succ_ne_zero]
  rw [build_zE]
  refine s_eqG (EntT.enc (d := 5) he) (EntT.enc (d := 5) zE_ok) fun q hq => ?_
  rw [Ent.lits_inj] at hq
  have : q = decide (e = zE) := by
    cases q
    · exact (decide_eq_false fun e => by have := hq.2 e; cases this).symm
    · exact (decide_eq_true (hq.1 rfl)).symm
  rw [this]
  exact h _ (by repeat' first | with_reducible exact Fr.refl _ _ | with_reducible refine Fr.step_alloc ?_ ?_ | with_reducible refine Fr.step_drew ?_ | with_reducible refine Fr.step_wr ?_ ?_ _ _ | exact rfl | exact Or.inr (by omega) | exact Or.inl rfl | exact Or.inl (Or.inl rfl) | exact Or.inl (Or.inr rfl))

theorem all_spec {p pb o c room : Nat} {ps r : List Ent} (ht : FT w p pb o c room ps r) (h : ∀ w' b' o' c', OwnE 40 10 w' (.slice (some ⟨b', o', none⟩) r.length c') (r.map Ent.cells) → Fr none_ w w' → w.heap.size ≤ b' → K (.slice (some ⟨b', o', none⟩) r.length c') w') :
    CallsR Tryz.prog 19 #[pt p 0] K w := by
  apply c19
  unfold p19
  have hlo := ht.lo
  have hhi := ht.hi
  have hln := ht.len
  simp only [push_cast, Nat.reduceAdd, Nat.reduceLeDiff, Nat.reduceLT, Int.reduceToNat, Nat.left_eq_add, Nat.add_eq_left, Nat.add_left_cancel_iff, Nat.reduceEqDiff, Nat.add_assoc, Nat.succ_ne_zero, ht.fb.blk]
  refine clone_spec ht.fb.rd (by omega) (by omega) fun w1 b1 o1 c1 ho1 hF1 hb1 => ?_
  simp only [push_cast, Nat.reduceAdd, Nat.reduceLeDiff, Nat.reduceLT, Int.reduceToNat, Nat.left_eq_add, Nat.add_eq_left, Nat.add_left_cancel_iff, Nat.reduceEqDiff, Nat.add_assoc, Nat.succ_ne_zero]
  have hfine : ∀ e ∈ ps, Fine e := fun e he => by
    refine ⟨ht.fb.ok e he, ?_⟩
    by_cases hz : e = zE
    · rw [hz]; rfl
    · obtain ⟨i, hi, rfl⟩ := List.getElem_of_mem he
      exact (ht.rng _ ((ht.ct.mem _).2 ⟨hz, i, hi, pAt_eq hi⟩)).2.1
  refine delete_spec (D := fun e => decide (e = zE)) (C := fun _ => True) (fun _ _ _ _ => trivial) (fun e w1 K he _ hk => ?_) ho1 hfine trivial (by omega) fun w2 ho2 hF2 => ?_
  · simp only [push_cast, Nat.reduceAdd, Nat.reduceLeDiff, Nat.reduceLT, Int.reduceToNat, Nat.left_eq_add, Nat.add_eq_left, Nat.add_left_cancel_iff, Nat.reduceEqDiff, Nat.add_assoc, Nat.succ_ne_zero]
    exact all1_spec he.1 hk
  have hfe : (ps.filter fun e => !decide (e = zE)) = ps.filter fun e => decide (e ≠ zE) := List.filter_congr fun e _ => by simp
  have hp := ht.ct.perm
  rw [← hfe] at hp
  have hpl := hp.length_eq
  refine sortE_spec ho2 (fun e he => (hfine e (List.mem_filter.1 he).1).1) (by have := ht.cap; omega) fun ys w3 hys hs ho3 hF3 => ?_
  have hyr := srt_out ht.ct.srt (hys.trans hp) hs
  rw [hyr, hpl] at ho3
  rw [hpl]
  refine h w3 b1 o1 c1 ho3 ?_ hb1
  have hF3' : Fr (fun x => x = b1) w2 w3 := hF3.mono fun x _ e => by simpa [blkS] using e.symm
  exact (hF1.trans_new hF2 fun b hb e => by omega).trans_new hF3' fun b hb e => by omega

/-! ### What is forgotten -/

instance : Sz Tryz.prog 93 1 false := ⟨Tryz.sizeOf93, Tryz.isAgg93⟩

theorem forget1_spec {A : Ent → Bool} {C : World → Prop} {fv : Value} {xb : Nat} (hcall : Tells C A fv) (hC : ∀ w1 w2, C w1 → Fr none_ w1 w2 → C w2) {e : Ent} (he : Fine e) (hw : C w) (hx : w.heap[xb]? = some (cellsO [fv] 93))
    (h : ∀ w', Fr none_ w w' → K (.bool (e.static || !A e)) w') : CallsR Tryz.prog 118 #[.agg e.cells.toArray, pt xb 0] K w := by
  apply c118
  unfold p118
  simp only [opS_box, cells_agg, alloc_cellsO]
  have hF : Fr none_ w (w.alloc (cellsO e.cells 40)) := (by repeat' first | with_reducible exact Fr.refl _ _ | with_reducible refine Fr.step_alloc ?_ ?_ | with_reducible refine Fr.step_drew ?_ | with_reducible refine Fr.step_wr ?_ ?_ _ _ | exact rfl | exact Or.inr (by omega) | exact Or.inl rfl | exact Or.inl (Or.inl rfl) | exact Or.inl (Or.inr rfl))
  have hx0 : (w.alloc (cellsO e.cells 40)).heap[w.heap.size]? = some (cellsO e.cells 40) := by simp only [push_cast, Nat.reduceAdd, Nat.reduceLeDiff, Nat.reduceLT, Int.reduceToNat, Nat.left_eq_add, Nat.add_eq_left, Nat.add_left_cancel_iff, Nat.reduceEqDiff, Nat.add_assoc, Nat.succ_ne_zero]
  replace hx := hF.heap hx fun h => h
  replace hw := hC _ _ hw hF
  generalize w.alloc (cellsO e.cells 40) = W at *
  simp only [push_cast, Nat.reduceAdd, Nat.reduceLeDiff, Nat.reduceLT, Int.reduceToNat, Nat.left_eq_add, Nat.add_eq_left, Nat.add_left_cancel_iff, Nat.reduceEqDiff, Nat.add_assoc, Nat.succ_ne_zero, hx0, hx]
  refine br_intro (fun hs => ?_) fun hs => ?_
  · rw [hs, Bool.true_or] at h
    exact h _ hF
  rw [hs, Bool.false_or] at h
  refine hcall e _ _ he hw fun w2 hF2 => ?_
  simp only [push_cast, Nat.reduceAdd, Nat.reduceLeDiff, Nat.reduceLT, Int.reduceToNat, Nat.left_eq_add, Nat.add_eq_left, Nat.add_left_cancel_iff, Nat.reduceEqDiff, Nat.add_assoc, Nat.succ_ne_zero]
  exact h _ (hF.trans hF2)

def remAll (r g : List Ent) : List Ent := g.foldl (fun r e => withoutL r e) r
theorem remAll_mem {e : Ent} : ∀ (g r : List Ent), e ∈ remAll r g ↔ e ∈ r ∧ ∀ x ∈ g, eKey e ≠ eKey x
  | [], r => by simp [remAll]
  | x :: g, r => by
    have := remAll_mem (e := e) g (withoutL r x)
    unfold remAll at this ⊢
    rw [List.foldl_cons, this, mem_without]
    simp only [List.mem_cons, forall_eq_or_imp]
    exact ⟨fun ⟨⟨h1, h2⟩, h3⟩ => ⟨h1, h2, h3⟩, fun ⟨h1, h2, h3⟩ => ⟨⟨h1, h2⟩, h3⟩⟩
theorem remAll_srt : ∀ (g : List Ent) {r : List Ent}, Srt r → Srt (remAll r g)
  | [], _, h => h
  | x :: g, r, h => remAll_srt g (h.without x)
theorem remAll_filter {r : List Ent} (h : Srt r) (P : Ent → Bool) : remAll r (r.filter P) = r.filter fun e => !P e := by
  refine (remAll_srt _ h).eq ⟨h.1.filter _, fun e he => h.2 e (List.mem_filter.1 he).1⟩ fun e => ?_
  rw [remAll_mem, List.mem_filter]
  constructor
  · rintro ⟨h1, h2⟩
    refine ⟨h1, ?_⟩
    cases hp : P e with
    | false => rfl
    | true => exact absurd rfl (h2 e (List.mem_filter.2 ⟨h1, hp⟩))
  · rintro ⟨h1, h2⟩
    refine ⟨h1, fun x hx hk => ?_⟩
    obtain ⟨h3, h4⟩ := List.mem_filter.1 hx
    have := h.key h1 h3 hk
    rw [this, h4] at h2
    cases h2
theorem remove_eq {r : List Ent} (h : Srt r) (e : Ent) : (removeL r (eKey e)).1 = withoutL r e := by
  unfold removeL
  cases ha : atK r (eKey e) with
  | some x => exact without_key (atK_mem ha).2
  | none => exact (without_none (atK_no ha)).symm

theorem and_or (a b : Bool) : (!(b || !a)) = (a && !b) := by cases a <;> cases b <;> rfl
theorem rd_nil (w : World) : RdE 10 w (.slice none 0 0) (([] : List Ent).map Ent.cells) := (own_nil 40 10 w).rd

theorem forget_spec {A : Ent → Bool} {C : World → Prop} {fv : Value} {p pb o c room : Nat} {ps r : List Ent} (ht : FT w p pb o c room ps r) (hcall : Tells C A fv) (hC : ∀ w1 w2 b, w.heap.size ≤ b → C w1 → Fr (fun x => x = b) w1 w2 → C w2) (hw : C w) (hfv : ∃ fn a b, fv = .func fn a b)
    (h : ∀ w' ps' v, FT w' p pb o c room ps' (r.filter fun e => !(A e && !e.static)) → RdE 10 w' v ((r.filter fun e => A e && !e.static).map Ent.cells) → (∀ b, blkS v = some b → b ≠ p ∧ b ≠ pb ∧ w.heap.size ≤ b) → Fr (pp p pb) w w' → K v w') :
    CallsR Tryz.prog 90 #[pt p 0, fv] K w := by
  apply c90
  unfold p90
  obtain ⟨fn, fa, fb, rfl⟩ := hfv
  have hC0 : ∀ w1 w2, C w1 → Fr none_ w1 w2 → C w2 := fun w1 w2 h1 h2 => hC w1 w2 _ (Nat.le_refl _) h1 (h2.mono fun _ _ e => e.elim)
  have hF : Fr none_ w (w.alloc (cellsO [.func fn fa fb] 93)) := (by repeat' first | with_reducible exact Fr.refl _ _ | with_reducible refine Fr.step_alloc ?_ ?_ | with_reducible refine Fr.step_drew ?_ | with_reducible refine Fr.step_wr ?_ ?_ _ _ | exact rfl | exact Or.inr (by omega) | exact Or.inl rfl | exact Or.inl (Or.inl rfl) | exact Or.inl (Or.inr rfl))
  have hx0 : (w.alloc (cellsO [.func fn fa fb] 93)).heap[w.heap.size]? = some (cellsO [.func fn fa fb] 93) := by simp only [push_cast, Nat.reduceAdd, Nat.reduceLeDiff, Nat.reduceLT, Int.reduceToNat, Nat.left_eq_add, Nat.add_eq_left, Nat.add_left_cancel_iff, Nat.reduceEqDiff, Nat.add_assoc, Nat.succ_ne_zero]
  have hlt := ht.fb.lt
  simp only [push_cast, Nat.reduceAdd, Nat.reduceLeDiff, Nat.reduceLT, Int.reduceToNat, Nat.left_eq_add, Nat.add_eq_left, Nat.add_left_cancel_iff, Nat.reduceEqDiff, Nat.add_assoc, Nat.succ_ne_zero]
  have ht1 := ht.fr0 hF
  have hw1 := hC0 _ _ hw hF
  have hxl := lt_of_heap hx0
  have hcap := ht.cap
  have hhi := ht.hi
  generalize w.alloc (cellsO [.func fn fa fb] 93) = W at *
  refine all_spec ht1 fun w2 b2 o2 c2 ho2 hF2 hb2 => ?_
  simp only [push_cast, Nat.reduceAdd, Nat.reduceLeDiff, Nat.reduceLT, Int.reduceToNat, Nat.left_eq_add, Nat.add_eq_left, Nat.add_left_cancel_iff, Nat.reduceEqDiff, Nat.add_assoc, Nat.succ_ne_zero]
  have hfine : ∀ e ∈ r, Fine e := fun e he => ⟨ht.ct.srt.2 e he, (ht.rng e he).2.1⟩
  refine delete_spec (D := fun e => e.static || !A e) (C := fun w' => C w' ∧ w'.heap[w.heap.size]? = some (cellsO [.func fn fa fb] 93)) (fun w1 w2 h1 hFF => ⟨hC _ _ b2 (by omega) h1.1 hFF, hFF.heap h1.2 (by omega)⟩) (fun e w1 K he hc hk => ?_) ho2 hfine ⟨hC0 _ _ hw1 hF2, hF2.heap hx0 fun h => h⟩ (by omega) fun w3 ho3 hF3 => ?_
  · simp only [push_cast, Nat.reduceAdd, Nat.reduceLeDiff, Nat.reduceLT, Int.reduceToNat, Nat.left_eq_add, Nat.add_eq_left, Nat.add_left_cancel_iff, Nat.reduceEqDiff, Nat.add_assoc, Nat.succ_ne_zero]
    exact forget1_spec hcall hC0 he hc.1 hc.2 hk
  have hfe : (r.filter fun e => !(e.static || !A e)) = r.filter fun e => A e && !e.static := List.filter_congr fun e _ => and_or _ _
  rw [hfe] at ho3 ⊢
  have hgok : ∀ e ∈ r.filter (fun e => A e && !e.static), e.ok := fun e he => ht.ct.srt.2 e (List.mem_filter.1 he).1
  have hgl : (r.filter fun e => A e && !e.static).length ≤ r.length := List.length_filter_le _ _
  have hrem := remAll_filter ht.ct.srt fun e => A e && !e.static
  rw [← hrem] at h
  have hF13 := hF2.trans_new (w := W) hF3 fun b hb e => by omega
  have hF03 : Fr none_ w w3 := (hF.trans hF2).trans_new hF3 fun b hb e => by omega
  have ht3 := ht.fr0 hF03
  generalize r.filter (fun e => A e && !e.static) = g at *
  simp only [push_cast, Nat.reduceAdd, Nat.reduceLeDiff, Nat.reduceLT, Int.reduceToNat, Nat.left_eq_add, Nat.add_eq_left, Nat.add_left_cancel_iff, Nat.reduceEqDiff, Nat.add_assoc, Nat.succ_ne_zero]
  have hv := ho3.rd
  refine jn0 (fun w' => ∃ ps', FT w' p pb o c room ps' (remAll r g) ∧ RdE 10 w' (.slice (some ⟨b2, o2, none⟩) g.length c2) (g.map Ent.cells) ∧ Fr (pp p pb) w w') ?_ fun j hj => ?_
  · rintro w4 ⟨ps', ht4, hv4, hF4⟩
    exact h w4 ps' _ ht4 hv4 (fun b hb => by simp only [blkS, Option.some.injEq] at hb; omega) hF4
  refine loop1 (fun n y w' => ∃ (i : Nat) (ps' : List Ent), y = i64 i ∧ n + i = g.length ∧ FT w' p pb o c room ps' (remAll r (g.take i)) ∧ RdE 10 w' (.slice (some ⟨b2, o2, none⟩) g.length c2) (g.map Ent.cells) ∧ Fr (pp p pb) w w') ?_ g.length ⟨0, ps, rfl, rfl, ht3, hv, hF03.mono fun _ _ e => e.elim⟩
  rintro n y w4 X ⟨i, ps4, rfl, hi, ht4, hv4, hF4⟩ hX
  simp only [push_cast, Nat.reduceAdd, Nat.reduceLeDiff, Nat.reduceLT, Int.reduceToNat, Nat.left_eq_add, Nat.add_eq_left, Nat.add_left_cancel_iff, Nat.reduceEqDiff, Nat.add_assoc, Nat.succ_ne_zero]
  refine br_dec (fun hlt => ?_) fun hge => ?_
  case refine_2 =>
    have : i = g.length := by omega
    subst this
    rw [List.take_length] at ht4
    exact hj _ ⟨ps4, ht4, hv4, hF4⟩
  have hil : i < g.length := by omega
  refine s_getE hv4 hil ?_
  have hok := hgok _ (List.getElem_mem hil)
  refine ent_slot fun _ w5 hw5 hF5 => ?_
  simp only [push_cast, Nat.reduceAdd, Nat.reduceLeDiff, Nat.reduceLT, Int.reduceToNat, Nat.left_eq_add, Nat.add_eq_left, Nat.add_left_cancel_iff, Nat.reduceEqDiff, Nat.add_assoc, Nat.succ_ne_zero, hw5]
  refine remove_spec (v := g[i].vlan) (m := g[i].mac) (ht4.fr0 hF5) hok.1 hok.2.1 fun w6 ps6 ht6 hF6 => ?_
  simp only [push_cast, Nat.reduceAdd, Nat.reduceLeDiff, Nat.reduceLT, Int.reduceToNat, Nat.left_eq_add, Nat.add_eq_left, Nat.add_left_cancel_iff, Nat.reduceEqDiff, Nat.add_assoc, Nat.succ_ne_zero]
  rw [wrap_i64 (by omega)]
  have hre : (removeL (remAll r (g.take i)) (g[i].vlan, g[i].mac)).1 = remAll r (g.take (i + 1)) := by
    have h1 := remove_eq ht4.ct.srt g[i]
    unfold eKey at h1
    rw [h1, List.take_succ_eq_append_getElem hil]
    unfold remAll
    rw [List.foldl_append]
    rfl
  rw [hre] at ht6
  have hbne : ∀ b, blkS (Value.slice (some ⟨b2, o2, none⟩) g.length c2) = some b → ¬ pp p pb b := fun b hb e => by
    simp only [blkS, Option.some.injEq] at hb
    unfold pp at e
    omega
  exact hX (n - 1) _ _ (by omega) ⟨i + 1, ps6, by simp, by omega, ht6, (hv4.fr hF5 fun _ _ h => h).fr hF6 hbne, (hF4.trans_new hF5 fun _ _ e => e.elim).trans hF6⟩

def ageA (now lim : Int) (e : Ent) : Bool := decide (lim ≤ now - e.at_)
theorem timedB_iff {t : Int} : timedB t = true ↔ 0 ≤ t ∧ t ≤ 1099511627776 := by unfold timedB; simp

theorem age_spec {p pb o c room : Nat} {ps r : List Ent} {now lim : Int} (ht : FT w p pb o c room ps r)
    (h0 : (timedB now && timedB lim) = false → ∀ w', Fr none_ w w' → K (.slice none 0 0) w')
    (h : (timedB now && timedB lim) = true → ∀ w' ps' v, FT w' p pb o c room ps' (r.filter fun e => !(ageA now lim e && !e.static)) → RdE 10 w' v ((r.filter fun e => ageA now lim e && !e.static).map Ent.cells) → (∀ b, blkS v = some b → b ≠ p ∧ b ≠ pb ∧ w.heap.size ≤ b) → Fr (pp p pb) w w' → K v w') :
    CallsR Tryz.prog 62 #[pt p 0, i64 now, i64 lim] K w := by
  apply c62
  unfold p62
  have hF : Fr none_ w ((w.alloc (cellsO [i64 now] 3)).alloc (cellsO [i64 lim] 3)) := (by repeat' first | with_reducible exact Fr.refl _ _ | with_reducible refine Fr.step_alloc ?_ ?_ | with_reducible refine Fr.step_drew ?_ | with_reducible refine Fr.step_wr ?_ ?_ _ _ | exact rfl | exact Or.inr (by omega) | exact Or.inl rfl | exact Or.inl (Or.inl rfl) | exact Or.inl (Or.inr rfl))
  have hn0 : ((w.alloc (cellsO [i64 now] 3)).alloc (cellsO [i64 lim] 3)).heap[w.heap.size]? = some (cellsO [i64 now] 3) := by simp only [push_cast, Nat.reduceAdd, Nat.reduceLeDiff, Nat.reduceLT, Int.reduceToNat, Nat.left_eq_add, Nat.add_eq_left, Nat.add_left_cancel_iff, Nat.reduceEqDiff, Nat.add_assoc, Nat.succ_ne_zero]
  have hl0 : ((w.alloc (cellsO [i64 now] 3)).alloc (cellsO [i64 lim] 3)).heap[w.heap.size + 1]? = some (cellsO [i64 lim] 3) := by simp only [push_cast, Nat.reduceAdd, Nat.reduceLeDiff, Nat.reduceLT, Int.reduceToNat, Nat.left_eq_add, Nat.add_eq_left, Nat.add_left_cancel_iff, Nat.reduceEqDiff, Nat.add_assoc, Nat.succ_ne_zero]
  simp only [push_cast, Nat.reduceAdd, Nat.reduceLeDiff, Nat.reduceLT, Int.reduceToNat, Nat.left_eq_add, Nat.add_eq_left, Nat.add_left_cancel_iff, Nat.reduceEqDiff, Nat.add_assoc, Nat.succ_ne_zero]
  have hlt := ht.fb.lt
  replace ht := ht.fr0 hF
  have hls := lt_of_heap hl0
  generalize (w.alloc (cellsO [i64 now] 3)).alloc (cellsO [i64 lim] 3) = W at *
  refine timed_spec ?_
  simp only [push_cast, Nat.reduceAdd, Nat.reduceLeDiff, Nat.reduceLT, Int.reduceToNat, Nat.left_eq_add, Nat.add_eq_left, Nat.add_left_cancel_iff, Nat.reduceEqDiff, Nat.add_assoc, Nat.succ_ne_zero]
  cases hn : timedB now with
  | false =>
    simp only [push_cast, Nat.reduceAdd, Nat.reduceLeDiff, Nat.reduceLT, Int.reduceToNat, Nat.left_eq_add, Nat.add_eq_left, Nat.add_left_cancel_iff, Nat.reduceEqDiff, Nat.add_assoc, Nat.succ_ne_zero, Bool.not_false]
    exact h0 (by rw [hn]; rfl) _ hF
  | true =>
  simp only [push_cast, Nat.reduceAdd, Nat.reduceLeDiff, Nat.reduceLT, Int.reduceToNat, Nat.left_eq_add, Nat.add_eq_left, Nat.add_left_cancel_iff, Nat.reduceEqDiff, Nat.add_assoc, Nat.succ_ne_zero, Bool.not_true, hl0]
  refine timed_spec ?_
  simp only [push_cast, Nat.reduceAdd, Nat.reduceLeDiff, Nat.reduceLT, Int.reduceToNat, Nat.left_eq_add, Nat.add_eq_left, Nat.add_left_cancel_iff, Nat.reduceEqDiff, Nat.add_assoc, Nat.succ_ne_zero]
  cases hl : timedB lim with
  | false =>
    simp only [push_cast, Nat.reduceAdd, Nat.reduceLeDiff, Nat.reduceLT, Int.reduceToNat, Nat.left_eq_add, Nat.add_eq_left, Nat.add_left_cancel_iff, Nat.reduceEqDiff, Nat.add_assoc, Nat.succ_ne_zero, Bool.not_false]
    exact h0 (by rw [hn, hl]; rfl) _ hF
  | true =>
  simp only [push_cast, Nat.reduceAdd, Nat.reduceLeDiff, Nat.reduceLT, Int.reduceToNat, Nat.left_eq_add, Nat.add_eq_left, Nat.add_left_cancel_iff, Nat.reduceEqDiff, Nat.add_assoc, Nat.succ_ne_zero, Bool.not_true]
  refine forget_spec (A := ageA now lim) (C := fun w' => w'.heap[w.heap.size]? = some (cellsO [i64 now] 3) ∧ w'.heap[w.heap.size + 1]? = some (cellsO [i64 lim] 3)) ht (fun e w1 K he hc hk => ?_) (fun w1 w2 b hb hc hFF => ⟨hFF.heap hc.1 (by omega), hFF.heap hc.2 (by omega)⟩) ⟨hn0, hl0⟩ ⟨_, _, _, rfl⟩ fun w2 ps2 v ht2 hv2 hb2 hF2 => ?_
  · simp only [push_cast, Nat.reduceAdd, Nat.reduceLeDiff, Nat.reduceLT, Int.reduceToNat, Nat.left_eq_add, Nat.add_eq_left, Nat.add_left_cancel_iff, Nat.reduceEqDiff, Nat.add_assoc, Nat.succ_ne_zero]
    show CallsR Tryz.prog 91 #[.agg e.cells.toArray, pt w.heap.size 0, pt (w.heap.size + 1) 0] K w1
    apply c91
    unfold p91
    have hlt1 := lt_of_heap hc.2
    have e1 : w.heap.size ≠ w1.heap.size := by omega
    have e2 : w.heap.size + 1 ≠ w1.heap.size := by omega
    simp only [push_cast, Nat.reduceAdd, Nat.reduceLeDiff, Nat.reduceLT, Int.reduceToNat, Nat.left_eq_add, Nat.add_eq_left, Nat.add_left_cancel_iff, Nat.reduceEqDiff, Nat.add_assoc, Nat.succ_ne_zero, hc.1, hc.2, e1, e2]
    have h1 := timedB_iff.1 hn
    have h2 := timedB_iff.1 he.2
    rw [wrap_i64 (by omega)]
    exact hk _ (by repeat' first | with_reducible exact Fr.refl _ _ | with_reducible refine Fr.step_alloc ?_ ?_ | with_reducible refine Fr.step_drew ?_ | with_reducible refine Fr.step_wr ?_ ?_ _ _ | exact rfl | exact Or.inr (by omega) | exact Or.inl rfl | exact Or.inl (Or.inl rfl) | exact Or.inl (Or.inr rfl))
  · refine h (by rw [hn, hl]; rfl) w2 ps2 v ht2 hv2 (fun b hb => ?_) (hF.mono (fun _ _ e => e.elim) |>.trans hF2)
    have := hb2 b hb
    omega

def portA (q : Int) (e : Ent) : Bool := e.port == q
theorem esame_spec {a b : Value} {l r : List Ent} (ha : RdE 10 w a (l.map Ent.cells)) (hb : RdE 10 w b (r.map Ent.cells)) (hlo : ∀ e ∈ l, e.ok) (hro : ∀ e ∈ r, e.ok) (hn : l.length < 2 ^ 62) (h : ∀ w', Fr none_ w w' → K (.bool (decide (l = r))) w') :
    CallsR Tryz.prog 20 #[a, b] K w := by
  apply c20
  unfold p20
  obtain ⟨aa, ac, rfl⟩ := ha.form
  obtain ⟨ba, bc, rfl⟩ := hb.form
  rw [List.length_map] at ha hb ⊢
  rw [List.length_map]
  simp only [push_cast, Nat.reduceAdd, Nat.reduceLeDiff, Nat.reduceLT, Int.reduceToNat, Nat.left_eq_add, Nat.add_eq_left, Nat.add_left_cancel_iff, Nat.reduceEqDiff, Nat.add_assoc, Nat.succ_ne_zero]
  refine br_intro (fun hne => ?_) fun heq => ?_
  · have : l ≠ r := fun e => by subst e; simp at hne
    rw [decide_eq_false this] at h
    exact h _ (Fr.refl _ _)
  · have hl : l.length = r.length := by
      have : (l.length : Int) = r.length := by simpa using heq
      omega
    refine jn0 (fun w' => Fr none_ w w' ∧ l = r) (fun w' ⟨hF, e⟩ => ?_) fun j hj => ?_
    · rw [decide_eq_true e] at h
      exact h _ hF
    refine loop1 (fun m v w' => ∃ i : Nat, v = i64 i ∧ i + m = l.length ∧ Fr none_ w w' ∧ l.take i = r.take i) ?_ l.length ⟨0, rfl, by omega, Fr.refl _ _, rfl⟩
    rintro m v w' X ⟨i, rfl, hi, hF, htk⟩ hX
    simp only [push_cast, Nat.reduceAdd, Nat.reduceLeDiff, Nat.reduceLT, Int.reduceToNat, Nat.left_eq_add, Nat.add_eq_left, Nat.add_left_cancel_iff, Nat.reduceEqDiff, Nat.add_assoc, Nat.succ_ne_zero]
    refine br_dec (fun hlt => ?_) fun hge => hj _ ⟨hF, ?_⟩
    · have hi2 : i < l.length := by omega
      have hi3 : i < r.length := by omega
      refine s_iaE (es := l.map Ent.cells) (ha.fr hF.step_drew (fun _ _ h => h)) (by omega) (by simpa using hi2) fun b1 o1 c1 _ hE => ?_
      simp only [Int.toNat_natCast, List.getElem_map] at hE ⊢
      rw [s_ldN (by decide), hE.agg0 (Ent.cells_length _), onS_some]
      refine s_iaE (es := r.map Ent.cells) (hb.fr hF.step_drew (fun _ _ h => h)) (by omega) (by simpa using hi3) fun b2 o2 c2 _ hE2 => ?_
      simp only [Int.toNat_natCast, List.getElem_map] at hE2 ⊢
      rw [s_ldN (by decide), hE2.agg0 (Ent.cells_length _), onS_some]
      refine s_neqG (EntT.enc (d := 5) (hlo _ (List.getElem_mem hi2))) (EntT.enc (d := 5) (hro _ (List.getElem_mem hi3))) fun q hq => ?_
      rw [Ent.lits_inj] at hq
      simp only [push_cast, Nat.reduceAdd, Nat.reduceLeDiff, Nat.reduceLT, Int.reduceToNat, Nat.left_eq_add, Nat.add_eq_left, Nat.add_left_cancel_iff, Nat.reduceEqDiff, Nat.add_assoc, Nat.succ_ne_zero]
      refine br_intro (fun hd => ?_) fun hd => ?_
      · have hne : l[i] ≠ r[i] := fun e => by rw [hq.2 e] at hd; cases hd
        have : l ≠ r := fun e => by subst e; exact hne rfl
        rw [decide_eq_false this] at h
        exact h _ hF.step_drew
      · have he : l[i] = r[i] := hq.1 (by simpa using hd)
        rw [wrap_i64 (by omega)]
        refine hX (m - 1) _ _ (by omega) ⟨i + 1, by simp, by omega, hF.step_drew, ?_⟩
        rw [List.take_add_one, List.take_add_one, htk, List.getElem?_eq_getElem hi2, List.getElem?_eq_getElem hi3, he]
    · rw [List.take_of_length_le (by omega), List.take_of_length_le (by omega)] at htk
      exact htk
theorem esame_yes {a b : Value} {l : List Ent} (ha : RdE 10 w a (l.map Ent.cells)) (hb : RdE 10 w b (l.map Ent.cells)) (hlo : ∀ e ∈ l, e.ok) (hn : l.length < 2 ^ 62) (h : ∀ w', Fr none_ w w' → K (.bool true) w') :
    CallsR Tryz.prog 20 #[a, b] K w := by
  refine esame_spec ha hb hlo hlo hn fun w' hF => ?_
  rw [decide_eq_true rfl]
  exact h w' hF

def FTx (N : Nat) (w : World) (p room : Nat) (r : List Ent) : Prop := ∃ pb o c ps, FT w p pb o c room ps r ∧ N ≤ p ∧ N ≤ pb
def ge (N : Nat) : Nat → Prop := fun b => N ≤ b
theorem FTx.fr0 {N : Nat} {w w' : World} {p room : Nat} {r : List Ent} (h : FTx N w p room r) (hF : Fr none_ w w') : FTx N w' p room r := by
  obtain ⟨pb, o, c, ps, h, h1, h2⟩ := h
  exact ⟨pb, o, c, ps, h.fr0 hF, h1, h2⟩
theorem FTx.srt {N p room : Nat} {r : List Ent} (h : FTx N w p room r) : Srt r := by obtain ⟨pb, o, c, ps, h, _⟩ := h; exact h.ct.srt
theorem FTx.cap {N p room : Nat} {r : List Ent} (h : FTx N w p room r) : r.length ≤ room := by obtain ⟨pb, o, c, ps, h, _⟩ := h; exact h.cap
theorem FTx.hi {N p room : Nat} {r : List Ent} (h : FTx N w p room r) : room ≤ 1024 := by obtain ⟨pb, o, c, ps, h, _⟩ := h; exact h.hi
theorem FTx.rng {N p room : Nat} {r : List Ent} (h : FTx N w p room r) : ∀ e ∈ r, RngE e := by obtain ⟨pb, o, c, ps, h, _⟩ := h; exact h.rng
theorem FTx.lt {N p room : Nat} {r : List Ent} (h : FTx N w p room r) : p < w.heap.size := by obtain ⟨pb, o, c, ps, h, _⟩ := h; exact h.fb.lt.1
theorem ge_pp {N p pb : Nat} (h1 : N ≤ p) (h2 : N ≤ pb) {w w' : World} (h : Fr (pp p pb) w w') : Fr (ge N) w w' := h.mono fun b _ e => by
  unfold pp at e
  unfold ge
  omega

theorem learnX {N p room : Nat} {r : List Ent} {v q t : Int} {m : Mac} (ht : FTx N w p room r) (hv : isI v) (hm : m.ok) (hq : isI q) (htt : isI t)
    (h : ∀ w', FTx N w' p room (learnL room r v m q t).1 → Fr (ge N) w w' → K (.tuple #[i64 (learnL room r v m q t).2.1, i64 (learnL room r v m q t).2.2]) w') :
    CallsR Tryz.prog 73 #[pt p 0, i64 v, .agg m.cells.toArray, i64 q, i64 t] K w := by
  obtain ⟨pb, o, c, ps, ht, h1, h2⟩ := ht
  exact learn_spec ht hv hm hq htt fun w' ps' ht' hF => h w' ⟨pb, o, c, ps', ht', h1, h2⟩ (ge_pp h1 h2 hF)
theorem lookX {N p room : Nat} {r : List Ent} {v : Int} {m : Mac} (ht : FTx N w p room r) (hv : isI v) (hm : m.ok)
    (h : ∀ w', Fr none_ w w' → K (.tuple #[.agg (lookL r (v, m)).1.cells.toArray, .bool (lookL r (v, m)).2]) w') :
    CallsR Tryz.prog 15 #[pt p 0, i64 v, .agg m.cells.toArray] K w := by
  obtain ⟨pb, o, c, ps, ht, h1, h2⟩ := ht
  exact look_spec ht hv hm h
theorem allX {N p room : Nat} {r : List Ent} (ht : FTx N w p room r) (h : ∀ w' b a c, RdE 10 w' (.slice (some ⟨b, a, none⟩) r.length c) (r.map Ent.cells) → Fr none_ w w' → w.heap.size ≤ b → b ≠ p → K (.slice (some ⟨b, a, none⟩) r.length c) w') :
    CallsR Tryz.prog 19 #[pt p 0] K w := by
  have hlt := ht.lt
  obtain ⟨pb, o, c, ps, ht, h1, h2⟩ := ht
  exact all_spec ht fun w' b a c ho hF hb => h w' b a c ho.rd hF hb (by omega)

end Go.Gx.S
end

section
/- The document's table. -/
set_option linter.unusedVariables false
set_option linter.unusedSimpArgs false
set_option maxRecDepth 100000
namespace Go.Gx.S
open Go Go.Gx Go.Proofs
variable {K : Value → World → Prop} {w : World}

def numL (l : List Int) : Int := l.foldl (fun n x => n * 256 + x) 0
theorem numL_snoc (l : List Int) (x : Int) : numL (l ++ [x]) = numL l * 256 + x := by unfold numL; rw [List.foldl_append]; rfl
theorem numL_mac (m : Mac) : numL (macL m) = macN m := by
  unfold numL macL macN
  simp
theorem numL_range {m : Mac} (h : m.ok) {k : Nat} (hk : k ≤ 6) : 0 ≤ numL ((macL m).take k) ∧ numL ((macL m).take k) < 281474976710656 := by
  obtain ⟨a0, a1, a2, a3, a4, a5⟩ := h
  unfold isB at *
  match k, hk with
  | 0, _ | 1, _ | 2, _ | 3, _ | 4, _ | 5, _ | 6, _ => simp [numL, macL]; try omega
theorem macL_get (m : Mac) {k : Nat} (hk : k < 6) : m.cells[k]? = some (u8 ((macL m).getD k 0)) := by
  match k, hk with
  | 0, _ | 1, _ | 2, _ | 3, _ | 4, _ | 5, _ => rfl
theorem macL_take {m : Mac} {k : Nat} (hk : k < 6) : (macL m).take (k + 1) = (macL m).take k ++ [(macL m).getD k 0] := by
  match k, hk with
  | 0, _ | 1, _ | 2, _ | 3, _ | 4, _ | 5, _ => rfl
theorem macL_at {m : Mac} (h : m.ok) {k : Nat} (hk : k < 6) : isB ((macL m).getD k 0) := by
  obtain ⟨a0, a1, a2, a3, a4, a5⟩ := h
  match k, hk with
  | 0, _ | 1, _ | 2, _ | 3, _ | 4, _ | 5, _ => assumption
theorem wrap_u64 {x : Int} (h0 : 0 ≤ x) (h1 : x < 18446744073709551616) : IntKind.u64.wrap x = x := by
  unfold IntKind.wrap
  have e1 : (2 : Int) ^ IntKind.u64.bits = 18446744073709551616 := rfl
  have e3 : IntKind.u64.signed = false := rfl
  simp only [e1, e3, Bool.false_and, Bool.false_eq_true, if_false]
  omega

theorem rnum_spec {m : Mac} (hm : m.ok) (h : ∀ w', Fr none_ w w' → K (.int .u64 (macN m)) w') : CallsR Tryz.prog 128 #[.agg m.cells.toArray] K w := by
  apply c128
  unfold p128
  simp only [push_cast, Nat.reduceAdd, Nat.reduceLeDiff, Nat.reduceLT, Int.reduceToNat, Nat.left_eq_add, Nat.add_eq_left, Nat.add_left_cancel_iff, Nat.reduceEqDiff, Nat.add_assoc, Nat.succ_ne_zero]
  have h0 : (w.alloc (cellsO m.cells 24)).heap[w.heap.size]? = some (cellsO m.cells 24) := by simp only [push_cast, Nat.reduceAdd, Nat.reduceLeDiff, Nat.reduceLT, Int.reduceToNat, Nat.left_eq_add, Nat.add_eq_left, Nat.add_left_cancel_iff, Nat.reduceEqDiff, Nat.add_assoc, Nat.succ_ne_zero]
  have hF : Fr none_ w (w.alloc (cellsO m.cells 24)) := (by repeat' first | with_reducible exact Fr.refl _ _ | with_reducible refine Fr.step_alloc ?_ ?_ | with_reducible refine Fr.step_drew ?_ | with_reducible refine Fr.step_wr ?_ ?_ _ _ | exact rfl | exact Or.inr (by omega) | exact Or.inl rfl | exact Or.inl (Or.inl rfl) | exact Or.inl (Or.inr rfl))
  generalize w.alloc (cellsO m.cells 24) = W at *
  refine jn1 (fun v w' => v = .int .u64 (macN m) ∧ w' = W) (fun v w' ⟨e1, e2⟩ => by rw [e1, e2]; exact h _ hF) fun j hj => ?_
  refine loop2 (fun n x y w' => ∃ k : Nat, k ≤ 6 ∧ n = 6 - k ∧ y = i64 k ∧ x = .int .u64 (numL ((macL m).take k)) ∧ w' = W) ?_ 6 ⟨0, by omega, rfl, rfl, rfl, rfl⟩
  rintro n x y w' X ⟨k, hk, rfl, rfl, rfl, rfl⟩ hX
  simp only [push_cast, Nat.reduceAdd, Nat.reduceLeDiff, Nat.reduceLT, Int.reduceToNat, Nat.left_eq_add, Nat.add_eq_left, Nat.add_left_cancel_iff, Nat.reduceEqDiff, Nat.add_assoc, Nat.succ_ne_zero]
  refine br_dec (fun hlt => ?_) fun hge => ?_
  · have hk6 : k < 6 := by omega
    have hr := numL_range hm hk
    have hr2 := numL_range hm (show k + 1 ≤ 6 by omega)
    have hb := macL_at hm hk6
    rw [wrap_u64 (by omega) (by omega), opS_iaA w.heap.size 0 .i64 (k : Int) (by omega)]
    simp only [push_cast, Nat.reduceAdd, Nat.reduceLeDiff, Nat.reduceLT, Int.reduceToNat, Nat.left_eq_add, Nat.add_eq_left, Nat.add_left_cancel_iff, Nat.reduceEqDiff, Nat.add_assoc, Nat.succ_ne_zero, h0, Int.toNat_natCast, Nat.mul_one]
    rw [macL_get m hk6]
    simp only [push_cast, Nat.reduceAdd, Nat.reduceLeDiff, Nat.reduceLT, Int.reduceToNat, Nat.left_eq_add, Nat.add_eq_left, Nat.add_left_cancel_iff, Nat.reduceEqDiff, Nat.add_assoc, Nat.succ_ne_zero]
    rw [macL_take hk6, numL_snoc] at hr2
    unfold isB at hb
    rw [wrap_u64 (x := (macL m).getD k 0) (by omega) (by omega), wrap_u64 (by omega) (by omega), wrap_i64 (by omega)]
    refine hX (6 - (k + 1)) _ _ _ (by omega) ⟨k + 1, by omega, rfl, by simp, ?_, rfl⟩
    rw [macL_take hk6, numL_snoc]
  · have : k = 6 := by omega
    subst this
    exact hj _ _ ⟨by rw [← numL_mac]; rfl, rfl⟩

theorem rcmp_spec {a b : Mac} (ha : a.ok) (hb : b.ok) (h : ∀ w', Fr none_ w w' → K (i64 (cmpM a b)) w') : CallsR Tryz.prog 120 #[.agg a.cells.toArray, .agg b.cells.toArray] K w := by
  apply c120
  unfold p120
  have hF : Fr none_ w ((w.alloc (cellsO a.cells 24)).alloc (cellsO b.cells 24)) := (by repeat' first | with_reducible exact Fr.refl _ _ | with_reducible refine Fr.step_alloc ?_ ?_ | with_reducible refine Fr.step_drew ?_ | with_reducible refine Fr.step_wr ?_ ?_ _ _ | exact rfl | exact Or.inr (by omega) | exact Or.inl rfl | exact Or.inl (Or.inl rfl) | exact Or.inl (Or.inr rfl))
  have h1 : ((w.alloc (cellsO a.cells 24)).alloc (cellsO b.cells 24)).heap[w.heap.size + 1]? = some (cellsO b.cells 24) := by simp only [push_cast, Nat.reduceAdd, Nat.reduceLeDiff, Nat.reduceLT, Int.reduceToNat, Nat.left_eq_add, Nat.add_eq_left, Nat.add_left_cancel_iff, Nat.reduceEqDiff, Nat.add_assoc, Nat.succ_ne_zero]
  simp only [push_cast, Nat.reduceAdd, Nat.reduceLeDiff, Nat.reduceLT, Int.reduceToNat, Nat.left_eq_add, Nat.add_eq_left, Nat.add_left_cancel_iff, Nat.reduceEqDiff, Nat.add_assoc, Nat.succ_ne_zero]
  generalize ((w.alloc (cellsO a.cells 24)).alloc (cellsO b.cells 24)) = W at *
  refine rnum_spec ha fun w2 hF2 => ?_
  have h2 := hF2.heap h1 fun h => h
  simp only [push_cast, Nat.reduceAdd, Nat.reduceLeDiff, Nat.reduceLT, Int.reduceToNat, Nat.left_eq_add, Nat.add_eq_left, Nat.add_left_cancel_iff, Nat.reduceEqDiff, Nat.add_assoc, Nat.succ_ne_zero, h2]
  refine rnum_spec hb fun w3 hF3 => ?_
  have hF' := (hF.trans hF2).trans hF3
  have h' := h _ hF'
  unfold cmpM cmpI at h'
  simp only [push_cast, Nat.reduceAdd, Nat.reduceLeDiff, Nat.reduceLT, Int.reduceToNat, Nat.left_eq_add, Nat.add_eq_left, Nat.add_left_cancel_iff, Nat.reduceEqDiff, Nat.add_assoc, Nat.succ_ne_zero]
  refine br_dec (fun h1 => ?_) fun h1 => ?_
  · rw [if_pos h1] at h'; exact h'
  · rw [if_neg h1] at h'
    refine br_dec (fun h2 => ?_) fun h2 => ?_
    · rw [if_pos h2] at h'; exact h'
    · rw [if_neg (by omega)] at h'; exact h'

def vlanA (q : Int) (e : Ent) : Bool := e.vlan == q
theorem rgroup_spec {m : Mac} (hm : m.ok) (h : ∀ w', Fr none_ w w' → K (.bool (grp m)) w') : CallsR Tryz.prog 16 #[.agg m.cells.toArray] K w := by
  apply c16
  unfold p16
  simp only [push_cast, Nat.reduceAdd, Nat.reduceLeDiff, Nat.reduceLT, Int.reduceToNat, Nat.left_eq_add, Nat.add_eq_left, Nat.add_left_cancel_iff, Nat.reduceEqDiff, Nat.add_assoc, Nat.succ_ne_zero]
  have h0 : (w.alloc (cellsO m.cells 24)).heap[w.heap.size]? = some (cellsO m.cells 24) := by simp only [push_cast, Nat.reduceAdd, Nat.reduceLeDiff, Nat.reduceLT, Int.reduceToNat, Nat.left_eq_add, Nat.add_eq_left, Nat.add_left_cancel_iff, Nat.reduceEqDiff, Nat.add_assoc, Nat.succ_ne_zero]
  rw [opS_iaA w.heap.size 0 .i64 0 (by decide)]
  simp only [push_cast, Nat.reduceAdd, Nat.reduceLeDiff, Nat.reduceLT, Int.reduceToNat, Nat.left_eq_add, Nat.add_eq_left, Nat.add_left_cancel_iff, Nat.reduceEqDiff, Nat.add_assoc, Nat.succ_ne_zero, h0, Int.toNat_zero, Nat.zero_mul]
  rw [macL_get' m (by decide)]
  simp only [push_cast, Nat.reduceAdd, Nat.reduceLeDiff, Nat.reduceLT, Int.reduceToNat, Nat.left_eq_add, Nat.add_eq_left, Nat.add_left_cancel_iff, Nat.reduceEqDiff, Nat.add_assoc, Nat.succ_ne_zero]
  rw [opS_rem _ _ _ (by decide)]
  simp only [push_cast, Nat.reduceAdd, Nat.reduceLeDiff, Nat.reduceLT, Int.reduceToNat, Nat.left_eq_add, Nat.add_eq_left, Nat.add_left_cancel_iff, Nat.reduceEqDiff, Nat.add_assoc, Nat.succ_ne_zero]
  have hb : isB ((macL m).getD 0 0) := macL_ok hm _ (by simp [macL])
  unfold isB at hb
  have e : ((macL m).getD 0 0).tmod 2 = (macL m).getD 0 0 % 2 := Int.tmod_eq_emod_of_nonneg (by omega)
  rw [e]
  exact h _ (by repeat' first | with_reducible exact Fr.refl _ _ | with_reducible refine Fr.step_alloc ?_ ?_ | with_reducible refine Fr.step_drew ?_ | with_reducible refine Fr.step_wr ?_ ?_ _ _ | exact rfl | exact Or.inr (by omega) | exact Or.inl rfl | exact Or.inl (Or.inl rfl) | exact Or.inl (Or.inr rfl))

theorem rright_spec {v p : Int} {m : Mac} (hm : m.ok) (h : ∀ w', Fr none_ w w' → K (.bool (rightB v m p)) w') : CallsR Tryz.prog 95 #[i64 v, .agg m.cells.toArray, i64 p] K w := by
  apply c95
  unfold p95
  have hF : Fr none_ w (w.alloc (cellsO m.cells 24)) := (by repeat' first | with_reducible exact Fr.refl _ _ | with_reducible refine Fr.step_alloc ?_ ?_ | with_reducible refine Fr.step_drew ?_ | with_reducible refine Fr.step_wr ?_ ?_ _ _ | exact rfl | exact Or.inr (by omega) | exact Or.inl rfl | exact Or.inl (Or.inl rfl) | exact Or.inl (Or.inr rfl))
  have h' := h _ hF
  simp only [push_cast, Nat.reduceAdd, Nat.reduceLeDiff, Nat.reduceLT, Int.reduceToNat, Nat.left_eq_add, Nat.add_eq_left, Nat.add_left_cancel_iff, Nat.reduceEqDiff, Nat.add_assoc, Nat.succ_ne_zero]
  unfold rightB at h'
  refine br_dec (fun h1 => ?_) fun h1 => ?_
  case refine_2 => rw [decide_eq_false (show ¬ 1 ≤ v from h1)] at h'; exact h'
  refine br_dec (fun h2 => ?_) fun h2 => ?_
  case refine_2 => rw [decide_eq_false (show ¬ v ≤ 4094 from h2), Bool.false_and, Bool.and_false] at h'; exact h'
  refine br_dec (fun h3 => ?_) fun h3 => ?_
  case refine_2 => rw [decide_eq_false (show ¬ 0 ≤ p from h3), Bool.false_and, Bool.and_false, Bool.and_false] at h'; exact h'
  refine br_dec (fun h4 => ?_) fun h4 => ?_
  case refine_2 => rw [decide_eq_false (show ¬ p ≤ 1000 from h4), Bool.false_and, Bool.and_false, Bool.and_false, Bool.and_false] at h'; exact h'
  refine rgroup_spec hm fun w2 hF2 => ?_
  simp only [push_cast, Nat.reduceAdd, Nat.reduceLeDiff, Nat.reduceLT, Int.reduceToNat, Nat.left_eq_add, Nat.add_eq_left, Nat.add_left_cancel_iff, Nat.reduceEqDiff, Nat.add_assoc, Nat.succ_ne_zero]
  have h2' := h _ (hF.trans hF2)
  unfold rightB at h2'
  rw [decide_eq_true (show 1 ≤ v from h1), decide_eq_true (show v ≤ 4094 from h2), decide_eq_true (show 0 ≤ p from h3), decide_eq_true (show p ≤ 1000 from h4), Bool.true_and, Bool.true_and, Bool.true_and, Bool.true_and] at h2'
  exact h2'

theorem put_spec {p pb o c room : Nat} {ps r : List Ent} {v q : Int} {m : Mac} (ht : FT w p pb o c room ps r) (hv : isI v) (hm : m.ok) (hq : isI q)
    (h : ∀ w' ps', FT w' p pb o c room ps' (putL room r v m q).1 → Fr (pp p pb) w w' → K (i64 (putL room r v m q).2) w') :
    CallsR Tryz.prog 64 #[pt p 0, i64 v, .agg m.cells.toArray, i64 q] K w := by
  apply c64
  unfold p64
  simp only [push_cast, Nat.reduceAdd, Nat.reduceLeDiff, Nat.reduceLT, Int.reduceToNat, Nat.left_eq_add, Nat.add_eq_left, Nat.add_left_cancel_iff, Nat.reduceEqDiff, Nat.add_assoc, Nat.succ_ne_zero]
  have hF : Fr none_ w (w.alloc (cellsO m.cells 24)) := (by repeat' first | with_reducible exact Fr.refl _ _ | with_reducible refine Fr.step_alloc ?_ ?_ | with_reducible refine Fr.step_drew ?_ | with_reducible refine Fr.step_wr ?_ ?_ _ _ | exact rfl | exact Or.inr (by omega) | exact Or.inl rfl | exact Or.inl (Or.inl rfl) | exact Or.inl (Or.inr rfl))
  have hm0 : (w.alloc (cellsO m.cells 24)).heap[w.heap.size]? = some (cellsO m.cells 24) := by simp only [push_cast, Nat.reduceAdd, Nat.reduceLeDiff, Nat.reduceLT, Int.reduceToNat, Nat.left_eq_add, Nat.add_eq_left, Nat.add_left_cancel_iff, Nat.reduceEqDiff, Nat.add_assoc, Nat.succ_ne_zero]
  have hlt := ht.fb.lt
  have hmp : w.heap.size ≠ p ∧ w.heap.size ≠ pb := by omega
  replace ht := ht.fr0 hF
  generalize w.alloc (cellsO m.cells 24) = W at *
  generalize w.heap.size = ms at *
  refine right_spec hm fun w2 hF2 => ?_
  replace ht := ht.fr0 hF2
  replace hm0 := hF2.heap hm0 fun h => h
  replace hF := hF.trans hF2
  unfold putL at h
  simp only [push_cast, Nat.reduceAdd, Nat.reduceLeDiff, Nat.reduceLT, Int.reduceToNat, Nat.left_eq_add, Nat.add_eq_left, Nat.add_left_cancel_iff, Nat.reduceEqDiff, Nat.add_assoc, Nat.succ_ne_zero]
  cases hr : rightB v m q with
  | false =>
    rw [hr] at h
    simp only [push_cast, Nat.reduceAdd, Nat.reduceLeDiff, Nat.reduceLT, Int.reduceToNat, Nat.left_eq_add, Nat.add_eq_left, Nat.add_left_cancel_iff, Nat.reduceEqDiff, Nat.add_assoc, Nat.succ_ne_zero, Bool.not_false]
    exact h _ ps ht (hF.mono fun _ _ e => e.elim)
  | true =>
  rw [hr, if_pos rfl] at h
  simp only [push_cast, Nat.reduceAdd, Nat.reduceLeDiff, Nat.reduceLT, Int.reduceToNat, Nat.left_eq_add, Nat.add_eq_left, Nat.add_left_cancel_iff, Nat.reduceEqDiff, Nat.add_assoc, Nat.succ_ne_zero, Bool.not_true, hm0]
  have hx : (⟨v, m, q, 0, true⟩ : Ent) ≠ zE := right_nz hr
  have hrg : RngE ⟨v, m, q, 0, true⟩ := ⟨hr, rfl, fun _ => rfl⟩
  have hok : (⟨v, m, q, 0, true⟩ : Ent).ok := ⟨hv, hm, hq, isI_iff.2 (show (-9223372036854775808 : Int) ≤ 0 ∧ (0 : Int) ≤ 9223372036854775807 by decide)⟩
  refine ft_find (k := (v, m)) ht ⟨hv, hm⟩ (fun i w3 hi hz hmem hk hF3 => ?_) fun i d w3 hi hid hs hz hno hF3 => ?_
  · rw [atK_some ht.ct.srt hmem hk] at h
    replace ht := ht.fr0 hF3
    replace hm0 := hF3.heap hm0 fun h => h
    replace hF := hF.trans hF3
    simp only [jn_0, push_cast, Nat.reduceAdd, Nat.reduceLeDiff, Nat.reduceLT, Int.reduceToNat, Nat.left_eq_add, Nat.add_eq_left, Nat.add_left_cancel_iff, Nat.reduceEqDiff, Nat.add_assoc, Nat.succ_ne_zero, ht.fb.blk, hm0]
    rw [build_put]
    refine s_put (ht.fb.fr0 (Fr.drew w3)) hi hok fun w5 hb5 hF5 => ?_
    have ht5 := (ht.fr0 (Fr.drew w3)).upd hi hz (x := ⟨v, m, q, 0, true⟩) hk hx hok hrg hb5
    exact h w5 _ ht5 ((hF.trans (Fr.drew w3)).mono (fun _ _ e => e.elim) |>.trans_new hF5 fun b _ e => .inr e)
  · rw [atK_none hno] at h
    replace ht := ht.fr0 hF3
    replace hm0 := hF3.heap hm0 fun h => h
    replace hF := hF.trans hF3
    simp only [jn_0, push_cast, Nat.reduceAdd, Nat.reduceLeDiff, Nat.reduceLT, Int.reduceToNat, Nat.left_eq_add, Nat.add_eq_left, Nat.add_left_cancel_iff, Nat.reduceEqDiff, Nat.add_assoc, Nat.succ_ne_zero]
    refine full_spec ht.fb (by have := ht.cap; have := ht.hi; omega) fun w5 hF5 => ?_
    replace ht := ht.fr0 hF5
    replace hm0 := hF5.heap hm0 fun h => h
    replace hF := hF.trans hF5
    simp only [push_cast, Nat.reduceAdd, Nat.reduceLeDiff, Nat.reduceLT, Int.reduceToNat, Nat.left_eq_add, Nat.add_eq_left, Nat.add_left_cancel_iff, Nat.reduceEqDiff, Nat.add_assoc, Nat.succ_ne_zero]
    have hln := ht.len
    refine br_dec (fun hfull => ?_) fun hfull => ?_
    · simp only [if_pos (show room ≤ r.length by omega)] at h
      exact h _ ps ht (hF.mono fun _ _ e => e.elim)
    simp only [if_neg (show ¬ room ≤ r.length by omega)] at h
    have hcap := ht.cap
    have hhi := ht.hi
    have hrw : IntKind.i64.wrap ((r.length : Int) + 1) = ((r.length + 1 : Nat) : Int) := by
      rw [wrap_i64 (by omega)]; simp
    simp only [push_cast, Nat.reduceAdd, Nat.reduceLeDiff, Nat.reduceLT, Int.reduceToNat, Nat.left_eq_add, Nat.add_eq_left, Nat.add_left_cancel_iff, Nat.reduceEqDiff, Nat.add_assoc, Nat.succ_ne_zero, ht.fb.blk, hm0, hrw, hmp]
    rw [build_put]
    refine s_put ((ht.fb.many (m' := r.length + 1)).fr0 (Fr.drew _)) hi hok fun w6 hb6 hF6 => ?_
    have ht7 := ht.ins hi (x := ⟨v, m, q, 0, true⟩) hid hs hz hno hx hok hrg (by omega) hb6
    exact h _ _ ht7 ((((hF.mono (fun _ _ e => e.elim)).step_wr (fp := pp p pb) (.inl (.inl rfl)) _ _).step_drew).trans_new hF6 fun b _ e => .inr e)

structure RT (w : World) (q room : Nat) (L : Value) (r : List Ent) : Prop where
  blk : w.heap[q]? = some (cellsO [i64 room, L] 118)
  own : OwnE 40 10 w L (r.map Ent.cells)
  ne : ∀ b, blkS L = some b → b ≠ q

theorem RT.fr {fp : Nat → Prop} {w w' : World} {q room : Nat} {L : Value} {r : List Ent} (h : RT w q room L r) (hf : Fr fp w w') (h1 : ¬ fp q) (h2 : ∀ b, blkS L = some b → ¬ fp b) : RT w' q room L r :=
  ⟨hf.heap h.blk h1, h.own.fr hf h2, h.ne⟩
theorem RT.fr0 {w w' : World} {q room : Nat} {L : Value} {r : List Ent} (h : RT w q room L r) (hf : Fr none_ w w') : RT w' q room L r := h.fr hf (fun h => h) fun _ _ h => h
/-- what a step may write -/
def rp (q : Nat) (L : Value) : Nat → Prop := fun b => b = q ∨ blkS L = some b
/-- the new list's block -/
def NewOr (w : World) (L L' : Value) : Prop := ∀ b, blkS L' = some b → blkS L = some b ∨ w.heap.size ≤ b

theorem Srt.idx {r : List Ent} (h : Srt r) {i j : Nat} (hi : i < r.length) (hj : j < r.length) (hk : eKey r[i] = eKey r[j]) : i = j := by
  have hp := List.pairwise_iff_getElem.1 h.1
  rcases Nat.lt_trichotomy i j with hij | hij | hij
  · exact absurd hk (ltE_key (hp i j hi hj hij))
  · exact hij
  · exact absurd hk.symm (ltE_key (hp j i hj hi hij))

theorem set_with {r : List Ent} (h : Srt r) {i : Nat} (hi : i < r.length) {x : Ent} (hk : eKey r[i] = eKey x) (hx : x.ok) : r.set i x = withL r x := by
  have hlt : ∀ a b c d : Ent, eKey a = eKey c → eKey b = eKey d → ltE a b → ltE c d := by
    intro a b c d h1 h2 h3
    unfold eKey at h1 h2
    simp only [Prod.mk.injEq] at h1 h2
    unfold ltE at *
    rw [← h1.1, ← h1.2, ← h2.1, ← h2.2]
    exact h3
  have hkey : ∀ j (hj : j < (r.set i x).length), eKey (r.set i x)[j] = eKey (r[j]'(by simpa using hj)) := fun j hj => by
    rw [List.getElem_set]
    split
    · rename_i e; subst e; exact hk.symm
    · rfl
  refine Srt.eq ⟨?_, fun e he => ?_⟩ (h.with hx) fun e => ?_
  · rw [List.pairwise_iff_getElem]
    intro a b ha hb hab
    have := List.pairwise_iff_getElem.1 h.1 a b (by simpa using ha) (by simpa using hb) hab
    exact hlt _ _ _ _ (hkey a ha).symm (hkey b hb).symm this
  · rcases List.mem_or_eq_of_mem_set he with h1 | h1
    · exact h.2 e h1
    · rw [h1]; exact hx
  · rw [mem_with]
    constructor
    · intro he
      obtain ⟨j, hj, rfl⟩ := List.getElem_of_mem he
      rw [List.getElem_set]
      split
      · exact .inl rfl
      · rename_i e
        refine .inr ⟨List.getElem_mem _, fun hkk => e ?_⟩
        exact (Srt.idx h (by simpa using hj) hi (hkk.trans hk.symm)).symm
    · rintro (rfl | ⟨h1, h2⟩)
      · exact List.mem_iff_getElem.2 ⟨i, by simpa using hi, by rw [List.getElem_set_self]⟩
      · obtain ⟨j, hj, rfl⟩ := List.getElem_of_mem h1
        refine List.mem_iff_getElem.2 ⟨j, by simpa using hj, ?_⟩
        rw [List.getElem_set, if_neg]
        intro e
        subst e
        exact h2 hk
theorem ins_with {r : List Ent} {x : Ent} (h : ∀ e ∈ r, eKey e ≠ eKey x) : withL r x = r.takeWhile (fun e => decide (ltE e x)) ++ x :: r.dropWhile (fun e => decide (ltE e x)) := by
  unfold withL
  rw [without_none h]
  rfl
theorem drop_without {r : List Ent} (h : Srt r) {i : Nat} (hi : i < r.length) : r.take i ++ r.drop (i + 1) = withoutL r r[i] := by
  rw [← List.eraseIdx_eq_take_drop_succ]
  refine Srt.eq ⟨h.1.sublist (List.eraseIdx_sublist ..), fun e he => h.2 e ((List.eraseIdx_sublist ..).subset he)⟩ (h.without _) fun e => ?_
  rw [mem_without, List.mem_eraseIdx_iff_getElem]
  constructor
  · rintro ⟨j, hj, hne, rfl⟩
    exact ⟨List.getElem_mem _, fun hk => hne (Srt.idx h hj hi hk)⟩
  · rintro ⟨h1, h2⟩
    obtain ⟨j, hj, rfl⟩ := List.getElem_of_mem h1
    exact ⟨j, hj, fun e => h2 (by subst e; rfl), rfl⟩

theorem rfind_spec {q room : Nat} {L : Value} {r : List Ent} {k : Key} (ht : RT w q room L r) (hro : ∀ e ∈ r, e.ok) (hk : isI k.1 ∧ k.2.ok) (hn : r.length < 2 ^ 30)
    (h0 : (∀ e ∈ r, eKey e ≠ k) → ∀ w', Fr none_ w w' → K (i64 (-1)) w')
    (h1 : ∀ i (hi : i < r.length), eKey r[i] = k → ∀ w', Fr none_ w w' → K (i64 i) w') :
    CallsR Tryz.prog 96 #[pt q 0, i64 k.1, .agg k.2.cells.toArray] K w := by
  apply c96
  unfold p96
  simp only [push_cast, Nat.reduceAdd, Nat.reduceLeDiff, Nat.reduceLT, Int.reduceToNat, Nat.left_eq_add, Nat.add_eq_left, Nat.add_left_cancel_iff, Nat.reduceEqDiff, Nat.add_assoc, Nat.succ_ne_zero]
  have hF1 : Fr none_ w (w.alloc (cellsO k.2.cells 24)) := (by repeat' first | with_reducible exact Fr.refl _ _ | with_reducible refine Fr.step_alloc ?_ ?_ | with_reducible refine Fr.step_drew ?_ | with_reducible refine Fr.step_wr ?_ ?_ _ _ | exact rfl | exact Or.inr (by omega) | exact Or.inl rfl | exact Or.inl (Or.inl rfl) | exact Or.inl (Or.inr rfl))
  have hx1 : (w.alloc (cellsO k.2.cells 24)).heap[w.heap.size]? = some (cellsO k.2.cells 24) := by simp only [push_cast, Nat.reduceAdd, Nat.reduceLeDiff, Nat.reduceLT, Int.reduceToNat, Nat.left_eq_add, Nat.add_eq_left, Nat.add_left_cancel_iff, Nat.reduceEqDiff, Nat.add_assoc, Nat.succ_ne_zero]
  replace ht := ht.fr0 hF1
  generalize w.alloc (cellsO k.2.cells 24) = w1 at *
  obtain ⟨la, lc, hL⟩ := ht.own.rd.form
  rw [List.length_map] at hL
  subst hL
  refine jn0 (fun w' => Fr none_ w1 w' ∧ ∀ e ∈ r, eKey e ≠ k) (fun w' ⟨hF, hd⟩ => h0 hd w' (hF1.trans hF)) fun j hj => ?_
  refine loop1 (fun n y w' => ∃ i : Nat, y = i64 i ∧ n + i = r.length ∧ Fr none_ w1 w' ∧ ∀ k' (h : k' < r.length), k' < i → eKey r[k'] ≠ k) ?_ r.length ⟨0, rfl, rfl, Fr.refl _ _, fun _ _ h => by omega⟩
  rintro n y w2 X ⟨i, rfl, hi, hF2, hno⟩ hX
  have ht2 := ht.fr0 hF2
  have hx2 := hF2.heap hx1 fun h => h
  simp only [push_cast, Nat.reduceAdd, Nat.reduceLeDiff, Nat.reduceLT, Int.reduceToNat, Nat.left_eq_add, Nat.add_eq_left, Nat.add_left_cancel_iff, Nat.reduceEqDiff, Nat.add_assoc, Nat.succ_ne_zero, ht2.blk]
  refine br_dec (fun hlt => ?_) fun hge => hj _ ⟨hF2, fun e he => ?_⟩
  case refine_2 =>
    obtain ⟨k', hk', rfl⟩ := List.getElem_of_mem he
    exact hno k' hk' (by omega)
  have hil : i < r.length := by omega
  have hok := hro _ (List.getElem_mem hil)
  have hFd : Fr none_ w1 w2.drew := hF2.step_drew
  have htd := ht2.fr0 (Fr.drew w2)
  have hxd := (Fr.drew (fp := none_) w2).heap hx2 fun h => h
  generalize w2.drew = wd at *
  have hgo : eKey r[i] ≠ k → X (i64 ((i : Int) + 1)) wd := fun hp => hX (n - 1) _ _ (by omega) ⟨i + 1, by simp, by omega, hFd, fun k' h hk' => by
    rcases Nat.lt_or_ge k' i with h1 | h1
    · exact hno k' h h1
    · have : k' = i := by omega
      subst this
      exact hp⟩
  have hrd := htd.own.rd
  refine s_iaE hrd (by omega) (by simpa using hil) fun b o c _ he => ?_
  simp only [Int.toNat_natCast, List.getElem_map] at he ⊢
  have hv := he.cell 0 (by simp [Ent.cells])
  rw [Nat.add_zero] at hv
  simp only [push_cast, Nat.reduceAdd, Nat.reduceLeDiff, Nat.reduceLT, Int.reduceToNat, Nat.left_eq_add, Nat.add_eq_left, Nat.add_left_cancel_iff, Nat.reduceEqDiff, Nat.add_assoc, Nat.succ_ne_zero, hv]
  refine br_intro (fun h2 => ?_) fun h2 => ?_
  case refine_2 =>
    rw [wrap_i64 (by omega)]
    refine hgo fun e => ?_
    rw [← e] at h2
    simp [eKey] at h2
  have h2 : r[i].vlan = k.1 := by simpa using h2
  simp only [push_cast, Nat.reduceAdd, Nat.reduceLeDiff, Nat.reduceLT, Int.reduceToNat, Nat.left_eq_add, Nat.add_eq_left, Nat.add_left_cancel_iff, Nat.reduceEqDiff, Nat.add_assoc, Nat.succ_ne_zero, htd.blk]
  refine s_iaE hrd (by omega) (by simpa using hil) fun b o c _ he => ?_
  simp only [Int.toNat_natCast, List.getElem_map] at he ⊢
  have hm := he.agg 1 6 (by simp [Ent.cells])
  rw [Nat.add_assoc] at hm
  simp only [push_cast, Nat.reduceAdd, Nat.reduceLeDiff, Nat.reduceLT, Int.reduceToNat, Nat.left_eq_add, Nat.add_eq_left, Nat.add_left_cancel_iff, Nat.reduceEqDiff, Nat.add_assoc, Nat.succ_ne_zero, hm, hxd]
  refine s_eqG (MacT.enc (P := Tryz.prog) (T := 24) (d := 6) hok.2.1) (MacT.enc (P := Tryz.prog) (T := 24) (d := 6) hk.2) fun y hy => ?_
  rw [Mac.lits_inj] at hy
  simp only [push_cast, Nat.reduceAdd, Nat.reduceLeDiff, Nat.reduceLT, Int.reduceToNat, Nat.left_eq_add, Nat.add_eq_left, Nat.add_left_cancel_iff, Nat.reduceEqDiff, Nat.add_assoc, Nat.succ_ne_zero]
  refine br_intro (fun h3 => ?_) fun h3 => ?_
  · exact h1 i hil (Prod.ext h2 (hy.1 h3)) _ (hF1.trans hFd)
  · rw [wrap_i64 (by omega)]
    refine hgo fun e => ?_
    rw [hy.2 (congrArg Prod.snd e)] at h3
    cases h3

end Go.Gx.S

namespace Go.Gx.S
open Go Go.Gx Go.Proofs
variable {K : Value → World → Prop} {w : World}

theorem while_eq {p : Ent → Bool} : ∀ {l : List Ent} {k : Nat}, (∀ i (h : i < l.length), i < k → p l[i] = true) → (∀ h : k < l.length, p l[k] = false) → k ≤ l.length → l.takeWhile p = l.take k ∧ l.dropWhile p = l.drop k
  | [], k, _, _, hk => by
    have : k = 0 := by simpa using hk
    subst this; exact ⟨rfl, rfl⟩
  | a :: l, 0, _, h2, _ => by
    have := h2 (by simp)
    simp only [List.getElem_cons_zero] at this
    simp [List.takeWhile_cons, List.dropWhile_cons, this]
  | a :: l, k + 1, h1, h2, hk => by
    have ha := h1 0 (by simp) (by omega)
    simp only [List.getElem_cons_zero] at ha
    have ih := while_eq (p := p) (l := l) (k := k) (fun i h hi => by have := h1 (i + 1) (by simpa using h) (by omega); simpa using this) (fun h => by have := h2 (by simpa using h); simpa using this) (by simpa using hk)
    simp [List.takeWhile_cons, List.dropWhile_cons, ha, ih.1, ih.2]
theorem ent_one' {l : List Ent} (k : Nat) : ((l.map Ent.cells).take k).flatten.all S.oneCell = true := by rw [← List.map_take]; exact ents_one _
theorem ent_one2 {l : List Ent} (k : Nat) : ((l.map Ent.cells).drop k).flatten.all S.oneCell = true := by rw [← List.map_drop]; exact ents_one _

theorem rins_spec {q room : Nat} {L : Value} {r : List Ent} {x : Ent} (ht : RT w q room L r) (hro : ∀ e ∈ r, e.ok) (hx : x.ok) (hno : ∀ e ∈ r, eKey e ≠ eKey x) (hn : r.length ≤ 2 ^ 20)
    (h : ∀ w' L', RT w' q room L' (withL r x) → New w L' → Fr (fun b => b = q) w w' → K (.tuple #[]) w') :
    CallsR Tryz.prog 97 #[pt q 0, .agg x.cells.toArray] K w := by
  apply c97
  unfold p97
  simp only [push_cast, Nat.reduceAdd, Nat.reduceLeDiff, Nat.reduceLT, Int.reduceToNat, Nat.left_eq_add, Nat.add_eq_left, Nat.add_left_cancel_iff, Nat.reduceEqDiff, Nat.add_assoc, Nat.succ_ne_zero]
  have hq0 := lt_of_heap ht.blk
  have hF1 : Fr none_ w (w.alloc (cellsO x.cells 40)) := (by repeat' first | with_reducible exact Fr.refl _ _ | with_reducible refine Fr.step_alloc ?_ ?_ | with_reducible refine Fr.step_drew ?_ | with_reducible refine Fr.step_wr ?_ ?_ _ _ | exact rfl | exact Or.inr (by omega) | exact Or.inl rfl | exact Or.inl (Or.inl rfl) | exact Or.inl (Or.inr rfl))
  have hx0 : (w.alloc (cellsO x.cells 40)).heap[w.heap.size]? = some (cellsO x.cells 40) := by simp only [push_cast, Nat.reduceAdd, Nat.reduceLeDiff, Nat.reduceLT, Int.reduceToNat, Nat.left_eq_add, Nat.add_eq_left, Nat.add_left_cancel_iff, Nat.reduceEqDiff, Nat.add_assoc, Nat.succ_ne_zero]
  replace ht := ht.fr0 hF1
  have hxs := lt_of_heap hx0
  generalize w.alloc (cellsO x.cells 40) = w1 at *
  rw [ins_with hno] at h
  obtain ⟨qa, qc, hqe⟩ := ht.own.rd.form
  rw [List.length_map] at hqe
  subst hqe
  have hq := ht.own.rd
  refine jn1 (fun y w' => ∃ k : Nat, y = i64 k ∧ k ≤ r.length ∧ (∀ i (h : i < r.length), i < k → decide (ltE r[i] x) = true) ∧ (∀ h : k < r.length, decide (ltE r[k] x) = false) ∧ Fr none_ w1 w') ?_ fun j hj => ?_
  · rintro y w2 ⟨k, rfl, hk, hk1, hk2, hF2⟩
    obtain ⟨e1, e2⟩ := while_eq (p := fun e => decide (ltE e x)) hk1 hk2 hk
    rw [e1, e2] at h
    refine s_bs0 (sz := 10) fun v3 w3 ho3 hF3 hN3 => ?_
    have ht3 := ht.fr0 (hF2.trans hF3)
    simp only [push_cast, Nat.reduceAdd, Nat.reduceLeDiff, Nat.reduceLT, Int.reduceToNat, Nat.left_eq_add, Nat.add_eq_left, Nat.add_left_cancel_iff, Nat.reduceEqDiff, Nat.add_assoc, Nat.succ_ne_zero, ht3.blk]
    refine s_slcH ht3.own.rd (by rw [List.length_map]; exact hk) fun v4 h4 => ?_
    refine s_app (sz := 10) (by_ := 40) (z := .agg zE.cells.toArray) rfl (by decide) ho3 h4 (ent_one' _) (by simp; omega) fun v5 w5 ho5 hb5 hF5 => ?_
    have hF5' : Fr none_ w2 w5 := hF3.trans_new hF5 fun b hb e => by have := hN3 _ e; omega
    have hx5 := (hF2.trans hF5').heap hx0 fun h => h
    simp only [push_cast, Nat.reduceAdd, Nat.reduceLeDiff, Nat.reduceLT, Int.reduceToNat, Nat.left_eq_add, Nat.add_eq_left, Nat.add_left_cancel_iff, Nat.reduceEqDiff, Nat.add_assoc, Nat.succ_ne_zero, hx5]
    refine s_bs1 (sz := 10) (z := .agg zE.cells.toArray) (Ent.cells_length _) rfl (by decide) (by decide) fun y w6 hy hF6 hN6 => ?_
    refine s_app (sz := 10) (by_ := 40) (z := .agg zE.cells.toArray) rfl (by decide) (ho5.fr hF6 fun _ _ h => h) hy.rd (by simp [Ent.cells_one]) (by simp; omega) fun v7 w7 ho7 hb7 hF7 => ?_
    have hN5 : New w2 v5 := fun b hb => by
      rcases hb5 with hb5 | hb5
      · exact hN3 b (hb5 ▸ hb)
      · have := hb5 b hb; have := hF3.size; omega
    have hF7' : Fr none_ w2 w7 := (hF5'.trans hF6).trans_new hF7 fun b hb e => by have := hN5 _ e; omega
    have hN7 : New w2 v7 := fun b hb => by
      rcases hb7 with hb7 | hb7
      · exact hN5 b (hb7 ▸ hb)
      · have := hb7 b hb; have := (hF5'.trans hF6).size; omega
    have ht7 := ht.fr0 (hF2.trans hF7')
    simp only [push_cast, Nat.reduceAdd, Nat.reduceLeDiff, Nat.reduceLT, Int.reduceToNat, Nat.left_eq_add, Nat.add_eq_left, Nat.add_left_cancel_iff, Nat.reduceEqDiff, Nat.add_assoc, Nat.succ_ne_zero, ht7.blk]
    refine s_slcL ht7.own.rd (by rw [List.length_map]; exact hk) fun v8 h8 => ?_
    refine s_app (sz := 10) (by_ := 40) (z := .agg zE.cells.toArray) rfl (by decide) ho7 h8 (ent_one2 _) (by simp; omega) fun v9 w9 ho9 hb9 hF9 => ?_
    have hF19 : Fr none_ w w9 := ((hF1.trans hF2).trans hF7').trans_new hF9 fun b hb e => by have := hN7 _ e; have := (hF1.trans hF2).size; omega
    have hN9 : New w v9 := fun b hb => by
      have hsz := (hF1.trans hF2).size
      rcases hb9 with hb9 | hb9
      · have := hN7 b (hb9 ▸ hb); omega
      · have := hb9 b hb; have := hF7'.size; omega
    have ht9 := hF9.heap ht7.blk fun e => by have := hN7 _ e; have := (hF1.trans hF2).size; omega
    obtain ⟨a9, c9, hv9⟩ := ho9.rd.form
    have hone := ho9.one
    simp only [push_cast, Nat.reduceAdd, Nat.reduceLeDiff, Nat.reduceLT, Int.reduceToNat, Nat.left_eq_add, Nat.add_eq_left, Nat.add_left_cancel_iff, Nat.reduceEqDiff, Nat.add_assoc, Nat.succ_ne_zero, ht9, hone]
    refine h _ v9 ⟨?_, ?_, fun b hb e => by have := hN9 b hb; omega⟩ hN9 (Fr.step_wr (fp := fun b => b = q) (hF19.mono fun _ _ e => e.elim) (.inl rfl) _ _)
    · simp only [push_cast, Nat.reduceAdd, Nat.reduceLeDiff, Nat.reduceLT, Int.reduceToNat, Nat.left_eq_add, Nat.add_eq_left, Nat.add_left_cancel_iff, Nat.reduceEqDiff, Nat.add_assoc, Nat.succ_ne_zero, ht9]
    · have : OwnE 40 10 w9 v9 ((r.take k ++ x :: r.drop k).map Ent.cells) := by
        rw [List.map_append, List.map_cons, List.map_take, List.map_drop]
        simpa using ho9
      refine this.frame fun b hb => ?_
      have hbq : ¬ b = q := fun e => by have := hN9 b hb; omega
      simp only [push_cast, Nat.reduceAdd, Nat.reduceLeDiff, Nat.reduceLT, Int.reduceToNat, Nat.left_eq_add, Nat.add_eq_left, Nat.add_left_cancel_iff, Nat.reduceEqDiff, Nat.add_assoc, Nat.succ_ne_zero, hbq]
  · refine loop1 (fun n y w' => ∃ k : Nat, y = i64 k ∧ n + k = r.length ∧ (∀ i (h : i < r.length), i < k → decide (ltE r[i] x) = true) ∧ Fr none_ w1 w') ?_ r.length ⟨0, rfl, rfl, fun _ _ h => by omega, Fr.refl _ _⟩
    rintro n y w2 X ⟨k, rfl, hi, hk, hF2⟩ hX
    have ht2 := ht.fr0 hF2
    simp only [push_cast, Nat.reduceAdd, Nat.reduceLeDiff, Nat.reduceLT, Int.reduceToNat, Nat.left_eq_add, Nat.add_eq_left, Nat.add_left_cancel_iff, Nat.reduceEqDiff, Nat.add_assoc, Nat.succ_ne_zero, ht2.blk]
    have hFd : Fr none_ w1 w2.drew := hF2.step_drew
    have hxd := hFd.heap hx0 fun h => h
    have htd := ht.fr0 hFd
    generalize w2.drew = wd at *
    have hqd := htd.own.rd
    refine br_dec (fun hlt => ?_) fun hge => hj _ _ ⟨k, rfl, by omega, hk, fun h => by omega, hFd⟩
    have hkl : k < r.length := by omega
    have hok := hro _ (List.getElem_mem hkl)
    have hend : ¬ ltE r[k] x → ∀ w', Fr none_ w1 w' → j (i64 k) w' := fun hn w' hF => hj _ _ ⟨k, rfl, by omega, hk, fun h => decide_eq_false hn, hF⟩
    have hgo : ltE r[k] x → ∀ w', Fr none_ w1 w' → X (i64 ((k : Int) + 1)) w' := fun hp w' hF => hX (n - 1) _ _ (by omega) ⟨k + 1, by simp, by omega, fun i h hi => by
      rcases Nat.lt_or_ge i k with h1 | h1
      · exact hk i h h1
      · have : i = k := by omega
        subst this
        exact decide_eq_true hp, hF⟩
    refine s_iaE hqd (by omega) (by simpa using hkl) fun b o c _ he => ?_
    simp only [Int.toNat_natCast, List.getElem_map] at he ⊢
    have hv := he.cell 0 (by simp [Ent.cells])
    rw [Nat.add_zero] at hv
    simp only [push_cast, Nat.reduceAdd, Nat.reduceLeDiff, Nat.reduceLT, Int.reduceToNat, Nat.left_eq_add, Nat.add_eq_left, Nat.add_left_cancel_iff, Nat.reduceEqDiff, Nat.add_assoc, Nat.succ_ne_zero, hv, hxd]
    refine br_dec (fun h1 => ?_) fun h1 => ?_
    · rw [wrap_i64 (by omega)]
      exact hgo (.inl h1) _ hFd
    simp only [push_cast, Nat.reduceAdd, Nat.reduceLeDiff, Nat.reduceLT, Int.reduceToNat, Nat.left_eq_add, Nat.add_eq_left, Nat.add_left_cancel_iff, Nat.reduceEqDiff, Nat.add_assoc, Nat.succ_ne_zero, htd.blk]
    refine s_iaE hqd (by omega) (by simpa using hkl) fun b o c _ he => ?_
    simp only [Int.toNat_natCast, List.getElem_map] at he ⊢
    have hv := he.cell 0 (by simp [Ent.cells])
    rw [Nat.add_zero] at hv
    simp only [push_cast, Nat.reduceAdd, Nat.reduceLeDiff, Nat.reduceLT, Int.reduceToNat, Nat.left_eq_add, Nat.add_eq_left, Nat.add_left_cancel_iff, Nat.reduceEqDiff, Nat.add_assoc, Nat.succ_ne_zero, hv, hxd]
    refine br_intro (fun h2 => ?_) fun h2 => ?_
    case refine_2 =>
      refine hend (fun hl => ?_) _ hFd
      rcases hl with hl | hl
      · exact h1 hl
      · simp [hl.1] at h2
    have h2 : r[k].vlan = x.vlan := by simpa using h2
    simp only [push_cast, Nat.reduceAdd, Nat.reduceLeDiff, Nat.reduceLT, Int.reduceToNat, Nat.left_eq_add, Nat.add_eq_left, Nat.add_left_cancel_iff, Nat.reduceEqDiff, Nat.add_assoc, Nat.succ_ne_zero, htd.blk]
    refine s_iaE hqd (by omega) (by simpa using hkl) fun b o c _ he => ?_
    simp only [Int.toNat_natCast, List.getElem_map] at he ⊢
    have hm := he.agg 1 6 (by simp [Ent.cells])
    rw [Nat.add_assoc] at hm
    simp only [push_cast, Nat.reduceAdd, Nat.reduceLeDiff, Nat.reduceLT, Int.reduceToNat, Nat.left_eq_add, Nat.add_eq_left, Nat.add_left_cancel_iff, Nat.reduceEqDiff, Nat.add_assoc, Nat.succ_ne_zero, hm, hxd]
    refine rcmp_spec hok.2.1 hx.2.1 fun w3 hF3 => ?_
    simp only [push_cast, Nat.reduceAdd, Nat.reduceLeDiff, Nat.reduceLT, Int.reduceToNat, Nat.left_eq_add, Nat.add_eq_left, Nat.add_left_cancel_iff, Nat.reduceEqDiff, Nat.add_assoc, Nat.succ_ne_zero]
    have hcm : cmpM r[k].mac x.mac < 0 ↔ macN r[k].mac < macN x.mac := by unfold cmpM; exact cmpI_lt
    refine br_dec (fun h3 => ?_) fun h3 => ?_
    · rw [wrap_i64 (by omega)]
      exact hgo (.inr ⟨h2, hcm.1 h3⟩) _ (hFd.trans hF3)
    · refine hend (fun hl => ?_) _ (hFd.trans hF3)
      rcases hl with hl | hl
      · exact h1 hl
      · exact h3 (hcm.2 hl.2)

theorem own_port {b o c n i : Nat} {es : List Ent} (ho : OwnE 40 10 w (.slice (some ⟨b, o, none⟩) n c) (es.map Ent.cells)) (hn : es.length = n) (hi : i < es.length) (v : Int) :
    okAt w.heap[b]? (o + i * 10 + 7) 1 = true ∧ OwnE 40 10 (wr w b (o + i * 10 + 7) [i64 v]) (.slice (some ⟨b, o, none⟩) n c) ((es.set i { es[i] with port := v }).map Ent.cells) := by
  have hl : (es.map Ent.cells).length = n := by rw [List.length_map]; exact hn
  rw [← hl] at ho ⊢
  obtain ⟨h1, h2⟩ := ho.putF (i := i) (f := 7) (by rw [List.length_map]; exact hi) (by decide) (i64 v)
  refine ⟨h1, ?_⟩
  have e : (es.set i { es[i] with port := v }).map Ent.cells = (es.map Ent.cells).set i ((es.map Ent.cells)[i].set 7 (i64 v)) := by
    rw [List.map_set, List.getElem_map]; rfl
  rw [e]
  exact h2
theorem own_at {b o c n i : Nat} {es : List Ent} (ho : OwnE 40 10 w (.slice (some ⟨b, o, none⟩) n c) (es.map Ent.cells)) (hn : es.length = n) (hi : i < es.length) (v : Int) :
    okAt w.heap[b]? (o + i * 10 + 8) 1 = true ∧ OwnE 40 10 (wr w b (o + i * 10 + 8) [i64 v]) (.slice (some ⟨b, o, none⟩) n c) ((es.set i { es[i] with at_ := v }).map Ent.cells) := by
  have hl : (es.map Ent.cells).length = n := by rw [List.length_map]; exact hn
  rw [← hl] at ho ⊢
  obtain ⟨h1, h2⟩ := ho.putF (i := i) (f := 8) (by rw [List.length_map]; exact hi) (by decide) (i64 v)
  refine ⟨h1, ?_⟩
  have e : (es.set i { es[i] with at_ := v }).map Ent.cells = (es.map Ent.cells).set i ((es.map Ent.cells)[i].set 8 (i64 v)) := by
    rw [List.map_set, List.getElem_map]; rfl
  rw [e]
  exact h2

theorem rlook_spec {q room : Nat} {L : Value} {r : List Ent} {v : Int} {m : Mac} (ht : RT w q room L r) (hs : Srt r) (hv : isI v) (hm : m.ok) (hn : r.length < 2 ^ 30)
    (h : ∀ w', Fr none_ w w' → K (.tuple #[.agg (lookL r (v, m)).1.cells.toArray, .bool (lookL r (v, m)).2]) w') :
    CallsR Tryz.prog 117 #[pt q 0, i64 v, .agg m.cells.toArray] K w := by
  apply c117
  unfold p117
  rw [opS_box]
  show opS Tryz.prog (S.alloc 40) _ (w.alloc (cellsO m.cells 24))
  have hF1 : Fr none_ w (w.alloc (cellsO m.cells 24)) := (by repeat' first | with_reducible exact Fr.refl _ _ | with_reducible refine Fr.step_alloc ?_ ?_ | with_reducible refine Fr.step_drew ?_ | with_reducible refine Fr.step_wr ?_ ?_ _ _ | exact rfl | exact Or.inr (by omega) | exact Or.inl rfl | exact Or.inl (Or.inl rfl) | exact Or.inl (Or.inr rfl))
  have hm0 : (w.alloc (cellsO m.cells 24)).heap[w.heap.size]? = some (cellsO m.cells 24) := by simp only [push_cast, Nat.reduceAdd, Nat.reduceLeDiff, Nat.reduceLT, Int.reduceToNat, Nat.left_eq_add, Nat.add_eq_left, Nat.add_left_cancel_iff, Nat.reduceEqDiff, Nat.add_assoc, Nat.succ_ne_zero]
  replace ht := ht.fr0 hF1
  generalize w.alloc (cellsO m.cells 24) = W at *
  rw [zalloc_ent]
  have hF2 : Fr none_ W (W.alloc (cellsO zE.cells 40)) := (by repeat' first | with_reducible exact Fr.refl _ _ | with_reducible refine Fr.step_alloc ?_ ?_ | with_reducible refine Fr.step_drew ?_ | with_reducible refine Fr.step_wr ?_ ?_ _ _ | exact rfl | exact Or.inr (by omega) | exact Or.inl rfl | exact Or.inl (Or.inl rfl) | exact Or.inl (Or.inr rfl))
  have hz0 : (W.alloc (cellsO zE.cells 40)).heap[W.heap.size]? = some (cellsO zE.cells 40) := by simp only [push_cast, Nat.reduceAdd, Nat.reduceLeDiff, Nat.reduceLT, Int.reduceToNat, Nat.left_eq_add, Nat.add_eq_left, Nat.add_left_cancel_iff, Nat.reduceEqDiff, Nat.add_assoc, Nat.succ_ne_zero]
  replace hm0 := hF2.heap hm0 fun h => h
  replace ht := ht.fr0 hF2
  have hF := hF1.trans hF2
  have hwW := hF1.size
  generalize W.alloc (cellsO zE.cells 40) = w1 at *
  generalize W.heap.size = sl at *
  simp only [push_cast, Nat.reduceAdd, Nat.reduceLeDiff, Nat.reduceLT, Int.reduceToNat, Nat.left_eq_add, Nat.add_eq_left, Nat.add_left_cancel_iff, Nat.reduceEqDiff, Nat.add_assoc, Nat.succ_ne_zero, hm0]
  unfold lookL at h
  refine rfind_spec (k := (v, m)) ht hs.2 ⟨hv, hm⟩ hn (fun hno w3 hF3 => ?_) fun i hi hk w3 hF3 => ?_
  · rw [atK_none hno] at h
    have hz3 := hF3.heap hz0 fun h => h
    simp only [push_cast, Nat.reduceAdd, Nat.reduceLeDiff, Nat.reduceLT, Int.reduceToNat, Nat.left_eq_add, Nat.add_eq_left, Nat.add_left_cancel_iff, Nat.reduceEqDiff, Nat.add_assoc, Nat.succ_ne_zero]
    refine br_dec (fun _ => ?_) fun hg => absurd (by decide) hg
    rw [build_zE, s_stA _ _ _ (Ent.cells_length _) (Ent.cells_one _)]
    simp only [push_cast, Nat.reduceAdd, Nat.reduceLeDiff, Nat.reduceLT, Int.reduceToNat, Nat.left_eq_add, Nat.add_eq_left, Nat.add_left_cancel_iff, Nat.reduceEqDiff, Nat.add_assoc, Nat.succ_ne_zero, hz3]
    exact h _ ((hF.trans hF3).step_wr (.inr (by omega)) _ _)
  · rw [atK_some hs (List.getElem_mem hi) hk] at h
    have hz3 := hF3.heap hz0 fun h => h
    have ht3 := ht.fr0 hF3
    simp only [push_cast, Nat.reduceAdd, Nat.reduceLeDiff, Nat.reduceLT, Int.reduceToNat, Nat.left_eq_add, Nat.add_eq_left, Nat.add_left_cancel_iff, Nat.reduceEqDiff, Nat.add_assoc, Nat.succ_ne_zero]
    refine br_dec (fun hg => by omega) fun _ => ?_
    simp only [push_cast, Nat.reduceAdd, Nat.reduceLeDiff, Nat.reduceLT, Int.reduceToNat, Nat.left_eq_add, Nat.add_eq_left, Nat.add_left_cancel_iff, Nat.reduceEqDiff, Nat.add_assoc, Nat.succ_ne_zero, ht3.blk]
    refine s_iaE ht3.own.rd (by omega) (by simpa using hi) fun b o c _ he => ?_
    simp only [Int.toNat_natCast, List.getElem_map] at he ⊢
    rw [s_ldN (by decide), he.agg0 (Ent.cells_length _), onS_some, s_stA _ _ _ (Ent.cells_length _) (Ent.cells_one _)]
    simp only [push_cast, Nat.reduceAdd, Nat.reduceLeDiff, Nat.reduceLT, Int.reduceToNat, Nat.left_eq_add, Nat.add_eq_left, Nat.add_left_cancel_iff, Nat.reduceEqDiff, Nat.add_assoc, Nat.succ_ne_zero, hz3]
    exact h _ ((hF.trans hF3).step_wr (.inr (by omega)) _ _)

end Go.Gx.S

namespace Go.Gx.S
open Go Go.Gx Go.Proofs
variable {K : Value → World → Prop} {w : World}

theorem RT.none {fp : Nat → Prop} {w w' : World} (h : Fr none_ w w') : Fr fp w w' := h.mono fun _ _ e => e.elim

theorem rlearn_spec {q room : Nat} {L : Value} {r : List Ent} {v a t : Int} {m : Mac} (ht : RT w q room L r) (hs : Srt r) (hv : isI v) (hm : m.ok) (ha : isI a) (htt : isI t) (hn : r.length ≤ 2 ^ 20) (hrm : room ≤ 2 ^ 20)
    (h : ∀ w' L', RT w' q room L' (learnL room r v m a t).1 → NewOr w L L' → Fr (rp q L) w w' → K (.tuple #[i64 (learnL room r v m a t).2.1, i64 (learnL room r v m a t).2.2]) w') :
    CallsR Tryz.prog 129 #[pt q 0, i64 v, .agg m.cells.toArray, i64 a, i64 t] K w := by
  apply c129
  unfold p129
  simp only [push_cast, Nat.reduceAdd, Nat.reduceLeDiff, Nat.reduceLT, Int.reduceToNat, Nat.left_eq_add, Nat.add_eq_left, Nat.add_left_cancel_iff, Nat.reduceEqDiff, Nat.add_assoc, Nat.succ_ne_zero]
  have hq0 := lt_of_heap ht.blk
  have hF : Fr none_ w (w.alloc (cellsO m.cells 24)) := (by repeat' first | with_reducible exact Fr.refl _ _ | with_reducible refine Fr.step_alloc ?_ ?_ | with_reducible refine Fr.step_drew ?_ | with_reducible refine Fr.step_wr ?_ ?_ _ _ | exact rfl | exact Or.inr (by omega) | exact Or.inl rfl | exact Or.inl (Or.inl rfl) | exact Or.inl (Or.inr rfl))
  have hm0 : (w.alloc (cellsO m.cells 24)).heap[w.heap.size]? = some (cellsO m.cells 24) := by simp only [push_cast, Nat.reduceAdd, Nat.reduceLeDiff, Nat.reduceLT, Int.reduceToNat, Nat.left_eq_add, Nat.add_eq_left, Nat.add_left_cancel_iff, Nat.reduceEqDiff, Nat.add_assoc, Nat.succ_ne_zero]
  replace ht := ht.fr0 hF
  generalize w.alloc (cellsO m.cells 24) = W at *
  refine rright_spec hm fun w2 hF2 => ?_
  replace ht := ht.fr0 hF2
  replace hm0 := hF2.heap hm0 fun h => h
  replace hF := hF.trans hF2
  unfold learnL at h
  have same : NewOr w L L := fun b hb => .inl hb
  simp only [push_cast, Nat.reduceAdd, Nat.reduceLeDiff, Nat.reduceLT, Int.reduceToNat, Nat.left_eq_add, Nat.add_eq_left, Nat.add_left_cancel_iff, Nat.reduceEqDiff, Nat.add_assoc, Nat.succ_ne_zero]
  cases hr : rightB v m a with
  | false =>
    rw [hr, Bool.false_and] at h
    simp only [push_cast, Nat.reduceAdd, Nat.reduceLeDiff, Nat.reduceLT, Int.reduceToNat, Nat.left_eq_add, Nat.add_eq_left, Nat.add_left_cancel_iff, Nat.reduceEqDiff, Nat.add_assoc, Nat.succ_ne_zero, Bool.not_false]
    exact h _ L ht same (RT.none hF)
  | true =>
  rw [hr, Bool.true_and] at h
  simp only [push_cast, Nat.reduceAdd, Nat.reduceLeDiff, Nat.reduceLT, Int.reduceToNat, Nat.left_eq_add, Nat.add_eq_left, Nat.add_left_cancel_iff, Nat.reduceEqDiff, Nat.add_assoc, Nat.succ_ne_zero, Bool.not_true]
  refine br_dec (fun h1 => ?_) fun h1 => ?_
  · have : timedB t = false := by
      cases e : timedB t
      · rfl
      · have := timedB_iff.1 e; omega
    rw [this] at h
    exact h _ L ht same (RT.none hF)
  refine br_dec (fun h2 => ?_) fun h2 => ?_
  · have : timedB t = false := by
      cases e : timedB t
      · rfl
      · have := timedB_iff.1 e; omega
    rw [this] at h
    exact h _ L ht same (RT.none hF)
  have htm : timedB t = true := timedB_iff.2 ⟨by omega, by omega⟩
  rw [htm, if_pos rfl] at h
  simp only [push_cast, Nat.reduceAdd, Nat.reduceLeDiff, Nat.reduceLT, Int.reduceToNat, Nat.left_eq_add, Nat.add_eq_left, Nat.add_left_cancel_iff, Nat.reduceEqDiff, Nat.add_assoc, Nat.succ_ne_zero, hm0]
  have hok : (⟨v, m, a, t, false⟩ : Ent).ok := ⟨hv, hm, ha, htt⟩
  refine rfind_spec (k := (v, m)) ht hs.2 ⟨hv, hm⟩ (by omega) (fun hno w3 hF3 => ?_) fun i hi hk w3 hF3 => ?_
  · rw [atK_none hno] at h
    replace ht := ht.fr0 hF3
    replace hm0 := hF3.heap hm0 fun h => h
    replace hF := hF.trans hF3
    have hblk := ht.blk
    obtain ⟨la, lc, hL⟩ := ht.own.rd.form
    rw [List.length_map] at hL
    simp only [push_cast, Nat.reduceAdd, Nat.reduceLeDiff, Nat.reduceLT, Int.reduceToNat, Nat.left_eq_add, Nat.add_eq_left, Nat.add_left_cancel_iff, Nat.reduceEqDiff, Nat.add_assoc, Nat.succ_ne_zero]
    refine br_dec (fun hg => absurd hg (by decide)) fun _ => ?_
    rw [hL] at hblk
    simp only [push_cast, Nat.reduceAdd, Nat.reduceLeDiff, Nat.reduceLT, Int.reduceToNat, Nat.left_eq_add, Nat.add_eq_left, Nat.add_left_cancel_iff, Nat.reduceEqDiff, Nat.add_assoc, Nat.succ_ne_zero, hblk]
    refine br_dec (fun hfull => ?_) fun hfull => ?_
    · simp only [if_pos (show room ≤ r.length by omega)] at h
      exact h _ L (ht.fr0 (Fr.drew w3)) same (RT.none (hF.trans (Fr.drew w3)))
    simp only [if_neg (show ¬ room ≤ r.length by omega)] at h
    simp only [push_cast, Nat.reduceAdd, Nat.reduceLeDiff, Nat.reduceLT, Int.reduceToNat, Nat.left_eq_add, Nat.add_eq_left, Nat.add_left_cancel_iff, Nat.reduceEqDiff, Nat.add_assoc, Nat.succ_ne_zero, hm0]
    rw [build_lrn]
    simp only [push_cast, Nat.reduceAdd, Nat.reduceLeDiff, Nat.reduceLT, Int.reduceToNat, Nat.left_eq_add, Nat.add_eq_left, Nat.add_left_cancel_iff, Nat.reduceEqDiff, Nat.add_assoc, Nat.succ_ne_zero]
    refine rins_spec (ht.fr0 (Fr.drew w3)) hs.2 hok hno (by omega) fun w4 L' ht4 hN4 hF4 => ?_
    have hsz := (hF.trans (Fr.drew w3)).size
    exact h _ L' ht4 (fun b hb => .inr (Nat.le_trans hsz (hN4 b hb))) ((RT.none (hF.trans (Fr.drew w3))).trans_new hF4 fun b _ e => .inl e)
  · rw [atK_some hs (List.getElem_mem hi) hk] at h
    replace ht := ht.fr0 hF3
    replace hF := hF.trans hF3
    obtain ⟨lb, lo, lc, hL⟩ := ht.own.form' (by rw [List.length_map]; omega)
    rw [List.length_map] at hL
    subst hL
    simp only [push_cast, Nat.reduceAdd, Nat.reduceLeDiff, Nat.reduceLT, Int.reduceToNat, Nat.left_eq_add, Nat.add_eq_left, Nat.add_left_cancel_iff, Nat.reduceEqDiff, Nat.add_assoc, Nat.succ_ne_zero]
    refine br_dec (fun _ => ?_) fun hg => absurd (by omega) hg
    simp only [push_cast, Nat.reduceAdd, Nat.reduceLeDiff, Nat.reduceLT, Int.reduceToNat, Nat.left_eq_add, Nat.add_eq_left, Nat.add_left_cancel_iff, Nat.reduceEqDiff, Nat.add_assoc, Nat.succ_ne_zero, ht.blk]
    have hml : r.length = (r.map Ent.cells).length := (List.length_map _).symm
    refine s_iaE ht.own.rd (by omega) (by simpa using hi) fun b o c hvv he => ?_
    simp only [Value.slice.injEq, Option.some.injEq, Addr.mk.injEq] at hvv
    obtain ⟨⟨rfl, rfl, _⟩, _, rfl⟩ := hvv
    simp only [Int.toNat_natCast, List.getElem_map] at he ⊢
    have hst := he.cell 9 (by simp [Ent.cells])
    rw [Nat.add_assoc] at hst
    simp only [push_cast, Nat.reduceAdd, Nat.reduceLeDiff, Nat.reduceLT, Int.reduceToNat, Nat.left_eq_add, Nat.add_eq_left, Nat.add_left_cancel_iff, Nat.reduceEqDiff, Nat.add_assoc, Nat.succ_ne_zero, hst]
    refine br_intro (fun hs2 => ?_) fun hs2 => ?_
    · simp only [hs2, if_true] at h
      exact h _ _ ht same (RT.none hF)
    simp only [hs2, Bool.false_eq_true, if_false] at h
    have hlq : lb ≠ q := ht.ne lb rfl
    have hql : ¬ q = lb := fun e => hlq e.symm
    simp only [push_cast, Nat.reduceAdd, Nat.reduceLeDiff, Nat.reduceLT, Int.reduceToNat, Nat.left_eq_add, Nat.add_eq_left, Nat.add_left_cancel_iff, Nat.reduceEqDiff, Nat.add_assoc, Nat.succ_ne_zero, ht.blk]
    refine s_iaE ht.own.rd (by omega) (by simpa using hi) fun b o c hvv he => ?_
    simp only [Value.slice.injEq, Option.some.injEq, Addr.mk.injEq] at hvv
    obtain ⟨⟨rfl, rfl, _⟩, _, rfl⟩ := hvv
    simp only [Int.toNat_natCast, List.getElem_map] at he ⊢
    have hpo := he.cell 7 (by simp [Ent.cells])
    rw [Nat.add_assoc] at hpo
    simp only [push_cast, Nat.reduceAdd, Nat.reduceLeDiff, Nat.reduceLT, Int.reduceToNat, Nat.left_eq_add, Nat.add_eq_left, Nat.add_left_cancel_iff, Nat.reduceEqDiff, Nat.add_assoc, Nat.succ_ne_zero, hpo, ht.blk]
    refine s_iaE ht.own.rd (by omega) (by simpa using hi) fun b o c hvv _ => ?_
    simp only [Value.slice.injEq, Option.some.injEq, Addr.mk.injEq] at hvv
    obtain ⟨⟨rfl, rfl, _⟩, _, rfl⟩ := hvv
    obtain ⟨ok1, own1⟩ := own_port ht.own rfl hi a
    rw [Nat.add_assoc] at ok1 own1
    simp only [Int.toNat_natCast]
    simp only [push_cast, Nat.reduceAdd, Nat.reduceLeDiff, Nat.reduceLT, Int.reduceToNat, Nat.left_eq_add, Nat.add_eq_left, Nat.add_left_cancel_iff, Nat.reduceEqDiff, Nat.add_assoc, Nat.succ_ne_zero, ok1, hql, ht.blk]
    have hb1 : (wr w3 lb (lo + (i * 10 + 7)) [i64 a]).heap[q]? = some (cellsO [i64 room, .slice (some ⟨lb, lo, none⟩) r.length lc] 118) := by simp only [push_cast, Nat.reduceAdd, Nat.reduceLeDiff, Nat.reduceLT, Int.reduceToNat, Nat.left_eq_add, Nat.add_eq_left, Nat.add_left_cancel_iff, Nat.reduceEqDiff, Nat.add_assoc, Nat.succ_ne_zero, hql, ht.blk]
    have hF4 : Fr (rp q (.slice (some ⟨lb, lo, none⟩) r.length lc)) w (wr w3 lb (lo + (i * 10 + 7)) [i64 a]) := (RT.none hF).step_wr (.inl (.inr rfl)) _ _
    generalize wr w3 lb (lo + (i * 10 + 7)) [i64 a] = w4 at *
    refine s_iaE own1.rd (by omega) (by simpa using hi) fun b o c hvv _ => ?_
    simp only [Value.slice.injEq, Option.some.injEq, Addr.mk.injEq] at hvv
    obtain ⟨⟨rfl, rfl, _⟩, _, rfl⟩ := hvv
    obtain ⟨ok2, own2⟩ := own_at own1 (by rw [List.length_set]) (show i < _ by rw [List.length_set]; exact hi) t
    rw [Nat.add_assoc] at ok2 own2
    simp only [Int.toNat_natCast]
    simp only [push_cast, Nat.reduceAdd, Nat.reduceLeDiff, Nat.reduceLT, Int.reduceToNat, Nat.left_eq_add, Nat.add_eq_left, Nat.add_left_cancel_iff, Nat.reduceEqDiff, Nat.add_assoc, Nat.succ_ne_zero, ok2]
    rw [List.getElem_set_self, List.set_set] at own2
    have hent : ({ { r[i] with port := a } with at_ := t } : Ent) = ⟨v, m, a, t, false⟩ := by
      have h3 := congrArg Prod.fst hk
      have h4 := congrArg Prod.snd hk
      unfold eKey at h3 h4
      simp only at h3 h4
      rw [← h3, ← h4]
      exact Ent.ext rfl rfl rfl rfl hs2
    rw [hent, set_with hs hi (x := ⟨v, m, a, t, false⟩) hk hok] at own2
    have hb2 : (wr w4 lb (lo + (i * 10 + 8)) [i64 t]).heap[q]? = some (cellsO [i64 room, .slice (some ⟨lb, lo, none⟩) r.length lc] 118) := by simp only [push_cast, Nat.reduceAdd, Nat.reduceLeDiff, Nat.reduceLT, Int.reduceToNat, Nat.left_eq_add, Nat.add_eq_left, Nat.add_left_cancel_iff, Nat.reduceEqDiff, Nat.add_assoc, Nat.succ_ne_zero, hql, hb1]
    have hF5 : Fr (rp q (.slice (some ⟨lb, lo, none⟩) r.length lc)) w (wr w4 lb (lo + (i * 10 + 8)) [i64 t]) := hF4.step_wr (.inl (.inr rfl)) _ _
    have h' := h _ _ ⟨hb2, own2, ht.ne⟩ same hF5
    refine br_intro (fun hne => ?_) fun hne => ?_
    · rw [if_pos (by simpa using hne)] at h'
      exact h'
    · rw [if_neg (by simpa using hne)] at h'
      exact h'

theorem rput_spec {q room : Nat} {L : Value} {r : List Ent} {v a : Int} {m : Mac} (ht : RT w q room L r) (hs : Srt r) (hv : isI v) (hm : m.ok) (ha : isI a) (hn : r.length ≤ 2 ^ 20) (hrm : room ≤ 2 ^ 20)
    (h : ∀ w' L', RT w' q room L' (putL room r v m a).1 → NewOr w L L' → Fr (rp q L) w w' → K (i64 (putL room r v m a).2) w') :
    CallsR Tryz.prog 65 #[pt q 0, i64 v, .agg m.cells.toArray, i64 a] K w := by
  apply c65
  unfold p65
  simp only [push_cast, Nat.reduceAdd, Nat.reduceLeDiff, Nat.reduceLT, Int.reduceToNat, Nat.left_eq_add, Nat.add_eq_left, Nat.add_left_cancel_iff, Nat.reduceEqDiff, Nat.add_assoc, Nat.succ_ne_zero]
  have hq0 := lt_of_heap ht.blk
  have hF : Fr none_ w (w.alloc (cellsO m.cells 24)) := (by repeat' first | with_reducible exact Fr.refl _ _ | with_reducible refine Fr.step_alloc ?_ ?_ | with_reducible refine Fr.step_drew ?_ | with_reducible refine Fr.step_wr ?_ ?_ _ _ | exact rfl | exact Or.inr (by omega) | exact Or.inl rfl | exact Or.inl (Or.inl rfl) | exact Or.inl (Or.inr rfl))
  have hm0 : (w.alloc (cellsO m.cells 24)).heap[w.heap.size]? = some (cellsO m.cells 24) := by simp only [push_cast, Nat.reduceAdd, Nat.reduceLeDiff, Nat.reduceLT, Int.reduceToNat, Nat.left_eq_add, Nat.add_eq_left, Nat.add_left_cancel_iff, Nat.reduceEqDiff, Nat.add_assoc, Nat.succ_ne_zero]
  replace ht := ht.fr0 hF
  generalize w.alloc (cellsO m.cells 24) = W at *
  refine rright_spec hm fun w2 hF2 => ?_
  replace ht := ht.fr0 hF2
  replace hm0 := hF2.heap hm0 fun h => h
  replace hF := hF.trans hF2
  unfold putL at h
  have same : NewOr w L L := fun b hb => .inl hb
  simp only [push_cast, Nat.reduceAdd, Nat.reduceLeDiff, Nat.reduceLT, Int.reduceToNat, Nat.left_eq_add, Nat.add_eq_left, Nat.add_left_cancel_iff, Nat.reduceEqDiff, Nat.add_assoc, Nat.succ_ne_zero]
  cases hr : rightB v m a with
  | false =>
    rw [hr] at h
    simp only [push_cast, Nat.reduceAdd, Nat.reduceLeDiff, Nat.reduceLT, Int.reduceToNat, Nat.left_eq_add, Nat.add_eq_left, Nat.add_left_cancel_iff, Nat.reduceEqDiff, Nat.add_assoc, Nat.succ_ne_zero, Bool.not_false]
    exact h _ L ht same (RT.none hF)
  | true =>
  rw [hr, if_pos rfl] at h
  simp only [push_cast, Nat.reduceAdd, Nat.reduceLeDiff, Nat.reduceLT, Int.reduceToNat, Nat.left_eq_add, Nat.add_eq_left, Nat.add_left_cancel_iff, Nat.reduceEqDiff, Nat.add_assoc, Nat.succ_ne_zero, Bool.not_true, hm0]
  have hok : (⟨v, m, a, 0, true⟩ : Ent).ok := ⟨hv, hm, ha, isI_iff.2 (show (-9223372036854775808 : Int) ≤ 0 ∧ (0 : Int) ≤ 9223372036854775807 by decide)⟩
  rw [build_put]
  refine ent_slot fun _ w3 hx3 hF3 => ?_
  replace ht := ht.fr0 hF3
  replace hm0 := hF3.heap hm0 fun h => h
  replace hF := hF.trans hF3
  generalize w2.heap.size = sl at *
  simp only [push_cast, Nat.reduceAdd, Nat.reduceLeDiff, Nat.reduceLT, Int.reduceToNat, Nat.left_eq_add, Nat.add_eq_left, Nat.add_left_cancel_iff, Nat.reduceEqDiff, Nat.add_assoc, Nat.succ_ne_zero, hm0]
  refine rfind_spec (k := (v, m)) ht hs.2 ⟨hv, hm⟩ (by omega) (fun hno w4 hF4 => ?_) fun i hi hk w4 hF4 => ?_
  · rw [atK_none hno] at h
    replace ht := ht.fr0 hF4
    replace hx3 := hF4.heap hx3 fun h => h
    replace hF := hF.trans hF4
    have hblk := ht.blk
    obtain ⟨la, lc, hL⟩ := ht.own.rd.form
    rw [List.length_map] at hL
    simp only [push_cast, Nat.reduceAdd, Nat.reduceLeDiff, Nat.reduceLT, Int.reduceToNat, Nat.left_eq_add, Nat.add_eq_left, Nat.add_left_cancel_iff, Nat.reduceEqDiff, Nat.add_assoc, Nat.succ_ne_zero]
    refine br_dec (fun hg => absurd hg (by decide)) fun _ => ?_
    rw [hL] at hblk
    simp only [push_cast, Nat.reduceAdd, Nat.reduceLeDiff, Nat.reduceLT, Int.reduceToNat, Nat.left_eq_add, Nat.add_eq_left, Nat.add_left_cancel_iff, Nat.reduceEqDiff, Nat.add_assoc, Nat.succ_ne_zero, hblk]
    refine br_dec (fun hfull => ?_) fun hfull => ?_
    · simp only [if_pos (show room ≤ r.length by omega)] at h
      exact h _ L (ht.fr0 (Fr.drew w4)) same (RT.none (hF.trans (Fr.drew w4)))
    simp only [if_neg (show ¬ room ≤ r.length by omega)] at h
    simp only [push_cast, Nat.reduceAdd, Nat.reduceLeDiff, Nat.reduceLT, Int.reduceToNat, Nat.left_eq_add, Nat.add_eq_left, Nat.add_left_cancel_iff, Nat.reduceEqDiff, Nat.add_assoc, Nat.succ_ne_zero, hx3]
    refine rins_spec (ht.fr0 (Fr.drew w4)) hs.2 hok hno (by omega) fun w5 L' ht5 hN5 hF5 => ?_
    have hsz := (hF.trans (Fr.drew w4)).size
    exact h _ L' ht5 (fun b hb => .inr (Nat.le_trans hsz (hN5 b hb))) ((RT.none (hF.trans (Fr.drew w4))).trans_new hF5 fun b _ e => .inl e)
  · rw [atK_some hs (List.getElem_mem hi) hk] at h
    replace ht := ht.fr0 hF4
    replace hx3 := hF4.heap hx3 fun h => h
    replace hF := hF.trans hF4
    obtain ⟨lb, lo, lc, hL⟩ := ht.own.form' (by rw [List.length_map]; omega)
    rw [List.length_map] at hL
    subst hL
    simp only [push_cast, Nat.reduceAdd, Nat.reduceLeDiff, Nat.reduceLT, Int.reduceToNat, Nat.left_eq_add, Nat.add_eq_left, Nat.add_left_cancel_iff, Nat.reduceEqDiff, Nat.add_assoc, Nat.succ_ne_zero]
    refine br_dec (fun _ => ?_) fun hg => absurd (by omega) hg
    simp only [push_cast, Nat.reduceAdd, Nat.reduceLeDiff, Nat.reduceLT, Int.reduceToNat, Nat.left_eq_add, Nat.add_eq_left, Nat.add_left_cancel_iff, Nat.reduceEqDiff, Nat.add_assoc, Nat.succ_ne_zero, ht.blk, hx3]
    refine s_putE (ht.own.fr (Fr.drew (fp := none_) w4) fun _ _ h => h) rfl hi fun w5 ho5 hF5 => ?_
    rw [set_with hs hi (x := ⟨v, m, a, 0, true⟩) hk hok] at ho5
    have hlq : lb ≠ q := ht.ne lb rfl
    have hb5 := hF5.heap ((Fr.drew (fp := none_) w4).heap ht.blk fun h => h) fun e => hlq e.symm
    exact h _ _ ⟨hb5, ho5, ht.ne⟩ same ((RT.none (hF.trans (Fr.drew w4))).trans_new hF5 fun b _ e => .inr (by rw [e]; rfl))

/-! ### Remove: in any order -/

section
variable {w0 : World} {q room : Nat} {L : Value} {r : List Ent}
theorem rm_ld (hR : RT w0 q room L r) (hF : Fr none_ w0 w) (hk : K L w) : opS Tryz.prog (S.ld 51 (pt q 1)) K w := by
  have := hF.heap hR.blk fun h => h
  simp only [push_cast, Nat.reduceAdd, Nat.reduceLeDiff, Nat.reduceLT, Int.reduceToNat, Nat.left_eq_add, Nat.add_eq_left, Nat.add_left_cancel_iff, Nat.reduceEqDiff, Nat.add_assoc, Nat.succ_ne_zero, this]
  exact hk
theorem rm_bs (hF : Fr none_ w0 w) (hk : ∀ v w', OwnE 40 10 w' v (([] : List Ent).map Ent.cells) → New w0 v → Fr none_ w0 w' → K v w') : opS Tryz.prog (S.buildS 51 0 []) K w :=
  s_bs0 (sz := 10) fun v w' ho hF' hN => hk v w' ho (fun b hb => Nat.le_trans hF.size (hN b hb)) (hF.trans hF')
theorem rm_slcH (hR : RT w0 q room L r) {i : Nat} (hi : i ≤ r.length) (hk : ∀ v, RdE 10 w0 v ((r.take i).map Ent.cells) → K v w) : opS Tryz.prog (S.slc 51 L none (some (i64 i)) none) K w := by
  have hr := hR.own.rd
  obtain ⟨a, c, rfl, hc⟩ := hr.cap
  have hl : (r.map Ent.cells).length = r.length := List.length_map _
  rw [opS_slice (run_boundsH (hi := (i : Int)) (by omega) (by omega))]
  have := hr.part (l := 0) (m := i) (by omega) (by omega)
  have e : (r.map Ent.cells).take i = (r.take i).map Ent.cells := List.map_take.symm
  rw [List.drop_zero, e] at this
  exact hk _ this
theorem rm_slcL (hR : RT w0 q room L r) {i : Nat} {x : Int} (hx : x = i) (hi : i ≤ r.length) (hk : ∀ v, RdE 10 w0 v ((r.drop i).map Ent.cells) → K v w) : opS Tryz.prog (S.slc 51 L (some (i64 x)) none none) K w := by
  subst hx
  have hr := hR.own.rd
  obtain ⟨a, c, rfl, hc⟩ := hr.cap
  have hl : (r.map Ent.cells).length = r.length := List.length_map _
  rw [opS_slice (run_boundsL (lo := (i : Int)) (by omega) (by omega))]
  have := hr.part (l := i) (m := (r.map Ent.cells).length) (by omega) (Nat.le_refl _)
  have e : (r.map Ent.cells).drop i = (r.drop i).map Ent.cells := List.map_drop.symm
  rw [List.take_length, e] at this
  exact hk _ this
theorem rm_app {l g : List Ent} {v u : Value} (ho : OwnE 40 10 w v (l.map Ent.cells)) (hN : New w0 v) (hF : Fr none_ w0 w) (hu : RdE 10 w0 u (g.map Ent.cells)) (hl : l.length + g.length ≤ 2 ^ 21)
    (hk : ∀ v' w', OwnE 40 10 w' v' ((l ++ g).map Ent.cells) → New w0 v' → Fr none_ w0 w' → K v' w') : opS Tryz.prog (S.bi .append #[51, 51] 51 [v, u]) K w := by
  refine s_app (sz := 10) (by_ := 40) (z := .agg zE.cells.toArray) rfl (by decide) ho (hu.fr hF fun _ _ h => h) (ents_one _) (by rw [List.length_map, List.length_map]; omega) fun v' w' ho' hb' hF' => hk v' w' (by rw [List.map_append]; exact ho') (fun b hb => ?_) (hF.trans_new hF' fun b hb e => by have := hN _ e; omega)
  rcases hb' with hb' | hb'
  · exact hN b (hb' ▸ hb)
  · exact Nat.le_trans hF.size (hb' b hb)
end

end Go.Gx.S

namespace Go.Gx.S
open Go Go.Gx Go.Proofs
variable {K : Value → World → Prop} {w : World}

/-- how it is told of a kind: 0 old, 1 a port, 2 a VLAN -/
def KindA (kind a b : Int) (A : Ent → Bool) (r : List Ent) : Prop :=
  (kind = 0 ∧ (-4611686018427387904 ≤ a - b ∧ a - b ≤ 4611686018427387904) ∧ ∀ e ∈ r, A e = decide (e.at_ ≤ a - b)) ∨ (kind = 1 ∧ ∀ e, A e = (e.port == a)) ∨ (kind = 2 ∧ ∀ e, A e = (e.vlan == a))

theorem rforget_spec {q room : Nat} {L : Value} {r : List Ent} {A : Ent → Bool} {kind a b : Int} (ht : RT w q room L r) (hro : ∀ e ∈ r, e.ok) (hA : KindA kind a b A r) (hn : r.length ≤ 2 ^ 20)
    (h : ∀ w' L' v, RT w' q room L' (r.filter fun e => !(A e && !e.static)) → RdE 10 w' v ((r.filter fun e => A e && !e.static).map Ent.cells) → New w L' → New w v → (∀ x, blkS v = some x → blkS L' ≠ some x) → Fr (fun x => x = q) w w' → K v w') :
    CallsR Tryz.prog 92 #[pt q 0, i64 kind, i64 a, i64 b] K w := by
  apply c92
  unfold p92
  have hq0 := lt_of_heap ht.blk
  obtain ⟨la, lc, hL⟩ := ht.own.rd.form
  rw [List.length_map] at hL
  subst hL
  refine jn2 (fun x y w' => OwnE 40 10 w' x ((r.filter fun e => !(A e && !e.static)).map Ent.cells) ∧ OwnE 40 10 w' y ((r.filter fun e => A e && !e.static).map Ent.cells) ∧ New w x ∧ New w y ∧ (∀ z, blkS x = some z → blkS y ≠ some z) ∧ Fr none_ w w') ?_ fun j hj => ?_
  · rintro x y w2 ⟨ox, oy, nx, ny, nxy, hF2⟩
    have ht2 := ht.fr0 hF2
    have hone := ox.one
    simp only [push_cast, Nat.reduceAdd, Nat.reduceLeDiff, Nat.reduceLT, Int.reduceToNat, Nat.left_eq_add, Nat.add_eq_left, Nat.add_left_cancel_iff, Nat.reduceEqDiff, Nat.add_assoc, Nat.succ_ne_zero, ht2.blk, hone]
    refine h _ x y ⟨?_, ?_, fun b hb e => by have := nx b hb; omega⟩ ?_ nx ny (fun z hz hx => nxy z hx hz) (Fr.step_wr (fp := fun x => x = q) (RT.none hF2) (.inl rfl) _ _)
    · simp only [push_cast, Nat.reduceAdd, Nat.reduceLeDiff, Nat.reduceLT, Int.reduceToNat, Nat.left_eq_add, Nat.add_eq_left, Nat.add_left_cancel_iff, Nat.reduceEqDiff, Nat.add_assoc, Nat.succ_ne_zero, ht2.blk]
    · refine ox.frame fun b hb => ?_
      have hbq : ¬ b = q := fun e => by have := nx b hb; omega
      simp only [push_cast, Nat.reduceAdd, Nat.reduceLeDiff, Nat.reduceLT, Int.reduceToNat, Nat.left_eq_add, Nat.add_eq_left, Nat.add_left_cancel_iff, Nat.reduceEqDiff, Nat.add_assoc, Nat.succ_ne_zero, hbq]
    · refine (oy.frame fun b hb => ?_).rd
      have hbq : ¬ b = q := fun e => by have := ny b hb; omega
      simp only [push_cast, Nat.reduceAdd, Nat.reduceLeDiff, Nat.reduceLT, Int.reduceToNat, Nat.left_eq_add, Nat.add_eq_left, Nat.add_left_cancel_iff, Nat.reduceEqDiff, Nat.add_assoc, Nat.succ_ne_zero, hbq]
  refine loop3 (fun n x y z w' => ∃ i : Nat, z = i64 i ∧ n + i = r.length ∧ OwnE 40 10 w' x (((r.take i).filter fun e => !(A e && !e.static)).map Ent.cells) ∧ OwnE 40 10 w' y (((r.take i).filter fun e => A e && !e.static).map Ent.cells) ∧ New w x ∧ New w y ∧ (∀ z, blkS x = some z → blkS y ≠ some z) ∧ Fr none_ w w') ?_ r.length
    ⟨0, rfl, rfl, own_nil _ _ _, own_nil _ _ _, (fun _ hb => by cases hb), (fun _ hb => by cases hb), (fun _ hb => by cases hb), Fr.refl _ _⟩
  rintro n x y z w2 X ⟨i, rfl, hi, ox, oy, nx, ny, nxy, hF2⟩ hX
  have ht2 := ht.fr0 hF2
  simp only [push_cast, Nat.reduceAdd, Nat.reduceLeDiff, Nat.reduceLT, Int.reduceToNat, Nat.left_eq_add, Nat.add_eq_left, Nat.add_left_cancel_iff, Nat.reduceEqDiff, Nat.add_assoc, Nat.succ_ne_zero, ht2.blk]
  refine br_dec (fun hlt => ?_) fun hge => ?_
  case refine_2 =>
    have : i = r.length := by omega
    subst this
    rw [List.take_length] at ox oy
    exact hj _ _ _ ⟨ox, oy, nx, ny, nxy, hF2⟩
  have hil : i < r.length := by omega
  have hok := hro _ (List.getElem_mem hil)
  have hAe : KindA kind a b A [r[i]] := by
    rcases hA with ⟨h1, h2, h3⟩ | h1 | h1
    · exact .inl ⟨h1, h2, fun e he => h3 e (by simp at he; rw [he]; exact List.getElem_mem hil)⟩
    · exact .inr (.inl h1)
    · exact .inr (.inr h1)
  refine s_getE ht2.own.rd hil ?_
  refine ent_slot fun _ w3 hw3 hF3 => ?_
  have hsz2 := hF2.size
  have htk : ∀ P : Ent → Bool, (r.take (i + 1)).filter P = (r.take i).filter P ++ if P r[i] = true then [r[i]] else [] := fun P => by
    rw [List.take_succ_eq_append_getElem hil, List.filter_append]
    congr 1
    by_cases e : P r[i] = true <;> simp [e]
  have hlk : ∀ P : Ent → Bool, ((r.take i).filter P).length ≤ i := fun P => Nat.le_trans (List.length_filter_le _ _) (by rw [List.length_take]; omega)
  replace ox := ox.fr hF3 fun _ _ h => h
  replace oy := oy.fr hF3 fun _ _ h => h
  have hF23 := hF2.trans hF3
  generalize hsl : w2.heap.size = sl at *
  generalize r[i] = e at *
  clear ht2 hF3
  refine jn1 (fun v w' => v = .bool (A e) ∧ Fr none_ w3 w') ?_ fun j2 hj2 => ?_
  · rintro v w4 ⟨rfl, hF4⟩
    refine jn0 (fun w' => Fr none_ w3 w' ∧ (A e && !e.static) = false) ?_ fun j3 hj3 => ?_
    · rintro w5 ⟨hF5, hk⟩
      have hw5 := hF5.heap hw3 fun h => h
      have hF25 := hF23.trans hF5
      simp only [push_cast, Nat.reduceAdd, Nat.reduceLeDiff, Nat.reduceLT, Int.reduceToNat, Nat.left_eq_add, Nat.add_eq_left, Nat.add_left_cancel_iff, Nat.reduceEqDiff, Nat.add_assoc, Nat.succ_ne_zero, hw5]
      refine s_bs1 (sz := 10) (z := .agg zE.cells.toArray) (Ent.cells_length _) rfl (by decide) (by decide) fun u w6 hu hF6 hN6 => ?_
      refine s_app (sz := 10) (by_ := 40) (z := .agg zE.cells.toArray) rfl (by decide) (ox.fr (hF5.trans hF6) fun _ _ h => h) hu.rd (by simp [Ent.cells_one]) (by have := hlk fun e => !(A e && !e.static); rw [List.length_map]; simp only [List.length_cons, List.length_nil]; omega) fun v7 w7 ho7 hb7 hF7 => ?_
      have hF27 : Fr none_ w w7 := (hF25.trans hF6).trans_new hF7 fun b hb e => by have := nx _ e; omega
      have hs6 := (hF25.trans hF6).size
      have h36 := hF5.trans hF6
      have oy7 : OwnE 40 10 w7 y _ := (oy.fr h36 fun _ _ h => h).fr hF7 fun b hb e => nxy b e hb
      have hlt36 := h36.size
      simp only [push_cast, Nat.reduceAdd, Nat.reduceLeDiff, Nat.reduceLT, Int.reduceToNat, Nat.left_eq_add, Nat.add_eq_left, Nat.add_left_cancel_iff, Nat.reduceEqDiff, Nat.add_assoc, Nat.succ_ne_zero]
      rw [wrap_i64 (by omega)]
      refine hX (n - 1) _ _ _ _ (by omega) ⟨i + 1, by simp, by omega, ?_, ?_, fun b hb => ?_, ny, fun z hz hy => ?_, hF27⟩
      · rw [htk, hk]; simpa using ho7
      · rw [htk, hk]; simpa using oy7
      · rcases hb7 with hb7 | hb7
        · exact nx b (hb7 ▸ hb)
        · have := hb7 b hb; omega
      · rcases hb7 with hb7 | hb7
        · exact nxy z (hb7 ▸ hz) hy
        · have h8 := hb7 z hz
          have h9 := oy.lt hy
          omega
    · simp only [push_cast, Nat.reduceAdd, Nat.reduceLeDiff, Nat.reduceLT, Int.reduceToNat, Nat.left_eq_add, Nat.add_eq_left, Nat.add_left_cancel_iff, Nat.reduceEqDiff, Nat.add_assoc, Nat.succ_ne_zero]
      refine br_intro (fun hAt => ?_) fun hAt => hj3 _ ⟨hF4, by rw [hAt]; rfl⟩
      have hw4 := hF4.heap hw3 fun h => h
      simp only [push_cast, Nat.reduceAdd, Nat.reduceLeDiff, Nat.reduceLT, Int.reduceToNat, Nat.left_eq_add, Nat.add_eq_left, Nat.add_left_cancel_iff, Nat.reduceEqDiff, Nat.add_assoc, Nat.succ_ne_zero, hw4]
      refine br_intro (fun hst => ?_) fun hst => hj3 _ ⟨hF4, by simp at hst; simp [hst]⟩
      have hk : (A e && !e.static) = true := by rw [hAt]; simpa using hst
      have hF24 := hF23.trans hF4
      refine s_bs1 (sz := 10) (z := .agg zE.cells.toArray) (Ent.cells_length _) rfl (by decide) (by decide) fun u w6 hu hF6 hN6 => ?_
      refine s_app (sz := 10) (by_ := 40) (z := .agg zE.cells.toArray) rfl (by decide) (oy.fr (hF4.trans hF6) fun _ _ h => h) hu.rd (by simp [Ent.cells_one]) (by have := hlk fun e => A e && !e.static; rw [List.length_map]; simp only [List.length_cons, List.length_nil]; omega) fun v7 w7 ho7 hb7 hF7 => ?_
      have hF27 : Fr none_ w w7 := (hF24.trans hF6).trans_new hF7 fun b hb e => by have := ny _ e; omega
      have hs6 := (hF24.trans hF6).size
      have h36 := hF4.trans hF6
      have ox7 : OwnE 40 10 w7 x _ := (ox.fr h36 fun _ _ h => h).fr hF7 fun b hb e => nxy b hb e
      have hlt36 := h36.size
      simp only [push_cast, Nat.reduceAdd, Nat.reduceLeDiff, Nat.reduceLT, Int.reduceToNat, Nat.left_eq_add, Nat.add_eq_left, Nat.add_left_cancel_iff, Nat.reduceEqDiff, Nat.add_assoc, Nat.succ_ne_zero]
      rw [wrap_i64 (by omega)]
      refine hX (n - 1) _ _ _ _ (by omega) ⟨i + 1, by simp, by omega, ?_, ?_, nx, fun b hb => ?_, fun z hz hy => ?_, hF27⟩
      · rw [htk, hk]; simpa using ox7
      · rw [htk, hk]; simpa using ho7
      · rcases hb7 with hb7 | hb7
        · exact ny b (hb7 ▸ hb)
        · have := hb7 b hb; omega
      · rcases hb7 with hb7 | hb7
        · exact nxy z hz (hb7 ▸ hy)
        · have h8 := hb7 z hy
          have h9 := ox.lt hz
          omega
  · rcases hAe with ⟨rfl, h2, h3⟩ | ⟨rfl, h3⟩ | ⟨rfl, h3⟩
    · have h3 := h3 e (by simp)
      simp only [push_cast, Nat.reduceAdd, Nat.reduceLeDiff, Nat.reduceLT, Int.reduceToNat, Nat.left_eq_add, Nat.add_eq_left, Nat.add_left_cancel_iff, Nat.reduceEqDiff, Nat.add_assoc, Nat.succ_ne_zero]
      refine br_intro (fun _ => ?_) fun e => by simp at e
      simp only [push_cast, Nat.reduceAdd, Nat.reduceLeDiff, Nat.reduceLT, Int.reduceToNat, Nat.left_eq_add, Nat.add_eq_left, Nat.add_left_cancel_iff, Nat.reduceEqDiff, Nat.add_assoc, Nat.succ_ne_zero, hw3]
      rw [wrap_i64 (by omega), ← h3]
      exact hj2 _ _ ⟨rfl, Fr.refl _ _⟩
    · simp only [push_cast, Nat.reduceAdd, Nat.reduceLeDiff, Nat.reduceLT, Int.reduceToNat, Nat.left_eq_add, Nat.add_eq_left, Nat.add_left_cancel_iff, Nat.reduceEqDiff, Nat.add_assoc, Nat.succ_ne_zero]
      refine br_intro (fun e => by simp at e) fun _ => ?_
      rw [jn_1]
      simp only [push_cast, Nat.reduceAdd, Nat.reduceLeDiff, Nat.reduceLT, Int.reduceToNat, Nat.left_eq_add, Nat.add_eq_left, Nat.add_left_cancel_iff, Nat.reduceEqDiff, Nat.add_assoc, Nat.succ_ne_zero]
      refine br_intro (fun _ => ?_) fun e => by simp at e
      simp only [push_cast, Nat.reduceAdd, Nat.reduceLeDiff, Nat.reduceLT, Int.reduceToNat, Nat.left_eq_add, Nat.add_eq_left, Nat.add_left_cancel_iff, Nat.reduceEqDiff, Nat.add_assoc, Nat.succ_ne_zero, hw3]
      rw [← h3]
      exact hj2 _ _ ⟨rfl, Fr.refl _ _⟩
    · simp only [push_cast, Nat.reduceAdd, Nat.reduceLeDiff, Nat.reduceLT, Int.reduceToNat, Nat.left_eq_add, Nat.add_eq_left, Nat.add_left_cancel_iff, Nat.reduceEqDiff, Nat.add_assoc, Nat.succ_ne_zero]
      refine br_intro (fun e => by simp at e) fun _ => ?_
      rw [jn_1]
      simp only [push_cast, Nat.reduceAdd, Nat.reduceLeDiff, Nat.reduceLT, Int.reduceToNat, Nat.left_eq_add, Nat.add_eq_left, Nat.add_left_cancel_iff, Nat.reduceEqDiff, Nat.add_assoc, Nat.succ_ne_zero]
      refine br_intro (fun e => by simp at e) fun _ => ?_
      rw [jn_1]
      simp only [push_cast, Nat.reduceAdd, Nat.reduceLeDiff, Nat.reduceLT, Int.reduceToNat, Nat.left_eq_add, Nat.add_eq_left, Nat.add_left_cancel_iff, Nat.reduceEqDiff, Nat.add_assoc, Nat.succ_ne_zero]
      refine br_intro (fun _ => ?_) fun e => by simp at e
      simp only [push_cast, Nat.reduceAdd, Nat.reduceLeDiff, Nat.reduceLT, Int.reduceToNat, Nat.left_eq_add, Nat.add_eq_left, Nat.add_left_cancel_iff, Nat.reduceEqDiff, Nat.add_assoc, Nat.succ_ne_zero, hw3]
      rw [← h3]
      exact hj2 _ _ ⟨rfl, Fr.refl _ _⟩

theorem timedB_no {t : Int} (hn : ¬ (0 ≤ t ∧ t ≤ 1099511627776)) : timedB t = false := by
  cases e : timedB t with
  | false => rfl
  | true => exact absurd (timedB_iff.1 e) hn

theorem rage_spec {q room : Nat} {L : Value} {r : List Ent} {now lim : Int} (ht : RT w q room L r) (hro : ∀ e ∈ r, e.ok) (hn : r.length ≤ 2 ^ 20)
    (h0 : (timedB now && timedB lim) = false → K (.slice none 0 0) w)
    (h : (timedB now && timedB lim) = true → ∀ w' L' v, RT w' q room L' (r.filter fun e => !(ageA now lim e && !e.static)) → RdE 10 w' v ((r.filter fun e => ageA now lim e && !e.static).map Ent.cells) → New w L' → New w v → (∀ x, blkS v = some x → blkS L' ≠ some x) → Fr (fun x => x = q) w w' → K v w') :
    CallsR Tryz.prog 63 #[pt q 0, i64 now, i64 lim] K w := by
  apply c63
  unfold p63
  simp only [push_cast, Nat.reduceAdd, Nat.reduceLeDiff, Nat.reduceLT, Int.reduceToNat, Nat.left_eq_add, Nat.add_eq_left, Nat.add_left_cancel_iff, Nat.reduceEqDiff, Nat.add_assoc, Nat.succ_ne_zero]
  refine br_dec (fun h1 => h0 (by rw [timedB_no (t := now) (by omega)]; rfl)) fun h1 => ?_
  refine br_dec (fun h2 => h0 (by rw [timedB_no (t := now) (by omega)]; rfl)) fun h2 => ?_
  refine br_dec (fun h3 => h0 (by rw [Bool.and_comm, timedB_no (t := lim) (by omega)]; rfl)) fun h3 => ?_
  refine br_dec (fun h4 => h0 (by rw [Bool.and_comm, timedB_no (t := lim) (by omega)]; rfl)) fun h4 => ?_
  refine rforget_spec (A := ageA now lim) ht hro (.inl ⟨rfl, by omega, fun e he => decide_eq_decide.2 (by omega)⟩) hn (h ?_)
  rw [timedB_iff.2 ⟨by omega, by omega⟩, timedB_iff.2 ⟨by omega, by omega⟩]; rfl
/-! ### New -/

theorem rnew_spec (room : Int) (h0 : room < 1 ∨ 1024 < room → K (.tuple #[.pointer none, i64 1]) w)
    (h1 : 1 ≤ room → room ≤ 1024 → ∀ (q : Nat) (L : Value) (w' : World), RT w' q room.toNat L [] → Fr none_ w w' → w.heap.size ≤ q → New w L → K (.tuple #[pt q 0, i64 0]) w') :
    CallsR Tryz.prog 52 #[i64 room] K w := by
  apply c52
  unfold p52
  simp only [push_cast, Nat.reduceAdd, Nat.reduceLeDiff, Nat.reduceLT, Int.reduceToNat, Nat.left_eq_add, Nat.add_eq_left, Nat.add_left_cancel_iff, Nat.reduceEqDiff, Nat.add_assoc, Nat.succ_ne_zero]
  refine br_dec (fun ha => h0 (.inl ha)) fun ha => ?_
  refine br_dec (fun hb => h0 (.inr hb)) fun hb => ?_
  rw [opS_build _ rfl]
  simp only [push_cast, Nat.reduceAdd, Nat.reduceLeDiff, Nat.reduceLT, Int.reduceToNat, Nat.left_eq_add, Nat.add_eq_left, Nat.add_left_cancel_iff, Nat.reduceEqDiff, Nat.add_assoc, Nat.succ_ne_zero]
  obtain ⟨n, rfl⟩ : ∃ n : Nat, room = n := ⟨room.toNat, by omega⟩
  refine h1 (by omega) (by omega) w.heap.size (.slice none 0 0) (w.alloc _) ⟨?_, own_nil _ _ _, fun b hb => (by cases hb)⟩ ?_ (Nat.le_refl _) fun b hb => by cases hb
  · simp only [push_cast, Nat.reduceAdd, Nat.reduceLeDiff, Nat.reduceLT, Int.reduceToNat, Nat.left_eq_add, Nat.add_eq_left, Nat.add_left_cancel_iff, Nat.reduceEqDiff, Nat.add_assoc, Nat.succ_ne_zero, Int.toNat_natCast]; rfl
  · exact (Fr.refl _ _).step_alloc rfl

end Go.Gx.S
end

section
/- What a loop over a function collects. -/
namespace Go.Gx
open Go
variable {P : Program} {K : Value → World → Prop} {w : World}

theorem upd_own {E sz b0 : Nat} {v : Value} {es : List (List Value)} {o : Obj} (h : OwnE E sz w v es) (hn : ∀ b, blkS v = some b → b0 ≠ b) : OwnE E sz (upd w b0 o) v es :=
  h.frame fun b hb => heap_upd_ne (hn b hb)

/-- while a loop collects into the slot q: its marks lie at s, its own block behind; 'it' is another's -/
structure CI (E sz : Nat) (T : TypeId) (w0 : World) (q s : Nat) (L : Loop) (it : Nat) (es : List (List Value)) (w : World) : Prop where
  slot : ∃ v, w.heap[q]? = some (cellsO [v] T) ∧ OwnE E sz w v es ∧ ∀ b, blkS v = some b → s + 1 < b ∧ b ≠ it
  loop : ∃ L', w.heap[s + 1]? = some (.loop L') ∧ LoopSame L' L ∧ L'.state = .ready ∧ L'.pending = none
  dfr : w.heap[s]? = some (.deferred (some []))
  fr : Fr none_ w0 w
  q0 : w0.heap.size ≤ q
  qs : q < s
  its : s + 1 < it

theorem CI.stay {E sz : Nat} {T : TypeId} {w0 w' : World} {q s it : Nat} {L : Loop} {es : List (List Value)} (h : CI E sz T w0 q s L it es w) (hF : Fr (fun b => b = it) w w') : CI E sz T w0 q s L it es w' := by
  obtain ⟨⟨v, h1, h2, h3⟩, ⟨L', h4, h5⟩, h6, h7, h8, h9, h10⟩ := h
  refine ⟨⟨v, hF.heap h1 (by omega), h2.fr hF (fun b hb => (h3 b hb).2), h3⟩, ⟨L', hF.heap h4 (by omega), h5⟩, hF.heap h6 (by omega), h7.trans_new hF fun b hb e => ?_, h8, h9, h10⟩
  omega

/-- at its start -/
theorem CI.start {E sz : Nat} {T : TypeId} {w0 w' : World} {q it : Nat} {L : Loop} {v : Value} {es : List (List Value)} (hL1 : L.state = .ready) (hL2 : L.pending.isNone = true) (hs : w.heap[q]? = some (cellsO [v] T)) (hv : OwnE E sz w v es) (hvn : blkS v = none)
    (hF : Fr none_ w0 w) (hq : w0.heap.size ≤ q) (hF' : Fr none_ ((w.alloc (.deferred (some []))).alloc (.loop L)) w') (hit : w.heap.size + 2 ≤ it) : CI E sz T w0 q w.heap.size L it es w' := by
  have hlt := lt_of_heap hs
  have hF2 : Fr none_ w ((w.alloc (.deferred (some []))).alloc (.loop L)) := ((Fr.refl _ _).step_alloc rfl).step_alloc rfl
  refine ⟨⟨v, hF'.heap (hF2.heap hs fun h => h) fun h => h, hv.fr (hF2.trans hF') (fun _ _ h => h), fun b hb => by rw [hvn] at hb; cases hb⟩, ⟨L, hF'.heap ?_ fun h => h, ⟨rfl, rfl, rfl, rfl, rfl⟩, hL1, by simpa using hL2⟩, hF'.heap ?_ fun h => h, (hF.trans hF2).trans hF', hq, hlt, by omega⟩
  · have := heap_alloc_new (w.alloc (.deferred (some []))) (.loop L)
    rwa [size_alloc] at this
  · rw [heap_alloc_lt (by rw [size_alloc]; omega)]
    exact heap_alloc_new _ _

/-- a round -/
theorem coll_roundM {T E sz by_ : Nat} {ag : Bool} {z : Value} {ty : TypeId} [hT : SlT P T E] [hs : Sz P E sz ag] [hsT : Sz P T 1 false] [hb : By P E by_] [hz : ZV P E z] {w0 : World} {q s it : Nat} {L : Loop} {es : List (List Value)} {x : List Value} {mid : (Value → World → Prop) → World → Prop}
    (hx : ∀ (K : Value → World → Prop) w1, Fr (fun b => b = s + 1) w w1 → (∀ v' w', OwnE E sz w' v' [x] → Fr none_ w1 w' → New w1 v' → K v' w') → mid K w1) (hone : x.all S.oneCell = true) (hzn : z.cells.size = sz) (hby : 0 < by_) (hroom : (2 * (es.length + 1) + 192) * by_ ≤ 2 ^ 48)
    (h : CI E sz T w0 q s L it es w) (hit : it < w.heap.size) (hK : ∀ w', CI E sz T w0 q s L it (es ++ [x]) w' → Fr (fun b => b ≠ it ∧ w0.heap.size ≤ b) w w' → K (.bool true) w') :
    opS P (S.beginR (pt (s + 1) 0)) (fun _ => opS P (S.ld T (pt q 0)) fun x6 => mid fun x7 => opS P (S.bi .append #[T, T] ty [x6, x7]) fun x8 => opS P (S.st T (pt q 0) x8) fun _ => opS P (S.endR (pt (s + 1) 0) none) K) w := by
  obtain ⟨⟨v, hv, hvO, hvb⟩, ⟨L', hlb, hsame, hst, hpd⟩, hd, hfr, hq, hqs, hits⟩ := h
  have hlt1 := lt_of_heap hlb
  have hsz := hfr.size
  rw [opS_beginR hlb hst]
  have f2 : Fr (fun b => b = s + 1) w (upd w (s + 1) (.loop { L' with state := .busy })) := Fr.upd' hlb rfl _ rfl rfl
  have l2 : (upd w (s + 1) (.loop { L' with state := .busy })).heap[s + 1]? = some (.loop { L' with state := .busy }) := heap_upd_same (by rw [hlb]; rfl)
  generalize upd w (s + 1) (.loop { L' with state := .busy }) = W2 at f2 l2 ⊢
  have v2 : W2.heap[q]? = some (cellsO [v] T) := f2.heap hv (by omega)
  rw [s_ld1, v2, cellAt_cells, List.getElem?_cons_zero, onS_some]
  refine hx _ _ f2 fun vG W3 hG f3 nG => ?_
  have o2 : OwnE E sz W2 v es := hvO.fr f2 (fun b hb => by have := (hvb b hb).1; omega)
  have o3 : OwnE E sz W3 v es := o2.fr f3 (fun _ _ h => h)
  refine s_app (T := T) (T2 := T) (sz := sz) (by_ := by_) hzn hby o3 hG.rd (by simpa using hone) (by simpa using hroom) fun vH W4 hH bH f4 => ?_
  have hvH : ∀ b, blkS vH = some b → s + 1 < b ∧ b ≠ it := fun b hb => by
    rcases bH with bH | bH
    · exact hvb b (bH ▸ hb)
    · have := bH b hb; have := f3.size; have := f2.size; omega
  have v4 : W4.heap[q]? = some (cellsO [v] T) := f4.heap (f3.heap v2 (fun h => h)) (fun h => by have := hvb _ h; omega)
  have l4 : W4.heap[s + 1]? = some (.loop { L' with state := .busy }) := f4.heap (f3.heap l2 (fun h => h)) (fun h => by have := hvb _ h; omega)
  have f5 : Fr (fun b => b = s + 1 ∨ blkS v = some b ∨ b = q) w (wr W4 q 0 [vH]) := by
    refine Fr.step_wr ?_ (.inl (.inr (.inr rfl))) _ _
    refine Fr.trans_new ?_ f4 (fun b _ h => .inr (.inl h))
    exact (f2.mono (fun b _ h => .inl h)).trans_new f3 (fun _ _ h => h.elim)
  rw [s_st1 _ _ _ hH.one, v4, okAt_cells]
  have ok : decide (0 + 1 ≤ [v].length) = true := rfl
  rw [ok, onB_true]
  have v5 : (wr W4 q 0 [vH]).heap[q]? = some (cellsO [vH] T) := by rw [heap_wr, if_pos rfl, v4, putAt_cells]; rfl
  have l5 : (wr W4 q 0 [vH]).heap[s + 1]? = some (.loop { L' with state := .busy }) := by
    rw [heap_wr, if_neg (by omega)]; exact l4
  have o5 : OwnE E sz (wr W4 q 0 [vH]) vH (es ++ [x]) := hH.fr (Fr.wr (fp := fun b => b = q) W4 _ 0 [vH] rfl) (fun b hb e => by have := hvH b hb; omega)
  generalize wr W4 q 0 [vH] = W5 at f5 v5 l5 o5 ⊢
  rw [opS_endR l5]
  have f6 := f5.step_upd l5 rfl (.loop { L' with state := .ready, pending := none }) rfl (.inl (.inl rfl))
  have hfr2 : Fr none_ w0 (upd W5 (s + 1) (.loop { L' with state := .ready, pending := none })) :=
    hfr.trans_new f6 (fun b hb h => by
      rcases h with h | h | h
      · omega
      · have := hvb b h; omega
      · omega)
  refine hK _ ⟨⟨vH, ?_, upd_own o5 (fun b hb => by have := hvH b hb; omega), hvH⟩, ⟨{ L' with state := .ready, pending := none }, heap_upd_same (by rw [l5]; rfl), hsame, rfl, rfl⟩, f6.heap hd ?_, hfr2, hq, hqs, hits⟩ (f6.mono fun b _ h => ?_)
  · rw [heap_upd_ne (by omega)]; exact v5
  · rintro (h | h | h)
    · omega
    · have := hvb _ h; omega
    · omega
  · rcases h with h | h | h
    · omega
    · have := hvb _ h; exact ⟨this.2, by omega⟩
    · omega

theorem coll_round {T E sz by_ : Nat} {ag : Bool} {z : Value} {ty : TypeId} [hT : SlT P T E] [hs : Sz P E sz ag] [hsT : Sz P T 1 false] [hb : By P E by_] [hz : ZV P E z] {w0 : World} {q s it : Nat} {L : Loop} {es : List (List Value)} {x : List Value} {xv : Value}
    (hx : ∀ (K : Value → World → Prop) w, (∀ v' w', OwnE E sz w' v' [x] → Fr none_ w w' → New w v' → K v' w') → opS P (S.buildS T 1 [(0, xv)]) K w) (hone : x.all S.oneCell = true) (hzn : z.cells.size = sz) (hby : 0 < by_) (hroom : (2 * (es.length + 1) + 192) * by_ ≤ 2 ^ 48)
    (h : CI E sz T w0 q s L it es w) (hit : it < w.heap.size) (hK : ∀ w', CI E sz T w0 q s L it (es ++ [x]) w' → Fr (fun b => b ≠ it ∧ w0.heap.size ≤ b) w w' → K (.bool true) w') :
    opS P (S.beginR (pt (s + 1) 0)) (fun _ => opS P (S.ld T (pt q 0)) fun x6 => opS P (S.buildS T 1 [(0, xv)]) fun x7 => opS P (S.bi .append #[T, T] ty [x6, x7]) fun x8 => opS P (S.st T (pt q 0) x8) fun _ => opS P (S.endR (pt (s + 1) 0) none) K) w :=
  coll_roundM (mid := fun K => opS P (S.buildS T 1 [(0, xv)]) K) (fun K w1 _ hk => hx K w1 hk) hone hzn hby hroom h hit hK

/-- at its end -/
theorem coll_end (P : Program) {E sz : Nat} {T : TypeId} {w0 : World} {q s it : Nat} {L : Loop} {es : List (List Value)} (h : CI E sz T w0 q s L it es w) :
    ∃ v w', (Instr.endLoop (s + 1)).run P w = .ok none w' ∧ w'.heap[q]? = some (cellsO [v] T) ∧ OwnE E sz w' v es ∧ (∀ b, blkS v = some b → s + 1 < b) ∧ w'.heap[s]? = some (.deferred (some [])) ∧ Fr none_ w0 w' ∧ q < s ∧ w0.heap.size ≤ q := by
  obtain ⟨⟨v, hv, hvO, hvb⟩, ⟨L', hlb, hsame, hst, hpd⟩, hd, hfr, hq, hqs, hits⟩ := h
  refine ⟨v, _, by rw [run_endLoop hlb (by rw [hst]; decide), hpd], ?_, upd_own hvO fun b hb => by have := (hvb b hb).1; omega, fun b hb => (hvb b hb).1, ?_, hfr.step_upd hlb rfl _ rfl (.inr (by omega)), hqs, hq⟩
  · rw [heap_upd_ne (by omega)]; exact hv
  · rw [heap_upd_ne (by omega)]; exact hd

end Go.Gx
end

section
/- What a loop over a function collects, where some rounds collect nothing. -/
namespace Go.Gx
open Go
variable {P : Program} {K : Value → World → Prop} {w : World}

/-- while a loop collects into the slot q: its marks lie at s, its own block behind -/
structure CJ (E sz : Nat) (T : TypeId) (w0 : World) (q s : Nat) (L : Loop) (busy : Bool) (es : List (List Value)) (w : World) : Prop where
  slot : ∃ v, w.heap[q]? = some (cellsO [v] T) ∧ OwnE E sz w v es ∧ ∀ b, blkS v = some b → s + 1 < b
  loop : ∃ L', w.heap[s + 1]? = some (.loop L') ∧ LoopSame L' L ∧ L'.state = (if busy then .busy else .ready) ∧ L'.pending = none
  dfr : w.heap[s]? = some (.deferred (some []))
  fr : Fr none_ w0 w
  q0 : w0.heap.size ≤ q
  qs : q < s

theorem CJ.stay {E sz : Nat} {T : TypeId} {w0 w' : World} {q s : Nat} {L : Loop} {busy : Bool} {es : List (List Value)} (h : CJ E sz T w0 q s L busy es w) (hF : Fr none_ w w') : CJ E sz T w0 q s L busy es w' := by
  obtain ⟨⟨v, h1, h2, h3⟩, ⟨L', h4, h5⟩, h6, h7, h8, h9⟩ := h
  exact ⟨⟨v, hF.heap h1 (fun h => h), h2.fr hF (fun _ _ h => h), h3⟩, ⟨L', hF.heap h4 (fun h => h), h5⟩, hF.heap h6 (fun h => h), h7.trans hF, h8, h9⟩

theorem CJ.start {E sz : Nat} {T : TypeId} {w0 : World} {q : Nat} {L : Loop} {v : Value} {es : List (List Value)} (hL1 : L.state = .ready) (hL2 : L.pending.isNone = true) (hs : w.heap[q]? = some (cellsO [v] T)) (hv : OwnE E sz w v es) (hvn : blkS v = none)
    (hF : Fr none_ w0 w) (hq : w0.heap.size ≤ q) : CJ E sz T w0 q w.heap.size L false es ((w.alloc (.deferred (some []))).alloc (.loop L)) := by
  have hlt := lt_of_heap hs
  have hF2 : Fr none_ w ((w.alloc (.deferred (some []))).alloc (.loop L)) := ((Fr.refl _ _).step_alloc rfl).step_alloc rfl
  refine ⟨⟨v, hF2.heap hs fun h => h, hv.fr hF2 (fun _ _ h => h), fun b hb => by rw [hvn] at hb; cases hb⟩, ⟨L, ?_, ⟨rfl, rfl, rfl, rfl, rfl⟩, hL1, by simpa using hL2⟩, ?_, hF.trans hF2, hq, hlt⟩
  · have := heap_alloc_new (w.alloc (.deferred (some []))) (.loop L)
    rwa [size_alloc] at this
  · rw [heap_alloc_lt (by rw [size_alloc]; omega)]
    exact heap_alloc_new _ _

theorem cj_begin {E sz : Nat} {T : TypeId} {w0 : World} {q s : Nat} {L : Loop} {es : List (List Value)} (h : CJ E sz T w0 q s L false es w) (hK : ∀ w', CJ E sz T w0 q s L true es w' → Fr (fun b => b = s + 1) w w' → K undef w') : opS P (S.beginR (pt (s + 1) 0)) K w := by
  obtain ⟨⟨v, hv, hvO, hvb⟩, ⟨L', hlb, hsame, hst, hpd⟩, hd, hfr, hq, hqs⟩ := h
  rw [opS_beginR hlb hst]
  have f2 : Fr (fun b => b = s + 1) w (upd w (s + 1) (.loop { L' with state := .busy })) := Fr.upd' hlb rfl _ rfl rfl
  have l2 : (upd w (s + 1) (.loop { L' with state := .busy })).heap[s + 1]? = some (.loop { L' with state := .busy }) := heap_upd_same (by rw [hlb]; rfl)
  exact hK _ ⟨⟨v, f2.heap hv (by omega), upd_own hvO fun b hb => by have := hvb b hb; omega, hvb⟩, ⟨_, l2, hsame, rfl, hpd⟩, f2.heap hd (by omega), hfr.trans_new f2 fun b hb e => by omega, hq, hqs⟩ f2

theorem cj_endR {E sz : Nat} {T : TypeId} {w0 : World} {q s : Nat} {L : Loop} {es : List (List Value)} (h : CJ E sz T w0 q s L true es w) (hK : ∀ w', CJ E sz T w0 q s L false es w' → Fr (fun b => b = s + 1) w w' → K (.bool true) w') : opS P (S.endR (pt (s + 1) 0) none) K w := by
  obtain ⟨⟨v, hv, hvO, hvb⟩, ⟨L', hlb, hsame, hst, hpd⟩, hd, hfr, hq, hqs⟩ := h
  rw [opS_endR hlb]
  have f2 : Fr (fun b => b = s + 1) w (upd w (s + 1) (.loop { L' with state := .ready, pending := none })) := Fr.upd' hlb rfl _ rfl rfl
  have l2 : (upd w (s + 1) (.loop { L' with state := .ready, pending := none })).heap[s + 1]? = some (.loop { L' with state := .ready, pending := none }) := heap_upd_same (by rw [hlb]; rfl)
  exact hK _ ⟨⟨v, f2.heap hv (by omega), upd_own hvO fun b hb => by have := hvb b hb; omega, hvb⟩, ⟨_, l2, hsame, rfl, rfl⟩, f2.heap hd (by omega), hfr.trans_new f2 fun b hb e => by omega, hq, hqs⟩ f2

theorem cj_append {T E sz by_ : Nat} {ag : Bool} {z : Value} {ty : TypeId} [hT : SlT P T E] [hs : Sz P E sz ag] [hsT : Sz P T 1 false] [hb : By P E by_] [hz : ZV P E z] {w0 : World} {q s : Nat} {L : Loop} {es : List (List Value)} {x : List Value} {mid : (Value → World → Prop) → World → Prop}
    (hx : ∀ (K : Value → World → Prop), (∀ v' w', OwnE E sz w' v' [x] → Fr none_ w w' → New w v' → K v' w') → mid K w) (hone : x.all S.oneCell = true) (hzn : z.cells.size = sz) (hby : 0 < by_) (hroom : (2 * (es.length + 1) + 192) * by_ ≤ 2 ^ 48)
    (h : CJ E sz T w0 q s L true es w) (hK : ∀ w', CJ E sz T w0 q s L true (es ++ [x]) w' → Fr (fun b => b = q ∨ s + 1 < b) w w' → K undef w') :
    opS P (S.ld T (pt q 0)) (fun x6 => mid fun x7 => opS P (S.bi .append #[T, T] ty [x6, x7]) fun x8 => opS P (S.st T (pt q 0) x8) K) w := by
  obtain ⟨⟨v, hv, hvO, hvb⟩, ⟨L', hlb, hsame, hst, hpd⟩, hd, hfr, hq, hqs⟩ := h
  have hlt1 := lt_of_heap hlb
  have hsz := hfr.size
  rw [s_ld1, hv, cellAt_cells, List.getElem?_cons_zero, onS_some]
  refine hx _ fun vG W3 hG f3 nG => ?_
  have o3 : OwnE E sz W3 v es := hvO.fr f3 (fun _ _ h => h)
  have hs3 := f3.size
  refine s_app (T := T) (T2 := T) (sz := sz) (by_ := by_) hzn hby o3 hG.rd (by simpa using hone) (by simpa using hroom) fun vH W4 hH bH f4 => ?_
  have hvH : ∀ b, blkS vH = some b → s + 1 < b := fun b hb => by
    rcases bH with bH | bH
    · exact hvb b (bH ▸ hb)
    · have := bH b hb; omega
  have v4 : W4.heap[q]? = some (cellsO [v] T) := f4.heap (f3.heap hv (fun h => h)) (fun h => by have := hvb _ h; omega)
  have l4 : W4.heap[s + 1]? = some (.loop L') := f4.heap (f3.heap hlb (fun h => h)) (fun h => by have := hvb _ h; omega)
  have f5 : Fr (fun b => b = q ∨ s + 1 < b) w (wr W4 q 0 [vH]) := by
    refine Fr.step_wr (fp := fun b => b = q ∨ s + 1 < b) ?_ (.inl (.inl rfl)) _ _
    exact (f3.mono (fun _ _ h => h.elim)).trans_new f4 (fun b _ h => .inr (hvb b h))
  rw [s_st1 _ _ _ hH.one, v4, okAt_cells]
  have ok : decide (0 + 1 ≤ [v].length) = true := rfl
  rw [ok, onB_true]
  have v5 : (wr W4 q 0 [vH]).heap[q]? = some (cellsO [vH] T) := by rw [heap_wr, if_pos rfl, v4, putAt_cells]; rfl
  have l5 : (wr W4 q 0 [vH]).heap[s + 1]? = some (.loop L') := by
    rw [heap_wr, if_neg (by omega)]; exact l4
  have o5 : OwnE E sz (wr W4 q 0 [vH]) vH (es ++ [x]) := hH.fr (Fr.wr (fp := fun b => b = q) W4 _ 0 [vH] rfl) (fun b hb e => by have := hvH b hb; omega)
  exact hK _ ⟨⟨vH, v5, o5, hvH⟩, ⟨L', l5, hsame, hst, hpd⟩, f5.heap hd (by omega), hfr.trans_new f5 fun b hb e => by omega, hq, hqs⟩ f5

theorem cj_end (P : Program) {E sz : Nat} {T : TypeId} {w0 : World} {q s : Nat} {L : Loop} {es : List (List Value)} (h : CJ E sz T w0 q s L false es w) :
    ∃ v w', (Instr.endLoop (s + 1)).run P w = .ok none w' ∧ w'.heap[q]? = some (cellsO [v] T) ∧ OwnE E sz w' v es ∧ (∀ b, blkS v = some b → s + 1 < b) ∧ w'.heap[s]? = some (.deferred (some [])) ∧ Fr none_ w0 w' ∧ Fr (fun b => b = s + 1) w w' := by
  obtain ⟨⟨v, hv, hvO, hvb⟩, ⟨L', hlb, hsame, hst, hpd⟩, hd, hfr, hq, hqs⟩ := h
  have hst : L'.state = .ready := hst
  refine ⟨v, _, by rw [run_endLoop hlb (by rw [hst]; decide), hpd], ?_, upd_own hvO fun b hb => by have := hvb b hb; omega, hvb, ?_, hfr.step_upd hlb rfl _ rfl (.inr (by omega)), Fr.upd' hlb rfl _ rfl rfl⟩
  · rw [heap_upd_ne (by omega)]; exact hv
  · rw [heap_upd_ne (by omega)]; exact hd

end Go.Gx
end

section
/- A bridge: its ports. -/
set_option linter.unusedVariables false
set_option linter.unusedSimpArgs false
set_option maxRecDepth 100000
namespace Go.Gx.S
open Go Go.Gx Go.Proofs
variable {K : Value → World → Prop} {w : World}

/-! ### Plain -/

structure FS where
  t : VT
  r : List Ent
  S : List Int
  N : List Int
  Ln : List Int

def incr (l : List Int) (k : Nat) : List Int := l.set k (IntKind.i64.wrap (l.getD k 0 + 1))
def hasB (S : List Int) (port : Int) : Bool := decide (1 ≤ port) && decide (port < S.length)
def stateL (S : List Int) (port : Int) : Int := if hasB S port then S.getD port.toNat 0 else 0
def setL' (S : List Int) (port st : Int) : List Int × Int := if hasB S port && (decide (0 ≤ st) && decide (st ≤ 2)) then (S.set port.toNat st, 0) else (S, 1)
def reservedM (m : Mac) : Bool := decide (m.b0 = 1 ∧ m.b1 = 128 ∧ m.b2 = 194 ∧ m.b3 = 0 ∧ m.b4 = 0 ∧ m.b5 < 16)
def learnF (room : Nat) (fs : FS) (v : Int) (m : Mac) (port now : Int) : FS :=
  { fs with r := (learnL room fs.r v m port now).1, Ln := if (learnL room fs.r v m port now).2.2 ≠ 0 then incr fs.Ln 2 else if (learnL room fs.r v m port now).2.1 = 1 then incr fs.Ln 0 else if (learnL room fs.r v m port now).2.1 = 2 then incr fs.Ln 1 else fs.Ln }
def refusedL (fs : FS) (port : Int) (f : Frm) (n : Nat) (now : Int) : Int × Int :=
  if !(hasB fs.S port) || (!(f.right n) || !(timedB now)) then (1, 0)
  else if reservedM f.dst then (2, 0)
  else if fs.S.getD port.toNat 0 = 0 then (3, 0)
  else if (fs.t.inn port f n).2 ≠ 0 then (4, 0)
  else if grp f.src then (5, (fs.t.inn port f n).1)
  else (0, (fs.t.inn port f n).1)

/-! ### A bridge's blocks -/

def brC (vp p : Nat) (sl : Value) (N Ln : List Int) : List Value := pt vp 0 :: pt p 0 :: sl :: (N.map i64 ++ Ln.map i64)

structure BR (N0 : Nat) (w : World) (bp vp vm vnb p pb o c sb so sc room : Nat) (ps : List Ent) (fs : FS) : Prop where
  blk : w.heap[bp]? = some (cellsO (brC vp p (.slice (some ⟨sb, so, none⟩) fs.S.length sc) fs.N fs.Ln) 83)
  v : Vl.VRep w vp vm vnb fs.t
  f : FT w p pb o c room ps fs.r
  s : OwnE 3 1 w (.slice (some ⟨sb, so, none⟩) fs.S.length sc) (fs.S.map cellI)
  nl : fs.N.length = 9
  ll : fs.Ln.length = 3
  sl : fs.S.length ≤ 64
  d1 : bp ≠ vp ∧ bp ≠ vm ∧ bp ≠ vnb ∧ bp ≠ p ∧ bp ≠ pb ∧ bp ≠ sb
  d2 : sb ≠ vp ∧ sb ≠ vm ∧ sb ≠ vnb ∧ sb ≠ p ∧ sb ≠ pb
  d3 : p ≠ vp ∧ p ≠ vm ∧ p ≠ vnb ∧ pb ≠ vp ∧ pb ≠ vm ∧ pb ≠ vnb
  ge : N0 ≤ bp ∧ N0 ≤ vp ∧ N0 ≤ vm ∧ N0 ≤ vnb ∧ N0 ≤ p ∧ N0 ≤ pb ∧ N0 ≤ sb

section
variable {N0 bp vp vm vnb p pb o c sb so sc room : Nat} {ps : List Ent} {fs : FS}
theorem BR.fr0 {w' : World} (h : BR N0 w bp vp vm vnb p pb o c sb so sc room ps fs) (hF : Fr none_ w w') : BR N0 w' bp vp vm vnb p pb o c sb so sc room ps fs :=
  ⟨hF.heap h.blk (fun h => h), h.v.fr0 hF, h.f.fr0 hF, h.s.fr hF (fun _ _ h => h), h.nl, h.ll, h.sl, h.d1, h.d2, h.d3, h.ge⟩
theorem BR.lt (h : BR N0 w bp vp vm vnb p pb o c sb so sc room ps fs) : bp < w.heap.size ∧ vp < w.heap.size ∧ vm < w.heap.size ∧ vnb < w.heap.size ∧ p < w.heap.size ∧ pb < w.heap.size ∧ sb < w.heap.size := by
  have h1 := h.v.lt
  have h2 := h.f.fb.lt
  exact ⟨lt_of_heap h.blk, h1.1, h1.2.1, h1.2.2, h2.1, h2.2, h.s.lt (b := sb) rfl⟩
theorem BR.len (h : BR N0 w bp vp vm vnb p pb o c sb so sc room ps fs) : (brC vp p (.slice (some ⟨sb, so, none⟩) fs.S.length sc) fs.N fs.Ln).length = 15 := by
  simp [brC, h.nl, h.ll]
/-- the bridge's own cells are written -/
theorem BR.own {w' : World} {N' Ln' : List Int} (h : BR N0 w bp vp vm vnb p pb o c sb so sc room ps fs) (hF : Fr (fun b => b = bp) w w') (hb : w'.heap[bp]? = some (cellsO (brC vp p (.slice (some ⟨sb, so, none⟩) fs.S.length sc) N' Ln') 83)) (hn : N'.length = 9) (hl : Ln'.length = 3) :
    BR N0 w' bp vp vm vnb p pb o c sb so sc room ps { fs with N := N', Ln := Ln' } := by
  have d1 := h.d1
  exact ⟨hb, h.v.fr hF (by omega) (by omega) (by omega), h.f.fr hF (by omega) (by omega), h.s.fr hF (fun b hb e => by simp only [blkS, Option.some.injEq] at hb; omega), hn, hl, h.sl, h.d1, h.d2, h.d3, h.ge⟩
/-- its table of stations is -/
theorem BR.tab {w' : World} {ps' r' : List Ent} (h : BR N0 w bp vp vm vnb p pb o c sb so sc room ps fs) (hF : Fr (pp p pb) w w') (ht : FT w' p pb o c room ps' r') : BR N0 w' bp vp vm vnb p pb o c sb so sc room ps' { fs with r := r' } := by
  have d1 := h.d1
  have d2 := h.d2
  have d3 := h.d3
  have hp : ∀ b, pp p pb b → b = p ∨ b = pb := fun b e => e
  exact ⟨hF.heap h.blk fun e => by have := hp _ e; omega, h.v.fr hF (fun e => by have := hp _ e; omega) (fun e => by have := hp _ e; omega) (fun e => by have := hp _ e; omega), ht, h.s.fr hF (fun b hb e => by simp only [blkS, Option.some.injEq] at hb; have := hp _ e; omega), h.nl, h.ll, h.sl, h.d1, h.d2, h.d3, h.ge⟩
/-- its VLANs are -/
theorem BR.vl {w' : World} {t' : VT} (h : BR N0 w bp vp vm vnb p pb o c sb so sc room ps fs) (hF : Fr (Vl.vfp vp vm vnb) w w') (ht : Vl.VRep w' vp vm vnb t') : BR N0 w' bp vp vm vnb p pb o c sb so sc room ps { fs with t := t' } := by
  have d1 := h.d1
  have d2 := h.d2
  have d3 := h.d3
  have hp : ∀ b, Vl.vfp vp vm vnb b → b = vp ∨ b = vm ∨ b = vnb := fun b e => e
  exact ⟨hF.heap h.blk fun e => by have := hp _ e; omega, ht, h.f.fr hF (fun e => by have := hp _ e; omega) (fun e => by have := hp _ e; omega), h.s.fr hF (fun b hb e => by simp only [blkS, Option.some.injEq] at hb; have := hp _ e; omega), h.nl, h.ll, h.sl, h.d1, h.d2, h.d3, h.ge⟩
/-- its states are -/
theorem BR.st {w' : World} {S' : List Int} (h : BR N0 w bp vp vm vnb p pb o c sb so sc room ps fs) (hF : Fr (fun b => b = sb) w w') (hl : S'.length = fs.S.length) (hs : OwnE 3 1 w' (.slice (some ⟨sb, so, none⟩) fs.S.length sc) (S'.map cellI)) : BR N0 w' bp vp vm vnb p pb o c sb so sc room ps { fs with S := S' } := by
  have d1 := h.d1
  have d2 := h.d2
  refine ⟨?_, h.v.fr hF (by omega) (by omega) (by omega), h.f.fr hF (by omega) (by omega), ?_, h.nl, h.ll, ?_, h.d1, h.d2, h.d3, h.ge⟩
  · rw [hl]; exact hF.heap h.blk (by omega)
  · rw [hl]; exact hs
  · rw [hl]; exact h.sl
theorem BR.of {w' : World} {fp : Nat → Prop} (h : BR N0 w bp vp vm vnb p pb o c sb so sc room ps fs) (hF : Fr fp w w') (hfp : ∀ b, fp b → b = bp ∨ b = vp ∨ b = vm ∨ b = vnb ∨ b = p ∨ b = pb ∨ b = sb) : Fr (fun b => N0 ≤ b) w w' := hF.mono fun b _ e => by
  have h2 := h.ge
  have := hfp b e
  omega

theorem brC_0 (sl : Value) (N Ln : List Int) : (brC vp p sl N Ln)[0]? = some (pt vp 0) := id rfl
theorem brC_1 (sl : Value) (N Ln : List Int) : (brC vp p sl N Ln)[1]? = some (pt p 0) := id rfl
theorem brC_2 (sl : Value) (N Ln : List Int) : (brC vp p sl N Ln)[2]? = some sl := id rfl
attribute [push_cast] brC_0 brC_1 brC_2
theorem brC_n {sl : Value} {N Ln : List Int} {k : Nat} (hN : N.length = 9) (hk : k < 9) : (brC vp p sl N Ln)[k + 3]? = some (i64 (N.getD k 0)) := by
  show (N.map i64 ++ Ln.map i64)[k]? = _
  rw [List.getElem?_append_left (by rw [List.length_map]; omega), List.getElem?_map, List.getElem?_eq_getElem (by omega), List.getD_eq_getElem?_getD, List.getElem?_eq_getElem (by omega)]
  rfl
theorem brC_l {sl : Value} {N Ln : List Int} {k : Nat} (hN : N.length = 9) (hL : Ln.length = 3) (hk : k < 3) : (brC vp p sl N Ln)[k + 12]? = some (i64 (Ln.getD k 0)) := by
  show (N.map i64 ++ Ln.map i64)[k + 9]? = _
  rw [List.getElem?_append_right (by rw [List.length_map]; omega), List.length_map, hN, Nat.add_sub_cancel, List.getElem?_map, List.getElem?_eq_getElem (by omega), List.getD_eq_getElem?_getD, List.getElem?_eq_getElem (by omega)]
  rfl
theorem splice_one {l : List Value} {i : Nat} (h : i < l.length) (v : Value) : splice l i [v] = l.set i v := by
  refine List.ext_getElem? fun j => ?_
  rw [splice_get (by simp; omega), List.getElem?_set]
  by_cases h1 : j < i
  · rw [if_pos h1, if_neg (by omega)]
  · rw [if_neg h1]
    by_cases h2 : i = j
    · subst h2
      rw [if_pos (by simp), if_pos rfl, if_pos h]
      simp
    · rw [if_neg (by simp; omega), if_neg h2]
theorem brC_setn {sl : Value} {N Ln : List Int} {k : Nat} (hN : N.length = 9) (hL : Ln.length = 3) (hk : k < 9) (v : Int) : splice (brC vp p sl N Ln) (k + 3) [i64 v] = brC vp p sl (N.set k v) Ln := by
  rw [splice_one (by simp [brC]; omega)]
  show pt vp 0 :: pt p 0 :: sl :: (N.map i64 ++ Ln.map i64).set k (i64 v) = _
  rw [List.set_append_left _ _ (by rw [List.length_map]; omega), ← List.map_set]
  rfl
theorem brC_setl {sl : Value} {N Ln : List Int} {k : Nat} (hN : N.length = 9) (hL : Ln.length = 3) (hk : k < 3) (v : Int) : splice (brC vp p sl N Ln) (k + 12) [i64 v] = brC vp p sl N (Ln.set k v) := by
  rw [splice_one (by simp [brC]; omega)]
  show pt vp 0 :: pt p 0 :: sl :: (N.map i64 ++ Ln.map i64).set (k + 9) (i64 v) = _
  rw [List.set_append_right _ _ (by rw [List.length_map]; omega), List.length_map, hN, Nat.add_sub_cancel, ← List.map_set]
  rfl

theorem vlans_spec (h : BR N0 w bp vp vm vnb p pb o c sb so sc room ps fs) (hk : K (pt vp 0) w) : CallsR Tryz.prog 29 #[pt bp 0] K w := by
  apply c29
  unfold p29
  simp only [push_cast, Nat.reduceAdd, Nat.reduceLeDiff, Nat.reduceLT, Int.reduceToNat, Nat.left_eq_add, Nat.add_eq_left, Nat.add_left_cancel_iff, Nat.reduceEqDiff, Nat.add_assoc, Nat.succ_ne_zero, h.blk]
  exact hk
theorem stations_spec (h : BR N0 w bp vp vm vnb p pb o c sb so sc room ps fs) (hk : K (pt p 0) w) : CallsR Tryz.prog 14 #[pt bp 0] K w := by
  apply c14
  unfold p14
  simp only [push_cast, Nat.reduceAdd, Nat.reduceLeDiff, Nat.reduceLT, Int.reduceToNat, Nat.left_eq_add, Nat.add_eq_left, Nat.add_left_cancel_iff, Nat.reduceEqDiff, Nat.add_assoc, Nat.succ_ne_zero, h.blk]
  exact hk
theorem has_spec {port : Int} (h : BR N0 w bp vp vm vnb p pb o c sb so sc room ps fs) (hk : K (.bool (hasB fs.S port)) w) : CallsR Tryz.prog 49 #[pt bp 0, i64 port] K w := by
  apply c49
  unfold p49
  unfold hasB at hk
  simp only [push_cast, Nat.reduceAdd, Nat.reduceLeDiff, Nat.reduceLT, Int.reduceToNat, Nat.left_eq_add, Nat.add_eq_left, Nat.add_left_cancel_iff, Nat.reduceEqDiff, Nat.add_assoc, Nat.succ_ne_zero]
  refine br_dec (fun h1 => ?_) fun h1 => ?_
  · rw [decide_eq_true (show 1 ≤ port from h1), Bool.true_and] at hk
    simp only [push_cast, Nat.reduceAdd, Nat.reduceLeDiff, Nat.reduceLT, Int.reduceToNat, Nat.left_eq_add, Nat.add_eq_left, Nat.add_left_cancel_iff, Nat.reduceEqDiff, Nat.add_assoc, Nat.succ_ne_zero, h.blk]
    exact hk
  · rw [decide_eq_false (show ¬ 1 ≤ port from h1), Bool.false_and] at hk
    exact hk

/-- a state is read -/
theorem st_get {i : Int} {R : Value → World → Prop} (h : BR N0 w bp vp vm vnb p pb o c sb so sc room ps fs) (h0 : 0 ≤ i) (hi : i.toNat < fs.S.length) (hk : R (i64 (fs.S.getD i.toNat 0)) w) :
    opS Tryz.prog (S.ia 70 (.slice (some ⟨sb, so, none⟩) fs.S.length sc) (i64 i)) (fun x => opS Tryz.prog (S.ld 3 x) R) w := by
  refine s_iaE h.s.rd h0 (by rw [List.length_map]; exact hi) fun b o _ _ he => ?_
  rw [s_ld1, he.cell0 (by simp [cellI])]
  simp only [List.getElem_map, cellI]
  rw [List.getD_eq_getElem?_getD, List.getElem?_eq_getElem hi] at hk
  exact hk

theorem hasB_iff {S : List Int} {port : Int} : hasB S port = true ↔ 1 ≤ port ∧ port < S.length := by unfold hasB; simp

theorem set_spec {port st : Int} (h : BR N0 w bp vp vm vnb p pb o c sb so sc room ps fs) (hk : ∀ w', BR N0 w' bp vp vm vnb p pb o c sb so sc room ps { fs with S := (setL' fs.S port st).1 } → Fr (fun b => b = sb) w w' → K (i64 (setL' fs.S port st).2) w') :
    CallsR Tryz.prog 23 #[pt bp 0, i64 port, i64 st] K w := by
  apply c23
  unfold p23
  unfold setL' at hk
  simp only [push_cast, Nat.reduceAdd, Nat.reduceLeDiff, Nat.reduceLT, Int.reduceToNat, Nat.left_eq_add, Nat.add_eq_left, Nat.add_left_cancel_iff, Nat.reduceEqDiff, Nat.add_assoc, Nat.succ_ne_zero]
  refine has_spec h ?_
  simp only [push_cast, Nat.reduceAdd, Nat.reduceLeDiff, Nat.reduceLT, Int.reduceToNat, Nat.left_eq_add, Nat.add_eq_left, Nat.add_left_cancel_iff, Nat.reduceEqDiff, Nat.add_assoc, Nat.succ_ne_zero]
  cases hh : hasB fs.S port with
  | false =>
    rw [hh, Bool.false_and] at hk
    simp only [push_cast, Nat.reduceAdd, Nat.reduceLeDiff, Nat.reduceLT, Int.reduceToNat, Nat.left_eq_add, Nat.add_eq_left, Nat.add_left_cancel_iff, Nat.reduceEqDiff, Nat.add_assoc, Nat.succ_ne_zero, Bool.not_false]
    exact hk _ h (Fr.refl _ _)
  | true =>
  rw [hh, Bool.true_and] at hk
  obtain ⟨hp1, hp2⟩ := hasB_iff.1 hh
  simp only [push_cast, Nat.reduceAdd, Nat.reduceLeDiff, Nat.reduceLT, Int.reduceToNat, Nat.left_eq_add, Nat.add_eq_left, Nat.add_left_cancel_iff, Nat.reduceEqDiff, Nat.add_assoc, Nat.succ_ne_zero, Bool.not_true]
  refine br_dec (fun h1 => ?_) fun h1 => ?_
  · rw [decide_eq_false (by omega), Bool.false_and] at hk
    exact hk _ h (Fr.refl _ _)
  refine br_dec (fun h2 => ?_) fun h2 => ?_
  · rw [decide_eq_true (by omega), decide_eq_false (by omega), Bool.true_and] at hk
    exact hk _ h (Fr.refl _ _)
  rw [decide_eq_true (show 0 ≤ st by omega), decide_eq_true (show st ≤ 2 by omega), Bool.true_and, if_pos rfl] at hk
  simp only [push_cast, Nat.reduceAdd, Nat.reduceLeDiff, Nat.reduceLT, Int.reduceToNat, Nat.left_eq_add, Nat.add_eq_left, Nat.add_left_cancel_iff, Nat.reduceEqDiff, Nat.add_assoc, Nat.succ_ne_zero, h.blk]
  have hml : (fs.S.map cellI).length = fs.S.length := List.length_map _
  have ho := h.s
  rw [← hml] at ho ⊢
  refine s_iaE ho.rd (by omega) (by rw [hml]; omega) fun b' o' c' hv _ => ?_
  simp only [Value.slice.injEq, Option.some.injEq, Addr.mk.injEq] at hv
  obtain ⟨⟨rfl, rfl, _⟩, _, rfl⟩ := hv
  obtain ⟨hok, hput⟩ := ho.put (e := [i64 st]) rfl (show port.toNat < _ by rw [hml]; omega)
  simp only [push_cast, Nat.reduceAdd, Nat.reduceLeDiff, Nat.reduceLT, Int.reduceToNat, Nat.left_eq_add, Nat.add_eq_left, Nat.add_left_cancel_iff, Nat.reduceEqDiff, Nat.add_assoc, Nat.succ_ne_zero, hok]
  refine hk _ (h.st (Fr.step_wr (fp := fun b => b = sb) (Fr.refl _ _) (.inl rfl) _ _) (List.length_set ..) ?_) (Fr.step_wr (fp := fun b => b = sb) (Fr.refl _ _) (.inl rfl) _ _)
  rw [List.map_set, ← hml]
  exact hput

theorem state_spec {port : Int} (h : BR N0 w bp vp vm vnb p pb o c sb so sc room ps fs) (hk : K (i64 (stateL fs.S port)) w) : CallsR Tryz.prog 24 #[pt bp 0, i64 port] K w := by
  apply c24
  unfold p24
  unfold stateL at hk
  simp only [push_cast, Nat.reduceAdd, Nat.reduceLeDiff, Nat.reduceLT, Int.reduceToNat, Nat.left_eq_add, Nat.add_eq_left, Nat.add_left_cancel_iff, Nat.reduceEqDiff, Nat.add_assoc, Nat.succ_ne_zero]
  refine has_spec h ?_
  simp only [push_cast, Nat.reduceAdd, Nat.reduceLeDiff, Nat.reduceLT, Int.reduceToNat, Nat.left_eq_add, Nat.add_eq_left, Nat.add_left_cancel_iff, Nat.reduceEqDiff, Nat.add_assoc, Nat.succ_ne_zero]
  cases hh : hasB fs.S port with
  | false =>
    rw [hh] at hk
    simp only [push_cast, Nat.reduceAdd, Nat.reduceLeDiff, Nat.reduceLT, Int.reduceToNat, Nat.left_eq_add, Nat.add_eq_left, Nat.add_left_cancel_iff, Nat.reduceEqDiff, Nat.add_assoc, Nat.succ_ne_zero, Bool.not_false]
    exact hk
  | true =>
    rw [hh, if_pos rfl] at hk
    obtain ⟨hp1, hp2⟩ := hasB_iff.1 hh
    simp only [push_cast, Nat.reduceAdd, Nat.reduceLeDiff, Nat.reduceLT, Int.reduceToNat, Nat.left_eq_add, Nat.add_eq_left, Nat.add_left_cancel_iff, Nat.reduceEqDiff, Nat.add_assoc, Nat.succ_ne_zero, Bool.not_true, h.blk]
    exact st_get h (by omega) (by omega) hk

end
end Go.Gx.S
end

section
/- A bridge: what it learns, and refuses. -/
set_option linter.unusedVariables false
set_option linter.unusedSimpArgs false
set_option maxRecDepth 100000
namespace Go.Gx.S
open Go Go.Gx Go.Proofs
variable {K : Value → World → Prop} {w : World}

theorem andn15 : ∀ a : Fin 256, (BitVec.ofNat 8 a.val &&& ~~~ (BitVec.ofNat 8 15)).toNat = a.val / 16 * 16 := by decide +kernel
theorem s_andn15 {x : Int} (h : isB x) : opS Tryz.prog (S.binI .andNot (.int .u8 x) (.int .u8 15)) K w = K (.int .u8 (x / 16 * 16)) w := by
  unfold isB at h
  obtain ⟨a, rfl⟩ := Int.eq_ofNat_of_zero_le (show 0 ≤ x by omega)
  unfold S.binI
  simp only []
  have e : (BitVec.ofInt 8 (a : Int) &&& ~~~ BitVec.ofInt 8 15).toNat = a / 16 * 16 := by
    rw [ofInt_nat (by omega), ofInt_nat (by omega)]
    exact andn15 ⟨a, by omega⟩
  have : (binOp .andNot 0 (.int .u8 (a : Int)) (.int .u8 15)).run Tryz.prog w = .ok (.int .u8 ((a : Int) / 16 * 16)) w := by
    show (Op.intBits .andNot .u8 (a : Int) 15).run Tryz.prog w = _
    unfold Op.intBits
    show Result.ok (Value.int .u8 (IntKind.u8.wrap ((BitVec.ofInt 8 (a : Int) &&& ~~~ BitVec.ofInt 8 15).toNat : Int))) w = _
    rw [e, wrap_u8]
    congr 2
    omega
  rw [opS_bind, this]

theorem preserved_spec {m : Mac} (hm : m.ok) (h : ∀ w', Fr none_ w w' → K (.bool (reservedM m)) w') : CallsR Tryz.prog 70 #[.agg m.cells.toArray] K w := by
  apply c70
  unfold p70
  simp only [push_cast, Nat.reduceAdd, Nat.reduceLeDiff, Nat.reduceLT, Int.reduceToNat, Nat.left_eq_add, Nat.add_eq_left, Nat.add_left_cancel_iff, Nat.reduceEqDiff, Nat.add_assoc, Nat.succ_ne_zero]
  have h0 : (w.alloc (cellsO m.cells 24)).heap[w.heap.size]? = some (cellsO m.cells 24) := by simp only [push_cast, Nat.reduceAdd, Nat.reduceLeDiff, Nat.reduceLT, Int.reduceToNat, Nat.left_eq_add, Nat.add_eq_left, Nat.add_left_cancel_iff, Nat.reduceEqDiff, Nat.add_assoc, Nat.succ_ne_zero]
  have hF : Fr none_ w (w.alloc (cellsO m.cells 24)) := (by repeat' first | with_reducible exact Fr.refl _ _ | with_reducible refine Fr.step_alloc ?_ ?_ | with_reducible refine Fr.step_drew ?_ | with_reducible refine Fr.step_wr ?_ ?_ _ _ | exact rfl | exact Or.inr (by omega) | exact Or.inl rfl | exact Or.inl (Or.inl rfl) | exact Or.inl (Or.inr rfl))
  generalize w.alloc (cellsO m.cells 24) = W at *
  rw [opS_iaA w.heap.size 0 .i64 5 (by decide)]
  simp only [push_cast, Nat.reduceAdd, Nat.reduceLeDiff, Nat.reduceLT, Int.reduceToNat, Nat.left_eq_add, Nat.add_eq_left, Nat.add_left_cancel_iff, Nat.reduceEqDiff, Nat.add_assoc, Nat.succ_ne_zero, h0]
  have e5 : m.cells[5]? = some (u8 m.b5) := rfl
  simp only [e5, push_cast, Nat.reduceAdd, Nat.reduceLeDiff, Nat.reduceLT, Int.reduceToNat, Nat.left_eq_add, Nat.add_eq_left, Nat.add_left_cancel_iff, Nat.reduceEqDiff, Nat.add_assoc, Nat.succ_ne_zero]
  obtain ⟨a0, a1, a2, a3, a4, a5⟩ := hm
  rw [s_andn15 a5, opS_iaA w.heap.size 0 .i64 5 (by decide)]
  have e6 : splice m.cells 5 [Value.int .u8 (m.b5 / 16 * 16)] = Mac.cells ⟨m.b0, m.b1, m.b2, m.b3, m.b4, m.b5 / 16 * 16⟩ := rfl
  have e7 : m.cells.length = 6 := rfl
  have e8 : ∀ m : Mac, (m.cells.drop 0).take 6 = m.cells := fun m => rfl
  have e9 : ∀ m : Mac, m.cells.length = 6 := fun m => rfl
  simp only [push_cast, Nat.reduceAdd, Nat.reduceLeDiff, Nat.reduceLT, Int.reduceToNat, Nat.left_eq_add, Nat.add_eq_left, Nat.add_left_cancel_iff, Nat.reduceEqDiff, Nat.add_assoc, Nat.succ_ne_zero, h0, e6, e9, e8]
  have eb : opS Tryz.prog (S.build 24 [(0, .int .u8 1), (1, .int .u8 128), (2, .int .u8 194)]) = fun (K : Value → World → Prop) w => K (.agg (Mac.cells ⟨1, 128, 194, 0, 0, 0⟩).toArray) w := by
    funext K w
    rw [opS_build _ rfl]; rfl
  rw [eb]
  unfold isB at a5
  refine s_eqG (MacT.enc (P := Tryz.prog) (T := 24) (d := 6) (m := ⟨m.b0, m.b1, m.b2, m.b3, m.b4, m.b5 / 16 * 16⟩) ⟨a0, a1, a2, a3, a4, show isB (m.b5 / 16 * 16) by unfold isB; omega⟩) (MacT.enc (P := Tryz.prog) (T := 24) (d := 6) (m := ⟨1, 128, 194, 0, 0, 0⟩) (by simp [Mac.ok, isB])) fun q hq => ?_
  rw [Mac.lits_inj] at hq
  have : q = reservedM m := by
    unfold reservedM
    cases q with
    | false =>
      refine (decide_eq_false fun ⟨h0, h1, h2, h3, h4, h5⟩ => ?_).symm
      have := hq.2 (Mac.ext h0 h1 h2 h3 h4 (by show m.b5 / 16 * 16 = 0; omega))
      cases this
    | true =>
      have := hq.1 rfl
      simp only [Mac.mk.injEq] at this
      exact (decide_eq_true ⟨this.1, this.2.1, this.2.2.1, this.2.2.2.1, this.2.2.2.2.1, by omega⟩).symm
  rw [this]
  exact h _ (hF.step_wr (.inr (Nat.le_refl _)) _ _)

section
variable {N0 bp vp vm vnb p pb o c sb so sc room : Nat} {ps : List Ent} {fs : FS}

theorem cnt_l {k : Nat} {x : Int} {R : Value → World → Prop} (hx : x = k) (hk : k < 3) (h : BR N0 w bp vp vm vnb p pb o c sb so sc room ps fs) (hK : ∀ w', BR N0 w' bp vp vm vnb p pb o c sb so sc room ps { fs with Ln := incr fs.Ln k } → Fr (fun b => b = bp) w w' → R undef w') :
    opS Tryz.prog (S.nc (pt bp 0)) (fun x14 => opS Tryz.prog (S.fa 83 x14 4) fun x15 => opS Tryz.prog (S.ia 81 x15 (.int .i64 x)) fun x16 => opS Tryz.prog (S.ld 3 x16) fun x17 => opS Tryz.prog (S.binI .add x17 (.int .i64 1)) fun x18 =>
      opS Tryz.prog (S.nc (pt bp 0)) fun x19 => opS Tryz.prog (S.fa 83 x19 4) fun x20 => opS Tryz.prog (S.ia 81 x20 (.int .i64 x)) fun x21 => opS Tryz.prog (S.st 3 x21 x18) R) w := by
  subst hx
  have hia : ∀ (R : Value → World → Prop) w, opS Tryz.prog (S.ia 81 (pt bp 12) (.int .i64 (k : Nat))) R w = R (pt bp (k + 12)) w := fun R w => by
    rw [opS_iaA bp 12 .i64 (k : Int) (by omega)]
    rw [Int.toNat_natCast, Nat.mul_one, Nat.add_comm]
  have hg := brC_l (vp := vp) (p := p) (sl := .slice (some ⟨sb, so, none⟩) fs.S.length sc) h.nl h.ll hk
  have hs := brC_setl (vp := vp) (p := p) (sl := .slice (some ⟨sb, so, none⟩) fs.S.length sc) h.nl h.ll hk (IntKind.i64.wrap (fs.Ln.getD k 0 + 1))
  have hl := h.len
  simp only [push_cast, Nat.reduceAdd, Nat.reduceLeDiff, Nat.reduceLT, Int.reduceToNat, Nat.left_eq_add, Nat.add_eq_left, Nat.add_left_cancel_iff, Nat.reduceEqDiff, Nat.add_assoc, Nat.succ_ne_zero, h.blk, hia, hg]
  rw [hl, decide_eq_true (show k + (12 + 1) ≤ 15 by omega)]
  simp only [push_cast, Nat.reduceAdd, Nat.reduceLeDiff, Nat.reduceLT, Int.reduceToNat, Nat.left_eq_add, Nat.add_eq_left, Nat.add_left_cancel_iff, Nat.reduceEqDiff, Nat.add_assoc, Nat.succ_ne_zero]
  refine hK _ (h.own (N' := fs.N) (Ln' := incr fs.Ln k) (Fr.step_wr (fp := fun b => b = bp) (Fr.refl _ _) (.inl rfl) _ _) ?_ h.nl (by unfold incr; rw [List.length_set]; exact h.ll)) (Fr.step_wr (fp := fun b => b = bp) (Fr.refl _ _) (.inl rfl) _ _)
  simp only [push_cast, Nat.reduceAdd, Nat.reduceLeDiff, Nat.reduceLT, Int.reduceToNat, Nat.left_eq_add, Nat.add_eq_left, Nat.add_left_cancel_iff, Nat.reduceEqDiff, Nat.add_assoc, Nat.succ_ne_zero, h.blk, hs]
  rfl

theorem cnt_n {k : Nat} {x : Int} {R : Value → World → Prop} (hx : x = k) (hk : k < 9) (h : BR N0 w bp vp vm vnb p pb o c sb so sc room ps fs) (hK : ∀ w', BR N0 w' bp vp vm vnb p pb o c sb so sc room ps { fs with N := incr fs.N k } → Fr (fun b => b = bp) w w' → R undef w') :
    opS Tryz.prog (S.nc (pt bp 0)) (fun x14 => opS Tryz.prog (S.fa 83 x14 3) fun x15 => opS Tryz.prog (S.ia 55 x15 (.int .i64 x)) fun x16 => opS Tryz.prog (S.ld 3 x16) fun x17 => opS Tryz.prog (S.binI .add x17 (.int .i64 1)) fun x18 =>
      opS Tryz.prog (S.nc (pt bp 0)) fun x19 => opS Tryz.prog (S.fa 83 x19 3) fun x20 => opS Tryz.prog (S.ia 55 x20 (.int .i64 x)) fun x21 => opS Tryz.prog (S.st 3 x21 x18) R) w := by
  subst hx
  have hia : ∀ (R : Value → World → Prop) w, opS Tryz.prog (S.ia 55 (pt bp 3) (.int .i64 (k : Nat))) R w = R (pt bp (k + 3)) w := fun R w => by
    rw [opS_iaA bp 3 .i64 (k : Int) (by omega)]
    rw [Int.toNat_natCast, Nat.mul_one, Nat.add_comm]
  have hg := brC_n (vp := vp) (p := p) (sl := .slice (some ⟨sb, so, none⟩) fs.S.length sc) (Ln := fs.Ln) h.nl hk
  have hs := brC_setn (vp := vp) (p := p) (sl := .slice (some ⟨sb, so, none⟩) fs.S.length sc) h.nl h.ll hk (IntKind.i64.wrap (fs.N.getD k 0 + 1))
  have hl := h.len
  simp only [push_cast, Nat.reduceAdd, Nat.reduceLeDiff, Nat.reduceLT, Int.reduceToNat, Nat.left_eq_add, Nat.add_eq_left, Nat.add_left_cancel_iff, Nat.reduceEqDiff, Nat.add_assoc, Nat.succ_ne_zero, h.blk, hia, hg]
  rw [hl, decide_eq_true (show k + (3 + 1) ≤ 15 by omega)]
  simp only [push_cast, Nat.reduceAdd, Nat.reduceLeDiff, Nat.reduceLT, Int.reduceToNat, Nat.left_eq_add, Nat.add_eq_left, Nat.add_left_cancel_iff, Nat.reduceEqDiff, Nat.add_assoc, Nat.succ_ne_zero]
  refine hK _ (h.own (N' := incr fs.N k) (Ln' := fs.Ln) (Fr.step_wr (fp := fun b => b = bp) (Fr.refl _ _) (.inl rfl) _ _) ?_ (by unfold incr; rw [List.length_set]; exact h.nl) h.ll) (Fr.step_wr (fp := fun b => b = bp) (Fr.refl _ _) (.inl rfl) _ _)
  simp only [push_cast, Nat.reduceAdd, Nat.reduceLeDiff, Nat.reduceLT, Int.reduceToNat, Nat.left_eq_add, Nat.add_eq_left, Nat.add_left_cancel_iff, Nat.reduceEqDiff, Nat.add_assoc, Nat.succ_ne_zero, h.blk, hs]
  rfl

def lfp (bp p pb : Nat) : Nat → Prop := fun b => b = bp ∨ b = p ∨ b = pb

theorem blearn_spec {v port now : Int} {m : Mac} (h : BR N0 w bp vp vm vnb p pb o c sb so sc room ps fs) (hv : isI v) (hm : m.ok) (hp : isI port) (ht : isI now)
    (hk : ∀ w' ps', BR N0 w' bp vp vm vnb p pb o c sb so sc room ps' (learnF room fs v m port now) → Fr (lfp bp p pb) w w' → K (.tuple #[]) w') :
    CallsR Tryz.prog 35 #[pt bp 0, i64 v, .agg m.cells.toArray, i64 port, i64 now] K w := by
  apply c35
  unfold p35
  have hF : Fr none_ w (w.alloc (cellsO m.cells 24)) := (by repeat' first | with_reducible exact Fr.refl _ _ | with_reducible refine Fr.step_alloc ?_ ?_ | with_reducible refine Fr.step_drew ?_ | with_reducible refine Fr.step_wr ?_ ?_ _ _ | exact rfl | exact Or.inr (by omega) | exact Or.inl rfl | exact Or.inl (Or.inl rfl) | exact Or.inl (Or.inr rfl))
  have hm0 : (w.alloc (cellsO m.cells 24)).heap[w.heap.size]? = some (cellsO m.cells 24) := by simp only [push_cast, Nat.reduceAdd, Nat.reduceLeDiff, Nat.reduceLT, Int.reduceToNat, Nat.left_eq_add, Nat.add_eq_left, Nat.add_left_cancel_iff, Nat.reduceEqDiff, Nat.add_assoc, Nat.succ_ne_zero]
  simp only [opS_box, cells_agg, alloc_cellsO]
  replace h := h.fr0 hF
  generalize w.alloc (cellsO m.cells 24) = W at *
  simp only [push_cast, Nat.reduceAdd, Nat.reduceLeDiff, Nat.reduceLT, Int.reduceToNat, Nat.left_eq_add, Nat.add_eq_left, Nat.add_left_cancel_iff, Nat.reduceEqDiff, Nat.add_assoc, Nat.succ_ne_zero, h.blk, hm0]
  have hFd : Fr none_ w W.drew := hF.step_drew
  replace h := h.fr0 (Fr.drew W)
  generalize W.drew = W2 at *
  refine learn_spec h.f hv hm hp ht fun w2 ps2 ht2 hF2 => ?_
  have h2 := h.tab hF2 ht2
  have hF02 : Fr (lfp bp p pb) w w2 := (hFd.mono fun _ _ e => e.elim).trans_new hF2 fun b _ e => .inr e
  unfold learnF at hk
  have done : ∀ {w' : World} {Ln' : List Int}, BR N0 w' bp vp vm vnb p pb o c sb so sc room ps2 { fs with r := (learnL room fs.r v m port now).1, Ln := Ln' } → Fr (fun b => b = bp) w2 w' → Fr (lfp bp p pb) w w' := fun _ hF => hF02.trans_new hF fun b _ e => .inl e
  simp only [push_cast, Nat.reduceAdd, Nat.reduceLeDiff, Nat.reduceLT, Int.reduceToNat, Nat.left_eq_add, Nat.add_eq_left, Nat.add_left_cancel_iff, Nat.reduceEqDiff, Nat.add_assoc, Nat.succ_ne_zero]
  refine br_intro (fun he => ?_) fun he => ?_
  · have he : (learnL room fs.r v m port now).2.2 ≠ 0 := by simpa using he
    rw [if_pos he] at hk
    refine cnt_l (k := 2) rfl (by decide) (h2.fr0 (Fr.drew w2)) fun w3 h3 hF3 => ?_
    exact hk _ ps2 h3 (hF02.step_drew.trans_new hF3 fun b _ e => .inl e)
  have he : (learnL room fs.r v m port now).2.2 = 0 := by simpa using he
  rw [if_neg (fun e => e he)] at hk
  refine br_intro (fun h1 => ?_) fun h1 => ?_
  · have h1 : (learnL room fs.r v m port now).2.1 = 1 := by simpa using h1
    rw [if_pos h1] at hk
    refine cnt_l (k := 0) rfl (by decide) (h2.fr0 (Fr.drew w2)) fun w3 h3 hF3 => ?_
    exact hk _ ps2 h3 (hF02.step_drew.trans_new hF3 fun b _ e => .inl e)
  have h1 : (learnL room fs.r v m port now).2.1 ≠ 1 := by simpa using h1
  rw [if_neg h1] at hk
  refine br_intro (fun h3 => ?_) fun h3 => ?_
  · have h3 : (learnL room fs.r v m port now).2.1 = 2 := by simpa using h3
    rw [if_pos h3] at hk
    refine cnt_l (k := 1) rfl (by decide) (h2.fr0 (Fr.drew w2)) fun w3 h3 hF3 => ?_
    exact hk _ ps2 h3 (hF02.step_drew.trans_new hF3 fun b _ e => .inl e)
  · have h3 : (learnL room fs.r v m port now).2.1 ≠ 2 := by simpa using h3
    rw [if_neg h3] at hk
    exact hk _ ps2 h2 hF02

theorem refused_spec {port now : Int} {f : Frm} {bs : List Int} (h : BR N0 w bp vp vm vnb p pb o c sb so sc room ps fs) (hf : FrmR w f bs)
    (hk : ∀ w', Fr none_ w w' → K (.tuple #[i64 (refusedL fs port f bs.length now).1, i64 (refusedL fs port f bs.length now).2]) w') :
    CallsR Tryz.prog 34 #[pt bp 0, i64 port, .agg f.cells.toArray, i64 now] K w := by
  apply c34
  unfold p34
  obtain ⟨ba, bc, hbd⟩ := hf.2.form
  have hF : Fr none_ w (w.alloc (cellsO f.cells 27)) := (by repeat' first | with_reducible exact Fr.refl _ _ | with_reducible refine Fr.step_alloc ?_ ?_ | with_reducible refine Fr.step_drew ?_ | with_reducible refine Fr.step_wr ?_ ?_ _ _ | exact rfl | exact Or.inr (by omega) | exact Or.inl rfl | exact Or.inl (Or.inl rfl) | exact Or.inl (Or.inr rfl))
  have hx0 : (w.alloc (cellsO f.cells 27)).heap[w.heap.size]? = some (cellsO f.cells 27) := by simp only [push_cast, Nat.reduceAdd, Nat.reduceLeDiff, Nat.reduceLT, Int.reduceToNat, Nat.left_eq_add, Nat.add_eq_left, Nat.add_left_cancel_iff, Nat.reduceEqDiff, Nat.add_assoc, Nat.succ_ne_zero]
  simp only [opS_box, cells_agg, alloc_cellsO]
  replace h := h.fr0 hF
  replace hf := hf.fr0 hF
  generalize w.alloc (cellsO f.cells 27) = W at *
  generalize w.heap.size = fb at *
  unfold refusedL at hk
  simp only [push_cast, Nat.reduceAdd, Nat.reduceLeDiff, Nat.reduceLT, Int.reduceToNat, Nat.left_eq_add, Nat.add_eq_left, Nat.add_left_cancel_iff, Nat.reduceEqDiff, Nat.add_assoc, Nat.succ_ne_zero]
  refine has_spec h ?_
  simp only [push_cast, Nat.reduceAdd, Nat.reduceLeDiff, Nat.reduceLT, Int.reduceToNat, Nat.left_eq_add, Nat.add_eq_left, Nat.add_left_cancel_iff, Nat.reduceEqDiff, Nat.add_assoc, Nat.succ_ne_zero]
  cases hh : hasB fs.S port with
  | false =>
    rw [hh] at hk
    simp only [push_cast, Nat.reduceAdd, Nat.reduceLeDiff, Nat.reduceLT, Int.reduceToNat, Nat.left_eq_add, Nat.add_eq_left, Nat.add_left_cancel_iff, Nat.reduceEqDiff, Nat.add_assoc, Nat.succ_ne_zero, Bool.not_false]
    exact hk _ hF
  | true =>
  rw [hh] at hk
  obtain ⟨hp1, hp2⟩ := hasB_iff.1 hh
  simp only [push_cast, Nat.reduceAdd, Nat.reduceLeDiff, Nat.reduceLT, Int.reduceToNat, Nat.left_eq_add, Nat.add_eq_left, Nat.add_left_cancel_iff, Nat.reduceEqDiff, Nat.add_assoc, Nat.succ_ne_zero, Bool.not_true, hx0]
  refine Vl.right_spec hbd fun w2 hF2 => ?_
  replace h := h.fr0 hF2
  replace hf := hf.fr0 hF2
  replace hx0 := hF2.heap hx0 fun h => h
  replace hF := hF.trans hF2
  simp only [push_cast, Nat.reduceAdd, Nat.reduceLeDiff, Nat.reduceLT, Int.reduceToNat, Nat.left_eq_add, Nat.add_eq_left, Nat.add_left_cancel_iff, Nat.reduceEqDiff, Nat.add_assoc, Nat.succ_ne_zero]
  cases hr : f.right bs.length with
  | false =>
    rw [hr] at hk
    simp only [push_cast, Nat.reduceAdd, Nat.reduceLeDiff, Nat.reduceLT, Int.reduceToNat, Nat.left_eq_add, Nat.add_eq_left, Nat.add_left_cancel_iff, Nat.reduceEqDiff, Nat.add_assoc, Nat.succ_ne_zero, Bool.not_false]
    exact hk _ hF
  | true =>
  rw [hr] at hk
  simp only [push_cast, Nat.reduceAdd, Nat.reduceLeDiff, Nat.reduceLT, Int.reduceToNat, Nat.left_eq_add, Nat.add_eq_left, Nat.add_left_cancel_iff, Nat.reduceEqDiff, Nat.add_assoc, Nat.succ_ne_zero, Bool.not_true]
  refine br_dec (fun h1 => ?_) fun h1 => ?_
  · rw [timedB_no (t := now) (by omega)] at hk
    exact hk _ hF
  refine br_dec (fun h2 => ?_) fun h2 => ?_
  · rw [timedB_no (t := now) (by omega)] at hk
    exact hk _ hF
  rw [timedB_iff.2 ⟨by omega, by omega⟩] at hk
  rw [if_neg (by decide)] at hk
  simp only [push_cast, Nat.reduceAdd, Nat.reduceLeDiff, Nat.reduceLT, Int.reduceToNat, Nat.left_eq_add, Nat.add_eq_left, Nat.add_left_cancel_iff, Nat.reduceEqDiff, Nat.add_assoc, Nat.succ_ne_zero, hx0]
  refine preserved_spec hf.1.1 fun w3 hF3 => ?_
  replace h := h.fr0 hF3
  replace hf := hf.fr0 hF3
  replace hx0 := hF3.heap hx0 fun h => h
  replace hF := hF.trans hF3
  simp only [push_cast, Nat.reduceAdd, Nat.reduceLeDiff, Nat.reduceLT, Int.reduceToNat, Nat.left_eq_add, Nat.add_eq_left, Nat.add_left_cancel_iff, Nat.reduceEqDiff, Nat.add_assoc, Nat.succ_ne_zero]
  refine br_intro (fun hrs => ?_) fun hrs => ?_
  · rw [if_pos hrs] at hk
    exact hk _ hF
  rw [if_neg (by rw [hrs]; simp)] at hk
  simp only [push_cast, Nat.reduceAdd, Nat.reduceLeDiff, Nat.reduceLT, Int.reduceToNat, Nat.left_eq_add, Nat.add_eq_left, Nat.add_left_cancel_iff, Nat.reduceEqDiff, Nat.add_assoc, Nat.succ_ne_zero, h.blk]
  refine st_get h (by omega) (by omega) ?_
  simp only [push_cast, Nat.reduceAdd, Nat.reduceLeDiff, Nat.reduceLT, Int.reduceToNat, Nat.left_eq_add, Nat.add_eq_left, Nat.add_left_cancel_iff, Nat.reduceEqDiff, Nat.add_assoc, Nat.succ_ne_zero]
  refine br_intro (fun h0 => ?_) fun h0 => ?_
  · rw [if_pos (by simpa using h0)] at hk
    exact hk _ hF
  rw [if_neg (by simpa using h0)] at hk
  simp only [push_cast, Nat.reduceAdd, Nat.reduceLeDiff, Nat.reduceLT, Int.reduceToNat, Nat.left_eq_add, Nat.add_eq_left, Nat.add_left_cancel_iff, Nat.reduceEqDiff, Nat.add_assoc, Nat.succ_ne_zero, h.blk, hx0]
  have hFd := hF.step_drew
  replace h := h.fr0 (Fr.drew w3)
  replace hf := hf.fr0 (Fr.drew w3)
  replace hx0 := (Fr.drew (fp := none_) w3).heap hx0 fun h => h
  generalize w3.drew = w4 at *
  refine Vl.vin_spec h.v hf fun w5 hF5 => ?_
  replace hf := hf.fr0 hF5
  replace hx0 := hF5.heap hx0 fun h => h
  simp only [push_cast, Nat.reduceAdd, Nat.reduceLeDiff, Nat.reduceLT, Int.reduceToNat, Nat.left_eq_add, Nat.add_eq_left, Nat.add_left_cancel_iff, Nat.reduceEqDiff, Nat.add_assoc, Nat.succ_ne_zero]
  refine br_intro (fun he => ?_) fun he => ?_
  · rw [if_pos (by simpa using he)] at hk
    exact hk _ (hFd.trans hF5)
  rw [if_neg (by simpa using he)] at hk
  simp only [push_cast, Nat.reduceAdd, Nat.reduceLeDiff, Nat.reduceLT, Int.reduceToNat, Nat.left_eq_add, Nat.add_eq_left, Nat.add_left_cancel_iff, Nat.reduceEqDiff, Nat.add_assoc, Nat.succ_ne_zero, hx0]
  refine pgroup_spec hf.1.2.1 fun w6 hF6 => ?_
  simp only [push_cast, Nat.reduceAdd, Nat.reduceLeDiff, Nat.reduceLT, Int.reduceToNat, Nat.left_eq_add, Nat.add_eq_left, Nat.add_left_cancel_iff, Nat.reduceEqDiff, Nat.add_assoc, Nat.succ_ne_zero]
  refine br_intro (fun hg => ?_) fun hg => ?_
  · rw [if_pos hg] at hk
    exact hk _ ((hFd.trans hF5).trans hF6)
  · rw [if_neg (by rw [hg]; simp)] at hk
    exact hk _ ((hFd.trans hF5).trans hF6)

end
end Go.Gx.S
end

section
/- A bridge: to which ports frames go. -/
set_option linter.unusedVariables false
set_option linter.unusedSimpArgs false
set_option maxRecDepth 100000
namespace Go.Gx.S
open Go Go.Gx Go.Proofs
variable {K : Value → World → Prop} {w : World}

/-! ### Plain -/

def outAt (t : VT) (S : List Int) (v frm : Int) (f : Frm) (n : Nat) (i : Nat) : Option (Int × Frm) :=
  if (i : Int) = frm then none else if S.getD i 0 ≠ 2 then none else if (t.out v i f n).2 = 0 then some ((i : Int), (t.out v i f n).1) else none
def sendN (t : VT) (S : List Int) (v frm : Int) (f : Frm) (n : Nat) : Nat → List (Int × Frm)
  | 0 => []
  | k + 1 => sendN t S v frm f n k ++ (outAt t S v frm f n k).toList
def tgt (target : Int) (o : Int × Frm) : Bool := decide (target = 0 ∨ o.1 = target)
def relayL (t : VT) (S : List Int) (v frm target : Int) (f : Frm) (n : Nat) : List (Int × Frm) := (sendN t S v frm f n S.length).filter (tgt target)
def outC (o : Int × Frm) : List Value := i64 o.1 :: o.2.cells
theorem outC.len (o : Int × Frm) : (outC o).length = 18 := id rfl
theorem outC.g0 (o : Int × Frm) : (outC o)[0]? = some (i64 o.1) := id rfl
theorem outC.d1 (o : Int × Frm) : ((outC o).drop 1).take 17 = o.2.cells := id rfl
attribute [push_cast] outC.len outC.g0 outC.d1
theorem frm_len (f : Frm) : f.cells.length = 17 := id rfl
theorem frm_dw (f : Frm) : (f.cells.drop 0).take 17 = f.cells := id rfl

theorem sendN_len {t : VT} {S : List Int} {v frm : Int} {f : Frm} {n : Nat} : ∀ k, (sendN t S v frm f n k).length ≤ k
  | 0 => Nat.le_refl _
  | k + 1 => by
    have := sendN_len (t := t) (S := S) (v := v) (frm := frm) (f := f) (n := n) k
    unfold sendN
    rw [List.length_append]
    cases outAt t S v frm f n k <;> simp <;> omega

/-- a frame's cells but for its body are of one cell each; so is its body where it is a slice -/
theorem frm_one {f : Frm} (h : S.oneCell f.body = true) : f.cells.all S.oneCell = true := by
  simp only [Frm.cells, List.all_cons, List.all_nil, h]
  rfl
theorem frmR_one {f : Frm} {bs : List Int} (h : FrmR w f bs) : f.cells.all S.oneCell = true := by
  obtain ⟨a, c, hb⟩ := h.2.form
  exact frm_one (by rw [hb]; rfl)
theorem out_one {t : VT} {v n : Int} {f : Frm} {m : Nat} (h : S.oneCell f.body = true) : (t.out v n f m).1.cells.all S.oneCell = true := by
  unfold VT.out
  split
  · split
    · rfl
    · exact frm_one h
    · exact frm_one h
  · rfl
theorem outC_one {o : Int × Frm} (h : o.2.cells.all S.oneCell = true) : (outC o).all S.oneCell = true := by
  unfold outC
  rw [List.all_cons, h]
  rfl

theorem zalloc_frm : opS Tryz.prog (S.alloc 27) K w = K (pt w.heap.size 0) (w.alloc (cellsO zFrm.cells 27)) := by
  rw [opS_alloc]; rfl
theorem build_out (i : Int) (f : Frm) : opS Tryz.prog (S.build 49 [(0, i64 i), (1, .agg f.cells.toArray)]) K w = K (.agg (outC (i, f)).toArray) w := by
  rw [opS_build _ rfl]; rfl
theorem out_slot {g : Int × Frm} (hg : g.2.cells.all S.oneCell = true) {R : Value → Value → World → Prop} (h : ∀ u w', w'.heap[w.heap.size]? = some (cellsO (outC g) 49) → Fr none_ w w' → R (pt w.heap.size 0) u w') :
    opS Tryz.prog (S.alloc 49) (fun x => opS Tryz.prog (S.st 49 x (.agg (outC g).toArray)) (R x)) w := by
  have hz : opS Tryz.prog (S.alloc 49) (fun x => opS Tryz.prog (S.st 49 x (.agg (outC g).toArray)) (R x)) w = opS Tryz.prog (S.st 49 (pt w.heap.size 0) (.agg (outC g).toArray)) (R (pt w.heap.size 0)) (w.alloc (cellsO (outC (0, zFrm)) 49)) := by
    rw [opS_alloc]; rfl
  rw [hz, s_stA _ _ (outC g) rfl (outC_one hg), heap_alloc_new, okAt_cells]
  have e : splice (outC (0, zFrm)) 0 (outC g) = outC g := rfl
  rw [show decide (0 + (outC g).length ≤ (outC (0, zFrm)).length) = true from rfl, onB_true]
  refine h _ _ ?_ (Fr.step_wr (Fr.step_alloc (Fr.refl _ _) rfl) (.inr (Nat.le_refl _)) _ _)
  rw [heap_wr, if_pos rfl, heap_alloc_new, putAt_cells, e]

section
variable {N0 bp vp vm vnb p pb o c sb so sc room : Nat} {ps : List Ent} {fs : FS}

/-! ### In any order -/

section
variable {w0 : World} {f : Frm} {bs : List Int} {b1 b3 b4 : Nat} {v : Int}
theorem so_ldB (h : BR N0 w0 bp vp vm vnb p pb o c sb so sc room ps fs) (hb : w0.heap[b1]? = some (cellsO [pt bp 0] 32)) (hF : Fr none_ w0 w) {R : Value → World → Prop} (hk : R (pt bp 0) w) :
    opS Tryz.prog (S.ld 32 (pt b1 0)) (fun x => opS Tryz.prog (S.nc x) fun y => opS Tryz.prog (S.fa 83 y 0) R) w := by
  have := hF.heap hb fun h => h
  simp only [push_cast, Nat.reduceAdd, Nat.reduceLeDiff, Nat.reduceLT, Int.reduceToNat, Nat.left_eq_add, Nat.add_eq_left, Nat.add_left_cancel_iff, Nat.reduceEqDiff, Nat.add_assoc, Nat.succ_ne_zero, this]
  exact hk
theorem so_ldV (h : BR N0 w0 bp vp vm vnb p pb o c sb so sc room ps fs) (hF : Fr none_ w0 w) {R : Value → World → Prop} (hk : R (pt vp 0) w) : opS Tryz.prog (S.ld 71 (pt bp 0)) R w := by
  have := hF.heap h.blk fun h => h
  simp only [push_cast, Nat.reduceAdd, Nat.reduceLeDiff, Nat.reduceLT, Int.reduceToNat, Nat.left_eq_add, Nat.add_eq_left, Nat.add_left_cancel_iff, Nat.reduceEqDiff, Nat.add_assoc, Nat.succ_ne_zero, this]
  exact hk
theorem so_ldI (hb : w0.heap[b3]? = some (cellsO [i64 v] 3)) (hF : Fr none_ w0 w) {R : Value → World → Prop} (hk : R (i64 v) w) : opS Tryz.prog (S.ld 3 (pt b3 0)) R w := by
  have := hF.heap hb fun h => h
  simp only [push_cast, Nat.reduceAdd, Nat.reduceLeDiff, Nat.reduceLT, Int.reduceToNat, Nat.left_eq_add, Nat.add_eq_left, Nat.add_left_cancel_iff, Nat.reduceEqDiff, Nat.add_assoc, Nat.succ_ne_zero, this]
  exact hk
theorem so_ldF (hb : w0.heap[b4]? = some (cellsO f.cells 27)) (hF : Fr none_ w0 w) {R : Value → World → Prop} (hk : R (.agg f.cells.toArray) w) : opS Tryz.prog (S.ld 27 (pt b4 0)) R w := by
  have := hF.heap hb fun h => h
  simp only [push_cast, Nat.reduceAdd, Nat.reduceLeDiff, Nat.reduceLT, Int.reduceToNat, Nat.left_eq_add, Nat.add_eq_left, Nat.add_left_cancel_iff, Nat.reduceEqDiff, Nat.add_assoc, Nat.succ_ne_zero, this, frm_len, frm_dw]
  exact hk
theorem so_alloc (hF : Fr none_ w0 w) {R : Value → World → Prop} (hk : ∀ sl w', w'.heap[sl]? = some (cellsO zFrm.cells 27) → w0.heap.size ≤ sl → Fr none_ w0 w' → R (pt sl 0) w') : opS Tryz.prog (S.alloc 27) R w := by
  rw [zalloc_frm]
  refine hk _ _ ?_ hF.size (hF.trans ((Fr.refl _ _).step_alloc rfl))
  simp only [push_cast, Nat.reduceAdd, Nat.reduceLeDiff, Nat.reduceLT, Int.reduceToNat, Nat.left_eq_add, Nat.add_eq_left, Nat.add_left_cancel_iff, Nat.reduceEqDiff, Nat.add_assoc, Nat.succ_ne_zero]
theorem so_out {i : Int} (h : BR N0 w0 bp vp vm vnb p pb o c sb so sc room ps fs) (hf : FrmR w0 f bs) (hF : Fr none_ w0 w) {R : Value → Value → World → Prop} (hk : ∀ w', Fr none_ w0 w' → Fr none_ w w' → R (.agg (fs.t.out v i f bs.length).1.cells.toArray) (i64 (fs.t.out v i f bs.length).2) w') :
    opS Tryz.prog (S.cl 77 [pt vp 0, i64 v, i64 i, .agg f.cells.toArray]) (fun x => opS Tryz.prog (S.ext x 0) fun a => opS Tryz.prog (S.ext x 1) fun b => R a b) w := by
  simp only [push_cast, Nat.reduceAdd, Nat.reduceLeDiff, Nat.reduceLT, Int.reduceToNat, Nat.left_eq_add, Nat.add_eq_left, Nat.add_left_cancel_iff, Nat.reduceEqDiff, Nat.add_assoc, Nat.succ_ne_zero]
  refine Vl.vout_spec (h.v.fr0 hF) (hf.fr0 hF) fun w' hF' => ?_
  simp only [s_ext, List.getElem?_toArray, List.getElem?_cons_zero, List.getElem?_cons_succ, onS_some]
  exact hk w' (hF.trans hF') hF'
theorem so_st1 {g : Frm} {sl : Nat} {w1 : World} (hg : g.cells.all S.oneCell = true) (hs : w1.heap[sl]? = some (cellsO zFrm.cells 27)) (hl : w0.heap.size ≤ sl) (hF1 : Fr none_ w1 w) (hF : Fr none_ w0 w) {R : Value → World → Prop} (hk : ∀ u w', w'.heap[sl]? = some (cellsO g.cells 27) → Fr none_ w0 w' → R u w') :
    opS Tryz.prog (S.st 27 (pt sl 0) (.agg g.cells.toArray)) R w := by
  have hs' := hF1.heap hs fun h => h
  rw [s_stA _ _ _ (frm_len g) hg, hs', okAt_cells]
  have e : splice zFrm.cells 0 g.cells = g.cells := rfl
  rw [show decide (0 + 17 ≤ zFrm.cells.length) = true from rfl, onB_true]
  refine hk _ _ ?_ (hF.step_wr (.inr hl) _ _)
  rw [heap_wr, if_pos rfl, hs', putAt_cells, e]
end

theorem senders_spec {v frm : Int} {f : Frm} {bs : List Int} (hf : FrmR w f bs)
    (hk : ∀ w', w'.heap[w.heap.size]? = some (cellsO [pt bp 0] 32) → w'.heap[w.heap.size + 2]? = some (cellsO [i64 frm] 3) → w'.heap[w.heap.size + 1]? = some (cellsO [i64 v] 3) → w'.heap[w.heap.size + 3]? = some (cellsO f.cells 27) → Fr none_ w w' →
      K (.func (.func 76) #[] #[pt w.heap.size 0, pt (w.heap.size + 2) 0, pt (w.heap.size + 1) 0, pt (w.heap.size + 3) 0]) w') :
    CallsR Tryz.prog 38 #[pt bp 0, i64 v, i64 frm, .agg f.cells.toArray] K w := by
  apply c38
  unfold p38
  simp only [push_cast, Nat.reduceAdd, Nat.reduceLeDiff, Nat.reduceLT, Int.reduceToNat, Nat.left_eq_add, Nat.add_eq_left, Nat.add_left_cancel_iff, Nat.reduceEqDiff, Nat.add_assoc, Nat.succ_ne_zero]
  refine hk _ ?_ ?_ ?_ ?_ (by repeat' first | with_reducible exact Fr.refl _ _ | with_reducible refine Fr.step_alloc ?_ ?_ | with_reducible refine Fr.step_drew ?_ | with_reducible refine Fr.step_wr ?_ ?_ _ _ | exact rfl | exact Or.inr (by omega) | exact Or.inl rfl | exact Or.inl (Or.inl rfl) | exact Or.inl (Or.inr rfl)) <;> simp only [push_cast, Nat.reduceAdd, Nat.reduceLeDiff, Nat.reduceLT, Int.reduceToNat, Nat.left_eq_add, Nat.add_eq_left, Nat.add_left_cancel_iff, Nat.reduceEqDiff, Nat.add_assoc, Nat.succ_ne_zero]

theorem senders1_spec {y : Value} {v frm : Int} {f : Frm} {bs : List Int} {b1 b2 b3 b4 : Nat} (fpY : Nat → Prop) (A : World → Prop) (I : List (Int × Frm) → World → Prop)
    (hA0 : ∀ w1, A w1 → BR N0 w1 bp vp vm vnb p pb o c sb so sc room ps fs ∧ FrmR w1 f bs ∧ w1.heap[b1]? = some (cellsO [pt bp 0] 32) ∧ w1.heap[b2]? = some (cellsO [i64 frm] 3) ∧ w1.heap[b3]? = some (cellsO [i64 v] 3) ∧ w1.heap[b4]? = some (cellsO f.cells 27))
    (hAN : ∀ w1 w2, A w1 → Fr none_ w1 w2 → A w2) (hAY : ∀ w1 w2, A w1 → Fr fpY w1 w2 → A w2) (hIN : ∀ d w1 w2, I d w1 → Fr none_ w1 w2 → I d w2) (hA : A w) (hI : I [] w)
    (hy : ∀ d x w1 KY, I d w1 → A w1 → d.length ≤ 64 → (outC x).all S.oneCell = true → (∀ w2, I (d ++ [x]) w2 → Fr fpY w1 w2 → KY (.bool true) w2) → opS Tryz.prog (S.call y [.agg (outC x).toArray]) KY w1)
    (h : ∀ w', I (sendN fs.t fs.S v frm f bs.length fs.S.length) w' → A w' → K (.tuple #[]) w') :
    CallsR Tryz.prog 76 #[y, pt b1 0, pt b2 0, pt b3 0, pt b4 0] K w := by
  apply c76
  unfold p76
  obtain ⟨hB, hf, h1, h2, h3, h4⟩ := hA0 w hA
  have hsl := hB.sl
  obtain ⟨ba, bc, hbd⟩ := hf.2.form
  have hbo : S.oneCell f.body = true := by rw [hbd]; rfl
  simp only [push_cast, Nat.reduceAdd, Nat.reduceLeDiff, Nat.reduceLT, Int.reduceToNat, Nat.left_eq_add, Nat.add_eq_left, Nat.add_left_cancel_iff, Nat.reduceEqDiff, Nat.add_assoc, Nat.succ_ne_zero, h1, hB.blk]
  refine jn0 (fun w' => I (sendN fs.t fs.S v frm f bs.length fs.S.length) w' ∧ A w') (fun w' ⟨a, b⟩ => h w' a b) fun j hj => ?_
  refine loop1 (fun n x w' => ∃ i : Nat, x = i64 i ∧ n + i = fs.S.length ∧ I (sendN fs.t fs.S v frm f bs.length i) w' ∧ A w') ?_ fs.S.length ⟨0, rfl, rfl, hI, hA⟩
  rintro n x w1 X ⟨i, rfl, hi, hI1, hA1⟩ hX
  simp only [push_cast, Nat.reduceAdd, Nat.reduceLeDiff, Nat.reduceLT, Int.reduceToNat, Nat.left_eq_add, Nat.add_eq_left, Nat.add_left_cancel_iff, Nat.reduceEqDiff, Nat.add_assoc, Nat.succ_ne_zero]
  refine br_dec (fun hlt => ?_) fun hge => ?_
  case refine_2 =>
    have : i = fs.S.length := by omega
    subst this
    exact hj _ ⟨hI1, hA1⟩
  have hil : i < fs.S.length := by omega
  have hdl := sendN_len (t := fs.t) (S := fs.S) (v := v) (frm := frm) (f := f) (n := bs.length) i
  obtain ⟨hB1, hf1, g1, g2, g3, g4⟩ := hA0 w1 hA1
  have hnone : outAt fs.t fs.S v frm f bs.length i = none → ∀ w', Fr none_ w1 w' → X (i64 (IntKind.i64.wrap ((i : Int) + 1))) w' := fun he w' hF => by
    rw [wrap_i64 (by omega)]
    refine hX (n - 1) _ _ (by omega) ⟨i + 1, by simp, by omega, ?_, hAN _ _ hA1 hF⟩
    unfold sendN
    rw [he]
    simpa using hIN _ _ _ hI1 hF
  refine st_get hB1 (by omega) (by omega) ?_
  rw [Int.toNat_natCast]
  simp only [push_cast, Nat.reduceAdd, Nat.reduceLeDiff, Nat.reduceLT, Int.reduceToNat, Nat.left_eq_add, Nat.add_eq_left, Nat.add_left_cancel_iff, Nat.reduceEqDiff, Nat.add_assoc, Nat.succ_ne_zero, g2]
  refine br_intro (fun hfr => hnone ?_ _ (Fr.refl _ _)) fun hfr => ?_
  · unfold outAt; rw [if_pos (by simpa using hfr)]
  have hfr : ¬ (i : Int) = frm := by simpa using hfr
  refine br_intro (fun hst => hnone ?_ _ (Fr.refl _ _)) fun hst => ?_
  · unfold outAt; rw [if_neg hfr, if_pos (by simpa using hst)]
  have hst : fs.S.getD i 0 = 2 := by simpa using hst
  have hoa : outAt fs.t fs.S v frm f bs.length i = if (fs.t.out v i f bs.length).2 = 0 then some ((i : Int), (fs.t.out v i f bs.length).1) else none := by
    unfold outAt
    rw [if_neg hfr, if_neg (by rw [hst]; simp)]
  have hgo := out_one (t := fs.t) (v := v) (n := (i : Int)) (m := bs.length) hbo
  refine jn2 (fun a b w' => ∃ sl, a = pt sl 0 ∧ b = i64 (fs.t.out v i f bs.length).2 ∧ w'.heap[sl]? = some (cellsO (fs.t.out v i f bs.length).1.cells 27) ∧ Fr none_ w1 w') ?_ fun j2 hj2 => ?_
  · rintro a b w2 ⟨sl, rfl, rfl, hs, hF2⟩
    simp only [push_cast, Nat.reduceAdd, Nat.reduceLeDiff, Nat.reduceLT, Int.reduceToNat, Nat.left_eq_add, Nat.add_eq_left, Nat.add_left_cancel_iff, Nat.reduceEqDiff, Nat.add_assoc, Nat.succ_ne_zero, hs, frm_len, frm_dw]
    refine br_intro (fun he => ?_) fun he => ?_
    · rw [if_pos (by simpa using he)] at hoa
      rw [build_out]
      refine hy _ (_, _) w2 _ (hIN _ _ _ hI1 hF2) (hAN _ _ hA1 hF2) (by omega) (outC_one hgo) fun w3 hI3 hF3 => ?_
      simp only [push_cast, Nat.reduceAdd, Nat.reduceLeDiff, Nat.reduceLT, Int.reduceToNat, Nat.left_eq_add, Nat.add_eq_left, Nat.add_left_cancel_iff, Nat.reduceEqDiff, Nat.add_assoc, Nat.succ_ne_zero, Bool.not_true]
      rw [wrap_i64 (by omega)]
      refine hX (n - 1) _ _ (by omega) ⟨i + 1, by simp, by omega, ?_, hAY _ _ (hAN _ _ hA1 hF2) hF3⟩
      unfold sendN
      rw [hoa]
      exact hI3
    · rw [if_neg (by simpa using he)] at hoa
      exact hnone hoa _ hF2
  · simp only [drw_eq]
    have hB2 := hB1.fr0 (Fr.drew w1)
    have hf2 := hf1.fr0 (Fr.drew w1)
    have k1 := (Fr.drew (fp := none_) w1).heap g1 fun h => h
    have k3 := (Fr.drew (fp := none_) w1).heap g3 fun h => h
    have k4 := (Fr.drew (fp := none_) w1).heap g4 fun h => h
    have hFd : Fr none_ w1 w1.drew := Fr.drew w1
    generalize w1.drew = wd at *
    have hself : Fr none_ wd wd := Fr.refl _ _
    have fin : ∀ sl w', w'.heap[sl]? = some (cellsO (fs.t.out v i f bs.length).1.cells 27) → Fr none_ wd w' → j2 (pt sl 0) (i64 (fs.t.out v i f bs.length).2) w' := fun sl w' hs hF => hj2 _ _ _ ⟨sl, rfl, rfl, hs, hFd.trans hF⟩
    clear hnone hX hj hI hA hy h hA0 hAN hAY hIN
    repeat' first
      | with_reducible refine allW_intro ?_ ?_
      | with_reducible refine so_ldB hB2 k1 (by assumption) ?_
      | with_reducible refine so_ldV hB2 (by assumption) ?_
      | with_reducible refine so_ldI k3 (by assumption) ?_
      | with_reducible refine so_ldF k4 (by assumption) ?_
      | with_reducible refine so_alloc (w0 := wd) (by assumption) fun _ _ _ _ _ => ?_
      | with_reducible refine so_out hB2 hf2 (by assumption) fun _ _ _ => ?_
      | (with_reducible refine so_st1 (w0 := wd) hgo (by assumption) (by assumption) (by first | assumption | exact Fr.refl _ _) (by assumption) fun _ _ _ _ => ?_; exact fin _ _ (by assumption) (by assumption))

end
end Go.Gx.S
end
