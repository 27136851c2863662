/- Entries that are compared (the table's). -/
import Derived.Test.YtclkdldkebjgpaaFdbBT
import Derived.Test.YtclkdldkebjgpaaBaseMac
import Derived.Test.YtclkdldkebjgpaaGxRep
import Derived.Test.YtclkdldkebjgpaaGxBuf
import Derived.Test.YtclkdldkebjgpaaFdbA
import Derived.Test.YtclkdldkebjgpaaGxClear
import Derived.Test.YtclkdldkebjgpaaFdbBS
set_option linter.unusedVariables false
set_option linter.unusedSimpArgs false
set_option maxRecDepth 100000
namespace Go.Gx.S
open Go Go.Gx Go.Proofs
variable {K : Value → World → Prop} {w : World}

theorem isnan_spec {a : Int} (h : K (.bool false) w) : CallsR Try.prog 71 #[i64 a] K w := by
  apply c71
  unfold p71
  simp only [push_cast, Nat.reduceAdd, Nat.reduceLeDiff, Nat.reduceLT, Int.reduceToNat, Nat.left_eq_add, Nat.add_eq_left, Nat.add_left_cancel_iff, Nat.reduceEqDiff, Nat.add_assoc, Nat.succ_ne_zero]
  have : (a != a) = false := by simp
  rw [this]; exact h

theorem ccmp_spec {a b : Int} (h : K (i64 (cmpI a b)) w) : CallsR Try.prog 30 #[i64 a, i64 b] K w := by
  apply c30
  unfold p30
  simp only [push_cast, Nat.reduceAdd, Nat.reduceLeDiff, Nat.reduceLT, Int.reduceToNat, Nat.left_eq_add, Nat.add_eq_left, Nat.add_left_cancel_iff, Nat.reduceEqDiff, Nat.add_assoc, Nat.succ_ne_zero]
  refine isnan_spec ?_
  refine isnan_spec ?_
  simp only [push_cast, Nat.reduceAdd, Nat.reduceLeDiff, Nat.reduceLT, Int.reduceToNat, Nat.left_eq_add, Nat.add_eq_left, Nat.add_left_cancel_iff, Nat.reduceEqDiff, Nat.add_assoc, Nat.succ_ne_zero]
  unfold cmpI at h
  refine br_dec (fun h1 => ?_) fun h1 => ?_
  · rw [if_pos h1] at h; exact h
  · rw [if_neg h1] at h
    refine br_dec (fun h2 => ?_) fun h2 => ?_
    · rw [if_pos h2] at h; exact h
    · rw [if_neg (by omega)] at h; exact h

/-- the first that is not zero -/
def orL : List Int → Int
  | [] => 0
  | x :: l => if x ≠ 0 then x else orL l

theorem orL_cons (x : Int) (l : List Int) : orL (x :: l) = if x ≠ 0 then x else orL l := id rfl

theorem cor_spec {v : Value} {l : List Int} (hv : RdE 1 w v (l.map cellI)) (hl : l.length < 2 ^ 62) (h : K (i64 (orL l)) w) : CallsR Try.prog 29 #[v] K w := by
  apply c29
  unfold p29
  obtain ⟨a, c, rfl⟩ := hv.form
  rw [List.length_map] at hv ⊢
  simp only [push_cast, Nat.reduceAdd, Nat.reduceLeDiff, Nat.reduceLT, Int.reduceToNat, Nat.left_eq_add, Nat.add_eq_left, Nat.add_left_cancel_iff, Nat.reduceEqDiff, Nat.add_assoc, Nat.succ_ne_zero]
  refine jn0 (fun w' => w' = w ∧ orL l = 0) (fun w' ⟨e, e2⟩ => by rw [e]; rw [e2] at h; exact h) fun j hj => ?_
  refine loop1 (fun n v' w' => ∃ i : Nat, v' = i64 i ∧ n + i = l.length ∧ w' = w ∧ orL l = orL (l.drop i)) ?_ l.length ⟨0, rfl, rfl, rfl, rfl⟩
  rintro n v' w' X ⟨i, rfl, hi, rfl, ho⟩ hX
  simp only [push_cast, Nat.reduceAdd, Nat.reduceLeDiff, Nat.reduceLT, Int.reduceToNat, Nat.left_eq_add, Nat.add_eq_left, Nat.add_left_cancel_iff, Nat.reduceEqDiff, Nat.add_assoc, Nat.succ_ne_zero]
  refine br_dec (fun hlt => ?_) fun hge => ?_
  · have hil : i < l.length := by omega
    refine s_iaE hv (by omega) (by simpa using hil) fun b o c _ he => ?_
    simp only [push_cast, Nat.reduceAdd, Nat.reduceLeDiff, Nat.reduceLT, Int.reduceToNat, Nat.left_eq_add, Nat.add_eq_left, Nat.add_left_cancel_iff, Nat.reduceEqDiff, Nat.add_assoc, Nat.succ_ne_zero]
    rw [he.cell0 (by simp [cellI])]
    simp only [push_cast, Nat.reduceAdd, Nat.reduceLeDiff, Nat.reduceLT, Int.reduceToNat, Nat.left_eq_add, Nat.add_eq_left, Nat.add_left_cancel_iff, Nat.reduceEqDiff, Nat.add_assoc, Nat.succ_ne_zero, List.getElem_map, cellI, Int.toNat_natCast]
    rw [List.drop_eq_getElem_cons hil, orL_cons] at ho
    refine br_intro (fun e => ?_) fun e => ?_
    · rw [if_pos (by simpa using e)] at ho
      rw [ho] at h; exact h
    · rw [if_neg (by simpa using e)] at ho
      rw [wrap_i64 (by omega)]
      exact hX (n - 1) _ _ (by omega) ⟨i + 1, by simp, by omega, rfl, ho⟩
  · rw [List.drop_eq_nil_of_le (by omega)] at ho
    exact hj _ ⟨rfl, ho⟩

theorem bcmp_spec {a b : Value} {x y : List Int} (ha : ByR w a x) (hb : ByR w b y) (h : K (.int .i64 (Extern.BytealgCompare.cmp (strOf x) (strOf y))) w) : CallsR Try.prog 72 #[a, b] K w := by
  apply c72
  unfold p72
  exact s_bytecmp Try.func112 (by kernel_rfl) (by kernel_rfl) (by kernel_rfl) (by kernel_rfl) ha hb h

theorem by_mac {m : Mac} {b : Nat} {T : TypeId} (hb : w.heap[b]? = some (cellsO m.cells T)) (h : m.ok) : ByR w (.slice (some ⟨b, 0, none⟩) 6 6) (macL m) :=
  ⟨⟨.inr ⟨b, 0, 6, _, T, (0, 0), rfl, hb, Nat.le_refl _, by show 0 + 6 * 1 ≤ 6; decide, rfl⟩, by simp [macL, cell1]⟩, macL_ok h⟩

theorem mcmp_spec {a b : Mac} (ha : a.ok) (hb : b.ok) (h : ∀ w', Gr w w' → K (i64 (cmpM a b)) w') : CallsR Try.prog 31 #[.agg a.cells.toArray, .agg b.cells.toArray] K w := by
  apply c31
  unfold p31
  have hG : Gr w ((w.alloc (cellsO a.cells 34)).alloc (cellsO b.cells 34)).drew := ((Gr.refl _).step_alloc _ |>.step_alloc _).step_drew
  have h0 : ((w.alloc (cellsO a.cells 34)).alloc (cellsO b.cells 34)).drew.heap[w.heap.size]? = some (cellsO a.cells 34) := by simp only [push_cast, Nat.reduceAdd, Nat.reduceLeDiff, Nat.reduceLT, Int.reduceToNat, Nat.left_eq_add, Nat.add_eq_left, Nat.add_left_cancel_iff, Nat.reduceEqDiff, Nat.add_assoc, Nat.succ_ne_zero]
  have h1 : ((w.alloc (cellsO a.cells 34)).alloc (cellsO b.cells 34)).drew.heap[w.heap.size + 1]? = some (cellsO b.cells 34) := by simp only [push_cast, Nat.reduceAdd, Nat.reduceLeDiff, Nat.reduceLT, Int.reduceToNat, Nat.left_eq_add, Nat.add_eq_left, Nat.add_left_cancel_iff, Nat.reduceEqDiff, Nat.add_assoc, Nat.succ_ne_zero]
  simp only [push_cast, Nat.reduceAdd, Nat.reduceLeDiff, Nat.reduceLT, Int.reduceToNat, Nat.left_eq_add, Nat.add_eq_left, Nat.add_left_cancel_iff, Nat.reduceEqDiff, Nat.add_assoc, Nat.succ_ne_zero]
  generalize ((w.alloc (cellsO a.cells 34)).alloc (cellsO b.cells 34)).drew = W at *
  simp only [opS_slcA, push_cast, Nat.reduceAdd, Nat.reduceLeDiff, Nat.reduceLT, Int.reduceToNat, Nat.left_eq_add, Nat.add_eq_left, Nat.add_left_cancel_iff, Nat.reduceEqDiff, Nat.add_assoc, Nat.succ_ne_zero]
  refine bcmp_spec (by_mac h0 ha) (by_mac h1 hb) ?_
  rw [cmp_mac ha hb]
  exact h W hG

theorem orL_two (a b : Int) : orL [a, b] = if a ≠ 0 then a else b := by
  rw [orL_cons, orL_cons]
  split
  · rfl
  · split
    · rfl
    · rename_i h; unfold orL; omega

theorem ecmp_spec {a b : Ent} (ha : a.ok) (hb : b.ok) (h : ∀ w', Gr w w' → K (i64 (cmpE a b)) w') : CallsR Try.prog 28 #[.agg a.cells.toArray, .agg b.cells.toArray] K w := by
  apply c28
  unfold p28
  have hG : Gr w ((w.alloc (cellsO a.cells 40)).alloc (cellsO b.cells 40)).drew := ((Gr.refl _).step_alloc _ |>.step_alloc _).step_drew
  have h0 : ((w.alloc (cellsO a.cells 40)).alloc (cellsO b.cells 40)).drew.heap[w.heap.size]? = some (cellsO a.cells 40) := by simp only [push_cast, Nat.reduceAdd, Nat.reduceLeDiff, Nat.reduceLT, Int.reduceToNat, Nat.left_eq_add, Nat.add_eq_left, Nat.add_left_cancel_iff, Nat.reduceEqDiff, Nat.add_assoc, Nat.succ_ne_zero]
  have h1 : ((w.alloc (cellsO a.cells 40)).alloc (cellsO b.cells 40)).drew.heap[w.heap.size + 1]? = some (cellsO b.cells 40) := by simp only [push_cast, Nat.reduceAdd, Nat.reduceLeDiff, Nat.reduceLT, Int.reduceToNat, Nat.left_eq_add, Nat.add_eq_left, Nat.add_left_cancel_iff, Nat.reduceEqDiff, Nat.add_assoc, Nat.succ_ne_zero]
  simp only [push_cast, Nat.reduceAdd, Nat.reduceLeDiff, Nat.reduceLT, Int.reduceToNat, Nat.left_eq_add, Nat.add_eq_left, Nat.add_left_cancel_iff, Nat.reduceEqDiff, Nat.add_assoc, Nat.succ_ne_zero]
  generalize ((w.alloc (cellsO a.cells 40)).alloc (cellsO b.cells 40)).drew = W at *
  -- behind the loads
  have fin : opS Try.prog (S.cl 31 [.agg a.mac.cells.toArray, .agg b.mac.cells.toArray]) (fun x13 => opS Try.prog (S.buildS 59 2 [(0, i64 (cmpI a.vlan b.vlan)), (1, x13)]) fun x14 => opS Try.prog (S.cl 29 [x14]) K) W := by
    simp only [push_cast, Nat.reduceAdd, Nat.reduceLeDiff, Nat.reduceLT, Int.reduceToNat, Nat.left_eq_add, Nat.add_eq_left, Nat.add_left_cancel_iff, Nat.reduceEqDiff, Nat.add_assoc, Nat.succ_ne_zero]
    refine mcmp_spec ha.2.1 hb.2.1 fun w2 hG2 => ?_
    refine s_bs2o (z := .int .i64 0) rfl rfl rfl fun v o hv _ _ => ?_
    simp only [push_cast, Nat.reduceAdd, Nat.reduceLeDiff, Nat.reduceLT, Int.reduceToNat, Nat.left_eq_add, Nat.add_eq_left, Nat.add_left_cancel_iff, Nat.reduceEqDiff, Nat.add_assoc, Nat.succ_ne_zero]
    refine cor_spec (l := [cmpI a.vlan b.vlan, cmpM a.mac b.mac]) hv.rd (by show 2 < 2 ^ 62; decide) ?_
    rw [orL_two]
    exact h _ ((hG.trans hG2).step_alloc _)
  repeat' first
    | exact fin
    | with_reducible refine allW_intro ?_ ?_
    | with_reducible refine ccmp_spec ?_
    | simp only [push_cast, Nat.reduceAdd, Nat.reduceLeDiff, Nat.reduceLT, Int.reduceToNat, Nat.left_eq_add, Nat.add_eq_left, Nat.add_left_cancel_iff, Nat.reduceEqDiff, Nat.add_assoc, Nat.succ_ne_zero, h0, h1]

/-! ### The document's -/

end Go.Gx.S

namespace Go.Gx.S
open Go Go.Gx Go.Proofs
variable {K : Value → World → Prop} {w : World}

theorem s_putE {b o c n i : Nat} {es : List Ent} {x : Ent} {R : Value → World → Prop} (ho : OwnE 40 10 w (.slice (some ⟨b, o, none⟩) n c) (es.map Ent.cells)) (hn : es.length = n) (hi : i < n) (h : ∀ w', OwnE 40 10 w' (.slice (some ⟨b, o, none⟩) n c) ((es.set i x).map Ent.cells) → Fr (fun y => y = b) w w' → R undef w') :
    opS Try.prog (S.ia 30 (.slice (some ⟨b, o, none⟩) n c) (i64 i)) (fun y => opS Try.prog (S.st 40 y (.agg x.cells.toArray)) R) w := by
  have hl : (es.map Ent.cells).length = n := by rw [List.length_map]; exact hn
  rw [← hl] at ho ⊢
  refine s_iaE ho.rd (by omega) (by rw [hl]; simpa using hi) fun b' o' c' hv _ => ?_
  simp only [Value.slice.injEq, Option.some.injEq, Addr.mk.injEq] at hv
  obtain ⟨⟨rfl, rfl, _⟩, _, rfl⟩ := hv
  rw [Int.toNat_natCast]
  obtain ⟨hok, hput⟩ := ho.put (Ent.cells_length x) (by rw [hl]; exact hi)
  rw [s_stA _ _ _ (Ent.cells_length x) (Ent.cells_one x), hok, onB_true]
  refine h _ ?_ (Fr.step_wr (fp := fun y => y = b) (Fr.refl _ _) (.inl rfl) _ _)
  rw [List.map_set, ← hl]
  exact hput

theorem s_getE {v : Value} {i : Nat} {l : List Ent} {R : Value → World → Prop} (hv : RdE 10 w v (l.map Ent.cells)) (hi : i < l.length) (h : R (.agg l[i].cells.toArray) w) : opS Try.prog (S.ia 30 v (i64 i)) (fun y => opS Try.prog (S.ld 40 y) R) w := by
  refine s_iaE hv (by omega) (by simpa using hi) fun b o c _ he => ?_
  simp only [Int.toNat_natCast, List.getElem_map] at he ⊢
  rw [s_ldN (by decide), he.agg0 (Ent.cells_length _), onS_some]
  exact h

def Fine (e : Ent) : Prop := e.ok ∧ timedB e.at_ = true

/-- a function that tells something of entries -/
def Tells (C : World → Prop) (D : Ent → Bool) (fv : Value) : Prop :=
  ∀ (e : Ent) (w1 : World) (K : Value → World → Prop), Fine e → C w1 → (∀ w2, Fr none_ w1 w2 → K (.bool (D e)) w2) → opS Try.prog (S.call fv [.agg e.cells.toArray]) K w1

theorem index_spec {fv : Value} {D : Ent → Bool} {C : World → Prop} (hC : ∀ w1 w2, C w1 → Fr none_ w1 w2 → C w2) (hcall : Tells C D fv) {v : Value} {l : List Ent} (hv : RdE 10 w v (l.map Ent.cells)) (hlo : ∀ e ∈ l, Fine e) (hw : C w) (hn : l.length < 2 ^ 30)
    (h0 : (∀ e ∈ l, D e = false) → ∀ w', Fr none_ w w' → K (i64 (-1)) w')
    (h1 : ∀ i (hi : i < l.length), (∀ k (h : k < l.length), k < i → D l[k] = false) → D l[i] = true → ∀ w', Fr none_ w w' → K (i64 i) w') :
    CallsR Try.prog 68 #[v, fv] K w := by
  apply c68
  unfold p68
  obtain ⟨a, c, rfl⟩ := hv.form
  rw [List.length_map] at hv ⊢
  simp only [push_cast, Nat.reduceAdd, Nat.reduceLeDiff, Nat.reduceLT, Int.reduceToNat, Nat.left_eq_add, Nat.add_eq_left, Nat.add_left_cancel_iff, Nat.reduceEqDiff, Nat.add_assoc, Nat.succ_ne_zero]
  refine jn0 (fun w' => Fr none_ w w' ∧ ∀ e ∈ l, D e = false) (fun w' ⟨hF, hd⟩ => h0 hd w' hF) fun j hj => ?_
  refine loop1 (fun n y w' => ∃ i : Nat, y = i64 i ∧ n + i = l.length ∧ Fr none_ w w' ∧ ∀ k (h : k < l.length), k < i → D l[k] = false) ?_ l.length ⟨0, rfl, rfl, Fr.refl _ _, fun _ _ h => by omega⟩
  rintro n y w2 X ⟨i, rfl, hi, hF, hno⟩ hX
  simp only [push_cast, Nat.reduceAdd, Nat.reduceLeDiff, Nat.reduceLT, Int.reduceToNat, Nat.left_eq_add, Nat.add_eq_left, Nat.add_left_cancel_iff, Nat.reduceEqDiff, Nat.add_assoc, Nat.succ_ne_zero]
  refine br_dec (fun hlt => ?_) fun hge => hj _ ⟨hF, fun e he => ?_⟩
  case refine_2 =>
    obtain ⟨k, hk, rfl⟩ := List.getElem_of_mem he
    exact hno k hk (by omega)
  have hil : i < l.length := by omega
  refine s_getE (hv.fr hF fun _ _ h => h) hil ?_
  refine hcall _ _ _ (hlo _ (List.getElem_mem hil)) (hC _ _ hw hF) fun w3 hF3 => ?_
  simp only [push_cast, Nat.reduceAdd, Nat.reduceLeDiff, Nat.reduceLT, Int.reduceToNat, Nat.left_eq_add, Nat.add_eq_left, Nat.add_left_cancel_iff, Nat.reduceEqDiff, Nat.add_assoc, Nat.succ_ne_zero]
  refine br_intro (fun hd => h1 i hil hno hd _ (hF.trans hF3)) fun hd => ?_
  rw [wrap_i64 (by omega)]
  refine hX (n - 1) _ _ (by omega) ⟨i + 1, by simp, by omega, hF.trans hF3, fun k h hk => ?_⟩
  rcases Nat.lt_or_ge k i with h2 | h2
  · exact hno k h h2
  · have : k = i := by omega
    subst this
    exact hd

theorem delete_spec {fv : Value} {D : Ent → Bool} {C : World → Prop} {b o c : Nat} (hC : ∀ w1 w2, C w1 → Fr (fun x => x = b) w1 w2 → C w2) (hcall : Tells C D fv) {l : List Ent} (hv : OwnE 40 10 w (.slice (some ⟨b, o, none⟩) l.length c) (l.map Ent.cells)) (hlo : ∀ e ∈ l, Fine e) (hw : C w) (hn : l.length < 2 ^ 30)
    (h : ∀ w', OwnE 40 10 w' (.slice (some ⟨b, o, none⟩) (l.filter fun e => !D e).length c) ((l.filter fun e => !D e).map Ent.cells) → Fr (fun x => x = b) w w' → K (.slice (some ⟨b, o, none⟩) (l.filter fun e => !D e).length c) w') :
    CallsR Try.prog 25 #[.slice (some ⟨b, o, none⟩) l.length c, fv] K w := by
  apply c25
  unfold p25
  have hC0 : ∀ w1 w2, C w1 → Fr none_ w1 w2 → C w2 := fun w1 w2 h1 h2 => hC w1 w2 h1 (h2.mono fun _ _ e => e.elim)
  have hlc : l.length ≤ c := by
    obtain ⟨a', c', e, hc⟩ := hv.rd.cap
    simp only [Value.slice.injEq, List.length_map] at e hc
    omega
  simp only [push_cast, Nat.reduceAdd, Nat.reduceLeDiff, Nat.reduceLT, Int.reduceToNat, Nat.left_eq_add, Nat.add_eq_left, Nat.add_left_cancel_iff, Nat.reduceEqDiff, Nat.add_assoc, Nat.succ_ne_zero]
  refine index_spec hC0 hcall hv.rd hlo hw hn (fun hall w1 hF1 => ?_) fun i0 hi0 hno hyes w1 hF1 => ?_
  · simp only [push_cast, Nat.reduceAdd, Nat.reduceLeDiff, Nat.reduceLT, Int.reduceToNat, Nat.left_eq_add, Nat.add_eq_left, Nat.add_left_cancel_iff, Nat.reduceEqDiff, Nat.add_assoc, Nat.succ_ne_zero]
    have : l.filter (fun e => !D e) = l := List.filter_eq_self.2 fun e he => by rw [hall e he]; rfl
    rw [this] at h
    refine br_intro (fun _ => h _ (hv.fr hF1 fun _ _ h => h) (hF1.mono fun _ _ e => e.elim)) fun e => ?_
    simp at e
  simp only [push_cast, Nat.reduceAdd, Nat.reduceLeDiff, Nat.reduceLT, Int.reduceToNat, Nat.left_eq_add, Nat.add_eq_left, Nat.add_left_cancel_iff, Nat.reduceEqDiff, Nat.add_assoc, Nat.succ_ne_zero]
  refine br_intro (fun e => by simp at e) fun _ => ?_
  rw [wrap_i64 (by omega)]
  have hF1' : Fr (fun x => x = b) w w1 := hF1.mono fun _ _ e => e.elim
  refine jn1 (fun x w' => ∃ (cur : List Ent), x = i64 (l.filter fun e => !D e).length ∧ cur.length = l.length ∧ cur.take (l.filter fun e => !D e).length = l.filter (fun e => !D e) ∧ OwnE 40 10 w' (.slice (some ⟨b, o, none⟩) l.length c) (cur.map Ent.cells) ∧ Fr (fun x => x = b) w w') ?_ fun j hj => ?_
  · rintro x w2 ⟨cur, rfl, hcl, htk, ho, hF2⟩
    have hfl : (l.filter fun e => !D e).length ≤ l.length := List.length_filter_le _ _
    have hml : (cur.map Ent.cells).length = l.length := by rw [List.length_map]; exact hcl
    rw [← hml] at ho
    rw [← hml]
    refine s_slcClear (z := .agg zE.cells.toArray) (Ent.cells_length _) (Ent.cells_one _) ho (by omega) fun w3 ho3 hF3 => ?_
    rw [opS_slcHo (by omega)]
    rw [← List.map_take, htk] at ho3
    exact h w3 ho3 (hF2.trans hF3)
  refine loop2 (fun q x y w' => ∃ (i j : Nat) (cur : List Ent), x = i64 i ∧ y = i64 j ∧ q + j = l.length ∧ i ≤ j ∧ cur.length = l.length ∧ cur.take i = (l.take j).filter (fun e => !D e) ∧ cur.drop j = l.drop j ∧ OwnE 40 10 w' (.slice (some ⟨b, o, none⟩) l.length c) (cur.map Ent.cells) ∧ (∀ e ∈ cur, Fine e) ∧ C w' ∧ Fr (fun x => x = b) w w') ?_ (l.length - (i0 + 1))
    ⟨i0, i0 + 1, l, rfl, by simp, by omega, by omega, rfl, ?_, rfl, hv.fr hF1 fun _ _ h => h, hlo, hC0 _ _ hw hF1, hF1'⟩
  case refine_2 =>
    rw [List.take_succ_eq_append_getElem hi0, List.filter_append]
    have e1 : (l.take i0).filter (fun e => !D e) = l.take i0 := List.filter_eq_self.2 fun e he => by
      obtain ⟨k, hk, rfl⟩ := List.getElem_of_mem he
      rw [List.length_take] at hk
      rw [List.getElem_take, hno k (by omega) (by omega)]; rfl
    rw [e1]
    simp [hyes]
  rintro q x y w2 X ⟨i, j', cur, rfl, rfl, hq, hij, hcl, htk, hdr, ho, hco, hw2, hF2⟩ hX
  simp only [push_cast, Nat.reduceAdd, Nat.reduceLeDiff, Nat.reduceLT, Int.reduceToNat, Nat.left_eq_add, Nat.add_eq_left, Nat.add_left_cancel_iff, Nat.reduceEqDiff, Nat.add_assoc, Nat.succ_ne_zero]
  refine br_dec (fun hlt => ?_) fun hge => ?_
  case refine_2 =>
    have : j' = l.length := by omega
    subst this
    rw [List.take_length] at htk
    have hli := congrArg List.length htk
    rw [List.length_take, Nat.min_eq_left (by omega)] at hli
    rw [hli] at htk ⊢
    exact hj _ _ ⟨cur, rfl, hcl, htk, ho, hF2⟩
  have hjl : j' < l.length := by omega
  have hcj : cur[j']'(by omega) = l[j'] := by
    have := congrArg (fun q => q[0]?) hdr
    simp only [List.getElem?_drop, Nat.add_zero] at this
    rw [List.getElem?_eq_getElem (by omega), List.getElem?_eq_getElem hjl] at this
    exact Option.some.inj this
  refine s_getE ho.rd (by omega) ?_
  rw [hcj]
  have hok := hlo _ (List.getElem_mem hjl)
  have hlt2 := ho.lt (b := b) rfl
  refine ent_slot fun _ w3 hw3 hF3 => ?_
  have hsl : w2.heap.size ≠ b := by omega
  generalize w2.heap.size = sl at *
  simp only [push_cast, Nat.reduceAdd, Nat.reduceLeDiff, Nat.reduceLT, Int.reduceToNat, Nat.left_eq_add, Nat.add_eq_left, Nat.add_left_cancel_iff, Nat.reduceEqDiff, Nat.add_assoc, Nat.succ_ne_zero, hw3]
  refine hcall _ _ _ hok (hC0 _ _ hw2 hF3) fun w4 hF4 => ?_
  have hF34 := hF3.trans hF4
  have hw4 := hF4.heap hw3 fun h => h
  have ho4 := ho.fr hF34 fun _ _ h => h
  have hw4C := hC0 _ _ hw2 hF34
  have hF24 : Fr (fun x => x = b) w w4 := hF2.trans_new hF34 fun _ _ e => e.elim
  simp only [push_cast, Nat.reduceAdd, Nat.reduceLeDiff, Nat.reduceLT, Int.reduceToNat, Nat.left_eq_add, Nat.add_eq_left, Nat.add_left_cancel_iff, Nat.reduceEqDiff, Nat.add_assoc, Nat.succ_ne_zero]
  refine br_intro (fun hd => ?_) fun hd => ?_
  · simp only [push_cast, Nat.reduceAdd, Nat.reduceLeDiff, Nat.reduceLT, Int.reduceToNat, Nat.left_eq_add, Nat.add_eq_left, Nat.add_left_cancel_iff, Nat.reduceEqDiff, Nat.add_assoc, Nat.succ_ne_zero, hw4]
    refine s_putE ho4 hcl (show i < l.length by omega) fun w5 ho5 hF5 => ?_
    simp only [push_cast, Nat.reduceAdd, Nat.reduceLeDiff, Nat.reduceLT, Int.reduceToNat, Nat.left_eq_add, Nat.add_eq_left, Nat.add_left_cancel_iff, Nat.reduceEqDiff, Nat.add_assoc, Nat.succ_ne_zero]
    rw [wrap_i64 (by omega), wrap_i64 (by omega)]
    refine hX (q - 1) _ _ _ (by omega) ⟨i + 1, j' + 1, cur.set i l[j'], by simp, by simp, by omega, by omega, by rw [List.length_set]; exact hcl, ?_, ?_, ho5, fun e he => ?_, hC _ _ hw4C hF5, hF24.trans hF5⟩
    · rw [List.take_succ_eq_append_getElem hjl, List.filter_append, ← htk, List.take_succ_eq_append_getElem (by rw [List.length_set]; omega), List.take_set_of_le (Nat.le_refl _), List.getElem_set_self]
      simp [hd]
    · rw [List.drop_set_of_lt (by omega), ← List.drop_drop, hdr, List.drop_drop]
    · rcases List.mem_or_eq_of_mem_set he with h1 | h1
      · exact hco e h1
      · rw [h1]; exact hok
  · rw [wrap_i64 (by omega)]
    refine hX (q - 1) _ _ _ (by omega) ⟨i, j' + 1, cur, by simp, by simp, by omega, by omega, hcl, ?_, ?_, ho4, hco, hw4C, hF24⟩
    · rw [List.take_succ_eq_append_getElem hjl, List.filter_append, ← htk]
      simp at hd
      simp [hd]
    · rw [← List.drop_drop, hdr, List.drop_drop]

end Go.Gx.S

namespace Go.Gx.S
open Go Go.Gx Go.Proofs
variable {K : Value → World → Prop} {w : World}

abbrev OkE := { e : Ent // e.ok }
instance : Inhabited OkE := ⟨⟨zE, zE_ok⟩⟩
theorem attach_ok {es : List Ent} (h : ∀ e ∈ es, e.ok) : ∃ zs : List OkE, zs.map Subtype.val = es := by
  induction es with
  | nil => exact ⟨[], rfl⟩
  | cons e es ih =>
    obtain ⟨zs, hz⟩ := ih fun x hx => h x (List.mem_cons_of_mem _ hx)
    exact ⟨⟨e, h e (List.mem_cons_self ..)⟩ :: zs, by rw [List.map_cons, hz]⟩
theorem sortE_spec {v : Value} {es : List Ent} (hv : OwnE 40 10 w v (es.map Ent.cells)) (hok : ∀ e ∈ es, e.ok) (hl : es.length < 2 ^ 60)
    (h : ∀ (ys : List Ent) w', ys.Perm es → ys.Pairwise (fun x y => ¬ cmpE y x < 0) → OwnE 40 10 w' v (ys.map Ent.cells) → Fr (fun b => blkS v = some b) w w' → K (.tuple #[]) w') :
    CallsR Try.prog 27 #[v, .func (.func 28) #[] #[]] K w := by
  obtain ⟨zs, rfl⟩ := attach_ok hok
  rw [List.length_map] at hl
  have hv' : OwnE 40 10 w v (zs.map fun z : OkE => z.1.cells) := by rw [List.map_map] at hv; exact hv
  refine sortK_spec (α := OkE) (enc := fun z => z.1.cells) Try.sortE (by decide) (fun z => Ent.cells_length z.1) (fun z v hv => ?_) Try.isAgg40 Try.sizeOf40 (fun x y => cmpE x.1 y.1) swoE 28 #[] (fun args w => enters_of Try.func28 (by kernel_rfl) rfl args w) (fun x y W => ?_) hv' hl fun ys w' hp hs ho hF => ?_
  · simp only [Ent.cells, List.mem_cons, List.not_mem_nil, or_false] at hv
    rcases hv with rfl | rfl | rfl | rfl | rfl | rfl | rfl | rfl | rfl | rfl <;> rfl
  · exact ecmp_spec x.2 y.2 fun w' hG => ⟨rfl, hG⟩
  · refine h (ys.map Subtype.val) w' (hp.map _) ?_ (by rw [List.map_map]; exact ho) hF
    rw [List.pairwise_map]
    exact hs

theorem srt_out {r ys : List Ent} (h : Srt r) (hp : ys.Perm r) (hs : ys.Pairwise fun x y => ¬ cmpE y x < 0) : ys = r := by
  have hnr : r.Nodup := List.Pairwise.imp (fun {a b} (hab : ltE a b) (e : a = b) => ltE_irr b (e ▸ hab)) h.1
  have hnd : ys.Nodup := hp.nodup_iff.2 hnr
  have hm : ∀ e, e ∈ ys ↔ e ∈ r := fun e => hp.mem_iff
  refine Srt.eq ⟨?_, fun e he => h.2 e ((hm e).1 he)⟩ h hm
  rw [List.pairwise_iff_getElem] at hs ⊢
  intro i j hi hj hij
  have h1 := hs i j hi hj hij
  rw [cmpE_lt] at h1
  have hne : ys[i] ≠ ys[j] := List.pairwise_iff_getElem.1 hnd i j hi hj hij
  have hmi := (hm _).1 (List.getElem_mem hi)
  have hmj := (hm _).1 (List.getElem_mem hj)
  have hk : eKey ys[i] ≠ eKey ys[j] := fun e => hne (h.key hmi hmj e)
  exact (ltE_total (h.2 _ hmi) (h.2 _ hmj) hk).resolve_right h1

theorem ents_one (l : List Ent) : (l.map Ent.cells).flatten.all S.oneCell = true := by
  rw [List.all_eq_true]
  intro v hv
  obtain ⟨e, he, hv⟩ := List.mem_flatten.1 hv
  obtain ⟨y, _, rfl⟩ := List.mem_map.1 he
  exact List.all_eq_true.1 (Ent.cells_one y) v hv

theorem clone_spec {b o n c : Nat} {l : List Ent} (hv : RdE 10 w (.slice (some ⟨b, o, none⟩) n c) (l.map Ent.cells)) (hn : 0 < l.length) (hl : l.length ≤ 2 ^ 20)
    (h : ∀ w' b' o' c', OwnE 40 10 w' (.slice (some ⟨b', o', none⟩) l.length c') (l.map Ent.cells) → Fr none_ w w' → w.heap.size ≤ b' → K (.slice (some ⟨b', o', none⟩) l.length c') w') :
    CallsR Try.prog 26 #[.slice (some ⟨b, o, none⟩) n c] K w := by
  apply c26
  unfold p26
  show opS Try.prog (S.binN .eql (some false)) _ w
  simp only [push_cast, Nat.reduceAdd, Nat.reduceLeDiff, Nat.reduceLT, Int.reduceToNat, Nat.left_eq_add, Nat.add_eq_left, Nat.add_left_cancel_iff, Nat.reduceEqDiff, Nat.add_assoc, Nat.succ_ne_zero]
  refine s_bs0 (sz := 10) fun v3 w3 ho3 hF3 hN3 => ?_
  refine s_app (sz := 10) (by_ := 40) (z := .agg zE.cells.toArray) rfl (by decide) ho3 (hv.fr hF3 fun _ _ h => h) (ents_one _) (by simp; omega) fun v5 w5 ho5 hb5 hF5 => ?_
  rw [List.nil_append] at ho5
  have hN5 : New w v5 := fun b hb => by
    rcases hb5 with hb5 | hb5
    · exact hN3 b (hb5 ▸ hb)
    · have := hb5 b hb; have := hF3.size; omega
  obtain ⟨b', o', c', rfl⟩ := ho5.form' (by rw [List.length_map]; exact hn)
  rw [List.length_map] at ho5 hN5 ⊢
  exact h w5 b' o' c' ho5 (hF3.trans_new hF5 fun b hb e => by have := hN3 _ e; omega) (hN5 b' rfl)

theorem all1_spec {e : Ent} (he : e.ok) (h : ∀ w', Fr none_ w w' → K (.bool (decide (e = zE))) w') : CallsR Try.prog 24 #[.agg e.cells.toArray] K w := by
  apply c24
  unfold p24
  simp only [push_cast, Nat.reduceAdd, Nat.reduceLeDiff, Nat.reduceLT, Int.reduceToNat, Nat.left_eq_add, Nat.add_eq_left, Nat.add_left_cancel_iff, Nat.reduceEqDiff, Nat.add_assoc, Nat.succ_ne_zero]
  rw [build_zE]
  refine s_eqG (EntT.enc (d := 5) he) (EntT.enc (d := 5) zE_ok) fun q hq => ?_
  rw [Ent.lits_inj] at hq
  have : q = decide (e = zE) := by
    cases q
    · exact (decide_eq_false fun e => by have := hq.2 e; cases this).symm
    · exact (decide_eq_true (hq.1 rfl)).symm
  rw [this]
  exact h _ (by repeat' first | with_reducible exact Fr.refl _ _ | with_reducible refine Fr.step_alloc ?_ ?_ | with_reducible refine Fr.step_drew ?_ | with_reducible refine Fr.step_wr ?_ ?_ _ _ | exact rfl | exact Or.inr (by omega) | exact Or.inl rfl | exact Or.inl (Or.inl rfl) | exact Or.inl (Or.inr rfl))

theorem all_spec {p pb o c room : Nat} {ps r : List Ent} (ht : FT w p pb o c room ps r) (h : ∀ w' b' o' c', OwnE 40 10 w' (.slice (some ⟨b', o', none⟩) r.length c') (r.map Ent.cells) → Fr none_ w w' → w.heap.size ≤ b' → K (.slice (some ⟨b', o', none⟩) r.length c') w') :
    CallsR Try.prog 7 #[pt p 0] K w := by
  apply c7
  unfold p7
  have hlo := ht.lo
  have hhi := ht.hi
  have hln := ht.len
  simp only [push_cast, Nat.reduceAdd, Nat.reduceLeDiff, Nat.reduceLT, Int.reduceToNat, Nat.left_eq_add, Nat.add_eq_left, Nat.add_left_cancel_iff, Nat.reduceEqDiff, Nat.add_assoc, Nat.succ_ne_zero, ht.fb.blk]
  refine clone_spec ht.fb.rd (by omega) (by omega) fun w1 b1 o1 c1 ho1 hF1 hb1 => ?_
  simp only [push_cast, Nat.reduceAdd, Nat.reduceLeDiff, Nat.reduceLT, Int.reduceToNat, Nat.left_eq_add, Nat.add_eq_left, Nat.add_left_cancel_iff, Nat.reduceEqDiff, Nat.add_assoc, Nat.succ_ne_zero]
  have hfine : ∀ e ∈ ps, Fine e := fun e he => by
    refine ⟨ht.fb.ok e he, ?_⟩
    by_cases hz : e = zE
    · rw [hz]; rfl
    · obtain ⟨i, hi, rfl⟩ := List.getElem_of_mem he
      exact (ht.rng _ ((ht.ct.mem _).2 ⟨hz, i, hi, pAt_eq hi⟩)).2.1
  refine delete_spec (D := fun e => decide (e = zE)) (C := fun _ => True) (fun _ _ _ _ => trivial) (fun e w1 K he _ hk => ?_) ho1 hfine trivial (by omega) fun w2 ho2 hF2 => ?_
  · simp only [push_cast, Nat.reduceAdd, Nat.reduceLeDiff, Nat.reduceLT, Int.reduceToNat, Nat.left_eq_add, Nat.add_eq_left, Nat.add_left_cancel_iff, Nat.reduceEqDiff, Nat.add_assoc, Nat.succ_ne_zero]
    exact all1_spec he.1 hk
  have hfe : (ps.filter fun e => !decide (e = zE)) = ps.filter fun e => decide (e ≠ zE) := List.filter_congr fun e _ => by simp
  have hp := ht.ct.perm
  rw [← hfe] at hp
  have hpl := hp.length_eq
  refine sortE_spec ho2 (fun e he => (hfine e (List.mem_filter.1 he).1).1) (by have := ht.cap; omega) fun ys w3 hys hs ho3 hF3 => ?_
  have hyr := srt_out ht.ct.srt (hys.trans hp) hs
  rw [hyr, hpl] at ho3
  rw [hpl]
  refine h w3 b1 o1 c1 ho3 ?_ hb1
  have hF3' : Fr (fun x => x = b1) w2 w3 := hF3.mono fun x _ e => by simpa [blkS] using e.symm
  exact (hF1.trans_new hF2 fun b hb e => by omega).trans_new hF3' fun b hb e => by omega

/-! ### What is forgotten -/

instance : Sz Try.prog 72 1 false := ⟨Try.sizeOf72, Try.isAgg72⟩

theorem forget1_spec {A : Ent → Bool} {C : World → Prop} {fv : Value} {xb : Nat} (hcall : Tells C A fv) (hC : ∀ w1 w2, C w1 → Fr none_ w1 w2 → C w2) {e : Ent} (he : Fine e) (hw : C w) (hx : w.heap[xb]? = some (cellsO [fv] 72))
    (h : ∀ w', Fr none_ w w' → K (.bool (e.static || !A e)) w') : CallsR Try.prog 76 #[.agg e.cells.toArray, pt xb 0] K w := by
  apply c76
  unfold p76
  simp only [opS_box, cells_agg, alloc_cellsO]
  have hF : Fr none_ w (w.alloc (cellsO e.cells 40)) := (by repeat' first | with_reducible exact Fr.refl _ _ | with_reducible refine Fr.step_alloc ?_ ?_ | with_reducible refine Fr.step_drew ?_ | with_reducible refine Fr.step_wr ?_ ?_ _ _ | exact rfl | exact Or.inr (by omega) | exact Or.inl rfl | exact Or.inl (Or.inl rfl) | exact Or.inl (Or.inr rfl))
  have hx0 : (w.alloc (cellsO e.cells 40)).heap[w.heap.size]? = some (cellsO e.cells 40) := by simp only [push_cast, Nat.reduceAdd, Nat.reduceLeDiff, Nat.reduceLT, Int.reduceToNat, Nat.left_eq_add, Nat.add_eq_left, Nat.add_left_cancel_iff, Nat.reduceEqDiff, Nat.add_assoc, Nat.succ_ne_zero]
  replace hx := hF.heap hx fun h => h
  replace hw := hC _ _ hw hF
  generalize w.alloc (cellsO e.cells 40) = W at *
  simp only [push_cast, Nat.reduceAdd, Nat.reduceLeDiff, Nat.reduceLT, Int.reduceToNat, Nat.left_eq_add, Nat.add_eq_left, Nat.add_left_cancel_iff, Nat.reduceEqDiff, Nat.add_assoc, Nat.succ_ne_zero, hx0, hx]
  refine br_intro (fun hs => ?_) fun hs => ?_
  · rw [hs, Bool.true_or] at h
    exact h _ hF
  rw [hs, Bool.false_or] at h
  refine hcall e _ _ he hw fun w2 hF2 => ?_
  simp only [push_cast, Nat.reduceAdd, Nat.reduceLeDiff, Nat.reduceLT, Int.reduceToNat, Nat.left_eq_add, Nat.add_eq_left, Nat.add_left_cancel_iff, Nat.reduceEqDiff, Nat.add_assoc, Nat.succ_ne_zero]
  exact h _ (hF.trans hF2)

def remAll (r g : List Ent) : List Ent := g.foldl (fun r e => withoutL r e) r
theorem remAll_mem {e : Ent} : ∀ (g r : List Ent), e ∈ remAll r g ↔ e ∈ r ∧ ∀ x ∈ g, eKey e ≠ eKey x
  | [], r => by simp [remAll]
  | x :: g, r => by
    have := remAll_mem (e := e) g (withoutL r x)
    unfold remAll at this ⊢
    rw [List.foldl_cons, this, mem_without]
    simp only [List.mem_cons, forall_eq_or_imp]
    exact ⟨fun ⟨⟨h1, h2⟩, h3⟩ => ⟨h1, h2, h3⟩, fun ⟨h1, h2, h3⟩ => ⟨⟨h1, h2⟩, h3⟩⟩
theorem remAll_srt : ∀ (g : List Ent) {r : List Ent}, Srt r → Srt (remAll r g)
  | [], _, h => h
  | x :: g, r, h => remAll_srt g (h.without x)
theorem remAll_filter {r : List Ent} (h : Srt r) (P : Ent → Bool) : remAll r (r.filter P) = r.filter fun e => !P e := by
  refine (remAll_srt _ h).eq ⟨h.1.filter _, fun e he => h.2 e (List.mem_filter.1 he).1⟩ fun e => ?_
  rw [remAll_mem, List.mem_filter]
  constructor
  · rintro ⟨h1, h2⟩
    refine ⟨h1, ?_⟩
    cases hp : P e with
    | false => rfl
    | true => exact absurd rfl (h2 e (List.mem_filter.2 ⟨h1, hp⟩))
  · rintro ⟨h1, h2⟩
    refine ⟨h1, fun x hx hk => ?_⟩
    obtain ⟨h3, h4⟩ := List.mem_filter.1 hx
    have := h.key h1 h3 hk
    rw [this, h4] at h2
    cases h2
theorem remove_eq {r : List Ent} (h : Srt r) (e : Ent) : (removeL r (eKey e)).1 = withoutL r e := by
  unfold removeL
  cases ha : atK r (eKey e) with
  | some x => exact without_key (atK_mem ha).2
  | none => exact (without_none (atK_no ha)).symm

theorem and_or (a b : Bool) : (!(b || !a)) = (a && !b) := by cases a <;> cases b <;> rfl
theorem rd_nil (w : World) : RdE 10 w (.slice none 0 0) (([] : List Ent).map Ent.cells) := (own_nil 40 10 w).rd

theorem forget_spec {A : Ent → Bool} {C : World → Prop} {fv : Value} {p pb o c room : Nat} {ps r : List Ent} (ht : FT w p pb o c room ps r) (hcall : Tells C A fv) (hC : ∀ w1 w2 b, w.heap.size ≤ b → C w1 → Fr (fun x => x = b) w1 w2 → C w2) (hw : C w) (hfv : ∃ fn a b, fv = .func fn a b)
    (h : ∀ w' ps' v, FT w' p pb o c room ps' (r.filter fun e => !(A e && !e.static)) → RdE 10 w' v ((r.filter fun e => A e && !e.static).map Ent.cells) → (∀ b, blkS v = some b → b ≠ p ∧ b ≠ pb ∧ w.heap.size ≤ b) → Fr (pp p pb) w w' → K v w') :
    CallsR Try.prog 37 #[pt p 0, fv] K w := by
  apply c37
  unfold p37
  obtain ⟨fn, fa, fb, rfl⟩ := hfv
  have hC0 : ∀ w1 w2, C w1 → Fr none_ w1 w2 → C w2 := fun w1 w2 h1 h2 => hC w1 w2 _ (Nat.le_refl _) h1 (h2.mono fun _ _ e => e.elim)
  have hF : Fr none_ w (w.alloc (cellsO [.func fn fa fb] 72)) := (by repeat' first | with_reducible exact Fr.refl _ _ | with_reducible refine Fr.step_alloc ?_ ?_ | with_reducible refine Fr.step_drew ?_ | with_reducible refine Fr.step_wr ?_ ?_ _ _ | exact rfl | exact Or.inr (by omega) | exact Or.inl rfl | exact Or.inl (Or.inl rfl) | exact Or.inl (Or.inr rfl))
  have hx0 : (w.alloc (cellsO [.func fn fa fb] 72)).heap[w.heap.size]? = some (cellsO [.func fn fa fb] 72) := by simp only [push_cast, Nat.reduceAdd, Nat.reduceLeDiff, Nat.reduceLT, Int.reduceToNat, Nat.left_eq_add, Nat.add_eq_left, Nat.add_left_cancel_iff, Nat.reduceEqDiff, Nat.add_assoc, Nat.succ_ne_zero]
  have hlt := ht.fb.lt
  simp only [push_cast, Nat.reduceAdd, Nat.reduceLeDiff, Nat.reduceLT, Int.reduceToNat, Nat.left_eq_add, Nat.add_eq_left, Nat.add_left_cancel_iff, Nat.reduceEqDiff, Nat.add_assoc, Nat.succ_ne_zero]
  have ht1 := ht.fr0 hF
  have hw1 := hC0 _ _ hw hF
  have hxl := lt_of_heap hx0
  have hcap := ht.cap
  have hhi := ht.hi
  generalize w.alloc (cellsO [.func fn fa fb] 72) = W at *
  refine all_spec ht1 fun w2 b2 o2 c2 ho2 hF2 hb2 => ?_
  simp only [push_cast, Nat.reduceAdd, Nat.reduceLeDiff, Nat.reduceLT, Int.reduceToNat, Nat.left_eq_add, Nat.add_eq_left, Nat.add_left_cancel_iff, Nat.reduceEqDiff, Nat.add_assoc, Nat.succ_ne_zero]
  have hfine : ∀ e ∈ r, Fine e := fun e he => ⟨ht.ct.srt.2 e he, (ht.rng e he).2.1⟩
  refine delete_spec (D := fun e => e.static || !A e) (C := fun w' => C w' ∧ w'.heap[w.heap.size]? = some (cellsO [.func fn fa fb] 72)) (fun w1 w2 h1 hFF => ⟨hC _ _ b2 (by omega) h1.1 hFF, hFF.heap h1.2 (by omega)⟩) (fun e w1 K he hc hk => ?_) ho2 hfine ⟨hC0 _ _ hw1 hF2, hF2.heap hx0 fun h => h⟩ (by omega) fun w3 ho3 hF3 => ?_
  · simp only [push_cast, Nat.reduceAdd, Nat.reduceLeDiff, Nat.reduceLT, Int.reduceToNat, Nat.left_eq_add, Nat.add_eq_left, Nat.add_left_cancel_iff, Nat.reduceEqDiff, Nat.add_assoc, Nat.succ_ne_zero]
    exact forget1_spec hcall hC0 he hc.1 hc.2 hk
  have hfe : (r.filter fun e => !(e.static || !A e)) = r.filter fun e => A e && !e.static := List.filter_congr fun e _ => and_or _ _
  rw [hfe] at ho3 ⊢
  have hgok : ∀ e ∈ r.filter (fun e => A e && !e.static), e.ok := fun e he => ht.ct.srt.2 e (List.mem_filter.1 he).1
  have hgl : (r.filter fun e => A e && !e.static).length ≤ r.length := List.length_filter_le _ _
  have hrem := remAll_filter ht.ct.srt fun e => A e && !e.static
  rw [← hrem] at h
  have hF13 := hF2.trans_new (w := W) hF3 fun b hb e => by omega
  have hF03 : Fr none_ w w3 := (hF.trans hF2).trans_new hF3 fun b hb e => by omega
  have ht3 := ht.fr0 hF03
  generalize r.filter (fun e => A e && !e.static) = g at *
  simp only [push_cast, Nat.reduceAdd, Nat.reduceLeDiff, Nat.reduceLT, Int.reduceToNat, Nat.left_eq_add, Nat.add_eq_left, Nat.add_left_cancel_iff, Nat.reduceEqDiff, Nat.add_assoc, Nat.succ_ne_zero]
  have hv := ho3.rd
  refine jn0 (fun w' => ∃ ps', FT w' p pb o c room ps' (remAll r g) ∧ RdE 10 w' (.slice (some ⟨b2, o2, none⟩) g.length c2) (g.map Ent.cells) ∧ Fr (pp p pb) w w') ?_ fun j hj => ?_
  · rintro w4 ⟨ps', ht4, hv4, hF4⟩
    exact h w4 ps' _ ht4 hv4 (fun b hb => by simp only [blkS, Option.some.injEq] at hb; omega) hF4
  refine loop1 (fun n y w' => ∃ (i : Nat) (ps' : List Ent), y = i64 i ∧ n + i = g.length ∧ FT w' p pb o c room ps' (remAll r (g.take i)) ∧ RdE 10 w' (.slice (some ⟨b2, o2, none⟩) g.length c2) (g.map Ent.cells) ∧ Fr (pp p pb) w w') ?_ g.length ⟨0, ps, rfl, rfl, ht3, hv, hF03.mono fun _ _ e => e.elim⟩
  rintro n y w4 X ⟨i, ps4, rfl, hi, ht4, hv4, hF4⟩ hX
  simp only [push_cast, Nat.reduceAdd, Nat.reduceLeDiff, Nat.reduceLT, Int.reduceToNat, Nat.left_eq_add, Nat.add_eq_left, Nat.add_left_cancel_iff, Nat.reduceEqDiff, Nat.add_assoc, Nat.succ_ne_zero]
  refine br_dec (fun hlt => ?_) fun hge => ?_
  case refine_2 =>
    have : i = g.length := by omega
    subst this
    rw [List.take_length] at ht4
    exact hj _ ⟨ps4, ht4, hv4, hF4⟩
  have hil : i < g.length := by omega
  refine s_getE hv4 hil ?_
  have hok := hgok _ (List.getElem_mem hil)
  refine ent_slot fun _ w5 hw5 hF5 => ?_
  simp only [push_cast, Nat.reduceAdd, Nat.reduceLeDiff, Nat.reduceLT, Int.reduceToNat, Nat.left_eq_add, Nat.add_eq_left, Nat.add_left_cancel_iff, Nat.reduceEqDiff, Nat.add_assoc, Nat.succ_ne_zero, hw5]
  refine remove_spec (v := g[i].vlan) (m := g[i].mac) (ht4.fr0 hF5) hok.1 hok.2.1 fun w6 ps6 ht6 hF6 => ?_
  simp only [push_cast, Nat.reduceAdd, Nat.reduceLeDiff, Nat.reduceLT, Int.reduceToNat, Nat.left_eq_add, Nat.add_eq_left, Nat.add_left_cancel_iff, Nat.reduceEqDiff, Nat.add_assoc, Nat.succ_ne_zero]
  rw [wrap_i64 (by omega)]
  have hre : (removeL (remAll r (g.take i)) (g[i].vlan, g[i].mac)).1 = remAll r (g.take (i + 1)) := by
    have h1 := remove_eq ht4.ct.srt g[i]
    unfold eKey at h1
    rw [h1, List.take_succ_eq_append_getElem hil]
    unfold remAll
    rw [List.foldl_append]
    rfl
  rw [hre] at ht6
  have hbne : ∀ b, blkS (Value.slice (some ⟨b2, o2, none⟩) g.length c2) = some b → ¬ pp p pb b := fun b hb e => by
    simp only [blkS, Option.some.injEq] at hb
    unfold pp at e
    omega
  exact hX (n - 1) _ _ (by omega) ⟨i + 1, ps6, by simp, by omega, ht6, (hv4.fr hF5 fun _ _ h => h).fr hF6 hbne, (hF4.trans_new hF5 fun _ _ e => e.elim).trans hF6⟩

def ageA (now lim : Int) (e : Ent) : Bool := decide (lim ≤ now - e.at_)
theorem timedB_iff {t : Int} : timedB t = true ↔ 0 ≤ t ∧ t ≤ 1099511627776 := by unfold timedB; simp

theorem age_spec {p pb o c room : Nat} {ps r : List Ent} {now lim : Int} (ht : FT w p pb o c room ps r)
    (h0 : (timedB now && timedB lim) = false → ∀ w', Fr none_ w w' → K (.slice none 0 0) w')
    (h : (timedB now && timedB lim) = true → ∀ w' ps' v, FT w' p pb o c room ps' (r.filter fun e => !(ageA now lim e && !e.static)) → RdE 10 w' v ((r.filter fun e => ageA now lim e && !e.static).map Ent.cells) → (∀ b, blkS v = some b → b ≠ p ∧ b ≠ pb ∧ w.heap.size ≤ b) → Fr (pp p pb) w w' → K v w') :
    CallsR Try.prog 14 #[pt p 0, i64 now, i64 lim] K w := by
  apply c14
  unfold p14
  have hF : Fr none_ w ((w.alloc (cellsO [i64 now] 3)).alloc (cellsO [i64 lim] 3)) := (by repeat' first | with_reducible exact Fr.refl _ _ | with_reducible refine Fr.step_alloc ?_ ?_ | with_reducible refine Fr.step_drew ?_ | with_reducible refine Fr.step_wr ?_ ?_ _ _ | exact rfl | exact Or.inr (by omega) | exact Or.inl rfl | exact Or.inl (Or.inl rfl) | exact Or.inl (Or.inr rfl))
  have hn0 : ((w.alloc (cellsO [i64 now] 3)).alloc (cellsO [i64 lim] 3)).heap[w.heap.size]? = some (cellsO [i64 now] 3) := by simp only [push_cast, Nat.reduceAdd, Nat.reduceLeDiff, Nat.reduceLT, Int.reduceToNat, Nat.left_eq_add, Nat.add_eq_left, Nat.add_left_cancel_iff, Nat.reduceEqDiff, Nat.add_assoc, Nat.succ_ne_zero]
  have hl0 : ((w.alloc (cellsO [i64 now] 3)).alloc (cellsO [i64 lim] 3)).heap[w.heap.size + 1]? = some (cellsO [i64 lim] 3) := by simp only [push_cast, Nat.reduceAdd, Nat.reduceLeDiff, Nat.reduceLT, Int.reduceToNat, Nat.left_eq_add, Nat.add_eq_left, Nat.add_left_cancel_iff, Nat.reduceEqDiff, Nat.add_assoc, Nat.succ_ne_zero]
  simp only [push_cast, Nat.reduceAdd, Nat.reduceLeDiff, Nat.reduceLT, Int.reduceToNat, Nat.left_eq_add, Nat.add_eq_left, Nat.add_left_cancel_iff, Nat.reduceEqDiff, Nat.add_assoc, Nat.succ_ne_zero]
  have hlt := ht.fb.lt
  replace ht := ht.fr0 hF
  have hls := lt_of_heap hl0
  generalize (w.alloc (cellsO [i64 now] 3)).alloc (cellsO [i64 lim] 3) = W at *
  refine timed_spec ?_
  simp only [push_cast, Nat.reduceAdd, Nat.reduceLeDiff, Nat.reduceLT, Int.reduceToNat, Nat.left_eq_add, Nat.add_eq_left, Nat.add_left_cancel_iff, Nat.reduceEqDiff, Nat.add_assoc, Nat.succ_ne_zero]
  cases hn : timedB now with
  | false =>
    simp only [push_cast, Nat.reduceAdd, Nat.reduceLeDiff, Nat.reduceLT, Int.reduceToNat, Nat.left_eq_add, Nat.add_eq_left, Nat.add_left_cancel_iff, Nat.reduceEqDiff, Nat.add_assoc, Nat.succ_ne_zero, Bool.not_false]
    exact h0 (by rw [hn]; rfl) _ hF
  | true =>
  simp only [push_cast, Nat.reduceAdd, Nat.reduceLeDiff, Nat.reduceLT, Int.reduceToNat, Nat.left_eq_add, Nat.add_eq_left, Nat.add_left_cancel_iff, Nat.reduceEqDiff, Nat.add_assoc, Nat.succ_ne_zero, Bool.not_true, hl0]
  refine timed_spec ?_
  simp only [push_cast, Nat.reduceAdd, Nat.reduceLeDiff, Nat.reduceLT, Int.reduceToNat, Nat.left_eq_add, Nat.add_eq_left, Nat.add_left_cancel_iff, Nat.reduceEqDiff, Nat.add_assoc, Nat.succ_ne_zero]
  cases hl : timedB lim with
  | false =>
    simp only [push_cast, Nat.reduceAdd, Nat.reduceLeDiff, Nat.reduceLT, Int.reduceToNat, Nat.left_eq_add, Nat.add_eq_left, Nat.add_left_cancel_iff, Nat.reduceEqDiff, Nat.add_assoc, Nat.succ_ne_zero, Bool.not_false]
    exact h0 (by rw [hn, hl]; rfl) _ hF
  | true =>
  simp only [push_cast, Nat.reduceAdd, Nat.reduceLeDiff, Nat.reduceLT, Int.reduceToNat, Nat.left_eq_add, Nat.add_eq_left, Nat.add_left_cancel_iff, Nat.reduceEqDiff, Nat.add_assoc, Nat.succ_ne_zero, Bool.not_true]
  refine forget_spec (A := ageA now lim) (C := fun w' => w'.heap[w.heap.size]? = some (cellsO [i64 now] 3) ∧ w'.heap[w.heap.size + 1]? = some (cellsO [i64 lim] 3)) ht (fun e w1 K he hc hk => ?_) (fun w1 w2 b hb hc hFF => ⟨hFF.heap hc.1 (by omega), hFF.heap hc.2 (by omega)⟩) ⟨hn0, hl0⟩ ⟨_, _, _, rfl⟩ fun w2 ps2 v ht2 hv2 hb2 hF2 => ?_
  · simp only [push_cast, Nat.reduceAdd, Nat.reduceLeDiff, Nat.reduceLT, Int.reduceToNat, Nat.left_eq_add, Nat.add_eq_left, Nat.add_left_cancel_iff, Nat.reduceEqDiff, Nat.add_assoc, Nat.succ_ne_zero]
    show CallsR Try.prog 39 #[.agg e.cells.toArray, pt w.heap.size 0, pt (w.heap.size + 1) 0] K w1
    apply c39
    unfold p39
    have hlt1 := lt_of_heap hc.2
    have e1 : w.heap.size ≠ w1.heap.size := by omega
    have e2 : w.heap.size + 1 ≠ w1.heap.size := by omega
    simp only [push_cast, Nat.reduceAdd, Nat.reduceLeDiff, Nat.reduceLT, Int.reduceToNat, Nat.left_eq_add, Nat.add_eq_left, Nat.add_left_cancel_iff, Nat.reduceEqDiff, Nat.add_assoc, Nat.succ_ne_zero, hc.1, hc.2, e1, e2]
    have h1 := timedB_iff.1 hn
    have h2 := timedB_iff.1 he.2
    rw [wrap_i64 (by omega)]
    exact hk _ (by repeat' first | with_reducible exact Fr.refl _ _ | with_reducible refine Fr.step_alloc ?_ ?_ | with_reducible refine Fr.step_drew ?_ | with_reducible refine Fr.step_wr ?_ ?_ _ _ | exact rfl | exact Or.inr (by omega) | exact Or.inl rfl | exact Or.inl (Or.inl rfl) | exact Or.inl (Or.inr rfl))
  · refine h (by rw [hn, hl]; rfl) w2 ps2 v ht2 hv2 (fun b hb => ?_) (hF.mono (fun _ _ e => e.elim) |>.trans hF2)
    have := hb2 b hb
    omega

def portA (q : Int) (e : Ent) : Bool := e.port == q
theorem fport_spec {p pb o c room : Nat} {ps r : List Ent} {q : Int} (ht : FT w p pb o c room ps r)
    (h : ∀ w' ps' v, FT w' p pb o c room ps' (r.filter fun e => !(portA q e && !e.static)) → RdE 10 w' v ((r.filter fun e => portA q e && !e.static).map Ent.cells) → (∀ b, blkS v = some b → b ≠ p ∧ b ≠ pb ∧ w.heap.size ≤ b) → Fr (pp p pb) w w' → K v w') :
    CallsR Try.prog 13 #[pt p 0, i64 q] K w := by
  apply c13
  unfold p13
  have hF : Fr none_ w (w.alloc (cellsO [i64 q] 3)) := (by repeat' first | with_reducible exact Fr.refl _ _ | with_reducible refine Fr.step_alloc ?_ ?_ | with_reducible refine Fr.step_drew ?_ | with_reducible refine Fr.step_wr ?_ ?_ _ _ | exact rfl | exact Or.inr (by omega) | exact Or.inl rfl | exact Or.inl (Or.inl rfl) | exact Or.inl (Or.inr rfl))
  have hn0 : (w.alloc (cellsO [i64 q] 3)).heap[w.heap.size]? = some (cellsO [i64 q] 3) := by simp only [push_cast, Nat.reduceAdd, Nat.reduceLeDiff, Nat.reduceLT, Int.reduceToNat, Nat.left_eq_add, Nat.add_eq_left, Nat.add_left_cancel_iff, Nat.reduceEqDiff, Nat.add_assoc, Nat.succ_ne_zero]
  simp only [push_cast, Nat.reduceAdd, Nat.reduceLeDiff, Nat.reduceLT, Int.reduceToNat, Nat.left_eq_add, Nat.add_eq_left, Nat.add_left_cancel_iff, Nat.reduceEqDiff, Nat.add_assoc, Nat.succ_ne_zero]
  have hlt := ht.fb.lt
  replace ht := ht.fr0 hF
  have hls := lt_of_heap hn0
  generalize w.alloc (cellsO [i64 q] 3) = W at *
  refine forget_spec (A := portA q) (C := fun w' => w'.heap[w.heap.size]? = some (cellsO [i64 q] 3)) ht (fun e w1 K he hc hk => ?_) (fun w1 w2 b hb hc hFF => hFF.heap hc (by omega)) hn0 ⟨_, _, _, rfl⟩ fun w2 ps2 v ht2 hv2 hb2 hF2 => ?_
  · simp only [push_cast, Nat.reduceAdd, Nat.reduceLeDiff, Nat.reduceLT, Int.reduceToNat, Nat.left_eq_add, Nat.add_eq_left, Nat.add_left_cancel_iff, Nat.reduceEqDiff, Nat.add_assoc, Nat.succ_ne_zero]
    show CallsR Try.prog 38 #[.agg e.cells.toArray, pt w.heap.size 0] K w1
    apply c38
    unfold p38
    have hlt1 := lt_of_heap hc
    have e1 : w.heap.size ≠ w1.heap.size := by omega
    simp only [push_cast, Nat.reduceAdd, Nat.reduceLeDiff, Nat.reduceLT, Int.reduceToNat, Nat.left_eq_add, Nat.add_eq_left, Nat.add_left_cancel_iff, Nat.reduceEqDiff, Nat.add_assoc, Nat.succ_ne_zero, hc, e1]
    exact hk _ (by repeat' first | with_reducible exact Fr.refl _ _ | with_reducible refine Fr.step_alloc ?_ ?_ | with_reducible refine Fr.step_drew ?_ | with_reducible refine Fr.step_wr ?_ ?_ _ _ | exact rfl | exact Or.inr (by omega) | exact Or.inl rfl | exact Or.inl (Or.inl rfl) | exact Or.inl (Or.inr rfl))
  · refine h w2 ps2 v ht2 hv2 (fun b hb => ?_) (hF.mono (fun _ _ e => e.elim) |>.trans hF2)
    have := hb2 b hb
    omega

theorem esame_spec {a b : Value} {l r : List Ent} (ha : RdE 10 w a (l.map Ent.cells)) (hb : RdE 10 w b (r.map Ent.cells)) (hlo : ∀ e ∈ l, e.ok) (hro : ∀ e ∈ r, e.ok) (hn : l.length < 2 ^ 62) (h : ∀ w', Fr none_ w w' → K (.bool (decide (l = r))) w') :
    CallsR Try.prog 16 #[a, b] K w := by
  apply c16
  unfold p16
  obtain ⟨aa, ac, rfl⟩ := ha.form
  obtain ⟨ba, bc, rfl⟩ := hb.form
  rw [List.length_map] at ha hb ⊢
  rw [List.length_map]
  simp only [push_cast, Nat.reduceAdd, Nat.reduceLeDiff, Nat.reduceLT, Int.reduceToNat, Nat.left_eq_add, Nat.add_eq_left, Nat.add_left_cancel_iff, Nat.reduceEqDiff, Nat.add_assoc, Nat.succ_ne_zero]
  refine br_intro (fun hne => ?_) fun heq => ?_
  · have : l ≠ r := fun e => by subst e; simp at hne
    rw [decide_eq_false this] at h
    exact h _ (Fr.refl _ _)
  · have hl : l.length = r.length := by
      have : (l.length : Int) = r.length := by simpa using heq
      omega
    refine jn0 (fun w' => Fr none_ w w' ∧ l = r) (fun w' ⟨hF, e⟩ => ?_) fun j hj => ?_
    · rw [decide_eq_true e] at h
      exact h _ hF
    refine loop1 (fun m v w' => ∃ i : Nat, v = i64 i ∧ i + m = l.length ∧ Fr none_ w w' ∧ l.take i = r.take i) ?_ l.length ⟨0, rfl, by omega, Fr.refl _ _, rfl⟩
    rintro m v w' X ⟨i, rfl, hi, hF, htk⟩ hX
    simp only [push_cast, Nat.reduceAdd, Nat.reduceLeDiff, Nat.reduceLT, Int.reduceToNat, Nat.left_eq_add, Nat.add_eq_left, Nat.add_left_cancel_iff, Nat.reduceEqDiff, Nat.add_assoc, Nat.succ_ne_zero]
    refine br_dec (fun hlt => ?_) fun hge => hj _ ⟨hF, ?_⟩
    · have hi2 : i < l.length := by omega
      have hi3 : i < r.length := by omega
      refine s_iaE (es := l.map Ent.cells) (ha.fr hF.step_drew (fun _ _ h => h)) (by omega) (by simpa using hi2) fun b1 o1 c1 _ hE => ?_
      simp only [Int.toNat_natCast, List.getElem_map] at hE ⊢
      rw [s_ldN (by decide), hE.agg0 (Ent.cells_length _), onS_some]
      refine s_iaE (es := r.map Ent.cells) (hb.fr hF.step_drew (fun _ _ h => h)) (by omega) (by simpa using hi3) fun b2 o2 c2 _ hE2 => ?_
      simp only [Int.toNat_natCast, List.getElem_map] at hE2 ⊢
      rw [s_ldN (by decide), hE2.agg0 (Ent.cells_length _), onS_some]
      refine s_neqG (EntT.enc (d := 5) (hlo _ (List.getElem_mem hi2))) (EntT.enc (d := 5) (hro _ (List.getElem_mem hi3))) fun q hq => ?_
      rw [Ent.lits_inj] at hq
      simp only [push_cast, Nat.reduceAdd, Nat.reduceLeDiff, Nat.reduceLT, Int.reduceToNat, Nat.left_eq_add, Nat.add_eq_left, Nat.add_left_cancel_iff, Nat.reduceEqDiff, Nat.add_assoc, Nat.succ_ne_zero]
      refine br_intro (fun hd => ?_) fun hd => ?_
      · have hne : l[i] ≠ r[i] := fun e => by rw [hq.2 e] at hd; cases hd
        have : l ≠ r := fun e => by subst e; exact hne rfl
        rw [decide_eq_false this] at h
        exact h _ hF.step_drew
      · have he : l[i] = r[i] := hq.1 (by simpa using hd)
        rw [wrap_i64 (by omega)]
        refine hX (m - 1) _ _ (by omega) ⟨i + 1, by simp, by omega, hF.step_drew, ?_⟩
        rw [List.take_add_one, List.take_add_one, htk, List.getElem?_eq_getElem hi2, List.getElem?_eq_getElem hi3, he]
    · rw [List.take_of_length_le (by omega), List.take_of_length_le (by omega)] at htk
      exact htk
theorem esame_yes {a b : Value} {l : List Ent} (ha : RdE 10 w a (l.map Ent.cells)) (hb : RdE 10 w b (l.map Ent.cells)) (hlo : ∀ e ∈ l, e.ok) (hn : l.length < 2 ^ 62) (h : ∀ w', Fr none_ w w' → K (.bool true) w') :
    CallsR Try.prog 16 #[a, b] K w := by
  refine esame_spec ha hb hlo hlo hn fun w' hF => ?_
  rw [decide_eq_true rfl]
  exact h w' hF

def FTx (N : Nat) (w : World) (p room : Nat) (r : List Ent) : Prop := ∃ pb o c ps, FT w p pb o c room ps r ∧ N ≤ p ∧ N ≤ pb
def ge (N : Nat) : Nat → Prop := fun b => N ≤ b
theorem FTx.fr0 {N : Nat} {w w' : World} {p room : Nat} {r : List Ent} (h : FTx N w p room r) (hF : Fr none_ w w') : FTx N w' p room r := by
  obtain ⟨pb, o, c, ps, h, h1, h2⟩ := h
  exact ⟨pb, o, c, ps, h.fr0 hF, h1, h2⟩
theorem FTx.srt {N p room : Nat} {r : List Ent} (h : FTx N w p room r) : Srt r := by obtain ⟨pb, o, c, ps, h, _⟩ := h; exact h.ct.srt
theorem FTx.cap {N p room : Nat} {r : List Ent} (h : FTx N w p room r) : r.length ≤ room := by obtain ⟨pb, o, c, ps, h, _⟩ := h; exact h.cap
theorem FTx.hi {N p room : Nat} {r : List Ent} (h : FTx N w p room r) : room ≤ 1024 := by obtain ⟨pb, o, c, ps, h, _⟩ := h; exact h.hi
theorem FTx.rng {N p room : Nat} {r : List Ent} (h : FTx N w p room r) : ∀ e ∈ r, RngE e := by obtain ⟨pb, o, c, ps, h, _⟩ := h; exact h.rng
theorem FTx.lt {N p room : Nat} {r : List Ent} (h : FTx N w p room r) : p < w.heap.size := by obtain ⟨pb, o, c, ps, h, _⟩ := h; exact h.fb.lt.1
theorem ge_pp {N p pb : Nat} (h1 : N ≤ p) (h2 : N ≤ pb) {w w' : World} (h : Fr (pp p pb) w w') : Fr (ge N) w w' := h.mono fun b _ e => by
  unfold pp at e
  unfold ge
  omega

theorem learnX {N p room : Nat} {r : List Ent} {v q t : Int} {m : Mac} (ht : FTx N w p room r) (hv : isI v) (hm : m.ok) (hq : isI q) (htt : isI t)
    (h : ∀ w', FTx N w' p room (learnL room r v m q t).1 → Fr (ge N) w w' → K (.tuple #[i64 (learnL room r v m q t).2.1, i64 (learnL room r v m q t).2.2]) w') :
    CallsR Try.prog 9 #[pt p 0, i64 v, .agg m.cells.toArray, i64 q, i64 t] K w := by
  obtain ⟨pb, o, c, ps, ht, h1, h2⟩ := ht
  exact learn_spec ht hv hm hq htt fun w' ps' ht' hF => h w' ⟨pb, o, c, ps', ht', h1, h2⟩ (ge_pp h1 h2 hF)
theorem lookX {N p room : Nat} {r : List Ent} {v : Int} {m : Mac} (ht : FTx N w p room r) (hv : isI v) (hm : m.ok)
    (h : ∀ w', Fr none_ w w' → K (.tuple #[.agg (lookL r (v, m)).1.cells.toArray, .bool (lookL r (v, m)).2]) w') :
    CallsR Try.prog 10 #[pt p 0, i64 v, .agg m.cells.toArray] K w := by
  obtain ⟨pb, o, c, ps, ht, h1, h2⟩ := ht
  exact look_spec ht hv hm h
theorem allX {N p room : Nat} {r : List Ent} (ht : FTx N w p room r) (h : ∀ w' b a c, RdE 10 w' (.slice (some ⟨b, a, none⟩) r.length c) (r.map Ent.cells) → Fr none_ w w' → w.heap.size ≤ b → b ≠ p → K (.slice (some ⟨b, a, none⟩) r.length c) w') :
    CallsR Try.prog 7 #[pt p 0] K w := by
  have hlt := ht.lt
  obtain ⟨pb, o, c, ps, ht, h1, h2⟩ := ht
  exact all_spec ht fun w' b a c ho hF hb => h w' b a c ho.rd hF hb (by omega)

end Go.Gx.S
