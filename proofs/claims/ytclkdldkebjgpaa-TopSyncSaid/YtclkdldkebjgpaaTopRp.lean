/- What changes make of entries: the program. -/
import Derived.Test.YtclkdldkebjgpaaTopRpT
import Derived.Test.YtclkdldkebjgpaaFdbB
import Derived.Test.YtclkdldkebjgpaaGxColl
set_option linter.unusedVariables false
set_option linter.unusedSimpArgs false
set_option maxRecDepth 100000
namespace Go.Gx.S.Rp
open Go Go.Gx Go.Proofs
variable {K : Value → World → Prop} {w : World}
theorem ecmp_spec {a b : Ent} (ha : a.ok) (hb : b.ok) (h : ∀ w', Gr w w' → K (i64 (cmpE a b)) w') : CallsR Try.prog 43 #[.agg a.cells.toArray, .agg b.cells.toArray] K w := by
  apply c43
  unfold p43
  have hG : Gr w ((w.alloc (cellsO a.cells 40)).alloc (cellsO b.cells 40)).drew := ((Gr.refl _).step_alloc _ |>.step_alloc _).step_drew
  have h0 : ((w.alloc (cellsO a.cells 40)).alloc (cellsO b.cells 40)).drew.heap[w.heap.size]? = some (cellsO a.cells 40) := by simp only [push_cast, Nat.reduceAdd, Nat.reduceLeDiff, Nat.reduceLT, Int.reduceToNat, Nat.left_eq_add, Nat.add_eq_left, Nat.add_left_cancel_iff, Nat.reduceEqDiff, Nat.add_assoc, Nat.succ_ne_zero]
  have h1 : ((w.alloc (cellsO a.cells 40)).alloc (cellsO b.cells 40)).drew.heap[w.heap.size + 1]? = some (cellsO b.cells 40) := by simp only [push_cast, Nat.reduceAdd, Nat.reduceLeDiff, Nat.reduceLT, Int.reduceToNat, Nat.left_eq_add, Nat.add_eq_left, Nat.add_left_cancel_iff, Nat.reduceEqDiff, Nat.add_assoc, Nat.succ_ne_zero]
  simp only [push_cast, Nat.reduceAdd, Nat.reduceLeDiff, Nat.reduceLT, Int.reduceToNat, Nat.left_eq_add, Nat.add_eq_left, Nat.add_left_cancel_iff, Nat.reduceEqDiff, Nat.add_assoc, Nat.succ_ne_zero]
  generalize ((w.alloc (cellsO a.cells 40)).alloc (cellsO b.cells 40)).drew = W at *
  -- behind the loads
  have fin : opS Try.prog (S.cl 31 [.agg a.mac.cells.toArray, .agg b.mac.cells.toArray]) (fun x13 => opS Try.prog (S.buildS 59 2 [(0, i64 (cmpI a.vlan b.vlan)), (1, x13)]) fun x14 => opS Try.prog (S.cl 29 [x14]) K) W := by
    simp only [push_cast, Nat.reduceAdd, Nat.reduceLeDiff, Nat.reduceLT, Int.reduceToNat, Nat.left_eq_add, Nat.add_eq_left, Nat.add_left_cancel_iff, Nat.reduceEqDiff, Nat.add_assoc, Nat.succ_ne_zero]
    refine mcmp_spec ha.2.1 hb.2.1 fun w2 hG2 => ?_
    refine s_bs2o (z := .int .i64 0) rfl rfl rfl fun v o hv _ _ => ?_
    simp only [push_cast, Nat.reduceAdd, Nat.reduceLeDiff, Nat.reduceLT, Int.reduceToNat, Nat.left_eq_add, Nat.add_eq_left, Nat.add_left_cancel_iff, Nat.reduceEqDiff, Nat.add_assoc, Nat.succ_ne_zero]
    refine cor_spec (l := [cmpI a.vlan b.vlan, cmpM a.mac b.mac]) hv.rd (by show 2 < 2 ^ 62; decide) ?_
    rw [orL_two]
    exact h _ ((hG.trans hG2).step_alloc _)
  repeat' first
    | exact fin
    | with_reducible refine allW_intro ?_ ?_
    | with_reducible refine ccmp_spec ?_
    | simp only [push_cast, Nat.reduceAdd, Nat.reduceLeDiff, Nat.reduceLT, Int.reduceToNat, Nat.left_eq_add, Nat.add_eq_left, Nat.add_left_cancel_iff, Nat.reduceEqDiff, Nat.add_assoc, Nat.succ_ne_zero, h0, h1]


/-! ### Keys -/

def pkE (k : Int × Mac) : Value := .agg (i64 k.1 :: k.2.cells).toArray
def pkEOk (k : Int × Mac) : Prop := isI k.1 ∧ k.2.ok
def entV (e : Ent) : Value := .agg e.cells.toArray

theorem ctPair : Try.prog.cellsOf 94 = 7 := by kernel_rfl
theorem ctMac' : Try.prog.cellsOf 34 = 6 := by kernel_rfl
instance : KeyC Try.prog 94 (Int × Mac) pkE pkEOk where
  law := Maps.Keyed.of_law (deep_law_laid laidOut (m := 8) (by decide) (of_decide_eq_true (by kernel_rfl)) (by kernel_rfl) (by rw [Try.underlying94]))
  of := by
    rintro ⟨a, b⟩ ⟨ha, hb⟩
    have hk : ∀ d, Try.prog.keyLits (d + 3) 94 (i64 a :: b.cells) = some ([[.int .i64 a], b.lits] : List (List Lit)).flatten := by
      intro d
      refine kl_struct_mk (ls := [[_], b.lits]) Try.underlying94 (by simp) (by rw [ctPair]; rfl) ?_
      simp only [List.mapM_cons, List.mapM_nil, ctInt, ctMac', bind, Option.bind_eq_some_iff, pure, Option.some.injEq, List.drop_succ_cons, List.drop_zero, List.take_succ_cons, List.take_zero]
      exact ⟨_, kl_int_mk uInt ha, _, ⟨_, MacT.enc (d := d) hb, _, rfl, rfl⟩, rfl⟩
    have hsz : ∃ d, Try.prog.types.size + 1 = d + 3 := ⟨Try.prog.types.size - 2, by
      have : 1 < Try.prog.types.size := of_decide_eq_true (by kernel_rfl)
      omega⟩
    obtain ⟨d, hd⟩ := hsz
    have hf : (Value.agg (i64 a :: b.cells).toArray).formed Try.prog 94 = true := by
      simp [Value.formed, Try.underlying94, ctPair, Mac.cells]
    have hkt : Try.prog.keyType 94 = true := by kernel_rfl
    refine ⟨.string (keyBytes ([[.int .i64 a], b.lits] : List (List Lit)).flatten), ?_⟩
    unfold keyOf pkE
    simp only [Try.underlying94, hkt, hf, Bool.and_self, if_true, hd]
    have := hk d
    simp only [Value.cells] at this ⊢
    rw [this]
    rfl
  inj := by
    rintro ⟨a, b⟩ ⟨c, d⟩ h
    simp [pkE, Mac.cells] at h
    obtain ⟨h1, h2⟩ := h
    rw [h1, Prod.mk.injEq]
    exact ⟨rfl, Mac.ext h2.1 h2.2.1 h2.2.2.1 h2.2.2.2.1 h2.2.2.2.2.1 h2.2.2.2.2.2⟩

theorem build_pair (a : Int) (m : Mac) : opS Try.prog (S.build 94 [(0, i64 a), (1, .agg m.cells.toArray)]) K w = K (pkE (a, m)) w := by
  rw [opS_build _ rfl]; rfl
theorem eKeyOk {e : Ent} (h : e.ok) : pkEOk (eKey e) := ⟨h.1, h.2.1⟩

/-! ### What comes out of the map -/

abbrev OkE := { e : Ent // e.ok }
instance : Inhabited OkE := ⟨⟨⟨0, zMac, 0, 0, false⟩, isI_iff.2 (by decide), by simp [zMac, Mac.ok, isB], isI_iff.2 (by decide), isI_iff.2 (by decide)⟩⟩

theorem zalloc_ent : opS Try.prog (S.alloc 40) K w = K (pt w.heap.size 0) (w.alloc (cellsO (Ent.cells ⟨0, zMac, 0, 0, false⟩) 40)) := by
  rw [opS_alloc]; rfl

theorem ent_slot {g : Ent} {R : Value → Value → World → Prop} (h : ∀ u w', w'.heap[w.heap.size]? = some (cellsO g.cells 40) → Fr none_ w w' → R (pt w.heap.size 0) u w') :
    opS Try.prog (S.alloc 40) (fun x => opS Try.prog (S.st 40 x (.agg g.cells.toArray)) (R x)) w := by
  rw [zalloc_ent, s_stA _ _ _ (Ent.cells_length g) (Ent.cells_one g)]
  simp only [push_cast, Nat.reduceAdd, Nat.reduceLeDiff, Nat.reduceLT, Int.reduceToNat, Nat.left_eq_add, Nat.add_eq_left, Nat.add_left_cancel_iff, Nat.reduceEqDiff, Nat.add_assoc, Nat.succ_ne_zero]
  refine h _ _ ?_ (Fr.step_wr (Fr.step_alloc (Fr.refl _ _) rfl) (.inr (Nat.le_refl _)) _ _)
  simp only [push_cast, Nat.reduceAdd, Nat.reduceLeDiff, Nat.reduceLT, Int.reduceToNat, Nat.left_eq_add, Nat.add_eq_left, Nat.add_left_cancel_iff, Nat.reduceEqDiff, Nat.add_assoc, Nat.succ_ne_zero]

theorem values_spec {m : Nat} (h : ∀ w', w'.heap[w.heap.size]? = some (cellsO [.map (some m)] 92) → Fr none_ w w' → K (.func (.func 79) #[] #[pt w.heap.size 0]) w') :
    CallsR Try.prog 42 #[.map (some m)] K w := by
  apply c42
  unfold p42
  have hc : (Value.map (some m)).cells = [Value.map (some m)].toArray := rfl
  simp only [push_cast, Nat.reduceAdd, Nat.reduceLeDiff, Nat.reduceLT, Int.reduceToNat, Nat.left_eq_add, Nat.add_eq_left, Nat.add_left_cancel_iff, Nat.reduceEqDiff, Nat.add_assoc, Nat.succ_ne_zero, hc]
  exact h _ (by simp only [push_cast, Nat.reduceAdd, Nat.reduceLeDiff, Nat.reduceLT, Int.reduceToNat, Nat.left_eq_add, Nat.add_eq_left, Nat.add_left_cancel_iff, Nat.reduceEqDiff, Nat.add_assoc, Nat.succ_ne_zero]) (by repeat' first | with_reducible exact Fr.refl _ _ | with_reducible refine Fr.step_alloc ?_ ?_ | with_reducible refine Fr.step_drew ?_ | with_reducible refine Fr.step_wr ?_ ?_ _ _ | exact rfl | exact Or.inr (by omega) | exact Or.inl rfl | exact Or.inl (Or.inl rfl) | exact Or.inl (Or.inr rfl))

theorem values1_spec {m cb N : Nat} {tab : List ((Int × Mac) × Ent)} {y : Value} (I : Nat → List ((Int × Mac) × Ent) → World → Prop) (hv : MapR pkE entV pkEOk w m tab) (hcb : w.heap[cb]? = some (cellsO [.map (some m)] 92)) (hmN : m < N)
    (h0 : ∀ w', w.heap.size < w'.heap.size → Fr none_ w w' → I w.heap.size [] w')
    (hst : ∀ it d w1 w2, I it d w1 → Fr (fun b => b = it) w1 w2 → I it d w2)
    (hy : ∀ it d x r w1 KY, it < w1.heap.size → (d ++ x :: r).Perm tab → I it d w1 → (∀ w2, I it (d ++ [x]) w2 → Fr (fun b => b ≠ it ∧ N ≤ b) w1 w2 → KY (.bool true) w2) → opS Try.prog (S.call y [.agg x.2.cells.toArray]) KY w1)
    (h : ∀ it d w', d.Perm tab → I it d w' → K (.tuple #[]) w') : CallsR Try.prog 79 #[y, pt cb 0] K w := by
  apply c79
  unfold p79
  simp only [push_cast, Nat.reduceAdd, Nat.reduceLeDiff, Nat.reduceLT, Int.reduceToNat, Nat.left_eq_add, Nat.add_eq_left, Nat.add_left_cancel_iff, Nat.reduceEqDiff, Nat.add_assoc, Nat.succ_ne_zero, hcb]
  refine s_rng (kc := pkE) (vc := entV) (kok := pkEOk) hv fun w1 hIt hF1 hs1 => ?_
  refine jn0 (fun w' => ∃ d, d.Perm tab ∧ I w.heap.size d w') (fun w' ⟨d, hd, hi⟩ => h _ d w' hd hi) fun j hj => ?_
  refine loop0 (fun n w' => ∃ d todo, (d ++ todo).Perm tab ∧ todo.length = n ∧ IterR pkE entV pkEOk w' w.heap.size m tab todo ∧ I w.heap.size d w' ∧ w.heap.size < w'.heap.size) ?_ tab.length ⟨[], tab, List.Perm.refl _, rfl, hIt, h0 _ (by omega) hF1, by omega⟩
  rintro n w' X ⟨d, todo, hp, rfl, hI, hi, hlt⟩ hX
  refine s_nxt hI (fun e => ?_) fun i q w2 hq hI2 hF2 hs2 hent => ?_
  · subst e
    simp only [push_cast, Nat.reduceAdd, Nat.reduceLeDiff, Nat.reduceLT, Int.reduceToNat, Nat.left_eq_add, Nat.add_eq_left, Nat.add_left_cancel_iff, Nat.reduceEqDiff, Nat.add_assoc, Nat.succ_ne_zero]
    exact hj _ ⟨d, by simpa using hp, hi⟩
  · simp only [push_cast, Nat.reduceAdd, Nat.reduceLeDiff, Nat.reduceLT, Int.reduceToNat, Nat.left_eq_add, Nat.add_eq_left, Nat.add_left_cancel_iff, Nat.reduceEqDiff, Nat.add_assoc, Nat.succ_ne_zero]
    refine s_ent (hent w2 (Fr.refl _ _)) ?_
    have hpk : entV q.2 = .agg q.2.cells.toArray := rfl
    simp only [s_ext, List.getElem?_toArray, List.getElem?_cons_zero, List.getElem?_cons_succ, onS_some, hpk]
    have hlt2 : w.heap.size < w2.heap.size := by omega
    refine ent_slot fun _ W hW hFW => ?_
    have hq' : todo = todo.take i ++ q :: todo.drop (i + 1) := by
      have h1 := List.getElem?_eq_some_iff.1 hq
      obtain ⟨h1, h2⟩ := h1
      rw [← h2, List.getElem_cons_drop, List.take_append_drop]
    have hpe : (d ++ q :: todo.eraseIdx i).Perm tab := by
      refine List.Perm.trans (List.Perm.append_left d ?_) hp
      rw [List.eraseIdx_eq_take_drop_succ]
      conv => rhs; rw [hq']
      exact List.perm_middle.symm
    simp only [push_cast, Nat.reduceAdd, Nat.reduceLeDiff, Nat.reduceLT, Int.reduceToNat, Nat.left_eq_add, Nat.add_eq_left, Nat.add_left_cancel_iff, Nat.reduceEqDiff, Nat.add_assoc, Nat.succ_ne_zero, hW]
    have g1 : I w.heap.size d W := hst _ _ _ _ (hst _ _ _ _ hi hF2) (hFW.mono fun _ _ h => h.elim)
    have g2 := hI2.fr hFW (fun h => h) (fun h => h)
    have g3 : w.heap.size < W.heap.size := Nat.lt_of_lt_of_le hlt2 hFW.size
    refine hy _ d q (todo.eraseIdx i) W _ g3 hpe g1 fun w3 hi3 hF3 => ?_
    simp only [push_cast, Nat.reduceAdd, Nat.reduceLeDiff, Nat.reduceLT, Int.reduceToNat, Nat.left_eq_add, Nat.add_eq_left, Nat.add_left_cancel_iff, Nat.reduceEqDiff, Nat.add_assoc, Nat.succ_ne_zero]
    have hil : i < todo.length := (List.getElem?_eq_some_iff.1 hq).1
    refine hX (todo.eraseIdx i).length _ (by rw [List.length_eraseIdx_of_lt hil]; omega) ⟨d ++ [q], todo.eraseIdx i, by simpa using hpe, rfl, g2.fr hF3 (fun h => h.1 rfl) (fun h => by have := h.2; omega), hi3, by have := hF3.size; omega⟩

/-- what comes out, one behind the other, in some order -/
theorem appendSeq_spec {m cb : Nat} {tab : List ((Int × Mac) × Ent)} (hv : MapR pkE entV pkEOk w m tab) (hcb : w.heap[cb]? = some (cellsO [.map (some m)] 92)) (hl : tab.length ≤ 2 ^ 30)
    (h : ∀ v (d : List ((Int × Mac) × Ent)) w', d.Perm tab → OwnE 40 10 w' v ((d.map Prod.snd).map Ent.cells) → Fr none_ w w' → New w v → K v w') :
    CallsR Try.prog 114 #[.slice none 0 0, .func (.func 79) #[] #[pt cb 0]] K w := by
  apply c114
  unfold p114
  have hm0 := hv.lt
  simp only [push_cast, Nat.reduceAdd, Nat.reduceLeDiff, Nat.reduceLT, Int.reduceToNat, Nat.left_eq_add, Nat.add_eq_left, Nat.add_left_cancel_iff, Nat.reduceEqDiff, Nat.add_assoc, Nat.succ_ne_zero]
  have hFa : Fr none_ w (w.alloc (cellsO [.slice none 0 0] 30)) := (by repeat' first | with_reducible exact Fr.refl _ _ | with_reducible refine Fr.step_alloc ?_ ?_ | with_reducible refine Fr.step_drew ?_ | with_reducible refine Fr.step_wr ?_ ?_ _ _ | exact rfl | exact Or.inr (by omega) | exact Or.inl rfl | exact Or.inl (Or.inl rfl) | exact Or.inl (Or.inr rfl))
  have hsa : (w.alloc (cellsO [.slice none 0 0] 30)).heap[w.heap.size]? = some (cellsO [.slice none 0 0] 30) := by simp only [push_cast, Nat.reduceAdd, Nat.reduceLeDiff, Nat.reduceLT, Int.reduceToNat, Nat.left_eq_add, Nat.add_eq_left, Nat.add_left_cancel_iff, Nat.reduceEqDiff, Nat.add_assoc, Nat.succ_ne_zero]
  have hsz : (w.alloc (cellsO [.slice none 0 0] 30)).heap.size = w.heap.size + 1 := size_alloc _ _
  generalize w.alloc (cellsO [.slice none 0 0] 30) = wa at *
  intro L hL1 hL2 hL3 hyield
  rw [enterS_call]
  have hF2 : Fr none_ wa ((wa.alloc (.deferred (some []))).alloc (.loop L)) := ((Fr.refl _ _).step_alloc rfl).step_alloc rfl
  have hv2 := hv.fr (hFa.trans hF2) fun h => h
  have hcb2 := (hFa.trans hF2).heap hcb fun h => h
  have hsz2 : ((wa.alloc (.deferred (some []))).alloc (.loop L)).heap.size = wa.heap.size + 2 := by rw [size_alloc, size_alloc]
  refine values1_spec (N := w.heap.size) (tab := tab) (fun it d w' => CI 40 10 30 w w.heap.size wa.heap.size L it ((d.map Prod.snd).map Ent.cells) w') hv2 hcb2 hm0 ?_ ?_ ?_ ?_
  · intro w' _ hF'
    exact CI.start (es := []) hL1 hL3 hsa (own_nil _ _ _) rfl hFa (Nat.le_refl _) hF' (by omega)
  · intro it d w2 w3 hI hF'
    exact hI.stay hF'
  · intro it d x r w2 KY hlt hp hI hK
    obtain ⟨L', hlb, hsame, hst, hpd⟩ := hI.loop
    refine hyield KY [.agg x.2.cells.toArray] w2 L' hst hsame hlb rfl ?_
    have hlen : d.length < tab.length := by
      have := hp.length_eq
      rw [List.length_append, List.length_cons] at this
      omega
    show opS Try.prog (S.alloc 40) (fun x5 => opS Try.prog (S.st 40 x5 (.agg x.2.cells.toArray)) fun x6 => opS Try.prog (S.beginR (pt (wa.heap.size + 1) 0)) fun x7 => opS Try.prog (S.ld 30 (pt w.heap.size 0)) fun x8 =>
      opS Try.prog (S.ld 40 x5) fun x9 => opS Try.prog (S.buildS 30 1 [(0, x9)]) fun x10 => opS Try.prog (S.bi .append #[30, 30] 30 [x8, x10]) fun x11 => opS Try.prog (S.st 30 (pt w.heap.size 0) x11) fun x12 =>
      opS Try.prog (S.endR (pt (wa.heap.size + 1) 0) none) KY) w2
    refine ent_slot fun _ w3 hw3 hF3 => ?_
    have hI3 := hI.stay (hF3.mono fun _ _ h => h.elim)
    have hlt3 : it < w3.heap.size := Nat.lt_of_lt_of_le hlt hF3.size
    have hne : w2.heap.size ≠ wa.heap.size + 1 := by have := hI.its; omega
    refine coll_roundM (T := 30) (E := 40) (sz := 10) (by_ := 40) (z := .agg (Ent.cells ⟨0, zMac, 0, 0, false⟩).toArray) (x := x.2.cells)
      (mid := fun K => opS Try.prog (S.ld 40 (pt w2.heap.size 0)) fun x9 => opS Try.prog (S.buildS 30 1 [(0, x9)]) K) ?_ (Ent.cells_one x.2) rfl (by decide) ?_ hI3 hlt3 fun w4 hI4 hF4 => ?_
    · intro K w4 hF4 hk
      have hw4 := hF4.heap hw3 hne
      simp only [push_cast, Nat.reduceAdd, Nat.reduceLeDiff, Nat.reduceLT, Int.reduceToNat, Nat.left_eq_add, Nat.add_eq_left, Nat.add_left_cancel_iff, Nat.reduceEqDiff, Nat.add_assoc, Nat.succ_ne_zero, hw4]
      exact s_bs1 (sz := 10) (z := .agg (Ent.cells ⟨0, zMac, 0, 0, false⟩).toArray) rfl rfl (by decide) (by decide) hk
    · rw [List.length_map, List.length_map]; omega
    · refine hK w4 ?_ ?_
      · rw [List.map_append, List.map_append]; exact hI4
      · exact (hF3.mono fun _ _ h => h.elim).trans hF4
  · intro it d w2 hd hI
    obtain ⟨v, w3, hrun, hs3, hv3, hb3, hd3, hF3, hqs, hq⟩ := coll_end Try.prog hI
    refine ⟨none, w3, hrun, ?_⟩
    simp only [push_cast, Nat.reduceAdd, Nat.reduceLeDiff, Nat.reduceLT, Int.reduceToNat, Nat.left_eq_add, Nat.add_eq_left, Nat.add_left_cancel_iff, Nat.reduceEqDiff, Nat.add_assoc, Nat.succ_ne_zero, hs3]
    show opS Try.prog (S.take (pt wa.heap.size 0)) _ _
    rw [opS_take hd3]
    refine h v d _ hd (upd_own hv3 fun b hb e => ?_) (hF3.step_upd hd3 rfl _ rfl (.inr (by omega))) fun b hb => ?_
    · have := hb3 _ hb; omega
    · have := hb3 _ hb; omega

theorem attach_ok {es : List Ent} (h : ∀ e ∈ es, e.ok) : ∃ zs : List OkE, zs.map Subtype.val = es := by
  induction es with
  | nil => exact ⟨[], rfl⟩
  | cons e es ih =>
    obtain ⟨zs, hz⟩ := ih fun x hx => h x (List.mem_cons_of_mem _ hx)
    exact ⟨⟨e, h e (List.mem_cons_self ..)⟩ :: zs, by rw [List.map_cons, hz]⟩

theorem sortE_spec {v : Value} {es : List Ent} (hv : OwnE 40 10 w v (es.map Ent.cells)) (hok : ∀ e ∈ es, e.ok) (hl : es.length < 2 ^ 60)
    (h : ∀ (ys : List Ent) w', ys.Perm es → ys.Pairwise (fun x y => ¬ cmpE y x < 0) → OwnE 40 10 w' v (ys.map Ent.cells) → Fr (fun b => blkS v = some b) w w' → K (.tuple #[]) w') :
    CallsR Try.prog 27 #[v, .func (.func 43) #[] #[]] K w := by
  obtain ⟨zs, rfl⟩ := attach_ok hok
  rw [List.length_map] at hl
  have hv' : OwnE 40 10 w v (zs.map fun z : OkE => z.1.cells) := by rw [List.map_map] at hv; exact hv
  refine sortK_spec (α := OkE) (enc := fun z => z.1.cells) Try.sortE (by decide) (fun z => Ent.cells_length z.1) (fun z v hv => ?_) Try.isAgg40 Try.sizeOf40 (fun x y => cmpE x.1 y.1) swoE 43 #[] (fun args w => enters_of Try.func43 (by kernel_rfl) rfl args w) (fun x y W => ?_) hv' hl fun ys w' hp hs ho hF => ?_
  · simp only [Ent.cells, List.mem_cons, List.not_mem_nil, or_false] at hv
    rcases hv with rfl | rfl | rfl | rfl | rfl | rfl | rfl | rfl | rfl | rfl <;> rfl
  · exact ecmp_spec x.2 y.2 fun w' hG => ⟨rfl, hG⟩
  · refine h (ys.map Subtype.val) w' (hp.map _) ?_ (by rw [List.map_map]; exact ho) hF
    rw [List.pairwise_map]
    exact hs

def chgC (c : Int × Ent × Bool) : List Value := i64 c.1 :: (c.2.1.cells ++ [.bool c.2.2])

theorem sorted_spec {m cb : Nat} {tab : List ((Int × Mac) × Ent)} {r : List Ent} (hv : MapR pkE entV pkEOk w m tab) (hr : RM tab r) (hcb : w.heap[cb]? = some (cellsO [.map (some m)] 92)) (hl : tab.length ≤ 2 ^ 30)
    (h : ∀ v w', OwnE 40 10 w' v (r.map Ent.cells) → Fr none_ w w' → New w v → K v w') :
    CallsR Try.prog 41 #[.func (.func 79) #[] #[pt cb 0], .func (.func 43) #[] #[]] K w := by
  apply c41
  unfold p41
  simp only [push_cast, Nat.reduceAdd, Nat.reduceLeDiff, Nat.reduceLT, Int.reduceToNat, Nat.left_eq_add, Nat.add_eq_left, Nat.add_left_cancel_iff, Nat.reduceEqDiff, Nat.add_assoc, Nat.succ_ne_zero]
  apply c78
  unfold p78
  simp only [push_cast, Nat.reduceAdd, Nat.reduceLeDiff, Nat.reduceLT, Int.reduceToNat, Nat.left_eq_add, Nat.add_eq_left, Nat.add_left_cancel_iff, Nat.reduceEqDiff, Nat.add_assoc, Nat.succ_ne_zero]
  refine appendSeq_spec hv hcb hl fun v d w2 hd ho hF hN => ?_
  have hok : ∀ e ∈ d.map Prod.snd, e.ok := fun e he => by
    obtain ⟨p, hp, rfl⟩ := List.mem_map.1 he
    have := hd.mem_iff.1 hp
    refine hr.srt.2 _ ((hr.mem _).2 ?_)
    rw [← hr.key p this]; exact this
  refine sortE_spec ho hok (by rw [List.length_map, hd.length_eq]; omega) fun ys w3 hp hs ho3 hF3 => ?_
  rw [hr.out hd hp hs] at ho3
  exact h v w3 ho3 (hF.trans_new hF3 fun b hb e => by have := hN _ e; omega) hN

theorem rm_len {m : List ((Int × Mac) × Ent)} {r : List Ent} (h : RM m r) : m.length = r.length := by
  have hm : (m.map Prod.snd).Perm r := by
    refine (List.perm_ext_iff_of_nodup ?_ ?_).2 fun e => ?_
    · have : (m.map Prod.snd).map eKey = m.map Prod.fst := by
        rw [List.map_map]
        exact List.map_congr_left fun p hp => (h.key p hp).symm
      have hn := h.nd
      rw [← this] at hn
      exact List.Pairwise.of_map eKey (fun a b h e => h (congrArg eKey e)) hn
    · exact List.Pairwise.imp (fun {a b} (hab : ltE a b) (e : a = b) => ltE_irr b (e ▸ hab)) h.srt.1
    · rw [h.mem, List.mem_map]
      constructor
      · rintro ⟨p, hp, rfl⟩
        have := h.key p hp
        rw [← this]; exact hp
      · intro hp; exact ⟨_, hp, rfl⟩
  have := hm.length_eq
  rwa [List.length_map] at this

theorem chgC.len (c : Int × Ent × Bool) : (chgC c).length = 12 := id rfl
theorem chgC.g0 (c : Int × Ent × Bool) : (chgC c)[0]? = some (i64 c.1) := id rfl
theorem chgC.g1 (c : Int × Ent × Bool) : (chgC c)[1]? = some (i64 c.2.1.vlan) := id rfl
theorem chgC.g11 (c : Int × Ent × Bool) : (chgC c)[11]? = some (.bool c.2.2) := id rfl
theorem chgC.d1 (c : Int × Ent × Bool) : ((chgC c).drop 1).take 10 = c.2.1.cells := id rfl
theorem chgC.d2 (c : Int × Ent × Bool) : ((chgC c).drop 2).take 6 = c.2.1.mac.cells := id rfl
attribute [push_cast] chgC.len chgC.g0 chgC.g1 chgC.g11 chgC.d1 chgC.d2

theorem pair_slot {k : Int × Mac} {R : Value → Value → World → Prop} (h : ∀ u w', w'.heap[w.heap.size]? = some (cellsO (i64 k.1 :: k.2.cells) 94) → Fr none_ w w' → R (pt w.heap.size 0) u w') :
    opS Try.prog (S.alloc 94) (fun x => opS Try.prog (S.st 94 x (pkE k)) (R x)) w := by
  have hz : opS Try.prog (S.alloc 94) (fun x => opS Try.prog (S.st 94 x (pkE k)) (R x)) w = opS Try.prog (S.st 94 (pt w.heap.size 0) (.agg (i64 k.1 :: k.2.cells).toArray)) (R (pt w.heap.size 0)) (w.alloc (cellsO (i64 0 :: zMac.cells) 94)) := by
    rw [opS_alloc]; rfl
  rw [hz, s_stA _ _ (i64 k.1 :: k.2.cells) rfl rfl]
  have e : splice (i64 0 :: zMac.cells) 0 (i64 k.1 :: k.2.cells) = i64 k.1 :: k.2.cells := rfl
  have e2 : decide (0 + (i64 k.1 :: k.2.cells).length ≤ (i64 0 :: zMac.cells).length) = true := rfl
  rw [heap_alloc_new, okAt_cells]
  rw [show decide (0 + (i64 k.1 :: k.2.cells).length ≤ (i64 0 :: zMac.cells).length) = true from rfl, onB_true]
  refine h _ _ ?_ (Fr.step_wr (Fr.step_alloc (Fr.refl _ _) rfl) (.inr (Nat.le_refl _)) _ _)
  rw [heap_wr, if_pos rfl, heap_alloc_new, putAt_cells, e]

theorem chg_slot {c : Int × Ent × Bool} {R : Value → Value → World → Prop} (h : ∀ u w', w'.heap[w.heap.size]? = some (cellsO (chgC c) 86) → Fr none_ w w' → R (pt w.heap.size 0) u w') :
    opS Try.prog (S.alloc 86) (fun x => opS Try.prog (S.st 86 x (.agg (chgC c).toArray)) (R x)) w := by
  have hz : opS Try.prog (S.alloc 86) (fun x => opS Try.prog (S.st 86 x (.agg (chgC c).toArray)) (R x)) w = opS Try.prog (S.st 86 (pt w.heap.size 0) (.agg (chgC c).toArray)) (R (pt w.heap.size 0)) (w.alloc (cellsO (chgC (0, ⟨0, zMac, 0, 0, false⟩, false)) 86)) := by
    rw [opS_alloc]; rfl
  rw [hz, s_stA _ _ (chgC c) rfl rfl, heap_alloc_new, okAt_cells]
  have e : splice (chgC (0, ⟨0, zMac, 0, 0, false⟩, false)) 0 (chgC c) = chgC c := rfl
  rw [show decide (0 + (chgC c).length ≤ (chgC (0, ⟨0, zMac, 0, 0, false⟩, false)).length) = true from rfl, onB_true]
  refine h _ _ ?_ (Fr.step_wr (Fr.step_alloc (Fr.refl _ _) rfl) (.inr (Nat.le_refl _)) _ _)
  rw [heap_wr, if_pos rfl, heap_alloc_new, putAt_cells, e]

theorem replay_spec {lv cv : Value} {l : List Ent} {cs : List (Int × Ent × Bool)} (hl : RdE 10 w lv (l.map Ent.cells)) (hc : RdE 12 w cv (cs.map chgC)) (hlo : ∀ e ∈ l, e.ok) (hco : ∀ c ∈ cs, c.2.1.ok) (hll : l.length ≤ 2 ^ 20) (hcl : cs.length ≤ 2 ^ 20)
    (h : ∀ v w', OwnE 40 10 w' v ((replayL l (cs.map Prod.snd)).map Ent.cells) → Fr none_ w w' → New w v → K v w') : CallsR Try.prog 17 #[lv, cv] K w := by
  apply c17
  unfold p17
  obtain ⟨la, lc, rfl⟩ := hl.form
  obtain ⟨ca, cc, rfl⟩ := hc.form
  simp only [List.length_map] at hl hc ⊢
  refine s_mkm (kc := pkE) (vc := entV) (kok := pkEOk) fun w1 hm hF1 hs1 => ?_
  simp only [push_cast, Nat.reduceAdd, Nat.reduceLeDiff, Nat.reduceLT, Int.reduceToNat, Nat.left_eq_add, Nat.add_eq_left, Nat.add_left_cancel_iff, Nat.reduceEqDiff, Nat.add_assoc, Nat.succ_ne_zero]
  refine jn0 (fun w' => ∃ tab, MapR pkE entV pkEOk w' w.heap.size tab ∧ RM tab (l.foldl withL []) ∧ Fr none_ w w') ?_ fun j hj => ?_
  · rintro w2 ⟨tab, hm2, hr2, hF2⟩
    simp only [push_cast, Nat.reduceAdd, Nat.reduceLeDiff, Nat.reduceLT, Int.reduceToNat, Nat.left_eq_add, Nat.add_eq_left, Nat.add_left_cancel_iff, Nat.reduceEqDiff, Nat.add_assoc, Nat.succ_ne_zero]
    refine jn0 (fun w' => ∃ tab, MapR pkE entV pkEOk w' w.heap.size tab ∧ RM tab (replayL l (cs.map Prod.snd)) ∧ Fr none_ w w') ?_ fun j hj => ?_
    · rintro w3 ⟨tab3, hm3, hr3, hF3⟩
      have hlen := replay_len l (cs.map Prod.snd)
      rw [List.length_map] at hlen
      simp only [push_cast, Nat.reduceAdd, Nat.reduceLeDiff, Nat.reduceLT, Int.reduceToNat, Nat.left_eq_add, Nat.add_eq_left, Nat.add_left_cancel_iff, Nat.reduceEqDiff, Nat.add_assoc, Nat.succ_ne_zero]
      refine values_spec fun w4 hcb hF4 => ?_
      simp only [push_cast, Nat.reduceAdd, Nat.reduceLeDiff, Nat.reduceLT, Int.reduceToNat, Nat.left_eq_add, Nat.add_eq_left, Nat.add_left_cancel_iff, Nat.reduceEqDiff, Nat.add_assoc, Nat.succ_ne_zero]
      refine sorted_spec (hm3.fr hF4 fun h => h) hr3 hcb (by rw [rm_len hr3]; omega) fun v w5 ho hF5 hN => ?_
      exact h v w5 ho ((hF3.trans hF4).trans hF5) fun b hb => Nat.le_trans (hF3.trans hF4).size (hN b hb)
    · refine loop1 (fun n x w' => ∃ i : Nat, x = i64 i ∧ n + i = cs.length ∧ ∃ tab, MapR pkE entV pkEOk w' w.heap.size tab ∧ RM tab (((cs.map Prod.snd).take i).foldl chL (l.foldl withL [])) ∧ Fr none_ w w') ?_ cs.length ⟨0, rfl, rfl, tab, hm2, hr2, hF2⟩
      rintro n x w3 X ⟨i, rfl, hi, tab3, hm3, hr3, hF3⟩ hX
      simp only [push_cast, Nat.reduceAdd, Nat.reduceLeDiff, Nat.reduceLT, Int.reduceToNat, Nat.left_eq_add, Nat.add_eq_left, Nat.add_left_cancel_iff, Nat.reduceEqDiff, Nat.add_assoc, Nat.succ_ne_zero]
      refine br_dec (fun hlt => ?_) fun hge => ?_
      · have hil : i < cs.length := by omega
        have hcr := hc.fr hF3 fun _ _ h => h
        refine s_iaE hcr (by omega) (by simpa using hil) fun b o c hv1 he => ?_
        simp only [Int.toNat_natCast] at he ⊢
        rw [List.getElem_map] at he
        have hag := he.agg0 (n := 12) rfl
        have hcok := hco _ (List.getElem_mem hil)
        have htk : (cs.map Prod.snd).take (i + 1) = (cs.map Prod.snd).take i ++ [cs[i].2] := by
          rw [List.take_succ_eq_append_getElem (by rw [List.length_map]; exact hil), List.getElem_map]
        have hch : ((cs.map Prod.snd).take (i + 1)).foldl chL (l.foldl withL []) = chL (((cs.map Prod.snd).take i).foldl chL (l.foldl withL [])) cs[i].2 := by rw [htk, List.foldl_append]; rfl
        generalize cs[i] = c at *
        rw [s_ldN (by decide), hag, onS_some]
        refine chg_slot fun _ w4 hw4 hF4 => ?_
        simp only [push_cast, Nat.reduceAdd, Nat.reduceLeDiff, Nat.reduceLT, Int.reduceToNat, Nat.left_eq_add, Nat.add_eq_left, Nat.add_left_cancel_iff, Nat.reduceEqDiff, Nat.add_assoc, Nat.succ_ne_zero, hw4]
        rw [build_pair]
        refine pair_slot fun _ w5 hw5 hF5 => ?_
        have hc5 := hF5.heap hw4 fun h => h
        have hdp : ((i64 c.2.1.vlan :: c.2.1.mac.cells : List Value).drop 0).take 7 = i64 c.2.1.vlan :: c.2.1.mac.cells := rfl
        have hlp : (i64 c.2.1.vlan :: c.2.1.mac.cells : List Value).length = 7 := rfl
        have hpair : (.agg (i64 c.2.1.vlan :: c.2.1.mac.cells).toArray : Value) = pkE (eKey c.2.1) := rfl
        have hent : (.agg c.2.1.cells.toArray : Value) = entV c.2.1 := rfl
        have hm5 := (hm3.fr hF4 fun h => h).fr hF5 fun h => h
        have hF5' := (hF3.trans hF4).trans hF5
        simp only [push_cast, Nat.reduceAdd, Nat.reduceLeDiff, Nat.reduceLT, Int.reduceToNat, Nat.left_eq_add, Nat.add_eq_left, Nat.add_left_cancel_iff, Nat.reduceEqDiff, Nat.add_assoc, Nat.succ_ne_zero, hc5, hw5, hdp, hlp]
        have hnext : ∀ tab4 w6, MapR pkE entV pkEOk w6 w.heap.size tab4 → RM tab4 (chL (((cs.map Prod.snd).take i).foldl chL (l.foldl withL [])) c.2) → Fr (fun b => b = w.heap.size) w5 w6 → X (i64 ((i : Int) + 1)) w6 := fun tab4 w6 h1 h2 h3 =>
          hX (n - 1) _ _ (by omega) ⟨i + 1, by simp, by omega, tab4, h1, by rw [hch]; exact h2, hF5'.trans_new h3 fun b hb e => by omega⟩
        refine br_intro (fun hg => ?_) fun hg => ?_
        · rw [hpair]
          refine s_del (kc := pkE) (vc := entV) (kok := pkEOk) hm5 (eKeyOk hcok) fun w6 hm6 hF6 => ?_
          simp only [push_cast, Nat.reduceAdd, Nat.reduceLeDiff, Nat.reduceLT, Int.reduceToNat, Nat.left_eq_add, Nat.add_eq_left, Nat.add_left_cancel_iff, Nat.reduceEqDiff, Nat.add_assoc, Nat.succ_ne_zero]
          rw [wrap_i64 (by omega)]
          refine hnext _ w6 hm6 ?_ hF6
          unfold chL
          rw [if_pos hg]
          exact hr3.del c.2.1
        · rw [hpair, hent]
          refine s_mu (kc := pkE) (vc := entV) (kok := pkEOk) hm5 (eKeyOk hcok) fun w6 hm6 hF6 => ?_
          simp only [push_cast, Nat.reduceAdd, Nat.reduceLeDiff, Nat.reduceLT, Int.reduceToNat, Nat.left_eq_add, Nat.add_eq_left, Nat.add_left_cancel_iff, Nat.reduceEqDiff, Nat.add_assoc, Nat.succ_ne_zero]
          rw [wrap_i64 (by omega)]
          refine hnext _ w6 hm6 ?_ hF6
          unfold chL
          rw [if_neg (by rw [hg]; simp)]
          exact hr3.set hcok
      · have : i = cs.length := by omega
        subst this
        refine hj _ ⟨tab3, hm3, ?_, hF3⟩
        rw [List.take_of_length_le (by rw [List.length_map]; omega)] at hr3
        exact hr3
  · refine loop1 (fun n x w' => ∃ i : Nat, x = i64 i ∧ n + i = l.length ∧ ∃ tab, MapR pkE entV pkEOk w' w.heap.size tab ∧ RM tab ((l.take i).foldl withL []) ∧ Fr none_ w w') ?_ l.length ⟨0, rfl, rfl, [], hm, RM.nil, hF1⟩
    rintro n x w3 X ⟨i, rfl, hi, tab3, hm3, hr3, hF3⟩ hX
    simp only [push_cast, Nat.reduceAdd, Nat.reduceLeDiff, Nat.reduceLT, Int.reduceToNat, Nat.left_eq_add, Nat.add_eq_left, Nat.add_left_cancel_iff, Nat.reduceEqDiff, Nat.add_assoc, Nat.succ_ne_zero]
    refine br_dec (fun hlt => ?_) fun hge => ?_
    · have hil : i < l.length := by omega
      refine s_iaE (hl.fr hF3 fun _ _ h => h) (by omega) (by simpa using hil) fun b o c hv1 he => ?_
      simp only [Int.toNat_natCast] at he ⊢
      rw [List.getElem_map] at he
      have hag := he.agg0 (n := 10) rfl
      have hcok := hlo _ (List.getElem_mem hil)
      have hch : (l.take (i + 1)).foldl withL [] = withL ((l.take i).foldl withL []) l[i] := by rw [List.take_succ_eq_append_getElem hil, List.foldl_append]; rfl
      generalize l[i] = c at *
      rw [s_ldN (by decide), hag, onS_some]
      refine ent_slot fun _ w4 hw4 hF4 => ?_
      simp only [push_cast, Nat.reduceAdd, Nat.reduceLeDiff, Nat.reduceLT, Int.reduceToNat, Nat.left_eq_add, Nat.add_eq_left, Nat.add_left_cancel_iff, Nat.reduceEqDiff, Nat.add_assoc, Nat.succ_ne_zero, hw4]
      rw [build_pair]
      have hent : (.agg c.cells.toArray : Value) = entV c := rfl
      simp only [push_cast, Nat.reduceAdd, Nat.reduceLeDiff, Nat.reduceLT, Int.reduceToNat, Nat.left_eq_add, Nat.add_eq_left, Nat.add_left_cancel_iff, Nat.reduceEqDiff, Nat.add_assoc, Nat.succ_ne_zero, hw4]
      rw [hent, show pkE (c.vlan, c.mac) = pkE (eKey c) from rfl]
      refine s_mu (kc := pkE) (vc := entV) (kok := pkEOk) (hm3.fr hF4 fun h => h) (eKeyOk hcok) fun w6 hm6 hF6 => ?_
      simp only [push_cast, Nat.reduceAdd, Nat.reduceLeDiff, Nat.reduceLT, Int.reduceToNat, Nat.left_eq_add, Nat.add_eq_left, Nat.add_left_cancel_iff, Nat.reduceEqDiff, Nat.add_assoc, Nat.succ_ne_zero]
      rw [wrap_i64 (by omega)]
      exact hX (n - 1) _ _ (by omega) ⟨i + 1, by simp, by omega, _, hm6, by rw [hch]; exact hr3.set hcok, (hF3.trans hF4).trans_new hF6 fun b hb e => by omega⟩
    · have : i = l.length := by omega
      subst this
      rw [List.take_length] at hr3
      exact hj _ ⟨tab3, hm3, hr3, hF3⟩


end Go.Gx.S.Rp
