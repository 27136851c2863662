/- Tables of VLANs: those that have members. -/
import Derived.Test.YtdnidegmlplocaaVlan6T
import Derived.Test.YtdnidegmlplocaaVlan2
import Derived.Test.YtdnidegmlplocaaGxColl
import Derived.Test.YtdnidegmlplocaaGxList
import Derived.Test.YtdnidegmlplocaaSortI
set_option linter.unusedVariables false
set_option linter.unusedSimpArgs false
set_option maxRecDepth 100000
namespace Go.Gx.S
open Go Go.Gx Go.Proofs
variable {K : Value → World → Prop} {w : World}

theorem vlans_spec {p : Nat} (h : ∀ w', w'.heap[w.heap.size]? = some (cellsO [pt p 0] 30) → Fr none_ w w' → K (.func (.func 44) #[] #[pt w.heap.size 0]) w') : CallsR Try.prog 38 #[pt p 0] K w := by
  apply c38
  unfold p38
  simp only [push_cast, Nat.reduceAdd, Nat.reduceLeDiff, Nat.reduceLT, Int.reduceToNat, Nat.left_eq_add, Nat.add_eq_left, Nat.add_left_cancel_iff, Nat.reduceEqDiff, Nat.add_assoc, Nat.succ_ne_zero]
  exact h _ (by simp only [push_cast, Nat.reduceAdd, Nat.reduceLeDiff, Nat.reduceLT, Int.reduceToNat, Nat.left_eq_add, Nat.add_eq_left, Nat.add_left_cancel_iff, Nat.reduceEqDiff, Nat.add_assoc, Nat.succ_ne_zero]) (by repeat' first | with_reducible exact Fr.refl _ _ | with_reducible refine Fr.step_alloc ?_ ?_ | with_reducible refine Fr.step_drew ?_ | with_reducible refine Fr.step_wr ?_ ?_ _ _ | exact rfl | exact Or.inr (by omega) | exact Or.inl rfl | exact Or.inl (Or.inl rfl) | exact Or.inl (Or.inr rfl))

theorem vlans1_spec {p m nb cb N : Nat} {t : VT} {y : Value} (I : Nat → List ((Int × Int) × Bool) → World → Prop) (hv : VRep w p m nb t) (hcb : w.heap[cb]? = some (cellsO [pt p 0] 30)) (hmN : m < N)
    (h0 : ∀ w', w.heap.size < w'.heap.size → Fr none_ w w' → I w.heap.size [] w')
    (hst : ∀ it d w1 w2, I it d w1 → Fr (fun b => b = it) w1 w2 → I it d w2)
    (hy : ∀ it d x r w1 KY, it < w1.heap.size → (d ++ x :: r).Perm t.tab → I it d w1 → (∀ w2, I it (d ++ [x]) w2 → Fr (fun b => b ≠ it ∧ N ≤ b) w1 w2 → KY (.bool true) w2) → opS Try.prog (S.call y [i64 x.1.1]) KY w1)
    (h : ∀ it d w', d.Perm t.tab → I it d w' → K (.tuple #[]) w') : CallsR Try.prog 44 #[y, pt cb 0] K w := by
  apply c44
  unfold p44
  simp only [push_cast, Nat.reduceAdd, Nat.reduceLeDiff, Nat.reduceLT, Int.reduceToNat, Nat.left_eq_add, Nat.add_eq_left, Nat.add_left_cancel_iff, Nat.reduceEqDiff, Nat.add_assoc, Nat.succ_ne_zero, hcb, hv.blk]
  refine s_rng (kc := pk) (vc := Value.bool) (kok := pkOk) hv.map fun w1 hIt hF1 hs1 => ?_
  refine jn0 (fun w' => ∃ d, d.Perm t.tab ∧ I w.heap.size d w') (fun w' ⟨d, hd, hi⟩ => h _ d w' hd hi) fun j hj => ?_
  refine loop0 (fun n w' => ∃ d todo, (d ++ todo).Perm t.tab ∧ todo.length = n ∧ IterR pk Value.bool pkOk w' w.heap.size m t.tab todo ∧ I w.heap.size d w' ∧ w.heap.size < w'.heap.size) ?_ t.tab.length ⟨[], t.tab, List.Perm.refl _, rfl, hIt, h0 _ (by omega) hF1, by omega⟩
  rintro n w' X ⟨d, todo, hp, rfl, hI, hi, hlt⟩ hX
  refine s_nxt hI (fun e => ?_) fun i q w2 hq hI2 hF2 hs2 hent => ?_
  · subst e
    simp only [push_cast, Nat.reduceAdd, Nat.reduceLeDiff, Nat.reduceLT, Int.reduceToNat, Nat.left_eq_add, Nat.add_eq_left, Nat.add_left_cancel_iff, Nat.reduceEqDiff, Nat.add_assoc, Nat.succ_ne_zero]
    exact hj _ ⟨d, by simpa using hp, hi⟩
  · simp only [push_cast, Nat.reduceAdd, Nat.reduceLeDiff, Nat.reduceLT, Int.reduceToNat, Nat.left_eq_add, Nat.add_eq_left, Nat.add_left_cancel_iff, Nat.reduceEqDiff, Nat.add_assoc, Nat.succ_ne_zero]
    refine s_ent (hent w2 (Fr.refl _ _)) ?_
    have hpk : pk q.1 = .agg ([i64 q.1.1, i64 q.1.2] : List Value).toArray := rfl
    have hone : ([i64 q.1.1, i64 q.1.2] : List Value).all S.oneCell = true := rfl
    simp only [push_cast, Nat.reduceAdd, Nat.reduceLeDiff, Nat.reduceLT, Int.reduceToNat, Nat.left_eq_add, Nat.add_eq_left, Nat.add_left_cancel_iff, Nat.reduceEqDiff, Nat.add_assoc, Nat.succ_ne_zero, hpk, hone]
    have hlt2 : w.heap.size < w2.heap.size := by omega
    have hq' : todo = todo.take i ++ q :: todo.drop (i + 1) := by
      have h1 := List.getElem?_eq_some_iff.1 hq
      obtain ⟨h1, h2⟩ := h1
      rw [← h2, List.getElem_cons_drop, List.take_append_drop]
    have hpe : (d ++ q :: todo.eraseIdx i).Perm t.tab := by
      refine List.Perm.trans (List.Perm.append_left d ?_) hp
      rw [List.eraseIdx_eq_take_drop_succ]
      conv => rhs; rw [hq']
      exact List.perm_middle.symm
    refine at_w (fun W => I w.heap.size d W ∧ IterR pk Value.bool pkOk W w.heap.size m t.tab (todo.eraseIdx i) ∧ w.heap.size < W.heap.size) ⟨?_, ?_, ?_⟩ ?_
    · exact hst _ _ _ _ (hst _ _ _ _ hi hF2) (Fr.step_wr (Fr.step_alloc (Fr.refl _ _) rfl) (.inr (Nat.le_refl _)) _ _)
    · exact hI2.fr (fp := none_) (Fr.step_wr (Fr.step_alloc (Fr.refl _ _) rfl) (.inr (Nat.le_refl _)) _ _) (fun h => h) (fun h => h)
    · simp only [push_cast, Nat.reduceAdd, Nat.reduceLeDiff, Nat.reduceLT, Int.reduceToNat, Nat.left_eq_add, Nat.add_eq_left, Nat.add_left_cancel_iff, Nat.reduceEqDiff, Nat.add_assoc, Nat.succ_ne_zero]; omega
    rintro W ⟨g1, g2, g3⟩
    refine hy _ d q (todo.eraseIdx i) W _ g3 hpe g1 fun w3 hi3 hF3 => ?_
    simp only [push_cast, Nat.reduceAdd, Nat.reduceLeDiff, Nat.reduceLT, Int.reduceToNat, Nat.left_eq_add, Nat.add_eq_left, Nat.add_left_cancel_iff, Nat.reduceEqDiff, Nat.add_assoc, Nat.succ_ne_zero]
    have hil : i < todo.length := (List.getElem?_eq_some_iff.1 hq).1
    refine hX (todo.eraseIdx i).length _ (by rw [List.length_eraseIdx_of_lt hil]; omega) ⟨d ++ [q], todo.eraseIdx i, by simpa using hpe, rfl, g2.fr hF3 (fun h => h.1 rfl) (fun h => by have := h.2; omega), hi3, by have := hF3.size; omega⟩

/-- below n, those that have members -/
def vl (t : VT) (n : Nat) : List Int := ((List.range n).map Int.ofNat).filter fun v => t.tab.any fun x => decide (x.1.1 = v)
def vlans (t : VT) : List Int := vl t 4095

theorem vl_rise (t : VT) (n : Nat) : (vl t n).Pairwise (· < ·) := by
  unfold vl
  refine List.Pairwise.filter _ (List.Pairwise.map (R := (· < ·)) _ ?_ List.pairwise_lt_range)
  intro a b hab
  show (a : Int) < b
  omega
theorem vlans_mem {t : VT} (h : t.ok) {v : Int} : v ∈ vlans t ↔ ∃ x ∈ t.tab, x.1.1 = v := by
  unfold vlans vl
  rw [List.mem_filter, List.mem_map, List.any_eq_true]
  constructor
  · rintro ⟨_, x, hx, he⟩
    exact ⟨x, hx, by simpa using he⟩
  · rintro ⟨x, hx, rfl⟩
    have hr := h.key x hx
    refine ⟨⟨x.1.1.toNat, ?_, ?_⟩, x, hx, by simp⟩
    · rw [List.mem_range]; have := hr.1; have := hr.2.1; omega
    · have := hr.1
      show ((x.1.1.toNat : Nat) : Int) = _
      omega

theorem vvlans_spec {p m nb : Nat} {t : VT} (hv : VRep w p m nb t) (h : ∀ w' x, OwnE 3 1 w' x ((vlans t).map cellI) → Fr none_ w w' → New w x → K x w') : CallsR Try.prog 23 #[pt p 0] K w := by
  apply c23
  unfold p23
  have hsm := VT.small hv.ok
  obtain ⟨hp0, hm0, hn0⟩ := hv.lt
  simp only [push_cast, Nat.reduceAdd, Nat.reduceLeDiff, Nat.reduceLT, Int.reduceToNat, Nat.left_eq_add, Nat.add_eq_left, Nat.add_left_cancel_iff, Nat.reduceEqDiff, Nat.add_assoc, Nat.succ_ne_zero]
  have hFa : Fr none_ w (w.alloc (cellsO [.slice none 0 0] 43)) := (by repeat' first | with_reducible exact Fr.refl _ _ | with_reducible refine Fr.step_alloc ?_ ?_ | with_reducible refine Fr.step_drew ?_ | with_reducible refine Fr.step_wr ?_ ?_ _ _ | exact rfl | exact Or.inr (by omega) | exact Or.inl rfl | exact Or.inl (Or.inl rfl) | exact Or.inl (Or.inr rfl))
  have hsa : (w.alloc (cellsO [.slice none 0 0] 43)).heap[w.heap.size]? = some (cellsO [.slice none 0 0] 43) := by simp only [push_cast, Nat.reduceAdd, Nat.reduceLeDiff, Nat.reduceLT, Int.reduceToNat, Nat.left_eq_add, Nat.add_eq_left, Nat.add_left_cancel_iff, Nat.reduceEqDiff, Nat.add_assoc, Nat.succ_ne_zero]
  have hsz : (w.alloc (cellsO [.slice none 0 0] 43)).heap.size = w.heap.size + 1 := size_alloc _ _
  generalize w.alloc (cellsO [.slice none 0 0] 43) = wa at *
  refine vlans_spec fun w1 hcb hF1 => ?_
  have hs1 := hF1.heap hsa fun h => h
  have hF : Fr none_ w w1 := hFa.trans hF1
  intro L hL1 hL2 hL3 hyield
  rw [enterS_call]
  have hF2 : Fr none_ w1 ((w1.alloc (.deferred (some []))).alloc (.loop L)) := ((Fr.refl _ _).step_alloc rfl).step_alloc rfl
  have hv2 : VRep ((w1.alloc (.deferred (some []))).alloc (.loop L)) p m nb t := hv.fr0 (hF.trans hF2)
  have hcb2 := hF2.heap hcb fun h => h
  have hsz2 : ((w1.alloc (.deferred (some []))).alloc (.loop L)).heap.size = w1.heap.size + 2 := by rw [size_alloc, size_alloc]
  refine vlans1_spec (N := w.heap.size) (t := t) (fun it d w' => CI 3 1 43 w w.heap.size w1.heap.size L it (d.map fun x => cellI x.1.1) w') hv2 hcb2 hm0 ?_ ?_ ?_ ?_
  · intro w' _ hF'
    exact CI.start (es := []) hL1 hL3 hs1 (own_nil _ _ _) rfl hF (Nat.le_refl _) hF' (by omega)
  · intro it d w2 w3 hI hF'
    exact hI.stay hF'
  · intro it d x r w2 KY hlt hp hI hK
    obtain ⟨L', hlb, hsame, hst, hpd⟩ := hI.loop
    refine hyield KY [i64 x.1.1] w2 L' hst hsame hlb rfl ?_
    have hlen : (d.map fun x => cellI x.1.1).length < t.tab.length := by
      have := hp.length_eq
      rw [List.length_append, List.length_cons] at this
      rw [List.length_map]; omega
    refine coll_round (T := 43) (E := 3) (sz := 1) (by_ := 8) (z := .int .i64 0) (x := cellI x.1.1) (xv := i64 x.1.1) (fun K w hk => s_bs1c (z := .int .i64 0) rfl rfl hk) rfl rfl (by decide) (by omega) hI hlt fun w3 hI3 hF3 => ?_
    refine hK w3 ?_ hF3
    rw [List.map_append]
    exact hI3
  · intro it d w2 hd hI
    obtain ⟨v, w3, hrun, hs3, hv3, hb3, hd3, hF3, hqs, hq⟩ := coll_end Try.prog hI
    refine ⟨none, w3, hrun, ?_⟩
    have hmem : ∀ x, x ∈ d.map (fun x => x.1.1) ↔ x ∈ vlans t := fun x => by
      rw [vlans_mem hv.ok, List.mem_map]
      exact ⟨fun ⟨y, hy, e⟩ => ⟨y, hd.mem_iff.1 hy, e⟩, fun ⟨y, hy, e⟩ => ⟨y, hd.mem_iff.2 hy, e⟩⟩
    have hmap : (d.map fun x => cellI x.1.1) = (d.map fun x => x.1.1).map cellI := by rw [List.map_map]; rfl
    have hl : (d.map fun x => x.1.1).length ≤ 262144 := by rw [List.length_map, hd.length_eq]; exact hsm
    rw [hmap] at hv3
    simp only [push_cast, Nat.reduceAdd, Nat.reduceLeDiff, Nat.reduceLT, Int.reduceToNat, Nat.left_eq_add, Nat.add_eq_left, Nat.add_left_cancel_iff, Nat.reduceEqDiff, Nat.add_assoc, Nat.succ_ne_zero, hs3]
    refine sortI_spec hv3 (by omega) fun w4 hv4 hF4 => ?_
    have hs4 := hF4.heap hs3 (fun e => by have := hb3 _ e; omega)
    have hd4 := hF4.heap hd3 (fun e => by have := hb3 _ e; omega)
    simp only [push_cast, Nat.reduceAdd, Nat.reduceLeDiff, Nat.reduceLT, Int.reduceToNat, Nat.left_eq_add, Nat.add_eq_left, Nat.add_left_cancel_iff, Nat.reduceEqDiff, Nat.add_assoc, Nat.succ_ne_zero, hs4]
    refine compactI_spec hv4 (by rw [List.length_mergeSort]; omega) fun v' w5 hv5 hb5 hF5 => ?_
    have hd5 := hF5.heap hd4 (fun e => by have := hb3 _ e; omega)
    rw [uniq_eq (vl_rise t 4095) hmem] at hv5
    show opS Try.prog (S.take (pt w1.heap.size 0)) _ _
    rw [opS_take hd5]
    have hF6 : Fr none_ w w5 := (hF3.trans_new hF4 (fun b hb e => by have := hb3 _ e; omega)).trans_new hF5 (fun b hb e => by have := hb3 _ e; omega)
    refine h _ v' (upd_own hv5 fun b hb e => ?_) (hF6.step_upd hd5 rfl _ rfl (.inr (by omega))) fun b hb => ?_
    · rw [hb5] at hb; have := hb3 _ hb; omega
    · rw [hb5] at hb; have := hb3 _ hb; omega

theorem vl_succ (t : VT) (n : Nat) : vl t (n + 1) = vl t n ++ if (t.tab.any fun x => decide (x.1.1 = (n : Int))) then [(n : Int)] else [] := by
  unfold vl
  rw [List.range_succ, List.map_append, List.filter_append]
  congr 1
  by_cases h : (t.tab.any fun x => decide (x.1.1 = (n : Int))) = true <;> simp [h]
theorem vl_one {t : VT} (h : t.ok) : vl t 1 = [] := by
  rw [vl_succ]
  have : (t.tab.any fun x => decide (x.1.1 = ((0 : Nat) : Int))) = false := by
    rw [List.any_eq_false]
    intro x hx
    have := (h.key x hx).1
    simp; omega
  rw [this]; rfl
theorem vl_len (t : VT) (n : Nat) : (vl t n).length ≤ n := by
  unfold vl
  refine Nat.le_trans (List.length_filter_le _ _) ?_
  simp

theorem rvlans_spec {q nb : Nat} {Lv : Value} {t : VT} (hv : RRep w q nb Lv t) (h : ∀ w' x, OwnE 3 1 w' x ((vlans t).map cellI) → Fr none_ w w' → New w x → K x w') : CallsR Try.prog 24 #[pt q 0] K w := by
  apply c24
  unfold p24
  have hsmall := VT.small hv.ok
  refine jn1 K (fun _ _ h => h) fun j hj => ?_
  refine loop2 (fun mm x y w' => ∃ n : Nat, 1 ≤ n ∧ n ≤ 4095 ∧ y = i64 n ∧ mm + n = 4095 ∧ OwnE 3 1 w' x ((vl t n).map cellI) ∧ Fr none_ w w' ∧ New w x) ?_ 4094 ⟨1, by omega, by omega, rfl, rfl, by rw [vl_one hv.ok]; exact own_nil _ _ _, Fr.refl _ _, fun b hb => by cases hb⟩
  rintro mm x y w1 X ⟨n, hn1, hn2, rfl, hmm, hx, hF, hN⟩ hX
  simp only [push_cast, Nat.reduceAdd, Nat.reduceLeDiff, Nat.reduceLT, Int.reduceToNat, Nat.left_eq_add, Nat.add_eq_left, Nat.add_left_cancel_iff, Nat.reduceEqDiff, Nat.add_assoc, Nat.succ_ne_zero]
  refine br_dec (fun hle => ?_) fun hgt => ?_
  · refine jn1 (fun x' w' => OwnE 3 1 w' x' ((vl t (n + 1)).map cellI) ∧ Fr none_ w w' ∧ New w x') ?_ fun j2 hj2 => ?_
    · rintro x' w' ⟨hx', hF', hN'⟩
      simp only [push_cast, Nat.reduceAdd, Nat.reduceLeDiff, Nat.reduceLT, Int.reduceToNat, Nat.left_eq_add, Nat.add_eq_left, Nat.add_left_cancel_iff, Nat.reduceEqDiff, Nat.add_assoc, Nat.succ_ne_zero]
      rw [wrap_i64 (by omega)]
      exact hX (mm - 1) _ _ _ (by omega) ⟨n + 1, by omega, by omega, by simp, by omega, hx', hF', hN'⟩
    · rw [jn_1]
      refine loop2 (fun mm2 x2 y2 w' => ∃ i : Nat, x2 = x ∧ w' = w1 ∧ y2 = i64 i ∧ mm2 + i = t.tab.length ∧ ∀ k (hk : k < i) (hk2 : k < t.tab.length), t.tab[k].1.1 ≠ (n : Int)) ?_ t.tab.length ⟨0, rfl, rfl, rfl, rfl, fun k hk => absurd hk (by omega)⟩
      rintro mm2 x2 y2 w' X2 ⟨i, rfl, rfl, rfl, hmi, hno⟩ hX2
      have hv' := hv.fr0 hF
      obtain ⟨la, lc, hL⟩ := hv'.lst.rd.form
      rw [List.length_map] at hL
      have hlst := hv'.lst
      rw [hL] at hlst
      simp only [push_cast, Nat.reduceAdd, Nat.reduceLeDiff, Nat.reduceLT, Int.reduceToNat, Nat.left_eq_add, Nat.add_eq_left, Nat.add_left_cancel_iff, Nat.reduceEqDiff, Nat.add_assoc, Nat.succ_ne_zero, hv'.blk, hL]
      refine br_dec (fun hlt => ?_) fun hge => ?_
      · refine s_iaE hlst.rd (by omega) (by simpa using hlt) fun b1 o1 c1 hv1 he => ?_
        simp only [Int.toNat_natCast] at he ⊢
        have hil : i < t.tab.length := by omega
        rw [List.getElem_map] at he
        have hc := he.cell 0 (by simp [memC])
        rw [Nat.add_zero] at hc
        simp only [push_cast, Nat.reduceAdd, Nat.reduceLeDiff, Nat.reduceLT, Int.reduceToNat, Nat.left_eq_add, Nat.add_eq_left, Nat.add_left_cancel_iff, Nat.reduceEqDiff, Nat.add_assoc, Nat.succ_ne_zero, hc]
        have hm0 : (memC t.tab[i])[0]? = some (i64 t.tab[i].1.1) := rfl
        simp only [push_cast, Nat.reduceAdd, Nat.reduceLeDiff, Nat.reduceLT, Int.reduceToNat, Nat.left_eq_add, Nat.add_eq_left, Nat.add_left_cancel_iff, Nat.reduceEqDiff, Nat.add_assoc, Nat.succ_ne_zero, hm0]
        refine br_intro (fun e => ?_) fun e => ?_
        · have e : t.tab[i].1.1 = (n : Int) := by simpa using e
          have hany : (t.tab.any fun x => decide (x.1.1 = (n : Int))) = true := List.any_eq_true.2 ⟨_, List.getElem_mem hil, by simpa using e⟩
          have hvl := vl_len t n
          refine s_app1 (z := .int .i64 0) rfl rfl (by decide) hx (by rw [List.length_map]; omega) fun v2 w2 h1 h2 h3 => ?_
          refine hj2 _ _ ⟨?_, hF.trans_new h3 fun b hb hbb => by have := hN _ hbb; omega, fun b hb => ?_⟩
          · rw [vl_succ, hany, if_pos rfl, List.map_append]; exact h1
          · rcases h2 with h2 | h2
            · exact hN b (h2 ▸ hb)
            · have := h2 b hb; have := hF.size; omega
        · have e : t.tab[i].1.1 ≠ (n : Int) := by simpa using e
          rw [wrap_i64 (by omega)]
          refine hX2 (mm2 - 1) _ _ _ (by omega) ⟨i + 1, rfl, rfl, by simp, by omega, fun k hk hk2 => ?_⟩
          by_cases hki : k = i
          · subst hki; exact e
          · exact hno k (by omega) hk2
      · have hany : (t.tab.any fun x => decide (x.1.1 = (n : Int))) = false := by
          rw [List.any_eq_false]
          intro y hy
          obtain ⟨k, hk, rfl⟩ := List.getElem_of_mem hy
          simpa using hno k (by omega) hk
        exact hj2 _ _ ⟨by rw [vl_succ, hany]; simpa using hx, hF, hN⟩
  · have : n = 4095 := by omega
    subst this
    exact hj _ _ (h _ _ hx hF hN)

end Go.Gx.S
