/- JournalScripts: what the function asks is so. -/
import Derived.Test.YtogbkljoganbhaaGx09g
import Derived.Test.YtogbkljoganbhaaGx09d
set_option linter.unusedVariables false
set_option linter.unusedSimpArgs false
set_option maxRecDepth 100000
namespace Go.Gx.S09
open Go Go.Gx Go.Proofs
variable {K : Value → World → Prop} {w : World}

/-- a step's cells -/
def stepC (h : List Value × Bool) : List Value := h.1 ++ [.bool h.2]

theorem scripts_spec {room seq : Int} {v : Value} {st : List (List Value × Bool)} (hseq : IntKind.i64.min ≤ seq ∧ seq ≤ IntKind.i64.max) (hv : RdE 11 w v (st.map stepC)) (hlen : st.length < 2 ^ 63)
    (hok : ∀ h ∈ st, h.1.length = 10 ∧ h.1.all S.oneCell = true) (hlit : ∀ i x g, (x, g) ∈ st → i < 2 ^ 30 → ∃ l, Try.prog.keyLits 8 48 (chg i x g) = some l)
    (h : ∀ w', Fr none_ w w' → K (.bool true) w') : CallsR Try.prog 3 #[i64 room, v, i64 seq] K w := by
  apply c3
  unfold p3
  simp only [push_cast]
  refine awake_spec fun w1 hF1 => ?_
  simp only [push_cast]
  refine new_spec room (fun hbad => ?_) fun hr1 hr2 p rb w2 o c es hJ hF2 hp hrb => ?_
  · simp only [push_cast]
    refine rnew_spec room (fun _ => ?_) fun h1 h2 => absurd hbad (by omega)
    simp only [push_cast]
    have b1 : ((1 : Int) != 1) = false := rfl
    have b2 : (!(true == true)) = false := rfl
    rw [b1, br_false, b2, br_false]
    refine jn0 (fun w' => Fr none_ w w') (fun w' hF => ?_) fun jj hjj => ?_
    · simp only [push_cast]
      exact h _ hF
    · refine loop1 (fun m v w' => v = i64 0 ∧ Fr none_ w w') ?_ 0 ⟨rfl, hF1⟩
      rintro m v' w' X ⟨rfl, hF⟩ hX
      obtain ⟨a, cc, rfl⟩ := hv.form
      simp only [push_cast]
      refine br_intro (fun _ => ?_) fun _ => hjj _ hF
      refine br_intro (fun _ => ?_) fun _ => hjj _ hF
      exact hjj _ hF
  · simp only [push_cast]
    refine rnew_spec room (fun h1 => absurd h1 (by omega)) fun _ _ q w3 L hR hF3 hq hL => ?_
    simp only [push_cast]
    have b1 : ((0 : Int) != 0) = false := rfl
    have b2 : (!(false == false)) = false := rfl
    rw [b1, br_false, b2, br_false]
    refine jn0 (fun w' => ∃ hs es L, JRep w' p rb room.toNat hs o c es ∧ RRep w' q room.toNat hs L ∧ Fr none_ w w' ∧ hs.length ≤ 300 ∧ (∀ h ∈ hs, h ∈ st)) ?_ fun jj hjj => ?_
    · rintro w' ⟨hs, es', L', hJ', hR', hF', hn', hst⟩
      simp only [push_cast]
      have hok' : ∀ h ∈ hs, h.1.length = 10 ∧ h.1.all S.oneCell = true := fun h hh => hok h (hst h hh)
      refine since_spec hJ' (by omega) (by omega) (by omega) hok' (fun hno w4 hF4 => ?_) fun h1 h2 h3 w4 v4 hv4 hF4 => ?_
      · simp only [push_cast]
        refine rsince_spec (hR'.fr hF4 (fun h => h) (fun _ _ h => h)) (by omega) (by omega) hseq (fun _ w5 hF5 => ?_) fun g1 g2 g3 => absurd ⟨g1, g2, g3⟩ hno
        simp only [push_cast]
        refine same_spec (es := []) ⟨.inl ⟨⟨_, _, rfl⟩, rfl, rfl⟩, by simp⟩ ⟨.inl ⟨⟨_, _, rfl⟩, rfl, rfl⟩, by simp⟩ (by simp) (by simp) fun w6 hF6 => ?_
        simp only [push_cast]
        exact h _ (((hF'.trans hF4).trans hF5).trans hF6)
      · simp only [push_cast]
        refine rsince_spec (hR'.fr hF4 (fun h => h) (fun _ _ h => h)) (by omega) (by omega) hseq (fun hno => absurd ⟨h1, h2, h3⟩ hno) fun _ _ _ w5 v5 hv5 hF5 => ?_
        simp only [push_cast]
        refine same_spec (hv4.fr hF5 (fun _ _ h => h)) hv5 (fun e he => ?_) (by rw [List.length_drop, chs_length]; omega) fun w6 hF6 => ?_
        · have := List.mem_of_mem_drop he
          unfold chs at this
          rw [List.mem_mapIdx] at this
          obtain ⟨i, hi, rfl⟩ := this
          exact hlit _ _ _ (hst _ (List.getElem_mem hi)) (by omega)
        · simp only [push_cast]
          exact h _ (((hF'.trans hF4).trans hF5).trans hF6)
    · have hrb2 := hJ.ring.lt (b := rb) rfl
      have hp2 := lt_of_heap hJ.blk
      refine loop1 (fun m v' w' => ∃ i hs es L, v' = i64 (i : Nat) ∧ i + m = 300 ∧ hs.length = i ∧ JRep w' p rb room.toNat hs o c es ∧ RRep w' q room.toNat hs L ∧ Fr none_ w w' ∧ (∀ h ∈ hs, h ∈ st) ∧ (∀ b, blkS L = some b → b ≠ p ∧ b ≠ rb)) ?_ 300
        ⟨0, [], es, L, rfl, rfl, rfl, hJ.fr hF3 (fun h => h) (fun h => h), hR, (hF1.trans hF2).trans hF3, by simp, fun b hb => by have := hL b hb; omega⟩
      rintro m v' w' X ⟨i, hs, es', L', rfl, hm, hi, hJ', hR', hF', hst, hLn⟩ hX
      have hex : jj w' := hjj _ ⟨hs, es', L', hJ', hR', hF', by omega, hst⟩
      have hv' := hv.fr hF' (fun _ _ h => h)
      obtain ⟨a, cc, rfl⟩ := hv.form
      simp only [push_cast]
      refine br_dec (fun hlt => ?_) fun _ => hex
      refine br_dec (fun hlt2 => ?_) fun _ => hex
      rw [List.length_map] at hlt
      have hi2 : i < st.length := by omega
      have hvd : RdE 11 w'.drew _ _ := hv'
      refine s_iaE hvd (by omega) (by simpa using hi2) fun b1 o1 c1 _ hE => ?_
      simp only [Int.toNat_natCast, List.getElem_map] at hE ⊢
      obtain ⟨hxl, hx1⟩ := hok _ (List.getElem_mem hi2)
      have hsl : (stepC st[i]).length = 11 := by simp [stepC, hxl]
      have ea : ∀ {W : World} {b o : Nat}, El W b o (stepC st[i]) → aggAt W.heap[b]? (o + 0) 10 = some (.agg st[i].1.toArray) := fun hE => by
        rw [hE.agg 0 10 (by omega)]
        simp [stepC, ← hxl]
      have eb : ∀ {W : World} {b o : Nat}, El W b o (stepC st[i]) → cellAt W.heap[b]? (o + 10) = some (.bool st[i].2) := fun hE => by
        rw [hE.cell 10 (by omega)]
        simp [stepC, ← hxl]
      rw [fa38_0, s_ldN (by decide), ea hE, onS_some]
      refine s_iaE hvd (by omega) (by simpa using hi2) fun b2 o2 c2 _ hE2 => ?_
      simp only [Int.toNat_natCast, List.getElem_map] at hE2 ⊢
      rw [fa38_1, s_ld1, eb hE2, onS_some]
      simp only [push_cast]
      refine put_spec (hJ'.fr (Fr.drew (fp := none_) w') (fun h => h) (fun h => h)) (by omega) (by omega) hxl hx1 (by omega) fun w4 es4 hJ4 hF4 => ?_
      simp only [push_cast]
      have hF4' : Fr none_ w w4 := hF'.step_drew.trans_new hF4 (fun b hb h => by have := hF1.size; have := hF2.size; omega)
      have hv4 : RdE 11 w4.drew _ _ := (hv.fr (fp := none_) hF4'.step_drew (fun _ _ h => h))
      refine s_iaE hv4 (by omega) (by simpa using hi2) fun b3 o3 c3 _ hE3 => ?_
      simp only [Int.toNat_natCast, List.getElem_map] at hE3 ⊢
      rw [fa38_0, s_ldN (by decide), ea hE3, onS_some]
      refine s_iaE hv4 (by omega) (by simpa using hi2) fun b4 o4 c4 _ hE4 => ?_
      simp only [Int.toNat_natCast, List.getElem_map] at hE4 ⊢
      rw [fa38_1, s_ld1, eb hE4, onS_some]
      simp only [push_cast]
      have hR4 := hR'.fr (Fr.drew (fp := none_) w') (fun h => h) (fun _ _ h => h)
      have hR5 := (hR4.fr hF4 (by omega) (fun b hb => by have := hLn b hb; omega)).fr (Fr.drew (fp := none_) w4) (fun h => h) (fun _ _ h => h)
      refine rput_spec hR5 (by omega) (by omega) hxl hx1 (by omega) fun w5 L5 hR6 hF5 hL5 => ?_
      simp only [push_cast]
      have c1 : (((hs.length : Int) + 1) != ((hs.length : Int) + 1)) = false := by simp
      have z1 : ((0 : Int) != 0) = false := rfl
      rw [c1, br_false, z1, br_false]
      have hJ6 := ((hJ4.fr (Fr.drew (fp := none_) w4) (fun h => h) (fun h => h)).fr hF5 (by omega) (by omega)).fr (Fr.drew (fp := none_) w5) (fun h => h) (fun h => h)
      have hR7 := hR6.fr (Fr.drew (fp := none_) w5) (fun h => h) (fun _ _ h => h)
      have hF6 : Fr none_ w w5.drew := (hF4'.step_drew.trans_new hF5 (fun b hb h => by have := hF1.size; have := hF2.size; omega)).step_drew
      have hX' : X (i64 ((i : Int) + 1)) w5.drew := by
        refine hX (m - 1) _ _ (by omega) ⟨i + 1, hs ++ [(st[i].1, st[i].2)], es4, L5, by simp, by omega, by simp [hi], hJ6, hR7, hF6, ?_, fun b hb => ?_⟩
        · intro h hh
          rcases List.mem_append.1 hh with hh | hh
          · exact hst h hh
          · simp at hh; subst hh; exact List.getElem_mem hi2
        · have := hL5 b hb
          have h4 := hF4.size
          have h5 := hF'.size
          have h6 := hF1.size
          have h7 := lt_of_heap hJ'.blk
          have h8 := hJ'.ring.lt (b := rb) rfl
          have e1 : w4.drew.heap.size = w4.heap.size := rfl
          have e2 : w'.drew.heap.size = w'.heap.size := rfl
          omega
      have p6 := hJ6.blk
      have q6 := hR7.blk
      have hl6 : ((hs ++ [(st[i].1, st[i].2)]).length : Int) = hs.length + 1 := by simp
      rw [hl6] at p6 q6
      refine allW_intro ?_ ?_
      · refine last_spec p6 ?_
        simp only [push_cast, q6, c1]
        rw [wrap_i64 (by omega)]
        exact hX'
      · simp only [push_cast, q6]
        refine last_spec p6 ?_
        simp only [push_cast, c1]
        rw [wrap_i64 (by omega)]
        exact hX'

end Go.Gx.S09
