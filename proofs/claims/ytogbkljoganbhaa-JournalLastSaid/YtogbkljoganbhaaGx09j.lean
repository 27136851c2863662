/- JournalLast: numbers rise by one; a journal knows just its room's last ones: what the function asks is so. -/
import Derived.Test.YtogbkljoganbhaaGx09g
import Derived.Test.YtogbkljoganbhaaGx09d
import Derived.Test.YtogbkljoganbhaaGx09h
set_option linter.unusedVariables false
set_option linter.unusedSimpArgs false
set_option maxRecDepth 100000
namespace Go.Gx.S09
open Go Go.Gx Go.Proofs
variable {K : Value → World → Prop} {w : World}

theorem stepC_take {x : List Value × Bool} (h : x.1.length = 10) : ((stepC x).drop 0).take 10 = x.1 := by
  rw [stepC, List.drop_zero, List.take_append_of_le_length (by omega), List.take_of_length_le (by omega)]
theorem stepC_ten {x : List Value × Bool} (h : x.1.length = 10) : (stepC x)[10]? = some (.bool x.2) := by
  rw [stepC, List.getElem?_append_right (by omega), h]; rfl
theorem chg_take {i : Nat} {x : List Value} {g : Bool} (h : x.length = 10) : ((chg i x g).drop 1).take 10 = x := by
  rw [chg, List.drop_succ_cons, List.drop_zero, List.take_append_of_le_length (by omega), List.take_of_length_le (by omega)]
theorem chg_last {i : Nat} {x : List Value} {g : Bool} (h : x.length = 10) : (chg i x g)[11]? = some (.bool g) := by
  rw [chg, List.getElem?_cons_succ, List.getElem?_append_right (by omega), h]; rfl

theorem last_law {room back : Int} {v : Value} {st : List (List Value × Bool)} (hb : IntKind.i64.min ≤ back ∧ back ≤ IntKind.i64.max) (hroom : IntKind.i64.min ≤ room ∧ room ≤ IntKind.i64.max) (hv : RdE 11 w v (st.map stepC))
    (hok : ∀ h ∈ st, h.1.length = 10 ∧ h.1.all S.oneCell = true) (hlit : ∀ x ∈ st, ∃ l, Try.prog.keyLits 8 36 x.1 = some l)
    (h : ∀ w', Fr none_ w w' → K (.bool true) w') : CallsR Try.prog 4 #[i64 room, v, i64 back] K w := by
  apply c4
  unfold p4
  have hm1 : IntKind.i64.min = -9223372036854775808 := rfl
  have hm2 : IntKind.i64.max = 9223372036854775807 := rfl
  simp only [push_cast]
  refine awake_spec fun w1 hF1 => ?_
  simp only [push_cast]
  refine new_spec room (fun hbad => ?_) fun hr1 hr2 p rb w2 o c es hJ hF2 hp hrb => ?_
  · simp only [push_cast]
    refine jn0 (fun w' => Fr none_ w w') (fun w' hF => ?_) fun jj hjj => ?_
    · refine jn1 (fun v w' => v = .bool true ∧ Fr none_ w w') (fun v w' hvF => ?_) fun jj hjj => ?_
      · obtain ⟨rfl, hF⟩ := hvF
        exact h _ hF
      · have b0 : ((1 : Int) == 0) = false := rfl
        have b1 : ((1 : Int) == 1) = true := rfl
        simp only [push_cast, b0, b1]
        exact hjj _ _ ⟨rfl, hF⟩
    · have b1 : ((1 : Int) != 0) = true := rfl
      simp only [push_cast, b1]
      exact hjj _ hF1
  · simp only [push_cast]
    have hex : ∀ w', Fr none_ w w' → jnJ 1 (fun x7 => K x7) (fun j0 => brn (.bool true) (opS Try.prog (S.binI .eql (i64 0) (.int .i64 0)) fun x7 => brn x7 (j0 (.bool true)) (opS Try.prog (S.binI .eql (i64 0) (.int .i64 1)) fun x8 => j0 x8)) (j0 (.bool false))) w' := by
      intro w' hF
      refine jn1 (fun v w' => v = .bool true ∧ Fr none_ w w') (fun v w' hvF => ?_) fun jj hjj => ?_
      · obtain ⟨rfl, hF⟩ := hvF
        exact h _ hF
      · have b0 : ((0 : Int) == 0) = true := rfl
        simp only [push_cast, b0]
        exact hjj _ _ ⟨rfl, hF⟩
    refine jn0 (fun w' => Fr none_ w w') (fun w' hF => ?_) fun jj hjj => ?_
    · exact hex w' hF
    have b1 : ((0 : Int) != 0) = false := rfl
    obtain ⟨a, cc, rfl⟩ := hv.form
    rw [List.length_map] at hv ⊢
    simp only [push_cast, b1]
    have hF12 := hF1.trans hF2
    refine br_dec (fun _ => hjj _ hF12) fun hgt => ?_
    have hrb2 := hJ.ring.lt (b := rb) rfl
    have hp2 := lt_of_heap hJ.blk
    refine jn0 (fun w' => ∃ es, JRep w' p rb room.toNat st o c es ∧ Fr none_ w w') ?_ fun jj hjj => ?_
    · rintro w' ⟨es', hJ', hF'⟩
      refine last_spec hJ'.blk ?_
      refine since_spec hJ' (by omega) (by omega) (by omega) hok (fun hno => absurd ⟨by omega, by omega, by omega⟩ hno) fun _ _ _ w3 v3 hv3 hF3 => ?_
      have e0 : (chs st).drop (Int.toNat st.length) = [] := by rw [List.drop_eq_nil_iff, chs_length]; omega
      rw [e0] at hv3
      obtain ⟨a3, c3, rfl⟩ := hv3.form
      have b0 : ((([] : List (List Value)).length : Int) != 0) = false := rfl
      simp only [push_cast, b0]
      refine last_spec (hJ'.fr hF3 (fun h => h) (fun h => h)).blk ?_
      have b2 : ((st.length : Int) != (st.length : Int)) = false := by simp
      have hF3' := hF'.trans hF3
      simp only [push_cast, b2]
      refine br_dec (fun _ => h _ hF3') fun hn0 => ?_
      refine br_dec (fun _ => h _ hF3') fun hn1 => ?_
      rw [wrap_i64 (by omega)]
      obtain ⟨bk, rfl⟩ : ∃ n : Nat, back = n := ⟨back.toNat, by omega⟩
      refine since_spec (hJ'.fr hF3 (fun h => h) (fun h => h)) (by omega) (by omega) (by omega) hok (fun hno w4 hF4 => ?_) fun _ _ hk w4 v4 hv4 hF4 => ?_
      · have b3 : (!(false == decide ((bk : Int) ≤ room))) = false := by
          have : ¬ ((bk : Int) ≤ room) := by omega
          simp [this]
        simp only [push_cast, b3]
        refine jn0 (fun w' => Fr none_ w w') (fun w' hF => ?_) fun jj hjj => ?_
        · exact h _ hF
        · refine loop1 (fun m v w' => v = i64 0 ∧ Fr none_ w w') ?_ 0 ⟨rfl, hF3'.trans hF4⟩
          rintro m v' w' X ⟨rfl, hF⟩ hX
          simp only [push_cast]
          refine br_intro (fun hl => absurd hl (by simp)) fun _ => hjj _ hF
      · have b3 : (!(true == decide ((bk : Int) ≤ room))) = false := by
          have : ((bk : Int) ≤ room) := by omega
          simp [this]
        obtain ⟨a4, c4, rfl⟩ := hv4.form
        obtain ⟨s, hs⟩ : ∃ s : Nat, s = st.length - bk := ⟨_, rfl⟩
        have es : ((st.length : Int) - bk).toNat = s := by omega
        rw [es] at hv4 ⊢
        have hl4 : ((chs st).drop s).length = bk := by rw [List.length_drop, chs_length]; omega
        rw [hl4] at hv4 ⊢
        simp only [push_cast, b3]
        refine jn0 (fun w' => Fr none_ w w') (fun w' hF => ?_) fun jj hjj => ?_
        · have b5 : ((bk : Int) == bk) = true := by simp
          simp only [push_cast, b5]
          exact h _ hF
        · have hF4' := hF3'.trans hF4
          refine loop1 (fun m v w' => ∃ i : Nat, v = i64 i ∧ i + m = bk ∧ Fr none_ w4 w') ?_ bk ⟨0, rfl, by omega, Fr.refl _ _⟩
          rintro m v' w' X ⟨i, rfl, hm, hF⟩ hX
          have hFF : Fr none_ w w' := hF4'.trans hF
          simp only [push_cast]
          refine br_dec (fun hlt => ?_) fun _ => hjj _ hFF
          have hi : i < bk := by omega
          have hsi : s + i < st.length := by omega
          have w1 : IntKind.i64.wrap ((st.length : Int) - bk) = s := by rw [wrap_i64 (by omega)]; omega
          have w2 : IntKind.i64.wrap ((s : Int) + i) = (s : Int) + i := wrap_i64 (by omega)
          have w3 : IntKind.i64.wrap ((s : Int) + i + 1) = (s : Int) + i + 1 := wrap_i64 (by omega)
          have w4 : IntKind.i64.wrap ((i : Int) + 1) = (i : Int) + 1 := wrap_i64 (by omega)
          have t2 : ((s : Int) + i).toNat = s + i := by omega
          rw [w1, w2]
          have hv' : RdE 12 w'.drew _ _ := hv4.fr hF.step_drew (fun _ _ h => h)
          have hvl : RdE 11 w'.drew _ _ := hv.fr hFF.step_drew (fun _ _ h => h)
          have he : ((chs st).drop s)[i]'(by rw [hl4]; exact hi) = chg (s + i + 1) st[s + i].1 st[s + i].2 := by
            simp [chs]
          obtain ⟨hxl, hx1⟩ := hok _ (List.getElem_mem hsi)
          have hcl : (chg (s + i + 1) st[s + i].1 st[s + i].2).length = 12 := by simp [chg, hxl]
          have hsl : (stepC st[s + i]).length = 11 := by simp [stepC, hxl]
          obtain ⟨l, hl⟩ := hlit _ (List.getElem_mem hsi)
          refine s_iaE hv' (by omega) (by rw [hl4]; simpa using hi) fun b1 o1 c1 _ hE => ?_
          simp only [Int.toNat_natCast, he] at hE ⊢
          rw [fa48_0, s_ld1, hE.cell 0 (by omega)]
          have e5 : (chg (s + i + 1) st[s + i].1 st[s + i].2)[0]? = some (i64 ((s : Int) + i + 1)) := by simp [chg]
          rw [e5, onS_some]
          have b6 : (((s : Int) + i + 1) != ((s : Int) + i + 1)) = false := by simp
          simp only [push_cast, w3, b6]
          refine s_iaE hv' (by omega) (by rw [hl4]; simpa using hi) fun b2 o2 c2 _ hE2 => ?_
          simp only [Int.toNat_natCast, he] at hE2 ⊢
          rw [fa48_1, s_ldN (by decide), hE2.agg 1 10 (by omega), onS_some]
          have e1 : ((chg (s + i + 1) st[s + i].1 st[s + i].2).drop 1).take 10 = st[s + i].1 := chg_take hxl
          rw [e1]
          refine s_iaE hvl (by omega) (by rw [t2]; simpa using hsi) fun b3 o3 c3 _ hE3 => ?_
          simp only [t2, List.getElem_map] at hE3 ⊢
          rw [fa38_0, s_ldN (by decide), hE3.agg 0 10 (by omega), onS_some]
          have e2 : ((stepC st[s + i]).drop 0).take 10 = st[s + i].1 := stepC_take hxl
          rw [e2]
          refine s_neqG hl hl fun r hr => ?_
          rw [hr.2 rfl]
          simp only [push_cast]
          refine s_iaE hv' (by omega) (by rw [hl4]; simpa using hi) fun b4 o4 c4 _ hE4 => ?_
          simp only [Int.toNat_natCast, he] at hE4 ⊢
          rw [fa48_2, s_ld1, hE4.cell 11 (by omega)]
          have e3 : (chg (s + i + 1) st[s + i].1 st[s + i].2)[11]? = some (.bool st[s + i].2) := chg_last hxl
          rw [e3, onS_some]
          refine s_iaE hvl (by omega) (by rw [t2]; simpa using hsi) fun b5 o5 c5 _ hE5 => ?_
          simp only [t2, List.getElem_map] at hE5 ⊢
          rw [fa38_1, s_ld1, hE5.cell 10 (by omega)]
          have e4 : (stepC st[s + i])[10]? = some (.bool st[s + i].2) := stepC_ten hxl
          rw [e4, onS_some]
          have b7 : (!(st[s + i].2 == st[s + i].2)) = false := by simp
          simp only [push_cast, b7, w4]
          rw [show ((i : Int) + 1) = ((i + 1 : Nat) : Int) by omega]
          refine hX (m - 1) _ _ (by omega) ⟨i + 1, rfl, by omega, hF.step_drew⟩
    · refine loop1 (fun m v' w' => ∃ i es, v' = i64 (i : Nat) ∧ i + m = st.length ∧ JRep w' p rb room.toNat (st.take i) o c es ∧ Fr none_ w w') ?_ st.length
        ⟨0, es, rfl, by omega, hJ, hF12⟩
      rintro m v' w' X ⟨i, es', rfl, hm, hJ', hF'⟩ hX
      have hv' := hv.fr hF' (fun _ _ h => h)
      simp only [push_cast]
      refine br_dec (fun hlt => ?_) fun hge => hjj _ ⟨es', by rw [List.take_of_length_le (by omega)] at hJ'; exact hJ', hF'⟩
      have hi2 : i < st.length := by omega
      have hti : (st.take i).length = i := by rw [List.length_take]; omega
      have hvd : RdE 11 w'.drew _ _ := hv'
      refine s_iaE hvd (by omega) (by simpa using hi2) fun b1 o1 c1 _ hE => ?_
      simp only [Int.toNat_natCast, List.getElem_map] at hE ⊢
      obtain ⟨hxl, hx1⟩ := hok _ (List.getElem_mem hi2)
      have hsl : (stepC st[i]).length = 11 := by simp [stepC, hxl]
      rw [fa38_0, s_ldN (by decide), hE.agg 0 10 (by omega), onS_some]
      have e2 : ((stepC st[i]).drop 0).take 10 = st[i].1 := stepC_take hxl
      rw [e2]
      refine s_iaE hvd (by omega) (by simpa using hi2) fun b2 o2 c2 _ hE2 => ?_
      simp only [Int.toNat_natCast, List.getElem_map] at hE2 ⊢
      rw [fa38_1, s_ld1, hE2.cell 10 (by omega)]
      have e4 : (stepC st[i])[10]? = some (.bool st[i].2) := stepC_ten hxl
      rw [e4, onS_some]
      simp only [push_cast]
      refine put_spec (hJ'.fr (Fr.drew (fp := none_) w') (fun h => h) (fun h => h)) (by omega) (by omega) hxl hx1 (by omega) fun w4 es4 hJ4 hF4 => ?_
      simp only [push_cast, hti]
      rw [wrap_i64 (by omega)]
      have c1 : (((i : Int) + 1) != ((i : Int) + 1)) = false := by simp
      have z1 : ((0 : Int) != 0) = false := rfl
      rw [c1, br_false, z1, br_false]
      refine hX (m - 1) _ _ (by omega) ⟨i + 1, es4, by simp, by omega, ?_,  hF'.step_drew.trans_new hF4 (fun b hb h => by have := hF1.size; have := hF2.size; omega)⟩
      rw [List.take_add_one, List.getElem?_eq_getElem hi2]
      exact hJ4

end Go.Gx.S09
