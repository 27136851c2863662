/- Own texts, put together. -/
import Derived.Test.YtbaebhhengcdcaaGreatDoorC4
import Derived.Test.YtbaebhhengcdcaaGreatDoorC2
import Derived.Test.YtbaebhhengcdcaaGreatDoorC1
section
/- Whether two hear one another: the code's, and the document's. -/
set_option linter.unusedVariables false
set_option linter.unusedSimpArgs false
set_option maxRecDepth 100000
namespace Go.Gx.S
open Go Go.Gx Go.Proofs
variable {K : Value → World → Prop} {w : World}

/-! ### New -/

theorem build_rank (a b : Int) : opS Tryz.prog (S.build 110 [(0, i64 a), (1, i64 b)]) K w = K (.agg #[i64 a, i64 b]) w := by
  rw [opS_build _ rfl]; rfl
theorem build_ses (p i q j l : Int) : opS Tryz.prog (S.build 112 [(0, .agg #[i64 p, i64 i]), (1, .agg #[i64 q, i64 j]), (2, i64 l)]) K w = K (.agg [i64 p, i64 i, i64 q, i64 j, i64 l, i64 0, .bool false, i64 0, i64 0, i64 0, i64 0].toArray) w := by
  rw [opS_build _ rfl]; rfl
theorem build_rses (i p l : Int) : opS Tryz.prog (S.build 37 [(0, i64 i), (1, i64 p), (2, i64 l)]) K w = K (.agg (Ses.new i p l).r.toArray) w := by
  rw [opS_build _ rfl]; rfl

theorem snew_spec {id prio life : Int} (h0 : ¬ Ses.argOk id prio life → K (.tuple #[.pointer none, i64 1]) w)
    (h1 : Ses.argOk id prio life → K (.tuple #[pt w.heap.size 0, i64 0]) (w.alloc (cellsO (Ses.new id prio life).c 112))) :
    CallsR Tryz.prog 36 #[i64 id, i64 prio, i64 life] K w := by
  apply c36
  unfold p36
  unfold Ses.argOk at h0 h1
  simp only [push_cast, Nat.reduceAdd, Nat.reduceLeDiff, Nat.reduceLT, Int.reduceToNat, Nat.left_eq_add, Nat.add_eq_left, Nat.add_left_cancel_iff, Nat.reduceEqDiff, Nat.add_assoc, Nat.succ_ne_zero]
  refine br_dec (fun h => h0 (by omega)) fun g1 => ?_
  refine br_dec (fun h => h0 (by omega)) fun g2 => ?_
  refine br_dec (fun h => h0 (by omega)) fun g3 => ?_
  refine br_dec (fun h => h0 (by omega)) fun g4 => ?_
  refine br_dec (fun h => h0 (by omega)) fun g5 => ?_
  refine br_dec (fun h => h0 (by omega)) fun g6 => ?_
  have hw : IntKind.i64.wrap (1 - id) = 1 - id := wrap_i64 (by omega)
  rw [build_rank]
  simp only [push_cast, Nat.reduceAdd, Nat.reduceLeDiff, Nat.reduceLT, Int.reduceToNat, Nat.left_eq_add, Nat.add_eq_left, Nat.add_left_cancel_iff, Nat.reduceEqDiff, Nat.add_assoc, Nat.succ_ne_zero, hw]
  rw [build_rank, build_ses]
  simp only [push_cast, Nat.reduceAdd, Nat.reduceLeDiff, Nat.reduceLT, Int.reduceToNat, Nat.left_eq_add, Nat.add_eq_left, Nat.add_left_cancel_iff, Nat.reduceEqDiff, Nat.add_assoc, Nat.succ_ne_zero]
  exact h1 (by omega)

theorem rsnew_spec {id prio life : Int} (h0 : ¬ Ses.argOk id prio life → K (.tuple #[.pointer none, i64 1]) w)
    (h1 : Ses.argOk id prio life → K (.tuple #[pt w.heap.size 0, i64 0]) (w.alloc (cellsO (Ses.new id prio life).r 37))) :
    CallsR Tryz.prog 39 #[i64 id, i64 prio, i64 life] K w := by
  apply c39
  unfold p39
  unfold Ses.argOk at h0 h1
  simp only [push_cast, Nat.reduceAdd, Nat.reduceLeDiff, Nat.reduceLT, Int.reduceToNat, Nat.left_eq_add, Nat.add_eq_left, Nat.add_left_cancel_iff, Nat.reduceEqDiff, Nat.add_assoc, Nat.succ_ne_zero]
  refine br_dec (fun h => h0 (by omega)) fun g1 => ?_
  refine br_dec (fun h => h0 (by omega)) fun g2 => ?_
  refine br_dec (fun h => h0 (by omega)) fun g3 => ?_
  refine br_dec (fun h => h0 (by omega)) fun g4 => ?_
  refine br_dec (fun h => h0 (by omega)) fun g5 => ?_
  refine br_dec (fun h => h0 (by omega)) fun g6 => ?_
  rw [build_rses]
  simp only [push_cast, Nat.reduceAdd, Nat.reduceLeDiff, Nat.reduceLT, Int.reduceToNat, Nat.left_eq_add, Nat.add_eq_left, Nat.add_left_cancel_iff, Nat.reduceEqDiff, Nat.add_assoc, Nat.succ_ne_zero]
  exact h1 (by omega)

/-! ### What it tells -/

section
variable {sp : Nat} {s : Ses}

theorem smom_spec {now : Int} (hk : K (.bool (decide (momOk now))) w) : CallsR Tryz.prog 114 #[i64 now] K w := by
  apply c114
  unfold p114
  unfold momOk at hk
  simp only [push_cast, Nat.reduceAdd, Nat.reduceLeDiff, Nat.reduceLT, Int.reduceToNat, Nat.left_eq_add, Nat.add_eq_left, Nat.add_left_cancel_iff, Nat.reduceEqDiff, Nat.add_assoc, Nat.succ_ne_zero]
  refine br_dec (fun h => ?_) fun h => ?_
  · simp only [h, true_and] at hk ⊢
    simpa using hk
  · have : ¬ (0 ≤ now ∧ now ≤ 1099511627776) := by omega
    rw [decide_eq_false this] at hk
    exact hk

theorem sup_spec (h : w.heap[sp]? = some (cellsO s.c 112)) (hk : K (.bool s.up) w) : CallsR Tryz.prog 22 #[pt sp 0] K w := by
  apply c22
  unfold p22
  simp only [push_cast, Nat.reduceAdd, Nat.reduceLeDiff, Nat.reduceLT, Int.reduceToNat, Nat.left_eq_add, Nat.add_eq_left, Nat.add_left_cancel_iff, Nat.reduceEqDiff, Nat.add_assoc, Nat.succ_ne_zero, h]
  exact hk
theorem srole_spec (h : w.heap[sp]? = some (cellsO s.c 112)) (hk : K (i64 s.role) w) : CallsR Tryz.prog 33 #[pt sp 0] K w := by
  apply c33
  unfold p33
  simp only [push_cast, Nat.reduceAdd, Nat.reduceLeDiff, Nat.reduceLT, Int.reduceToNat, Nat.left_eq_add, Nat.add_eq_left, Nat.add_left_cancel_iff, Nat.reduceEqDiff, Nat.add_assoc, Nat.succ_ne_zero, h]
  exact hk
theorem slife_spec (h : w.heap[sp]? = some (cellsO s.c 112)) (hk : K (i64 s.life) w) : CallsR Tryz.prog 13 #[pt sp 0] K w := by
  apply c13
  unfold p13
  simp only [push_cast, Nat.reduceAdd, Nat.reduceLeDiff, Nat.reduceLT, Int.reduceToNat, Nat.left_eq_add, Nat.add_eq_left, Nat.add_left_cancel_iff, Nat.reduceEqDiff, Nat.add_assoc, Nat.succ_ne_zero, h]
  exact hk
/-! ### A new life -/

def _root_.Go.Gx.Ses.hdn (s : Ses) : Prop := True
theorem rebP (s : Ses) : ({ ({ ({ s with up := false } : Ses) with claim := s.role } : Ses) with life := if s.life + 1 ≤ 536870912 then s.life + 1 else 536870912 } : Ses) = s.reborn := rfl

theorem reborn_spec (h : w.heap[sp]? = some (cellsO s.c 112)) (hs : s.wf)
    (hk : ∀ w', w'.heap[sp]? = some (cellsO s.reborn.c 112) → Fr (fun b => b = sp) w w' → K (.tuple #[]) w') : CallsR Tryz.prog 178 #[pt sp 0] K w := by
  apply c178
  unfold p178
  have h1 := hs.life
  have hw : IntKind.i64.wrap (s.life + 1) = s.life + 1 := wrap_i64 (by omega)
  simp only [push_cast, Nat.reduceAdd, Nat.reduceLeDiff, Nat.reduceLT, Int.reduceToNat, Nat.left_eq_add, Nat.add_eq_left, Nat.add_left_cancel_iff, Nat.reduceEqDiff, Nat.add_assoc, Nat.succ_ne_zero, h, hw, opS_min]
  have hF : Fr (fun b => b = sp) w w := Fr.refl _ _
  refine hk _ ?_ (((hF.step_wr (.inl rfl) _ _).step_wr (.inl rfl) _ _).step_wr (.inl rfl) _ _)
  simp only [push_cast, Nat.reduceAdd, Nat.reduceLeDiff, Nat.reduceLT, Int.reduceToNat, Nat.left_eq_add, Nat.add_eq_left, Nat.add_left_cancel_iff, Nat.reduceEqDiff, Nat.add_assoc, Nat.succ_ne_zero, h]
  rw [← rebP]

theorem sttick_spec {now : Int} (h : w.heap[sp]? = some (cellsO s.c 112)) (hs : s.wf)
    (hk : ∀ w', w'.heap[sp]? = some (cellsO (s.tickP now).c 112) → Fr (fun b => b = sp) w w' → K (.tuple #[.bool (s.tickB now), i64 (momE now)]) w') : CallsR Tryz.prog 92 #[pt sp 0, i64 now] K w := by
  apply c92
  unfold p92
  simp only [push_cast, Nat.reduceAdd, Nat.reduceLeDiff, Nat.reduceLT, Int.reduceToNat, Nat.left_eq_add, Nat.add_eq_left, Nat.add_left_cancel_iff, Nat.reduceEqDiff, Nat.add_assoc, Nat.succ_ne_zero]
  refine smom_spec ?_
  unfold Ses.tickP Ses.tickB momE at hk
  by_cases hm : momOk now
  · have hm2 := hm
    unfold momOk at hm2
    have hl := hs.link
    have hb := hs.beat
    unfold momOk at hl hb
    rw [decide_eq_true hm, Bool.true_and] at hk
    simp only [if_pos hm] at hk
    rw [decide_eq_true hm]
    have w1 : IntKind.i64.wrap (now - s.link) = now - s.link := wrap_i64 (by omega)
    have w2 : IntKind.i64.wrap (now - s.beat) = now - s.beat := wrap_i64 (by omega)
    simp only [push_cast, Nat.reduceAdd, Nat.reduceLeDiff, Nat.reduceLT, Int.reduceToNat, Nat.left_eq_add, Nat.add_eq_left, Nat.add_left_cancel_iff, Nat.reduceEqDiff, Nat.add_assoc, Nat.succ_ne_zero, h, w1, w2]
    refine jn0 (fun w' => w' = w.drew ∧ ¬ (now - s.link ≥ 6 ∧ s.up = true)) ?_ fun j hj => ?_
    · rintro w' ⟨rfl, hn⟩
      have h' : w.drew.heap[sp]? = some (cellsO s.c 112) := h
      have hFd : Fr (fun b => b = sp) w w.drew := (by repeat' first | with_reducible exact Fr.refl _ _ | with_reducible refine Fr.step_alloc ?_ ?_ | with_reducible refine Fr.step_drew ?_ | with_reducible refine Fr.step_wr ?_ ?_ _ _ | exact rfl | exact Or.inr (by omega) | exact Or.inl rfl | exact Or.inl (Or.inl rfl) | exact Or.inl (Or.inr rfl))
      generalize w.drew = W at *
      simp only [brn_br]
      refine br_dec (fun e1 => ?_) fun e1 => ?_
      · have hu : s.up = false := by
          cases hq : s.up with
          | false => rfl
          | true => exact absurd ⟨e1, hq⟩ hn
        rw [if_pos e1, decide_eq_true e1, hu] at hk
        simp only [Bool.and_false] at hk
        refine br_dec (fun e2 => ?_) fun e2 => ?_
        · simp only [push_cast, Nat.reduceAdd, Nat.reduceLeDiff, Nat.reduceLT, Int.reduceToNat, Nat.left_eq_add, Nat.add_eq_left, Nat.add_left_cancel_iff, Nat.reduceEqDiff, Nat.add_assoc, Nat.succ_ne_zero, h']
          refine br_intro (fun e3 => ?_) fun e3 => ?_
          · have e3 : s.role ≠ 2 := by simpa using e3
            rw [if_neg (by decide : ¬ (false = true)), if_pos ⟨e2, e3⟩] at hk
            have hs2 : ({ s with role := 2 } : Ses).wf := ⟨hs.id, hs.prio, hs.life, hs.known, by show (0 : Int) ≤ 2 ∧ (2 : Int) ≤ 2; decide, hs.claim, hs.link, hs.beat⟩
            refine reborn_spec (s := { s with role := 2 }) (by simp only [push_cast, Nat.reduceAdd, Nat.reduceLeDiff, Nat.reduceLT, Int.reduceToNat, Nat.left_eq_add, Nat.add_eq_left, Nat.add_left_cancel_iff, Nat.reduceEqDiff, Nat.add_assoc, Nat.succ_ne_zero, h']) hs2 fun w2 h2 hF2 => ?_
            exact hk w2 h2 ((hFd.step_wr (.inl rfl) _ _).trans hF2)
          · have e3 : s.role = 2 := by simpa using e3
            rw [if_neg (by decide : ¬ (false = true)), if_neg (fun e => e.2 e3)] at hk
            exact hk W h' hFd
        · rw [if_neg (by decide : ¬ (false = true)), if_neg (fun e => e2 e.1)] at hk
          exact hk W h' hFd
      · rw [if_neg e1, decide_eq_false e1, Bool.false_and] at hk
        exact hk W h' hFd
    simp only [brn_br]
    refine br_dec (fun e1 => ?_) fun e1 => hj _ ⟨rfl, fun e => e1 e.1⟩
    simp only [push_cast, Nat.reduceAdd, Nat.reduceLeDiff, Nat.reduceLT, Int.reduceToNat, Nat.left_eq_add, Nat.add_eq_left, Nat.add_left_cancel_iff, Nat.reduceEqDiff, Nat.add_assoc, Nat.succ_ne_zero, h]
    refine br_intro (fun e2 => ?_) fun e2 => ?_
    · refine reborn_spec (w := w.drew) h hs fun w2 h2 hF2 => ?_
      rw [if_pos e1, if_pos e2, decide_eq_true e1, e2] at hk
      exact hk w2 h2 ((Fr.drew w).trans hF2)
    · exact hj _ ⟨rfl, fun e => by rw [e.2] at e2; cases e2⟩
  · simp only [if_neg hm] at hk
    rw [decide_eq_false hm, Bool.false_and] at hk
    rw [decide_eq_false hm]
    simp only [push_cast, Nat.reduceAdd, Nat.reduceLeDiff, Nat.reduceLT, Int.reduceToNat, Nat.left_eq_add, Nat.add_eq_left, Nat.add_left_cancel_iff, Nat.reduceEqDiff, Nat.add_assoc, Nat.succ_ne_zero]
    exact hk w h (Fr.refl _ _)

/-! ### What it says -/

theorem build_nt6 (a b : Int) : opS Tryz.prog (S.build 56 [(0, i64 6), (3, i64 a), (4, i64 b)]) K w = K (.agg ((⟨6, 0, zMac, a, b, []⟩ : Nt).cells (.slice none 0 0)).toArray) w := by
  rw [opS_build _ rfl]; rfl
theorem build_pk (a b : Int) (n : Nt) (v : Value) : opS Tryz.prog (S.build 63 [(0, i64 a), (2, i64 b), (3, .agg (n.cells v).toArray)]) K w = K (.agg ((⟨a, 0, b, n⟩ : Pk).cells v).toArray) w := by
  rw [opS_build _ rfl]; rfl
theorem zalloc_pk : opS Tryz.prog (S.alloc 63) K w = K (pt w.heap.size 0) (w.alloc (cellsO ((⟨0, 0, 0, Nt.z⟩ : Pk).cells (.slice none 0 0)) 63)) := by
  rw [opS_alloc]; rfl
theorem shello_spec (h : w.heap[sp]? = some (cellsO s.c 112)) (hk : ∀ w', Fr none_ w w' → K (.agg (s.hello.cells (.slice none 0 0)).toArray) w') : CallsR Tryz.prog 95 #[pt sp 0] K w := by
  apply c95
  unfold p95
  have hlt := lt_of_heap h
  have hne : sp ≠ w.heap.size := by omega
  rw [zalloc_pk]
  simp only [push_cast, Nat.reduceAdd, Nat.reduceLeDiff, Nat.reduceLT, Int.reduceToNat, Nat.left_eq_add, Nat.add_eq_left, Nat.add_left_cancel_iff, Nat.reduceEqDiff, Nat.add_assoc, Nat.succ_ne_zero, h, hne]
  rw [opS_iaA _ _ _ _ (by decide)]
  simp only [Int.toNat_zero, Nat.zero_mul, push_cast, Nat.reduceAdd, Nat.reduceLeDiff, Nat.reduceLT, Int.reduceToNat, Nat.left_eq_add, Nat.add_eq_left, Nat.add_left_cancel_iff, Nat.reduceEqDiff, Nat.add_assoc, Nat.succ_ne_zero, h, hne]
  rw [build_nt6, build_pk]
  simp only [push_cast, Nat.reduceAdd, Nat.reduceLeDiff, Nat.reduceLT, Int.reduceToNat, Nat.left_eq_add, Nat.add_eq_left, Nat.add_left_cancel_iff, Nat.reduceEqDiff, Nat.add_assoc, Nat.succ_ne_zero]
  exact hk _ (by repeat' first | with_reducible exact Fr.refl _ _ | with_reducible refine Fr.step_alloc ?_ ?_ | with_reducible refine Fr.step_drew ?_ | with_reducible refine Fr.step_wr ?_ ?_ _ _ | exact rfl | exact Or.inr (by omega) | exact Or.inl rfl | exact Or.inl (Or.inl rfl) | exact Or.inl (Or.inr rfl))
end

end Go.Gx.S
end

section
/- Links that both have a member of: the code's, and the document's. -/
set_option linter.unusedVariables false
set_option linter.unusedSimpArgs false
set_option maxRecDepth 100000
namespace Go.Gx.S
open Go Go.Gx Go.Proofs
variable {K : Value → World → Prop} {w : World}

/-- in memory -/
structure KM (T E : TypeId) (w : World) (kp kb : Nat) (k : Shk) : Prop where
  blk : w.heap[kp]? = some (cellsO [.slice (some ⟨kb, 0, none⟩) k.l.length k.l.length, .bool k.session, .bool k.alone] T)
  l : OwnE E 3 w (.slice (some ⟨kb, 0, none⟩) k.l.length k.l.length) (k.l.map Mlk.cells)
  ne : kp ≠ kb
abbrev KC (w : World) (kp kb : Nat) (k : Shk) : Prop := KM 168 179 w kp kb k
abbrev KR (w : World) (kp kb : Nat) (k : Shk) : Prop := KM 175 244 w kp kb k
def kfp (kp kb : Nat) : Nat → Prop := fun b => b = kp ∨ b = kb

section
variable {T E : TypeId} {kp kb : Nat} {k : Shk}
theorem KM.fr {fp : Nat → Prop} {w' : World} (h : KM T E w kp kb k) (hF : Fr fp w w') (hn : ∀ b, kfp kp kb b → ¬ fp b) : KM T E w' kp kb k :=
  ⟨hF.heap h.blk (hn _ (.inl rfl)), h.l.fr hF (fun b hb => by simp only [blkS, Option.some.injEq] at hb; exact hn _ (.inr hb.symm)), h.ne⟩
theorem KM.fr0 {w' : World} (h : KM T E w kp kb k) (hF : Fr none_ w w') : KM T E w' kp kb k := h.fr hF fun _ _ h => h
theorem KM.lt (h : KM T E w kp kb k) : ∀ b, kfp kp kb b → b < w.heap.size := by
  rintro b (rfl | rfl)
  · exact lt_of_heap h.blk
  · exact h.l.lt (b := b) rfl
/-- a link's cells are read -/
theorem KM.cell (h : KM T E w kp kb k) {i : Nat} (hi : i < k.l.length) (f : Nat) (hf : f < 3) : cellAt w.heap[kb]? (i * 3 + f) = k.l[i].cells[f]? := by
  have h2 := h.l.rd
  obtain ⟨h1, _⟩ := h2
  have hi' : i < (k.l.map Mlk.cells).length := by simpa using hi
  rcases h1 with ⟨_, h1, _⟩ | ⟨b, o, c, cs, Tc, fz, hv, hb, hc, ho, hl⟩
  · omega
  · simp only [Value.slice.injEq, Option.some.injEq, Addr.mk.injEq] at hv
    obtain ⟨⟨rfl, rfl, _⟩, _, rfl⟩ := hv
    have hs : ∀ e ∈ k.l.map Mlk.cells, e.length = 3 := h.l.2
    have hel : El w kb (0 + i * 3) ((k.l.map Mlk.cells)[i]) := by
      have hlen := hs _ (List.getElem_mem hi')
      refine ⟨cs, Tc, fz, hb, ?_, ?_⟩
      · rw [hlen]; simp only [List.length_map] at *; omega
      · have := flatten_elem hs hi' 0 3 (by omega)
        simp only [List.length_map] at *
        rw [List.drop_zero] at hl
        rw [hl, Nat.add_zero, List.drop_zero, List.drop_take, List.take_take, Nat.min_eq_left (by omega)] at this
        rw [hlen, Nat.zero_add, this, List.take_of_length_le (by rw [hlen]; exact Nat.le_refl _)]
    have := hel.cell f (by rw [hs _ (List.getElem_mem hi')]; exact hf)
    rw [Nat.zero_add] at this
    rw [this, List.getElem_map]
/-- a link is written -/
theorem KM.put (h : KM T E w kp kb k) {i : Nat} (hi : i < k.l.length) {f : Nat} {v : Value} (hf : f < 3) {x : Mlk} (hx : splice k.l[i].cells f [v] = x.cells) :
    okAt w.heap[kb]? (i * 3 + f) 1 = true ∧ KM T E (wr w kb (i * 3 + f) [v]) kp kb { k with l := k.l.set i x } := by
  have hi' : i < (k.l.map Mlk.cells).length := by simpa using hi
  have hl := h.l
  have hlen : k.l.length = (k.l.map Mlk.cells).length := by simp
  rw [hlen] at hl
  obtain ⟨g1, g2⟩ := hl.put1 (vs := [v]) (f := f) hi' (by show f + 1 ≤ 3; omega)
  rw [Nat.zero_add] at g1 g2
  refine ⟨g1, ?_, ?_, h.ne⟩
  · show _ = some (cellsO [.slice (some ⟨kb, 0, none⟩) (k.l.set i x).length (k.l.set i x).length, _, _] T)
    rw [List.length_set]
    exact (Fr.wr (fp := fun b => b = kb) w kb _ _ rfl).heap h.blk h.ne
  · show OwnE E 3 _ (.slice (some ⟨kb, 0, none⟩) (k.l.set i x).length (k.l.set i x).length) ((k.l.set i x).map Mlk.cells)
    rw [List.getElem_map, hx, ← List.map_set] at g2
    rw [List.length_map] at g2
    rw [List.length_set]
    exact g2
/-- its flags are written -/
theorem KM.flag (h : KM T E w kp kb k) {f : Nat} {v : Value} {k' : Shk} (hl : k'.l = k.l) (hx : splice [.slice (some ⟨kb, 0, none⟩) k.l.length k.l.length, .bool k.session, .bool k.alone] f [v] = [.slice (some ⟨kb, 0, none⟩) k.l.length k.l.length, .bool k'.session, .bool k'.alone]) :
    KM T E (wr w kp f [v]) kp kb k' := by
  have hF : Fr (fun b => b = kp) w (wr w kp f [v]) := Fr.wr w _ _ _ rfl
  refine ⟨?_, by rw [hl]; exact h.l.fr hF (fun b hb => by simp only [blkS, Option.some.injEq] at hb; have := h.ne; omega), h.ne⟩
  rw [heap_wr, if_pos rfl, h.blk, putAt_cells, hx, hl]
end

/-! ### New -/

theorem zeros3 (n : Nat) : zeros n [.bool false, i64 0, .bool false] = ((List.replicate n (⟨false, 0, false⟩ : Mlk)).map Mlk.cells).flatten := by
  unfold zeros
  rw [List.map_replicate]
  rfl
theorem own_newK {E b n : Nat} (h : w.heap[b]? = some (cellsO (zeros n [.bool false, i64 0, .bool false]) E)) : OwnE E 3 w (.slice (some ⟨b, 0, none⟩) n n) ((List.replicate n (⟨false, 0, false⟩ : Mlk)).map Mlk.cells) := by
  have hfl : ((List.replicate n (⟨false, 0, false⟩ : Mlk)).map Mlk.cells).flatten.length = n * 3 := by
    rw [List.map_replicate, List.length_flatten, List.map_replicate]
    simp [Mlk.cells]
  refine ⟨.inr ⟨b, 0, n, _, ?_, h, ?_, ?_, ?_⟩, fun e he => ?_⟩
  · rw [List.length_map, List.length_replicate]
  · rw [List.length_map, List.length_replicate]; exact Nat.le_refl _
  · rw [zeros3, List.size_toArray, hfl]; omega
  · rw [zeros3, List.length_map, List.length_replicate, List.drop_zero, List.take_of_length_le (by rw [List.toList_toArray, hfl]; omega)]
  · obtain ⟨x, _, rfl⟩ := List.mem_map.1 he
    rfl

theorem knew_spec {n : Int} (h1 : 1 ≤ n ∧ n ≤ 63) (hk : ∀ w', KC w' (w.heap.size + 1) w.heap.size (Shk.new n.toNat) → Fr none_ w w' → K (.tuple #[pt (w.heap.size + 1) 0, i64 0]) w') :
    CallsR Tryz.prog 38 #[i64 n] K w := by
  apply c38
  unfold p38
  simp only [push_cast, Nat.reduceAdd, Nat.reduceLeDiff, Nat.reduceLT, Int.reduceToNat, Nat.left_eq_add, Nat.add_eq_left, Nat.add_left_cancel_iff, Nat.reduceEqDiff, Nat.add_assoc, Nat.succ_ne_zero]
  refine br_no (by omega) ?_
  refine br_no (by omega) ?_
  rw [opS_mks _ _ _ (by omega) (by omega) (by omega) (by rfl) (by decide)]
  simp only [push_cast, Nat.reduceAdd, Nat.reduceLeDiff, Nat.reduceLT, Int.reduceToNat, Nat.left_eq_add, Nat.add_eq_left, Nat.add_left_cancel_iff, Nat.reduceEqDiff, Nat.add_assoc, Nat.succ_ne_zero]
  rw [opS_build _ rfl]
  simp only [push_cast, Nat.reduceAdd, Nat.reduceLeDiff, Nat.reduceLT, Int.reduceToNat, Nat.left_eq_add, Nat.add_eq_left, Nat.add_left_cancel_iff, Nat.reduceEqDiff, Nat.add_assoc, Nat.succ_ne_zero]
  refine hk _ ⟨?_, ?_, by omega⟩ (by repeat' first | with_reducible exact Fr.refl _ _ | with_reducible refine Fr.step_alloc ?_ ?_ | with_reducible refine Fr.step_drew ?_ | with_reducible refine Fr.step_wr ?_ ?_ _ _ | exact rfl | exact Or.inr (by omega) | exact Or.inl rfl | exact Or.inl (Or.inl rfl) | exact Or.inl (Or.inr rfl))
  · show _ = some (cellsO [.slice (some ⟨w.heap.size, 0, none⟩) (List.replicate n.toNat (⟨false, 0, false⟩ : Mlk)).length (List.replicate n.toNat (⟨false, 0, false⟩ : Mlk)).length, .bool false, .bool false] 168)
    rw [List.length_replicate]
    simp only [push_cast, Nat.reduceAdd, Nat.reduceLeDiff, Nat.reduceLT, Int.reduceToNat, Nat.left_eq_add, Nat.add_eq_left, Nat.add_left_cancel_iff, Nat.reduceEqDiff, Nat.add_assoc, Nat.succ_ne_zero]
    rfl
  · show OwnE _ 3 _ (.slice (some ⟨w.heap.size, 0, none⟩) (List.replicate n.toNat (⟨false, 0, false⟩ : Mlk)).length (List.replicate n.toNat (⟨false, 0, false⟩ : Mlk)).length) _
    rw [List.length_replicate]
    refine own_newK ?_
    simp only [push_cast, Nat.reduceAdd, Nat.reduceLeDiff, Nat.reduceLT, Int.reduceToNat, Nat.left_eq_add, Nat.add_eq_left, Nat.add_left_cancel_iff, Nat.reduceEqDiff, Nat.add_assoc, Nat.succ_ne_zero]
theorem rknew_spec {n : Int} (h1 : 1 ≤ n ∧ n ≤ 63) (hk : ∀ w', KR w' (w.heap.size + 1) w.heap.size (Shk.new n.toNat) → Fr none_ w w' → K (.tuple #[pt (w.heap.size + 1) 0, i64 0]) w') :
    CallsR Tryz.prog 41 #[i64 n] K w := by
  apply c41
  unfold p41
  simp only [push_cast, Nat.reduceAdd, Nat.reduceLeDiff, Nat.reduceLT, Int.reduceToNat, Nat.left_eq_add, Nat.add_eq_left, Nat.add_left_cancel_iff, Nat.reduceEqDiff, Nat.add_assoc, Nat.succ_ne_zero]
  refine br_no (by omega) ?_
  refine br_no (by omega) ?_
  rw [opS_mks _ _ _ (by omega) (by omega) (by omega) (by rfl) (by decide)]
  simp only [push_cast, Nat.reduceAdd, Nat.reduceLeDiff, Nat.reduceLT, Int.reduceToNat, Nat.left_eq_add, Nat.add_eq_left, Nat.add_left_cancel_iff, Nat.reduceEqDiff, Nat.add_assoc, Nat.succ_ne_zero]
  rw [opS_build _ rfl]
  simp only [push_cast, Nat.reduceAdd, Nat.reduceLeDiff, Nat.reduceLT, Int.reduceToNat, Nat.left_eq_add, Nat.add_eq_left, Nat.add_left_cancel_iff, Nat.reduceEqDiff, Nat.add_assoc, Nat.succ_ne_zero]
  refine hk _ ⟨?_, ?_, by omega⟩ (by repeat' first | with_reducible exact Fr.refl _ _ | with_reducible refine Fr.step_alloc ?_ ?_ | with_reducible refine Fr.step_drew ?_ | with_reducible refine Fr.step_wr ?_ ?_ _ _ | exact rfl | exact Or.inr (by omega) | exact Or.inl rfl | exact Or.inl (Or.inl rfl) | exact Or.inl (Or.inr rfl))
  · show _ = some (cellsO [.slice (some ⟨w.heap.size, 0, none⟩) (List.replicate n.toNat (⟨false, 0, false⟩ : Mlk)).length (List.replicate n.toNat (⟨false, 0, false⟩ : Mlk)).length, .bool false, .bool false] 175)
    rw [List.length_replicate]
    simp only [push_cast, Nat.reduceAdd, Nat.reduceLeDiff, Nat.reduceLT, Int.reduceToNat, Nat.left_eq_add, Nat.add_eq_left, Nat.add_left_cancel_iff, Nat.reduceEqDiff, Nat.add_assoc, Nat.succ_ne_zero]
    rfl
  · show OwnE _ 3 _ (.slice (some ⟨w.heap.size, 0, none⟩) (List.replicate n.toNat (⟨false, 0, false⟩ : Mlk)).length (List.replicate n.toNat (⟨false, 0, false⟩ : Mlk)).length) _
    rw [List.length_replicate]
    refine own_newK ?_
    simp only [push_cast, Nat.reduceAdd, Nat.reduceLeDiff, Nat.reduceLT, Int.reduceToNat, Nat.left_eq_add, Nat.add_eq_left, Nat.add_left_cancel_iff, Nat.reduceEqDiff, Nat.add_assoc, Nat.succ_ne_zero]

/-! ### A link's place -/

section
variable {kp kb : Nat} {k : Shk}

theorem at_spec {n : Int} (h : KC w kp kb k) (hl : k.l.length ≤ 63) (hk0 : ¬ (1 ≤ n ∧ n ≤ k.l.length) → K (.pointer none) w) (hk1 : ∀ i : Nat, n = (i : Int) + 1 → i < k.l.length → K (pt kb (i * 3)) w) :
    CallsR Tryz.prog 102 #[pt kp 0, i64 n] K w := by
  apply c102
  unfold p102
  simp only [push_cast, Nat.reduceAdd, Nat.reduceLeDiff, Nat.reduceLT, Int.reduceToNat, Nat.left_eq_add, Nat.add_eq_left, Nat.add_left_cancel_iff, Nat.reduceEqDiff, Nat.add_assoc, Nat.succ_ne_zero, h.blk]
  refine br_dec (fun e => hk0 (by omega)) fun e1 => ?_
  refine br_dec (fun e => hk0 (by omega)) fun e2 => ?_
  rw [wrap_i64 (by omega)]
  have hl2 := h.l.rd
  have hlen : (k.l.map Mlk.cells).length = k.l.length := by simp
  refine s_iaE hl2 (by omega) (by rw [hlen]; omega) fun b o c hv hE => ?_
  simp only [Value.slice.injEq, Option.some.injEq, Addr.mk.injEq] at hv
  obtain ⟨⟨rfl, rfl, _⟩, _, _⟩ := hv
  rw [Nat.zero_add]
  exact hk1 (n - 1).toNat (by omega) (by omega)

theorem rkhas_spec {n : Int} (h : KR w kp kb k) (hk : K (.bool (decide (1 ≤ n ∧ n ≤ k.l.length))) w) : CallsR Tryz.prog 181 #[pt kp 0, i64 n] K w := by
  apply c181
  unfold p181
  simp only [push_cast, Nat.reduceAdd, Nat.reduceLeDiff, Nat.reduceLT, Int.reduceToNat, Nat.left_eq_add, Nat.add_eq_left, Nat.add_left_cancel_iff, Nat.reduceEqDiff, Nat.add_assoc, Nat.succ_ne_zero, h.blk]
  refine br_dec (fun e => ?_) fun e => ?_
  · have e : 1 ≤ n := e
    have : decide (1 ≤ n ∧ n ≤ (k.l.length : Int)) = decide (n ≤ (k.l.length : Int)) := by simp [e]
    rw [this] at hk
    exact hk
  · rw [decide_eq_false (show ¬ (1 ≤ n ∧ n ≤ (k.l.length : Int)) by omega)] at hk
    exact hk

/-- a member is up, or not: no session -/
def _root_.Go.Gx.Shk.upP (k : Shk) (n : Int) (up : Bool) : Shk := if 1 ≤ n ∧ n ≤ k.l.length then { k with l := k.l.set (n - 1).toNat { k.l.getD (n - 1).toNat default with up := up } } else k
theorem _root_.Go.Gx.Shk.upP_at (k : Shk) {i : Nat} (hi : i < k.l.length) (up : Bool) : k.upP ((i : Int) + 1) up = { k with l := k.l.set i { k.l[i] with up := up } } := by
  unfold Shk.upP
  rw [if_pos (by omega)]
  have : ((i : Int) + 1 - 1).toNat = i := by omega
  rw [this]
  simp [List.getD_eq_getElem?_getD, List.getElem?_eq_getElem hi]

theorem local0_spec {n : Int} {up : Bool} (h : KC w kp kb k) (hl : k.l.length ≤ 63) (hs : k.session = false) (hn : 1 ≤ n ∧ n ≤ k.l.length)
    (hk : ∀ w', KC w' kp kb (k.upP n up) → Fr (kfp kp kb) w w' → K (.tuple #[.slice none 0 0, i64 0]) w') : CallsR Tryz.prog 74 #[pt kp 0, i64 n, .bool up] K w := by
  apply c74
  unfold p74
  simp only [push_cast, Nat.reduceAdd, Nat.reduceLeDiff, Nat.reduceLT, Int.reduceToNat, Nat.left_eq_add, Nat.add_eq_left, Nat.add_left_cancel_iff, Nat.reduceEqDiff, Nat.add_assoc, Nat.succ_ne_zero]
  refine at_spec h hl (fun e => absurd hn e) fun i hi hil => ?_
  subst hi
  rw [k.upP_at hil] at hk
  have c0 := h.cell hil 0 (by decide)
  rw [Nat.add_zero, Mlk.cells_g0] at c0
  obtain ⟨g1, g2⟩ := h.put hil (by decide : 0 < 3) (Mlk.cells_s0 k.l[i] up)
  rw [Nat.add_zero] at g1 g2
  have hF : Fr (kfp kp kb) w (wr w kb (i * 3) [.bool up]) := Fr.wr w _ _ _ (.inr rfl)
  have hblk := g2.blk
  have hne := h.ne
  simp only [push_cast, Nat.reduceAdd, Nat.reduceLeDiff, Nat.reduceLT, Int.reduceToNat, Nat.left_eq_add, Nat.add_eq_left, Nat.add_left_cancel_iff, Nat.reduceEqDiff, Nat.add_assoc, Nat.succ_ne_zero, c0, g1, hne, h.blk, hs]
  generalize wr w kb (i * 3) [.bool up] = W at *
  exact br_intro (fun e => hk W g2 hF) fun e => hk W g2 hF

theorem rlocal0_spec {n : Int} {up : Bool} (h : KR w kp kb k) (hl : k.l.length ≤ 63) (hs : k.session = false) (hn : 1 ≤ n ∧ n ≤ k.l.length)
    (hk : ∀ w', KR w' kp kb (k.upP n up) → Fr (kfp kp kb) w w' → K (.tuple #[.slice none 0 0, i64 0]) w') : CallsR Tryz.prog 108 #[pt kp 0, i64 n, .bool up] K w := by
  apply c108
  unfold p108
  simp only [push_cast, Nat.reduceAdd, Nat.reduceLeDiff, Nat.reduceLT, Int.reduceToNat, Nat.left_eq_add, Nat.add_eq_left, Nat.add_left_cancel_iff, Nat.reduceEqDiff, Nat.add_assoc, Nat.succ_ne_zero]
  refine rkhas_spec h ?_
  rw [decide_eq_true hn]
  obtain ⟨i, hi⟩ : ∃ i : Nat, n = (i : Int) + 1 := ⟨(n - 1).toNat, by omega⟩
  subst hi
  have hil : i < k.l.length := by omega
  rw [k.upP_at hil] at hk
  have c0 := h.cell hil 0 (by decide)
  rw [Nat.add_zero, Mlk.cells_g0] at c0
  obtain ⟨g1, g2⟩ := h.put hil (by decide : 0 < 3) (Mlk.cells_s0 k.l[i] up)
  rw [Nat.add_zero] at g1 g2
  have hF : Fr (kfp kp kb) w (wr w kb (i * 3) [.bool up]) := Fr.wr w _ _ _ (.inr rfl)
  have hblk := g2.blk
  have hw : IntKind.i64.wrap ((i : Int) + 1 - 1) = i := by rw [wrap_i64 (by omega)]; omega
  have hlen : (k.l.map Mlk.cells).length = k.l.length := by simp
  simp only [push_cast, Nat.reduceAdd, Nat.reduceLeDiff, Nat.reduceLT, Int.reduceToNat, Nat.left_eq_add, Nat.add_eq_left, Nat.add_left_cancel_iff, Nat.reduceEqDiff, Nat.add_assoc, Nat.succ_ne_zero, h.blk, hw]
  refine s_iaE h.l.rd (by omega) (by rw [hlen]; omega) fun b o c hv hE => ?_
  simp only [Value.slice.injEq, Option.some.injEq, Addr.mk.injEq] at hv
  obtain ⟨⟨rfl, rfl, _⟩, _, _⟩ := hv
  simp only [push_cast, Nat.reduceAdd, Nat.reduceLeDiff, Nat.reduceLT, Int.reduceToNat, Nat.left_eq_add, Nat.add_eq_left, Nat.add_left_cancel_iff, Nat.reduceEqDiff, Nat.add_assoc, Nat.succ_ne_zero, Nat.zero_add, Int.toNat_natCast, c0]
  refine br_intro (fun e => ?_) fun e => ?_
  · have e : k.l[i].up = up := by simpa using e
    have hsame : ({ k with l := k.l.set i { k.l[i] with up := up } } : Shk) = k := by
      rw [← e]
      have : k.l.set i { k.l[i] with up := k.l[i].up } = k.l := by
        show k.l.set i k.l[i] = k.l
        exact List.set_getElem_self hil
      rw [this]
    rw [hsame] at hk
    exact hk w h (Fr.refl _ _)
  · simp only [push_cast, Nat.reduceAdd, Nat.reduceLeDiff, Nat.reduceLT, Int.reduceToNat, Nat.left_eq_add, Nat.add_eq_left, Nat.add_left_cancel_iff, Nat.reduceEqDiff, Nat.add_assoc, Nat.succ_ne_zero, h.blk, hw]
    refine s_iaE h.l.rd (by omega) (by rw [hlen]; omega) fun b o c hv hE => ?_
    simp only [Value.slice.injEq, Option.some.injEq, Addr.mk.injEq] at hv
    obtain ⟨⟨rfl, rfl, _⟩, _, _⟩ := hv
    have hne := h.ne
    simp only [push_cast, Nat.reduceAdd, Nat.reduceLeDiff, Nat.reduceLT, Int.reduceToNat, Nat.left_eq_add, Nat.add_eq_left, Nat.add_left_cancel_iff, Nat.reduceEqDiff, Nat.add_assoc, Nat.succ_ne_zero, Nat.zero_add, Int.toNat_natCast, g1, hne, h.blk, hs]
    generalize wr w kb (i * 3) [.bool up] = W at *
    exact hk W g2 hF

/-! ### Serves, Stop -/

theorem kserves_spec {n : Int} (h : KC w kp kb k) (hl : k.l.length ≤ 63) (hk : K (.bool (k.servesP n)) w) : CallsR Tryz.prog 44 #[pt kp 0, i64 n] K w := by
  apply c44
  unfold p44
  unfold Shk.servesP at hk
  simp only [push_cast, Nat.reduceAdd, Nat.reduceLeDiff, Nat.reduceLT, Int.reduceToNat, Nat.left_eq_add, Nat.add_eq_left, Nat.add_left_cancel_iff, Nat.reduceEqDiff, Nat.add_assoc, Nat.succ_ne_zero]
  refine at_spec h hl (fun e => ?_) fun i hi hil => ?_
  · rw [if_neg e] at hk
    simp only [push_cast, Nat.reduceAdd, Nat.reduceLeDiff, Nat.reduceLT, Int.reduceToNat, Nat.left_eq_add, Nat.add_eq_left, Nat.add_left_cancel_iff, Nat.reduceEqDiff, Nat.add_assoc, Nat.succ_ne_zero]
    exact hk
  · subst hi
    rw [if_pos (by omega)] at hk
    have hg : k.l.getD ((i : Int) + 1 - 1).toNat default = k.l[i] := by
      have : ((i : Int) + 1 - 1).toNat = i := by omega
      rw [this]
      simp [List.getD_eq_getElem?_getD, List.getElem?_eq_getElem hil]
    rw [hg] at hk
    have c0 := h.cell hil 0 (by decide)
    rw [Nat.add_zero, Mlk.cells_g0] at c0
    have c1 := h.cell hil 1 (by decide)
    rw [Mlk.cells_g1] at c1
    simp only [push_cast, Nat.reduceAdd, Nat.reduceLeDiff, Nat.reduceLT, Int.reduceToNat, Nat.left_eq_add, Nat.add_eq_left, Nat.add_left_cancel_iff, Nat.reduceEqDiff, Nat.add_assoc, Nat.succ_ne_zero, c0, c1, h.blk]
    simp only [] at hk
    refine br_intro (fun e => ?_) fun e => ?_
    · have e : k.l[i].up = false := by simpa using e
      rw [e, Bool.false_and] at hk
      exact hk
    · have e : k.l[i].up = true := by simpa using e
      rw [e, Bool.true_and] at hk
      refine br_intro (fun e2 => ?_) fun e2 => ?_
      · rw [e2, if_pos rfl] at hk
        exact hk
      · rw [e2, if_neg (by decide)] at hk
        exact hk

/-- the first so many links are as new, but for what is up -/
def restI (l : List Mlk) (i : Nat) : List Mlk := l.mapIdx fun j x => if j < i then x.rest else x
theorem restI_len (l : List Mlk) (i : Nat) : (restI l i).length = l.length := by unfold restI; simp
theorem restI_0 (l : List Mlk) : restI l 0 = l := by
  unfold restI
  apply List.ext_getElem?
  intro j
  rw [List.getElem?_mapIdx]
  cases l[j]? <;> simp
theorem restI_all {l : List Mlk} {n : Nat} (h : l.length ≤ n) : restI l n = l.map Mlk.rest := by
  unfold restI
  apply List.ext_getElem?
  intro j
  rw [List.getElem?_mapIdx, List.getElem?_map]
  by_cases hj : j < l.length
  · rw [List.getElem?_eq_getElem hj]
    simp [show j < n by omega]
  · rw [List.getElem?_eq_none (by omega)]; rfl
theorem restI_get {l : List Mlk} {i : Nat} (h : i < l.length) : (restI l i)[i]'(by rw [restI_len]; exact h) = l[i] := by
  unfold restI
  rw [List.getElem_mapIdx, if_neg (Nat.lt_irrefl _)]
theorem restI_set {l : List Mlk} {i : Nat} (h : i < l.length) : (restI l i).set i l[i].rest = restI l (i + 1) := by
  apply List.ext_getElem?
  intro j
  rw [List.getElem?_set, restI_len]
  unfold restI
  rw [List.getElem?_mapIdx, List.getElem?_mapIdx]
  by_cases e : i = j
  · subst e
    rw [if_pos rfl, if_pos h, List.getElem?_eq_getElem h, Option.map_some, if_pos (by omega)]
  · rw [if_neg e]
    cases l[j]? with
    | none => rfl
    | some x =>
      have : (j < i + 1) ↔ j < i := by omega
      simp [this]

theorem build_lk (b : Bool) : opS Tryz.prog (S.build 179 [(0, .bool b)]) K w = K (.agg (⟨b, 0, false⟩ : Mlk).cells.toArray) w := by
  rw [opS_build _ rfl]; rfl

theorem kstop_spec {serve : Bool} (h : KC w kp kb k) (hl : k.l.length ≤ 63) (hk : ∀ w', KC w' kp kb (k.stopP serve) → Fr (kfp kp kb) w w' → K (.tuple #[]) w') :
    CallsR Tryz.prog 179 #[pt kp 0, .bool serve] K w := by
  apply c179
  unfold p179
  have hF1 : Fr (kfp kp kb) w (wr w kp 1 [.bool false]) := Fr.wr w _ _ _ (.inl rfl)
  have h1 := h.flag (f := 1) (v := .bool false) (k' := { k with session := false }) rfl rfl
  have hF2 := hF1.step_wr (b := kp) (.inl (.inl rfl)) 2 [.bool serve]
  have h2 := h1.flag (f := 2) (v := .bool serve) (k' := { k with session := false, alone := serve }) rfl rfl
  have hb1 := h1.blk
  have hb2 := h2.blk
  simp only [push_cast, Nat.reduceAdd, Nat.reduceLeDiff, Nat.reduceLT, Int.reduceToNat, Nat.left_eq_add, Nat.add_eq_left, Nat.add_left_cancel_iff, Nat.reduceEqDiff, Nat.add_assoc, Nat.succ_ne_zero, h.blk]
  generalize wr (wr w kp 1 [.bool false]) kp 2 [.bool serve] = W at *
  refine jn0 (fun w' => KC w' kp kb (k.stopP serve) ∧ Fr (kfp kp kb) w w') (fun w' ⟨a, b⟩ => hk w' a b) fun j hj => ?_
  refine loop1 (fun n v w' => ∃ i : Nat, v = i64 i ∧ i + n = k.l.length ∧ KC w' kp kb ⟨restI k.l i, false, serve⟩ ∧ Fr (kfp kp kb) w w') ?_ k.l.length ⟨0, rfl, by omega, by rw [restI_0]; exact h2, hF2⟩
  rintro n v w' X ⟨i, rfl, hi, hA, hF⟩ hX
  have hbA := hA.blk
  simp only [push_cast, Nat.reduceAdd, Nat.reduceLeDiff, Nat.reduceLT, Int.reduceToNat, Nat.left_eq_add, Nat.add_eq_left, Nat.add_left_cancel_iff, Nat.reduceEqDiff, Nat.add_assoc, Nat.succ_ne_zero, hbA]
  refine br_dec (fun hlt => ?_) fun hge => ?_
  · have hil : i < k.l.length := by omega
    have hilA : i < (⟨restI k.l i, false, serve⟩ : Shk).l.length := by show i < (restI k.l i).length; rw [restI_len]; exact hil
    replace hA := hA.fr0 (Fr.drew w')
    replace hF := hF.trans ((Fr.drew w').mono fun _ _ e => (e : False).elim : Fr (kfp kp kb) w' w'.drew)
    generalize w'.drew = W2 at *
    have c0 := hA.cell hilA 0 (by decide)
    rw [Nat.add_zero, Mlk.cells_g0] at c0
    have hgi : (⟨restI k.l i, false, serve⟩ : Shk).l[i] = k.l[i] := restI_get hil
    rw [hgi] at c0
    have hlen : ((⟨restI k.l i, false, serve⟩ : Shk).l.map Mlk.cells).length = k.l.length := by rw [List.length_map]; exact restI_len ..
    have hl0 : (⟨restI k.l i, false, serve⟩ : Shk).l.length = k.l.length := restI_len ..
    have hA3 := hA.l
    have hil2 : i < ((⟨restI k.l i, false, serve⟩ : Shk).l.map Mlk.cells).length := by rw [hlen]; exact hil
    have hlen2 : (⟨restI k.l i, false, serve⟩ : Shk).l.length = ((⟨restI k.l i, false, serve⟩ : Shk).l.map Mlk.cells).length := by rw [List.length_map]
    rw [hlen2] at hA3
    obtain ⟨g1, g2⟩ := hA3.put (e := (k.l[i].rest).cells) rfl hil2
    rw [Nat.zero_add] at g1 g2
    rw [← List.map_set] at g2
    have hset : (⟨restI k.l i, false, serve⟩ : Shk).l.set i k.l[i].rest = restI k.l (i + 1) := restI_set hil
    rw [hset, ← hlen2, hl0] at g2
    have hN : KC (wr W2 kb (i * 3) (k.l[i].rest).cells) kp kb ⟨restI k.l (i + 1), false, serve⟩ := by
      refine ⟨?_, ?_, hA.ne⟩
      · have := (Fr.wr (fp := fun b => b = kb) W2 kb (i * 3) (k.l[i].rest).cells rfl).heap hA.blk hA.ne
        rw [hl0] at this
        show _ = some (cellsO [.slice (some ⟨kb, 0, none⟩) (restI k.l (i + 1)).length (restI k.l (i + 1)).length, _, _] _)
        rw [restI_len]
        exact this
      · show OwnE _ 3 _ (.slice (some ⟨kb, 0, none⟩) (restI k.l (i + 1)).length (restI k.l (i + 1)).length) _
        rw [restI_len]
        exact g2
    have hFN : Fr (kfp kp kb) w (wr W2 kb (i * 3) (k.l[i].rest).cells) := hF.step_wr (.inl (.inr rfl)) _ _
    refine s_iaE hA.l.rd (by omega) (by rw [hlen]; omega) fun b o c hv hE => ?_
    simp only [Value.slice.injEq, Option.some.injEq, Addr.mk.injEq] at hv
    obtain ⟨⟨rfl, rfl, _⟩, _, _⟩ := hv
    simp only [push_cast, Nat.reduceAdd, Nat.reduceLeDiff, Nat.reduceLT, Int.reduceToNat, Nat.left_eq_add, Nat.add_eq_left, Nat.add_left_cancel_iff, Nat.reduceEqDiff, Nat.add_assoc, Nat.succ_ne_zero, Nat.zero_add, Int.toNat_natCast, c0]
    rw [build_lk]
    refine s_iaE hA.l.rd (by omega) (by rw [hlen]; omega) fun b o c hv hE => ?_
    simp only [Value.slice.injEq, Option.some.injEq, Addr.mk.injEq] at hv
    obtain ⟨⟨rfl, rfl, _⟩, _, _⟩ := hv
    have hwk : IntKind.i64.wrap ((i : Int) + 1) = ((i + 1 : Nat) : Int) := by rw [wrap_i64 (by omega)]; rfl
    have hrc : (⟨k.l[i].up, 0, false⟩ : Mlk).cells = (k.l[i].rest).cells := rfl
    rw [hrc]
    simp only [push_cast, Nat.reduceAdd, Nat.reduceLeDiff, Nat.reduceLT, Int.reduceToNat, Nat.left_eq_add, Nat.add_eq_left, Nat.add_left_cancel_iff, Nat.reduceEqDiff, Nat.add_assoc, Nat.succ_ne_zero, Nat.zero_add, Int.toNat_natCast, g1, hwk]
    exact hX (n - 1) _ _ (by omega) ⟨i + 1, rfl, by omega, hN, hFN⟩
  · refine hj _ ⟨?_, hF⟩
    have : restI k.l i = k.l.map Mlk.rest := restI_all (by omega)
    rw [this] at hA
    exact hA
end

end Go.Gx.S
end

section
/- Maps whose keys are whole numbers; how long a map is; maps that are cleared. -/
namespace Go.Gx
open Go
variable {P : Program} {K : Value → World → Prop} {w : World}

def kI (n : Int) : Value := .int .i64 n
theorem keyC_int {T : TypeId} (h : P.underlying T = some (.int .i64)) : KeyC P T Int kI isI where
  law := Maps.int_keyed h
  of := fun k hk => ⟨_, Maps.keyOf_int_mk h (by
    unfold Lit.wf
    simp only [Bool.and_eq_true, decide_eq_true_eq]
    exact hk)⟩
  inj := fun a b h => by unfold kI at h; cases h; rfl

section
variable {κ ν : Type} {kc : κ → Value} {vc : ν → Value} {kok : κ → Prop}

end
end Go.Gx
end

section
/- A chassis of the code's, in memory: what it tells of itself, its links. -/
set_option linter.unusedVariables false
set_option linter.unusedSimpArgs false
set_option maxRecDepth 100000
namespace Go.Gx.S
open Go Go.Gx Go.Proofs
variable {K : Value → World → Prop} {w : World}

instance : KeyC Tryz.prog 3 Int kI isI := keyC_int uInt

/-! ### Plain -/

/-- a stream -/
structure Stm where
  epoch : Int
  window : Int
  l : List Nt
  first : Int
  out : Int
  last : Int
  taken : Int
  due : Bool

/-- a chassis -/
structure Chs where
  owner : List Int
  up : List (Int × Bool)
  fs : FS
  s : Ses
  k : Shk
  t : Option Stm
  tune : Bool
  n0 : Int
  n1 : Int
  n2 : Int

def Chs.has (x : Chs) (port : Int) : Bool := decide (1 ≤ port ∧ port ≤ x.owner.length)
def Chs.own (x : Chs) (port : Int) : Int := x.owner.getD (port - 1).toNat 0
def Chs.mine (x : Chs) (port : Int) : Bool := x.has port && (decide (x.own port = x.s.id) || decide (x.own port = 2))
def Chs.upB (x : Chs) (port : Int) : Bool := (getL x.up port).getD false
def Chs.serves (x : Chs) (port : Int) : Bool := x.mine port && (if x.own port = 2 then x.tune && x.k.servesP port else x.upB port)
/-- a link goes up, or down, where there is no session -/
def Chs.link0 (x : Chs) (port : Int) (up : Bool) : Chs × Int :=
  if x.has port then (if x.mine port then (if x.own port = 2 then ({ x with up := setL x.up port up, k := x.k.upP port up }, 0) else ({ x with up := setL x.up port up }, 0)) else (x, 4)) else (x, 1)
def Chs.alone (x : Chs) : Chs := { x with k := x.k.stopP (decide (x.s.role = 2)), tune := x.tune || decide (x.s.role = 2) }

structure Chs.wf (room : Nat) (x : Chs) : Prop where
  s : x.s.wf
  ow : 1 ≤ x.owner.length ∧ x.owner.length ≤ 63
  kl : x.k.l.length = x.owner.length
  sl : x.fs.S.length = x.owner.length + 1
  good : Good room x.fs
  oi : ∀ q ∈ x.owner, isI q

theorem upP_len (k : Shk) (n : Int) (up : Bool) : (k.upP n up).l.length = k.l.length := by
  unfold Shk.upP
  split
  · exact List.length_set ..
  · rfl
theorem Chs.wf.link {room : Nat} {x : Chs} (h : x.wf room) (port : Int) (up : Bool) : (x.link0 port up).1.wf room := by
  unfold Chs.link0
  split
  · split
    · split
      · exact ⟨h.s, h.ow, by show (x.k.upP port up).l.length = _; rw [upP_len]; exact h.kl, h.sl, h.good, h.oi⟩
      · exact ⟨h.s, h.ow, h.kl, h.sl, h.good, h.oi⟩
    · exact h
  · exact h
theorem Chs.wf.alone {room : Nat} {x : Chs} (h : x.wf room) : x.alone.wf room :=
  ⟨h.s, h.ow, by show (x.k.l.map _).length = _; rw [List.length_map]; exact h.kl, h.sl, h.good, h.oi⟩

/-! ### In memory -/

structure CA where
  cp : Nat
  kp : Nat
  kb : Nat
  um : Nat
  sp : Nat
  ov : Value
  sv : Value
  bp : Nat
  vp : Nat
  vm : Nat
  vnb : Nat
  p : Nat
  pb : Nat
  o : Nat
  c : Nat
  sb : Nat
  so : Nat
  sc : Nat
  ps : List Ent
  F : Nat → Prop

/-- its parts' blocks -/
def CA.G (a : CA) : Nat → Nat → Prop
  | 0 => fun b => b = a.cp
  | 1 => kfp a.kp a.kb
  | 2 => fun b => blkS a.ov = some b
  | 3 => fun b => b = a.um
  | 4 => fun b => b = a.sp
  | 5 => pB a.bp a.vp a.vm a.vnb a.p a.pb a.sb
  | 6 => a.F
  | _ => fun _ => False
def CA.all (a : CA) (b : Nat) : Prop := ∃ i, a.G i b

def StmC (w : World) (sv : Value) (F : Nat → Prop) : Option Stm → Prop
  | none => sv = .pointer none
  | some _ => False

def chC (a : CA) (x : Chs) : List Value := [pt a.kp 0, i64 x.s.id, a.ov, .map (some a.um), pt a.bp 0, pt a.sp 0, a.sv, .bool x.tune, i64 x.n0, i64 x.n1, i64 x.n2]
section
variable (a : CA) (x : Chs)
theorem chC_len : (chC a x).length = 11 := id rfl
theorem chC_0 : (chC a x)[0]? = some (pt a.kp 0) := id rfl
theorem chC_1 : (chC a x)[1]? = some (i64 x.s.id) := id rfl
theorem chC_2 : (chC a x)[2]? = some a.ov := id rfl
theorem chC_3 : (chC a x)[3]? = some (.map (some a.um)) := id rfl
theorem chC_4 : (chC a x)[4]? = some (pt a.bp 0) := id rfl
theorem chC_5 : (chC a x)[5]? = some (pt a.sp 0) := id rfl
theorem chC_6 : (chC a x)[6]? = some a.sv := id rfl
theorem chC_7 : (chC a x)[7]? = some (.bool x.tune) := id rfl
theorem chC_8 : (chC a x)[8]? = some (i64 x.n0) := id rfl
theorem chC_9 : (chC a x)[9]? = some (i64 x.n1) := id rfl
theorem chC_10 : (chC a x)[10]? = some (i64 x.n2) := id rfl
theorem chC_s7 (b : Bool) : splice (chC a x) 7 [.bool b] = chC a { x with tune := b } := id rfl
theorem chC_s8 (n : Int) : splice (chC a x) 8 [i64 n] = chC a { x with n0 := n } := id rfl
theorem chC_s9 (n : Int) : splice (chC a x) 9 [i64 n] = chC a { x with n1 := n } := id rfl
theorem chC_s10 (n : Int) : splice (chC a x) 10 [i64 n] = chC a { x with n2 := n } := id rfl
end
attribute [push_cast] chC_len chC_0 chC_1 chC_2 chC_3 chC_4 chC_5 chC_6 chC_7 chC_8 chC_9 chC_10

structure CM (N0 : Nat) (w : World) (room : Nat) (a : CA) (x : Chs) : Prop where
  blk : w.heap[a.cp]? = some (cellsO (chC a x) 102)
  k : KC w a.kp a.kb x.k
  ov : RdE 1 w a.ov (((-1) :: x.owner).map cellI)
  ovl : ∀ b, blkS a.ov = some b → b < w.heap.size
  um : MapR kI Value.bool isI w a.um x.up
  s : w.heap[a.sp]? = some (cellsO x.s.c 112)
  br : BR N0 w a.bp a.vp a.vm a.vnb a.p a.pb a.o a.c a.sb a.so a.sc room a.ps x.fs
  t : StmC w a.sv a.F x.t
  tl : ∀ b, a.F b → b < w.heap.size
  dj : ∀ i j b, a.G i b → a.G j b → i = j
  ge : ∀ b, a.all b → N0 ≤ b

theorem StmC.fr {fp F : Nat → Prop} {w' : World} {sv : Value} {t : Option Stm} (h : StmC w sv F t) (hF : Fr fp w w') (hn : ∀ b, F b → ¬ fp b) : StmC w' sv F t := by
  cases t with
  | none => exact h
  | some t => exact h.elim

section
variable {N0 room : Nat} {a : CA} {x : Chs}
theorem CM.lt (h : CM N0 w room a x) : ∀ b, a.all b → b < w.heap.size := by
  rintro b ⟨i, hi⟩
  match i, hi with
  | 0, hi => have : b = a.cp := hi; subst this; exact lt_of_heap h.blk
  | 1, hi => exact h.k.lt b hi
  | 2, hi => exact h.ovl b hi
  | 3, hi => have : b = a.um := hi; subst this; exact h.um.lt
  | 4, hi => have : b = a.sp := hi; subst this; exact lt_of_heap h.s
  | 5, hi => have := h.br.lt; have hi : pB a.bp a.vp a.vm a.vnb a.p a.pb a.sb b := hi; unfold pB at hi; omega
  | 6, hi => exact h.tl b hi
theorem CM.fr {fp : Nat → Prop} {w' : World} (h : CM N0 w room a x) (hF : Fr fp w w') (hn : ∀ b, a.all b → ¬ fp b) : CM N0 w' room a x :=
  ⟨hF.heap h.blk (hn _ ⟨0, rfl⟩), h.k.fr hF fun b hb => hn b ⟨1, hb⟩, h.ov.fr hF fun b hb => hn b ⟨2, hb⟩, fun b hb => Nat.lt_of_lt_of_le (h.ovl b hb) hF.size, h.um.fr hF (hn _ ⟨3, rfl⟩), hF.heap h.s (hn _ ⟨4, rfl⟩),
    h.br.fr hF fun b hb => hn b ⟨5, hb⟩, h.t.fr hF fun b hb => hn b ⟨6, hb⟩, fun b hb => Nat.lt_of_lt_of_le (h.tl b hb) hF.size, h.dj, h.ge⟩
theorem CM.fr0 {w' : World} (h : CM N0 w room a x) (hF : Fr none_ w w') : CM N0 w' room a x := h.fr hF fun _ _ h => h
/-- one part is written: the others are as they were -/
theorem CM.part {w' : World} (h : CM N0 w room a x) {i : Nat} (hF : Fr (a.G i) w w') {x' : Chs} (ho : x'.owner = x.owner)
    (h0 : i = 0 ∧ w'.heap[a.cp]? = some (cellsO (chC a x') 102) ∨ i ≠ 0 ∧ chC a x' = chC a x)
    (h1 : i = 1 ∧ KC w' a.kp a.kb x'.k ∨ i ≠ 1 ∧ x'.k = x.k) (h2 : i ≠ 2)
    (h3 : i = 3 ∧ MapR kI Value.bool isI w' a.um x'.up ∨ i ≠ 3 ∧ x'.up = x.up)
    (h4 : i = 4 ∧ w'.heap[a.sp]? = some (cellsO x'.s.c 112) ∨ i ≠ 4 ∧ x'.s = x.s)
    (h5 : i = 5 ∧ BR N0 w' a.bp a.vp a.vm a.vnb a.p a.pb a.o a.c a.sb a.so a.sc room a.ps x'.fs ∨ i ≠ 5 ∧ x'.fs = x.fs)
    (h6 : i ≠ 6 ∧ x'.t = x.t) : CM N0 w' room a x' := by
  have key : ∀ {j b}, j ≠ i → a.G j b → ¬ a.G i b := fun hne hj hi => hne (h.dj _ _ _ hj hi)
  refine ⟨?_, ?_, ?_, fun b hb => Nat.lt_of_lt_of_le (h.ovl b hb) hF.size, ?_, ?_, ?_, ?_, fun b hb => Nat.lt_of_lt_of_le (h.tl b hb) hF.size, h.dj, h.ge⟩
  · rcases h0 with ⟨_, h0⟩ | ⟨hi, h0⟩
    · exact h0
    · rw [h0]; exact hF.heap h.blk (key (j := 0) (fun e => hi e.symm) rfl)
  · rcases h1 with ⟨_, h1⟩ | ⟨hi, h1⟩
    · exact h1
    · rw [h1]; exact h.k.fr hF fun b hb => key (j := 1) (fun e => hi e.symm) hb
  · rw [ho]; exact h.ov.fr hF fun b hb => key (j := 2) (fun e => h2 e.symm) hb
  · rcases h3 with ⟨_, h3⟩ | ⟨hi, h3⟩
    · exact h3
    · rw [h3]; exact h.um.fr hF (key (j := 3) (fun e => hi e.symm) rfl)
  · rcases h4 with ⟨_, h4⟩ | ⟨hi, h4⟩
    · exact h4
    · rw [h4]; exact hF.heap h.s (key (j := 4) (fun e => hi e.symm) rfl)
  · rcases h5 with ⟨_, h5⟩ | ⟨hi, h5⟩
    · exact h5
    · rw [h5]; exact h.br.fr hF fun b hb => key (j := 5) (fun e => hi e.symm) hb
  · rw [h6.2]; exact h.t.fr hF fun b hb => key (j := 6) (fun e => h6.1 e.symm) hb
theorem CM.setK {w' : World} {k' : Shk} (h : CM N0 w room a x) (hF : Fr (kfp a.kp a.kb) w w') (hk : KC w' a.kp a.kb k') : CM N0 w' room a { x with k := k' } :=
  h.part (i := 1) hF rfl (.inr ⟨by decide, rfl⟩) (.inl ⟨rfl, hk⟩) (by decide) (.inr ⟨by decide, rfl⟩) (.inr ⟨by decide, rfl⟩) (.inr ⟨by decide, rfl⟩) ⟨by decide, rfl⟩
theorem CM.setU {w' : World} {u : List (Int × Bool)} (h : CM N0 w room a x) (hF : Fr (fun b => b = a.um) w w') (hk : MapR kI Value.bool isI w' a.um u) : CM N0 w' room a { x with up := u } :=
  h.part (i := 3) hF rfl (.inr ⟨by decide, rfl⟩) (.inr ⟨by decide, rfl⟩) (by decide) (.inl ⟨rfl, hk⟩) (.inr ⟨by decide, rfl⟩) (.inr ⟨by decide, rfl⟩) ⟨by decide, rfl⟩
theorem CM.setS {w' : World} {s' : Ses} (h : CM N0 w room a x) (hF : Fr (fun b => b = a.sp) w w') (hi : s'.id = x.s.id) (hk : w'.heap[a.sp]? = some (cellsO s'.c 112)) : CM N0 w' room a { x with s := s' } :=
  h.part (i := 4) hF rfl (.inr ⟨by decide, by unfold chC; simp only [hi]⟩) (.inr ⟨by decide, rfl⟩) (by decide) (.inr ⟨by decide, rfl⟩) (.inl ⟨rfl, hk⟩) (.inr ⟨by decide, rfl⟩) ⟨by decide, rfl⟩
theorem CM.setB {w' : World} {fs' : FS} (h : CM N0 w room a x) (hF : Fr (pB a.bp a.vp a.vm a.vnb a.p a.pb a.sb) w w') (hk : BR N0 w' a.bp a.vp a.vm a.vnb a.p a.pb a.o a.c a.sb a.so a.sc room a.ps fs') : CM N0 w' room a { x with fs := fs' } :=
  h.part (i := 5) hF rfl (.inr ⟨by decide, rfl⟩) (.inr ⟨by decide, rfl⟩) (by decide) (.inr ⟨by decide, rfl⟩) (.inr ⟨by decide, rfl⟩) (.inl ⟨rfl, hk⟩) ⟨by decide, rfl⟩
theorem CM.ps {ps' : List Ent} {fs' : FS} {w' : World} (h : CM N0 w room a x) (hF : Fr (pB a.bp a.vp a.vm a.vnb a.p a.pb a.sb) w w') (hk : BR N0 w' a.bp a.vp a.vm a.vnb a.p a.pb a.o a.c a.sb a.so a.sc room ps' fs') : CM N0 w' room { a with ps := ps' } { x with fs := fs' } := by
  have key : ∀ {j b}, j ≠ 5 → a.G j b → ¬ a.G 5 b := fun hne hj hi => hne (h.dj _ _ _ hj hi)
  exact ⟨hF.heap h.blk (key (j := 0) (by decide) rfl), h.k.fr hF fun b hb => key (j := 1) (by decide) hb, h.ov.fr hF fun b hb => key (j := 2) (by decide) hb, fun b hb => Nat.lt_of_lt_of_le (h.ovl b hb) hF.size, h.um.fr hF (key (j := 3) (by decide) rfl),
    hF.heap h.s (key (j := 4) (by decide) rfl), hk, h.t.fr hF fun b hb => key (j := 6) (by decide) hb, fun b hb => Nat.lt_of_lt_of_le (h.tl b hb) hF.size, h.dj, h.ge⟩
/-- its own cells are written -/
theorem CM.wr (h : CM N0 w room a x) {o : Nat} {v : Value} {x' : Chs} (hs : splice (chC a x) o [v] = chC a x') (ho : x'.owner = x.owner) (hk : x'.k = x.k) (hu : x'.up = x.up) (hss : x'.s = x.s) (hf : x'.fs = x.fs) (ht : x'.t = x.t) :
    CM N0 (Gx.wr w a.cp o [v]) room a x' ∧ Fr (a.G 0) w (Gx.wr w a.cp o [v]) := by
  have hF : Fr (a.G 0) w (Gx.wr w a.cp o [v]) := Fr.wr w _ _ _ rfl
  refine ⟨h.part (i := 0) hF ho (.inl ⟨rfl, ?_⟩) (.inr ⟨by decide, hk⟩) (by decide) (.inr ⟨by decide, hu⟩) (.inr ⟨by decide, hss⟩) (.inr ⟨by decide, hf⟩) ⟨by decide, ht⟩, hF⟩
  rw [heap_wr, if_pos rfl, h.blk, putAt_cells, hs]
theorem frA {i : Nat} {w' : World} (h : Fr (a.G i) w w') : Fr a.all w w' := h.mono fun _ _ e => ⟨i, e⟩
theorem frA0 {w' : World} (h : Fr none_ w w') : Fr a.all w w' := h.mono fun _ _ e => e.elim

/-! ### What it tells of itself -/

theorem cbridge_spec (h : CM N0 w room a x) (hk : K (pt a.bp 0) w) : CallsR Tryz.prog 14 #[pt a.cp 0] K w := by
  apply c14
  unfold p14
  simp only [push_cast, Nat.reduceAdd, Nat.reduceLeDiff, Nat.reduceLT, Int.reduceToNat, Nat.left_eq_add, Nat.add_eq_left, Nat.add_left_cancel_iff, Nat.reduceEqDiff, Nat.add_assoc, Nat.succ_ne_zero, h.blk]
  exact hk
theorem csession_spec (h : CM N0 w room a x) (hk : K (pt a.sp 0) w) : CallsR Tryz.prog 12 #[pt a.cp 0] K w := by
  apply c12
  unfold p12
  simp only [push_cast, Nat.reduceAdd, Nat.reduceLeDiff, Nat.reduceLT, Int.reduceToNat, Nat.left_eq_add, Nat.add_eq_left, Nat.add_left_cancel_iff, Nat.reduceEqDiff, Nat.add_assoc, Nat.succ_ne_zero, h.blk]
  exact hk
theorem cfirst_spec (h : CM N0 w room a x) (hk : K (.bool (decide (x.s.role = 2))) w) : CallsR Tryz.prog 93 #[pt a.cp 0] K w := by
  apply c93
  unfold p93
  simp only [push_cast, Nat.reduceAdd, Nat.reduceLeDiff, Nat.reduceLT, Int.reduceToNat, Nat.left_eq_add, Nat.add_eq_left, Nat.add_left_cancel_iff, Nat.reduceEqDiff, Nat.add_assoc, Nat.succ_ne_zero, h.blk]
  refine srole_spec h.s ?_
  simp only [push_cast, Nat.reduceAdd, Nat.reduceLeDiff, Nat.reduceLT, Int.reduceToNat, Nat.left_eq_add, Nat.add_eq_left, Nat.add_left_cancel_iff, Nat.reduceEqDiff, Nat.add_assoc, Nat.succ_ne_zero]
  have : (x.s.role == 2) = decide (x.s.role = 2) := by rw [Bool.eq_iff_iff]; simp
  rw [this]
  exact hk
theorem cwaits0_spec (h : CM N0 w room a x) (ht : x.t = none) (hk : K (i64 0) w) : CallsR Tryz.prog 17 #[pt a.cp 0] K w := by
  apply c17
  unfold p17
  have h6 := h.t
  rw [ht] at h6
  have h6 : a.sv = .pointer none := h6
  simp only [push_cast, Nat.reduceAdd, Nat.reduceLeDiff, Nat.reduceLT, Int.reduceToNat, Nat.left_eq_add, Nat.add_eq_left, Nat.add_left_cancel_iff, Nat.reduceEqDiff, Nat.add_assoc, Nat.succ_ne_zero, h.blk, h6]
  exact hk

theorem CM.ovlen (h : CM N0 w room a x) (R : Value → World → Prop) (W : World) : opS Tryz.prog (S.len a.ov) R W = R (i64 ((x.owner.length : Int) + 1)) W := by
  obtain ⟨c1, c2, hv⟩ := h.ov.form
  rw [hv]
  simp only [List.length_map, List.length_cons]
  rfl
theorem chas_spec {port : Int} (h : CM N0 w room a x) (hk : K (.bool (x.has port)) w) : CallsR Tryz.prog 73 #[pt a.cp 0, i64 port] K w := by
  apply c73
  unfold p73
  unfold Chs.has at hk
  simp only [push_cast, Nat.reduceAdd, Nat.reduceLeDiff, Nat.reduceLT, Int.reduceToNat, Nat.left_eq_add, Nat.add_eq_left, Nat.add_left_cancel_iff, Nat.reduceEqDiff, Nat.add_assoc, Nat.succ_ne_zero, h.blk, h.ovlen]
  refine br_dec (fun e => ?_) fun e => ?_
  · have : decide (1 ≤ port ∧ port ≤ (x.owner.length : Int)) = decide (port < (x.owner.length : Int) + 1) := by
      rw [Bool.eq_iff_iff]; simp; omega
    rw [this] at hk
    exact hk
  · rw [decide_eq_false (by omega)] at hk
    exact hk
/-- whose a port is -/
theorem CM.owner (h : CM N0 w room a x) {port : Int} (hp : x.has port = true) {R : Value → World → Prop} (hk : R (i64 (x.own port)) w) : opS Tryz.prog (S.ia 22 a.ov (i64 port)) (fun y => opS Tryz.prog (S.ld 3 y) R) w := by
  unfold Chs.has at hp
  have hp := of_decide_eq_true hp
  have hlen : (((-1) :: x.owner).map cellI).length = x.owner.length + 1 := by simp
  refine s_iaE h.ov (by omega) (by rw [hlen]; omega) fun b o c hv hE => ?_
  have hg : (((-1) :: x.owner).map cellI)[port.toNat]'(by rw [hlen]; omega) = cellI (x.own port) := by
    rw [List.getElem_map]
    congr 1
    unfold Chs.own
    have e1 : port.toNat = (port - 1).toNat + 1 := by omega
    have e2 : (port - 1).toNat < x.owner.length := by omega
    simp only [e1, List.getElem_cons_succ]
    rw [List.getD_eq_getElem?_getD, List.getElem?_eq_getElem e2, Option.getD_some]
  rw [hg] at hE
  have hc := hE.cell0 (by simp [cellI])
  simp only [push_cast, Nat.reduceAdd, Nat.reduceLeDiff, Nat.reduceLT, Int.reduceToNat, Nat.left_eq_add, Nat.add_eq_left, Nat.add_left_cancel_iff, Nat.reduceEqDiff, Nat.add_assoc, Nat.succ_ne_zero, hc]
  exact hk
theorem cmine_spec {port : Int} (h : CM N0 w room a x) (hk : ∀ w', Fr none_ w w' → K (.bool (x.mine port)) w') : CallsR Tryz.prog 43 #[pt a.cp 0, i64 port] K w := by
  apply c43
  unfold p43
  have hFd : Fr none_ w w.drew := (by repeat' first | with_reducible exact Fr.refl _ _ | with_reducible refine Fr.step_alloc ?_ ?_ | with_reducible refine Fr.step_drew ?_ | with_reducible refine Fr.step_wr ?_ ?_ _ _ | exact rfl | exact Or.inr (by omega) | exact Or.inl rfl | exact Or.inl (Or.inl rfl) | exact Or.inl (Or.inr rfl))
  have hd := h.fr0 hFd
  simp only [drw_eq]
  generalize w.drew = W at *
  unfold Chs.mine at hk
  simp only [push_cast, Nat.reduceAdd, Nat.reduceLeDiff, Nat.reduceLT, Int.reduceToNat, Nat.left_eq_add, Nat.add_eq_left, Nat.add_left_cancel_iff, Nat.reduceEqDiff, Nat.add_assoc, Nat.succ_ne_zero]
  refine chas_spec hd ?_
  simp only [push_cast, Nat.reduceAdd, Nat.reduceLeDiff, Nat.reduceLT, Int.reduceToNat, Nat.left_eq_add, Nat.add_eq_left, Nat.add_left_cancel_iff, Nat.reduceEqDiff, Nat.add_assoc, Nat.succ_ne_zero]
  refine br_intro (fun e => ?_) fun e => ?_
  · rw [e, Bool.true_and] at hk
    simp only [push_cast, Nat.reduceAdd, Nat.reduceLeDiff, Nat.reduceLT, Int.reduceToNat, Nat.left_eq_add, Nat.add_eq_left, Nat.add_left_cancel_iff, Nat.reduceEqDiff, Nat.add_assoc, Nat.succ_ne_zero, hd.blk]
    refine hd.owner e ?_
    simp only [push_cast, Nat.reduceAdd, Nat.reduceLeDiff, Nat.reduceLT, Int.reduceToNat, Nat.left_eq_add, Nat.add_eq_left, Nat.add_left_cancel_iff, Nat.reduceEqDiff, Nat.add_assoc, Nat.succ_ne_zero, hd.blk]
    refine br_intro (fun e2 => ?_) fun e2 => ?_
    · have e2 : x.own port = x.s.id := by simpa using e2
      rw [decide_eq_true e2, Bool.true_or] at hk
      exact hk W hFd
    · have e2 : ¬ x.own port = x.s.id := by simpa using e2
      rw [decide_eq_false e2, Bool.false_or] at hk
      refine hd.owner e ?_
      simp only [push_cast, Nat.reduceAdd, Nat.reduceLeDiff, Nat.reduceLT, Int.reduceToNat, Nat.left_eq_add, Nat.add_eq_left, Nat.add_left_cancel_iff, Nat.reduceEqDiff, Nat.add_assoc, Nat.succ_ne_zero]
      have : (x.own port == 2) = decide (x.own port = 2) := by rw [Bool.eq_iff_iff]; simp
      rw [this]
      exact hk W hFd
  · rw [e, Bool.false_and] at hk
    exact hk W hFd

theorem Chs.mine_has {x : Chs} {port : Int} (h : x.mine port = true) : x.has port = true := by
  unfold Chs.mine at h
  rw [Bool.and_eq_true] at h
  exact h.1
theorem cserves_spec {port : Int} (h : CM N0 w room a x) (hw : x.wf room) (hp : isI port) (hk : ∀ w', Fr none_ w w' → K (.bool (x.serves port)) w') : CallsR Tryz.prog 16 #[pt a.cp 0, i64 port] K w := by
  apply c16
  unfold p16
  simp only [push_cast, Nat.reduceAdd, Nat.reduceLeDiff, Nat.reduceLT, Int.reduceToNat, Nat.left_eq_add, Nat.add_eq_left, Nat.add_left_cancel_iff, Nat.reduceEqDiff, Nat.add_assoc, Nat.succ_ne_zero]
  refine cmine_spec h fun w1 hF1 => ?_
  replace h := h.fr0 hF1
  unfold Chs.serves at hk
  simp only [push_cast, Nat.reduceAdd, Nat.reduceLeDiff, Nat.reduceLT, Int.reduceToNat, Nat.left_eq_add, Nat.add_eq_left, Nat.add_left_cancel_iff, Nat.reduceEqDiff, Nat.add_assoc, Nat.succ_ne_zero]
  refine br_intro (fun e => ?_) fun e => ?_
  · have e : x.mine port = false := by simpa using e
    rw [e, Bool.false_and] at hk
    exact hk w1 hF1
  · have e : x.mine port = true := by simpa using e
    rw [e, Bool.true_and] at hk
    simp only [push_cast, Nat.reduceAdd, Nat.reduceLeDiff, Nat.reduceLT, Int.reduceToNat, Nat.left_eq_add, Nat.add_eq_left, Nat.add_left_cancel_iff, Nat.reduceEqDiff, Nat.add_assoc, Nat.succ_ne_zero, h.blk]
    refine h.owner (Chs.mine_has e) ?_
    simp only [push_cast, Nat.reduceAdd, Nat.reduceLeDiff, Nat.reduceLT, Int.reduceToNat, Nat.left_eq_add, Nat.add_eq_left, Nat.add_left_cancel_iff, Nat.reduceEqDiff, Nat.add_assoc, Nat.succ_ne_zero]
    refine br_intro (fun e2 => ?_) fun e2 => ?_
    · have e2 : x.own port = 2 := by simpa using e2
      rw [if_pos e2] at hk
      refine jn1 (fun v w' => v = .bool (x.tune && x.k.servesP port) ∧ Fr none_ w w') (fun v w' ⟨a, b⟩ => by subst a; exact hk w' b) fun j hj => ?_
      simp only [push_cast, Nat.reduceAdd, Nat.reduceLeDiff, Nat.reduceLT, Int.reduceToNat, Nat.left_eq_add, Nat.add_eq_left, Nat.add_left_cancel_iff, Nat.reduceEqDiff, Nat.add_assoc, Nat.succ_ne_zero, h.blk]
      refine br_intro (fun e3 => ?_) fun e3 => ?_
      · skip
        refine kserves_spec h.k (by rw [hw.kl]; exact hw.ow.2) ?_
        exact hj _ _ ⟨by rw [e3, Bool.true_and], hF1⟩
      · exact hj _ _ ⟨by rw [e3, Bool.false_and], hF1⟩
    · have e2 : ¬ x.own port = 2 := by simpa using e2
      rw [if_neg e2] at hk
      simp only [push_cast, Nat.reduceAdd, Nat.reduceLeDiff, Nat.reduceLT, Int.reduceToNat, Nat.left_eq_add, Nat.add_eq_left, Nat.add_left_cancel_iff, Nat.reduceEqDiff, Nat.add_assoc, Nat.succ_ne_zero, h.blk]
      refine s_lk (vc := Value.bool) h.um hp ?_
      rw [if_neg (by decide)]
      have : got Value.bool (.bool false) (getL x.up port) = .bool (x.upB port) := by
        unfold got Chs.upB
        cases getL x.up port <;> rfl
      first
        | rw [this]
        | skip
      exact hk w1 hF1

/-! ### Notes that are told to nobody -/

theorem ctell0_spec (h : CM N0 w room a x) {r : Option Addr} {c : Nat} (hk : K (.tuple #[]) w) : CallsR Tryz.prog 75 #[pt a.cp 0, .slice r 0 c] K w := by
  apply c75
  unfold p75
  simp only [push_cast, Nat.reduceAdd, Nat.reduceLeDiff, Nat.reduceLT, Int.reduceToNat, Nat.left_eq_add, Nat.add_eq_left, Nat.add_left_cancel_iff, Nat.reduceEqDiff, Nat.add_assoc, Nat.succ_ne_zero]
  refine jn0 (fun w' => w' = w) (fun w' e => by subst e; exact hk) fun j hj => ?_
  refine loop1 (fun n v w' => v = i64 0 ∧ w' = w) ?_ 0 ⟨rfl, rfl⟩
  rintro n v w' X ⟨rfl, rfl⟩ hX
  simp only [push_cast, Nat.reduceAdd, Nat.reduceLeDiff, Nat.reduceLT, Int.reduceToNat, Nat.left_eq_add, Nat.add_eq_left, Nat.add_left_cancel_iff, Nat.reduceEqDiff, Nat.add_assoc, Nat.succ_ne_zero]
  exact br_no (by decide) (hj _ rfl)

/-! ### A link goes up, or down -/

theorem clink0_spec {port : Int} {up : Bool} (h : CM N0 w room a x) (hw : x.wf room) (ht : x.t = none) (hs : x.k.session = false) (hp : isI port)
    (hk : ∀ w', CM N0 w' room a (x.link0 port up).1 → Fr a.all w w' → K (i64 (x.link0 port up).2) w') : CallsR Tryz.prog 26 #[pt a.cp 0, i64 port, .bool up] K w := by
  apply c26
  unfold p26
  unfold Chs.link0 at hk
  simp only [push_cast, Nat.reduceAdd, Nat.reduceLeDiff, Nat.reduceLT, Int.reduceToNat, Nat.left_eq_add, Nat.add_eq_left, Nat.add_left_cancel_iff, Nat.reduceEqDiff, Nat.add_assoc, Nat.succ_ne_zero]
  refine chas_spec h ?_
  simp only [push_cast, Nat.reduceAdd, Nat.reduceLeDiff, Nat.reduceLT, Int.reduceToNat, Nat.left_eq_add, Nat.add_eq_left, Nat.add_left_cancel_iff, Nat.reduceEqDiff, Nat.add_assoc, Nat.succ_ne_zero]
  refine br_intro (fun e => ?_) fun e => ?_
  · have e : x.has port = false := by simpa using e
    rw [e] at hk
    exact hk w h (Fr.refl _ _)
  have e : x.has port = true := by simpa using e
  simp only [if_pos e] at hk
  refine cmine_spec h fun w1 hF1 => ?_
  replace h := h.fr0 hF1
  simp only [push_cast, Nat.reduceAdd, Nat.reduceLeDiff, Nat.reduceLT, Int.reduceToNat, Nat.left_eq_add, Nat.add_eq_left, Nat.add_left_cancel_iff, Nat.reduceEqDiff, Nat.add_assoc, Nat.succ_ne_zero]
  refine br_intro (fun e2 => ?_) fun e2 => ?_
  · have e2 : x.mine port = false := by simpa using e2
    rw [e2] at hk
    exact hk w1 h (frA0 hF1)
  have e2 : x.mine port = true := by simpa using e2
  simp only [if_pos e2] at hk
  simp only [push_cast, Nat.reduceAdd, Nat.reduceLeDiff, Nat.reduceLT, Int.reduceToNat, Nat.left_eq_add, Nat.add_eq_left, Nat.add_left_cancel_iff, Nat.reduceEqDiff, Nat.add_assoc, Nat.succ_ne_zero, h.blk]
  refine s_mu (vc := Value.bool) (v := up) h.um hp fun w2 hm hF2 => ?_
  have h2 := h.setU hF2 hm
  have hF02 : Fr a.all w w2 := (frA0 hF1).trans (frA (i := 3) hF2)
  have hb2 := h2.blk
  simp only [push_cast, Nat.reduceAdd, Nat.reduceLeDiff, Nat.reduceLT, Int.reduceToNat, Nat.left_eq_add, Nat.add_eq_left, Nat.add_left_cancel_iff, Nat.reduceEqDiff, Nat.add_assoc, Nat.succ_ne_zero, hb2]
  refine h2.owner (port := port) e ?_
  have hown : ({ x with up := setL x.up port up } : Chs).own port = x.own port := rfl
  rw [hown]
  simp only [push_cast, Nat.reduceAdd, Nat.reduceLeDiff, Nat.reduceLT, Int.reduceToNat, Nat.left_eq_add, Nat.add_eq_left, Nat.add_left_cancel_iff, Nat.reduceEqDiff, Nat.add_assoc, Nat.succ_ne_zero]
  refine br_intro (fun e3 => ?_) fun e3 => ?_
  · have e3 : x.own port = 2 := by simpa using e3
    simp only [if_pos e3] at hk
    have he := of_decide_eq_true (show decide (1 ≤ port ∧ port ≤ (x.owner.length : Int)) = true from e)
    simp only [push_cast, Nat.reduceAdd, Nat.reduceLeDiff, Nat.reduceLT, Int.reduceToNat, Nat.left_eq_add, Nat.add_eq_left, Nat.add_left_cancel_iff, Nat.reduceEqDiff, Nat.add_assoc, Nat.succ_ne_zero, hb2]
    have hkl := hw.kl
    have hkw := hw.ow
    refine local0_spec h2.k (by show x.k.l.length ≤ 63; omega) hs (by show 1 ≤ port ∧ port ≤ (x.k.l.length : Int); omega) fun w3 hk3 hF3 => ?_
    have h3 := h2.setK hF3 hk3
    simp only [push_cast, Nat.reduceAdd, Nat.reduceLeDiff, Nat.reduceLT, Int.reduceToNat, Nat.left_eq_add, Nat.add_eq_left, Nat.add_left_cancel_iff, Nat.reduceEqDiff, Nat.add_assoc, Nat.succ_ne_zero]
    refine ctell0_spec h3 ?_
    exact hk w3 h3 (hF02.trans (frA (i := 1) hF3))
  · have e3 : ¬ x.own port = 2 := by simpa using e3
    simp only [if_neg e3] at hk
    exact hk w2 h2 hF02

/-! ### No session -/

theorem calone_spec (h : CM N0 w room a x) (hw : x.wf room) (hk : ∀ w', CM N0 w' room a x.alone → Fr a.all w w' → K (.tuple #[]) w') : CallsR Tryz.prog 94 #[pt a.cp 0] K w := by
  apply c94
  unfold p94
  have hkl := hw.kl
  have hkw := hw.ow
  refine jn0 (fun w' => CM N0 w' room a { x with k := x.k.stopP (decide (x.s.role = 2)) } ∧ Fr a.all w w') ?_ fun j hj => ?_
  · rintro w' ⟨h1, hF1⟩
    have hb1 := h1.blk
    simp only [push_cast, Nat.reduceAdd, Nat.reduceLeDiff, Nat.reduceLT, Int.reduceToNat, Nat.left_eq_add, Nat.add_eq_left, Nat.add_left_cancel_iff, Nat.reduceEqDiff, Nat.add_assoc, Nat.succ_ne_zero, hb1]
    have ht : ({ x with k := x.k.stopP (decide (x.s.role = 2)) } : Chs).tune = x.tune := rfl
    rw [ht]
    refine br_intro (fun e => ?_) fun e => ?_
    · obtain ⟨h2, hF2⟩ := h1.wr (chC_s7 a _ true) rfl rfl rfl rfl rfl rfl
      refine hk _ ?_ (hF1.trans (frA (i := 0) hF2))
      have : x.alone = { x with k := x.k.stopP (decide (x.s.role = 2)), tune := true } := by unfold Chs.alone; rw [e, Bool.true_or]
      rw [this]
      exact h2
    · skip
      refine cfirst_spec h1 ?_
      obtain ⟨h2, hF2⟩ := h1.wr (chC_s7 a _ (decide (x.s.role = 2))) rfl rfl rfl rfl rfl rfl
      simp only [push_cast, Nat.reduceAdd, Nat.reduceLeDiff, Nat.reduceLT, Int.reduceToNat, Nat.left_eq_add, Nat.add_eq_left, Nat.add_left_cancel_iff, Nat.reduceEqDiff, Nat.add_assoc, Nat.succ_ne_zero, hb1]
      refine hk _ ?_ (hF1.trans (frA (i := 0) hF2))
      have : x.alone = { x with k := x.k.stopP (decide (x.s.role = 2)), tune := decide (x.s.role = 2) } := by unfold Chs.alone; rw [e, Bool.false_or]
      rw [this]
      exact h2
  · have hd := h.fr0 (Fr.drew w)
    have hFd : Fr a.all w w.drew := (by repeat' first | with_reducible exact Fr.refl _ _ | with_reducible refine Fr.step_alloc ?_ ?_ | with_reducible refine Fr.step_drew ?_ | with_reducible refine Fr.step_wr ?_ ?_ _ _ | exact rfl | exact Or.inr (by omega) | exact Or.inl rfl | exact Or.inl (Or.inl rfl) | exact Or.inl (Or.inr rfl))
    simp only [drw_eq]
    generalize w.drew = W at *
    have last : CallsR Tryz.prog 179 #[pt a.kp 0, .bool (decide (x.s.role = 2))] (fun _ => j) W :=
      kstop_spec hd.k (by omega) fun w2 hk2 hF2 => hj _ ⟨hd.setK hF2 hk2, hFd.trans (frA (i := 1) hF2)⟩
    simp only [push_cast, Nat.reduceAdd, Nat.reduceLeDiff, Nat.reduceLT, Int.reduceToNat, Nat.left_eq_add, Nat.add_eq_left, Nat.add_left_cancel_iff, Nat.reduceEqDiff, Nat.add_assoc, Nat.succ_ne_zero, hd.blk]
    refine allW_intro ?_ ?_
    · simp only [push_cast, Nat.reduceAdd, Nat.reduceLeDiff, Nat.reduceLT, Int.reduceToNat, Nat.left_eq_add, Nat.add_eq_left, Nat.add_left_cancel_iff, Nat.reduceEqDiff, Nat.add_assoc, Nat.succ_ne_zero, hd.blk]
      refine cfirst_spec hd ?_
      simp only [push_cast, Nat.reduceAdd, Nat.reduceLeDiff, Nat.reduceLT, Int.reduceToNat, Nat.left_eq_add, Nat.add_eq_left, Nat.add_left_cancel_iff, Nat.reduceEqDiff, Nat.add_assoc, Nat.succ_ne_zero]
      exact last
    · refine cfirst_spec hd ?_
      simp only [push_cast, Nat.reduceAdd, Nat.reduceLeDiff, Nat.reduceLT, Int.reduceToNat, Nat.left_eq_add, Nat.add_eq_left, Nat.add_left_cancel_iff, Nat.reduceEqDiff, Nat.add_assoc, Nat.succ_ne_zero, hd.blk]
      exact last
end

end Go.Gx.S
end

section
/- A chassis of the document's, in memory: its links. -/
set_option linter.unusedVariables false
set_option linter.unusedSimpArgs false
set_option maxRecDepth 100000
namespace Go.Gx.S
open Go Go.Gx Go.Proofs
variable {K : Value → World → Prop} {w : World}

/-- which own links are up, as the document has it -/
def upL (n : Nat) (u : List (Int × Bool)) : List Bool := (List.range (n + 1)).map fun (i : Nat) => (getL u (i : Int)).getD false
theorem upL_len (n : Nat) (u : List (Int × Bool)) : (upL n u).length = n + 1 := by unfold upL; simp
theorem upL_get {n : Nat} {u : List (Int × Bool)} {i : Nat} (h : i < (upL n u).length) : (upL n u)[i] = (getL u (i : Int)).getD false := by
  unfold upL at *
  rw [List.getElem_map, List.getElem_range]
theorem upL_set {n : Nat} {u : List (Int × Bool)} {i : Nat} {v : Bool} (h : i < n + 1) : (upL n u).set i v = upL n (setL u (i : Int) v) := by
  apply List.ext_getElem
  · rw [List.length_set, upL_len, upL_len]
  · intro j h1 h2
    rw [List.getElem_set, upL_get h2, lookup_setL]
    by_cases e : i = j
    · subst e; rw [if_pos rfl, if_pos rfl, Option.getD_some]
    · rw [if_neg e, if_neg (fun e2 => e (by omega)), upL_get]

structure RA where
  rp : Nat
  kp : Nat
  kb : Nat
  sp : Nat
  ov : Value
  uv : Value
  sv : Value
  rb : Nat
  vq : Nat
  vnb : Nat
  vL : Value
  fq : Nat
  fL : Value
  sb : Nat
  so : Nat
  sc : Nat
  F : Nat → Prop
def RA.G (a : RA) : Nat → Nat → Prop
  | 0 => fun b => b = a.rp
  | 1 => kfp a.kp a.kb
  | 2 => fun b => blkS a.ov = some b
  | 3 => fun b => blkS a.uv = some b
  | 4 => fun b => b = a.sp
  | 5 => rwf a.rb a.sb a.vq a.vnb a.vL a.fq a.fL
  | 6 => a.F
  | _ => fun _ => False
def RA.all (a : RA) (b : Nat) : Prop := ∃ i, a.G i b

def cellB (b : Bool) : List Value := [.bool b]
def chR (room : Nat) (a : RA) (x : Chs) : List Value := [i64 x.s.id, i64 x.s.prio, a.ov, i64 room, pt a.rb 0, pt a.sp 0, pt a.kp 0, a.uv, a.sv, .bool x.tune, i64 x.n0, i64 x.n1, i64 x.n2]
section
variable (room : Nat) (a : RA) (x : Chs)
theorem chR_len : (chR room a x).length = 13 := id rfl
theorem chR_0 : (chR room a x)[0]? = some (i64 x.s.id) := id rfl
theorem chR_2 : (chR room a x)[2]? = some a.ov := id rfl
theorem chR_4 : (chR room a x)[4]? = some (pt a.rb 0) := id rfl
theorem chR_5 : (chR room a x)[5]? = some (pt a.sp 0) := id rfl
theorem chR_6 : (chR room a x)[6]? = some (pt a.kp 0) := id rfl
theorem chR_7 : (chR room a x)[7]? = some a.uv := id rfl
theorem chR_8 : (chR room a x)[8]? = some a.sv := id rfl
theorem chR_9 : (chR room a x)[9]? = some (.bool x.tune) := id rfl
theorem chR_10 : (chR room a x)[10]? = some (i64 x.n0) := id rfl
theorem chR_11 : (chR room a x)[11]? = some (i64 x.n1) := id rfl
theorem chR_12 : (chR room a x)[12]? = some (i64 x.n2) := id rfl
end
attribute [push_cast] chR_len chR_0 chR_2 chR_4 chR_5 chR_6 chR_7 chR_8 chR_9 chR_10 chR_11 chR_12

structure RM (N0 : Nat) (w : World) (room : Nat) (a : RA) (x : Chs) : Prop where
  blk : w.heap[a.rp]? = some (cellsO (chR room a x) 45)
  k : KR w a.kp a.kb x.k
  ov : RdE 1 w a.ov (x.owner.map cellI)
  ovl : ∀ b, blkS a.ov = some b → b < w.heap.size
  uv : OwnE 4 1 w a.uv ((upL x.owner.length x.up).map cellB)
  s : w.heap[a.sp]? = some (cellsO x.s.r 37)
  br : RBR (fun _ => False) N0 w a.rb a.vq a.vnb a.vL a.fq a.fL a.sb a.so a.sc room x.fs
  t : StmC w a.sv a.F x.t
  tl : ∀ b, a.F b → b < w.heap.size
  dj : ∀ i j b, a.G i b → a.G j b → i = j
  ge : ∀ b, a.all b → N0 ≤ b

section
variable {N0 room : Nat} {a : RA} {x : Chs}
theorem RM.lt (h : RM N0 w room a x) : ∀ b, a.all b → b < w.heap.size := by
  rintro b ⟨i, hi⟩
  match i, hi with
  | 0, hi => have : b = a.rp := hi; subst this; exact lt_of_heap h.blk
  | 1, hi => exact h.k.lt b hi
  | 2, hi => exact h.ovl b hi
  | 3, hi => exact h.uv.lt hi
  | 4, hi => have : b = a.sp := hi; subst this; exact lt_of_heap h.s
  | 5, hi => exact h.br.lt hi
  | 6, hi => exact h.tl b hi
theorem RM.fr {fp : Nat → Prop} {w' : World} (h : RM N0 w room a x) (hF : Fr fp w w') (hn : ∀ b, a.all b → ¬ fp b) : RM N0 w' room a x :=
  ⟨hF.heap h.blk (hn _ ⟨0, rfl⟩), h.k.fr hF fun b hb => hn b ⟨1, hb⟩, h.ov.fr hF fun b hb => hn b ⟨2, hb⟩, fun b hb => Nat.lt_of_lt_of_le (h.ovl b hb) hF.size, h.uv.fr hF fun b hb => hn b ⟨3, hb⟩, hF.heap h.s (hn _ ⟨4, rfl⟩),
    h.br.fr hF fun b hb => hn b ⟨5, hb⟩, h.t.fr hF fun b hb => hn b ⟨6, hb⟩, fun b hb => Nat.lt_of_lt_of_le (h.tl b hb) hF.size, h.dj, h.ge⟩
theorem RM.fr0 {w' : World} (h : RM N0 w room a x) (hF : Fr none_ w w') : RM N0 w' room a x := h.fr hF fun _ _ h => h
theorem RM.setK {w' : World} {k' : Shk} (h : RM N0 w room a x) (hF : Fr (kfp a.kp a.kb) w w') (hk : KR w' a.kp a.kb k') : RM N0 w' room a { x with k := k' } := by
  have key : ∀ {j b}, j ≠ 1 → a.G j b → ¬ a.G 1 b := fun hne hj hi => hne (h.dj _ _ _ hj hi)
  exact ⟨hF.heap h.blk (key (j := 0) (by decide) rfl), hk, h.ov.fr hF fun b hb => key (j := 2) (by decide) hb, fun b hb => Nat.lt_of_lt_of_le (h.ovl b hb) hF.size, h.uv.fr hF fun b hb => key (j := 3) (by decide) hb,
    hF.heap h.s (key (j := 4) (by decide) rfl), h.br.fr hF fun b hb => key (j := 5) (by decide) hb, h.t.fr hF fun b hb => key (j := 6) (by decide) hb, fun b hb => Nat.lt_of_lt_of_le (h.tl b hb) hF.size, h.dj, h.ge⟩
theorem RM.setU {w' : World} {u : List (Int × Bool)} (h : RM N0 w room a x) (hF : Fr (fun b => blkS a.uv = some b) w w') (hk : OwnE 4 1 w' a.uv ((upL x.owner.length u).map cellB)) : RM N0 w' room a { x with up := u } := by
  have key : ∀ {j b}, j ≠ 3 → a.G j b → ¬ a.G 3 b := fun hne hj hi => hne (h.dj _ _ _ hj hi)
  exact ⟨hF.heap h.blk (key (j := 0) (by decide) rfl), h.k.fr hF fun b hb => key (j := 1) (by decide) hb, h.ov.fr hF fun b hb => key (j := 2) (by decide) hb, fun b hb => Nat.lt_of_lt_of_le (h.ovl b hb) hF.size, hk,
    hF.heap h.s (key (j := 4) (by decide) rfl), h.br.fr hF fun b hb => key (j := 5) (by decide) hb, h.t.fr hF fun b hb => key (j := 6) (by decide) hb, fun b hb => Nat.lt_of_lt_of_le (h.tl b hb) hF.size, h.dj, h.ge⟩
/-- its bridge has done something: its lists may lie elsewhere -/
theorem RM.setB {w' : World} {fs' : FS} {vL' fL' : Value} (h : RM N0 w room a x) (hF : Fr (a.G 5) w w') (hk : RBR (fun _ => False) N0 w' a.rb a.vq a.vnb vL' a.fq fL' a.sb a.so a.sc room fs')
    (hn : ∀ b, rwf a.rb a.sb a.vq a.vnb vL' a.fq fL' b → a.G 5 b ∨ w.heap.size ≤ b) : RM N0 w' room { a with vL := vL', fL := fL' } { x with fs := fs' } := by
  have key : ∀ {j b}, j ≠ 5 → a.G j b → ¬ a.G 5 b := fun hne hj hi => hne (h.dj _ _ _ hj hi)
  have hlt := h.lt
  have conv : ∀ {j b}, ({ a with vL := vL', fL := fL' } : RA).G j b → a.G j b ∨ (j = 5 ∧ w.heap.size ≤ b) := by
    intro j b hj
    match j, hj with
    | 0, hj => exact .inl hj
    | 1, hj => exact .inl hj
    | 2, hj => exact .inl hj
    | 3, hj => exact .inl hj
    | 4, hj => exact .inl hj
    | 5, hj =>
      rcases hn b hj with e | e
      · exact .inl e
      · exact .inr ⟨rfl, e⟩
    | 6, hj => exact .inl hj
  have big : ∀ {j b}, a.G j b → ¬ w.heap.size ≤ b := fun hj e => by have := hlt _ ⟨_, hj⟩; omega
  refine ⟨hF.heap h.blk (key (j := 0) (by decide) rfl), h.k.fr hF fun b hb => key (j := 1) (by decide) hb, h.ov.fr hF fun b hb => key (j := 2) (by decide) hb, fun b hb => Nat.lt_of_lt_of_le (h.ovl b hb) hF.size, h.uv.fr hF fun b hb => key (j := 3) (by decide) hb,
    hF.heap h.s (key (j := 4) (by decide) rfl), hk, h.t.fr hF fun b hb => key (j := 6) (by decide) hb, fun b hb => Nat.lt_of_lt_of_le (h.tl b hb) hF.size, fun i j b hi hj => ?_, fun b hb => ?_⟩
  · rcases conv hi with hi | ⟨ei, hi⟩
    · rcases conv hj with hj | ⟨ej, hj⟩
      · exact h.dj i j b hi hj
      · exact (big hi hj).elim
    · rcases conv hj with hj | ⟨ej, hj⟩
      · exact (big hj hi).elim
      · omega
  · obtain ⟨i, hi⟩ := hb
    rcases conv hi with hi | ⟨ei, hi⟩
    · exact h.ge b ⟨i, hi⟩
    · have := h.ge a.rp ⟨0, rfl⟩
      have := hlt a.rp ⟨0, rfl⟩
      omega
theorem frR {i : Nat} {w' : World} (h : Fr (a.G i) w w') : Fr a.all w w' := h.mono fun _ _ e => ⟨i, e⟩
theorem frR0 {w' : World} (h : Fr none_ w w') : Fr a.all w w' := h.mono fun _ _ e => e.elim

/-! ### What it tells of itself -/

theorem RM.ovlen (h : RM N0 w room a x) (R : Value → World → Prop) (W : World) : opS Tryz.prog (S.len a.ov) R W = R (i64 x.owner.length) W := by
  obtain ⟨c1, c2, hv⟩ := h.ov.form
  rw [hv, List.length_map]
  rfl
theorem rchas_spec {port : Int} (h : RM N0 w room a x) (hk : K (.bool (x.has port)) w) : CallsR Tryz.prog 82 #[pt a.rp 0, i64 port] K w := by
  apply c82
  unfold p82
  unfold Chs.has at hk
  simp only [push_cast, Nat.reduceAdd, Nat.reduceLeDiff, Nat.reduceLT, Int.reduceToNat, Nat.left_eq_add, Nat.add_eq_left, Nat.add_left_cancel_iff, Nat.reduceEqDiff, Nat.add_assoc, Nat.succ_ne_zero, h.blk, h.ovlen]
  refine br_dec (fun e => ?_) fun e => ?_
  · have e : 1 ≤ port := e
    have : decide (1 ≤ port ∧ port ≤ (x.owner.length : Int)) = decide (port ≤ (x.owner.length : Int)) := by simp [e]
    rw [this] at hk
    exact hk
  · rw [decide_eq_false (by omega)] at hk
    exact hk
theorem RM.owner (h : RM N0 w room a x) (hl : x.owner.length ≤ 63) {port : Int} (hp : x.has port = true) {R : Value → World → Prop} (hk : R (i64 (x.own port)) w) : opS Tryz.prog (S.ia 22 a.ov (i64 (port - 1))) (fun y => opS Tryz.prog (S.ld 3 y) R) w := by
  unfold Chs.has at hp
  have hp := of_decide_eq_true hp
  have hlen : (x.owner.map cellI).length = x.owner.length := by simp
  refine s_iaE h.ov (by omega) (by rw [hlen]; omega) fun b o c hv hE => ?_
  have hg : (x.owner.map cellI)[(port - 1).toNat]'(by rw [hlen]; omega) = cellI (x.own port) := by
    rw [List.getElem_map]
    congr 1
    unfold Chs.own
    have e2 : (port - 1).toNat < x.owner.length := by omega
    rw [List.getD_eq_getElem?_getD, List.getElem?_eq_getElem e2, Option.getD_some]
  rw [hg] at hE
  have hc := hE.cell0 (by simp [cellI])
  simp only [push_cast, Nat.reduceAdd, Nat.reduceLeDiff, Nat.reduceLT, Int.reduceToNat, Nat.left_eq_add, Nat.add_eq_left, Nat.add_left_cancel_iff, Nat.reduceEqDiff, Nat.add_assoc, Nat.succ_ne_zero, hc]
  exact hk
theorem rcmine_spec {port : Int} (h : RM N0 w room a x) (hl : x.owner.length ≤ 63) (hp : x.has port = true) (hk : ∀ w', Fr none_ w w' → K (.bool (x.mine port)) w') : CallsR Tryz.prog 83 #[pt a.rp 0, i64 port] K w := by
  apply c83
  unfold p83
  have hFd : Fr none_ w w.drew := (by repeat' first | with_reducible exact Fr.refl _ _ | with_reducible refine Fr.step_alloc ?_ ?_ | with_reducible refine Fr.step_drew ?_ | with_reducible refine Fr.step_wr ?_ ?_ _ _ | exact rfl | exact Or.inr (by omega) | exact Or.inl rfl | exact Or.inl (Or.inl rfl) | exact Or.inl (Or.inr rfl))
  have hd := h.fr0 hFd
  have hp2 := of_decide_eq_true (show decide (1 ≤ port ∧ port ≤ (x.owner.length : Int)) = true from hp)
  have hw : IntKind.i64.wrap (port - 1) = port - 1 := wrap_i64 (by omega)
  simp only [drw_eq]
  generalize w.drew = W at *
  unfold Chs.mine at hk
  rw [hp, Bool.true_and] at hk
  simp only [push_cast, Nat.reduceAdd, Nat.reduceLeDiff, Nat.reduceLT, Int.reduceToNat, Nat.left_eq_add, Nat.add_eq_left, Nat.add_left_cancel_iff, Nat.reduceEqDiff, Nat.add_assoc, Nat.succ_ne_zero, hd.blk, hw]
  refine hd.owner hl hp ?_
  simp only [push_cast, Nat.reduceAdd, Nat.reduceLeDiff, Nat.reduceLT, Int.reduceToNat, Nat.left_eq_add, Nat.add_eq_left, Nat.add_left_cancel_iff, Nat.reduceEqDiff, Nat.add_assoc, Nat.succ_ne_zero, hd.blk]
  refine br_intro (fun e2 => ?_) fun e2 => ?_
  · have e2 : x.own port = x.s.id := by simpa using e2
    rw [decide_eq_true e2, Bool.true_or] at hk
    exact hk W hFd
  · have e2 : ¬ x.own port = x.s.id := by simpa using e2
    rw [decide_eq_false e2, Bool.false_or] at hk
    simp only [push_cast, Nat.reduceAdd, Nat.reduceLeDiff, Nat.reduceLT, Int.reduceToNat, Nat.left_eq_add, Nat.add_eq_left, Nat.add_left_cancel_iff, Nat.reduceEqDiff, Nat.add_assoc, Nat.succ_ne_zero, hd.blk, hw]
    refine hd.owner hl hp ?_
    simp only [push_cast, Nat.reduceAdd, Nat.reduceLeDiff, Nat.reduceLT, Int.reduceToNat, Nat.left_eq_add, Nat.add_eq_left, Nat.add_left_cancel_iff, Nat.reduceEqDiff, Nat.add_assoc, Nat.succ_ne_zero]
    have : (x.own port == 2) = decide (x.own port = 2) := by rw [Bool.eq_iff_iff]; simp
    rw [this]
    exact hk W hFd

theorem rctell0_spec (h : RM N0 w room a x) {r : Option Addr} {c : Nat} (hk : K (.tuple #[]) w) : CallsR Tryz.prog 86 #[pt a.rp 0, .slice r 0 c] K w := by
  apply c86
  unfold p86
  refine jn0 (fun w' => w' = w) (fun w' e => by subst e; exact hk) fun j hj => ?_
  refine loop1 (fun n v w' => v = i64 0 ∧ w' = w) ?_ 0 ⟨rfl, rfl⟩
  rintro n v w' X ⟨rfl, rfl⟩ hX
  simp only [push_cast, Nat.reduceAdd, Nat.reduceLeDiff, Nat.reduceLT, Int.reduceToNat, Nat.left_eq_add, Nat.add_eq_left, Nat.add_left_cancel_iff, Nat.reduceEqDiff, Nat.add_assoc, Nat.succ_ne_zero]
  exact br_no (by decide) (hj _ rfl)

/-! ### A link goes up, or down -/

theorem rclink0_spec {port : Int} {up : Bool} (h : RM N0 w room a x) (hw : x.wf room) (ht : x.t = none) (hs : x.k.session = false) (hp : isI port)
    (hk : ∀ w', RM N0 w' room a (x.link0 port up).1 → Fr a.all w w' → K (i64 (x.link0 port up).2) w') : CallsR Tryz.prog 54 #[pt a.rp 0, i64 port, .bool up] K w := by
  apply c54
  unfold p54
  unfold Chs.link0 at hk
  have hkl := hw.kl
  have hkw := hw.ow
  simp only [push_cast, Nat.reduceAdd, Nat.reduceLeDiff, Nat.reduceLT, Int.reduceToNat, Nat.left_eq_add, Nat.add_eq_left, Nat.add_left_cancel_iff, Nat.reduceEqDiff, Nat.add_assoc, Nat.succ_ne_zero]
  refine rchas_spec h ?_
  simp only [push_cast, Nat.reduceAdd, Nat.reduceLeDiff, Nat.reduceLT, Int.reduceToNat, Nat.left_eq_add, Nat.add_eq_left, Nat.add_left_cancel_iff, Nat.reduceEqDiff, Nat.add_assoc, Nat.succ_ne_zero]
  refine br_intro (fun e => ?_) fun e => ?_
  · have e : x.has port = false := by simpa using e
    rw [e] at hk
    exact hk w h (Fr.refl _ _)
  have e : x.has port = true := by simpa using e
  have hp2 := of_decide_eq_true (show decide (1 ≤ port ∧ port ≤ (x.owner.length : Int)) = true from e)
  have hwp : IntKind.i64.wrap (port - 1) = port - 1 := wrap_i64 (by omega)
  simp only [if_pos e] at hk
  refine rcmine_spec h hkw.2 e fun w1 hF1 => ?_
  replace h := h.fr0 hF1
  simp only [push_cast, Nat.reduceAdd, Nat.reduceLeDiff, Nat.reduceLT, Int.reduceToNat, Nat.left_eq_add, Nat.add_eq_left, Nat.add_left_cancel_iff, Nat.reduceEqDiff, Nat.add_assoc, Nat.succ_ne_zero]
  refine br_intro (fun e2 => ?_) fun e2 => ?_
  · have e2 : x.mine port = false := by simpa using e2
    rw [e2] at hk
    exact hk w1 h (frR0 hF1)
  have e2 : x.mine port = true := by simpa using e2
  simp only [if_pos e2] at hk
  obtain ⟨i, rfl⟩ : ∃ i : Nat, port = i := ⟨port.toNat, by omega⟩
  have hil : i < x.owner.length + 1 := by omega
  have hlen : ((upL x.owner.length x.up).map cellB).length = x.owner.length + 1 := by rw [List.length_map, upL_len]
  simp only [push_cast, Nat.reduceAdd, Nat.reduceLeDiff, Nat.reduceLT, Int.reduceToNat, Nat.left_eq_add, Nat.add_eq_left, Nat.add_left_cancel_iff, Nat.reduceEqDiff, Nat.add_assoc, Nat.succ_ne_zero, h.blk]
  refine s_iaE h.uv.rd (by omega) (by rw [hlen]; omega) fun b o c hv hE => ?_
  have hu := h.uv
  rw [hv] at hu
  obtain ⟨g1, g2⟩ := hu.put (i := i) (e := cellB up) rfl (by rw [hlen]; exact hil)
  have hset : ((upL x.owner.length x.up).map cellB).set i (cellB up) = (upL x.owner.length (setL x.up (i : Int) up)).map cellB := by rw [← List.map_set, upL_set hil]
  rw [hset] at g2
  have hb : blkS a.uv = some b := by rw [hv]; rfl
  have hFu : Fr (fun y => blkS a.uv = some y) w1 (wr w1 b (o + i * 1) (cellB up)) := Fr.wr w1 _ _ _ hb
  rw [← hv] at g2
  have h2 := h.setU hFu g2
  have hF02 : Fr a.all w (wr w1 b (o + i * 1) (cellB up)) := (frR0 hF1).trans (frR (i := 3) hFu)
  have hbr : ¬ a.rp = b := fun e => by have := h.dj 3 0 b hb e.symm; omega
  have hb2 := h2.blk
  have g1 : okAt w1.heap[b]? (o + i * 1) 1 = true := g1
  have hcb : cellB up = [.bool up] := rfl
  rw [hcb] at h2 hF02 hb2
  rw [Nat.mul_one] at g1 h2 hF02 hb2
  simp only [Int.toNat_natCast, Nat.mul_one, push_cast, Nat.reduceAdd, Nat.reduceLeDiff, Nat.reduceLT, Int.reduceToNat, Nat.left_eq_add, Nat.add_eq_left, Nat.add_left_cancel_iff, Nat.reduceEqDiff, Nat.add_assoc, Nat.succ_ne_zero, g1, hbr, h.blk, hwp]
  generalize wr w1 b (o + i) [.bool up] = W at *
  refine h2.owner (port := (i : Int)) hkw.2 e ?_
  have hown : ({ x with up := setL x.up (i : Int) up } : Chs).own (i : Int) = x.own (i : Int) := rfl
  rw [hown]
  simp only [push_cast, Nat.reduceAdd, Nat.reduceLeDiff, Nat.reduceLT, Int.reduceToNat, Nat.left_eq_add, Nat.add_eq_left, Nat.add_left_cancel_iff, Nat.reduceEqDiff, Nat.add_assoc, Nat.succ_ne_zero]
  refine br_intro (fun e3 => ?_) fun e3 => ?_
  · have e3 : x.own (i : Int) = 2 := by simpa using e3
    simp only [if_pos e3] at hk
    simp only [push_cast, Nat.reduceAdd, Nat.reduceLeDiff, Nat.reduceLT, Int.reduceToNat, Nat.left_eq_add, Nat.add_eq_left, Nat.add_left_cancel_iff, Nat.reduceEqDiff, Nat.add_assoc, Nat.succ_ne_zero, hb2]
    refine rlocal0_spec h2.k (by show x.k.l.length ≤ 63; omega) hs (by show 1 ≤ (i : Int) ∧ (i : Int) ≤ (x.k.l.length : Int); omega) fun w3 hk3 hF3 => ?_
    have h3 := h2.setK hF3 hk3
    simp only [push_cast, Nat.reduceAdd, Nat.reduceLeDiff, Nat.reduceLT, Int.reduceToNat, Nat.left_eq_add, Nat.add_eq_left, Nat.add_left_cancel_iff, Nat.reduceEqDiff, Nat.add_assoc, Nat.succ_ne_zero]
    refine rctell0_spec h3 ?_
    exact hk w3 h3 (hF02.trans (frR (i := 1) hF3))
  · have e3 : ¬ x.own (i : Int) = 2 := by simpa using e3
    simp only [if_neg e3] at hk
    exact hk W h2 hF02
end

end Go.Gx.S
end

section
/- A chassis is made: the code's, and the document's. -/
set_option linter.unusedVariables false
set_option linter.unusedSimpArgs false
set_option maxRecDepth 100000
namespace Go.Gx.S
open Go Go.Gx Go.Proofs
variable {K : Value → World → Prop} {w : World}

/-! ### Plain -/

def oddO (n : Int) : Bool := decide (n < 0) || decide (n > 2)
def newOk (id prio : Int) (owner : List Int) (room life : Int) : Prop := Ses.argOk id prio life ∧ (1 ≤ owner.length ∧ owner.length ≤ 63) ∧ owner.any oddO = false ∧ 1 ≤ room ∧ room ≤ 1024
def newCh (id prio : Int) (owner : List Int) (life : Int) : Chs := ⟨owner, [], newFS owner.length, Ses.new id prio life, Shk.new owner.length, none, false, 0, 0, 0⟩

theorem newCh_wf {id prio room life : Int} {owner : List Int} (h : newOk id prio owner room life) : (newCh id prio owner life).wf room.toNat := by
  obtain ⟨h1, h2, h3, h4⟩ := h
  have hz : isI 0 := isI_iff.2 (by decide)
  refine ⟨Ses.new_wf h1, h2, List.length_replicate .., ?_, ⟨⟨fun x hx => ?_, fun x hx => ?_⟩, ?_⟩, fun q hq => ?_⟩
  · show (List.replicate ((owner.length : Int) + 1).toNat (0 : Int)).length = _
    rw [List.length_replicate]
    show ((owner.length : Int) + 1).toNat = owner.length + 1
    omega
  · rw [List.eq_of_mem_replicate hx]; exact hz
  · rw [List.eq_of_mem_replicate hx]; exact hz
  · show (List.replicate ((owner.length : Int) + 1).toNat (0 : Int)).getD 0 0 = 0
    rw [List.getD_eq_getElem?_getD, List.getElem?_replicate]
    split <;> rfl
  · have := List.any_eq_false.1 h3 q hq
    unfold oddO at this
    simp at this
    exact isI_iff.2 (by omega)

/-! ### Whose the ports are -/

theorem odd_spec {n : Int} (hk : K (.bool (oddO n)) w) : CallsR Tryz.prog 34 #[i64 n] K w := by
  apply c34
  unfold p34
  unfold oddO at hk
  simp only [push_cast, Nat.reduceAdd, Nat.reduceLeDiff, Nat.reduceLT, Int.reduceToNat, Nat.left_eq_add, Nat.add_eq_left, Nat.add_left_cancel_iff, Nat.reduceEqDiff, Nat.add_assoc, Nat.succ_ne_zero]
  refine br_dec (fun e => ?_) fun e => ?_
  · rw [decide_eq_true e, Bool.true_or] at hk; exact hk
  · rw [decide_eq_false e, Bool.false_or] at hk; exact hk

theorem idxodd_spec {v : Value} {l : List Int} (h : RdE 1 w v (l.map cellI)) (hl : l.length < 2 ^ 62) (h0 : l.any oddO = false → K (i64 (-1)) w) (h1 : l.any oddO = true → ∀ i : Nat, i < l.length → K (i64 i) w) :
    CallsR Tryz.prog 97 #[v, .func (.func 34) #[] #[]] K w := by
  apply c97
  unfold p97
  obtain ⟨va, vc, rfl⟩ := h.form
  have hlen : (l.map cellI).length = l.length := by simp
  rw [hlen] at h ⊢
  simp only [push_cast, Nat.reduceAdd, Nat.reduceLeDiff, Nat.reduceLT, Int.reduceToNat, Nat.left_eq_add, Nat.add_eq_left, Nat.add_left_cancel_iff, Nat.reduceEqDiff, Nat.add_assoc, Nat.succ_ne_zero]
  refine jn0 (fun w' => w' = w ∧ l.any oddO = false) (fun w' ⟨a, b⟩ => by subst a; exact h0 b) fun j hj => ?_
  refine loop1 (fun n v w' => ∃ i : Nat, v = i64 i ∧ i + n = l.length ∧ w' = w ∧ (l.take i).any oddO = false) ?_ l.length ⟨0, rfl, by omega, rfl, rfl⟩
  rintro n v w' X ⟨i, rfl, hi, rfl, ha⟩ hX
  simp only [push_cast, Nat.reduceAdd, Nat.reduceLeDiff, Nat.reduceLT, Int.reduceToNat, Nat.left_eq_add, Nat.add_eq_left, Nat.add_left_cancel_iff, Nat.reduceEqDiff, Nat.add_assoc, Nat.succ_ne_zero]
  refine br_dec (fun hlt => ?_) fun hge => ?_
  · have hil : i < l.length := by omega
    refine s_iaE (es := l.map cellI) h (by omega) (by rw [hlen]; omega) fun b o c hv hE => ?_
    simp only [Int.toNat_natCast, List.getElem_map] at hE ⊢
    have hc := hE.cell0 (by simp [cellI])
    have hc2 : (cellI l[i])[0]? = some (i64 l[i]) := rfl
    rw [hc2] at hc
    simp only [push_cast, Nat.reduceAdd, Nat.reduceLeDiff, Nat.reduceLT, Int.reduceToNat, Nat.left_eq_add, Nat.add_eq_left, Nat.add_left_cancel_iff, Nat.reduceEqDiff, Nat.add_assoc, Nat.succ_ne_zero, hc]
    refine odd_spec ?_
    have hstep : (l.take (i + 1)).any oddO = ((l.take i).any oddO || oddO l[i]) := by
      rw [List.take_add_one, List.getElem?_eq_getElem hil, Option.toList_some, List.any_append]
      simp
    simp only [brn_br]
    refine br_intro (fun e => ?_) fun e => ?_
    · exact h1 (List.any_eq_true.2 ⟨l[i], List.getElem_mem hil, e⟩) i hil
    · have hwk : IntKind.i64.wrap ((i : Int) + 1) = ((i + 1 : Nat) : Int) := by rw [wrap_i64 (by omega)]; rfl
      simp only [push_cast, Nat.reduceAdd, Nat.reduceLeDiff, Nat.reduceLT, Int.reduceToNat, Nat.left_eq_add, Nat.add_eq_left, Nat.add_left_cancel_iff, Nat.reduceEqDiff, Nat.add_assoc, Nat.succ_ne_zero, hwk]
      exact hX (n - 1) _ _ (by omega) ⟨i + 1, rfl, by omega, rfl, by rw [hstep, ha, e]; rfl⟩
  · rw [List.take_of_length_le (by omega)] at ha
    exact hj _ ⟨rfl, ha⟩

theorem anyodd_spec {v : Value} {l : List Int} (h : RdE 1 w v (l.map cellI)) (hl : l.length < 2 ^ 62) (hk : K (.bool (l.any oddO)) w) :
    CallsR Tryz.prog 35 #[v, .func (.func 34) #[] #[]] K w := by
  apply c35
  unfold p35
  simp only [push_cast, Nat.reduceAdd, Nat.reduceLeDiff, Nat.reduceLT, Int.reduceToNat, Nat.left_eq_add, Nat.add_eq_left, Nat.add_left_cancel_iff, Nat.reduceEqDiff, Nat.add_assoc, Nat.succ_ne_zero]
  refine idxodd_spec h hl (fun e => ?_) fun e i hi => ?_
  · rw [e] at hk
    simp only [push_cast, Nat.reduceAdd, Nat.reduceLeDiff, Nat.reduceLT, Int.reduceToNat, Nat.left_eq_add, Nat.add_eq_left, Nat.add_left_cancel_iff, Nat.reduceEqDiff, Nat.add_assoc, Nat.succ_ne_zero]
    exact hk
  · rw [e] at hk
    simp only [push_cast, Nat.reduceAdd, Nat.reduceLeDiff, Nat.reduceLT, Int.reduceToNat, Nat.left_eq_add, Nat.add_eq_left, Nat.add_left_cancel_iff, Nat.reduceEqDiff, Nat.add_assoc, Nat.succ_ne_zero]
    rw [decide_eq_true (by omega)]
    exact hk

/-! ### New -/

theorem s_bs1i {n : Int} (h : ∀ v' w', OwnE 3 1 w' v' [cellI n] → Fr none_ w w' → New w v' → K v' w') : opS Tryz.prog (S.buildS 22 1 [(0, i64 n)]) K w := by
  rw [opS_buildS1 (z := .int .i64 0) (n := 1) (ag := false) (i64 n) rfl rfl (by decide) (by decide)]
  refine h _ _ ⟨.inr ⟨w.heap.size, 0, 1, #[i64 n], rfl, heap_alloc_new _ _, by simp, by simp, rfl⟩, fun e he => ?_⟩ (Fr.alloc _ _ rfl) fun b hb => ?_
  · simp at he; rw [he]; rfl
  · cases hb; exact Nat.le_refl _

theorem BR.lower {N N0 bp vp vm vnb p pb o c sb so sc room : Nat} {ps : List Ent} {fs : FS} (h : BR N w bp vp vm vnb p pb o c sb so sc room ps fs) (hN : N0 ≤ N) : BR N0 w bp vp vm vnb p pb o c sb so sc room ps fs :=
  ⟨h.blk, h.v, h.f, h.s, h.nl, h.ll, h.sl, h.d1, h.d2, h.d3, by have := h.ge; omega⟩
theorem RBR.lower {D D' : Nat → Prop} {N N0 rb vq vnb : Nat} {vL : Value} {fq : Nat} {fL : Value} {sb so sc room : Nat} {fs : FS} (h : RBR D N w rb vq vnb vL fq fL sb so sc room fs) (hN : N0 ≤ N) (hD : ∀ b, rwf rb sb vq vnb vL fq fL b → ¬ D' b) (hD2 : ∀ b, D' b → b < w.heap.size) : RBR D' N0 w rb vq vnb vL fq fL sb so sc room fs :=
  ⟨h.blk, h.v, h.f, h.s, h.nl, h.ll, h.sl, h.z0,
    fun b hb => by obtain ⟨h1, h2, h3, h4, h5⟩ := h.dv b hb; exact ⟨h1, h2, h3, by omega, hD b (.inr (.inr (.inl hb)))⟩,
    fun b hb => by obtain ⟨h1, h2, h3, h4⟩ := h.df b hb; exact ⟨h1, h2, by omega, hD b (.inr (.inr (.inr hb)))⟩,
    by obtain ⟨h1, h2, h3, h4, h5⟩ := h.ds; exact ⟨h1, by omega, by omega, hD _ (.inl rfl), hD _ (.inr (.inl rfl))⟩, hD2⟩

def siteC (id prio : Int) (ov : Value) (room : Int) : List Value := [i64 id, i64 prio, ov, i64 room]
section
variable (id prio : Int) (ov : Value) (room : Int)
theorem siteC_len : (siteC id prio ov room).length = 4 := _root_.id rfl
theorem siteC_0 : (siteC id prio ov room)[0]? = some (i64 id) := _root_.id rfl
theorem siteC_1 : (siteC id prio ov room)[1]? = some (i64 prio) := _root_.id rfl
theorem siteC_2 : (siteC id prio ov room)[2]? = some ov := _root_.id rfl
theorem siteC_3 : (siteC id prio ov room)[3]? = some (i64 room) := _root_.id rfl
theorem siteC_dw : ((siteC id prio ov room).drop 0).take 4 = siteC id prio ov room := _root_.id rfl
theorem siteC_s2 (v : Value) : splice (siteC id prio ov room) 2 [v] = siteC id prio v room := _root_.id rfl
theorem siteC_sw (a b : Int) (v : Value) (c : Int) : splice (siteC id prio ov room) 0 (siteC a b v c) = siteC a b v c := _root_.id rfl
end
attribute [push_cast] siteC_len siteC_0 siteC_1 siteC_2 siteC_3 siteC_dw siteC_s2 siteC_sw

theorem build_ch (kp : Nat) (id : Int) (r : Option Addr) (n c um bp sp : Nat) : opS Tryz.prog (S.build 102 [(0, pt kp 0), (1, i64 id), (2, .slice r n c), (3, .map (some um)), (4, pt bp 0), (5, pt sp 0)]) K w = K (.agg [pt kp 0, i64 id, .slice r n c, .map (some um), pt bp 0, pt sp 0, .pointer none, .bool false, i64 0, i64 0, i64 0].toArray) w := by
  rw [opS_build _ rfl]; rfl

theorem cnew_spec {id prio room life : Int} {ov : Value} {owner : List Int} {N0 : Nat} (hN : N0 ≤ w.heap.size) (ho : RdE 1 w ov (owner.map cellI)) (hl : owner.length < 2 ^ 40)
    (h0 : ∀ w', Fr none_ w w' → ¬ newOk id prio owner room life → K (.tuple #[.pointer none, i64 1]) w')
    (h1 : newOk id prio owner room life → ∀ w' a, CM N0 w' room.toNat a (newCh id prio owner life) → (∀ b, a.all b → w.heap.size ≤ b) → Fr none_ w w' → K (.tuple #[pt a.cp 0, i64 0]) w') :
    CallsR Tryz.prog 10 #[.agg (siteC id prio ov room).toArray, i64 life] K w := by
  apply c10
  unfold p10
  unfold newOk at h0 h1
  have hlenC : (owner.map cellI).length = owner.length := by simp
  obtain ⟨oa, oc, rfl⟩ := ho.form
  rw [hlenC] at *
  have hF1 : Fr none_ w (w.alloc (cellsO (siteC id prio (.slice oa owner.length oc) room) 24)) := (by repeat' first | with_reducible exact Fr.refl _ _ | with_reducible refine Fr.step_alloc ?_ ?_ | with_reducible refine Fr.step_drew ?_ | with_reducible refine Fr.step_wr ?_ ?_ _ _ | exact rfl | exact Or.inr (by omega) | exact Or.inl rfl | exact Or.inl (Or.inl rfl) | exact Or.inl (Or.inr rfl))
  have hx : (w.alloc (cellsO (siteC id prio (.slice oa owner.length oc) room) 24)).heap[w.heap.size]? = some (cellsO (siteC id prio (.slice oa owner.length oc) room) 24) := by simp only [push_cast, Nat.reduceAdd, Nat.reduceLeDiff, Nat.reduceLT, Int.reduceToNat, Nat.left_eq_add, Nat.add_eq_left, Nat.add_left_cancel_iff, Nat.reduceEqDiff, Nat.add_assoc, Nat.succ_ne_zero]
  simp only [opS_box, cells_agg, alloc_cellsO]
  replace ho := ho.fr hF1 fun _ _ h => h
  have hxs := lt_of_heap hx
  generalize w.alloc (cellsO (siteC id prio (.slice oa owner.length oc) room) 24) = w1 at *
  generalize hxb : w.heap.size = xb at *
  simp only [push_cast, Nat.reduceAdd, Nat.reduceLeDiff, Nat.reduceLT, Int.reduceToNat, Nat.left_eq_add, Nat.add_eq_left, Nat.add_left_cancel_iff, Nat.reduceEqDiff, Nat.add_assoc, Nat.succ_ne_zero, hx]
  refine br_dec (fun e => h0 _ hF1 fun h => by omega) fun g1 => ?_
  refine br_dec (fun e => h0 _ hF1 fun h => by omega) fun g2 => ?_
  refine anyodd_spec ho (by omega) ?_
  simp only [brn_br]
  refine br_intro (fun e => h0 _ hF1 fun h => by rw [h.2.2.1] at e; cases e) fun g3 => ?_
  simp only [push_cast, Nat.reduceAdd, Nat.reduceLeDiff, Nat.reduceLT, Int.reduceToNat, Nat.left_eq_add, Nat.add_eq_left, Nat.add_left_cancel_iff, Nat.reduceEqDiff, Nat.add_assoc, Nat.succ_ne_zero, hx]
  refine snew_spec (fun e => ?_) fun hA => ?_
  · simp only [push_cast, Nat.reduceAdd, Nat.reduceLeDiff, Nat.reduceLT, Int.reduceToNat, Nat.left_eq_add, Nat.add_eq_left, Nat.add_left_cancel_iff, Nat.reduceEqDiff, Nat.add_assoc, Nat.succ_ne_zero]
    exact h0 _ hF1 fun h => e h.1
  have hF2 : Fr none_ w1 (w1.alloc (cellsO (Ses.new id prio life).c 112)) := (by repeat' first | with_reducible exact Fr.refl _ _ | with_reducible refine Fr.step_alloc ?_ ?_ | with_reducible refine Fr.step_drew ?_ | with_reducible refine Fr.step_wr ?_ ?_ _ _ | exact rfl | exact Or.inr (by omega) | exact Or.inl rfl | exact Or.inl (Or.inl rfl) | exact Or.inl (Or.inr rfl))
  have hs2 : (w1.alloc (cellsO (Ses.new id prio life).c 112)).heap[w1.heap.size]? = some (cellsO (Ses.new id prio life).c 112) := by simp only [push_cast, Nat.reduceAdd, Nat.reduceLeDiff, Nat.reduceLT, Int.reduceToNat, Nat.left_eq_add, Nat.add_eq_left, Nat.add_left_cancel_iff, Nat.reduceEqDiff, Nat.add_assoc, Nat.succ_ne_zero]
  have hz2 : (w1.alloc (cellsO (Ses.new id prio life).c 112)).heap.size = w1.heap.size + 1 := size_alloc _ _
  replace hx := hF2.heap hx fun h => h
  replace ho := ho.fr hF2 fun _ _ h => h
  generalize w1.alloc (cellsO (Ses.new id prio life).c 112) = w2 at *
  generalize hsp : w1.heap.size = sp at *
  simp only [push_cast, Nat.reduceAdd, Nat.reduceLeDiff, Nat.reduceLT, Int.reduceToNat, Nat.left_eq_add, Nat.add_eq_left, Nat.add_left_cancel_iff, Nat.reduceEqDiff, Nat.add_assoc, Nat.succ_ne_zero, hx, bne_self_eq_false]
  refine fnew_spec (N0 := w2.heap.size) _ _ (Nat.le_refl _) (fun w3 hF3 e => ?_) fun r1 r2 r3 r4 w3 bp vp vm vnb p pb o c sb ps hB hF3 => ?_
  · have e1 : ((1 : Int) != 0) = true := by decide
    simp only [push_cast, Nat.reduceAdd, Nat.reduceLeDiff, Nat.reduceLT, Int.reduceToNat, Nat.left_eq_add, Nat.add_eq_left, Nat.add_left_cancel_iff, Nat.reduceEqDiff, Nat.add_assoc, Nat.succ_ne_zero, e1]
    exact h0 _ ((hF1.trans hF2).trans hF3) fun h => e (by omega)
  have hbl := hB.lt
  have hbg := hB.ge
  replace hx := hF3.heap hx fun h => h
  replace ho := ho.fr hF3 fun _ _ h => h
  replace hs2 := hF3.heap hs2 fun h => h
  have hz3 := hF3.size
  simp only [push_cast, Nat.reduceAdd, Nat.reduceLeDiff, Nat.reduceLT, Int.reduceToNat, Nat.left_eq_add, Nat.add_eq_left, Nat.add_left_cancel_iff, Nat.reduceEqDiff, Nat.add_assoc, Nat.succ_ne_zero, hx, bne_self_eq_false]
  refine knew_spec (by omega) fun w4 hK hF4 => ?_
  have hkl := hK.lt
  replace hx := hF4.heap hx fun h => h
  replace ho := ho.fr hF4 fun _ _ h => h
  replace hs2 := hF4.heap hs2 fun h => h
  replace hB := hB.fr0 hF4
  have hz4 := hF4.size
  have hk1 := hkl _ (.inl rfl)
  have hk2 := hkl _ (.inr rfl)
  rw [Int.toNat_natCast] at hK
  simp only [push_cast, Nat.reduceAdd, Nat.reduceLeDiff, Nat.reduceLT, Int.reduceToNat, Nat.left_eq_add, Nat.add_eq_left, Nat.add_left_cancel_iff, Nat.reduceEqDiff, Nat.add_assoc, Nat.succ_ne_zero]
  refine s_bs1i fun v5 w5 hv5 hF5 hN5 => ?_
  replace hx := hF5.heap hx fun h => h
  replace ho := ho.fr hF5 fun _ _ h => h
  replace hs2 := hF5.heap hs2 fun h => h
  replace hB := hB.fr0 hF5
  replace hK := hK.fr0 hF5
  have hz5 := hF5.size
  have hv5l : ∀ b, blkS v5 = some b → b < w5.heap.size := fun b hb => hv5.lt hb
  simp only [push_cast, Nat.reduceAdd, Nat.reduceLeDiff, Nat.reduceLT, Int.reduceToNat, Nat.left_eq_add, Nat.add_eq_left, Nat.add_left_cancel_iff, Nat.reduceEqDiff, Nat.add_assoc, Nat.succ_ne_zero, hx]
  have hone : (owner.map cellI).flatten.all S.oneCell = true := by
    rw [List.all_flatten, List.all_map]
    exact List.all_eq_true.2 fun q _ => rfl
  refine s_app (sz := 1) (by_ := 8) (z := .int .i64 0) rfl (by decide) hv5 ho hone (by rw [List.length_map, List.length_singleton]; omega) fun v6 w6 hv6 hb6 hF6 => ?_
  have hnw : ∀ {b}, b < w5.heap.size → b < w4.heap.size → ¬ blkS v5 = some b := fun h1 h2 e => by have := hN5 _ e; omega
  have hx6 := hF6.heap hx (hnw (by omega) (by omega))
  have hs6 := hF6.heap hs2 (hnw (by omega) (by omega))
  have hB6 := hB.fr hF6 fun b hb => hnw (by rcases hb with e | e | e | e | e | e | e <;> omega) (by rcases hb with e | e | e | e | e | e | e <;> omega)
  have hK6 := hK.fr hF6 fun b hb => hnw (by rcases hb with e | e <;> omega) (by rcases hb with e | e <;> omega)
  have hz6 := hF6.size
  have hv6l : ∀ b, blkS v6 = some b → b < w6.heap.size := fun b hb => hv6.lt hb
  have hv6n : ∀ b, blkS v6 = some b → w4.heap.size ≤ b := fun b hb => by
    rcases hb6 with e | e
    · exact hN5 b (e ▸ hb)
    · have := e b hb; omega
  have hF06 : Fr none_ w w6 := ((((hF1.trans hF2).trans hF3).trans hF4).trans hF5).trans_new hF6 fun b hb e => by have := hN5 _ e; have := hF1.size; omega
  simp only [push_cast, Nat.reduceAdd, Nat.reduceLeDiff, Nat.reduceLT, Int.reduceToNat, Nat.left_eq_add, Nat.add_eq_left, Nat.add_left_cancel_iff, Nat.reduceEqDiff, Nat.add_assoc, Nat.succ_ne_zero, hx6]
  refine s_mkm (kc := kI) (vc := Value.bool) (kok := isI) (κ := Int) (ν := Bool) fun w7 hm7 hF7 hz7 => ?_
  obtain ⟨v6a, v6c, rfl⟩ := hv6.rd.form
  rw [build_ch]
  simp only [push_cast, Nat.reduceAdd, Nat.reduceLeDiff, Nat.reduceLT, Int.reduceToNat, Nat.left_eq_add, Nat.add_eq_left, Nat.add_left_cancel_iff, Nat.reduceEqDiff, Nat.add_assoc, Nat.succ_ne_zero]
  have hF8 : Fr none_ w7 (w7.alloc (cellsO [pt (w3.heap.size + 1) 0, i64 id, .slice v6a ([cellI (-1)] ++ owner.map cellI).length v6c, .map (some w6.heap.size), pt bp 0, pt sp 0, .pointer none, .bool false, i64 0, i64 0, i64 0] 102)) := (by repeat' first | with_reducible exact Fr.refl _ _ | with_reducible refine Fr.step_alloc ?_ ?_ | with_reducible refine Fr.step_drew ?_ | with_reducible refine Fr.step_wr ?_ ?_ _ _ | exact rfl | exact Or.inr (by omega) | exact Or.inl rfl | exact Or.inl (Or.inl rfl) | exact Or.inl (Or.inr rfl))
  have hF68 := hF7.trans hF8
  refine h1 ⟨hA, by omega, g3, by omega⟩ _ ⟨w7.heap.size, w3.heap.size + 1, w3.heap.size, w6.heap.size, sp, .slice v6a ([cellI (-1)] ++ owner.map cellI).length v6c, .pointer none, bp, vp, vm, vnb, p, pb, o, c, sb, 0, ((owner.length : Int) + 1).toNat, ps, fun _ => False⟩ ⟨?_, hK6.fr0 hF68, ?_, fun b hb => ?_, hm7.fr hF8 fun h => h, hF68.heap hs6 fun h => h, (hB6.lower (by omega)).fr0 hF68, rfl, fun _ e => e.elim, ?_, ?_⟩ ?_ (hF06.trans hF68)
  · simp only [push_cast, Nat.reduceAdd, Nat.reduceLeDiff, Nat.reduceLT, Int.reduceToNat, Nat.left_eq_add, Nat.add_eq_left, Nat.add_left_cancel_iff, Nat.reduceEqDiff, Nat.add_assoc, Nat.succ_ne_zero]
    rfl
  · exact hv6.rd.fr hF68 fun _ _ h => h
  · exact Nat.lt_of_lt_of_le (hv6l b hb) hF68.size
  · intro i j b hi hj
    have key : ∀ i, (CA.G ⟨w7.heap.size, w3.heap.size + 1, w3.heap.size, w6.heap.size, sp, .slice v6a ([cellI (-1)] ++ owner.map cellI).length v6c, .pointer none, bp, vp, vm, vnb, p, pb, o, c, sb, 0, ((owner.length : Int) + 1).toNat, ps, fun _ => False⟩ i b) → i = if b < w2.heap.size then 4 else if b < w3.heap.size then 5 else if b < w4.heap.size then 1 else if b < w6.heap.size then 2 else if b < w7.heap.size then 3 else 0 := fun i hi => by
      match i, hi with
      | 0, hi => have hi : b = w7.heap.size := hi; rw [if_neg (by omega), if_neg (by omega), if_neg (by omega), if_neg (by omega), if_neg (by omega)]
      | 1, hi =>
        have hi : b = w3.heap.size + 1 ∨ b = w3.heap.size := hi
        rw [if_neg (by omega), if_neg (by omega), if_pos (by omega)]
      | 2, hi =>
        have h1 := hv6n b hi
        have h2 := hv6l b hi
        rw [if_neg (by omega), if_neg (by omega), if_neg (by omega), if_pos h2]
      | 3, hi => have hi : b = w6.heap.size := hi; rw [if_neg (by omega), if_neg (by omega), if_neg (by omega), if_neg (by omega), if_pos (by omega)]
      | 4, hi => have hi : b = sp := hi; rw [if_pos (by omega)]
      | 5, hi =>
        have hi : pB bp vp vm vnb p pb sb b := hi
        unfold pB at hi
        rw [if_neg (by omega), if_pos (by omega)]
      | 6, hi => exact (hi : False).elim
    rw [key i hi, key j hj]
  all_goals
    rintro b ⟨i, hi⟩
    match i, hi with
    | 0, hi => have hi : b = w7.heap.size := hi; omega
    | 1, hi =>
      have hi : b = w3.heap.size + 1 ∨ b = w3.heap.size := hi
      omega
    | 2, hi => have h1 := hv6n b hi; omega
    | 3, hi => have hi : b = w6.heap.size := hi; omega
    | 4, hi => have hi : b = sp := hi; omega
    | 5, hi =>
      have hi : pB bp vp vm vnb p pb sb b := hi
      unfold pB at hi
      omega
    | 6, hi => exact (hi : False).elim

theorem build_chR (id prio : Int) (r : Option Addr) (n c : Nat) (room : Int) (rb sp kp : Nat) (r2 : Option Addr) (n2 c2 : Nat) : opS Tryz.prog (S.build 45 [(0, .agg (siteC id prio (.slice r n c) room).toArray), (1, pt rb 0), (2, pt sp 0), (3, pt kp 0), (4, .slice r2 n2 c2)]) K w = K (.agg [i64 id, i64 prio, .slice r n c, i64 room, pt rb 0, pt sp 0, pt kp 0, .slice r2 n2 c2, .pointer none, .bool false, i64 0, i64 0, i64 0].toArray) w := by
  rw [opS_build _ rfl]; rfl

theorem zeros_boolC (n : Nat) : zeros n [.bool false] = ((List.replicate n false).map cellB).flatten := by
  unfold zeros
  rw [List.map_replicate]
  rfl
theorem own_newB {b n : Nat} (h : w.heap[b]? = some (cellsO (zeros n [.bool false]) 4)) : OwnE 4 1 w (.slice (some ⟨b, 0, none⟩) n n) ((List.replicate n false).map cellB) := by
  have hfl : ((List.replicate n false).map cellB).flatten.length = n := by
    rw [List.map_replicate, List.length_flatten, List.map_replicate]
    simp [cellB]
  refine ⟨.inr ⟨b, 0, n, _, ?_, h, ?_, ?_, ?_⟩, fun e he => ?_⟩
  · rw [List.length_map, List.length_replicate]
  · rw [List.length_map, List.length_replicate]; exact Nat.le_refl _
  · rw [zeros_boolC, List.size_toArray, hfl]; omega
  · rw [zeros_boolC, List.length_map, List.length_replicate, List.drop_zero, List.take_of_length_le (by rw [List.toList_toArray, hfl]; omega)]
  · obtain ⟨x, _, rfl⟩ := List.mem_map.1 he
    rfl
theorem upL_new (n : Nat) : upL n [] = List.replicate (n + 1) false := by
  unfold upL
  apply List.ext_getElem
  · simp
  · intro i h1 h2
    rw [List.getElem_map, List.getElem_replicate]
    rfl

theorem rcnew_spec {id prio room life : Int} {ov : Value} {owner : List Int} {N0 : Nat} (hN : N0 ≤ w.heap.size) (ho : RdE 1 w ov (owner.map cellI)) (hl : owner.length < 2 ^ 40)
    (h0 : ∀ w', Fr none_ w w' → ¬ newOk id prio owner room life → K (.tuple #[.pointer none, i64 1]) w')
    (h1 : newOk id prio owner room life → ∀ w' a, RM N0 w' room.toNat a (newCh id prio owner life) → (∀ b, a.all b → w.heap.size ≤ b) → Fr none_ w w' → K (.tuple #[pt a.rp 0, i64 0]) w') :
    CallsR Tryz.prog 11 #[.agg (siteC id prio ov room).toArray, i64 life] K w := by
  apply c11
  unfold p11
  unfold newOk at h0 h1
  have hlenC : (owner.map cellI).length = owner.length := by simp
  obtain ⟨oa, oc, rfl⟩ := ho.form
  rw [hlenC] at *
  have hF1 : Fr none_ w (w.alloc (cellsO (siteC id prio (.slice oa owner.length oc) room) 24)) := (by repeat' first | with_reducible exact Fr.refl _ _ | with_reducible refine Fr.step_alloc ?_ ?_ | with_reducible refine Fr.step_drew ?_ | with_reducible refine Fr.step_wr ?_ ?_ _ _ | exact rfl | exact Or.inr (by omega) | exact Or.inl rfl | exact Or.inl (Or.inl rfl) | exact Or.inl (Or.inr rfl))
  have hx : (w.alloc (cellsO (siteC id prio (.slice oa owner.length oc) room) 24)).heap[w.heap.size]? = some (cellsO (siteC id prio (.slice oa owner.length oc) room) 24) := by simp only [push_cast, Nat.reduceAdd, Nat.reduceLeDiff, Nat.reduceLT, Int.reduceToNat, Nat.left_eq_add, Nat.add_eq_left, Nat.add_left_cancel_iff, Nat.reduceEqDiff, Nat.add_assoc, Nat.succ_ne_zero]
  simp only [opS_box, cells_agg, alloc_cellsO]
  replace ho := ho.fr hF1 fun _ _ h => h
  have hxs := lt_of_heap hx
  generalize w.alloc (cellsO (siteC id prio (.slice oa owner.length oc) room) 24) = w1 at *
  generalize hxb : w.heap.size = xb at *
  simp only [push_cast, Nat.reduceAdd, Nat.reduceLeDiff, Nat.reduceLT, Int.reduceToNat, Nat.left_eq_add, Nat.add_eq_left, Nat.add_left_cancel_iff, Nat.reduceEqDiff, Nat.add_assoc, Nat.succ_ne_zero, hx]
  refine rsnew_spec (fun e => ?_) fun hA => ?_
  · simp only [push_cast, Nat.reduceAdd, Nat.reduceLeDiff, Nat.reduceLT, Int.reduceToNat, Nat.left_eq_add, Nat.add_eq_left, Nat.add_left_cancel_iff, Nat.reduceEqDiff, Nat.add_assoc, Nat.succ_ne_zero]
    exact h0 _ hF1 fun h => e h.1
  have hF2 : Fr none_ w1 (w1.alloc (cellsO (Ses.new id prio life).r 37)) := (by repeat' first | with_reducible exact Fr.refl _ _ | with_reducible refine Fr.step_alloc ?_ ?_ | with_reducible refine Fr.step_drew ?_ | with_reducible refine Fr.step_wr ?_ ?_ _ _ | exact rfl | exact Or.inr (by omega) | exact Or.inl rfl | exact Or.inl (Or.inl rfl) | exact Or.inl (Or.inr rfl))
  have hs2 : (w1.alloc (cellsO (Ses.new id prio life).r 37)).heap[w1.heap.size]? = some (cellsO (Ses.new id prio life).r 37) := by simp only [push_cast, Nat.reduceAdd, Nat.reduceLeDiff, Nat.reduceLT, Int.reduceToNat, Nat.left_eq_add, Nat.add_eq_left, Nat.add_left_cancel_iff, Nat.reduceEqDiff, Nat.add_assoc, Nat.succ_ne_zero]
  have hz2 : (w1.alloc (cellsO (Ses.new id prio life).r 37)).heap.size = w1.heap.size + 1 := size_alloc _ _
  replace hx := hF2.heap hx fun h => h
  replace ho := ho.fr hF2 fun _ _ h => h
  generalize w1.alloc (cellsO (Ses.new id prio life).r 37) = w2 at *
  generalize hsp : w1.heap.size = sp at *
  simp only [push_cast, Nat.reduceAdd, Nat.reduceLeDiff, Nat.reduceLT, Int.reduceToNat, Nat.left_eq_add, Nat.add_eq_left, Nat.add_left_cancel_iff, Nat.reduceEqDiff, Nat.add_assoc, Nat.succ_ne_zero, hx, bne_self_eq_false]
  refine br_dec (fun e => h0 _ (hF1.trans hF2) fun h => by omega) fun g1 => ?_
  refine br_dec (fun e => h0 _ (hF1.trans hF2) fun h => by omega) fun g2 => ?_
  refine jn0 (fun w' => w' = w2 ∧ owner.any oddO = false) ?_ fun j hj => ?_
  · rintro w' ⟨rfl, g3⟩
    simp only [push_cast, Nat.reduceAdd, Nat.reduceLeDiff, Nat.reduceLT, Int.reduceToNat, Nat.left_eq_add, Nat.add_eq_left, Nat.add_left_cancel_iff, Nat.reduceEqDiff, Nat.add_assoc, Nat.succ_ne_zero, hx]
    refine rfnew_spec (D := fun _ => False) (N0 := w'.heap.size) _ _ (Nat.le_refl _) (fun _ e => e.elim) (fun w3 hF3 e => ?_) fun r1 r2 r3 r4 w3 rb vq vnb vL fq fL sb hB hF3 => ?_
    · have e1 : ((1 : Int) != 0) = true := by decide
      simp only [push_cast, Nat.reduceAdd, Nat.reduceLeDiff, Nat.reduceLT, Int.reduceToNat, Nat.left_eq_add, Nat.add_eq_left, Nat.add_left_cancel_iff, Nat.reduceEqDiff, Nat.add_assoc, Nat.succ_ne_zero, e1]
      exact h0 _ ((hF1.trans hF2).trans hF3) fun h => e (by omega)
    have hbl : ∀ b, rwf rb sb vq vnb vL fq fL b → b < w3.heap.size := fun b hb => hB.lt hb
    have hbg : ∀ b, rwf rb sb vq vnb vL fq fL b → w'.heap.size ≤ b := fun b hb => (hB.ge hb).1
    replace hx := hF3.heap hx fun h => h
    replace ho := ho.fr hF3 fun _ _ h => h
    replace hs2 := hF3.heap hs2 fun h => h
    have hz3 := hF3.size
    simp only [push_cast, Nat.reduceAdd, Nat.reduceLeDiff, Nat.reduceLT, Int.reduceToNat, Nat.left_eq_add, Nat.add_eq_left, Nat.add_left_cancel_iff, Nat.reduceEqDiff, Nat.add_assoc, Nat.succ_ne_zero, hx, bne_self_eq_false]
    refine s_bs0 (sz := 1) fun v5 w5 hv5 hF5 hN5 => ?_
    replace hx := hF5.heap hx fun h => h
    replace ho := ho.fr hF5 fun _ _ h => h
    replace hs2 := hF5.heap hs2 fun h => h
    replace hB := hB.fr0 hF5
    have hz5 := hF5.size
    simp only [push_cast, Nat.reduceAdd, Nat.reduceLeDiff, Nat.reduceLT, Int.reduceToNat, Nat.left_eq_add, Nat.add_eq_left, Nat.add_left_cancel_iff, Nat.reduceEqDiff, Nat.add_assoc, Nat.succ_ne_zero, hx]
    have hone : (owner.map cellI).flatten.all S.oneCell = true := by
      rw [List.all_flatten, List.all_map]
      exact List.all_eq_true.2 fun q _ => rfl
    refine s_app (sz := 1) (by_ := 8) (z := .int .i64 0) rfl (by decide) hv5 ho hone (by rw [List.length_map, List.length_nil]; omega) fun v6 w6 hv6 hb6 hF6 => ?_
    have hnw : ∀ {b}, b < w3.heap.size → ¬ blkS v5 = some b := fun h2 e => by have := hN5 _ e; omega
    have hx6 := hF6.heap hx (hnw (by omega))
    have hs6 := hF6.heap hs2 (hnw (by omega))
    have hB6 := hB.fr hF6 fun b hb => hnw (hbl b hb)
    have hz6 := hF6.size
    have hv6l : ∀ b, blkS v6 = some b → b < w6.heap.size := fun b hb => hv6.lt hb
    have hv6n : ∀ b, blkS v6 = some b → w3.heap.size ≤ b := fun b hb => by
      rcases hb6 with e | e
      · exact hN5 b (e ▸ hb)
      · have := e b hb; omega
    have hF06 : Fr none_ w w6 := ((((hF1.trans hF2).trans hF3)).trans hF5).trans_new hF6 fun b hb e => by have := hN5 _ e; have := hF1.size; omega
    obtain ⟨v6a, v6c, rfl⟩ := hv6.rd.form
    have hlen6 : ([] ++ owner.map cellI : List (List Value)).length = owner.length := by simp
    have hv6l' : ∀ b, blkS (.slice v6a owner.length v6c) = some b → b < w6.heap.size := fun b hb => hv6l b (by rw [hlen6]; exact hb)
    have hv6n' : ∀ b, blkS (.slice v6a owner.length v6c) = some b → w3.heap.size ≤ b := fun b hb => hv6n b (by rw [hlen6]; exact hb)
    replace hv6l := hv6l'
    replace hv6n := hv6n'
    rw [hlen6] at *
    simp only [List.nil_append] at hv6
    rw [List.length_map] at hv6
    have hF7 : Fr (fun b => b = xb) w6 (wr w6 xb 2 [.slice v6a owner.length v6c]) := Fr.wr w6 _ _ _ rfl
    have hx7 : (wr w6 xb 2 [.slice v6a owner.length v6c]).heap[xb]? = some (cellsO (siteC id prio (.slice v6a owner.length v6c) room) 24) := by simp only [push_cast, Nat.reduceAdd, Nat.reduceLeDiff, Nat.reduceLT, Int.reduceToNat, Nat.left_eq_add, Nat.add_eq_left, Nat.add_left_cancel_iff, Nat.reduceEqDiff, Nat.add_assoc, Nat.succ_ne_zero, hx6]
    have hs7 := hF7.heap hs6 (by omega)
    have hB7 := hB6.fr hF7 fun b hb => by have := hbg b hb; omega
    have hv7 := hv6.fr hF7 fun b hb => by have := hv6n b hb; omega
    have hz7 : (wr w6 xb 2 [.slice v6a owner.length v6c]).heap.size = w6.heap.size := size_wr _ _ _ _
    have hF07 : Fr none_ w (wr w6 xb 2 [.slice v6a owner.length v6c]) := hF06.trans_new hF7 fun b hb e => by omega
    simp only [push_cast, Nat.reduceAdd, Nat.reduceLeDiff, Nat.reduceLT, Int.reduceToNat, Nat.left_eq_add, Nat.add_eq_left, Nat.add_left_cancel_iff, Nat.reduceEqDiff, Nat.add_assoc, Nat.succ_ne_zero, hx6]
    generalize wr w6 xb 2 [.slice v6a owner.length v6c] = w7 at *
    refine rknew_spec (by omega) fun w8 hK hF8 => ?_
    have hkl := hK.lt
    have hk1 := hkl _ (.inl rfl)
    have hk2 := hkl _ (.inr rfl)
    rw [Int.toNat_natCast] at hK
    have hz8 := hF8.size
    have hF8d : Fr none_ w7 w8.drew := hF8.step_drew
    have hx8 := hF8d.heap hx7 fun h => h
    have hs8 := hF8d.heap hs7 fun h => h
    have hB8 := hB7.fr0 hF8d
    have hv8 := hv7.fr hF8d fun _ _ h => h
    have hK8 := hK.fr0 (Fr.drew w8)
    have hzd : w8.drew.heap.size = w8.heap.size := rfl
    have hF08 := hF07.trans hF8d
    have hwn : IntKind.i64.wrap ((owner.length : Int) + 1) = (owner.length : Int) + 1 := wrap_i64 (by omega)
    have htn : ((owner.length : Int) + 1).toNat = owner.length + 1 := by omega
    simp only [push_cast, Nat.reduceAdd, Nat.reduceLeDiff, Nat.reduceLT, Int.reduceToNat, Nat.left_eq_add, Nat.add_eq_left, Nat.add_left_cancel_iff, Nat.reduceEqDiff, Nat.add_assoc, Nat.succ_ne_zero, hx8, hwn]
    rw [← hzd] at hk1 hk2 hz8
    generalize w8.drew = w9 at *
    have last : opS Tryz.prog (S.build 45 [(0, .agg (siteC id prio (.slice v6a owner.length v6c) room).toArray), (1, pt rb 0), (2, pt sp 0), (3, pt (w7.heap.size + 1) 0), (4, .slice (some ⟨w9.heap.size, 0, none⟩) (owner.length + 1) (owner.length + 1))]) (fun x46 => opS Tryz.prog (S.box 45 x46) fun x47 => K (.tuple #[x47, i64 0])) (w9.alloc (cellsO (zeros (owner.length + 1) [.bool false]) 4)) := by
      rw [build_chR]
      have hF9 : Fr none_ w9 (w9.alloc (cellsO (zeros (owner.length + 1) [.bool false]) 4)) := (by repeat' first | with_reducible exact Fr.refl _ _ | with_reducible refine Fr.step_alloc ?_ ?_ | with_reducible refine Fr.step_drew ?_ | with_reducible refine Fr.step_wr ?_ ?_ _ _ | exact rfl | exact Or.inr (by omega) | exact Or.inl rfl | exact Or.inl (Or.inl rfl) | exact Or.inl (Or.inr rfl))
      have hu9 : (w9.alloc (cellsO (zeros (owner.length + 1) [.bool false]) 4)).heap[w9.heap.size]? = some (cellsO (zeros (owner.length + 1) [.bool false]) 4) := by simp only [push_cast, Nat.reduceAdd, Nat.reduceLeDiff, Nat.reduceLT, Int.reduceToNat, Nat.left_eq_add, Nat.add_eq_left, Nat.add_left_cancel_iff, Nat.reduceEqDiff, Nat.add_assoc, Nat.succ_ne_zero]
      have hz9 : (w9.alloc (cellsO (zeros (owner.length + 1) [.bool false]) 4)).heap.size = w9.heap.size + 1 := size_alloc _ _
      generalize w9.alloc (cellsO (zeros (owner.length + 1) [.bool false]) 4) = wa at *
      simp only [push_cast, Nat.reduceAdd, Nat.reduceLeDiff, Nat.reduceLT, Int.reduceToNat, Nat.left_eq_add, Nat.add_eq_left, Nat.add_left_cancel_iff, Nat.reduceEqDiff, Nat.add_assoc, Nat.succ_ne_zero]
      have hFa : Fr none_ wa (wa.alloc (cellsO [i64 id, i64 prio, .slice v6a owner.length v6c, i64 room, pt rb 0, pt sp 0, pt (w7.heap.size + 1) 0, .slice (some ⟨w9.heap.size, 0, none⟩) (owner.length + 1) (owner.length + 1), .pointer none, .bool false, i64 0, i64 0, i64 0] 45)) := (by repeat' first | with_reducible exact Fr.refl _ _ | with_reducible refine Fr.step_alloc ?_ ?_ | with_reducible refine Fr.step_drew ?_ | with_reducible refine Fr.step_wr ?_ ?_ _ _ | exact rfl | exact Or.inr (by omega) | exact Or.inl rfl | exact Or.inl (Or.inl rfl) | exact Or.inl (Or.inr rfl))
      have hF9a := hF9.trans hFa
      refine h1 ⟨hA, by omega, g3, by omega⟩ _ ⟨wa.heap.size, w7.heap.size + 1, w7.heap.size, sp, .slice v6a owner.length v6c, .slice (some ⟨w9.heap.size, 0, none⟩) (owner.length + 1) (owner.length + 1), .pointer none, rb, vq, vnb, vL, fq, fL, sb, 0, ((owner.length : Int) + 1).toNat, fun _ => False⟩ ⟨?_, hK8.fr0 hF9a, ?_, fun b hb => ?_, ?_, hF9a.heap hs8 fun h => h, (hB8.lower (by omega) (fun _ _ e => e) fun _ e => e.elim).fr0 hF9a, rfl, fun _ e => e.elim, ?_, ?_⟩ ?_ (hF08.trans hF9a)
      · have hroom : ((room.toNat : Nat) : Int) = room := by omega
        unfold chR
        simp only [push_cast, Nat.reduceAdd, Nat.reduceLeDiff, Nat.reduceLT, Int.reduceToNat, Nat.left_eq_add, Nat.add_eq_left, Nat.add_left_cancel_iff, Nat.reduceEqDiff, Nat.add_assoc, Nat.succ_ne_zero, hroom]
        rfl
      · exact hv8.rd.fr hF9a fun _ _ h => h
      · have := hv6l b hb; have := hF9a.size; omega
      · show OwnE 4 1 _ _ ((upL owner.length []).map cellB)
        rw [upL_new]
        exact (own_newB hu9).fr hFa fun _ _ h => h
      · intro i j b hi hj
        have key : ∀ i, (RA.G ⟨wa.heap.size, w7.heap.size + 1, w7.heap.size, sp, .slice v6a owner.length v6c, .slice (some ⟨w9.heap.size, 0, none⟩) (owner.length + 1) (owner.length + 1), .pointer none, rb, vq, vnb, vL, fq, fL, sb, 0, ((owner.length : Int) + 1).toNat, fun _ => False⟩ i b) → i = if b < w'.heap.size then 4 else if b < w3.heap.size then 5 else if b < w7.heap.size then 2 else if b < w9.heap.size then 1 else if b < wa.heap.size then 3 else 0 := fun i hi => by
          match i, hi with
          | 0, hi => have hi : b = wa.heap.size := hi; rw [if_neg (by omega), if_neg (by omega), if_neg (by omega), if_neg (by omega), if_neg (by omega)]
          | 1, hi =>
            have hi : b = w7.heap.size + 1 ∨ b = w7.heap.size := hi
            rw [if_neg (by omega), if_neg (by omega), if_neg (by omega), if_pos (by omega)]
          | 2, hi =>
            have h1 := hv6n b hi
            have h2 := hv6l b hi
            rw [if_neg (by omega), if_neg (by omega), if_pos (by omega)]
          | 3, hi =>
            have hi : some w9.heap.size = some b := hi
            simp only [Option.some.injEq] at hi
            rw [if_neg (by omega), if_neg (by omega), if_neg (by omega), if_neg (by omega), if_pos (by omega)]
          | 4, hi => have hi : b = sp := hi; rw [if_pos (by omega)]
          | 5, hi =>
            have h1 := hbl b hi
            have h2 := hbg b hi
            rw [if_neg (by omega), if_pos (by omega)]
          | 6, hi => exact (hi : False).elim
        rw [key i hi, key j hj]
      all_goals
        rintro b ⟨i, hi⟩
        match i, hi with
        | 0, hi => have hi : b = wa.heap.size := hi; omega
        | 1, hi =>
          have hi : b = w7.heap.size + 1 ∨ b = w7.heap.size := hi
          omega
        | 2, hi => have h1 := hv6n b hi; omega
        | 3, hi =>
          have hi : some w9.heap.size = some b := hi
          simp only [Option.some.injEq] at hi
          omega
        | 4, hi => have hi : b = sp := hi; omega
        | 5, hi => have h2 := hbg b hi; omega
        | 6, hi => exact (hi : False).elim
    refine allW_intro ?_ ?_
    · simp only [push_cast, Nat.reduceAdd, Nat.reduceLeDiff, Nat.reduceLT, Int.reduceToNat, Nat.left_eq_add, Nat.add_eq_left, Nat.add_left_cancel_iff, Nat.reduceEqDiff, Nat.add_assoc, Nat.succ_ne_zero, hx8]
      rw [opS_mks _ _ _ (by omega) (by omega) (by omega) (by rfl) (by decide), htn]
      exact last
    · rw [opS_mks _ _ _ (by omega) (by omega) (by omega) (by rfl) (by decide), htn]
      have hne : ¬ xb = w9.heap.size := by omega
      simp only [push_cast, Nat.reduceAdd, Nat.reduceLeDiff, Nat.reduceLT, Int.reduceToNat, Nat.left_eq_add, Nat.add_eq_left, Nat.add_left_cancel_iff, Nat.reduceEqDiff, Nat.add_assoc, Nat.succ_ne_zero, hx8, hne]
      exact last
  · refine loop1 (fun n v w' => ∃ i : Nat, v = i64 i ∧ i + n = owner.length ∧ w' = w2 ∧ (owner.take i).any oddO = false) ?_ owner.length ⟨0, rfl, by omega, rfl, rfl⟩
    rintro n v w' X ⟨i, rfl, hi, rfl, ha⟩ hX
    simp only [push_cast, Nat.reduceAdd, Nat.reduceLeDiff, Nat.reduceLT, Int.reduceToNat, Nat.left_eq_add, Nat.add_eq_left, Nat.add_left_cancel_iff, Nat.reduceEqDiff, Nat.add_assoc, Nat.succ_ne_zero, hx]
    refine br_dec (fun hlt => ?_) fun hge => ?_
    · have hil : i < owner.length := by omega
      have hE0 : ∀ {R : Value → World → Prop}, R (i64 owner[i]) w' → opS Tryz.prog (S.ia 22 (.slice oa owner.length oc) (i64 i)) (fun y => opS Tryz.prog (S.ld 3 y) R) w' := fun hR => by
        refine s_iaE (es := owner.map cellI) ho (by omega) (by rw [List.length_map]; omega) fun b o c hv hE => ?_
        simp only [Int.toNat_natCast, List.getElem_map] at hE ⊢
        have hc := hE.cell0 (by simp [cellI])
        have hc2 : (cellI owner[i])[0]? = some (i64 owner[i]) := rfl
        rw [hc2] at hc
        simp only [push_cast, Nat.reduceAdd, Nat.reduceLeDiff, Nat.reduceLT, Int.reduceToNat, Nat.left_eq_add, Nat.add_eq_left, Nat.add_left_cancel_iff, Nat.reduceEqDiff, Nat.add_assoc, Nat.succ_ne_zero, hc]
        exact hR
      have hstep : (owner.take (i + 1)).any oddO = ((owner.take i).any oddO || oddO owner[i]) := by
        rw [List.take_add_one, List.getElem?_eq_getElem hil, Option.toList_some, List.any_append]
        simp
      refine hE0 ?_
      simp only [push_cast, Nat.reduceAdd, Nat.reduceLeDiff, Nat.reduceLT, Int.reduceToNat, Nat.left_eq_add, Nat.add_eq_left, Nat.add_left_cancel_iff, Nat.reduceEqDiff, Nat.add_assoc, Nat.succ_ne_zero]
      refine br_dec (fun e1 => ?_) fun e1 => ?_
      · exact h0 _ (hF1.trans hF2) fun h => by
          have := List.any_eq_false.1 h.2.2.1 owner[i] (List.getElem_mem hil)
          unfold oddO at this
          rw [decide_eq_true e1] at this
          simp at this
      simp only [push_cast, Nat.reduceAdd, Nat.reduceLeDiff, Nat.reduceLT, Int.reduceToNat, Nat.left_eq_add, Nat.add_eq_left, Nat.add_left_cancel_iff, Nat.reduceEqDiff, Nat.add_assoc, Nat.succ_ne_zero, hx]
      refine hE0 ?_
      simp only [push_cast, Nat.reduceAdd, Nat.reduceLeDiff, Nat.reduceLT, Int.reduceToNat, Nat.left_eq_add, Nat.add_eq_left, Nat.add_left_cancel_iff, Nat.reduceEqDiff, Nat.add_assoc, Nat.succ_ne_zero]
      refine br_dec (fun e2 => ?_) fun e2 => ?_
      · exact h0 _ (hF1.trans hF2) fun h => by
          have := List.any_eq_false.1 h.2.2.1 owner[i] (List.getElem_mem hil)
          unfold oddO at this
          rw [decide_eq_true e2] at this
          simp at this
      have hwk : IntKind.i64.wrap ((i : Int) + 1) = ((i + 1 : Nat) : Int) := by rw [wrap_i64 (by omega)]; rfl
      simp only [push_cast, Nat.reduceAdd, Nat.reduceLeDiff, Nat.reduceLT, Int.reduceToNat, Nat.left_eq_add, Nat.add_eq_left, Nat.add_left_cancel_iff, Nat.reduceEqDiff, Nat.add_assoc, Nat.succ_ne_zero, hwk]
      exact hX (n - 1) _ _ (by omega) ⟨i + 1, rfl, by omega, rfl, by rw [hstep, ha]; unfold oddO; rw [decide_eq_false e1, decide_eq_false e2]; rfl⟩
    · rw [List.take_of_length_le (by omega)] at ha
      exact hj _ ⟨rfl, ha⟩

end Go.Gx.S
end

section
/- A chassis of the code's: frames that are sent; a frame comes in; time passes (no session). -/
set_option linter.unusedVariables false
set_option linter.unusedSimpArgs false
set_option maxRecDepth 100000
namespace Go.Gx.S
open Go Go.Gx Go.Proofs
variable {K : Value → World → Prop} {w : World}

theorem ia3_0 (b o : Nat) : opS Tryz.prog (S.ia 43 (pt b o) (.int .i64 0)) K w = K (pt b o) w := by
  rw [opS_iaA _ _ _ _ (by decide)]; rfl
theorem ia3_1 (b o : Nat) : opS Tryz.prog (S.ia 43 (pt b o) (.int .i64 1)) K w = K (pt b (o + 1)) w := by
  rw [opS_iaA _ _ _ _ (by decide)]; rfl
theorem ia3_2 (b o : Nat) : opS Tryz.prog (S.ia 43 (pt b o) (.int .i64 2)) K w = K (pt b (o + 2)) w := by
  rw [opS_iaA _ _ _ _ (by decide)]; rfl
attribute [push_cast] ia3_0 ia3_1 ia3_2

/-! ### What is sent -/

section
variable {N0 room : Nat} {a : CA} {x : Chs}

def sentL' (x : Chs) (may : Int → Bool) (l : List (Int × Frm)) : List (Int × Frm) := l.filter fun o => x.serves o.1 && may o.1

theorem csent_spec {mf lv : Value} {may : Int → Bool} {l : List (Int × Frm)} (h : CM N0 w room a x) (hw : x.wf room) (hl : RdE 18 w lv (l.map outC)) (hln : l.length < 2 ^ 32) (hlb : ∀ b, blkS lv = some b → ¬ a.all b)
    (hone : ∀ o ∈ l, (outC o).all S.oneCell = true) (hpi : ∀ o ∈ l, isI o.1)
    (hm : ∀ (port : Int) (R : Value → World → Prop) W, Fr none_ w W → isI port → (∀ W', Fr none_ W W' → R (.bool (may port)) W') → opS Tryz.prog (S.call mf [i64 port]) R W)
    (hk : ∀ w' v, CM N0 w' room a { x with n1 := IntKind.i64.wrap (x.n1 + (sentL' x may l).length) } → OwnE 86 18 w' v ((sentL' x may l).map outC) → New w v → Fr (a.G 0) w w' → K v w') :
    CallsR Tryz.prog 78 #[pt a.cp 0, lv, mf] K w := by
  apply c78
  unfold p78
  obtain ⟨la, lc, rfl⟩ := hl.form
  have hlen : (l.map outC).length = l.length := by simp
  rw [hlen] at hl ⊢
  simp only [push_cast, Nat.reduceAdd, Nat.reduceLeDiff, Nat.reduceLT, Int.reduceToNat, Nat.left_eq_add, Nat.add_eq_left, Nat.add_left_cancel_iff, Nat.reduceEqDiff, Nat.add_assoc, Nat.succ_ne_zero]
  refine jn1 (fun v w' => Fr none_ w w' ∧ OwnE 86 18 w' v ((sentL' x may l).map outC) ∧ New w v) ?_ fun j hj => ?_
  · rintro v w' ⟨hF, hv, hN⟩
    have h1 := h.fr0 (hF.step_drew)
    have hv1 := hv.fr (Fr.drew (fp := none_) w') fun _ _ h => h
    have hF1 : Fr (a.G 0) w w'.drew := hF.step_drew.mono fun _ _ e => e.elim
    simp only [drw_eq]
    generalize w'.drew = W at *
    obtain ⟨va, vc, rfl⟩ := hv1.rd.form
    rw [List.length_map] at *
    obtain ⟨h2, hF2⟩ := h1.wr (chC_s9 a x (IntKind.i64.wrap (x.n1 + (sentL' x may l).length))) rfl rfl rfl rfl rfl rfl
    have hv2 := hv1.fr hF2 fun b hb e => by
      have e : b = a.cp := e
      have := hN b hb
      have := h.lt a.cp ⟨0, rfl⟩
      omega
    simp only [push_cast, Nat.reduceAdd, Nat.reduceLeDiff, Nat.reduceLT, Int.reduceToNat, Nat.left_eq_add, Nat.add_eq_left, Nat.add_left_cancel_iff, Nat.reduceEqDiff, Nat.add_assoc, Nat.succ_ne_zero, h1.blk]
    exact hk _ _ h2 hv2 hN (hF1.trans hF2)
  · refine loop2 (fun n v u w' => ∃ i : Nat, u = i64 i ∧ i + n = l.length ∧ Fr none_ w w' ∧ OwnE 86 18 w' v ((sentL' x may (l.take i)).map outC) ∧ New w v) ?_ l.length ⟨0, rfl, by omega, Fr.refl _ _, own_nil _ _ _, fun _ hb => by cases hb⟩
    rintro n v u w' X ⟨i, rfl, hi, hF, hv, hN⟩ hX
    simp only [push_cast, Nat.reduceAdd, Nat.reduceLeDiff, Nat.reduceLT, Int.reduceToNat, Nat.left_eq_add, Nat.add_eq_left, Nat.add_left_cancel_iff, Nat.reduceEqDiff, Nat.add_assoc, Nat.succ_ne_zero]
    refine br_dec (fun hlt => ?_) fun hge => ?_
    case refine_2 =>
      rw [List.take_of_length_le (by omega)] at hv
      exact hj _ _ ⟨hF, hv, hN⟩
    have hil : i < l.length := by omega
    have hwk : IntKind.i64.wrap ((i : Int) + 1) = ((i + 1 : Nat) : Int) := by rw [wrap_i64 (by omega)]; rfl
    have hstep : sentL' x may (l.take (i + 1)) = sentL' x may (l.take i) ++ (if (x.serves l[i].1 && may l[i].1) = true then [l[i]] else []) := by
      unfold sentL'
      rw [List.take_add_one, List.getElem?_eq_getElem hil, Option.toList_some, List.filter_append, List.filter_cons, List.filter_nil]
    have hl2 := hl.fr hF fun _ _ h => h
    refine s_iaE (es := l.map outC) hl2 (by omega) (by rw [hlen]; omega) fun b o c hvv hE => ?_
    simp only [Int.toNat_natCast, List.getElem_map] at hE ⊢
    have hag := hE.agg0 (n := 18) rfl
    rw [s_ldN (by decide), hag, onS_some]
    refine out_slot (g := l[i]) ?_ fun _ w3 hw3 hF3 => ?_
    · have := hone _ (List.getElem_mem hil)
      unfold outC at this
      rw [List.all_cons, Bool.and_eq_true] at this
      exact this.2
    have hF03 := hF.trans hF3
    have h3 := h.fr0 hF03
    have hxp := hpi _ (List.getElem_mem hil)
    simp only [push_cast, Nat.reduceAdd, Nat.reduceLeDiff, Nat.reduceLT, Int.reduceToNat, Nat.left_eq_add, Nat.add_eq_left, Nat.add_left_cancel_iff, Nat.reduceEqDiff, Nat.add_assoc, Nat.succ_ne_zero, hw3]
    refine cserves_spec h3 hw hxp fun w4 hF4 => ?_
    have hw4 := hF4.heap hw3 fun h => h
    have skip : (x.serves l[i].1 && may l[i].1) = false → ∀ w5, Fr none_ w4 w5 → X v (i64 ((i + 1 : Nat) : Int)) w5 := fun e w5 hF5 => by
      refine hX (n - 1) _ _ _ (by omega) ⟨i + 1, rfl, by omega, (hF03.trans hF4).trans hF5, ?_, hN⟩
      rw [hstep, e, if_neg (by decide), List.append_nil]
      exact ((hv.fr hF3 fun _ _ h => h).fr hF4 fun _ _ h => h).fr hF5 fun _ _ h => h
    simp only [brn_br]
    refine br_intro (fun e => ?_) fun e => ?_
    · simp only [push_cast, Nat.reduceAdd, Nat.reduceLeDiff, Nat.reduceLT, Int.reduceToNat, Nat.left_eq_add, Nat.add_eq_left, Nat.add_left_cancel_iff, Nat.reduceEqDiff, Nat.add_assoc, Nat.succ_ne_zero, hw4]
      refine hm _ _ _ (hF03.trans hF4) hxp fun w5 hF5 => ?_
      have hw5 := hF5.heap hw4 fun h => h
      simp only [brn_br]
      refine br_intro (fun e2 => ?_) fun e2 => ?_
      · have hd : ((outC l[i]).drop 0).take 18 = outC l[i] := rfl
        simp only [push_cast, Nat.reduceAdd, Nat.reduceLeDiff, Nat.reduceLT, Int.reduceToNat, Nat.left_eq_add, Nat.add_eq_left, Nat.add_left_cancel_iff, Nat.reduceEqDiff, Nat.add_assoc, Nat.succ_ne_zero, hw5, hd]
        refine s_bs1 (sz := 18) (x := outC l[i]) (z := .agg (outC (0, zFrm)).toArray) rfl (by rfl) (by decide) (by decide) fun vC w6 hC fC nC => ?_
        have hv6 := (((hv.fr hF3 fun _ _ h => h).fr hF4 fun _ _ h => h).fr hF5 fun _ _ h => h).fr fC fun _ _ h => h
        have hln2 : (sentL' x may (l.take i)).length ≤ i := by
          unfold sentL'
          refine Nat.le_trans (List.length_filter_le _ _) ?_
          rw [List.length_take]; omega
        refine s_app (sz := 18) (by_ := 72) (z := .agg (outC (0, zFrm)).toArray) (by rfl) (by decide) hv6 hC.rd (by rw [List.flatten_cons, List.flatten_nil, List.append_nil]; exact hone _ (List.getElem_mem hil)) (by simp only [List.length_map, List.length_cons, List.length_nil]; omega) fun vD w7 hD bD fD => ?_
        have hF6 : Fr none_ w w6 := ((hF03.trans hF4).trans hF5).trans fC
        simp only [push_cast, Nat.reduceAdd, Nat.reduceLeDiff, Nat.reduceLT, Int.reduceToNat, Nat.left_eq_add, Nat.add_eq_left, Nat.add_left_cancel_iff, Nat.reduceEqDiff, Nat.add_assoc, Nat.succ_ne_zero, hwk]
        refine hX (n - 1) _ _ _ (by omega) ⟨i + 1, rfl, by omega, hF6.trans_new fD (fun b hb e => by have := hN b e; omega), ?_, fun b hb => ?_⟩
        · rw [hstep, e, e2, if_pos (by decide), List.map_append]
          exact hD
        · rcases bD with bD | bD
          · exact hN b (bD ▸ hb)
          · exact Nat.le_trans hF6.size (bD b hb)
      · simp only [push_cast, Nat.reduceAdd, Nat.reduceLeDiff, Nat.reduceLT, Int.reduceToNat, Nat.left_eq_add, Nat.add_eq_left, Nat.add_left_cancel_iff, Nat.reduceEqDiff, Nat.add_assoc, Nat.succ_ne_zero, hwk]
        exact skip (by rw [e, e2]; rfl) _ hF5
    · simp only [push_cast, Nat.reduceAdd, Nat.reduceLeDiff, Nat.reduceLT, Int.reduceToNat, Nat.left_eq_add, Nat.add_eq_left, Nat.add_left_cancel_iff, Nat.reduceEqDiff, Nat.add_assoc, Nat.succ_ne_zero, hwk]
      exact skip (by rw [e]; rfl) _ (Fr.refl _ _)

/-! ### Notes that are told to nobody -/

theorem ctellN_spec {lv : Value} {l : List (List Value)} (h : CM N0 w room a x) (ht : x.t = none) (hl : RdE 11 w lv l) (hln : l.length < 2 ^ 32) (hone : ∀ e ∈ l, e.all S.oneCell = true) (hk : ∀ w', Fr none_ w w' → K (.tuple #[]) w') :
    CallsR Tryz.prog 75 #[pt a.cp 0, lv] K w := by
  apply c75
  unfold p75
  obtain ⟨la, lc, rfl⟩ := hl.form
  simp only [push_cast, Nat.reduceAdd, Nat.reduceLeDiff, Nat.reduceLT, Int.reduceToNat, Nat.left_eq_add, Nat.add_eq_left, Nat.add_left_cancel_iff, Nat.reduceEqDiff, Nat.add_assoc, Nat.succ_ne_zero]
  refine jn0 (fun w' => Fr none_ w w') (fun w' hF => hk w' hF) fun j hj => ?_
  refine loop1 (fun n v w' => ∃ i : Nat, v = i64 i ∧ i + n = l.length ∧ Fr none_ w w') ?_ l.length ⟨0, rfl, by omega, Fr.refl _ _⟩
  rintro n v w' X ⟨i, rfl, hi, hF⟩ hX
  simp only [push_cast, Nat.reduceAdd, Nat.reduceLeDiff, Nat.reduceLT, Int.reduceToNat, Nat.left_eq_add, Nat.add_eq_left, Nat.add_left_cancel_iff, Nat.reduceEqDiff, Nat.add_assoc, Nat.succ_ne_zero]
  refine br_dec (fun hlt => ?_) fun hge => hj _ hF
  have hil : i < l.length := by omega
  have hwk : IntKind.i64.wrap ((i : Int) + 1) = ((i + 1 : Nat) : Int) := by rw [wrap_i64 (by omega)]; rfl
  have h6 := h.t
  rw [ht] at h6
  have h6 : a.sv = .pointer none := h6
  refine s_iaE (es := l) (hl.fr hF fun _ _ h => h) (by omega) (by simpa using hil) fun b o c hvv hE => ?_
  simp only [Int.toNat_natCast] at hE ⊢
  have hag := hE.agg0 (n := 11) (hl.2 _ (List.getElem_mem hil))
  rw [s_ldN (by decide), hag, onS_some]
  have hz : ∀ (R : Value → World → Prop) W, opS Tryz.prog (S.alloc 56) R W = R (pt W.heap.size 0) (W.alloc (cellsO (Nt.z.cells (.slice none 0 0)) 56)) := fun R W => by
    rw [opS_alloc]; rfl
  rw [hz]
  have hsl : ∀ (R : Value → World → Prop), opS Tryz.prog (S.st 56 (pt w'.heap.size 0) (.agg (l[i]).toArray)) R (w'.alloc (cellsO (Nt.z.cells (.slice none 0 0)) 56)) = R undef (wr (w'.alloc (cellsO (Nt.z.cells (.slice none 0 0)) 56)) w'.heap.size 0 l[i]) := fun R => by
    rw [s_stA _ _ _ (hl.2 _ (List.getElem_mem hil)) (hone _ (List.getElem_mem hil)), heap_alloc, if_pos rfl, okAt_cells, Nt.len]
    exact onB_true _
  rw [hsl]
  have hF3 : Fr none_ w (wr (w'.alloc (cellsO (Nt.z.cells (.slice none 0 0)) 56)) w'.heap.size 0 l[i]) := (hF.step_alloc rfl).step_wr (.inr hF.size) _ _
  have h3 := h.fr0 hF3
  generalize wr (w'.alloc (cellsO (Nt.z.cells (.slice none 0 0)) 56)) w'.heap.size 0 l[i] = W at *
  simp only [push_cast, Nat.reduceAdd, Nat.reduceLeDiff, Nat.reduceLT, Int.reduceToNat, Nat.left_eq_add, Nat.add_eq_left, Nat.add_left_cancel_iff, Nat.reduceEqDiff, Nat.add_assoc, Nat.succ_ne_zero, h3.blk, h6, hwk]
  exact hX (n - 1) _ _ (by omega) ⟨i + 1, rfl, by omega, hF3⟩

/-! ### How often its bridge learned something -/

theorem zalloc_i2 : opS Tryz.prog (S.alloc 109) K w = K (pt w.heap.size 0) (w.alloc (cellsO [i64 0, i64 0] 109)) := by
  rw [opS_alloc]; rfl
theorem zalloc_i3 : opS Tryz.prog (S.alloc 43) K w = K (pt w.heap.size 0) (w.alloc (cellsO [i64 0, i64 0, i64 0] 43)) := by
  rw [opS_alloc]; rfl
theorem build_i2 (p q : Int) : opS Tryz.prog (S.build 109 [(0, i64 p), (1, i64 q)]) K w = K (.agg [i64 p, i64 q].toArray) w := by
  rw [opS_build _ rfl]; rfl
theorem clearned_spec (h : CM N0 w room a x) (hk : ∀ w', Fr none_ w w' → K (.agg [i64 (x.fs.Ln.getD 0 0), i64 (x.fs.Ln.getD 1 0)].toArray) w') : CallsR Tryz.prog 76 #[pt a.cp 0] K w := by
  apply c76
  unfold p76
  obtain ⟨l0, l1, l2, hL⟩ : ∃ l0 l1 l2, x.fs.Ln = [l0, l1, l2] := by
    have := h.br.ll
    match hq : x.fs.Ln, this with
    | [l0, l1, l2], _ => exact ⟨l0, l1, l2, rfl⟩
  rw [zalloc_i2]
  have hF1 : Fr none_ w (w.alloc (cellsO [i64 0, i64 0] 109)) := (by repeat' first | with_reducible exact Fr.refl _ _ | with_reducible refine Fr.step_alloc ?_ ?_ | with_reducible refine Fr.step_drew ?_ | with_reducible refine Fr.step_wr ?_ ?_ _ _ | exact rfl | exact Or.inr (by omega) | exact Or.inl rfl | exact Or.inl (Or.inl rfl) | exact Or.inl (Or.inr rfl))
  have hz1 : (w.alloc (cellsO [i64 0, i64 0] 109)).heap[w.heap.size]? = some (cellsO [i64 0, i64 0] 109) := by simp only [push_cast, Nat.reduceAdd, Nat.reduceLeDiff, Nat.reduceLT, Int.reduceToNat, Nat.left_eq_add, Nat.add_eq_left, Nat.add_left_cancel_iff, Nat.reduceEqDiff, Nat.add_assoc, Nat.succ_ne_zero]
  replace h := h.fr0 hF1
  have hs1 := lt_of_heap hz1
  generalize w.alloc (cellsO [i64 0, i64 0] 109) = w1 at *
  generalize hzb : w.heap.size = zb at *
  simp only [push_cast, Nat.reduceAdd, Nat.reduceLeDiff, Nat.reduceLT, Int.reduceToNat, Nat.left_eq_add, Nat.add_eq_left, Nat.add_left_cancel_iff, Nat.reduceEqDiff, Nat.add_assoc, Nat.succ_ne_zero, h.blk]
  refine learned_spec h.br fun w2 hF2 => ?_
  replace hz1 := hF2.heap hz1 fun h => h
  have hs2 := lt_of_heap hz1
  rw [hL] at hk ⊢
  have hg0 : [l0, l1, l2].getD 0 0 = l0 := rfl
  have hg1 : [l0, l1, l2].getD 1 0 = l1 := rfl
  rw [hg0, hg1] at hk
  rw [zalloc_i3]
  have hF3 : Fr none_ w2 (wr (w2.alloc (cellsO [i64 0, i64 0, i64 0] 43)) w2.heap.size 0 [i64 l0, i64 l1, i64 l2]) := (by repeat' first | with_reducible exact Fr.refl _ _ | with_reducible refine Fr.step_alloc ?_ ?_ | with_reducible refine Fr.step_drew ?_ | with_reducible refine Fr.step_wr ?_ ?_ _ _ | exact rfl | exact Or.inr (by omega) | exact Or.inl rfl | exact Or.inl (Or.inl rfl) | exact Or.inl (Or.inr rfl))
  have hy : (wr (w2.alloc (cellsO [i64 0, i64 0, i64 0] 43)) w2.heap.size 0 [i64 l0, i64 l1, i64 l2]).heap[w2.heap.size]? = some (cellsO [i64 l0, i64 l1, i64 l2] 43) := by
    simp only [push_cast, Nat.reduceAdd, Nat.reduceLeDiff, Nat.reduceLT, Int.reduceToNat, Nat.left_eq_add, Nat.add_eq_left, Nat.add_left_cancel_iff, Nat.reduceEqDiff, Nat.add_assoc, Nat.succ_ne_zero]
  have hz3 := hF3.heap hz1 fun h => h
  have hsl : ∀ (R : Value → World → Prop), opS Tryz.prog (S.st 43 (pt w2.heap.size 0) (.agg ([l0, l1, l2].map i64).toArray)) R (w2.alloc (cellsO [i64 0, i64 0, i64 0] 43)) = R undef (wr (w2.alloc (cellsO [i64 0, i64 0, i64 0] 43)) w2.heap.size 0 [i64 l0, i64 l1, i64 l2]) := fun R => by
    rw [s_stA _ _ ([l0, l1, l2].map i64) rfl rfl, heap_alloc, if_pos rfl, okAt_cells]
    exact onB_true _
  rw [hsl]
  have hF03 := (hF1.trans hF2).trans hF3
  generalize wr (w2.alloc (cellsO [i64 0, i64 0, i64 0] 43)) w2.heap.size 0 [i64 l0, i64 l1, i64 l2] = w3 at *
  simp only [push_cast, Nat.reduceAdd, Nat.reduceLeDiff, Nat.reduceLT, Int.reduceToNat, Nat.left_eq_add, Nat.add_eq_left, Nat.add_left_cancel_iff, Nat.reduceEqDiff, Nat.add_assoc, Nat.succ_ne_zero, hy, List.getElem?_cons_zero, List.getElem?_cons_succ]
  rw [build_i2, s_stA _ _ [i64 l0, i64 l1] rfl rfl, hz3, okAt_cells]
  rw [show decide (0 + [i64 l0, i64 l1].length ≤ [i64 0, i64 0].length) = true from rfl, onB_true]
  have hd : ((splice [i64 0, i64 0] 0 [i64 l0, i64 l1]).drop 0).take 2 = [i64 l0, i64 l1] := rfl
  rw [s_ldN (by decide), heap_wr, if_pos rfl, hz3, putAt_cells, aggAt_cells, if_pos (by exact Nat.le_refl 2), hd, onS_some]
  exact hk _ (hF03.step_wr (.inr (by omega)) _ _)
end

end Go.Gx.S
end

section
/- A chassis of the code's, without a session: a frame comes in. -/
set_option linter.unusedVariables false
set_option linter.unusedSimpArgs false
set_option maxRecDepth 100000
namespace Go.Gx.S
open Go Go.Gx Go.Proofs
variable {K : Value → World → Prop} {w : World}

/-! ### Plain -/

def incW (n : Int) : Int := IntKind.i64.wrap (n + 1)
/-- what becomes of it, where its bridge made that of a frame -/
def Chs.went0 (x : Chs) (fs : FS) (outs : List (Int × Frm)) : Chs :=
  { x with n0 := incW x.n0, fs := fs, n1 := IntKind.i64.wrap (x.n1 + (sentL' x (fun _ => true) outs).length), n2 := IntKind.i64.wrap (x.n2 + ((outs.length : Int) - (sentL' x (fun _ => true) outs).length)) }
def Chs.frame0 (room : Nat) (x : Chs) (port : Int) (f : Frm) (n : Nat) (now : Int) : Chs × Int × List (Int × Frm) :=
  if x.mine port then
    (if x.serves port then (x.went0 (takeA room x.fs port f n now).1 (takeA room x.fs port f n now).2.2.2.2, (takeA room x.fs port f n now).2.1, sentL' x (fun _ => true) (takeA room x.fs port f n now).2.2.2.2)
    else ({ x with n0 := incW x.n0 }, 9, []))
  else ({ x with n0 := incW x.n0 }, 1, [])

theorem Chs.wf.take {room : Nat} {x : Chs} (h : x.wf room) (port : Int) (f : Frm) (n : Nat) (now : Int) (a b c : Int) : ({ x with n0 := a, fs := (takeA room x.fs port f n now).1, n1 := b, n2 := c } : Chs).wf room :=
  ⟨h.s, h.ow, h.kl, by show (takeA room x.fs port f n now).1.S.length = _; rw [(takeA_S ..).1]; exact h.sl, h.good.take, h.oi⟩
theorem Chs.wf.cnt {room : Nat} {x : Chs} (h : x.wf room) (a b c : Int) : ({ x with n0 := a, n1 := b, n2 := c } : Chs).wf room := ⟨h.s, h.ow, h.kl, h.sl, h.good, h.oi⟩

theorem takeA_ports {room : Nat} {fs : FS} {port : Int} {f : Frm} {n : Nat} {now : Int} (hs : fs.S.length ≤ 64) : ∀ o ∈ (takeA room fs port f n now).2.2.2.2, isI o.1 := fun o ho => by
  rcases takeA_outs (room := room) (fs := fs) (port := port) (f := f) (n := n) (now := now) with e | ⟨fs', v, tt, e, hS, _⟩
  · rw [e] at ho; cases ho
  · rw [e] at ho
    obtain ⟨i, hi, h⟩ := sendN_mem (List.mem_filter.1 ho).1
    rw [hS] at hi
    have h1 : o.1 = i := by
      unfold outAt at h
      split at h
      · cases h
      · split at h
        · cases h
        · split at h
          · cases h; rfl
          · cases h
    rw [h1]
    exact isI_iff.2 (by omega)

/-! ### In memory -/

def doneC (u v : Value) : List Value := [u, v]
theorem doneC_len (u v : Value) : (doneC u v).length = 2 := id rfl
theorem doneC_0 (u v : Value) : (doneC u v)[0]? = some u := id rfl
theorem doneC_1 (u v : Value) : (doneC u v)[1]? = some v := id rfl
theorem doneC_dw (u v : Value) : ((doneC u v).drop 0).take 2 = doneC u v := id rfl
theorem doneC_sw (u v p q : Value) : splice (doneC u v) 0 (doneC p q) = doneC p q := id rfl
theorem doneC_s1 (u v p : Value) : splice (doneC u v) 1 [p] = doneC u p := id rfl
theorem doneC_one (r1 r2 : Option Addr) (n1 n2 c1 c2 : Nat) : (doneC (.slice r1 n1 c1) (.slice r2 n2 c2)).all S.oneCell = true := id rfl
attribute [push_cast] doneC_len doneC_0 doneC_1 doneC_dw doneC_sw doneC_s1 doneC_one
theorem zalloc_done : opS Tryz.prog (S.alloc 70) K w = K (pt w.heap.size 0) (w.alloc (cellsO (doneC (.slice none 0 0) (.slice none 0 0)) 70)) := by
  rw [opS_alloc]; rfl
theorem build_done0 : opS Tryz.prog (S.build 70 []) K w = K (.agg (doneC (.slice none 0 0) (.slice none 0 0)).toArray) w := by
  rw [opS_build _ rfl]; rfl
theorem build_done1 (r : Option Addr) (n c : Nat) : opS Tryz.prog (S.build 70 [(0, .slice r n c)]) K w = K (.agg (doneC (.slice r n c) (.slice none 0 0)).toArray) w := by
  rw [opS_build _ rfl]; rfl
theorem build_nt1 (v : Int) (m : Mac) (p : Int) : opS Tryz.prog (S.build 56 [(0, i64 1), (1, i64 v), (2, .agg m.cells.toArray), (3, i64 p)]) K w = K (.agg ((⟨1, v, m, p, 0, []⟩ : Nt).cells (.slice none 0 0)).toArray) w := by
  rw [opS_build _ rfl]; rfl
theorem zalloc_way' : opS Tryz.prog (S.alloc 141) K w = K (pt w.heap.size 0) (w.alloc (cellsO (wayC 0 0 0 (.slice none 0 0)) 141)) := by
  rw [opS_alloc]; rfl

theorem ne_i2 {a b c d : Int} (ha : isI a) (hb : isI b) (hc : isI c) (hd : isI d) (h : ∀ q, K (.bool q) w) : opS Tryz.prog (S.binG .neq 109 (.agg [i64 a, i64 b].toArray) (.agg [i64 c, i64 d].toArray)) K w := by
  have ct2 : Tryz.prog.cellsOf 109 = 2 := by kernel_rfl
  obtain ⟨l1, h1⟩ := ints_enc (P := Tryz.prog) (d := 6) Tryz.underlying109 Tryz.underlying3 ctI ct2 (l := [a, b]) rfl (fun x hx => by simp at hx; rcases hx with rfl | rfl <;> assumption)
  obtain ⟨l2, h2⟩ := ints_enc (P := Tryz.prog) (d := 6) Tryz.underlying109 Tryz.underlying3 ctI ct2 (l := [c, d]) rfl (fun x hx => by simp at hx; rcases hx with rfl | rfl <;> assumption)
  exact s_neqG h1 h2 fun r hr => h _

theorem getD_isI {l : List Int} (h : ∀ x ∈ l, isI x) (i : Nat) : isI (l.getD i 0) := by
  rw [List.getD_eq_getElem?_getD]
  by_cases hi : i < l.length
  · rw [List.getElem?_eq_getElem hi]; exact h _ (List.getElem_mem hi)
  · rw [List.getElem?_eq_none (by omega)]; exact isI_iff.2 (by decide)

theorem yes_spec {v : Value} (hk : K (.bool true) w) : CallsR Tryz.prog 79 #[v] K w := by
  apply c79
  unfold p79
  exact hk

section
variable {N0 room : Nat} {a : CA} {x : Chs}

theorem cframe0_spec {port now : Int} {f : Frm} {bs : List Int} (h : CM N0 w room a x) (hw : x.wf room) (ht : x.t = none) (hf : FrmR w f bs) (hfl : ∃ w0 : World, FrmR w0 f bs ∧ w0.heap.size ≤ N0) (hpi : isI port) (hni : isI now)
    (hk : ∀ w' v ps', CM N0 w' room { a with ps := ps' } (x.frame0 room port f bs.length now).1 → OwnE 86 18 w' v ((x.frame0 room port f bs.length now).2.2.map outC) → New w v → Fr a.all w w' → K (.tuple #[.agg (doneC v (.slice none 0 0)).toArray, i64 (x.frame0 room port f bs.length now).2.1]) w') :
    CallsR Tryz.prog 27 #[pt a.cp 0, i64 port, .agg f.cells.toArray, i64 now] K w := by
  apply c27
  unfold p27
  unfold Chs.frame0 at hk
  have hcp := h.lt a.cp ⟨0, rfl⟩
  have hall := h.lt
  -- the frame, and what is told
  rw [opS_box]
  show opS Tryz.prog (S.alloc 70) _ (w.alloc (cellsO f.cells 61))
  have hF1 : Fr none_ w (w.alloc (cellsO f.cells 61)) := (by repeat' first | with_reducible exact Fr.refl _ _ | with_reducible refine Fr.step_alloc ?_ ?_ | with_reducible refine Fr.step_drew ?_ | with_reducible refine Fr.step_wr ?_ ?_ _ _ | exact rfl | exact Or.inr (by omega) | exact Or.inl rfl | exact Or.inl (Or.inl rfl) | exact Or.inl (Or.inr rfl))
  have hf0 : (w.alloc (cellsO f.cells 61)).heap[w.heap.size]? = some (cellsO f.cells 61) := by simp only [push_cast, Nat.reduceAdd, Nat.reduceLeDiff, Nat.reduceLT, Int.reduceToNat, Nat.left_eq_add, Nat.add_eq_left, Nat.add_left_cancel_iff, Nat.reduceEqDiff, Nat.add_assoc, Nat.succ_ne_zero]
  replace h := h.fr0 hF1
  replace hf := hf.fr0 hF1
  have hs1 := lt_of_heap hf0
  generalize w.alloc (cellsO f.cells 61) = w1 at *
  rw [zalloc_done]
  have hF2 : Fr none_ w1 (w1.alloc (cellsO (doneC (.slice none 0 0) (.slice none 0 0)) 70)) := (by repeat' first | with_reducible exact Fr.refl _ _ | with_reducible refine Fr.step_alloc ?_ ?_ | with_reducible refine Fr.step_drew ?_ | with_reducible refine Fr.step_wr ?_ ?_ _ _ | exact rfl | exact Or.inr (by omega) | exact Or.inl rfl | exact Or.inl (Or.inl rfl) | exact Or.inl (Or.inr rfl))
  have hd0 : (w1.alloc (cellsO (doneC (.slice none 0 0) (.slice none 0 0)) 70)).heap[w1.heap.size]? = some (cellsO (doneC (.slice none 0 0) (.slice none 0 0)) 70) := by simp only [push_cast, Nat.reduceAdd, Nat.reduceLeDiff, Nat.reduceLT, Int.reduceToNat, Nat.left_eq_add, Nat.add_eq_left, Nat.add_left_cancel_iff, Nat.reduceEqDiff, Nat.add_assoc, Nat.succ_ne_zero]
  replace h := h.fr0 hF2
  replace hf := hf.fr0 hF2
  replace hf0 := hF2.heap hf0 fun h => h
  replace hF1 := hF1.trans hF2
  have hs2 := lt_of_heap hd0
  generalize w1.alloc (cellsO (doneC (.slice none 0 0) (.slice none 0 0)) 70) = w2 at *
  generalize hfb : w.heap.size = fb at *
  generalize hdb : w1.heap.size = db at *
  -- it is counted
  have hFd : Fr none_ w w2.drew := hF1.step_drew
  replace h := h.fr0 (Fr.drew w2)
  replace hf := hf.fr0 (Fr.drew w2)
  replace hf0 : w2.drew.heap[fb]? = _ := hf0
  replace hd0 : w2.drew.heap[db]? = _ := hd0
  have hs3 : db < w2.drew.heap.size := hs2
  simp only [drw_eq]
  generalize w2.drew = W at *
  obtain ⟨h1, hFw⟩ := h.wr (chC_s8 a x (incW x.n0)) rfl rfl rfl rfl rfl rfl
  have hne1 : ∀ {b}, b < fb → b ≠ fb := fun h => by omega
  have hcpf : a.cp ≠ fb := by omega
  have hcpd : a.cp ≠ db := by omega
  have hf1 := hFw.heap hf0 fun e => hcpf (show fb = a.cp from e).symm
  have hd1 := hFw.heap hd0 fun e => hcpd (show db = a.cp from e).symm
  have hFW : Fr a.all w (wr W a.cp 8 [i64 (incW x.n0)]) := (frA0 hFd).trans (frA (i := 0) hFw)
  have hs4 : (wr W a.cp 8 [i64 (incW x.n0)]).heap.size = W.heap.size := size_wr _ _ _ _
  have hw1 := hw.cnt (incW x.n0) x.n1 x.n2
  have hfr1 : FrmR (wr W a.cp 8 [i64 (incW x.n0)]) f bs := by
    obtain ⟨w0, hf0', hle⟩ := hfl
    refine frm_keep hf0' hf hFw fun b hb e => ?_
    have e : b = a.cp := e
    have := h.ge a.cp ⟨0, rfl⟩
    omega
  have hinc : IntKind.i64.wrap (x.n0 + 1) = incW x.n0 := rfl
  simp only [push_cast, Nat.reduceAdd, Nat.reduceLeDiff, Nat.reduceLT, Int.reduceToNat, Nat.left_eq_add, Nat.add_eq_left, Nat.add_left_cancel_iff, Nat.reduceEqDiff, Nat.add_assoc, Nat.succ_ne_zero, h.blk, hinc]
  rw [← hs4] at hs3
  generalize wr W a.cp 8 [i64 (incW x.n0)] = w3 at *
  have hmine : ({ x with n0 := incW x.n0, n1 := x.n1, n2 := x.n2 } : Chs).mine port = x.mine port := rfl
  have hserv : ∀ p, ({ x with n0 := incW x.n0, n1 := x.n1, n2 := x.n2 } : Chs).serves p = x.serves p := fun _ => rfl
  refine cmine_spec h1 fun w4 hF4 => ?_
  rw [show ({ x with n0 := incW x.n0 } : Chs).mine port = x.mine port from rfl]
  replace h1 := h1.fr0 hF4
  replace hd1 := hF4.heap hd1 fun h => h
  replace hf1 := hF4.heap hf1 fun h => h
  replace hfr1 := hfr1.fr0 hF4
  have hFW4 := hFW.trans (frA0 hF4)
  have hNw : ∀ {w' : World}, New w' (.slice none 0 0) := fun b hb => by cases hb
  have hs5 := hF4.size
  have hcp4 := h1.lt a.cp ⟨0, rfl⟩
  simp only [push_cast, Nat.reduceAdd, Nat.reduceLeDiff, Nat.reduceLT, Int.reduceToNat, Nat.left_eq_add, Nat.add_eq_left, Nat.add_left_cancel_iff, Nat.reduceEqDiff, Nat.add_assoc, Nat.succ_ne_zero]
  refine br_intro (fun e => ?_) fun e => ?_
  · have e : x.mine port = false := by simpa using e
    rw [e] at hk
    rw [build_done0]
    simp only [push_cast, Nat.reduceAdd, Nat.reduceLeDiff, Nat.reduceLT, Int.reduceToNat, Nat.left_eq_add, Nat.add_eq_left, Nat.add_left_cancel_iff, Nat.reduceEqDiff, Nat.add_assoc, Nat.succ_ne_zero, hd1]
    have hFx : Fr (fun b => b = db) w4 (wr w4 db 0 (doneC (.slice none 0 0) (.slice none 0 0))) := Fr.wr _ _ _ _ rfl
    exact hk _ _ a.ps (h1.fr hFx fun b hb e => by have e : b = db := e; have := hall b hb; omega) (own_nil _ _ _) hNw (hFW4.step_wr (.inr (by omega)) _ _)
  have e : x.mine port = true := by simpa using e
  simp only [if_pos e] at hk
  refine cserves_spec h1 hw1 hpi fun w5 hF5 => ?_
  rw [show ({ x with n0 := incW x.n0 } : Chs).serves port = x.serves port from rfl]
  replace h1 := h1.fr0 hF5
  replace hd1 := hF5.heap hd1 fun h => h
  replace hf1 := hF5.heap hf1 fun h => h
  replace hfr1 := hfr1.fr0 hF5
  replace hFW4 := hFW4.trans (frA0 hF5)
  have hs6 := hF5.size
  simp only [push_cast, Nat.reduceAdd, Nat.reduceLeDiff, Nat.reduceLT, Int.reduceToNat, Nat.left_eq_add, Nat.add_eq_left, Nat.add_left_cancel_iff, Nat.reduceEqDiff, Nat.add_assoc, Nat.succ_ne_zero]
  refine br_intro (fun e2 => ?_) fun e2 => ?_
  · have e2 : x.serves port = false := by simpa using e2
    rw [e2] at hk
    rw [build_done0]
    simp only [push_cast, Nat.reduceAdd, Nat.reduceLeDiff, Nat.reduceLT, Int.reduceToNat, Nat.left_eq_add, Nat.add_eq_left, Nat.add_left_cancel_iff, Nat.reduceEqDiff, Nat.add_assoc, Nat.succ_ne_zero, hd1]
    have hFx : Fr (fun b => b = db) w5 (wr w5 db 0 (doneC (.slice none 0 0) (.slice none 0 0))) := Fr.wr _ _ _ _ rfl
    exact hk _ _ a.ps (h1.fr hFx fun b hb e => by have e : b = db := e; have := hall b hb; omega) (own_nil _ _ _) hNw (hFW4.step_wr (.inr (by omega)) _ _)
  have e2 : x.serves port = true := by simpa using e2
  simp only [if_pos e2] at hk
  refine clearned_spec h1 fun w6 hF6 => ?_
  rw [show ({ x with n0 := incW x.n0 } : Chs).fs = x.fs from rfl]
  replace h1 := h1.fr0 hF6
  replace hd1 := hF6.heap hd1 fun h => h
  replace hf1 := hF6.heap hf1 fun h => h
  replace hfr1 := hfr1.fr0 hF6
  replace hFW4 := hFW4.trans (frA0 hF6)
  have hs7 := hF6.size
  generalize hq0 : x.fs.Ln.getD 0 0 = q0
  generalize hq1 : x.fs.Ln.getD 1 0 = q1
  have hI0 : isI q0 := hq0 ▸ getD_isI hw.good.n.2 0
  have hI1 : isI q1 := hq1 ▸ getD_isI hw.good.n.2 1
  rw [zalloc_i2]
  have hF7 : Fr none_ w6 (wr (w6.alloc (cellsO [i64 0, i64 0] 109)) w6.heap.size 0 [i64 q0, i64 q1]) := (by repeat' first | with_reducible exact Fr.refl _ _ | with_reducible refine Fr.step_alloc ?_ ?_ | with_reducible refine Fr.step_drew ?_ | with_reducible refine Fr.step_wr ?_ ?_ _ _ | exact rfl | exact Or.inr (by omega) | exact Or.inl rfl | exact Or.inl (Or.inl rfl) | exact Or.inl (Or.inr rfl))
  have hl7 : (wr (w6.alloc (cellsO [i64 0, i64 0] 109)) w6.heap.size 0 [i64 q0, i64 q1]).heap[w6.heap.size]? = some (cellsO [i64 q0, i64 q1] 109) := by simp only [push_cast, Nat.reduceAdd, Nat.reduceLeDiff, Nat.reduceLT, Int.reduceToNat, Nat.left_eq_add, Nat.add_eq_left, Nat.add_left_cancel_iff, Nat.reduceEqDiff, Nat.add_assoc, Nat.succ_ne_zero]
  have hsl : ∀ (R : Value → World → Prop), opS Tryz.prog (S.st 109 (pt w6.heap.size 0) (.agg [i64 q0, i64 q1].toArray)) R (w6.alloc (cellsO [i64 0, i64 0] 109)) = R undef (wr (w6.alloc (cellsO [i64 0, i64 0] 109)) w6.heap.size 0 [i64 q0, i64 q1]) := fun R => by
    rw [s_stA _ _ [i64 q0, i64 q1] rfl rfl, heap_alloc, if_pos rfl, okAt_cells]
    exact onB_true _
  rw [hsl]
  replace h1 := h1.fr0 hF7
  replace hd1 := hF7.heap hd1 fun h => h
  replace hf1 := hF7.heap hf1 fun h => h
  replace hfr1 := hfr1.fr0 hF7
  replace hFW4 := hFW4.trans (frA0 hF7)
  have hs8 := lt_of_heap hl7
  have hs9 := hF7.size
  generalize wr (w6.alloc (cellsO [i64 0, i64 0] 109)) w6.heap.size 0 [i64 q0, i64 q1] = w7 at *
  generalize hlb : w6.heap.size = lb at *
  have hT : takeA room ({ x with n0 := incW x.n0 } : Chs).fs port f bs.length now = takeA room x.fs port f bs.length now := rfl
  have htok : x.fs.t.ok := h1.br.v.ok
  have hports := takeA_ports (room := room) (port := port) (f := f) (n := bs.length) (now := now) h1.br.sl
  rw [hT] at hports
  have hones : ∀ o ∈ (takeA room x.fs port f bs.length now).2.2.2.2, (outC o).all S.oneCell = true := fun o ho => by
    obtain ⟨cs, hcs⟩ := takeA_frmR htok hfr1 o ho
    exact outC_one hcs.one
  have hlens : (takeA room x.fs port f bs.length now).2.2.2.2.length ≤ 64 := Nat.le_trans takeA_len h1.br.sl
  have hwT := hw.take port f bs.length now (incW x.n0) x.n1 x.n2
  have hLnT : ∀ q ∈ (takeA room x.fs port f bs.length now).1.Ln, isI q := hwT.good.n.2
  refine jn1 (fun y w' => ∃ wb xv ps', y = pt wb 0 ∧ lb < wb ∧ w'.heap[wb]? = some (cellsO (wayC (takeA room x.fs port f bs.length now).2.1 (takeA room x.fs port f bs.length now).2.2.1 (takeA room x.fs port f bs.length now).2.2.2.1 xv) 141) ∧ CM N0 w' room { a with ps := ps' } { x with n0 := incW x.n0, fs := (takeA room x.fs port f bs.length now).1 } ∧
      RdE 18 w' xv ((takeA room x.fs port f bs.length now).2.2.2.2.map outC) ∧ (∀ b, blkS xv = some b → lb < b) ∧ w'.heap[lb]? = some (cellsO [i64 q0, i64 q1] 109) ∧ w'.heap[db]? = some (cellsO (doneC (.slice none 0 0) (.slice none 0 0)) 70) ∧ w'.heap[fb]? = some (cellsO f.cells 61) ∧ Fr a.all w w') ?_ fun j hj => ?_
  · rintro y w8 ⟨wb, xv, ps', rfl, hwb, hway, hC, hX, hXn, hl8, hd8, hf8, hF8⟩
    generalize hA : takeA room x.fs port f bs.length now = A at *
    obtain ⟨fs', cc, vv, tt, outs⟩ := A
    simp only at hway hC hX hk hports hones hlens hwT hLnT
    have hwb8 := lt_of_heap hway
    obtain ⟨xa, xc, rfl⟩ := hX.form
    rw [List.length_map] at hX hway hXn
    have hCa : ∀ b, CA.all { a with ps := ps' } b → b < fb := fun b hb => by
      obtain ⟨i, hi⟩ := hb
      refine hall b ⟨i, ?_⟩
      match i, hi with
      | 0, hi => exact hi
      | 1, hi => exact hi
      | 2, hi => exact hi
      | 3, hi => exact hi
      | 4, hi => exact hi
      | 5, hi => exact hi
      | 6, hi => exact hi
    refine jn0 (fun W => Fr none_ w8 W) ?_ fun j0 hj0 => ?_
    · rintro W hF
      have g1 := hF.heap hway fun h => h
      have g2 := hF.heap hd8 fun h => h
      have g3 := hC.fr0 hF
      have gX := hX.fr hF fun _ _ h => h
      have hsW := hF.size
      have hFw8 : Fr a.all w W := hF8.trans (frA0 hF)
      have hlenO : (outs.map outC).length = outs.length := by simp
      simp only [push_cast, Nat.reduceAdd, Nat.reduceLeDiff, Nat.reduceLT, Int.reduceToNat, Nat.left_eq_add, Nat.add_eq_left, Nat.add_left_cancel_iff, Nat.reduceEqDiff, Nat.add_assoc, Nat.succ_ne_zero, g1]
      refine csent_spec (a := { a with ps := ps' }) (may := fun _ => true) g3 (hwT.cnt _ _ _) gX (by omega) (fun b hb e => by have := hXn b hb; have := hCa b e; omega) hones hports (fun port R V hFV hpi hR => ?_) fun w9 v hC9 hv9 hN9 hF9 => ?_
      · rw [opS_call]
        exact yes_spec (hR V (Fr.refl _ _))
      have hcp9 : a.cp < fb := hall _ ⟨0, rfl⟩
      have g1' := hF9.heap g1 fun e => by have e : wb = a.cp := e; omega
      have g2' := hF9.heap g2 fun e => by have e : db = a.cp := e; omega
      have hFw9 : Fr a.all w w9 := hFw8.trans (hF9.mono fun b _ e => ⟨0, e⟩)
      have hs9' := hF9.size
      obtain ⟨va, vc, rfl⟩ := hv9.rd.form
      have hlenS : ((sentL' { x with n0 := incW x.n0, fs := fs' } (fun _ => true) outs).map outC).length = (sentL' x (fun _ => true) outs).length := by rw [List.length_map]; rfl
      rw [hlenS] at hv9 hN9 ⊢
      rw [build_done1]
      rw [zalloc_done]
      have hb3 : ∀ (R : Value → World → Prop), opS Tryz.prog (S.st 70 (pt w9.heap.size 0) (.agg (doneC (.slice va (sentL' x (fun _ => true) outs).length vc) (.slice none 0 0)).toArray)) R (w9.alloc (cellsO (doneC (.slice none 0 0) (.slice none 0 0)) 70)) = R undef (wr (w9.alloc (cellsO (doneC (.slice none 0 0) (.slice none 0 0)) 70)) w9.heap.size 0 (doneC (.slice va (sentL' x (fun _ => true) outs).length vc) (.slice none 0 0))) := fun R => by
        rw [s_stA _ _ _ rfl (doneC_one _ _ _ _ _ _), heap_alloc, if_pos rfl, okAt_cells]
        exact onB_true _
      rw [hb3]
      have hF10 : Fr none_ w9 (wr (w9.alloc (cellsO (doneC (.slice none 0 0) (.slice none 0 0)) 70)) w9.heap.size 0 (doneC (.slice va (sentL' x (fun _ => true) outs).length vc) (.slice none 0 0))).drew := (Fr.step_wr (Fr.step_alloc (Fr.refl _ _) rfl) (.inr (Nat.le_refl _)) _ _).step_drew
      have hb10 : (wr (w9.alloc (cellsO (doneC (.slice none 0 0) (.slice none 0 0)) 70)) w9.heap.size 0 (doneC (.slice va (sentL' x (fun _ => true) outs).length vc) (.slice none 0 0))).drew.heap[w9.heap.size]? = some (cellsO (doneC (.slice va (sentL' x (fun _ => true) outs).length vc) (.slice none 0 0)) 70) := by
        simp only [push_cast, Nat.reduceAdd, Nat.reduceLeDiff, Nat.reduceLT, Int.reduceToNat, Nat.left_eq_add, Nat.add_eq_left, Nat.add_left_cancel_iff, Nat.reduceEqDiff, Nat.add_assoc, Nat.succ_ne_zero]
      simp only [drw_eq]
      replace hC9 := hC9.fr0 hF10
      replace g1' := hF10.heap g1' fun h => h
      replace g2' := hF10.heap g2' fun h => h
      replace hv9 := hv9.fr hF10 fun _ _ h => h
      replace hFw9 := hFw9.trans (frA0 hF10)
      have hs10 := lt_of_heap hb10
      have hs11 := hF10.size
      generalize wr (w9.alloc (cellsO (doneC (.slice none 0 0) (.slice none 0 0)) 70)) w9.heap.size 0 (doneC (.slice va (sentL' x (fun _ => true) outs).length vc) (.slice none 0 0)) = V0 at *
      generalize V0.drew = V at *
      generalize hd9 : w9.heap.size = d9 at *
      have hw1 : IntKind.i64.wrap ((outs.length : Int) - ((sentL' x (fun _ => true) outs).length : Int)) = (outs.length : Int) - ((sentL' x (fun _ => true) outs).length : Int) := by
        have : (sentL' x (fun _ => true) outs).length ≤ outs.length := List.length_filter_le _ _
        exact wrap_i64 (by omega)
      obtain ⟨hC10, hF11⟩ := hC9.wr (chC_s10 _ _ (IntKind.i64.wrap (x.n2 + ((outs.length : Int) - ((sentL' x (fun _ => true) outs).length : Int))))) rfl rfl rfl rfl rfl rfl
      have hcV : a.cp ≠ wb ∧ a.cp ≠ db ∧ a.cp ≠ d9 := ⟨by omega, by omega, by omega⟩
      have g1'' := hF11.heap g1' fun e => by have e : wb = a.cp := e; omega
      have g2'' := hF11.heap g2' fun e => by have e : db = a.cp := e; omega
      have hb11 := hF11.heap hb10 fun e => by have e : d9 = a.cp := e; omega
      have hv10 := hv9.fr hF11 fun b hb e => by
        have e : b = a.cp := e
        have := hN9 b hb
        omega
      have hFw11 : Fr a.all w (wr V a.cp 10 [i64 (IntKind.i64.wrap (x.n2 + ((outs.length : Int) - ((sentL' x (fun _ => true) outs).length : Int))))]) := hFw9.trans (hF11.mono fun b _ e => ⟨0, e⟩)
      have hblk9 := hC9.blk
      have hcp10 : ({ a with ps := ps' } : CA).cp = a.cp := rfl
      rw [hcp10] at hblk9 hC10
      have n1 : ¬ wb = a.cp := by omega
      have n2 : ¬ d9 = a.cp := by omega
      have n3 : ¬ db = a.cp := by omega
      have n4 : ¬ db = d9 := by omega
      have hsvn : a.sv = .pointer none := by
        have := hC10.t
        rw [show ({ x with n0 := incW x.n0, fs := fs', n1 := x.n1, n2 := x.n2 } : Chs).t = none from ht] at this
        exact this
      have hfin : x.went0 fs' outs = { x with n0 := incW x.n0, fs := fs', n1 := IntKind.i64.wrap (x.n1 + (sentL' x (fun _ => true) outs).length), n2 := IntKind.i64.wrap (x.n2 + ((outs.length : Int) - (sentL' x (fun _ => true) outs).length)) } := rfl
      have last : ∀ W, W.heap[db]? = some (cellsO (doneC (.slice va (sentL' x (fun _ => true) outs).length vc) (.slice none 0 0)) 70) → Fr (fun b => b = db) (wr V a.cp 10 [i64 (IntKind.i64.wrap (x.n2 + ((outs.length : Int) - ((sentL' x (fun _ => true) outs).length : Int))))]) W → K (.tuple #[.agg (doneC (.slice va (sentL' x (fun _ => true) outs).length vc) (.slice none 0 0)).toArray, i64 cc]) W := fun W hW hFW => by
        refine hk W _ ps' ?_ ?_ ?_ ?_
        · rw [hfin]
          exact hC10.fr hFW fun b hb e => by have e : b = db := e; have := hCa b hb; omega
        · exact hv10.fr hFW fun b hb e => by have e : b = db := e; have := hN9 b hb; omega
        · exact fun b hb => by have := hN9 b hb; omega
        · exact hFw11.trans_new hFW fun b hb e => by have e : b = db := e; omega
      have hdo : ((doneC (.slice va (sentL' x (fun _ => true) outs).length vc) (.slice none 0 0)).drop 0).take 2 = doneC (.slice va (sentL' x (fun _ => true) outs).length vc) (.slice none 0 0) := rfl
      have hblk10 := hC10.blk
      rw [hcp10] at hblk10
      simp only [push_cast, Nat.reduceAdd, Nat.reduceLeDiff, Nat.reduceLT, Int.reduceToNat, Nat.left_eq_add, Nat.add_eq_left, Nat.add_left_cancel_iff, Nat.reduceEqDiff, Nat.add_assoc, Nat.succ_ne_zero, g1', hb10, hblk9, hlenO, hw1, n1, n2, hdo]
      generalize wr V a.cp 10 [i64 (IntKind.i64.wrap (x.n2 + ((outs.length : Int) - ((sentL' x (fun _ => true) outs).length : Int))))] = Z at *
      have hs6' : ∀ y n, (splice (chC { a with ps := ps' } y) 10 [i64 n])[6]? = some (.pointer none) := fun y n => by
        show some a.sv = _
        rw [hsvn]
      have hdone : allW (opS Tryz.prog (S.ld 3 (pt wb 0)) fun x78 => opS Tryz.prog (S.st 70 (pt db 0) (.agg (doneC (.slice va (sentL' x (fun _ => true) outs).length vc) (.slice none 0 0)).toArray)) fun x79 => opS Tryz.prog (S.ld 70 (pt db 0)) fun x80 => K (.tuple #[x80, x78]))
          (opS Tryz.prog (S.st 70 (pt db 0) (.agg (doneC (.slice va (sentL' x (fun _ => true) outs).length vc) (.slice none 0 0)).toArray)) fun x78 => opS Tryz.prog (S.ld 3 (pt wb 0)) fun x79 => opS Tryz.prog (S.ld 70 (pt db 0)) fun x80 => K (.tuple #[x80, x79])) Z.drew := by
        have hFz : Fr (fun b => b = db) Z (wr Z.drew db 0 (doneC (.slice va (sentL' x (fun _ => true) outs).length vc) (.slice none 0 0))) :=
          (show Fr (fun b => b = db) Z Z.drew from Fr.drew Z).step_wr (.inl rfl) _ _
        have hZ : (wr Z.drew db 0 (doneC (.slice va (sentL' x (fun _ => true) outs).length vc) (.slice none 0 0))).heap[db]? = some (cellsO (doneC (.slice va (sentL' x (fun _ => true) outs).length vc) (.slice none 0 0)) 70) := by
          simp only [push_cast, Nat.reduceAdd, Nat.reduceLeDiff, Nat.reduceLT, Int.reduceToNat, Nat.left_eq_add, Nat.add_eq_left, Nat.add_left_cancel_iff, Nat.reduceEqDiff, Nat.add_assoc, Nat.succ_ne_zero, g2'']
        have hlast := last _ hZ hFz
        have n5 : ¬ wb = db := by omega
        refine allW_intro ?_ ?_
        · simp only [push_cast, Nat.reduceAdd, Nat.reduceLeDiff, Nat.reduceLT, Int.reduceToNat, Nat.left_eq_add, Nat.add_eq_left, Nat.add_left_cancel_iff, Nat.reduceEqDiff, Nat.add_assoc, Nat.succ_ne_zero, g1'', g2'', hdo]
          exact hlast
        · simp only [push_cast, Nat.reduceAdd, Nat.reduceLeDiff, Nat.reduceLT, Int.reduceToNat, Nat.left_eq_add, Nat.add_eq_left, Nat.add_left_cancel_iff, Nat.reduceEqDiff, Nat.add_assoc, Nat.succ_ne_zero, g1'', g2'', hdo, n5]
          exact hlast
      refine br_intro (fun e5 => ?_) fun e5 => ?_
      · simp only [hs6', push_cast, Nat.reduceAdd, Nat.reduceLeDiff, Nat.reduceLT, Int.reduceToNat, Nat.left_eq_add, Nat.add_eq_left, Nat.add_left_cancel_iff, Nat.reduceEqDiff, Nat.add_assoc, Nat.succ_ne_zero, hb11]
        exact hdone
      · exact hdone
    · refine jn0 (fun W => Fr none_ w8 W) ?_ fun j1 hj1 => ?_
      · rintro W hF
        have g1 := hF.heap hway fun h => h
        have g2 := hF.heap hf8 fun h => h
        have g3 := hC.fr0 hF
        have esrc : (f.cells.drop 6).take 6 = f.src.cells := rfl
        simp only [push_cast, Nat.reduceAdd, Nat.reduceLeDiff, Nat.reduceLT, Int.reduceToNat, Nat.left_eq_add, Nat.add_eq_left, Nat.add_left_cancel_iff, Nat.reduceEqDiff, Nat.add_assoc, Nat.succ_ne_zero, g1, g2, esrc, frm_len, wayC, List.getElem?_cons_succ, List.getElem?_cons_zero]
        rw [build_nt1]
        refine s_bs1 (sz := 11) (x := (⟨1, vv, f.src, port, 0, []⟩ : Nt).cells (.slice none 0 0)) (z := .agg (Nt.z.cells (.slice none 0 0)).toArray) rfl (by rfl) (by decide) (by decide) fun vC w9 hN fN nN => ?_
        simp only [push_cast, Nat.reduceAdd, Nat.reduceLeDiff, Nat.reduceLT, Int.reduceToNat, Nat.left_eq_add, Nat.add_eq_left, Nat.add_left_cancel_iff, Nat.reduceEqDiff, Nat.add_assoc, Nat.succ_ne_zero]
        refine ctellN_spec (a := { a with ps := ps' }) (g3.fr0 fN) ht hN.rd (by rw [List.length_singleton]; decide) (fun e he => ?_) fun w10 hF10 => ?_
        · rw [List.mem_singleton] at he
          subst he
          exact Nt.one _ _ rfl
        · exact hj0 _ ((hF.trans fN).trans hF10)
      · refine jn0 (fun W => Fr none_ w8 W) (fun W hF => hj0 W hF) fun j2 hj2 => ?_
        have hFd : Fr none_ w8 w8.drew := Fr.drew w8
        have g1 := hFd.heap hl8 fun h => h
        have g3 := hC.fr0 hFd
        have hLi : ∀ i, isI (fs'.Ln.getD i 0) := fun i => getD_isI hLnT i
        simp only [drw_eq]
        generalize w8.drew = W at *
        have hd2 : ([i64 q0, i64 q1].drop 0).take 2 = [i64 q0, i64 q1] := rfl
        refine allW_intro ?_ ?_
        · simp only [push_cast, Nat.reduceAdd, Nat.reduceLeDiff, Nat.reduceLT, Int.reduceToNat, Nat.left_eq_add, Nat.add_eq_left, Nat.add_left_cancel_iff, Nat.reduceEqDiff, Nat.add_assoc, Nat.succ_ne_zero]
          refine clearned_spec (a := { a with ps := ps' }) g3 fun w9 hF9 => ?_
          have g1' := hF9.heap g1 fun h => h
          rw [s_ldN (by decide), g1', aggAt_cells, if_pos (by exact Nat.le_refl 2), hd2, onS_some]
          refine ne_i2 (hLi 0) (hLi 1) hI0 hI1 fun q => ?_
          simp only [brn_br]
          exact br_intro (fun _ => hj1 _ (hFd.trans hF9)) fun _ => hj2 _ (hFd.trans hF9)
        · rw [s_ldN (by decide), g1, aggAt_cells, if_pos (by exact Nat.le_refl 2), hd2, onS_some]
          simp only [push_cast, Nat.reduceAdd, Nat.reduceLeDiff, Nat.reduceLT, Int.reduceToNat, Nat.left_eq_add, Nat.add_eq_left, Nat.add_left_cancel_iff, Nat.reduceEqDiff, Nat.add_assoc, Nat.succ_ne_zero]
          refine clearned_spec (a := { a with ps := ps' }) g3 fun w9 hF9 => ?_
          refine ne_i2 (hLi 0) (hLi 1) hI0 hI1 fun q => ?_
          simp only [brn_br]
          exact br_intro (fun _ => hj1 _ (hFd.trans hF9)) fun _ => hj2 _ (hFd.trans hF9)
  · have hFd : Fr none_ w7 w7.drew := Fr.drew w7
    replace h1 := h1.fr0 hFd
    replace hd1 := hFd.heap hd1 fun h => h
    replace hf1 := hFd.heap hf1 fun h => h
    replace hl7 := hFd.heap hl7 fun h => h
    replace hfr1 := hfr1.fr0 hFd
    replace hFW4 := hFW4.trans (frA0 hFd)
    have hs10 : w7.drew.heap.size = w7.heap.size := rfl
    simp only [drw_eq]
    generalize w7.drew = W at *
    have hlfp : ∀ b, lfp a.bp a.p a.pb b → pB a.bp a.vp a.vm a.vnb a.p a.pb a.sb b := fun b hb => by
      rcases hb with e | e | e
      · exact .inl e
      · exact .inr (.inr (.inr (.inr (.inl e))))
      · exact .inr (.inr (.inr (.inr (.inr (.inl e)))))
    have hpl : ∀ b, lfp a.bp a.p a.pb b → b < fb := fun b hb => hall b ⟨5, hlfp b hb⟩
    have lastA : CallsR Tryz.prog 77 #[pt a.bp 0, i64 port, .agg f.cells.toArray, i64 now] (fun x26 => opS Tryz.prog (S.alloc 141) fun x27 => opS Tryz.prog (S.st 141 x27 x26) fun _ => j x27) W := by
      refine btake_spec htok h1.br hfr1 hfl hpi hni fun xv w8 ps8 hB8 hx8 hn8 hF8 => ?_
      obtain ⟨xa, xc, rfl⟩ := hx8.form
      refine way_slotG fun _ w9 hw9 hF9 => ?_
      have hs8' := hF8.size
      have hC := (h1.ps (hF8.mono fun b _ e => hlfp b e) hB8).fr0 hF9
      exact hj _ _ ⟨w8.heap.size, _, ps8, rfl, by omega, hw9, hC, hx8.fr hF9 fun _ _ h => h, fun b hb => by have := hn8 b hb; omega, hF9.heap (hF8.heap hl7 fun e => by have := hpl _ e; omega) fun h => h, hF9.heap (hF8.heap hd1 fun e => by have := hpl _ e; omega) fun h => h,
        hF9.heap (hF8.heap hf1 fun e => by have := hpl _ e; omega) fun h => h, (hFW4.trans (hF8.mono fun b _ e => ⟨5, hlfp b e⟩)).trans (frA0 hF9)⟩
    have lastB : CallsR Tryz.prog 77 #[pt a.bp 0, i64 port, .agg f.cells.toArray, i64 now] (fun x27 => opS Tryz.prog (S.st 141 (pt W.heap.size 0) x27) fun _ => j (pt W.heap.size 0)) (W.alloc (cellsO (wayC 0 0 0 (.slice none 0 0)) 141)) := by
      have hF8 : Fr none_ W (W.alloc (cellsO (wayC 0 0 0 (.slice none 0 0)) 141)) := (by repeat' first | with_reducible exact Fr.refl _ _ | with_reducible refine Fr.step_alloc ?_ ?_ | with_reducible refine Fr.step_drew ?_ | with_reducible refine Fr.step_wr ?_ ?_ _ _ | exact rfl | exact Or.inr (by omega) | exact Or.inl rfl | exact Or.inl (Or.inl rfl) | exact Or.inl (Or.inr rfl))
      have hw8 : (W.alloc (cellsO (wayC 0 0 0 (.slice none 0 0)) 141)).heap[W.heap.size]? = some (cellsO (wayC 0 0 0 (.slice none 0 0)) 141) := by simp only [push_cast, Nat.reduceAdd, Nat.reduceLeDiff, Nat.reduceLT, Int.reduceToNat, Nat.left_eq_add, Nat.add_eq_left, Nat.add_left_cancel_iff, Nat.reduceEqDiff, Nat.add_assoc, Nat.succ_ne_zero]
      replace h1 := h1.fr0 hF8
      replace hd1 := hF8.heap hd1 fun h => h
      replace hf1 := hF8.heap hf1 fun h => h
      replace hl7 := hF8.heap hl7 fun h => h
      replace hfr1 := hfr1.fr0 hF8
      replace hFW4 := hFW4.trans (frA0 hF8)
      have hs11 := lt_of_heap hw8
      generalize W.alloc (cellsO (wayC 0 0 0 (.slice none 0 0)) 141) = V at *
      refine btake_spec htok h1.br hfr1 hfl hpi hni fun xv w8 ps8 hB8 hx8 hn8 hF8 => ?_
      obtain ⟨xa, xc, rfl⟩ := hx8.form
      have hw9 := hF8.heap hw8 fun e => by have := hpl _ e; omega
      have hs8' := hF8.size
      rw [s_stA _ _ (wayC (takeA room x.fs port f bs.length now).2.1 (takeA room x.fs port f bs.length now).2.2.1 (takeA room x.fs port f bs.length now).2.2.2.1 (.slice xa ((takeA room x.fs port f bs.length now).2.2.2.2.map outC).length xc)) rfl rfl, hw9, okAt_cells]
      rw [show decide (0 + (wayC (takeA room x.fs port f bs.length now).2.1 (takeA room x.fs port f bs.length now).2.2.1 (takeA room x.fs port f bs.length now).2.2.2.1 (.slice xa ((takeA room x.fs port f bs.length now).2.2.2.2.map outC).length xc)).length ≤ (wayC 0 0 0 (.slice none 0 0)).length) = true from rfl, onB_true]
      have hF9 : Fr (fun b => b = W.heap.size) w8 (wr w8 W.heap.size 0 (wayC (takeA room x.fs port f bs.length now).2.1 (takeA room x.fs port f bs.length now).2.2.1 (takeA room x.fs port f bs.length now).2.2.2.1 (.slice xa ((takeA room x.fs port f bs.length now).2.2.2.2.map outC).length xc))) := Fr.wr _ _ _ _ rfl
      have hw10 : (wr w8 W.heap.size 0 (wayC (takeA room x.fs port f bs.length now).2.1 (takeA room x.fs port f bs.length now).2.2.1 (takeA room x.fs port f bs.length now).2.2.2.1 (.slice xa ((takeA room x.fs port f bs.length now).2.2.2.2.map outC).length xc))).heap[W.heap.size]? = some (cellsO (wayC (takeA room x.fs port f bs.length now).2.1 (takeA room x.fs port f bs.length now).2.2.1 (takeA room x.fs port f bs.length now).2.2.2.1 (.slice xa ((takeA room x.fs port f bs.length now).2.2.2.2.map outC).length xc)) 141) := by
        rw [heap_wr, if_pos rfl, hw9, putAt_cells]
        rfl
      have hC := (h1.ps (hF8.mono fun b _ e => hlfp b e) hB8).fr hF9 fun b hb e => by
        obtain ⟨i, hi⟩ := hb
        have hb' : a.all b := by
          refine ⟨i, ?_⟩
          match i, hi with
          | 0, hi => exact hi
          | 1, hi => exact hi
          | 2, hi => exact hi
          | 3, hi => exact hi
          | 4, hi => exact hi
          | 5, hi => exact hi
          | 6, hi => exact hi
        have := hall b hb'
        omega
      have hold : ∀ {b o}, b < W.heap.size → V.heap[b]? = some o → ¬ lfp a.bp a.p a.pb b → (wr w8 W.heap.size 0 (wayC (takeA room x.fs port f bs.length now).2.1 (takeA room x.fs port f bs.length now).2.2.1 (takeA room x.fs port f bs.length now).2.2.2.1 (.slice xa ((takeA room x.fs port f bs.length now).2.2.2.2.map outC).length xc))).heap[b]? = some o := fun hb ho hn => hF9.heap (hF8.heap ho hn) (by omega)
      exact hj _ _ ⟨W.heap.size, _, ps8, rfl, by omega, hw10, hC, hx8.fr hF9 fun b hb e => by have := hn8 b hb; omega, fun b hb => by have := hn8 b hb; omega, hold (by omega) hl7 fun e => by have := hpl _ e; omega, hold (by omega) hd1 fun e => by have := hpl _ e; omega,
        hold (by omega) hf1 fun e => by have := hpl _ e; omega, ((hFW4.trans (hF8.mono fun b _ e => ⟨5, hlfp b e⟩)).step_wr (.inr (by omega)) _ _)⟩
    have hn1 : ¬ a.cp = W.heap.size := by omega
    have hn2 : ¬ fb = W.heap.size := by omega
    simp only [zalloc_way', push_cast, Nat.reduceAdd, Nat.reduceLeDiff, Nat.reduceLT, Int.reduceToNat, Nat.left_eq_add, Nat.add_eq_left, Nat.add_left_cancel_iff, Nat.reduceEqDiff, Nat.add_assoc, Nat.succ_ne_zero, h1.blk]
    repeat' first
      | with_reducible refine allW_intro ?_ ?_
      | exact lastA
      | exact lastB
      | (simp only [zalloc_way', push_cast, Nat.reduceAdd, Nat.reduceLeDiff, Nat.reduceLT, Int.reduceToNat, Nat.left_eq_add, Nat.add_eq_left, Nat.add_left_cancel_iff, Nat.reduceEqDiff, Nat.add_assoc, Nat.succ_ne_zero, h1.blk, hf1, frm_len, frm_dw, hn1, hn2]; done)
      | simp only [zalloc_way', push_cast, Nat.reduceAdd, Nat.reduceLeDiff, Nat.reduceLT, Int.reduceToNat, Nat.left_eq_add, Nat.add_eq_left, Nat.add_left_cancel_iff, Nat.reduceEqDiff, Nat.add_assoc, Nat.succ_ne_zero, h1.blk, hf1, frm_len, frm_dw, hn1, hn2]
end

end Go.Gx.S
end

section
/- A chassis of the code's, without a session: time passes. -/
set_option linter.unusedVariables false
set_option linter.unusedSimpArgs false
set_option maxRecDepth 100000
namespace Go.Gx.S
open Go Go.Gx Go.Proofs
variable {K : Value → World → Prop} {w : World}

def Chs.tick0 (x : Chs) (now : Int) : Chs :=
  if momOk now then (if (x.s.tickP now).role = 2 then ({ x with s := x.s.tickP now } : Chs).alone else { x with s := x.s.tickP now }) else x

theorem tickP_id (s : Ses) (now : Int) : (s.tickP now).id = s.id := by
  unfold Ses.tickP
  split
  · split
    · split
      · rfl
      · split <;> rfl
    · rfl
  · rfl
theorem tickP_up {s : Ses} (h : s.up = false) (now : Int) : (s.tickP now).up = false := by
  unfold Ses.tickP
  split
  · split
    · split
      · rfl
      · split
        · rfl
        · exact h
    · exact h
  · exact h
theorem tickB_no {s : Ses} (h : s.up = false) (now : Int) : s.tickB now = false := by
  unfold Ses.tickB
  rw [h, Bool.and_false, Bool.and_false]
theorem tickP_bad {s : Ses} {now : Int} (h : ¬ momOk now) : s.tickP now = s := by
  unfold Ses.tickP
  rw [if_neg h]
theorem Chs.wf.ses {room : Nat} {x : Chs} {s : Ses} (h : x.wf room) (hs : s.wf) : ({ x with s := s } : Chs).wf room := ⟨hs, h.ow, h.kl, h.sl, h.good, h.oi⟩
theorem Chs.wf.tick0 {room : Nat} {x : Chs} (h : x.wf room) (now : Int) : (x.tick0 now).wf room := by
  unfold Chs.tick0
  split
  · split
    · exact (h.ses (h.s.tick now)).alone
    · exact h.ses (h.s.tick now)
  · exact h

section
variable {N0 room : Nat} {a : CA} {x : Chs}

theorem ctick0_spec {now : Int} (h : CM N0 w room a x) (hw : x.wf room) (ht : x.t = none) (hu : x.s.up = false)
    (hk : ∀ w' v, CM N0 w' room a (x.tick0 now) → (momOk now → OwnE 63 14 w' v [(x.s.tickP now).hello.cells (.slice none 0 0)]) → (¬ momOk now → v = .slice none 0 0) → New w v → Fr a.all w w' → K (.tuple #[.agg (doneC (.slice none 0 0) v).toArray, i64 (momE now)]) w') :
    CallsR Tryz.prog 32 #[pt a.cp 0, i64 now] K w := by
  apply c32
  unfold p32
  unfold Chs.tick0 at hk
  have hall := h.lt
  have hws := hw.ses (hw.s.tick now)
  rw [zalloc_done]
  have hF1 : Fr none_ w (w.alloc (cellsO (doneC (.slice none 0 0) (.slice none 0 0)) 70)) := (by repeat' first | with_reducible exact Fr.refl _ _ | with_reducible refine Fr.step_alloc ?_ ?_ | with_reducible refine Fr.step_drew ?_ | with_reducible refine Fr.step_wr ?_ ?_ _ _ | exact rfl | exact Or.inr (by omega) | exact Or.inl rfl | exact Or.inl (Or.inl rfl) | exact Or.inl (Or.inr rfl))
  have hd1 : (w.alloc (cellsO (doneC (.slice none 0 0) (.slice none 0 0)) 70)).heap[w.heap.size]? = some (cellsO (doneC (.slice none 0 0) (.slice none 0 0)) 70) := by simp only [push_cast, Nat.reduceAdd, Nat.reduceLeDiff, Nat.reduceLT, Int.reduceToNat, Nat.left_eq_add, Nat.add_eq_left, Nat.add_left_cancel_iff, Nat.reduceEqDiff, Nat.add_assoc, Nat.succ_ne_zero]
  replace h := h.fr0 hF1
  have hs1 := lt_of_heap hd1
  generalize w.alloc (cellsO (doneC (.slice none 0 0) (.slice none 0 0)) 70) = w1 at *
  generalize hdb : w.heap.size = db at *
  simp only [push_cast, Nat.reduceAdd, Nat.reduceLeDiff, Nat.reduceLT, Int.reduceToNat, Nat.left_eq_add, Nat.add_eq_left, Nat.add_left_cancel_iff, Nat.reduceEqDiff, Nat.add_assoc, Nat.succ_ne_zero, h.blk]
  refine sttick_spec h.s hw.s fun w2 hS2 hF2 => ?_
  have h2 := h.setS hF2 (tickP_id _ _) hS2
  have hd2 := hF2.heap hd1 fun e => by have := hall db ⟨4, e⟩; omega
  have hF02 : Fr a.all w w2 := (frA0 hF1).trans (frA (i := 4) hF2)
  have hs2 := hF2.size
  rw [tickB_no hu]
  by_cases hm : momOk now
  case neg =>
    have e1 : momE now = 1 := by unfold momE; rw [if_neg hm]
    rw [if_neg hm] at hk
    rw [e1] at hk ⊢
    have e2 : ((1 : Int) != 0) = true := by decide
    simp only [push_cast, Nat.reduceAdd, Nat.reduceLeDiff, Nat.reduceLT, Int.reduceToNat, Nat.left_eq_add, Nat.add_eq_left, Nat.add_left_cancel_iff, Nat.reduceEqDiff, Nat.add_assoc, Nat.succ_ne_zero, e2]
    rw [build_done0]
    simp only [push_cast, Nat.reduceAdd, Nat.reduceLeDiff, Nat.reduceLT, Int.reduceToNat, Nat.left_eq_add, Nat.add_eq_left, Nat.add_left_cancel_iff, Nat.reduceEqDiff, Nat.add_assoc, Nat.succ_ne_zero, hd2]
    have hFx : Fr (fun b => b = db) w2 (wr w2 db 0 (doneC (.slice none 0 0) (.slice none 0 0))) := Fr.wr _ _ _ _ rfl
    refine hk _ _ ?_ (fun e => absurd e hm) (fun _ => rfl) (fun b hb => by cases hb) (hF02.step_wr (.inr (by omega)) _ _)
    rw [tickP_bad hm] at h2
    exact h2.fr hFx fun b hb e => by have e : b = db := e; have := hall b hb; omega
  have e1 : momE now = 0 := by unfold momE; rw [if_pos hm]
  rw [if_pos hm] at hk
  rw [e1] at hk ⊢
  simp only [push_cast, Nat.reduceAdd, Nat.reduceLeDiff, Nat.reduceLT, Int.reduceToNat, Nat.left_eq_add, Nat.add_eq_left, Nat.add_left_cancel_iff, Nat.reduceEqDiff, Nat.add_assoc, Nat.succ_ne_zero, bne_self_eq_false]
  have hupF : ({ x with s := x.s.tickP now } : Chs).s.up = false := tickP_up hu now
  refine jn0 (fun W => W = w2) ?_ fun j0 hj0 => hj0 _ rfl
  rintro W rfl
  have hb2 := h2.blk
  simp only [push_cast, Nat.reduceAdd, Nat.reduceLeDiff, Nat.reduceLT, Int.reduceToNat, Nat.left_eq_add, Nat.add_eq_left, Nat.add_left_cancel_iff, Nat.reduceEqDiff, Nat.add_assoc, Nat.succ_ne_zero, hb2]
  refine sup_spec h2.s ?_
  rw [hupF]
  -- what comes at last
  refine jn0 (fun V => CM N0 V room a (if (x.s.tickP now).role = 2 then ({ x with s := x.s.tickP now } : Chs).alone else { x with s := x.s.tickP now }) ∧ V.heap[db]? = some (cellsO (doneC (.slice none 0 0) (.slice none 0 0)) 70) ∧ Fr a.all w V) ?_ fun j1 hj1 => ?_
  · rintro V ⟨hC, hdV, hFV⟩
    generalize hfin : (if (x.s.tickP now).role = 2 then ({ x with s := x.s.tickP now } : Chs).alone else { x with s := x.s.tickP now }) = y at *
    have hys : y.s = x.s.tickP now := by
      rw [← hfin]
      split <;> rfl
    have hyt : y.t = none := by
      rw [← hfin]
      split <;> exact ht
    have hsv : a.sv = .pointer none := by
      have := hC.t
      rw [hyt] at this
      exact this
    have hsz := hFV.size
    have hdbv : db < V.heap.size := lt_of_heap hdV
    rw [zalloc_done]
    have hF3 : Fr none_ V (V.alloc (cellsO (doneC (.slice none 0 0) (.slice none 0 0)) 70)) := (by repeat' first | with_reducible exact Fr.refl _ _ | with_reducible refine Fr.step_alloc ?_ ?_ | with_reducible refine Fr.step_drew ?_ | with_reducible refine Fr.step_wr ?_ ?_ _ _ | exact rfl | exact Or.inr (by omega) | exact Or.inl rfl | exact Or.inl (Or.inl rfl) | exact Or.inl (Or.inr rfl))
    have hd3 : (V.alloc (cellsO (doneC (.slice none 0 0) (.slice none 0 0)) 70)).heap[V.heap.size]? = some (cellsO (doneC (.slice none 0 0) (.slice none 0 0)) 70) := by simp only [push_cast, Nat.reduceAdd, Nat.reduceLeDiff, Nat.reduceLT, Int.reduceToNat, Nat.left_eq_add, Nat.add_eq_left, Nat.add_left_cancel_iff, Nat.reduceEqDiff, Nat.add_assoc, Nat.succ_ne_zero]
    replace hC := hC.fr0 hF3
    replace hdV := hF3.heap hdV fun h => h
    replace hFV := hFV.trans (frA0 hF3)
    have hs3 := lt_of_heap hd3
    generalize V.alloc (cellsO (doneC (.slice none 0 0) (.slice none 0 0)) 70) = V1 at *
    generalize hvb : V.heap.size = vb at *
    have hdbl : db < V1.heap.size := lt_of_heap hdV
    -- with the hello
    refine jn0 (fun U => ∃ pv, CM N0 U room a y ∧ U.heap[db]? = some (cellsO (doneC (.slice none 0 0) (.slice none 0 0)) 70) ∧ U.heap[vb]? = some (cellsO (doneC (.slice none 0 0) pv) 70) ∧ OwnE 63 14 U pv [(x.s.tickP now).hello.cells (.slice none 0 0)] ∧ (∀ b, blkS pv = some b → vb < b) ∧ Fr a.all w U) ?_ fun j2 hj2 => ?_
    · rintro U ⟨pv, hU, hdU, hvU, hpv, hpn, hFU⟩
      obtain ⟨pa, pc, rfl⟩ := hpv.rd.form
      have hbU := hU.blk
      have hdo : ((doneC (.slice none 0 0) (.slice pa [(x.s.tickP now).hello.cells (.slice none 0 0)].length pc)).drop 0).take 2 = doneC (.slice none 0 0) (.slice pa [(x.s.tickP now).hello.cells (.slice none 0 0)].length pc) := rfl
      simp only [push_cast, Nat.reduceAdd, Nat.reduceLeDiff, Nat.reduceLT, Int.reduceToNat, Nat.left_eq_add, Nat.add_eq_left, Nat.add_left_cancel_iff, Nat.reduceEqDiff, Nat.add_assoc, Nat.succ_ne_zero, hbU, hsv, hvU, hdU, hdo]
      have hFx : Fr (fun b => b = db) U (wr U db 0 (doneC (.slice none 0 0) (.slice pa [(x.s.tickP now).hello.cells (.slice none 0 0)].length pc))) := Fr.wr _ _ _ _ rfl
      have hk' := hk _ (.slice pa [(x.s.tickP now).hello.cells (.slice none 0 0)].length pc) (hU.fr hFx fun b hb e => by have e : b = db := e; have := hall b hb; omega) (fun _ => hpv.fr hFx fun b hb e => by have := hpn b hb; omega) (fun e => absurd hm e) (fun b hb => by have := hpn b hb; omega) (hFU.step_wr (.inr (by omega)) _ _)
      exact hk'
    · refine jn0 (fun U => U = V1) ?_ fun j3 hj3 => hj3 _ rfl
      rintro U rfl
      have hFd : Fr none_ U U.drew := Fr.drew U
      have hCd := hC.fr0 hFd
      have hdd := hFd.heap hdV fun h => h
      have hvd := hFd.heap hd3 fun h => h
      have hFUd := hFV.trans (frA0 hFd)
      have hszd : U.drew.heap.size = U.heap.size := rfl
      refine jn0 (fun U' => ∃ pv, CM N0 U' room a y ∧ U'.heap[db]? = some (cellsO (doneC (.slice none 0 0) (.slice none 0 0)) 70) ∧ U'.heap[vb]? = some (cellsO (doneC (.slice none 0 0) pv) 70) ∧ OwnE 63 14 U' pv [(x.s.tickP now).hello.cells (.slice none 0 0)] ∧ (∀ b, blkS pv = some b → vb < b) ∧ Fr a.all w U') (fun U' hU' => hj2 _ hU') fun j4 hj4 => ?_
      rw [← hszd] at hs3 hdbl
      simp only [drw_eq]
      generalize U.drew = U1 at *
      have hbd := hCd.blk
      have hvall : ∀ b, a.all b → b ≠ vb := fun b hb e => by have := hall b hb; omega
      have fin : ∀ {U2 : World} {v : Value}, OwnE 63 14 U2 v [(x.s.tickP now).hello.cells (.slice none 0 0)] → Fr none_ U1 U2 → (∀ b, blkS v = some b → U1.heap.size ≤ b) → opS Tryz.prog (S.bi .append #[68, 68] 68 [.slice none 0 0, v]) (fun x22 => opS Tryz.prog (S.fa 70 (pt vb 0) 1) fun x23 => opS Tryz.prog (S.st 68 x23 x22) fun _ => j4) U2 := fun {U2 v} hv hF hN => by
        refine s_app (sz := 14) (by_ := 88) (z := .agg ((⟨0, 0, 0, Nt.z⟩ : Pk).cells (.slice none 0 0)).toArray) (by rfl) (by decide) (own_nil _ _ _) hv.rd (by rw [List.flatten_cons, List.flatten_nil, List.append_nil]; exact Pk.one _ _ rfl) (by simp only [List.length_cons, List.length_nil]; decide) fun vD U3 hD bD fD => ?_
        have hNv : ∀ b, blkS (.slice none 0 0) = some b → False := fun b hb => by cases hb
        have hFz : Fr none_ U2 U3 := fD.mono fun b _ e => hNv b e
        have hFz1 := hF.trans hFz
        have hvz := hFz1.heap hvd fun h => h
        obtain ⟨da, dc, rfl⟩ := hD.rd.form
        have hDn : ∀ b, blkS (.slice da ([] ++ [(x.s.tickP now).hello.cells (.slice none 0 0)]).length dc) = some b → vb < b := fun b hb => by
          rcases bD with bD | bD
          · rw [bD] at hb; exact (hNv b hb).elim
          · have := bD b hb
            have := hF.size
            omega
        simp only [push_cast, Nat.reduceAdd, Nat.reduceLeDiff, Nat.reduceLT, Int.reduceToNat, Nat.left_eq_add, Nat.add_eq_left, Nat.add_left_cancel_iff, Nat.reduceEqDiff, Nat.add_assoc, Nat.succ_ne_zero, hvz]
        have hFx : Fr (fun b => b = vb) U3 (wr U3 vb 1 [.slice da ([] ++ [(x.s.tickP now).hello.cells (.slice none 0 0)]).length dc]) := Fr.wr _ _ _ _ rfl
        have hdbn : ¬ db = vb := by omega
        refine hj4 _ ⟨_, (hCd.fr0 hFz1).fr hFx fun b hb e => hvall b hb e, hFx.heap (hFz1.heap hdd fun h => h) hdbn, ?_, hD.fr hFx fun b hb e => by have := hDn b hb; omega, hDn, (hFUd.trans (frA0 hFz1)).step_wr (.inr (by have := hFV.size; omega)) _ _⟩
        simp only [push_cast, Nat.reduceAdd, Nat.reduceLeDiff, Nat.reduceLT, Int.reduceToNat, Nat.left_eq_add, Nat.add_eq_left, Nat.add_left_cancel_iff, Nat.reduceEqDiff, Nat.add_assoc, Nat.succ_ne_zero, hvz]
      have hello : ∀ {R : Value → World → Prop} {U2 : World}, Fr none_ U1 U2 → (∀ U3, Fr none_ U1 U3 → R (.agg ((x.s.tickP now).hello.cells (.slice none 0 0)).toArray) U3) → CallsR Tryz.prog 95 #[pt a.sp 0] R U2 := fun {R U2} hF hR => by
        have := (hCd.fr0 hF).s
        rw [hys] at this
        exact shello_spec this fun U3 hF3 => hR U3 (hF.trans hF3)
      have lit : ∀ {R : Value → World → Prop} {U2 : World}, Fr none_ U1 U2 → (∀ v U3, Fr none_ U1 U3 → OwnE 63 14 U3 v [(x.s.tickP now).hello.cells (.slice none 0 0)] → (∀ b, blkS v = some b → U1.heap.size ≤ b) → R v U3) → opS Tryz.prog (S.buildS 68 1 [(0, .agg ((x.s.tickP now).hello.cells (.slice none 0 0)).toArray)]) R U2 := fun {R U2} hF hR => by
        refine s_bs1 (sz := 14) (z := .agg ((⟨0, 0, 0, Nt.z⟩ : Pk).cells (.slice none 0 0)).toArray) (Pk.len _ _) (by rfl) (by decide) (by decide) fun vC U3 hC3 fC nC => ?_
        exact hR vC U3 (hF.trans fC) hC3 fun b hb => by have := nC b hb; have := hF.size; omega
      simp only [push_cast, Nat.reduceAdd, Nat.reduceLeDiff, Nat.reduceLT, Int.reduceToNat, Nat.left_eq_add, Nat.add_eq_left, Nat.add_left_cancel_iff, Nat.reduceEqDiff, Nat.add_assoc, Nat.succ_ne_zero, hbd, hvd]
      refine allW_intro ?_ ?_
      · simp only [push_cast, Nat.reduceAdd, Nat.reduceLeDiff, Nat.reduceLT, Int.reduceToNat, Nat.left_eq_add, Nat.add_eq_left, Nat.add_left_cancel_iff, Nat.reduceEqDiff, Nat.add_assoc, Nat.succ_ne_zero, hvd]
        refine hello (Fr.refl _ _) fun U3 hF3 => ?_
        refine lit hF3 fun v U4 hF4 hv hn => ?_
        exact fin hv hF4 hn
      · refine hello (Fr.refl _ _) fun U3 hF3 => ?_
        have hv3 := hF3.heap hvd fun h => h
        refine allW_intro ?_ ?_
        · simp only [push_cast, Nat.reduceAdd, Nat.reduceLeDiff, Nat.reduceLT, Int.reduceToNat, Nat.left_eq_add, Nat.add_eq_left, Nat.add_left_cancel_iff, Nat.reduceEqDiff, Nat.add_assoc, Nat.succ_ne_zero, hv3]
          refine lit hF3 fun v U4 hF4 hv hn => ?_
          exact fin hv hF4 hn
        · refine lit hF3 fun v U4 hF4 hv hn => ?_
          have hv4 := hF4.heap hvd fun h => h
          simp only [push_cast, Nat.reduceAdd, Nat.reduceLeDiff, Nat.reduceLT, Int.reduceToNat, Nat.left_eq_add, Nat.add_eq_left, Nat.add_left_cancel_iff, Nat.reduceEqDiff, Nat.add_assoc, Nat.succ_ne_zero, hv4]
          exact fin hv hF4 hn
  · have hj1' := hj1 W
    refine jn0 (fun V => V = W ∧ (x.s.tickP now).role = 2) ?_ fun j2 hj2 => ?_
    · rintro V ⟨rfl, hr⟩
      simp only [push_cast, Nat.reduceAdd, Nat.reduceLeDiff, Nat.reduceLT, Int.reduceToNat, Nat.left_eq_add, Nat.add_eq_left, Nat.add_left_cancel_iff, Nat.reduceEqDiff, Nat.add_assoc, Nat.succ_ne_zero]
      refine calone_spec h2 hws fun w3 h3 hF3 => ?_
      refine hj1 w3 ⟨by rw [if_pos hr]; exact h3, hF3.heap hd2 fun e => by have := hall db e; omega, hF02.trans hF3⟩
    · refine jn0 (fun V => V = W ∧ ¬ (x.s.tickP now).role = 2) ?_ fun j3 hj3 => ?_
      · rintro V ⟨rfl, hr⟩
        exact hj1 _ ⟨by rw [if_neg hr]; exact h2, hd2, hF02⟩
      · simp only [push_cast, Nat.reduceAdd, Nat.reduceLeDiff, Nat.reduceLT, Int.reduceToNat, Nat.left_eq_add, Nat.add_eq_left, Nat.add_left_cancel_iff, Nat.reduceEqDiff, Nat.add_assoc, Nat.succ_ne_zero]
        refine cfirst_spec h2 ?_
        simp only [push_cast, Nat.reduceAdd, Nat.reduceLeDiff, Nat.reduceLT, Int.reduceToNat, Nat.left_eq_add, Nat.add_eq_left, Nat.add_left_cancel_iff, Nat.reduceEqDiff, Nat.add_assoc, Nat.succ_ne_zero]
        exact br_dec (fun e => hj2 _ ⟨rfl, e⟩) fun e => hj3 _ ⟨rfl, e⟩
end

end Go.Gx.S
end
