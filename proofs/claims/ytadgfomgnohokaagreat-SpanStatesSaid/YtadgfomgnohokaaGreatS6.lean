/- Own texts, put together. -/
import Derived.Test.YtadgfomgnohokaaGreatS5
import Derived.Test.YtadgfomgnohokaaGreatS2
import Derived.Test.YtadgfomgnohokaaGreatS1
import Derived.Test.YtadgfomgnohokaaGreatProg
import Derived.Ground.NamesProg
import Derived.Shelf.Sort.Plain
import Derived.Shelf.Slices.In.SortNone
import Derived.Test.YtadgfomgnohokaaGreatS3
import Derived.Lib.RowBridge
section
/- Time passes. -/
set_option linter.unusedVariables false
set_option linter.unusedSimpArgs false
set_option maxRecDepth 100000
namespace Go.Gx.S
open Go Go.Gx Go.Proofs
variable {K : Value → World → Prop} {w : World} {sp mb : Nat} {bs : List Nat} {pv fv : Value} {s : Sp}

/-! ### Plain -/

def hasQ (p : Prt) (now : Int) : Prt := { p with h := { p.h with has := p.h.has && decide (now < p.until_) } }
def Sp.hasK (s : Sp) (now : Int) : Nat → Sp
  | 0 => s
  | k + 1 => (s.hasK now k).onP k fun p => (s.hasK now k).setP k (hasQ p now)
def Sp.goesK (s : Sp) (now : Int) : Nat → Sp
  | 0 => s
  | k + 1 => (s.goesK now k).onP k fun p => (s.goesK now k).goesQ k p now
def Sp.due (s : Sp) (now : Int) : Bool := decide (s.last = -1) || decide (2 ≤ now - s.last)
def Sp.dueS (s : Sp) (now : Int) : Sp := if s.due now = true then { s with last := now } else s
def Sp.says (s : Sp) (p : Prt) (due : Bool) (now : Int) : Int := flagsF p due (decide (now < s.change))
def sayB (s : Sp) (k : Nat) (f : Int) : Spk := ⟨(k : Int) + 1, { s.spokenB with flags := f, port := (k : Int) + 1 }⟩
def sayN (t : Sp × List Spk) (k : Nat) (p : Prt) (f : Int) : Sp × List Spk := if f = 0 then t else (t.1.setP k { p with reply := false }, t.2 ++ [sayB t.1 k f])
def Sp.sayK (s : Sp) (due : Bool) (now : Int) : Nat → Sp × List Spk
  | 0 => (s, [])
  | k + 1 => match (s.sayK due now k).1.l[k]? with
    | none => s.sayK due now k
    | some p => sayN (s.sayK due now k) k p ((s.sayK due now k).1.says p due now)
def Sp.tick3 (s : Sp) (now : Int) : Sp := ((s.hasK now s.l.length).reckon now).goesK now s.l.length
def Sp.tickP (s : Sp) (now : Int) : Sp × List Spk := ((s.tick3 now).dueS now).sayK ((s.tick3 now).due now) now s.l.length

theorem hasK_succ {k : Nat} {now : Int} {p : Prt} (hp : (s.hasK now k).l[k]? = some p) : s.hasK now (k + 1) = (s.hasK now k).setP k (hasQ p now) := Sp.onP_eq hp _
theorem goesK_succ {k : Nat} {now : Int} {p : Prt} (hp : (s.goesK now k).l[k]? = some p) : s.goesK now (k + 1) = (s.goesK now k).goesQ k p now := Sp.onP_eq hp _
theorem sayK_succ {k : Nat} {due : Bool} {now : Int} {p : Prt} (hp : (s.sayK due now k).1.l[k]? = some p) : s.sayK due now (k + 1) = sayN (s.sayK due now k) k p ((s.sayK due now k).1.says p due now) := by
  show (match (s.sayK due now k).1.l[k]? with
    | none => s.sayK due now k
    | some p => sayN (s.sayK due now k) k p ((s.sayK due now k).1.says p due now)) = _
  rw [hp]
theorem hasK_len (s : Sp) (now : Int) : ∀ k, (s.hasK now k).l.length = s.l.length
  | 0 => rfl
  | k + 1 => by
    show ((s.hasK now k).onP k _).l.length = _
    unfold Sp.onP
    split
    · rw [setP_len, hasK_len s now k]
    · exact hasK_len s now k
theorem goesK_len (s : Sp) (now : Int) : ∀ k, (s.goesK now k).l.length = s.l.length
  | 0 => rfl
  | k + 1 => by
    show ((s.goesK now k).onP k _).l.length = _
    unfold Sp.onP
    split
    · rw [goesQ_len, goesK_len s now k]
    · exact goesK_len s now k
theorem sayN_len (t : Sp × List Spk) (k : Nat) (p : Prt) (f : Int) : (sayN t k p f).1.l.length = t.1.l.length := by
  unfold sayN
  split
  · rfl
  · exact setP_len ..
theorem sayK_len (s : Sp) (due : Bool) (now : Int) : ∀ k, (s.sayK due now k).1.l.length = s.l.length
  | 0 => rfl
  | k + 1 => by
    show (match (s.sayK due now k).1.l[k]? with
      | none => s.sayK due now k
      | some p => sayN (s.sayK due now k) k p ((s.sayK due now k).1.says p due now)).1.l.length = _
    split
    · exact sayK_len s due now k
    · rw [sayN_len, sayK_len s due now k]
theorem Sp.wf.hasQ (h : s.wf) {i : Nat} {p : Prt} (hp : s.l[i]? = some p) (now : Int) : (s.setP i (hasQ p now)).wf := h.setP hp ⟨rfl, rfl⟩ (h.l p (List.mem_of_getElem? hp))
theorem Sp.wf.hasK (h : s.wf) (now : Int) : ∀ k, (s.hasK now k).wf
  | 0 => h
  | k + 1 => by
    show ((s.hasK now k).onP k _).wf
    unfold Sp.onP
    split
    · rename_i p hp
      exact (Sp.wf.hasK h now k).hasQ hp now
    · exact Sp.wf.hasK h now k
theorem Sp.wf.goesK (h : s.wf) {now : Int} (hn : momB now) : ∀ k, (s.goesK now k).wf
  | 0 => h
  | k + 1 => by
    show ((s.goesK now k).onP k _).wf
    unfold Sp.onP
    split
    · rename_i p hp
      exact (Sp.wf.goesK h hn k).goesQ hp hn
    · exact Sp.wf.goesK h hn k
theorem Sp.wf.dueS (h : s.wf) {now : Int} (hn : momB now) : (s.dueS now).wf := by
  unfold Sp.dueS
  unfold momB at hn
  split
  · exact ⟨h.me, h.l, h.best, h.num, h.fair, h.fl, h.rl, by show -1 ≤ now ∧ now ≤ _; omega⟩
  · exact h
theorem Sp.wf.noReply (h : s.wf) {i : Nat} {p : Prt} (hp : s.l[i]? = some p) : (s.setP i { p with reply := false }).wf := h.setP hp ⟨rfl, rfl⟩ (h.l p (List.mem_of_getElem? hp)) fun h => ⟨h.role, h.state, h.age, fun _ => rfl⟩
theorem Sp.wf.sayK (h : s.wf) (due : Bool) (now : Int) : ∀ k, (s.sayK due now k).1.wf
  | 0 => h
  | k + 1 => by
    have h1 := Sp.wf.sayK h due now k
    show (match (s.sayK due now k).1.l[k]? with
      | none => s.sayK due now k
      | some p => sayN (s.sayK due now k) k p ((s.sayK due now k).1.says p due now)).1.wf
    split
    · exact h1
    · rename_i p hp
      unfold sayN
      split
      · exact h1
      · exact h1.noReply hp
theorem Sp.wf.tick3 (h : s.wf) {now : Int} (hn : momB now) : (s.tick3 now).wf := ((h.hasK now _).reckon hn).goesK hn _
theorem Sp.wf.tickP (h : s.wf) {now : Int} (hn : momB now) : (s.tickP now).1.wf := ((h.tick3 hn).dueS hn).sayK _ now _
theorem tick3_len (s : Sp) (now : Int) : (s.tick3 now).l.length = s.l.length := by unfold Sp.tick3; rw [goesK_len, reckon_len, hasK_len]
theorem dueS_l (s : Sp) (now : Int) : (s.dueS now).l = s.l := by unfold Sp.dueS; split <;> rfl
theorem tickP_len (s : Sp) (now : Int) : (s.tickP now).1.l.length = s.l.length := by unfold Sp.tickP; rw [sayK_len, dueS_l, tick3_len]
theorem goesK_roles (s : Sp) (now : Int) : ∀ k, (s.goesK now k).rolesOf = s.rolesOf
  | 0 => rfl
  | k + 1 => by
    show ((s.goesK now k).onP k _).rolesOf = _
    unfold Sp.onP
    split
    · rename_i p hp
      rw [rolesOf_goesQ hp, goesK_roles s now k]
    · exact goesK_roles s now k
theorem sayK_roles (s : Sp) (due : Bool) (now : Int) : ∀ k, (s.sayK due now k).1.rolesOf = s.rolesOf
  | 0 => rfl
  | k + 1 => by
    have h1 := sayK_roles s due now k
    show (match (s.sayK due now k).1.l[k]? with
      | none => s.sayK due now k
      | some p => sayN (s.sayK due now k) k p ((s.sayK due now k).1.says p due now)).1.rolesOf = _
    split
    · exact h1
    · rename_i p hp
      unfold sayN
      split
      · exact h1
      · rw [← h1]; exact rolesOf_setS hp rfl
theorem tick3_roles (s : Sp) (now : Int) : (s.tick3 now).rolesOf = ((s.hasK now s.l.length).reckon now).rolesOf := goesK_roles _ _ _
theorem dueS_roles (s : Sp) (now : Int) : (s.dueS now).rolesOf = s.rolesOf := by unfold Sp.rolesOf; rw [dueS_l]
theorem one_same {s t : Sp} (h : s.one) (e : t.rolesOf = s.rolesOf) : t.one := one_of e h

/-! ### The code's -/

def zSpk : Spk := ⟨0, zBpd⟩

theorem due_eq {L now : Int} (hn : momB now) (hl : -1 ≤ L ∧ L ≤ 1099511627776) : IntKind.i64.wrap (now - L) = now - L := by
  unfold momB at hn
  exact wrap_i64 (by omega)

theorem build_say {a : Int} {x : Bpd} : opS Tryz.prog (S.build 80 [(0, i64 a), (1, .agg x.cells.toArray)]) K w = K (.agg (Spk.cells ⟨a, x⟩).toArray) w := by
  rw [opS_build _ rfl]; rfl

theorem tick_spec {now : Int} (h : CS w sp bs pv mb s) (hw : s.wf) (h0 : ¬ momB now → K (.tuple #[.slice none 0 0, i64 1]) w)
    (hk : ∀ v w', momB now → CS w' sp bs pv mb (s.tickP now).1 → OwnE 80 23 w' v ((s.tickP now).2.map Spk.cells) → New w v → Fr (fC sp bs mb) w w' → K (.tuple #[v, i64 0]) w') :
    CallsR Tryz.prog 22 #[pt sp 0, i64 now] K w := by
  apply c22
  unfold p22
  have h64 := hw.n64
  simp only [push_cast, Nat.reduceAdd, Nat.reduceLeDiff, Nat.reduceLT, Int.reduceToNat, Nat.left_eq_add, Nat.add_eq_left, Nat.add_left_cancel_iff, Nat.reduceEqDiff, Nat.add_assoc, Nat.succ_ne_zero]
  refine moment_spec ?_
  simp only [push_cast, Nat.reduceAdd, Nat.reduceLeDiff, Nat.reduceLT, Int.reduceToNat, Nat.left_eq_add, Nat.add_eq_left, Nat.add_left_cancel_iff, Nat.reduceEqDiff, Nat.add_assoc, Nat.succ_ne_zero]
  refine br_intro (fun e => ?_) fun e => ?_
  · exact h0 fun h => by simp [h] at e
  have hn : momB now := by simpa using e
  have hk := fun v w' => hk v w' hn
  have hwk : ∀ k, k < s.l.length → IntKind.i64.wrap ((k : Int) + 1) = ((k + 1 : Nat) : Int) := fun k _ => by rw [wrap_i64 (by omega)]; rfl
  simp only [push_cast, Nat.reduceAdd, Nat.reduceLeDiff, Nat.reduceLT, Int.reduceToNat, Nat.left_eq_add, Nat.add_eq_left, Nat.add_left_cancel_iff, Nat.reduceEqDiff, Nat.add_assoc, Nat.succ_ne_zero, h.ps.main]
  rw [h.ps.lenv]
  refine jn0 (fun W => CS W sp bs pv mb (s.hasK now s.l.length) ∧ Fr (fC sp bs mb) w W) ?_ fun j hj => ?_
  · rintro W ⟨hI, hF⟩
    simp only [push_cast, Nat.reduceAdd, Nat.reduceLeDiff, Nat.reduceLT, Int.reduceToNat, Nat.left_eq_add, Nat.add_eq_left, Nat.add_left_cancel_iff, Nat.reduceEqDiff, Nat.add_assoc, Nat.succ_ne_zero]
    have hw1 := hw.hasK now s.l.length
    refine reckon_spec hI hw1 hn fun W1 hI1 hF1 => ?_
    have hw2 := hw1.reckon hn
    have hl2 : ((s.hasK now s.l.length).reckon now).l.length = s.l.length := by rw [reckon_len, hasK_len]
    have ht3 : s.tick3 now = ((s.hasK now s.l.length).reckon now).goesK now s.l.length := rfl
    have ho3 : (s.tick3 now).one := one_same (one_reckon _ now) (tick3_roles s now)
    generalize (s.hasK now s.l.length).reckon now = s2 at *
    have hF2 := hF.trans hF1
    simp only [push_cast, Nat.reduceAdd, Nat.reduceLeDiff, Nat.reduceLT, Int.reduceToNat, Nat.left_eq_add, Nat.add_eq_left, Nat.add_left_cancel_iff, Nat.reduceEqDiff, Nat.add_assoc, Nat.succ_ne_zero, hI1.ps.main]
    rw [hI1.ps.lenv, hl2]
    refine jn0 (fun W => CS W sp bs pv mb (s.tick3 now) ∧ Fr (fC sp bs mb) w W) ?_ fun j hj => ?_
    · rintro W ⟨hI, hF⟩
      have hw3 := hw.tick3 hn
      have hl3 := tick3_len s now
      have htk : s.tickP now = ((s.tick3 now).dueS now).sayK ((s.tick3 now).due now) now s.l.length := rfl
      generalize s.tick3 now = s3 at *
      refine jn1 (fun v W' => v = .bool (s3.due now) ∧ W' = W) ?_ fun j hj => ?_
      · rintro v W' ⟨rfl, rfl⟩
        refine jn0 (fun W' => CS W' sp bs pv mb (s3.dueS now) ∧ Fr (fC sp bs mb) w W') ?_ fun j hj => ?_
        · rintro W ⟨hI, hF⟩
          have hw4 := hw3.dueS hn
          have hl4 : (s3.dueS now).l.length = s.l.length := by rw [dueS_l, hl3]
          have ho4 : (s3.dueS now).one := one_same ho3 (dueS_roles s3 now)
          generalize s3.dueS now = s4 at *
          generalize s3.due now = due at *
          simp only [push_cast, Nat.reduceAdd, Nat.reduceLeDiff, Nat.reduceLT, Int.reduceToNat, Nat.left_eq_add, Nat.add_eq_left, Nat.add_left_cancel_iff, Nat.reduceEqDiff, Nat.add_assoc, Nat.succ_ne_zero, hI.ps.main]
          rw [hI.ps.lenv, hl4]
          refine jn1 (fun v W => CS W sp bs pv mb (s.tickP now).1 ∧ OwnE 80 23 W v ((s.tickP now).2.map Spk.cells) ∧ New w v ∧ Fr (fC sp bs mb) w W) (fun v W ⟨h1, h2, h3, h4⟩ => hk v W h1 h2 h3 h4) fun j hj => ?_
          rw [htk] at hj
          refine loop2 (fun n x u W => ∃ k : Nat, k ≤ s.l.length ∧ n = s.l.length - k ∧ u = i64 k ∧ CS W sp bs pv mb (s4.sayK due now k).1 ∧ OwnE 80 23 W x ((s4.sayK due now k).2.map Spk.cells) ∧ (s4.sayK due now k).2.length ≤ k ∧ New w x ∧ Fr (fC sp bs mb) w W) ?_ s.l.length ⟨0, by omega, rfl, rfl, hI, own_nil _ _ _, by exact Nat.le_refl _, fun b hb => by simp [blkS] at hb, hF⟩
          rintro n x u W X ⟨k, hk2, rfl, rfl, hI, hO, hOl, hN, hF⟩ hX
          simp only [push_cast, Nat.reduceAdd, Nat.reduceLeDiff, Nat.reduceLT, Int.reduceToNat, Nat.left_eq_add, Nat.add_eq_left, Nat.add_left_cancel_iff, Nat.reduceEqDiff, Nat.add_assoc, Nat.succ_ne_zero]
          refine br_dec (fun hlt => ?_) fun hge => ?_
          · have hkl : k < s.l.length := by omega
            have hwT := hw4.sayK due now k
            have hoT : (s4.sayK due now k).1.one := one_same ho4 (sayK_roles s4 due now k)
            obtain ⟨b, p, hb, hp⟩ := bs_at hI.ps (show k < (s4.sayK due now k).1.l.length by rw [sayK_len, hl4]; exact hkl)
            have hsucc := sayK_succ hp
            refine ld_ptr hI.ps (Fr.refl _ _) hb ?_
            generalize s4.sayK due now k = T at *
            simp only [push_cast, Nat.reduceAdd, Nat.reduceLeDiff, Nat.reduceLT, Int.reduceToNat, Nat.left_eq_add, Nat.add_eq_left, Nat.add_left_cancel_iff, Nat.reduceEqDiff, Nat.add_assoc, Nat.succ_ne_zero]
            refine spoken_spec hI hwT hoT fun W1 hF1 => ?_
            have hI1 := hI.fr0 hF1
            have hc1 := hI1.ps.port k b p hb hp
            have hO1 := hO.fr hF1 fun _ _ h => h
            rw [zalloc_bpd]
            have hFa : Fr none_ W1 (W1.alloc (cellsO zBpd.cells 38)) := (by repeat' first | with_reducible exact Fr.refl _ _ | with_reducible refine Fr.step_alloc ?_ ?_ | with_reducible refine Fr.step_drew ?_ | with_reducible refine Fr.step_wr ?_ ?_ _ _ | exact rfl | exact Or.inr (by omega) | exact Or.inl rfl | exact Or.inl (Or.inl rfl) | exact Or.inl (Or.inr rfl))
            have hxa : (W1.alloc (cellsO zBpd.cells 38)).heap[W1.heap.size]? = some (cellsO zBpd.cells 38) := by simp only [push_cast, Nat.reduceAdd, Nat.reduceLeDiff, Nat.reduceLT, Int.reduceToNat, Nat.left_eq_add, Nat.add_eq_left, Nat.add_left_cancel_iff, Nat.reduceEqDiff, Nat.add_assoc, Nat.succ_ne_zero]
            simp only [push_cast, Nat.reduceAdd, Nat.reduceLeDiff, Nat.reduceLT, Int.reduceToNat, Nat.left_eq_add, Nat.add_eq_left, Nat.add_left_cancel_iff, Nat.reduceEqDiff, Nat.add_assoc, Nat.succ_ne_zero, hxa]
            refine at_w (fun W2 => W2.heap[W1.heap.size]? = some (cellsO T.1.spokenB.cells 38) ∧ Fr none_ W1 W2) ⟨?_, (by repeat' first | with_reducible exact Fr.refl _ _ | with_reducible refine Fr.step_alloc ?_ ?_ | with_reducible refine Fr.step_drew ?_ | with_reducible refine Fr.step_wr ?_ ?_ _ _ | exact rfl | exact Or.inr (by omega) | exact Or.inl rfl | exact Or.inl (Or.inl rfl) | exact Or.inl (Or.inr rfl))⟩ ?_
            · simp only [push_cast, Nat.reduceAdd, Nat.reduceLeDiff, Nat.reduceLT, Int.reduceToNat, Nat.left_eq_add, Nat.add_eq_left, Nat.add_left_cancel_iff, Nat.reduceEqDiff, Nat.add_assoc, Nat.succ_ne_zero, hxa]
            rintro W2 ⟨hx2, hF2⟩
            refine flags_spec (hI1.fr0 hF2) hb hp fun W3 hI3 hF3 => ?_
            have hx3 := hF3.heap hx2 fun h => h
            have hO3 := (hO1.fr hF2 fun _ _ h => h).fr hF3 fun _ _ h => h
            have hc3 := hI3.ps.port k b p hb hp
            have hF4 := (hF1.trans hF2).trans hF3
            have hxb : ¬ W1.heap.size = b := fun e => by have := lt_of_heap hc1; omega
            have hfl : flagsF p due (decide (now < T.1.change)) = T.1.says p due now := rfl
            rw [hfl] at *
            generalize T.1.says p due now = f at *
            have htl : W.heap.size ≤ W1.heap.size := hF1.size
            generalize htb : W1.heap.size = tb at hx3 hxb htl ⊢
            have hxb' : ¬ b = tb := fun e => hxb e.symm
            have hnt : ∀ c, fC sp bs mb c → ¬ c = tb := fun c hc e => by have := hI.lt c hc; omega
            have hpt : ∀ c, blkS pv = some c → ¬ c = tb := fun c hc e => by have := hI.ps.pv_lt (by have := (List.getElem?_eq_some_iff.1 hp).1; omega) c hc; omega
            have hxt : ∀ c, blkS x = some c → ¬ c = tb := fun c hc e => by have := hO.lt hc; omega
            obtain ⟨Wf, hWf⟩ : ∃ Wf, Wf = wr (wr W3 tb 1 [i64 f]) tb 17 [i64 ((k : Int) + 1)] := ⟨_, rfl⟩
            have hx4 : Wf.heap[tb]? = some (cellsO (sayB T.1 k f).b.cells 38) := by rw [hWf]; simp only [push_cast, Nat.reduceAdd, Nat.reduceLeDiff, Nat.reduceLT, Int.reduceToNat, Nat.left_eq_add, Nat.add_eq_left, Nat.add_left_cancel_iff, Nat.reduceEqDiff, Nat.add_assoc, Nat.succ_ne_zero, hx3]; rfl
            have hF34 : Fr (fun c => c = tb) W3 Wf := by rw [hWf]; exact Fr.step_wr (fp := fun c => c = tb) (Fr.step_wr (fp := fun c => c = tb) (Fr.refl _ _) (.inl rfl) _ _) (.inl rfl) _ _
            have hI4 := hI3.fr hF34 hnt hpt
            have hO4 := hO3.fr hF34 hxt
            have hF5 : Fr none_ W Wf := by rw [hWf]; exact (hF4.step_wr (.inr htl) _ _).step_wr (.inr htl) _ _
            have hc4 := hI4.ps.port k b p hb hp
            simp only [push_cast, Nat.reduceAdd, Nat.reduceLeDiff, Nat.reduceLT, Int.reduceToNat, Nat.left_eq_add, Nat.add_eq_left, Nat.add_left_cancel_iff, Nat.reduceEqDiff, Nat.add_assoc, Nat.succ_ne_zero, hx3, hwk k hkl, hxb', hxb, hc3]
            rw [← hWf]
            refine br_intro (fun e => ?_) fun e => ?_
            · have e : f = 0 := by simpa using e
              have e2 : sayN T k p f = T := by unfold sayN; rw [if_pos e]
              rw [e2] at hsucc
              refine hX (s.l.length - (k + 1)) _ _ _ (by omega) ⟨k + 1, by omega, rfl, rfl, by rw [hsucc]; exact hI4, by rw [hsucc]; exact hO4, by rw [hsucc]; omega, hN, hF.trans (hF5.mono fun _ _ h => h.elim)⟩
            · have e : ¬ f = 0 := by simpa using e
              have e2 : sayN T k p f = (T.1.setP k { p with reply := false }, T.2 ++ [sayB T.1 k f]) := by unfold sayN; rw [if_neg e]
              rw [e2] at hsucc
              obtain ⟨g5, f5⟩ := hI4.stp hb hp (Prt.s_reply p false)
              have hO5 := hO4.fr f5 fun c hc e => by
                have h1 := hN c hc
                have := h.lt c e; omega
              have hF6 := (hF.trans (hF5.mono fun _ _ h => h.elim)).trans f5
              rw [build_say]
              generalize wr Wf b 28 [Value.bool false] = W5 at *
              have hOn : T.2.length ≤ 64 := by omega
              refine s_bs1 (sz := 23) (z := .agg zSpk.cells.toArray) (sayB T.1 k f).len rfl (by decide) (by decide) fun y W6 hy hF7 hN7 => ?_
              refine s_app (sz := 23) (by_ := 104) (z := .agg zSpk.cells.toArray) rfl (by decide) (hO5.fr hF7 fun _ _ h => h) hy.rd (by simp [Spk.one]) (by simp; omega) fun y2 W7 hy2 hb2 hF8 => ?_
              have hs1 := hF6.size
              have hs2 := hF7.size
              simp only [push_cast, Nat.reduceAdd, Nat.reduceLeDiff, Nat.reduceLT, Int.reduceToNat, Nat.left_eq_add, Nat.add_eq_left, Nat.add_left_cancel_iff, Nat.reduceEqDiff, Nat.add_assoc, Nat.succ_ne_zero, hwk k hkl]
              have hI5 := (g5.fr0 hF7).fr hF8 (fun c hc e => by
                have h1 := hN c e
                have := h.lt c hc; omega) fun c hc e => by
                have h1 := hN c e
                have := h.ps.pv_lt (by omega) c hc; omega
              refine hX (s.l.length - (k + 1)) _ _ _ (by omega) ⟨k + 1, by omega, rfl, rfl, by rw [hsucc]; exact hI5, by rw [hsucc, List.map_append]; exact hy2, by rw [hsucc]; simp; omega, ?_, ?_⟩
              · intro c hc
                rcases hb2 with hb2 | hb2
                · rw [hb2] at hc; exact hN c hc
                · have := hb2 c hc; omega
              · exact (hF6.trans (hF7.mono fun _ _ h => h.elim)).trans_new hF8 fun c hc hx => by have := hN c hx; omega
          · obtain rfl : k = s.l.length := by omega
            exact hj _ _ ⟨hI, hO, hN, hF⟩
        · rw [brn_br]
          refine br_intro (fun e => ?_) fun e => ?_
          · simp only [push_cast, Nat.reduceAdd, Nat.reduceLeDiff, Nat.reduceLT, Int.reduceToNat, Nat.left_eq_add, Nat.add_eq_left, Nat.add_left_cancel_iff, Nat.reduceEqDiff, Nat.add_assoc, Nat.succ_ne_zero, hI.ps.main]
            obtain ⟨g1, f1⟩ := hI.stm (s' := { s3 with last := now }) rfl rfl (spC_slast _ _ _ now)
            refine hj _ ⟨?_, hF.trans f1⟩
            unfold Sp.dueS; rw [if_pos e]; exact g1
          · refine hj _ ⟨?_, hF⟩
            unfold Sp.dueS; rw [if_neg (by simp [e])]; exact hI
      · simp only [push_cast, Nat.reduceAdd, Nat.reduceLeDiff, Nat.reduceLT, Int.reduceToNat, Nat.left_eq_add, Nat.add_eq_left, Nat.add_left_cancel_iff, Nat.reduceEqDiff, Nat.add_assoc, Nat.succ_ne_zero, hI.ps.main]
        refine br_dec (fun e => ?_) fun e => ?_
        · exact hj _ _ ⟨by unfold Sp.due; rw [decide_eq_true e, Bool.true_or], rfl⟩
        · simp only [push_cast, Nat.reduceAdd, Nat.reduceLeDiff, Nat.reduceLT, Int.reduceToNat, Nat.left_eq_add, Nat.add_eq_left, Nat.add_left_cancel_iff, Nat.reduceEqDiff, Nat.add_assoc, Nat.succ_ne_zero, hI.ps.main, due_eq hn hw3.la]
          exact hj _ _ ⟨by unfold Sp.due; rw [decide_eq_false e, Bool.false_or], rfl⟩
    · refine loop1 (fun n u W => ∃ k : Nat, k ≤ s.l.length ∧ n = s.l.length - k ∧ u = i64 k ∧ CS W sp bs pv mb (s2.goesK now k) ∧ Fr (fC sp bs mb) w W) ?_ s.l.length ⟨0, by omega, rfl, rfl, hI1, hF2⟩
      rintro n u W X ⟨k, hk2, rfl, rfl, hI, hF⟩ hX
      simp only [push_cast, Nat.reduceAdd, Nat.reduceLeDiff, Nat.reduceLT, Int.reduceToNat, Nat.left_eq_add, Nat.add_eq_left, Nat.add_left_cancel_iff, Nat.reduceEqDiff, Nat.add_assoc, Nat.succ_ne_zero]
      refine br_dec (fun hlt => ?_) fun hge => ?_
      · have hkl : k < s.l.length := by omega
        obtain ⟨b, p, hb, hp⟩ := bs_at hI.ps (show k < (s2.goesK now k).l.length by rw [goesK_len, hl2]; exact hkl)
        refine ld_ptr hI.ps (Fr.refl _ _) hb ?_
        simp only [push_cast, Nat.reduceAdd, Nat.reduceLeDiff, Nat.reduceLT, Int.reduceToNat, Nat.left_eq_add, Nat.add_eq_left, Nat.add_left_cancel_iff, Nat.reduceEqDiff, Nat.add_assoc, Nat.succ_ne_zero]
        refine goes_spec hI (hw2.goesK hn k) hb hp hn fun W3 h3 f3 => ?_
        rw [← goesK_succ hp] at h3
        simp only [push_cast, Nat.reduceAdd, Nat.reduceLeDiff, Nat.reduceLT, Int.reduceToNat, Nat.left_eq_add, Nat.add_eq_left, Nat.add_left_cancel_iff, Nat.reduceEqDiff, Nat.add_assoc, Nat.succ_ne_zero, hwk k hkl]
        exact hX (s.l.length - (k + 1)) _ _ (by omega) ⟨k + 1, by omega, rfl, rfl, h3, hF.trans f3⟩
      · obtain rfl : k = s.l.length := by omega
        exact hj _ ⟨by rw [ht3]; exact hI, hF⟩
  · refine loop1 (fun n u W => ∃ k : Nat, k ≤ s.l.length ∧ n = s.l.length - k ∧ u = i64 k ∧ CS W sp bs pv mb (s.hasK now k) ∧ Fr (fC sp bs mb) w W) ?_ s.l.length ⟨0, by omega, rfl, rfl, h, Fr.refl _ _⟩
    rintro n u W X ⟨k, hk2, rfl, rfl, hI, hF⟩ hX
    simp only [push_cast, Nat.reduceAdd, Nat.reduceLeDiff, Nat.reduceLT, Int.reduceToNat, Nat.left_eq_add, Nat.add_eq_left, Nat.add_left_cancel_iff, Nat.reduceEqDiff, Nat.add_assoc, Nat.succ_ne_zero]
    refine br_dec (fun hlt => ?_) fun hge => ?_
    · have hkl : k < s.l.length := by omega
      obtain ⟨b, p, hb, hp⟩ := bs_at hI.ps (show k < (s.hasK now k).l.length by rw [hasK_len]; exact hkl)
      refine ld_ptr hI.ps (Fr.refl _ _) hb ?_
      have hc := hI.ps.port k b p hb hp
      obtain ⟨g1, f1⟩ := hI.stp hb hp (Prt.s_h_has p (p.h.has && decide (now < p.until_)))
      have e1 : (s.hasK now k).setP k { p with h := { p.h with has := p.h.has && decide (now < p.until_) } } = s.hasK now (k + 1) := (hasK_succ hp).symm
      rw [e1] at g1
      have hfin := hX (s.l.length - (k + 1)) _ _ (by omega) ⟨k + 1, by omega, rfl, rfl, g1, hF.trans f1⟩
      simp only [push_cast, Nat.reduceAdd, Nat.reduceLeDiff, Nat.reduceLT, Int.reduceToNat, Nat.left_eq_add, Nat.add_eq_left, Nat.add_left_cancel_iff, Nat.reduceEqDiff, Nat.add_assoc, Nat.succ_ne_zero, hc]
      refine br_intro (fun e => ?_) fun e => ?_
      · rw [e, Bool.true_and] at hfin
        simp only [push_cast, Nat.reduceAdd, Nat.reduceLeDiff, Nat.reduceLT, Int.reduceToNat, Nat.left_eq_add, Nat.add_eq_left, Nat.add_left_cancel_iff, Nat.reduceEqDiff, Nat.add_assoc, Nat.succ_ne_zero, hc, hwk k hkl]
        exact hfin
      · rw [e, Bool.false_and] at hfin
        simp only [push_cast, Nat.reduceAdd, Nat.reduceLeDiff, Nat.reduceLT, Int.reduceToNat, Nat.left_eq_add, Nat.add_eq_left, Nat.add_left_cancel_iff, Nat.reduceEqDiff, Nat.add_assoc, Nat.succ_ne_zero, hc, hwk k hkl]
        exact hfin
    · obtain rfl : k = s.l.length := by omega
      exact hj _ ⟨hI, hF⟩

/-! ### The reference's -/

def ageQ : Option (Int × Int) → Int
  | some q => min (q.2 + 1) 65535
  | none => 0
theorem find_pairs (l : List Prt) : ageO (l.find? isRoot) = ageQ ((l.map fun p => (p.role, p.age)).find? fun q => decide (q.1 = 1)) := by
  rw [List.find?_map]
  show _ = ageQ (Option.map _ (l.find? isRoot))
  cases l.find? isRoot <;> rfl
theorem spokenB_setS {i : Nat} {p q : Prt} (h : s.l[i]? = some p) (e : q.role = p.role) (e2 : q.age = p.age) : (s.setP i q).spokenB = s.spokenB := by
  unfold Sp.spokenB
  have : (s.setP i q).rootAge = s.rootAge := by
    unfold Sp.rootAge ageK
    rw [setP_len, List.take_length, List.take_of_length_le (by rw [setP_len]; exact Nat.le_refl _), find_pairs, find_pairs]
    have : (s.setP i q).l.map (fun p => (p.role, p.age)) = s.l.map (fun p => (p.role, p.age)) := by
      show (s.l.set i q).map _ = _
      rw [List.map_set, e, e2, set_same]
      rw [List.getElem?_map, h]; rfl
    rw [this]
  rw [this]
  rfl

theorem build_say2 {r m : Idn} {c f n a : Int} : opS Tryz.prog (S.build 38 [(0, i64 2), (1, i64 f), (2, .agg r.cells.toArray), (3, i64 c), (4, .agg m.cells.toArray), (5, i64 n), (6, i64 a), (7, i64 20), (8, i64 2), (9, i64 15)]) K w = K (.agg (Bpd.cells ⟨2, f, r, c, m, n, a, 20, 2, 15⟩).toArray) w := by
  rw [opS_build _ rfl]; rfl

theorem rtick_spec {now : Int} (h : RS w sp bs pv fv s) (hw : s.wf) (h0 : ¬ momB now → K (.tuple #[.slice none 0 0, i64 1]) w)
    (hk : ∀ v w', momB now → RS w' sp bs pv fv (s.tickP now).1 → OwnE 80 23 w' v ((s.tickP now).2.map Spk.cells) → New w v → Fr (fR sp bs fv) w w' → K (.tuple #[v, i64 0]) w') :
    CallsR Tryz.prog 23 #[pt sp 0, i64 now] K w := by
  apply c23
  unfold p23
  have h64 := hw.n64
  simp only [push_cast, Nat.reduceAdd, Nat.reduceLeDiff, Nat.reduceLT, Int.reduceToNat, Nat.left_eq_add, Nat.add_eq_left, Nat.add_left_cancel_iff, Nat.reduceEqDiff, Nat.add_assoc, Nat.succ_ne_zero]
  refine br_dec (fun e => h0 fun h => by unfold momB at h; omega) fun e1 => ?_
  refine br_dec (fun e => h0 fun h => by unfold momB at h; omega) fun e2 => ?_
  have hn : momB now := by unfold momB; omega
  have hk := fun v w' => hk v w' hn
  have hwk : ∀ k, k < s.l.length → IntKind.i64.wrap ((k : Int) + 1) = ((k + 1 : Nat) : Int) := fun k _ => by rw [wrap_i64 (by omega)]; rfl
  refine jn0 (fun W => RS W sp bs pv fv (s.hasK now s.l.length) ∧ Fr (fR sp bs fv) w W) ?_ fun j hj => ?_
  · rintro W ⟨hI, hF⟩
    simp only [push_cast, Nat.reduceAdd, Nat.reduceLeDiff, Nat.reduceLT, Int.reduceToNat, Nat.left_eq_add, Nat.add_eq_left, Nat.add_left_cancel_iff, Nat.reduceEqDiff, Nat.add_assoc, Nat.succ_ne_zero]
    have hw1 := hw.hasK now s.l.length
    refine rreckon_spec hI hw1 hn fun W1 hI1 hF1 => ?_
    have hw2 := hw1.reckon hn
    have hl2 : ((s.hasK now s.l.length).reckon now).l.length = s.l.length := by rw [reckon_len, hasK_len]
    have ht3 : s.tick3 now = ((s.hasK now s.l.length).reckon now).goesK now s.l.length := rfl
    generalize (s.hasK now s.l.length).reckon now = s2 at *
    have hF2 := hF.trans hF1
    refine jn0 (fun W => RS W sp bs pv fv (s.tick3 now) ∧ Fr (fR sp bs fv) w W) ?_ fun j hj => ?_
    · rintro W ⟨hI, hF⟩
      have hw3 := hw.tick3 hn
      have hl3 := tick3_len s now
      have htk : s.tickP now = ((s.tick3 now).dueS now).sayK ((s.tick3 now).due now) now s.l.length := rfl
      generalize s.tick3 now = s3 at *
      refine jn1 (fun v W' => v = .bool (s3.due now) ∧ W' = W) ?_ fun j hj => ?_
      · rintro v W' ⟨rfl, rfl⟩
        refine jn0 (fun W' => RS W' sp bs pv fv (s3.dueS now) ∧ Fr (fR sp bs fv) w W') ?_ fun j hj => ?_
        · rintro W ⟨hI, hF⟩
          have hw4 := hw3.dueS hn
          have hl4 : (s3.dueS now).l.length = s.l.length := by rw [dueS_l, hl3]
          generalize s3.dueS now = s4 at *
          generalize s3.due now = due at *
          refine jn1 (fun v W => RS W sp bs pv fv (s.tickP now).1 ∧ OwnE 80 23 W v ((s.tickP now).2.map Spk.cells) ∧ New w v ∧ Fr (fR sp bs fv) w W) (fun v W ⟨h1, h2, h3, h4⟩ => hk v W h1 h2 h3 h4) fun j hj => ?_
          rw [htk] at hj
          refine loop2 (fun n x u W => ∃ k : Nat, k ≤ s.l.length ∧ n = s.l.length - k ∧ u = i64 k ∧ RS W sp bs pv fv (s4.sayK due now k).1 ∧ OwnE 80 23 W x ((s4.sayK due now k).2.map Spk.cells) ∧ (s4.sayK due now k).2.length ≤ k ∧ New w x ∧ Fr (fR sp bs fv) w W) ?_ s.l.length ⟨0, by omega, rfl, rfl, hI, own_nil _ _ _, by exact Nat.le_refl _, fun b hb => by simp [blkS] at hb, hF⟩
          rintro n x u W X ⟨k, hk2, rfl, rfl, hI, hO, hOl, hN, hF⟩ hX
          simp only [push_cast, Nat.reduceAdd, Nat.reduceLeDiff, Nat.reduceLT, Int.reduceToNat, Nat.left_eq_add, Nat.add_eq_left, Nat.add_left_cancel_iff, Nat.reduceEqDiff, Nat.add_assoc, Nat.succ_ne_zero, hI.ps.main]
          rw [hI.ps.lenv, sayK_len, hl4]
          simp only [push_cast, Nat.reduceAdd, Nat.reduceLeDiff, Nat.reduceLT, Int.reduceToNat, Nat.left_eq_add, Nat.add_eq_left, Nat.add_left_cancel_iff, Nat.reduceEqDiff, Nat.add_assoc, Nat.succ_ne_zero]
          refine br_dec (fun hlt => ?_) fun hge => ?_
          · have hkl : k < s.l.length := by omega
            have hwT := hw4.sayK due now k
            obtain ⟨b, p, hb, hp⟩ := bs_at hI.ps (show k < (s4.sayK due now k).1.l.length by rw [sayK_len, hl4]; exact hkl)
            have hsucc := sayK_succ hp
            have hTl : (s4.sayK due now k).1.l.length = s.l.length := by rw [sayK_len, hl4]
            generalize s4.sayK due now k = T at *
            simp only [push_cast, Nat.reduceAdd, Nat.reduceLeDiff, Nat.reduceLT, Int.reduceToNat, Nat.left_eq_add, Nat.add_eq_left, Nat.add_left_cancel_iff, Nat.reduceEqDiff, Nat.add_assoc, Nat.succ_ne_zero, hI.ps.main]
            refine ld_ptr hI.ps (Fr.refl _ _) hb ?_
            have hc := hI.ps.port k b p hb hp
            simp only [push_cast, Nat.reduceAdd, Nat.reduceLeDiff, Nat.reduceLT, Int.reduceToNat, Nat.left_eq_add, Nat.add_eq_left, Nat.add_left_cancel_iff, Nat.reduceEqDiff, Nat.add_assoc, Nat.succ_ne_zero]
            refine rflags_spec hI hb hp ?_
            have hfl : flagsF p due (decide (now < T.1.change)) = T.1.says p due now := rfl
            rw [hfl] at *
            generalize T.1.says p due now = f at *
            simp only [push_cast, Nat.reduceAdd, Nat.reduceLeDiff, Nat.reduceLT, Int.reduceToNat, Nat.left_eq_add, Nat.add_eq_left, Nat.add_left_cancel_iff, Nat.reduceEqDiff, Nat.add_assoc, Nat.succ_ne_zero]
            refine br_intro (fun e => ?_) fun e => ?_
            · have e : f = 0 := by simpa using e
              have e2 : sayN T k p f = T := by unfold sayN; rw [if_pos e]
              rw [e2] at hsucc
              simp only [push_cast, Nat.reduceAdd, Nat.reduceLeDiff, Nat.reduceLT, Int.reduceToNat, Nat.left_eq_add, Nat.add_eq_left, Nat.add_left_cancel_iff, Nat.reduceEqDiff, Nat.add_assoc, Nat.succ_ne_zero, hwk k hkl]
              exact hX (s.l.length - (k + 1)) _ _ _ (by omega) ⟨k + 1, by omega, rfl, rfl, by rw [hsucc]; exact hI, by rw [hsucc]; exact hO, by rw [hsucc]; omega, hN, hF⟩
            · have e : ¬ f = 0 := by simpa using e
              have e2 : sayN T k p f = (T.1.setP k { p with reply := false }, T.2 ++ [sayB T.1 k f]) := by unfold sayN; rw [if_neg e]
              rw [e2] at hsucc
              refine jn0 (fun W => RS W sp bs pv fv (T.1.setP k { p with reply := false }) ∧ OwnE 80 23 W x (T.2.map Spk.cells) ∧ Fr (fR sp bs fv) w W) ?_ fun j3 hj3 => ?_
              · rintro W2 ⟨hI, hO, hF⟩
                have hsp : (T.1.setP k { p with reply := false }).spokenB = T.1.spokenB := spokenB_setS hp rfl rfl
                have hwq : (T.1.setP k { p with reply := false }).wf := hwT.noReply hp
                have hag : (T.1.setP k { p with reply := false }).rootAge = T.1.rootAge := congrArg Bpd.age hsp
                have hme : (T.1.setP k { p with reply := false }).me = T.1.me := rfl
                have hbe : (T.1.setP k { p with reply := false }).best = T.1.best := rfl
                generalize T.1.setP k { p with reply := false } = T1 at *
                simp only [push_cast, Nat.reduceAdd, Nat.reduceLeDiff, Nat.reduceLT, Int.reduceToNat, Nat.left_eq_add, Nat.add_eq_left, Nat.add_left_cancel_iff, Nat.reduceEqDiff, Nat.add_assoc, Nat.succ_ne_zero, hI.ps.main, hwk k hkl]
                replace hI := hI.fr0 (Fr.drew W2)
                replace hO := hO.fr (Fr.drew (fp := none_) W2) fun _ _ h => h
                replace hF := hF.trans (Fr.drew (fp := fR sp bs fv) W2)
                generalize W2.drew = W3 at *
                have l1 : ∀ {R : Value → World → Prop}, R (.agg T1.best.root.cells.toArray) W3 → opS Tryz.prog (S.ld 25 (pt sp 8)) R W3 := fun h => by simp only [push_cast, Nat.reduceAdd, Nat.reduceLeDiff, Nat.reduceLT, Int.reduceToNat, Nat.left_eq_add, Nat.add_eq_left, Nat.add_left_cancel_iff, Nat.reduceEqDiff, Nat.add_assoc, Nat.succ_ne_zero, hI.ps.main]; exact h
                have l2 : ∀ {R : Value → World → Prop}, R (i64 T1.best.cost) W3 → opS Tryz.prog (S.ld 3 (pt sp 15)) R W3 := fun h => by simp only [push_cast, Nat.reduceAdd, Nat.reduceLeDiff, Nat.reduceLT, Int.reduceToNat, Nat.left_eq_add, Nat.add_eq_left, Nat.add_left_cancel_iff, Nat.reduceEqDiff, Nat.add_assoc, Nat.succ_ne_zero, hI.ps.main]; exact h
                have l3 : ∀ {R : Value → World → Prop}, R (.agg T1.me.cells.toArray) W3 → opS Tryz.prog (S.ld 25 (pt sp 0)) R W3 := fun h => by simp only [push_cast, Nat.reduceAdd, Nat.reduceLeDiff, Nat.reduceLT, Int.reduceToNat, Nat.left_eq_add, Nat.add_eq_left, Nat.add_left_cancel_iff, Nat.reduceEqDiff, Nat.add_assoc, Nat.succ_ne_zero, hI.ps.main]; exact h
                have l4 : ∀ {R : Value → World → Prop}, R (i64 T1.rootAge) W3 → opS Tryz.prog (S.cl 58 [pt sp 0]) R W3 := fun h => by rw [opS_cl]; exact rage_spec hI hwq h
                have fin : opS Tryz.prog (S.build 38 [(0, .int .i64 2), (1, i64 f), (2, .agg T1.best.root.cells.toArray), (3, i64 T1.best.cost), (4, .agg T1.me.cells.toArray), (5, .int .i64 ((k : Int) + 1)), (6, i64 T1.rootAge), (7, .int .i64 20), (8, .int .i64 2), (9, .int .i64 15)])
                    (fun x34 => opS Tryz.prog (S.build 80 [(0, .int .i64 ((k : Int) + 1)), (1, x34)]) fun x35 => opS Tryz.prog (S.buildS 72 1 [(0, x35)]) fun x36 => opS Tryz.prog (S.bi .append #[72, 72] 72 [x, x36]) fun x37 => opS Tryz.prog (S.binI .add (i64 k) (.int .i64 1)) fun x38 => X x37 x38) W3 := by
                  have hsay : (⟨2, f, T1.best.root, T1.best.cost, T1.me, (k : Int) + 1, T1.rootAge, 20, 2, 15⟩ : Bpd) = (sayB T.1 k f).b := by
                    rw [hag, hme, hbe]; rfl
                  rw [build_say2, hsay, build_say]
                  have hOn : T.2.length ≤ 64 := by omega
                  refine s_bs1 (sz := 23) (z := .agg zSpk.cells.toArray) (sayB T.1 k f).len rfl (by decide) (by decide) fun y W6 hy hF7 hN7 => ?_
                  refine s_app (sz := 23) (by_ := 104) (z := .agg zSpk.cells.toArray) rfl (by decide) (hO.fr hF7 fun _ _ h => h) hy.rd (by simp [Spk.one]) (by simp; omega) fun y2 W7 hy2 hb2 hF8 => ?_
                  have hs1 := hF.size
                  have hs2 := hF7.size
                  simp only [push_cast, Nat.reduceAdd, Nat.reduceLeDiff, Nat.reduceLT, Int.reduceToNat, Nat.left_eq_add, Nat.add_eq_left, Nat.add_left_cancel_iff, Nat.reduceEqDiff, Nat.add_assoc, Nat.succ_ne_zero, hwk k hkl]
                  have hI5 := (hI.fr0 hF7).fr hF8 (fun c hc e => by
                    have h1 := hN c e
                    have := h.lt c hc; omega) fun c hc e => by
                    have h1 := hN c e
                    have := h.ps.pv_lt (by omega) c hc; omega
                  refine hX (s.l.length - (k + 1)) _ _ _ (by omega) ⟨k + 1, by omega, rfl, rfl, by rw [hsucc]; exact hI5, by rw [hsucc, List.map_append]; exact hy2, by rw [hsucc]; simp; omega, ?_, ?_⟩
                  · intro c hc
                    rcases hb2 with hb2 | hb2
                    · rw [hb2] at hc; exact hN c hc
                    · have := hb2 c hc; omega
                  · exact (hF.trans (hF7.mono fun _ _ h => h.elim)).trans_new hF8 fun c hc hx => by have := hN c hx; omega
                repeat' first
                  | with_reducible refine allW_intro ?_ ?_
                  | with_reducible refine l1 ?_
                  | with_reducible refine l2 ?_
                  | with_reducible refine l3 ?_
                  | with_reducible refine l4 ?_
                  | with_reducible exact fin
              · simp only [push_cast, Nat.reduceAdd, Nat.reduceLeDiff, Nat.reduceLT, Int.reduceToNat, Nat.left_eq_add, Nat.add_eq_left, Nat.add_left_cancel_iff, Nat.reduceEqDiff, Nat.add_assoc, Nat.succ_ne_zero, hc]
                refine br_intro (fun e3 => ?_) fun e3 => ?_
                · obtain ⟨g5, f5⟩ := hI.stp hb hp (Prt.s_reply p false)
                  refine hj3 _ ⟨g5, hO.fr f5 fun c hc e => ?_, hF.trans f5⟩
                  have h1 := hN c hc
                  have := h.lt c e; omega
                · have e3 : p.role = 2 := by simpa using e3
                  have e4 : p.reply = false := (hwT.rl p (List.mem_of_getElem? hp)).reply e3
                  have e5 : ({ p with reply := false } : Prt) = p := by rw [← e4]
                  refine hj3 _ ⟨?_, hO, hF⟩
                  rw [e5, Sp.setP_same _ hp]; exact hI
          · obtain rfl : k = s.l.length := by omega
            exact hj _ _ ⟨hI, hO, hN, hF⟩
        · rw [brn_br]
          refine br_intro (fun e => ?_) fun e => ?_
          · simp only [push_cast, Nat.reduceAdd, Nat.reduceLeDiff, Nat.reduceLT, Int.reduceToNat, Nat.left_eq_add, Nat.add_eq_left, Nat.add_left_cancel_iff, Nat.reduceEqDiff, Nat.add_assoc, Nat.succ_ne_zero, hI.ps.main]
            obtain ⟨g1, f1⟩ := hI.stm (s' := { s3 with last := now }) rfl rfl (spC_slast _ _ _ now)
            refine hj _ ⟨?_, hF.trans f1⟩
            unfold Sp.dueS; rw [if_pos e]; exact g1
          · refine hj _ ⟨?_, hF⟩
            unfold Sp.dueS; rw [if_neg (by simp [e])]; exact hI
      · simp only [push_cast, Nat.reduceAdd, Nat.reduceLeDiff, Nat.reduceLT, Int.reduceToNat, Nat.left_eq_add, Nat.add_eq_left, Nat.add_left_cancel_iff, Nat.reduceEqDiff, Nat.add_assoc, Nat.succ_ne_zero, hI.ps.main]
        have hla := hw3.la
        refine br_dec (fun e => ?_) fun e => ?_
        · exact hj _ _ ⟨by unfold Sp.due; rw [decide_eq_true (show s3.last = -1 by omega), Bool.true_or], rfl⟩
        · simp only [push_cast, Nat.reduceAdd, Nat.reduceLeDiff, Nat.reduceLT, Int.reduceToNat, Nat.left_eq_add, Nat.add_eq_left, Nat.add_left_cancel_iff, Nat.reduceEqDiff, Nat.add_assoc, Nat.succ_ne_zero, hI.ps.main, due_eq hn hw3.la]
          exact hj _ _ ⟨by unfold Sp.due; rw [decide_eq_false (show ¬ s3.last = -1 by omega), Bool.false_or], rfl⟩
    · refine loop1 (fun n u W => ∃ k : Nat, k ≤ s.l.length ∧ n = s.l.length - k ∧ u = i64 k ∧ RS W sp bs pv fv (s2.goesK now k) ∧ Fr (fR sp bs fv) w W) ?_ s.l.length ⟨0, by omega, rfl, rfl, hI1, hF2⟩
      rintro n u W X ⟨k, hk2, rfl, rfl, hI, hF⟩ hX
      simp only [push_cast, Nat.reduceAdd, Nat.reduceLeDiff, Nat.reduceLT, Int.reduceToNat, Nat.left_eq_add, Nat.add_eq_left, Nat.add_left_cancel_iff, Nat.reduceEqDiff, Nat.add_assoc, Nat.succ_ne_zero, hI.ps.main]
      rw [hI.ps.lenv, goesK_len, hl2]
      simp only [push_cast, Nat.reduceAdd, Nat.reduceLeDiff, Nat.reduceLT, Int.reduceToNat, Nat.left_eq_add, Nat.add_eq_left, Nat.add_left_cancel_iff, Nat.reduceEqDiff, Nat.add_assoc, Nat.succ_ne_zero]
      refine br_dec (fun hlt => ?_) fun hge => ?_
      · have hkl : k < s.l.length := by omega
        obtain ⟨b, p, hb, hp⟩ := bs_at hI.ps (show k < (s2.goesK now k).l.length by rw [goesK_len, hl2]; exact hkl)
        refine rgoes_spec hI (hw2.goesK hn k) hp hn fun W3 h3 f3 => ?_
        rw [← goesK_succ hp] at h3
        simp only [push_cast, Nat.reduceAdd, Nat.reduceLeDiff, Nat.reduceLT, Int.reduceToNat, Nat.left_eq_add, Nat.add_eq_left, Nat.add_left_cancel_iff, Nat.reduceEqDiff, Nat.add_assoc, Nat.succ_ne_zero, hwk k hkl]
        exact hX (s.l.length - (k + 1)) _ _ (by omega) ⟨k + 1, by omega, rfl, rfl, h3, hF.trans f3⟩
      · obtain rfl : k = s.l.length := by omega
        exact hj _ ⟨by rw [ht3]; exact hI, hF⟩
  · refine loop1 (fun n u W => ∃ k : Nat, k ≤ s.l.length ∧ n = s.l.length - k ∧ u = i64 k ∧ RS W sp bs pv fv (s.hasK now k) ∧ Fr (fR sp bs fv) w W) ?_ s.l.length ⟨0, by omega, rfl, rfl, h, Fr.refl _ _⟩
    rintro n u W X ⟨k, hk2, rfl, rfl, hI, hF⟩ hX
    simp only [push_cast, Nat.reduceAdd, Nat.reduceLeDiff, Nat.reduceLT, Int.reduceToNat, Nat.left_eq_add, Nat.add_eq_left, Nat.add_left_cancel_iff, Nat.reduceEqDiff, Nat.add_assoc, Nat.succ_ne_zero, hI.ps.main]
    rw [hI.ps.lenv, hasK_len]
    simp only [push_cast, Nat.reduceAdd, Nat.reduceLeDiff, Nat.reduceLT, Int.reduceToNat, Nat.left_eq_add, Nat.add_eq_left, Nat.add_left_cancel_iff, Nat.reduceEqDiff, Nat.add_assoc, Nat.succ_ne_zero]
    refine br_dec (fun hlt => ?_) fun hge => ?_
    · have hkl : k < s.l.length := by omega
      obtain ⟨b, p, hb, hp⟩ := bs_at hI.ps (show k < (s.hasK now k).l.length by rw [hasK_len]; exact hkl)
      have hm0 := hI.ps.main
      replace hI := hI.fr0 (Fr.drew W)
      replace hF := hF.trans (Fr.drew (fp := fR sp bs fv) W)
      generalize W.drew = W at *
      have hc := hI.ps.port k b p hb hp
      obtain ⟨g1, f1⟩ := hI.stp hb hp (Prt.s_h_has p (p.h.has && decide (now < p.until_)))
      have e1 : (s.hasK now k).setP k { p with h := { p.h with has := p.h.has && decide (now < p.until_) } } = s.hasK now (k + 1) := (hasK_succ hp).symm
      rw [e1] at g1
      have hfin := hX (s.l.length - (k + 1)) _ _ (by omega) ⟨k + 1, by omega, rfl, rfl, g1, hF.trans f1⟩
      simp only [push_cast, Nat.reduceAdd, Nat.reduceLeDiff, Nat.reduceLT, Int.reduceToNat, Nat.left_eq_add, Nat.add_eq_left, Nat.add_left_cancel_iff, Nat.reduceEqDiff, Nat.add_assoc, Nat.succ_ne_zero, hm0]
      refine ld_ptr hI.ps (Fr.refl _ _) hb ?_
      simp only [push_cast, Nat.reduceAdd, Nat.reduceLeDiff, Nat.reduceLT, Int.reduceToNat, Nat.left_eq_add, Nat.add_eq_left, Nat.add_left_cancel_iff, Nat.reduceEqDiff, Nat.add_assoc, Nat.succ_ne_zero, hI.ps.main]
      refine ld_ptr hI.ps (Fr.refl _ _) hb ?_
      simp only [push_cast, Nat.reduceAdd, Nat.reduceLeDiff, Nat.reduceLT, Int.reduceToNat, Nat.left_eq_add, Nat.add_eq_left, Nat.add_left_cancel_iff, Nat.reduceEqDiff, Nat.add_assoc, Nat.succ_ne_zero, hc]
      refine br_intro (fun e => ?_) fun e => ?_
      · rw [e, Bool.true_and] at hfin
        simp only [push_cast, Nat.reduceAdd, Nat.reduceLeDiff, Nat.reduceLT, Int.reduceToNat, Nat.left_eq_add, Nat.add_eq_left, Nat.add_left_cancel_iff, Nat.reduceEqDiff, Nat.add_assoc, Nat.succ_ne_zero, hI.ps.main]
        refine ld_ptr hI.ps (Fr.refl _ _) hb ?_
        simp only [push_cast, Nat.reduceAdd, Nat.reduceLeDiff, Nat.reduceLT, Int.reduceToNat, Nat.left_eq_add, Nat.add_eq_left, Nat.add_left_cancel_iff, Nat.reduceEqDiff, Nat.add_assoc, Nat.succ_ne_zero, hc, hwk k hkl]
        exact hfin
      · rw [e, Bool.false_and] at hfin
        simp only [push_cast, Nat.reduceAdd, Nat.reduceLeDiff, Nat.reduceLT, Int.reduceToNat, Nat.left_eq_add, Nat.add_eq_left, Nat.add_left_cancel_iff, Nat.reduceEqDiff, Nat.add_assoc, Nat.succ_ne_zero, hc, hwk k hkl]
        exact hfin
    · obtain rfl : k = s.l.length := by omega
      exact hj _ ⟨hI, hF⟩

end Go.Gx.S
end

section
/- What a bridge is asked. -/
set_option linter.unusedVariables false
set_option linter.unusedSimpArgs false
set_option maxRecDepth 100000
namespace Go.Gx.S
open Go Go.Gx Go.Proofs
variable {K : Value → World → Prop} {w : World} {sp mb : Nat} {bs : List Nat} {pv fv : Value} {s : Sp}

def Sp.statesOf (s : Sp) : List Int := s.l.map (·.state)

theorem those_spec {fn : Value} {g : Prt → Int} (h : CS w sp bs pv mb s) (hw : s.wf)
    (hg : ∀ (R : Value → World → Prop) W b p, W.heap[b]? = some (cellsO p.cells 63) → R (i64 (g p)) W → opS Tryz.prog (S.call fn [pt b 0]) R W)
    (hk : ∀ v w', OwnE 3 1 w' v ((s.l.map g).map cellI) → New w v → Fr none_ w w' → K v w') : CallsR Tryz.prog 29 #[pt sp 0, fn] K w := by
  apply c29
  unfold p29
  have h64 := hw.n64
  simp only [push_cast, Nat.reduceAdd, Nat.reduceLeDiff, Nat.reduceLT, Int.reduceToNat, Nat.left_eq_add, Nat.add_eq_left, Nat.add_left_cancel_iff, Nat.reduceEqDiff, Nat.add_assoc, Nat.succ_ne_zero, h.ps.main]
  rw [h.ps.lenv]
  refine jn1 (fun v W => OwnE 3 1 W v ((s.l.map g).map cellI) ∧ New w v ∧ Fr none_ w W) (fun v W ⟨h1, h2, h3⟩ => hk v W h1 h2 h3) fun j hj => ?_
  refine loop2 (fun n x u W => ∃ k : Nat, k ≤ s.l.length ∧ n = s.l.length - k ∧ u = i64 k ∧ OwnE 3 1 W x (((s.l.take k).map g).map cellI) ∧ New w x ∧ Fr none_ w W) ?_ s.l.length ⟨0, by omega, rfl, rfl, own_nil _ _ _, fun b hb => by simp [blkS] at hb, Fr.refl _ _⟩
  rintro n x u W X ⟨k, hk2, rfl, rfl, hO, hN, hF⟩ hX
  simp only [push_cast, Nat.reduceAdd, Nat.reduceLeDiff, Nat.reduceLT, Int.reduceToNat, Nat.left_eq_add, Nat.add_eq_left, Nat.add_left_cancel_iff, Nat.reduceEqDiff, Nat.add_assoc, Nat.succ_ne_zero]
  refine br_dec (fun hlt => ?_) fun hge => ?_
  · have hkl : k < s.l.length := by omega
    have hwk : IntKind.i64.wrap ((k : Int) + 1) = ((k + 1 : Nat) : Int) := by rw [wrap_i64 (by omega)]; rfl
    obtain ⟨b, p, hb, hp⟩ := bs_at h.ps hkl
    refine ld_ptr h.ps hF hb ?_
    refine hg _ _ _ _ (hF.heap (h.ps.port k b p hb hp) fun h => h) ?_
    refine s_app1 (z := .int .i64 0) rfl rfl (by decide) hO (by rw [List.length_map, List.length_map, List.length_take]; omega) fun v2 w2 h1 h2 h3 => ?_
    have hs := hF.size
    simp only [push_cast, Nat.reduceAdd, Nat.reduceLeDiff, Nat.reduceLT, Int.reduceToNat, Nat.left_eq_add, Nat.add_eq_left, Nat.add_left_cancel_iff, Nat.reduceEqDiff, Nat.add_assoc, Nat.succ_ne_zero, hwk]
    refine hX (s.l.length - (k + 1)) _ _ _ (by omega) ⟨k + 1, by omega, rfl, rfl, ?_, fun c hc => ?_, hF.trans_new h3 fun c hc hx => by have := hN c hx; omega⟩
    · rw [List.take_add_one, hp, List.map_append, List.map_append]; exact h1
    · rcases h2 with h2 | h2
      · rw [h2] at hc; exact hN c hc
      · have := h2 c hc; omega
  · obtain rfl : k = s.l.length := by omega
    rw [List.take_length] at hO
    exact hj _ _ ⟨hO, hN, hF⟩

theorem roles1_spec {b : Nat} {p : Prt} {W : World} (h : W.heap[b]? = some (cellsO p.cells 63)) (hk : K (i64 p.role) W) : CallsR Tryz.prog 30 #[pt b 0] K W := by
  apply c30
  unfold p30
  simp only [push_cast, Nat.reduceAdd, Nat.reduceLeDiff, Nat.reduceLT, Int.reduceToNat, Nat.left_eq_add, Nat.add_eq_left, Nat.add_left_cancel_iff, Nat.reduceEqDiff, Nat.add_assoc, Nat.succ_ne_zero, h]
  exact hk
theorem states1_spec {b : Nat} {p : Prt} {W : World} (h : W.heap[b]? = some (cellsO p.cells 63)) (hk : K (i64 p.state) W) : CallsR Tryz.prog 31 #[pt b 0] K W := by
  apply c31
  unfold p31
  simp only [push_cast, Nat.reduceAdd, Nat.reduceLeDiff, Nat.reduceLT, Int.reduceToNat, Nat.left_eq_add, Nat.add_eq_left, Nat.add_left_cancel_iff, Nat.reduceEqDiff, Nat.add_assoc, Nat.succ_ne_zero, h]
  exact hk
theorem roles_spec (h : CS w sp bs pv mb s) (hw : s.wf) (hk : ∀ v w', OwnE 3 1 w' v (s.rolesOf.map cellI) → New w v → Fr none_ w w' → K v w') : CallsR Tryz.prog 10 #[pt sp 0] K w := by
  apply c10
  unfold p10
  simp only [push_cast, Nat.reduceAdd, Nat.reduceLeDiff, Nat.reduceLT, Int.reduceToNat, Nat.left_eq_add, Nat.add_eq_left, Nat.add_left_cancel_iff, Nat.reduceEqDiff, Nat.add_assoc, Nat.succ_ne_zero]
  refine those_spec (g := fun p => p.role) h hw (fun R W b p hb hR => ?_) hk
  simp only [push_cast, Nat.reduceAdd, Nat.reduceLeDiff, Nat.reduceLT, Int.reduceToNat, Nat.left_eq_add, Nat.add_eq_left, Nat.add_left_cancel_iff, Nat.reduceEqDiff, Nat.add_assoc, Nat.succ_ne_zero]
  exact roles1_spec hb hR
theorem states_spec (h : CS w sp bs pv mb s) (hw : s.wf) (hk : ∀ v w', OwnE 3 1 w' v (s.statesOf.map cellI) → New w v → Fr none_ w w' → K v w') : CallsR Tryz.prog 13 #[pt sp 0] K w := by
  apply c13
  unfold p13
  simp only [push_cast, Nat.reduceAdd, Nat.reduceLeDiff, Nat.reduceLT, Int.reduceToNat, Nat.left_eq_add, Nat.add_eq_left, Nat.add_left_cancel_iff, Nat.reduceEqDiff, Nat.add_assoc, Nat.succ_ne_zero]
  refine those_spec (g := fun p => p.state) h hw (fun R W b p hb hR => ?_) hk
  simp only [push_cast, Nat.reduceAdd, Nat.reduceLeDiff, Nat.reduceLT, Int.reduceToNat, Nat.left_eq_add, Nat.add_eq_left, Nat.add_left_cancel_iff, Nat.reduceEqDiff, Nat.add_assoc, Nat.succ_ne_zero]
  exact states1_spec hb hR
theorem best_spec (h : CS w sp bs pv mb s) (hk : ∀ w', Fr none_ w w' → K (.agg s.best.cells.toArray) w') : CallsR Tryz.prog 12 #[pt sp 0] K w := by
  apply c12
  unfold p12
  rw [zalloc_vec]
  have hl := lt_of_heap h.ps.main
  have n1 : ¬ sp = w.heap.size := by omega
  simp only [push_cast, Nat.reduceAdd, Nat.reduceLeDiff, Nat.reduceLT, Int.reduceToNat, Nat.left_eq_add, Nat.add_eq_left, Nat.add_left_cancel_iff, Nat.reduceEqDiff, Nat.add_assoc, Nat.succ_ne_zero, h.ps.main, n1]
  exact hk _ (by repeat' first | with_reducible exact Fr.refl _ _ | with_reducible refine Fr.step_alloc ?_ ?_ | with_reducible refine Fr.step_drew ?_ | with_reducible refine Fr.step_wr ?_ ?_ _ _ | exact rfl | exact Or.inr (by omega) | exact Or.inl rfl | exact Or.inl (Or.inl rfl) | exact Or.inl (Or.inr rfl))

theorem rroles_spec (h : RS w sp bs pv fv s) (hw : s.wf) (hk : ∀ v w', OwnE 3 1 w' v (s.rolesOf.map cellI) → New w v → Fr none_ w w' → K v w') : CallsR Tryz.prog 11 #[pt sp 0] K w := by
  apply c11
  unfold p11
  have h64 := hw.n64
  refine jn1 (fun v W => OwnE 3 1 W v (s.rolesOf.map cellI) ∧ New w v ∧ Fr none_ w W) (fun v W ⟨h1, h2, h3⟩ => hk v W h1 h2 h3) fun j hj => ?_
  refine loop2 (fun n x u W => ∃ k : Nat, k ≤ s.l.length ∧ n = s.l.length - k ∧ u = i64 k ∧ OwnE 3 1 W x (((s.l.take k).map (·.role)).map cellI) ∧ New w x ∧ Fr none_ w W) ?_ s.l.length ⟨0, by omega, rfl, rfl, own_nil _ _ _, fun b hb => by simp [blkS] at hb, Fr.refl _ _⟩
  rintro n x u W X ⟨k, hk2, rfl, rfl, hO, hN, hF⟩ hX
  have hI := h.fr0 hF
  simp only [push_cast, Nat.reduceAdd, Nat.reduceLeDiff, Nat.reduceLT, Int.reduceToNat, Nat.left_eq_add, Nat.add_eq_left, Nat.add_left_cancel_iff, Nat.reduceEqDiff, Nat.add_assoc, Nat.succ_ne_zero, hI.ps.main]
  rw [hI.ps.lenv]
  simp only [push_cast, Nat.reduceAdd, Nat.reduceLeDiff, Nat.reduceLT, Int.reduceToNat, Nat.left_eq_add, Nat.add_eq_left, Nat.add_left_cancel_iff, Nat.reduceEqDiff, Nat.add_assoc, Nat.succ_ne_zero]
  refine br_dec (fun hlt => ?_) fun hge => ?_
  · have hkl : k < s.l.length := by omega
    have hwk : IntKind.i64.wrap ((k : Int) + 1) = ((k + 1 : Nat) : Int) := by rw [wrap_i64 (by omega)]; rfl
    obtain ⟨b, p, hb, hp⟩ := bs_at hI.ps hkl
    simp only [push_cast, Nat.reduceAdd, Nat.reduceLeDiff, Nat.reduceLT, Int.reduceToNat, Nat.left_eq_add, Nat.add_eq_left, Nat.add_left_cancel_iff, Nat.reduceEqDiff, Nat.add_assoc, Nat.succ_ne_zero, hI.ps.main]
    refine ld_ptr hI.ps (Fr.refl _ _) hb ?_
    simp only [push_cast, Nat.reduceAdd, Nat.reduceLeDiff, Nat.reduceLT, Int.reduceToNat, Nat.left_eq_add, Nat.add_eq_left, Nat.add_left_cancel_iff, Nat.reduceEqDiff, Nat.add_assoc, Nat.succ_ne_zero, hI.ps.port k b p hb hp]
    refine s_app1 (z := .int .i64 0) rfl rfl (by decide) hO (by rw [List.length_map, List.length_map, List.length_take]; omega) fun v2 w2 h1 h2 h3 => ?_
    have hs := hF.size
    simp only [push_cast, Nat.reduceAdd, Nat.reduceLeDiff, Nat.reduceLT, Int.reduceToNat, Nat.left_eq_add, Nat.add_eq_left, Nat.add_left_cancel_iff, Nat.reduceEqDiff, Nat.add_assoc, Nat.succ_ne_zero, hwk]
    refine hX (s.l.length - (k + 1)) _ _ _ (by omega) ⟨k + 1, by omega, rfl, rfl, ?_, fun c hc => ?_, hF.trans_new h3 fun c hc hx => by have := hN c hx; omega⟩
    · rw [List.take_add_one, hp, List.map_append, List.map_append]; exact h1
    · rcases h2 with h2 | h2
      · rw [h2] at hc; exact hN c hc
      · have := h2 c hc; omega
  · obtain rfl : k = s.l.length := by omega
    rw [List.take_length] at hO
    exact hj _ _ ⟨hO, hN, hF⟩
theorem rstates_spec (h : RS w sp bs pv fv s) (hw : s.wf) (hk : ∀ v w', OwnE 3 1 w' v (s.statesOf.map cellI) → New w v → Fr none_ w w' → K v w') : CallsR Tryz.prog 14 #[pt sp 0] K w := by
  apply c14
  unfold p14
  have h64 := hw.n64
  refine jn1 (fun v W => OwnE 3 1 W v (s.statesOf.map cellI) ∧ New w v ∧ Fr none_ w W) (fun v W ⟨h1, h2, h3⟩ => hk v W h1 h2 h3) fun j hj => ?_
  refine loop2 (fun n x u W => ∃ k : Nat, k ≤ s.l.length ∧ n = s.l.length - k ∧ u = i64 k ∧ OwnE 3 1 W x (((s.l.take k).map (·.state)).map cellI) ∧ New w x ∧ Fr none_ w W) ?_ s.l.length ⟨0, by omega, rfl, rfl, own_nil _ _ _, fun b hb => by simp [blkS] at hb, Fr.refl _ _⟩
  rintro n x u W X ⟨k, hk2, rfl, rfl, hO, hN, hF⟩ hX
  have hI := h.fr0 hF
  simp only [push_cast, Nat.reduceAdd, Nat.reduceLeDiff, Nat.reduceLT, Int.reduceToNat, Nat.left_eq_add, Nat.add_eq_left, Nat.add_left_cancel_iff, Nat.reduceEqDiff, Nat.add_assoc, Nat.succ_ne_zero, hI.ps.main]
  rw [hI.ps.lenv]
  simp only [push_cast, Nat.reduceAdd, Nat.reduceLeDiff, Nat.reduceLT, Int.reduceToNat, Nat.left_eq_add, Nat.add_eq_left, Nat.add_left_cancel_iff, Nat.reduceEqDiff, Nat.add_assoc, Nat.succ_ne_zero]
  refine br_dec (fun hlt => ?_) fun hge => ?_
  · have hkl : k < s.l.length := by omega
    have hwk : IntKind.i64.wrap ((k : Int) + 1) = ((k + 1 : Nat) : Int) := by rw [wrap_i64 (by omega)]; rfl
    obtain ⟨b, p, hb, hp⟩ := bs_at hI.ps hkl
    simp only [push_cast, Nat.reduceAdd, Nat.reduceLeDiff, Nat.reduceLT, Int.reduceToNat, Nat.left_eq_add, Nat.add_eq_left, Nat.add_left_cancel_iff, Nat.reduceEqDiff, Nat.add_assoc, Nat.succ_ne_zero, hI.ps.main]
    refine ld_ptr hI.ps (Fr.refl _ _) hb ?_
    simp only [push_cast, Nat.reduceAdd, Nat.reduceLeDiff, Nat.reduceLT, Int.reduceToNat, Nat.left_eq_add, Nat.add_eq_left, Nat.add_left_cancel_iff, Nat.reduceEqDiff, Nat.add_assoc, Nat.succ_ne_zero, hI.ps.port k b p hb hp]
    refine s_app1 (z := .int .i64 0) rfl rfl (by decide) hO (by rw [List.length_map, List.length_map, List.length_take]; omega) fun v2 w2 h1 h2 h3 => ?_
    have hs := hF.size
    simp only [push_cast, Nat.reduceAdd, Nat.reduceLeDiff, Nat.reduceLT, Int.reduceToNat, Nat.left_eq_add, Nat.add_eq_left, Nat.add_left_cancel_iff, Nat.reduceEqDiff, Nat.add_assoc, Nat.succ_ne_zero, hwk]
    refine hX (s.l.length - (k + 1)) _ _ _ (by omega) ⟨k + 1, by omega, rfl, rfl, ?_, fun c hc => ?_, hF.trans_new h3 fun c hc hx => by have := hN c hx; omega⟩
    · rw [List.take_add_one, hp, List.map_append, List.map_append]; exact h1
    · rcases h2 with h2 | h2
      · rw [h2] at hc; exact hN c hc
      · have := h2 c hc; omega
  · obtain rfl : k = s.l.length := by omega
    rw [List.take_length] at hO
    exact hj _ _ ⟨hO, hN, hF⟩

theorem FM.nil (n : Nat) : FM [] (List.replicate n false) := fun k => by
  rw [if_neg]
  · rfl
  · rintro ⟨_, h⟩
    rw [List.getElem?_replicate] at h
    split at h <;> cases h

end Go.Gx.S
end

section
/- A new bridge. -/
set_option linter.unusedVariables false
set_option linter.unusedSimpArgs false
set_option maxRecDepth 100000
namespace Go.Gx.S
open Go Go.Gx Go.Proofs
variable {K : Value → World → Prop} {w : World} {sp mb : Nat} {bs : List Nat} {pv fv : Value} {s : Sp}

/-! ### Plain -/

def newP (i : Nat) (c : Int) : Prt := ⟨⟨(i : Int) + 1, c, false, false, zVec⟩, 0, 0, false, 0, 0, 0, false, false⟩
def newS (me : Idn) (costs : List Int) : Sp := ⟨me, costs.mapIdx newP, ⟨me, 0, me, 0, 0⟩, 0, -1, List.replicate costs.length false⟩
def costC (c : Int) : Bool := decide (1 ≤ c) && decide (c ≤ 200000000)
def newB (me : Idn) (costs : List Int) : Bool := (decide (1 ≤ costs.length) && decide (costs.length ≤ 64)) && (decide (0 ≤ me.prio) && decide (me.prio ≤ 65535)) && costs.all costC

theorem newS_len (me : Idn) (costs : List Int) : (newS me costs).l.length = costs.length := by unfold newS; simp
theorem newS_get (me : Idn) (costs : List Int) (k : Nat) : (newS me costs).l[k]? = (costs[k]?).map (newP k) := by unfold newS; rw [List.getElem?_mapIdx]
theorem newS_mem {me : Idn} {costs : List Int} {p : Prt} (h : p ∈ (newS me costs).l) : ∃ k c, costs[k]? = some c ∧ p = newP k c := by
  obtain ⟨k, hk⟩ := List.mem_iff_getElem?.1 h
  rw [newS_get] at hk
  cases hc : costs[k]? with
  | none => rw [hc] at hk; cases hk
  | some c => rw [hc] at hk; exact ⟨k, c, hc, (Option.some.inj hk).symm⟩
theorem new_fair (me : Idn) (costs : List Int) : fairB (newS me costs).hs = (decide (costs.length ≤ 64) && costs.all costC) := by
  unfold fairB
  rw [hs_len, newS_len]
  congr 1
  unfold Sp.hs newS
  show List.all (List.map (·.h) (costs.mapIdx newP)) costH = costs.all costC
  rw [List.all_map, Bool.eq_iff_iff, List.all_eq_true, List.all_eq_true]
  constructor
  · intro h c hc
    obtain ⟨k, hk⟩ := List.mem_iff_getElem?.1 hc
    exact h (newP k c) (List.mem_iff_getElem?.2 ⟨k, by rw [List.getElem?_mapIdx, hk]; rfl⟩)
  · intro h p hp
    obtain ⟨k, hk⟩ := List.mem_iff_getElem?.1 hp
    rw [List.getElem?_mapIdx] at hk
    cases hc : costs[k]? with
    | none => rw [hc] at hk; cases hk
    | some c =>
      rw [hc] at hk
      rw [← Option.some.inj hk]
      exact h c (List.mem_of_getElem? hc)
theorem newB_fair {me : Idn} {costs : List Int} : newB me costs = (decide (1 ≤ costs.length) && (decide (0 ≤ me.prio) && decide (me.prio ≤ 65535)) && fairB (newS me costs).hs) := by
  rw [new_fair]
  unfold newB
  cases decide (1 ≤ costs.length) <;> cases decide (costs.length ≤ 64) <;> cases (decide (0 ≤ me.prio) && decide (me.prio ≤ 65535)) <;> rfl
theorem new_num (me : Idn) (costs : List Int) : numbered (newS me costs).hs := fun k x hx => by
  unfold Sp.hs at hx
  rw [List.getElem?_map, newS_get] at hx
  cases hc : costs[k]? with
  | none => rw [hc] at hx; cases hx
  | some c => rw [hc] at hx; rw [← Option.some.inj hx]; rfl
theorem newP_ok {k : Nat} {c : Int} (hk : k < 2 ^ 20) (hc : isI c) : (newP k c).ok :=
  ⟨⟨isI_iff.2 (by show -9223372036854775808 ≤ (k : Int) + 1 ∧ (k : Int) + 1 ≤ 9223372036854775807; omega), hc, zVec_ok⟩, isI0, isI0, isI0, isI0, isI0⟩
theorem new_hok {me : Idn} {costs : List Int} (hl : costs.length ≤ 2 ^ 20) (hc : ∀ c ∈ costs, isI c) : ∀ h ∈ (newS me costs).hs, h.ok := fun x hx => by
  obtain ⟨p, hp, rfl⟩ := List.mem_map.1 hx
  obtain ⟨k, c, hkc, rfl⟩ := newS_mem hp
  have := (List.getElem?_eq_some_iff.1 hkc).1
  exact (newP_ok (by omega) (hc c (List.mem_of_getElem? hkc))).1
theorem new_best (me : Idn) (costs : List Int) : ∀ k, bestK me (newS me costs).hs k = (⟨me, 0, me, 0, 0⟩, -1)
  | 0 => rfl
  | k + 1 => by
    unfold bestK
    cases hx : (newS me costs).hs[k]? with
    | none => exact new_best me costs k
    | some x =>
      have hx' := hx
      unfold Sp.hs at hx'
      rw [List.getElem?_map, newS_get] at hx'
      cases hc : costs[k]? with
      | none => rw [hc] at hx'; cases hx'
      | some c =>
        rw [hc] at hx'
        have e : x = (newP k c).h := (Option.some.inj hx').symm
        show bestStep me (bestK me (newS me costs).hs k) k x = _
        unfold bestStep
        rw [if_neg, new_best me costs k]
        rintro ⟨h, _⟩
        rw [e] at h
        exact absurd h (by unfold cntB newP; simp)
theorem newS_wf {me : Idn} {costs : List Int} (hm : me.ok) (hB : newB me costs = true) : (newS me costs).wf := by
  have hf := hB
  rw [newB_fair, Bool.and_eq_true] at hf
  have hl : costs.length ≤ 64 := by
    unfold newB at hB
    simp only [Bool.and_eq_true, decide_eq_true_eq] at hB
    exact hB.1.1.2
  have hc : ∀ c ∈ costs, isI c := fun c hc => by
    unfold newB at hB
    rw [Bool.and_eq_true, List.all_eq_true] at hB
    have := hB.2 c hc
    unfold costC at this
    simp only [Bool.and_eq_true, decide_eq_true_eq] at this
    exact isI_iff.2 (by omega)
  refine ⟨hm, fun p hp => ?_, ⟨hm, isI0, hm, isI0, isI0⟩, new_num me costs, hf.2, ?_, fun p hp => ?_, by show (-1 : Int) ≤ -1 ∧ (-1 : Int) ≤ _; omega⟩
  · obtain ⟨k, c, hkc, rfl⟩ := newS_mem hp
    have := (List.getElem?_eq_some_iff.1 hkc).1
    exact newP_ok (by omega) (hc c (List.mem_of_getElem? hkc))
  · rw [newS_len]
    show (List.replicate _ _).length = _
    rw [List.length_replicate]
  · obtain ⟨k, c, hkc, rfl⟩ := newS_mem hp
    exact ⟨by show (0 : Int) ≤ 0 ∧ (0 : Int) ≤ 4; omega, st0, by show (0 : Int) ≤ 0 ∧ (0 : Int) ≤ 65535; omega, fun _ => rfl⟩

/-! ### While it is made -/

theorem spC_spv (s : Sp) (pv fv v : Value) : splice (spC s pv fv) 7 [v] = spC s v fv := id rfl
attribute [push_cast] spC_spv

structure NS (T TP E : TypeId) (w0 w : World) (sp : Nat) (bs : List Nat) (pv fv : Value) (s : Sp) : Prop where
  ps : PS T TP w sp bs pv fv s
  own : OwnE E 1 w pv (bs.map fun b => [pt b 0])
  nsp : w0.heap.size ≤ sp
  nbs : ∀ b ∈ bs, sp < b
  npv : ∀ b, blkS pv = some b → sp < b
  fr : Fr none_ w0 w

theorem NS.fr0 {T TP E : TypeId} {w0 w' : World} (h : NS T TP E w0 w sp bs pv fv s) (hF : Fr none_ w w') : NS T TP E w0 w' sp bs pv fv s :=
  ⟨h.ps.fr0 hF, h.own.fr hF fun _ _ h => h, h.nsp, h.nbs, h.npv, h.fr.trans hF⟩
theorem NS.bs_lt {T TP E : TypeId} {w0 : World} (h : NS T TP E w0 w sp bs pv fv s) : ∀ b ∈ bs, b < w.heap.size := fun b hx => by
  obtain ⟨i, hi, rfl⟩ := List.getElem_of_mem hx
  obtain ⟨b, p, hb, hp⟩ := bs_at h.ps (show i < s.l.length by rw [← h.ps.len]; exact hi)
  rw [List.getElem?_eq_getElem hi] at hb; cases hb
  exact lt_of_heap (h.ps.port i _ p (List.getElem?_eq_getElem hi) hp)

theorem NS.push {T TP E : TypeId} {w0 W W2 : World} {b : Nat} {p : Prt} {pv2 : Value} (h : NS T TP E w0 w sp bs pv fv s) (hF : Fr none_ w W) (hbn : w.heap.size ≤ b) (hbp : W.heap[b]? = some (cellsO p.cells TP))
    (ho : OwnE E 1 W2 pv2 (bs.map (fun b => [pt b 0]) ++ [[pt b 0]])) (hb2 : blkS pv2 = blkS pv ∨ New W pv2) (hF2 : Fr (fun x => blkS pv = some x) W W2) : NS T TP E w0 (wr W2 sp 7 [pv2]) sp (bs ++ [b]) pv2 fv { s with l := s.l ++ [p] } := by
  have hsl := lt_of_heap h.ps.main
  have hbl := lt_of_heap hbp
  have hpl : ∀ x, blkS pv = some x → x < w.heap.size := fun x hx => h.own.lt hx
  have hbs := h.bs_lt
  have hFw : Fr (fun x => x = sp) W2 (wr W2 sp 7 [pv2]) := Fr.wr W2 _ _ _ rfl
  have hp2 : ∀ x, blkS pv2 = some x → x ≠ sp ∧ x ∉ bs ++ [b] ∧ sp < x := fun x hx => by
    have hws := h.fr.size
    have hw2 := hF.size
    rcases hb2 with e | e
    · rw [e] at hx
      have h1 := h.ps.npv x hx
      refine ⟨h1.1, fun hm => ?_, h.npv x hx⟩
      rcases List.mem_append.1 hm with hm | hm
      · exact h1.2 hm
      · have := hpl x hx
        simp only [List.mem_singleton] at hm
        omega
    · have := e x hx
      refine ⟨by omega, fun hm => ?_, by omega⟩
      rcases List.mem_append.1 hm with hm | hm
      · have := hbs x hm; omega
      · simp only [List.mem_singleton] at hm
        omega
  have hmain2 : W2.heap[sp]? = some (cellsO (spC s pv fv) T) := hF2.heap (hF.heap h.ps.main fun h => h) fun e => (h.ps.npv sp e).1 rfl
  have how : OwnE E 1 (wr W2 sp 7 [pv2]) pv2 (bs.map (fun b => [pt b 0]) ++ [[pt b 0]]) := ho.fr hFw fun x hx e => (hp2 x hx).1 e
  have hmap : (bs ++ [b]).map (fun b => [pt b 0]) = bs.map (fun b => [pt b 0]) ++ [[pt b 0]] := by rw [List.map_append]; rfl
  refine ⟨⟨?_, ?_, ?_, fun i c q hc hq => ?_, ?_, ?_, fun x hx => ⟨(hp2 x hx).1, (hp2 x hx).2.1⟩⟩, ?_, h.nsp, ?_, fun x hx => (hp2 x hx).2.2, ?_⟩
  · rw [heap_wr, if_pos rfl, hmain2, putAt_cells, spC_spv]; rfl
  · rw [hmap]; exact how.rd
  · show (bs ++ [b]).length = (s.l ++ [p]).length
    rw [List.length_append, List.length_append, h.ps.len]; rfl
  · have hq : (s.l ++ [p])[i]? = some q := hq
    rw [List.getElem?_append] at hc hq
    rw [h.ps.len] at hc
    by_cases e : i < s.l.length
    · rw [if_pos e] at hc hq
      have h1 := h.ps.port i c q hc hq
      refine hFw.heap (hF2.heap (hF.heap h1 fun h => h) fun e => ?_) fun e => h.ps.nsp (e ▸ List.mem_of_getElem? hc)
      exact (h.ps.npv c e).2 (List.mem_of_getElem? hc)
    · rw [if_neg e] at hc hq
      have e2 : i - s.l.length = 0 := by
        have := (List.getElem?_eq_some_iff.1 hq).1
        simp at this; omega
      rw [e2] at hc hq
      simp only [List.getElem?_cons_zero, Option.some.injEq] at hc hq
      subst hc hq
      exact hFw.heap (hF2.heap hbp fun e => by have := hpl b e; omega) fun e => by omega
  · rw [List.nodup_append]
    refine ⟨h.ps.nd, by simp, fun x hx y hy => ?_⟩
    have := hbs x hx
    simp only [List.mem_singleton] at hy
    omega
  · intro hm
    rcases List.mem_append.1 hm with hm | hm
    · exact h.ps.nsp hm
    · simp only [List.mem_singleton] at hm
      omega
  · rw [hmap]; exact how
  · intro x hx
    have hws := h.fr.size
    rcases List.mem_append.1 hx with hx | hx
    · exact h.nbs x hx
    · simp only [List.mem_singleton] at hx
      omega
  · refine Fr.step_wr ((h.fr.trans hF).trans_new hF2 fun x hx e => ?_) (.inr h.nsp) _ _
    have := h.npv x e
    have := h.nsp
    omega

/-! ### The code's -/

theorem wr_new {fp : Nat → Prop} {w0 w1 : World} (hF : Fr none_ w0 w1) {b o : Nat} {vs : List Value} (hb : w0.heap.size ≤ b) : Fr none_ w0 (wr w1 b o vs) := hF.step_wr (.inr hb) _ _

/-- while the ways are told, and judged -/
def NKs (w W : World) (s : Sp) (hv : Option Value) (vb : Option Nat) : Prop :=
  Fr none_ w W ∧ (∀ v, hv = some v → OwnE 61 21 W v (s.hs.map Hrd.cells)) ∧ (∀ b, vb = some b → W.heap[b]? = some (cellsO zVec.cells 44) ∧ w.heap.size ≤ b)
/-- what is told of them -/
def selV (me : Idn) (s : Sp) : Vec × Int := if fairB s.hs = true then ((bestL me s.hs).1, 0) else (zVec, 1)
section
variable {W : World} {hv : Option Value} {vb : Option Nat} {R : Value → World → Prop} {me : Idn} {xb : Nat}
theorem n_ld (hx : w.heap[xb]? = some (cellsO me.cells 25)) (hR : NKs w W s hv vb) (hk : R (.agg me.cells.toArray) W) : opS Tryz.prog (S.ld 25 (pt xb 0)) R W := by
  simp only [push_cast, Nat.reduceAdd, Nat.reduceLeDiff, Nat.reduceLT, Int.reduceToNat, Nat.left_eq_add, Nat.add_eq_left, Nat.add_left_cancel_iff, Nat.reduceEqDiff, Nat.add_assoc, Nat.succ_ne_zero, hR.1.heap hx fun h => h]; exact hk
theorem n_heards (h : CS w sp bs pv mb s) (hl : s.l.length ≤ 2 ^ 20) (hR : NKs w W s none vb) (hk : ∀ v W', NKs w W' s (some v) vb → R v W') : opS Tryz.prog (S.cl 19 [pt sp 0]) R W := by
  rw [opS_cl]
  refine heards_spec (h.fr0 hR.1) hl fun v W' hO hF => hk v W' ?_
  obtain ⟨h1, h2, h3⟩ := hR
  exact ⟨h1.trans hF, fun x e => (by cases e; exact hO), fun b e => ⟨hF.heap (h3 b e).1 fun h => h, (h3 b e).2⟩⟩
theorem n_al (hR : NKs w W s hv none) (hk : ∀ b W', NKs w W' s hv (some b) → R (pt b 0) W') : opS Tryz.prog (S.alloc 44) R W := by
  rw [zalloc_vec]
  have hF : Fr none_ W (W.alloc (cellsO zVec.cells 44)) := (by repeat' first | with_reducible exact Fr.refl _ _ | with_reducible refine Fr.step_alloc ?_ ?_ | with_reducible refine Fr.step_drew ?_ | with_reducible refine Fr.step_wr ?_ ?_ _ _ | exact rfl | exact Or.inr (by omega) | exact Or.inl rfl | exact Or.inl (Or.inl rfl) | exact Or.inl (Or.inr rfl))
  obtain ⟨h1, h2, h3⟩ := hR
  exact hk _ _ ⟨h1.trans hF, fun v e => (h2 v e).fr hF fun _ _ h => h, fun b e => (by cases e; exact ⟨by simp only [push_cast, Nat.reduceAdd, Nat.reduceLeDiff, Nat.reduceLT, Int.reduceToNat, Nat.left_eq_add, Nat.add_eq_left, Nat.add_left_cancel_iff, Nat.reduceEqDiff, Nat.add_assoc, Nat.succ_ne_zero], h1.size⟩)⟩
theorem n_sel {R : Value → Value → World → Prop} {v : Value} (hn : numbered s.hs) (hok : ∀ h ∈ s.hs, h.ok) (hm : me.ok) (hl : s.l.length ≤ 2 ^ 20) (hR : NKs w W s (some v) vb) (hk : ∀ W', NKs w W' s (some v) vb → R (.agg (selV me s).1.cells.toArray) (i64 (selV me s).2) W') : opS Tryz.prog (S.cl 18 [.agg me.cells.toArray, v]) (fun x => opS Tryz.prog (S.ext x 0) fun a => opS Tryz.prog (S.ext x 1) fun _ => opS Tryz.prog (S.ext x 2) fun c => R a c) W := by
  rw [opS_cl]
  have hv := hR.2.1 v rfl
  have hst : ∀ W', Fr none_ W W' → NKs w W' s (some v) vb := fun W' hF => ⟨hR.1.trans hF, fun x e => (hR.2.1 x e).fr hF fun _ _ h => h, fun b e => ⟨hF.heap (hR.2.2 b e).1 fun h => h, (hR.2.2 b e).2⟩⟩
  refine select_spec hv.rd hn hok hm (by rw [hs_len]; exact hl) (fun e W' hF => ?_) fun e x W' hO hF hN => ?_
  · have := hk W' (hst W' hF)
    unfold selV at this
    rw [if_neg (by rw [e]; decide)] at this
    exact this
  · have := hk W' (hst W' hF)
    unfold selV at this
    rw [if_pos e] at this
    exact this
end

theorem build_span {me : Idn} {f : List Bool} {m : Nat} : opS Tryz.prog (S.build 58 [(0, .agg me.cells.toArray), (4, .int .i64 (-1)), (5, .map (some m))]) K w = K (.agg (spC ⟨me, [], zVec, 0, -1, f⟩ (.slice none 0 0) (.map (some m))).toArray) w := by
  rw [opS_build _ rfl]; rfl
theorem build_hrd {a c : Int} : opS Tryz.prog (S.build 61 [(0, .int .i64 a), (1, .int .i64 c)]) K w = K (.agg (Hrd.cells ⟨a, c, false, false, zVec⟩).toArray) w := by
  rw [opS_build _ rfl]; rfl
theorem build_prt {h : Hrd} : opS Tryz.prog (S.build 63 [(0, .agg h.cells.toArray)]) K w = K (.agg (Prt.cells ⟨h, 0, 0, false, 0, 0, 0, false, false⟩).toArray) w := by
  rw [opS_build _ rfl]; rfl
theorem build_rprt {h : Hrd} : opS Tryz.prog (S.build 70 [(0, .agg h.cells.toArray)]) K w = K (.agg (Prt.cells ⟨h, 0, 0, false, 0, 0, 0, false, false⟩).toArray) w := by
  rw [opS_build _ rfl]; rfl
theorem new_spec {me : Idn} {costs : List Int} {cv : Value} (hm : me.ok) (hc : RdE 1 w cv (costs.map cellI)) (hci : ∀ c ∈ costs, isI c) (hl : costs.length ≤ 2 ^ 20)
    (h0 : newB me costs = false → ∀ w', Fr none_ w w' → K (.tuple #[.pointer none, i64 1]) w')
    (h1 : newB me costs = true → ∀ sp bs pv mb w', CS w' sp bs pv mb (newS me costs) → (∀ b, fC sp bs mb b → w.heap.size ≤ b) → (∀ b, blkS pv = some b → w.heap.size ≤ b) → Fr none_ w w' → K (.tuple #[pt sp 0, i64 0]) w') :
    CallsR Tryz.prog 6 #[.agg me.cells.toArray, cv] K w := by
  apply c6
  unfold p6
  have elen : ∀ (R : Value → World → Prop) W, opS Tryz.prog (S.len cv) R W = R (i64 costs.length) W := fun R W => by
    obtain ⟨a, c, e⟩ := hc.form
    rw [e, List.length_map]; rfl
  have hx1 : (w.alloc (cellsO me.cells 25)).heap[w.heap.size]? = some (cellsO me.cells 25) := by simp only [push_cast, Nat.reduceAdd, Nat.reduceLeDiff, Nat.reduceLT, Int.reduceToNat, Nat.left_eq_add, Nat.add_eq_left, Nat.add_left_cancel_iff, Nat.reduceEqDiff, Nat.add_assoc, Nat.succ_ne_zero]
  have hFx : Fr none_ w (w.alloc (cellsO me.cells 25)) := (by repeat' first | with_reducible exact Fr.refl _ _ | with_reducible refine Fr.step_alloc ?_ ?_ | with_reducible refine Fr.step_drew ?_ | with_reducible refine Fr.step_wr ?_ ?_ _ _ | exact rfl | exact Or.inr (by omega) | exact Or.inl rfl | exact Or.inl (Or.inl rfl) | exact Or.inl (Or.inr rfl))
  simp only [push_cast, Nat.reduceAdd, Nat.reduceLeDiff, Nat.reduceLT, Int.reduceToNat, Nat.left_eq_add, Nat.add_eq_left, Nat.add_left_cancel_iff, Nat.reduceEqDiff, Nat.add_assoc, Nat.succ_ne_zero]
  have hxl := lt_of_heap hx1
  generalize w.alloc (cellsO me.cells 25) = w1 at *
  have hxw : w.heap.size ≤ w.heap.size := Nat.le_refl _
  generalize hxb : w.heap.size = xb at hx1 hxl ⊢
  refine s_mkm (kc := kI) (vc := Value.bool) (kok := isI) fun w2 hm2 hF2 hs2 => ?_
  generalize hmb : w1.heap.size = mb at hm2 hs2 hxl ⊢
  rw [build_span (f := List.replicate costs.length false)]
  have hsp : (w2.alloc (cellsO (spC ⟨me, [], zVec, 0, -1, List.replicate costs.length false⟩ (.slice none 0 0) (.map (some mb))) 58)).heap[w2.heap.size]? = some (cellsO (spC ⟨me, [], zVec, 0, -1, List.replicate costs.length false⟩ (.slice none 0 0) (.map (some mb))) 58) := by simp only [push_cast, Nat.reduceAdd, Nat.reduceLeDiff, Nat.reduceLT, Int.reduceToNat, Nat.left_eq_add, Nat.add_eq_left, Nat.add_left_cancel_iff, Nat.reduceEqDiff, Nat.add_assoc, Nat.succ_ne_zero]
  have hF3 : Fr none_ w2 (w2.alloc (cellsO (spC ⟨me, [], zVec, 0, -1, List.replicate costs.length false⟩ (.slice none 0 0) (.map (some mb))) 58)) := (by repeat' first | with_reducible exact Fr.refl _ _ | with_reducible refine Fr.step_alloc ?_ ?_ | with_reducible refine Fr.step_drew ?_ | with_reducible refine Fr.step_wr ?_ ?_ _ _ | exact rfl | exact Or.inr (by omega) | exact Or.inl rfl | exact Or.inl (Or.inl rfl) | exact Or.inl (Or.inr rfl))
  simp only [opS_box, cells_agg, alloc_cellsO]
  have hsl := lt_of_heap hsp
  generalize w2.alloc (cellsO (spC ⟨me, [], zVec, 0, -1, List.replicate costs.length false⟩ (.slice none 0 0) (.map (some mb))) 58) = w3 at *
  generalize hspe : w2.heap.size = sp at hsp hsl hs2 ⊢
  have hx3 := hF3.heap (hF2.heap hx1 fun h => h) fun h => h
  have hm3 := hm2.fr hF3 fun h => h
  have hFw := (hFx.trans hF2).trans hF3
  have hlS := newS_len me costs
  have hN3 : NS 58 63 59 w w3 sp [] (.slice none 0 0) (.map (some mb)) { newS me costs with l := (newS me costs).l.take 0, best := zVec } :=
    ⟨⟨hsp, (own_nil 59 1 _).rd, rfl, fun i b p hb => (by cases hb), List.nodup_nil, by simp, fun b hb => by simp [blkS] at hb⟩, own_nil _ _ _, by omega, fun b hb => by simp at hb, fun b hb => by simp [blkS] at hb, hFw⟩
  rw [elen]
  refine jn0 (fun W => ∃ bs pv, NS 58 63 59 w W sp bs pv (.map (some mb)) { newS me costs with best := zVec } ∧ Fr none_ w W ∧ W.heap[xb]? = some (cellsO me.cells 25) ∧ MapR kI .bool isI W mb []) ?_ fun j hj => ?_
  · rintro W ⟨bs, pv, hN, hF, hx, hmp⟩
    have hCS : CS W sp bs pv mb { newS me costs with best := zVec } := ⟨hN.ps, ⟨[], hmp, FM.nil _⟩, by omega, fun e => by have := hN.nbs _ e; omega, fun e => by have := hN.npv _ e; omega⟩
    have hhs : ({ newS me costs with best := zVec } : Sp).hs = (newS me costs).hs := rfl
    have hll : ({ newS me costs with best := zVec } : Sp).l.length ≤ 2 ^ 20 := by show (newS me costs).l.length ≤ _; rw [hlS]; exact hl
    refine jn2 (fun x y W' => ∃ vb, x = pt vb 0 ∧ y = i64 (selV me (newS me costs)).2 ∧ W'.heap[vb]? = some (cellsO (selV me (newS me costs)).1.cells 44) ∧ Fr none_ W W') ?_ fun j hj => ?_
    · rintro x y W' ⟨vb, rfl, rfl, hvb, hF'⟩
      rw [elen]
      have hbad : newB me costs = false → K (.tuple #[.pointer none, .int .i64 1]) W' := fun e => h0 e _ (hF.trans hF')
      simp only [push_cast, Nat.reduceAdd, Nat.reduceLeDiff, Nat.reduceLT, Int.reduceToNat, Nat.left_eq_add, Nat.add_eq_left, Nat.add_left_cancel_iff, Nat.reduceEqDiff, Nat.add_assoc, Nat.succ_ne_zero, hF'.heap hx fun h => h]
      refine br_dec (fun e => hbad ?_) fun e => ?_
      · rw [newB_fair, decide_eq_false (by omega)]; rfl
      refine br_dec (fun e2 => hbad ?_) fun e2 => ?_
      · rw [newB_fair, decide_eq_false (show ¬ 0 ≤ me.prio by omega), Bool.false_and, Bool.and_false]; rfl
      refine br_dec (fun e3 => hbad ?_) fun e3 => ?_
      · rw [newB_fair, decide_eq_false (show ¬ me.prio ≤ 65535 by omega), Bool.and_false, Bool.and_false]; rfl
      have hnb : newB me costs = fairB (newS me costs).hs := by
        rw [newB_fair, decide_eq_true (show 1 ≤ costs.length by omega), decide_eq_true (show 0 ≤ me.prio by omega), decide_eq_true (show me.prio ≤ 65535 by omega)]; rfl
      refine br_intro (fun e4 => hbad ?_) fun e4 => ?_
      · unfold selV at e4
        rw [hnb]
        cases hf : fairB (newS me costs).hs
        · rfl
        · rw [hf] at e4; simp at e4
      · have hf : fairB (newS me costs).hs = true := by
          cases hf : fairB (newS me costs).hs
          · unfold selV at e4
            rw [hf] at e4; simp at e4
          · rfl
        have hv : (selV me (newS me costs)).1 = ⟨me, 0, me, 0, 0⟩ := by
          unfold selV
          rw [if_pos hf]
          show (bestL me (newS me costs).hs).1 = _
          unfold bestL
          rw [new_best]
        rw [hv] at hvb
        have hI := hCS.fr0 hF'
        simp only [push_cast, Nat.reduceAdd, Nat.reduceLeDiff, Nat.reduceLT, Int.reduceToNat, Nat.left_eq_add, Nat.add_eq_left, Nat.add_left_cancel_iff, Nat.reduceEqDiff, Nat.add_assoc, Nat.succ_ne_zero, hvb, hI.ps.main]
        obtain ⟨g1, f1⟩ := hI.stm (s' := newS me costs) rfl rfl (spC_sbest _ _ _ ⟨me, 0, me, 0, 0⟩)
        refine h1 (by rw [hnb, hf]) sp bs pv mb _ g1 ?_ (fun b hb => by have := hN.npv b hb; omega) ((hF.trans hF').step_wr (.inr hN.nsp) _ _)
        · rintro b (rfl | hb | rfl)
          · omega
          · have := hN.nbs b hb; omega
          · omega
    · simp only [drw_eq]
      have hnu : numbered ({ newS me costs with best := zVec } : Sp).hs := new_num me costs
      have hok : ∀ h ∈ ({ newS me costs with best := zVec } : Sp).hs, h.ok := new_hok (me := me) hl hci
      have hse : selV me (newS me costs) = selV me { newS me costs with best := zVec } := rfl
      rw [hse] at hj
      generalize ({ newS me costs with best := zVec } : Sp) = S0 at *
      have fin : ∀ {W' : World} {v b}, NKs W W' S0 (some v) (some b) → opS Tryz.prog (S.st 44 (pt b 0) (.agg (selV me S0).1.cells.toArray)) (fun _ => j (pt b 0) (i64 (selV me S0).2)) W' := by
        intro W' v b hR
        obtain ⟨h1, h2, h3⟩ := hR
        obtain ⟨h3, h3'⟩ := h3 _ rfl
        simp only [push_cast, Nat.reduceAdd, Nat.reduceLeDiff, Nat.reduceLT, Int.reduceToNat, Nat.left_eq_add, Nat.add_eq_left, Nat.add_left_cancel_iff, Nat.reduceEqDiff, Nat.add_assoc, Nat.succ_ne_zero, h3]
        refine hj _ _ _ ⟨_, rfl, rfl, by simp only [push_cast, Nat.reduceAdd, Nat.reduceLeDiff, Nat.reduceLT, Int.reduceToNat, Nat.left_eq_add, Nat.add_eq_left, Nat.add_left_cancel_iff, Nat.reduceEqDiff, Nat.add_assoc, Nat.succ_ne_zero, h3], h1.step_wr (.inr h3') _ _⟩
      have hR0 : NKs W W.drew S0 none none := ⟨Fr.drew W, fun _ h => (by cases h), fun _ h => (by cases h)⟩
      generalize W.drew = W0 at *
      repeat' first
        | with_reducible refine allW_intro ?_ ?_
        | with_reducible refine n_ld hx (by assumption) ?_
        | with_reducible refine n_heards hCS hll (by assumption) fun _ _ _ => ?_
        | with_reducible refine n_al (by assumption) fun _ _ _ => ?_
        | with_reducible refine n_sel hnu hok hm hll (by assumption) fun _ _ => ?_
        | with_reducible exact fin (by assumption)
  · refine loop1 (fun n u W => ∃ (k : Nat) (bs : List Nat) (pv : Value), k ≤ costs.length ∧ n = costs.length - k ∧ u = i64 k ∧ NS 58 63 59 w W sp bs pv (.map (some mb)) { newS me costs with l := (newS me costs).l.take k, best := zVec } ∧ Fr none_ w W ∧ W.heap[xb]? = some (cellsO me.cells 25) ∧ MapR kI .bool isI W mb []) ?_ costs.length ⟨0, [], _, by omega, rfl, rfl, hN3, hFw, hx3, hm3⟩
    rintro n u W X ⟨k, bs, pv, hk2, rfl, rfl, hN, hF, hx, hm⟩ hX
    simp only [push_cast, Nat.reduceAdd, Nat.reduceLeDiff, Nat.reduceLT, Int.reduceToNat, Nat.left_eq_add, Nat.add_eq_left, Nat.add_left_cancel_iff, Nat.reduceEqDiff, Nat.add_assoc, Nat.succ_ne_zero]
    refine br_dec (fun hlt => ?_) fun hge => ?_
    · have hkl : k < costs.length := by omega
      have hwk : IntKind.i64.wrap ((k : Int) + 1) = ((k + 1 : Nat) : Int) := by rw [wrap_i64 (by omega)]; rfl
      refine ld_int (hc.fr hF fun _ _ h => h) (List.getElem?_eq_getElem hkl) ?_
      simp only [push_cast, Nat.reduceAdd, Nat.reduceLeDiff, Nat.reduceLT, Int.reduceToNat, Nat.left_eq_add, Nat.add_eq_left, Nat.add_left_cancel_iff, Nat.reduceEqDiff, Nat.add_assoc, Nat.succ_ne_zero, hN.ps.main, hwk]
      rw [build_hrd, build_prt]
      have hp : (newS me costs).l[k]? = some (newP k costs[k]) := by rw [newS_get, List.getElem?_eq_getElem hkl]; rfl
      show opS Tryz.prog (S.box 63 (.agg (newP k costs[k]).cells.toArray)) _ W
      have hb1 : (W.alloc (cellsO (newP k costs[k]).cells 63)).heap[W.heap.size]? = some (cellsO (newP k costs[k]).cells 63) := by simp only [push_cast, Nat.reduceAdd, Nat.reduceLeDiff, Nat.reduceLT, Int.reduceToNat, Nat.left_eq_add, Nat.add_eq_left, Nat.add_left_cancel_iff, Nat.reduceEqDiff, Nat.add_assoc, Nat.succ_ne_zero]
      have hF1 : Fr none_ W (W.alloc (cellsO (newP k costs[k]).cells 63)) := (by repeat' first | with_reducible exact Fr.refl _ _ | with_reducible refine Fr.step_alloc ?_ ?_ | with_reducible refine Fr.step_drew ?_ | with_reducible refine Fr.step_wr ?_ ?_ _ _ | exact rfl | exact Or.inr (by omega) | exact Or.inl rfl | exact Or.inl (Or.inl rfl) | exact Or.inl (Or.inr rfl))
      simp only [opS_box, cells_agg, alloc_cellsO]
      have hsz := hF1.size
      generalize W.alloc (cellsO (newP k costs[k]).cells 63) = W1 at *
      have hbl : bs.length = k := by
        have := hN.ps.len
        rw [this]
        show ((newS me costs).l.take k).length = k
        rw [List.length_take, hlS]; omega
      refine s_app1 (z := .pointer none) rfl rfl (by decide) (hN.own.fr hF1 fun _ _ h => h) (by rw [List.length_map, hbl]; omega) fun v2 W2 ho2 hb2 hF2' => ?_
      have hsp2 : W2.heap[sp]? = _ := hF2'.heap (hF1.heap hN.ps.main fun h => h) fun e => (hN.ps.npv sp e).1 rfl
      simp only [push_cast, Nat.reduceAdd, Nat.reduceLeDiff, Nat.reduceLT, Int.reduceToNat, Nat.left_eq_add, Nat.add_eq_left, Nat.add_left_cancel_iff, Nat.reduceEqDiff, Nat.add_assoc, Nat.succ_ne_zero, hsp2, ho2.one, hwk]
      have hpush := hN.push hF1 (Nat.le_refl _) hb1 ho2 hb2 hF2'
      have hFm : Fr (fun b => b = sp ∨ blkS pv = some b) W (wr W2 sp 7 [v2]) := Fr.step_wr ((hF1.mono fun _ _ h => h.elim).trans (hF2'.mono fun b _ h => .inr h)) (.inl (.inl rfl)) _ _
      refine hX (costs.length - (k + 1)) _ _ (by omega) ⟨k + 1, bs ++ [W.heap.size], v2, by omega, rfl, rfl, ?_, hpush.fr, hFm.heap hx ?_, hm.fr hFm ?_⟩
      · have : (newS me costs).l.take (k + 1) = (newS me costs).l.take k ++ [newP k costs[k]] := by rw [List.take_add_one, hp]; rfl
        rw [this]; exact hpush
      · rintro (e | e)
        · omega
        · have := hN.npv _ e; omega
      · rintro (e | e)
        · omega
        · have := hN.npv _ e; omega
    · obtain rfl : k = costs.length := by omega
      rw [List.take_of_length_le (by rw [hlS]; exact Nat.le_refl _)] at hN
      exact hj _ ⟨bs, pv, hN, hF, hx, hm⟩

/-! ### The reference's -/

theorem s_mkB {n : Nat} (hn : 0 < n) (hn2 : n ≤ 64) (h : ∀ b w', b = w.heap.size → OwnE 4 1 w' (.slice (some ⟨b, 0, none⟩) n n) ((List.replicate n false).map cellB) → Fr none_ w w' → w'.heap.size = w.heap.size + 1 → K (.slice (some ⟨b, 0, none⟩) n n) w') :
    opS Tryz.prog (S.mks 47 (i64 n) (i64 n)) K w := by
  rw [opS_mks (z := .bool false) .i64 .i64 (n : Int) (by omega) (by omega) (by omega) rfl (by decide), Int.toNat_natCast]
  refine h _ _ rfl ?_ (by repeat' first | with_reducible exact Fr.refl _ _ | with_reducible refine Fr.step_alloc ?_ ?_ | with_reducible refine Fr.step_drew ?_ | with_reducible refine Fr.step_wr ?_ ?_ _ _ | exact rfl | exact Or.inr (by omega) | exact Or.inl rfl | exact Or.inl (Or.inl rfl) | exact Or.inl (Or.inr rfl)) (size_alloc _ _)
  have e1 : (List.replicate n false).map cellB = List.replicate n [.bool false] := by simp [cellB]
  rw [e1]
  refine ⟨.inr ⟨w.heap.size, 0, n, _, by rw [List.length_replicate], heap_alloc_new _ _, by rw [List.length_replicate]; exact Nat.le_refl _, ?_, ?_⟩, ?_⟩
  · rw [List.size_toArray, zeros_length]; simp [Value.cells]
  · show _ = List.take _ (List.drop 0 (zeros n [.bool false]))
    rw [List.drop_zero, List.length_replicate, List.take_of_length_le (by rw [zeros_length]; simp)]
    rfl
  · intro x hx
    rw [(List.mem_replicate.1 hx).2]; rfl
theorem build_rspan {me : Idn} {f : List Bool} {b n : Nat} : opS Tryz.prog (S.build 49 [(0, .agg me.cells.toArray), (4, .int .i64 (-1)), (5, .slice (some ⟨b, 0, none⟩) n n)]) K w = K (.agg (spC ⟨me, [], zVec, 0, -1, f⟩ (.slice none 0 0) (.slice (some ⟨b, 0, none⟩) n n)).toArray) w := by
  rw [opS_build _ rfl]; rfl

/-- a struct of it is there -/
structure R0 (w0 W : World) (sp : Nat) (bs : List Nat) (pv fv : Value) (xb : Nat) (me : Idn) (n : Nat) (s : Sp) : Prop where
  ns : NS 49 70 68 w0 W sp bs pv fv s
  fo : OwnE 4 1 W fv ((List.replicate n false).map cellB)
  fl : ∀ b, blkS fv = some b → w0.heap.size ≤ b ∧ b < sp
  x : W.heap[xb]? = some (cellsO me.cells 25)
  xl : xb < sp

theorem rnew_spec {me : Idn} {costs : List Int} {cv : Value} (hm : me.ok) (hc : RdE 1 w cv (costs.map cellI)) (hci : ∀ c ∈ costs, isI c) (hl : costs.length ≤ 2 ^ 20)
    (h0 : newB me costs = false → ∀ w', Fr none_ w w' → K (.tuple #[.pointer none, i64 1]) w')
    (h1 : newB me costs = true → ∀ sp bs pv fv w', RS w' sp bs pv fv (newS me costs) → (∀ b, fR sp bs fv b → w.heap.size ≤ b) → (∀ b, blkS pv = some b → w.heap.size ≤ b) → Fr none_ w w' → K (.tuple #[pt sp 0, i64 0]) w') :
    CallsR Tryz.prog 7 #[.agg me.cells.toArray, cv] K w := by
  apply c7
  unfold p7
  have elen : ∀ (R : Value → World → Prop) W, opS Tryz.prog (S.len cv) R W = R (i64 costs.length) W := fun R W => by
    obtain ⟨a, c, e⟩ := hc.form
    rw [e, List.length_map]; rfl
  have hx1 : (w.alloc (cellsO me.cells 25)).heap[w.heap.size]? = some (cellsO me.cells 25) := by simp only [push_cast, Nat.reduceAdd, Nat.reduceLeDiff, Nat.reduceLT, Int.reduceToNat, Nat.left_eq_add, Nat.add_eq_left, Nat.add_left_cancel_iff, Nat.reduceEqDiff, Nat.add_assoc, Nat.succ_ne_zero]
  have hFx : Fr none_ w (w.alloc (cellsO me.cells 25)) := (by repeat' first | with_reducible exact Fr.refl _ _ | with_reducible refine Fr.step_alloc ?_ ?_ | with_reducible refine Fr.step_drew ?_ | with_reducible refine Fr.step_wr ?_ ?_ _ _ | exact rfl | exact Or.inr (by omega) | exact Or.inl rfl | exact Or.inl (Or.inl rfl) | exact Or.inl (Or.inr rfl))
  simp only [push_cast, Nat.reduceAdd, Nat.reduceLeDiff, Nat.reduceLT, Int.reduceToNat, Nat.left_eq_add, Nat.add_eq_left, Nat.add_left_cancel_iff, Nat.reduceEqDiff, Nat.add_assoc, Nat.succ_ne_zero]
  have hxl := lt_of_heap hx1
  generalize w.alloc (cellsO me.cells 25) = w1 at *
  have hxw : w.heap.size ≤ w.heap.size := Nat.le_refl _
  generalize hxb : w.heap.size = xb at hx1 hxl ⊢
  have hbad : newB me costs = false → ∀ W, Fr none_ w W → K (.tuple #[.pointer none, .int .i64 1]) W := fun e W h => h0 e W h
  rw [elen]
  simp only [push_cast, Nat.reduceAdd, Nat.reduceLeDiff, Nat.reduceLT, Int.reduceToNat, Nat.left_eq_add, Nat.add_eq_left, Nat.add_left_cancel_iff, Nat.reduceEqDiff, Nat.add_assoc, Nat.succ_ne_zero]
  refine br_dec (fun e => hbad ?_ _ hFx) fun e1 => ?_
  · rw [newB_fair, decide_eq_false (by omega)]; rfl
  rw [elen]
  simp only [push_cast, Nat.reduceAdd, Nat.reduceLeDiff, Nat.reduceLT, Int.reduceToNat, Nat.left_eq_add, Nat.add_eq_left, Nat.add_left_cancel_iff, Nat.reduceEqDiff, Nat.add_assoc, Nat.succ_ne_zero]
  refine br_dec (fun e => hbad ?_ _ hFx) fun e2 => ?_
  · unfold newB; rw [decide_eq_false (show ¬ costs.length ≤ 64 by omega), Bool.and_false]; rfl
  simp only [push_cast, Nat.reduceAdd, Nat.reduceLeDiff, Nat.reduceLT, Int.reduceToNat, Nat.left_eq_add, Nat.add_eq_left, Nat.add_left_cancel_iff, Nat.reduceEqDiff, Nat.add_assoc, Nat.succ_ne_zero, hx1]
  refine br_dec (fun e => hbad ?_ _ hFx) fun e3 => ?_
  · rw [newB_fair, decide_eq_false (show ¬ 0 ≤ me.prio by omega), Bool.false_and, Bool.and_false]; rfl
  refine br_dec (fun e => hbad ?_ _ hFx) fun e4 => ?_
  · rw [newB_fair, decide_eq_false (show ¬ me.prio ≤ 65535 by omega), Bool.and_false, Bool.and_false]; rfl
  have hnb : newB me costs = costs.all costC := by
    unfold newB
    rw [decide_eq_true (show 1 ≤ costs.length by omega), decide_eq_true (show costs.length ≤ 64 by omega), decide_eq_true (show 0 ≤ me.prio by omega), decide_eq_true (show me.prio ≤ 65535 by omega)]; rfl
  have hlS := newS_len me costs
  refine jn1 (fun v W => ∃ sp fv, v = pt sp 0 ∧ R0 w W sp [] (.slice none 0 0) fv xb me costs.length { newS me costs with l := (newS me costs).l.take 0, best := zVec }) ?_ fun j hj => ?_
  · rintro v W ⟨sp, fv, rfl, hR⟩
    refine jn0 (fun W => ∃ bs pv, R0 w W sp bs pv fv xb me costs.length { newS me costs with best := zVec } ∧ costs.all costC = true) ?_ fun j hj => ?_
    · rintro W' ⟨bs, pv, hR, hall⟩
      obtain ⟨⟨h1', h2', h3', h4', h5', h6'⟩, hfo, hfl, hx, hxl⟩ := hR
      have hR' : RS W' sp bs pv fv { newS me costs with best := zVec } := ⟨h1', hfo, fun b hb => ⟨by have := hfl b hb; omega, fun e => by have := h4' b e; have := hfl b hb; omega, fun e => by have := h5' b e; have := hfl b hb; omega⟩⟩
      simp only [push_cast, Nat.reduceAdd, Nat.reduceLeDiff, Nat.reduceLT, Int.reduceToNat, Nat.left_eq_add, Nat.add_eq_left, Nat.add_left_cancel_iff, Nat.reduceEqDiff, Nat.add_assoc, Nat.succ_ne_zero, hx]
      rw [build_vec2]
      simp only [push_cast, Nat.reduceAdd, Nat.reduceLeDiff, Nat.reduceLT, Int.reduceToNat, Nat.left_eq_add, Nat.add_eq_left, Nat.add_left_cancel_iff, Nat.reduceEqDiff, Nat.add_assoc, Nat.succ_ne_zero, h1'.main]
      obtain ⟨g1, f1⟩ := hR'.stm (s' := newS me costs) rfl rfl (spC_sbest _ _ _ ⟨me, 0, me, 0, 0⟩)
      refine h1 (by rw [hnb, hall]) sp bs pv fv _ g1 ?_ (fun b hb => by have := h5' b hb; omega) (h6'.step_wr (.inr h3') _ _)
      rintro b (rfl | hb | hb)
      · omega
      · have := h4' b hb; omega
      · exact (hfl b hb).1
    · refine loop1 (fun n u W => ∃ (k : Nat) (bs : List Nat) (pv : Value), k ≤ costs.length ∧ n = costs.length - k ∧ u = i64 k ∧ R0 w W sp bs pv fv xb me costs.length { newS me costs with l := (newS me costs).l.take k, best := zVec } ∧ (costs.take k).all costC = true) ?_ costs.length ⟨0, [], _, by omega, rfl, rfl, hR, rfl⟩
      rintro n u W X ⟨k, bs, pv, hk2, rfl, rfl, hR, hall⟩ hX
      rw [elen]
      simp only [push_cast, Nat.reduceAdd, Nat.reduceLeDiff, Nat.reduceLT, Int.reduceToNat, Nat.left_eq_add, Nat.add_eq_left, Nat.add_left_cancel_iff, Nat.reduceEqDiff, Nat.add_assoc, Nat.succ_ne_zero]
      refine br_dec (fun hlt => ?_) fun hge => ?_
      · have hkl : k < costs.length := by omega
        have hwk : IntKind.i64.wrap ((k : Int) + 1) = ((k + 1 : Nat) : Int) := by rw [wrap_i64 (by omega)]; rfl
        have hgk : costs[k]? = some costs[k] := List.getElem?_eq_getElem hkl
        have hbadk : costC costs[k] = false → newB me costs = false := fun e => by
          rw [hnb]
          cases h : costs.all costC
          · rfl
          · rw [List.all_eq_true] at h
            rw [h _ (List.getElem_mem hkl)] at e; cases e
        have hcr := hc.fr hR.ns.fr fun _ _ h => h
        refine ld_int hcr hgk ?_
        simp only [push_cast, Nat.reduceAdd, Nat.reduceLeDiff, Nat.reduceLT, Int.reduceToNat, Nat.left_eq_add, Nat.add_eq_left, Nat.add_left_cancel_iff, Nat.reduceEqDiff, Nat.add_assoc, Nat.succ_ne_zero]
        refine br_dec (fun e => hbad (hbadk ?_) _ hR.ns.fr) fun e5 => ?_
        · unfold costC; rw [decide_eq_false (show ¬ 1 ≤ costs[k] by omega)]; rfl
        refine ld_int hcr hgk ?_
        simp only [push_cast, Nat.reduceAdd, Nat.reduceLeDiff, Nat.reduceLT, Int.reduceToNat, Nat.left_eq_add, Nat.add_eq_left, Nat.add_left_cancel_iff, Nat.reduceEqDiff, Nat.add_assoc, Nat.succ_ne_zero]
        refine br_dec (fun e => hbad (hbadk ?_) _ hR.ns.fr) fun e6 => ?_
        · unfold costC; rw [decide_eq_false (show ¬ costs[k] ≤ 200000000 by omega), Bool.and_false]
        have hck : costC costs[k] = true := by
          unfold costC; rw [decide_eq_true (show 1 ≤ costs[k] by omega), decide_eq_true (show costs[k] ≤ 200000000 by omega)]; rfl
        refine ld_int (hcr.fr (Fr.drew (fp := none_) W) fun _ _ h => h) hgk ?_
        rw [hwk]
        rw [build_hrd, build_rprt]
        have hp : (newS me costs).l[k]? = some (newP k costs[k]) := by rw [newS_get, List.getElem?_eq_getElem hkl]; rfl
        have hpe : (⟨⟨((k + 1 : Nat) : Int), costs[k], false, false, zVec⟩, 0, 0, false, 0, 0, 0, false, false⟩ : Prt) = newP k costs[k] := rfl
        rw [hpe]
        have hdF : Fr none_ W W.drew := Fr.drew W
        have hN := hR.ns.fr0 hdF
        have hfo := hR.fo.fr hdF fun _ _ h => h
        have hx := hdF.heap hR.x fun h => h
        have hflb := hR.fl
        have hxl := hR.xl
        generalize W.drew = W at *
        have hbl : bs.length = k := by
          have := hN.ps.len
          rw [this]
          show ((newS me costs).l.take k).length = k
          rw [List.length_take, hlS]; omega
        have fin : ∀ {b : Nat} {W1 W2 : World} {v2 : Value}, W1.heap[b]? = some (cellsO (newP k costs[k]).cells 70) → Fr none_ W W1 → W.heap.size ≤ b → OwnE 68 1 W2 v2 (bs.map (fun b => [pt b 0]) ++ [[pt b 0]]) → (blkS v2 = blkS pv ∨ New W1 v2) → Fr (fun x => blkS pv = some x) W1 W2 →
            opS Tryz.prog (S.nc (pt sp 0)) (fun x34 => opS Tryz.prog (S.fa 49 x34 1) fun x35 => opS Tryz.prog (S.st 46 x35 v2) fun _ => opS Tryz.prog (S.binI .add (i64 k) (.int .i64 1)) fun x37 => X x37) W2 := by
          intro b W1 W2 v2 hb1 hF1 hbn ho2 hb2 hF2'
          have hsp2 : W2.heap[sp]? = _ := hF2'.heap (hF1.heap hN.ps.main fun h => h) fun e => (hN.ps.npv sp e).1 rfl
          simp only [push_cast, Nat.reduceAdd, Nat.reduceLeDiff, Nat.reduceLT, Int.reduceToNat, Nat.left_eq_add, Nat.add_eq_left, Nat.add_left_cancel_iff, Nat.reduceEqDiff, Nat.add_assoc, Nat.succ_ne_zero, hsp2, ho2.one, hwk]
          have hpush := hN.push hF1 hbn hb1 ho2 hb2 hF2'
          have hFm : Fr (fun b => b = sp ∨ blkS pv = some b) W (wr W2 sp 7 [v2]) := Fr.step_wr ((hF1.mono fun _ _ h => h.elim).trans (hF2'.mono fun b _ h => .inr h)) (.inl (.inl rfl)) _ _
          refine hX (costs.length - (k + 1)) _ _ (by omega) ⟨k + 1, bs ++ [b], v2, by omega, rfl, rfl, ⟨?_, hfo.fr hFm fun c hc => ?_, hflb, hFm.heap hx ?_, hxl⟩, ?_⟩
          · have : (newS me costs).l.take (k + 1) = (newS me costs).l.take k ++ [newP k costs[k]] := by rw [List.take_add_one, hp]; rfl
            rw [this]; exact hpush
          · have h1 := hflb c hc
            rintro (e | e)
            · omega
            · have := hN.npv _ e; omega
          · rintro (e | e)
            · omega
            · have := hN.npv _ e; omega
          · rw [List.take_add_one, hgk, List.all_append, hall]
            show (true && (costC costs[k] && true)) = true
            rw [hck]; rfl
        have hbb : ∀ {R : Value → World → Prop}, (∀ b W1, W1.heap[b]? = some (cellsO (newP k costs[k]).cells 70) → Fr none_ W W1 → W.heap.size ≤ b → R (pt b 0) W1) → opS Tryz.prog (S.box 70 (.agg (newP k costs[k]).cells.toArray)) R W := by
          intro R hR
          simp only [opS_box, cells_agg, alloc_cellsO]
          exact hR _ _ (by simp only [push_cast, Nat.reduceAdd, Nat.reduceLeDiff, Nat.reduceLT, Int.reduceToNat, Nat.left_eq_add, Nat.add_eq_left, Nat.add_left_cancel_iff, Nat.reduceEqDiff, Nat.add_assoc, Nat.succ_ne_zero]) (by repeat' first | with_reducible exact Fr.refl _ _ | with_reducible refine Fr.step_alloc ?_ ?_ | with_reducible refine Fr.step_drew ?_ | with_reducible refine Fr.step_wr ?_ ?_ _ _ | exact rfl | exact Or.inr (by omega) | exact Or.inl rfl | exact Or.inl (Or.inl rfl) | exact Or.inl (Or.inr rfl)) (Nat.le_refl _)
        have l0 : ∀ {R : Value → World → Prop}, R pv W → opS Tryz.prog (S.ld 46 (pt sp 7)) R W := fun h => by
          simp only [push_cast, Nat.reduceAdd, Nat.reduceLeDiff, Nat.reduceLT, Int.reduceToNat, Nat.left_eq_add, Nat.add_eq_left, Nat.add_left_cancel_iff, Nat.reduceEqDiff, Nat.add_assoc, Nat.succ_ne_zero, hN.ps.main]; exact h
        refine allW_intro ?_ ?_
        · refine l0 ?_
          refine hbb fun b W1 hb1 hF1 hbn => ?_
          refine s_app1 (z := .pointer none) rfl rfl (by decide) (hN.own.fr hF1 fun _ _ h => h) (by rw [List.length_map, hbl]; omega) fun v2 W2 ho2 hb2 hF2' => ?_
          exact fin hb1 hF1 hbn ho2 hb2 hF2'
        · refine hbb fun b W1 hb1 hF1 hbn => ?_
          refine allW_intro ?_ ?_
          · simp only [push_cast, Nat.reduceAdd, Nat.reduceLeDiff, Nat.reduceLT, Int.reduceToNat, Nat.left_eq_add, Nat.add_eq_left, Nat.add_left_cancel_iff, Nat.reduceEqDiff, Nat.add_assoc, Nat.succ_ne_zero, hF1.heap hN.ps.main fun h => h]
            refine s_app1 (z := .pointer none) rfl rfl (by decide) (hN.own.fr hF1 fun _ _ h => h) (by rw [List.length_map, hbl]; omega) fun v2 W2 ho2 hb2 hF2' => ?_
            exact fin hb1 hF1 hbn ho2 hb2 hF2'
          · refine s_bs1c (z := .pointer none) rfl rfl fun y W2 hy hF2 hN2 => ?_
            simp only [push_cast, Nat.reduceAdd, Nat.reduceLeDiff, Nat.reduceLT, Int.reduceToNat, Nat.left_eq_add, Nat.add_eq_left, Nat.add_left_cancel_iff, Nat.reduceEqDiff, Nat.add_assoc, Nat.succ_ne_zero, (hF1.trans hF2).heap hN.ps.main fun h => h]
            refine s_app (z := .pointer none) rfl (by decide) (hN.own.fr (hF1.trans hF2) fun _ _ h => h) hy.rd rfl (by simp [hbl]; omega) fun v2 W3 ho2 hb2 hF3 => ?_
            refine fin hb1 hF1 hbn ho2 (hb2.imp id fun h c hc => ?_) ((hF2.mono fun _ _ h => h.elim).trans hF3)
            have := h c hc
            have := hF2.size
            omega
      · obtain rfl : k = costs.length := by omega
        rw [List.take_of_length_le (by rw [hlS]; exact Nat.le_refl _)] at hR
        rw [List.take_length] at hall
        exact hj _ ⟨bs, pv, hR, hall⟩
  · rw [drw_eq, elen]
    have hxd : w1.drew.heap[xb]? = some (cellsO me.cells 25) := hx1
    have hFd : Fr none_ w w1.drew := hFx.trans (Fr.drew w1)
    have hxl' : xb < w1.drew.heap.size := hxl
    generalize w1.drew = W at *
    have fin : ∀ {b : Nat} {W2 : World}, b = W.heap.size → OwnE 4 1 W2 (.slice (some ⟨b, 0, none⟩) costs.length costs.length) ((List.replicate costs.length false).map cellB) → Fr none_ W W2 → W2.heap.size = W.heap.size + 1 →
        opS Tryz.prog (S.build 49 [(0, .agg me.cells.toArray), (4, .int .i64 (-1)), (5, .slice (some ⟨b, 0, none⟩) costs.length costs.length)]) (fun x => opS Tryz.prog (S.box 49 x) fun y => j y) W2 := by
      intro b W2 hb hO hF2 hs2
      rw [build_rspan (f := List.replicate costs.length false)]
      have hsp : (W2.alloc (cellsO (spC ⟨me, [], zVec, 0, -1, List.replicate costs.length false⟩ (.slice none 0 0) (.slice (some ⟨b, 0, none⟩) costs.length costs.length)) 49)).heap[W2.heap.size]? = some (cellsO (spC ⟨me, [], zVec, 0, -1, List.replicate costs.length false⟩ (.slice none 0 0) (.slice (some ⟨b, 0, none⟩) costs.length costs.length)) 49) := by simp only [push_cast, Nat.reduceAdd, Nat.reduceLeDiff, Nat.reduceLT, Int.reduceToNat, Nat.left_eq_add, Nat.add_eq_left, Nat.add_left_cancel_iff, Nat.reduceEqDiff, Nat.add_assoc, Nat.succ_ne_zero]
      have hF3 : Fr none_ W2 (W2.alloc (cellsO (spC ⟨me, [], zVec, 0, -1, List.replicate costs.length false⟩ (.slice none 0 0) (.slice (some ⟨b, 0, none⟩) costs.length costs.length)) 49)) := (by repeat' first | with_reducible exact Fr.refl _ _ | with_reducible refine Fr.step_alloc ?_ ?_ | with_reducible refine Fr.step_drew ?_ | with_reducible refine Fr.step_wr ?_ ?_ _ _ | exact rfl | exact Or.inr (by omega) | exact Or.inl rfl | exact Or.inl (Or.inl rfl) | exact Or.inl (Or.inr rfl))
      simp only [opS_box, cells_agg, alloc_cellsO]
      have hsw := hFd.size
      generalize W2.alloc (cellsO (spC ⟨me, [], zVec, 0, -1, List.replicate costs.length false⟩ (.slice none 0 0) (.slice (some ⟨b, 0, none⟩) costs.length costs.length)) 49) = W3 at *
      refine hj _ _ ⟨W2.heap.size, .slice (some ⟨b, 0, none⟩) costs.length costs.length, rfl, ⟨⟨hsp, (own_nil 68 1 _).rd, rfl, fun i b p hb => (by cases hb), List.nodup_nil, by simp, fun b hb => by simp [blkS] at hb⟩, own_nil _ _ _, by omega, fun b hb => by simp at hb, fun b hb => by simp [blkS] at hb, (hFd.trans hF2).trans hF3⟩, hO.fr hF3 fun _ _ h => h, fun c hc => ?_, hF3.heap (hF2.heap hxd fun h => h) fun h => h, by omega⟩
      simp only [blkS, Option.some.injEq] at hc
      omega
    refine allW_intro ?_ ?_
    · simp only [push_cast, Nat.reduceAdd, Nat.reduceLeDiff, Nat.reduceLT, Int.reduceToNat, Nat.left_eq_add, Nat.add_eq_left, Nat.add_left_cancel_iff, Nat.reduceEqDiff, Nat.add_assoc, Nat.succ_ne_zero, hxd]
      exact s_mkB (by omega) (by omega) fun b W2 hb hO hF2 hs2 => fin hb hO hF2 hs2
    · refine s_mkB (by omega) (by omega) fun b W2 hb hO hF2 hs2 => ?_
      simp only [push_cast, Nat.reduceAdd, Nat.reduceLeDiff, Nat.reduceLT, Int.reduceToNat, Nat.left_eq_add, Nat.add_eq_left, Nat.add_left_cancel_iff, Nat.reduceEqDiff, Nat.add_assoc, Nat.succ_ne_zero, hF2.heap hxd fun h => h]
      exact fin hb hO hF2 hs2

end Go.Gx.S
end

section
/- What the functions of this program ask. -/
set_option linter.unusedVariables false
set_option maxRecDepth 100000
namespace Go.Gx.S
open Go Go.Gx Go.Proofs
-- (*gemel/span.Span).Flushed
def p27 (P : Program) (K : Value → World → Prop) (x0 : Value) : World → Prop :=
  opS P (S.nc x0) fun x1 =>
  opS P (S.fa 58 x1 5) fun x2 =>
  opS P (S.ld 55 x2) fun x3 =>
  opS P (S.cl 60 [x3]) fun x4 =>
  opS P (S.cl 59 [x4]) fun x5 =>
  opS P (S.nc x0) fun x6 =>
  opS P (S.fa 58 x6 5) fun x7 =>
  opS P (S.ld 55 x7) fun x8 =>
  opS P (S.bi .clear #[55] 0 [x8]) fun x9 =>
  K x5
instance fnb27 : FnB Tryz.prog 27 := ⟨Tryz.call27⟩
theorem e27 : p27 Tryz.prog = fun K x0 => denF Tryz.prog Tryz.f27 [x0] K := by kernel_rfl
theorem c27 {K : Value → World → Prop} {x0 : Value} {w : World} (h : p27 Tryz.prog K x0 w) : CallsR Tryz.prog 27 #[x0] K w := by
  rw [e27] at h
  exact denF_sound mixed Tryz.func27 h

-- (*gemel/gemelref18.Span).Flushed
def p28 (P : Program) (K : Value → World → Prop) (x0 : Value) : World → Prop :=
  jnJ 1 (fun x1 =>
    K x1
  ) fun j0 =>
  loopJ 2 (fun j1 x1 x2 =>
    opS P (S.nc x0) fun x3 =>
    opS P (S.fa 49 x3 1) fun x4 =>
    opS P (S.ld 46 x4) fun x5 =>
    opS P (S.len x5) fun x6 =>
    opS P (S.binI .lss x2 x6) fun x7 =>
    brn x7 (
      jnJ 1 (fun x8 =>
        opS P (S.nc x0) fun x9 =>
        opS P (S.fa 49 x9 5) fun x10 =>
        opS P (S.ld 47 x10) fun x11 =>
        opS P (S.ia 47 x11 x2) fun x12 =>
        opS P (S.st 4 x12 (.bool false)) fun x13 =>
        opS P (S.binI .add x2 (.int .i64 1)) fun x14 =>
        j1 x8 x14
      ) fun j2 =>
      opS P (S.nc x0) fun x8 =>
      opS P (S.fa 49 x8 5) fun x9 =>
      opS P (S.ld 47 x9) fun x10 =>
      opS P (S.ia 47 x10 x2) fun x11 =>
      opS P (S.ld 4 x11) fun x12 =>
      brn x12 (
        opS P (S.binI .add x2 (.int .i64 1)) fun x13 =>
        opS P (S.buildS 26 1 [(0, x13)]) fun x14 =>
        opS P (S.bi .append #[26, 26] 26 [x1, x14]) fun x15 =>
        j2 x15
      ) (
        j2 x1
      )
    ) (
      j0 x1
    )
  ) (.slice none 0 0) (.int .i64 0)
instance fnb28 : FnB Tryz.prog 28 := ⟨Tryz.call28⟩
theorem e28 : p28 Tryz.prog = fun K x0 => denF Tryz.prog Tryz.f28 [x0] K := by kernel_rfl
theorem c28 {K : Value → World → Prop} {x0 : Value} {w : World} (h : p28 Tryz.prog K x0 w) : CallsR Tryz.prog 28 #[x0] K w := by
  rw [e28] at h
  exact denF_sound mixed Tryz.func28 h

-- slices.Sorted[int]
def p59 (P : Program) (K : Value → World → Prop) (x0 : Value) : World → Prop :=
  opS P (S.cl 76 [x0]) fun x1 =>
  opS P (S.cl 77 [x1]) fun x2 =>
  K x1
instance fnb59 : FnB Tryz.prog 59 := ⟨Tryz.call59⟩
theorem e59 : p59 Tryz.prog = fun K x0 => denF Tryz.prog Tryz.f59 [x0] K := by kernel_rfl
theorem c59 {K : Value → World → Prop} {x0 : Value} {w : World} (h : p59 Tryz.prog K x0 w) : CallsR Tryz.prog 59 #[x0] K w := by
  rw [e59] at h
  exact denF_sound mixed Tryz.func59 h

-- maps.Keys[map[int]bool,int,bool]
def p60 (P : Program) (K : Value → World → Prop) (x0 : Value) : World → Prop :=
  opS P (S.box 55 x0) fun x1 =>
  opS P (S.mkf (.func 78) [] [x1]) fun x2 =>
  K x2
instance fnb60 : FnB Tryz.prog 60 := ⟨Tryz.call60⟩
theorem e60 : p60 Tryz.prog = fun K x0 => denF Tryz.prog Tryz.f60 [x0] K := by kernel_rfl
theorem c60 {K : Value → World → Prop} {x0 : Value} {w : World} (h : p60 Tryz.prog K x0 w) : CallsR Tryz.prog 60 #[x0] K w := by
  rw [e60] at h
  exact denF_sound mixed Tryz.func60 h

-- slices.Collect[int]
def p76 (P : Program) (K : Value → World → Prop) (x0 : Value) : World → Prop :=
  opS P (S.cl 87 [(.slice none 0 0), x0]) fun x1 =>
  K x1
instance fnb76 : FnB Tryz.prog 76 := ⟨Tryz.call76⟩
theorem e76 : p76 Tryz.prog = fun K x0 => denF Tryz.prog Tryz.f76 [x0] K := by kernel_rfl
theorem c76 {K : Value → World → Prop} {x0 : Value} {w : World} (h : p76 Tryz.prog K x0 w) : CallsR Tryz.prog 76 #[x0] K w := by
  rw [e76] at h
  exact denF_sound mixed Tryz.func76 h

-- maps.Keys[map[int]bool,int,bool]$1
def p78 (P : Program) (K : Value → World → Prop) (x0 : Value) (x1 : Value) : World → Prop :=
  opS P (S.ld 55 x1) fun x2 =>
  opS P (S.rng 55 x2) fun x3 =>
  jnJ 0 (
    K (.tuple #[])
  ) fun j0 =>
  loopJ 0 (fun j1 =>
    opS P (S.nxt x3 false 0) fun x4 =>
    opS P (S.ext x4 0) fun x5 =>
    brn x5 (
      opS P (S.ent x3) fun x6 =>
      opS P (S.ext x6 0) fun x7 =>
      opS P (S.call x0 [x7]) fun x8 =>
      opS P (S.un .not x8) fun x9 =>
      brn x9 (
        K (.tuple #[])
      ) (
        j1
      )
    ) (
      j0
    )
  )
instance fnb78 : FnB Tryz.prog 78 := ⟨Tryz.call78⟩
theorem e78 : p78 Tryz.prog = fun K x0 x1 => denF Tryz.prog Tryz.f78 [x0, x1] K := by kernel_rfl
theorem c78 {K : Value → World → Prop} {x0 x1 : Value} {w : World} (h : p78 Tryz.prog K x0 x1 w) : CallsR Tryz.prog 78 #[x0, x1] K w := by
  rw [e78] at h
  exact denF_sound mixed Tryz.func78 h

-- slices.AppendSeq[[]int,int]
def p87 (P : Program) (K : Value → World → Prop) (x0 : Value) (x1 : Value) : World → Prop :=
  opS P (S.box 26 x0) fun x2 =>
  rfS P x1 1 (fun bs K => JT.app 2 (fun x3 x4 =>
    opS P (S.beginR x3) fun x5 =>
    opS P (S.ld 26 x2) fun x6 =>
    opS P (S.buildS 26 1 [(0, x4)]) fun x7 =>
    opS P (S.bi .append #[26, 26] 26 [x6, x7]) fun x8 =>
    opS P (S.st 26 x2 x8) fun x9 =>
    opS P (S.endR x3 none) fun x10 =>
    K x10
  ) bs) (fun x3 =>
    opS P (S.ld 26 x2) fun x4 =>
    takeD P x3 fun x5 =>
    K x4
  ) (fun x3 =>
    takeD P x3 fun x4 =>
    K (.slice none 0 0)
  ) 0 (fun x3 =>
    fun _ => False
  )
instance fnb87 : FnB Tryz.prog 87 := ⟨Tryz.call87⟩
theorem e87 : p87 Tryz.prog = fun K x0 x1 => denF Tryz.prog Tryz.f87 [x0, x1] K := by kernel_rfl
theorem c87 {K : Value → World → Prop} {x0 x1 : Value} {w : World} (h : p87 Tryz.prog K x0 x1 w) : CallsR Tryz.prog 87 #[x0, x1] K w := by
  rw [e87] at h
  exact denF_sound mixed Tryz.func87 h

end Go.Gx.S
-- 27 28 59 76 87 60 78
end

section
/- Contracts of the library's functions, laid at this program. -/
namespace Go.Proofs
open Go.Shelf
def Tryz.lays189_ren : Go.Shelf.Ren := ⟨fun | 189 => 77 | 125 => 89 | 257 => 88 | 128 => 101 | 129 => 102 | 294 => 92 | 295 => 93 | 296 => 94 | 297 => 95 | 298 => 96 | 299 => 97 | 216 => 98 | 300 => 99 | 301 => 100 | 328 => 105 | 329 => 106 | 330 => 107 | 331 => 108 | 332 => 109 | 215 => 80 | 343 => 110 | n => n, fun | 28 => 26 | 3 => 3 | 46 => 125 | 0 => 0 | 51 => 137 | 53 => 139 | 4 => 4 | 183 => 130 | 182 => 129 | 131 => 134 | 5 => 5 | 9 => 9 | 218 => 141 | 222 => 107 | 228 => 146 | 229 => 147 | n => n, fun | n => n⟩
theorem Tryz.lays189 : Go.Proofs.Lays.n189 Tryz.prog Tryz.lays189_ren := {
  mixed := by kernel_rfl
  f125 := Tryz.func89.trans (congrArg some (by kernel_rfl))
  f128 := Tryz.func101.trans (congrArg some (by kernel_rfl))
  f129 := Tryz.func102.trans (congrArg some (by kernel_rfl))
  f189 := Tryz.func77.trans (congrArg some (by kernel_rfl))
  f215 := Tryz.func80.trans (congrArg some (by kernel_rfl))
  f216 := Tryz.func98.trans (congrArg some (by kernel_rfl))
  f257 := Tryz.func88.trans (congrArg some (by kernel_rfl))
  f294 := Tryz.func92.trans (congrArg some (by kernel_rfl))
  f295 := Tryz.func93.trans (congrArg some (by kernel_rfl))
  f296 := Tryz.func94.trans (congrArg some (by kernel_rfl))
  f297 := Tryz.func95.trans (congrArg some (by kernel_rfl))
  f298 := Tryz.func96.trans (congrArg some (by kernel_rfl))
  f299 := Tryz.func97.trans (congrArg some (by kernel_rfl))
  f300 := Tryz.func99.trans (congrArg some (by kernel_rfl))
  f301 := Tryz.func100.trans (congrArg some (by kernel_rfl))
  f328 := Tryz.func105.trans (congrArg some (by kernel_rfl))
  f329 := Tryz.func106.trans (congrArg some (by kernel_rfl))
  f330 := Tryz.func107.trans (congrArg some (by kernel_rfl))
  f331 := Tryz.func108.trans (congrArg some (by kernel_rfl))
  f332 := Tryz.func109.trans (congrArg some (by kernel_rfl))
  f343 := Tryz.func110.trans (congrArg some (by kernel_rfl))
  t0 := Tryz.underlying0
  a0 := Tryz.isAgg0
  z0 := Tryz.sizeOf0
  v0 := Tryz.zeroValue0
  t3 := Tryz.underlying3
  a3 := Tryz.isAgg3
  z3 := Tryz.sizeOf3
  v3 := Tryz.zeroValue3
  t4 := Tryz.underlying4
  a4 := Tryz.isAgg4
  z4 := Tryz.sizeOf4
  v4 := Tryz.zeroValue4
  t5 := Tryz.underlying5
  a5 := Tryz.isAgg5
  z5 := Tryz.sizeOf5
  v5 := Tryz.zeroValue5
  t9 := Tryz.underlying9
  a9 := Tryz.isAgg9
  z9 := Tryz.sizeOf9
  v9 := Tryz.zeroValue9
  t28 := Tryz.underlying26
  a28 := Tryz.isAgg26
  z28 := Tryz.sizeOf26
  v28 := Tryz.zeroValue26
  t46 := Tryz.underlying125
  a46 := Tryz.isAgg125
  z46 := Tryz.sizeOf125
  v46 := Tryz.zeroValue125
  t51 := Tryz.underlying137
  a51 := Tryz.isAgg137
  z51 := Tryz.sizeOf137
  v51 := Tryz.zeroValue137
  t53 := Tryz.underlying139
  a53 := Tryz.isAgg139
  z53 := Tryz.sizeOf139
  v53 := Tryz.zeroValue139
  t131 := Tryz.underlying134
  a131 := Tryz.isAgg134
  z131 := Tryz.sizeOf134
  v131 := Tryz.zeroValue134
  t182 := Tryz.underlying129
  a182 := Tryz.isAgg129
  z182 := Tryz.sizeOf129
  v182 := Tryz.zeroValue129
  t183 := Tryz.underlying130
  a183 := Tryz.isAgg130
  z183 := Tryz.sizeOf130
  v183 := Tryz.zeroValue130
  t218 := Tryz.underlying141
  a218 := Tryz.isAgg141
  z218 := Tryz.sizeOf141
  v218 := Tryz.zeroValue141
  t222 := Tryz.underlying107
  a222 := Tryz.isAgg107
  z222 := Tryz.sizeOf107
  v222 := Tryz.zeroValue107
  t228 := Tryz.underlying146
  a228 := Tryz.isAgg146
  z228 := Tryz.sizeOf146
  v228 := Tryz.zeroValue146
  t229 := Tryz.underlying147
  a229 := Tryz.isAgg147
  z229 := Tryz.sizeOf147
  v229 := Tryz.zeroValue147 }
end Go.Proofs
-- 945d0d10f61815b4c92e69e29a5d7fef9a6080581d3bd241f49b4751df0901ea
end

section
/- Numbers that are sorted. -/
set_option linter.unusedVariables false
set_option maxRecDepth 100000
namespace Go.Gx.S
open Go Go.Gx Go.Proofs Go.Sort
variable {K : Value → World → Prop} {w : World}

theorem nil_of {E sz : Nat} {v : Value} {es : List (List Value)} (h : OwnE E sz w v es) (hb : blkS v = none) : v = .slice none 0 0 ∧ es = [] := by
  obtain ⟨h1, _⟩ := h
  rcases h1 with ⟨h1, h2, _⟩ | ⟨b, o, c, cs, h1, _⟩
  · exact ⟨h1, List.eq_nil_of_length_eq_zero h2⟩
  · rw [h1] at hb; cases hb
theorem some_of {E sz : Nat} {v : Value} {es : List (List Value)} (h : OwnE E sz w v es) {b : Nat} (hb : blkS v = some b) : ∃ o c, v = .slice (some ⟨b, o, none⟩) es.length c ∧ es.length ≤ c := by
  obtain ⟨h1, _⟩ := h
  rcases h1 with ⟨h1, h2, _⟩ | ⟨b', o, c, cs, h1, _, h2, _⟩
  · rw [h1] at hb; cases hb
  · rw [h1] at hb; cases hb; exact ⟨o, c, h1, h2⟩

instance : FnB Tryz.prog 77 := ⟨Tryz.call77⟩
theorem sortI_spec {v : Value} {zs : List Int} (hv : OwnE 3 1 w v (zs.map cellI)) (hl : zs.length < 2 ^ 60)
    (h : ∀ w', OwnE 3 1 w' v ((zs.mergeSort fun x y => decide (x ≤ y)).map cellI) → Fr (fun b => blkS v = some b) w w' → K (.tuple #[]) w') : CallsR Tryz.prog 77 #[v] K w := by
  cases hb : blkS v with
  | none =>
    obtain ⟨rfl, he⟩ := nil_of hv hb
    obtain rfl := List.map_eq_nil_iff.1 he
    refine Calls.mono (Any.slices_Sort_int_none Tryz.lays189 none 0 w) ?_
    rintro e w' ⟨rfl, rfl⟩
    exact ⟨_, rfl, h _ (by simpa using hv) (Fr.refl _ _)⟩
  | some b =>
    obtain ⟨o, c, rfl, _⟩ := some_of hv hb
    rw [List.length_map] at hv ⊢
    obtain ⟨h1, h2⟩ := own_holds (enc := Value.int .i64) hv
    refine Calls.mono (Any.slices_Sort_int Tryz.lays189 b o c zs w h1 h2 (by omega)) ?_
    rintro e w' ⟨rfl, n, os, rfl⟩
    refine ⟨_, rfl, h _ ?_ (putRow_fr.mono fun x _ e => by rw [e]; rfl)⟩
    have := own_sorted (enc := Value.int .i64) (n := n) (os := os) (ys := zs.mergeSort fun x y => decide (x ≤ y)) hv (List.length_mergeSort zs)
    rw [List.length_mergeSort, List.length_map] at *
    exact this

theorem sort_eq {d k : List Int} (hd : d.Nodup) (hk : k.Pairwise (· < ·)) (h : ∀ x, x ∈ d ↔ x ∈ k) : (d.mergeSort fun x y => decide (x ≤ y)) = k := by
  have h1 := sorted_ints d
  have h2 : (d.mergeSort fun x y => decide (x ≤ y)).Nodup := (List.mergeSort_perm d _).nodup_iff.2 hd
  have h3 : (d.mergeSort fun x y => decide (x ≤ y)).Pairwise (· < ·) := (h1.and h2).imp fun ⟨a, b⟩ => by omega
  refine eq_of_rising (r := fun x y : Int => x < y) (fun a => by omega) (fun a b => by omega) h3 hk fun x => ?_
  rw [List.mem_mergeSort]; exact h x

end Go.Gx.S
end

section
/- What a loop over a function collects. -/
namespace Go.Gx
open Go
variable {P : Program} {K : Value → World → Prop} {w : World}

theorem upd_own {E sz b0 : Nat} {v : Value} {es : List (List Value)} {o : Obj} (h : OwnE E sz w v es) (hn : ∀ b, blkS v = some b → b0 ≠ b) : OwnE E sz (upd w b0 o) v es :=
  h.frame fun b hb => heap_upd_ne (hn b hb)

/-- while a loop collects into the slot q: its marks lie at s, its own block behind; 'it' is another's -/
structure CI (E sz : Nat) (T : TypeId) (w0 : World) (q s : Nat) (L : Loop) (it : Nat) (es : List (List Value)) (w : World) : Prop where
  slot : ∃ v, w.heap[q]? = some (cellsO [v] T) ∧ OwnE E sz w v es ∧ ∀ b, blkS v = some b → s + 1 < b ∧ b ≠ it
  loop : ∃ L', w.heap[s + 1]? = some (.loop L') ∧ LoopSame L' L ∧ L'.state = .ready ∧ L'.pending = none
  dfr : w.heap[s]? = some (.deferred (some []))
  fr : Fr none_ w0 w
  q0 : w0.heap.size ≤ q
  qs : q < s
  its : s + 1 < it

theorem CI.stay {E sz : Nat} {T : TypeId} {w0 w' : World} {q s it : Nat} {L : Loop} {es : List (List Value)} (h : CI E sz T w0 q s L it es w) (hF : Fr (fun b => b = it) w w') : CI E sz T w0 q s L it es w' := by
  obtain ⟨⟨v, h1, h2, h3⟩, ⟨L', h4, h5⟩, h6, h7, h8, h9, h10⟩ := h
  refine ⟨⟨v, hF.heap h1 (by omega), h2.fr hF (fun b hb => (h3 b hb).2), h3⟩, ⟨L', hF.heap h4 (by omega), h5⟩, hF.heap h6 (by omega), h7.trans_new hF fun b hb e => ?_, h8, h9, h10⟩
  omega

/-- at its start -/
theorem CI.start {E sz : Nat} {T : TypeId} {w0 w' : World} {q it : Nat} {L : Loop} {v : Value} {es : List (List Value)} (hL1 : L.state = .ready) (hL2 : L.pending.isNone = true) (hs : w.heap[q]? = some (cellsO [v] T)) (hv : OwnE E sz w v es) (hvn : blkS v = none)
    (hF : Fr none_ w0 w) (hq : w0.heap.size ≤ q) (hF' : Fr none_ ((w.alloc (.deferred (some []))).alloc (.loop L)) w') (hit : w.heap.size + 2 ≤ it) : CI E sz T w0 q w.heap.size L it es w' := by
  have hlt := lt_of_heap hs
  have hF2 : Fr none_ w ((w.alloc (.deferred (some []))).alloc (.loop L)) := ((Fr.refl _ _).step_alloc rfl).step_alloc rfl
  refine ⟨⟨v, hF'.heap (hF2.heap hs fun h => h) fun h => h, hv.fr (hF2.trans hF') (fun _ _ h => h), fun b hb => by rw [hvn] at hb; cases hb⟩, ⟨L, hF'.heap ?_ fun h => h, ⟨rfl, rfl, rfl, rfl, rfl⟩, hL1, by simpa using hL2⟩, hF'.heap ?_ fun h => h, (hF.trans hF2).trans hF', hq, hlt, by omega⟩
  · have := heap_alloc_new (w.alloc (.deferred (some []))) (.loop L)
    rwa [size_alloc] at this
  · rw [heap_alloc_lt (by rw [size_alloc]; omega)]
    exact heap_alloc_new _ _

/-- a round -/
theorem coll_roundM {T E sz by_ : Nat} {ag : Bool} {z : Value} {ty : TypeId} [hT : SlT P T E] [hs : Sz P E sz ag] [hsT : Sz P T 1 false] [hb : By P E by_] [hz : ZV P E z] {w0 : World} {q s it : Nat} {L : Loop} {es : List (List Value)} {x : List Value} {mid : (Value → World → Prop) → World → Prop}
    (hx : ∀ (K : Value → World → Prop) w1, Fr (fun b => b = s + 1) w w1 → (∀ v' w', OwnE E sz w' v' [x] → Fr none_ w1 w' → New w1 v' → K v' w') → mid K w1) (hone : x.all S.oneCell = true) (hzn : z.cells.size = sz) (hby : 0 < by_) (hroom : (2 * (es.length + 1) + 192) * by_ ≤ 2 ^ 48)
    (h : CI E sz T w0 q s L it es w) (hit : it < w.heap.size) (hK : ∀ w', CI E sz T w0 q s L it (es ++ [x]) w' → Fr (fun b => b ≠ it ∧ w0.heap.size ≤ b) w w' → K (.bool true) w') :
    opS P (S.beginR (pt (s + 1) 0)) (fun _ => opS P (S.ld T (pt q 0)) fun x6 => mid fun x7 => opS P (S.bi .append #[T, T] ty [x6, x7]) fun x8 => opS P (S.st T (pt q 0) x8) fun _ => opS P (S.endR (pt (s + 1) 0) none) K) w := by
  obtain ⟨⟨v, hv, hvO, hvb⟩, ⟨L', hlb, hsame, hst, hpd⟩, hd, hfr, hq, hqs, hits⟩ := h
  have hlt1 := lt_of_heap hlb
  have hsz := hfr.size
  rw [opS_beginR hlb hst]
  have f2 : Fr (fun b => b = s + 1) w (upd w (s + 1) (.loop { L' with state := .busy })) := Fr.upd' hlb rfl _ rfl rfl
  have l2 : (upd w (s + 1) (.loop { L' with state := .busy })).heap[s + 1]? = some (.loop { L' with state := .busy }) := heap_upd_same (by rw [hlb]; rfl)
  generalize upd w (s + 1) (.loop { L' with state := .busy }) = W2 at f2 l2 ⊢
  have v2 : W2.heap[q]? = some (cellsO [v] T) := f2.heap hv (by omega)
  rw [s_ld1, v2, cellAt_cells, List.getElem?_cons_zero, onS_some]
  refine hx _ _ f2 fun vG W3 hG f3 nG => ?_
  have o2 : OwnE E sz W2 v es := hvO.fr f2 (fun b hb => by have := (hvb b hb).1; omega)
  have o3 : OwnE E sz W3 v es := o2.fr f3 (fun _ _ h => h)
  refine s_app (T := T) (T2 := T) (sz := sz) (by_ := by_) hzn hby o3 hG.rd (by simpa using hone) (by simpa using hroom) fun vH W4 hH bH f4 => ?_
  have hvH : ∀ b, blkS vH = some b → s + 1 < b ∧ b ≠ it := fun b hb => by
    rcases bH with bH | bH
    · exact hvb b (bH ▸ hb)
    · have := bH b hb; have := f3.size; have := f2.size; omega
  have v4 : W4.heap[q]? = some (cellsO [v] T) := f4.heap (f3.heap v2 (fun h => h)) (fun h => by have := hvb _ h; omega)
  have l4 : W4.heap[s + 1]? = some (.loop { L' with state := .busy }) := f4.heap (f3.heap l2 (fun h => h)) (fun h => by have := hvb _ h; omega)
  have f5 : Fr (fun b => b = s + 1 ∨ blkS v = some b ∨ b = q) w (wr W4 q 0 [vH]) := by
    refine Fr.step_wr ?_ (.inl (.inr (.inr rfl))) _ _
    refine Fr.trans_new ?_ f4 (fun b _ h => .inr (.inl h))
    exact (f2.mono (fun b _ h => .inl h)).trans_new f3 (fun _ _ h => h.elim)
  rw [s_st1 _ _ _ hH.one, v4, okAt_cells]
  have ok : decide (0 + 1 ≤ [v].length) = true := rfl
  rw [ok, onB_true]
  have v5 : (wr W4 q 0 [vH]).heap[q]? = some (cellsO [vH] T) := by rw [heap_wr, if_pos rfl, v4, putAt_cells]; rfl
  have l5 : (wr W4 q 0 [vH]).heap[s + 1]? = some (.loop { L' with state := .busy }) := by
    rw [heap_wr, if_neg (by omega)]; exact l4
  have o5 : OwnE E sz (wr W4 q 0 [vH]) vH (es ++ [x]) := hH.fr (Fr.wr (fp := fun b => b = q) W4 _ 0 [vH] rfl) (fun b hb e => by have := hvH b hb; omega)
  generalize wr W4 q 0 [vH] = W5 at f5 v5 l5 o5 ⊢
  rw [opS_endR l5]
  have f6 := f5.step_upd l5 rfl (.loop { L' with state := .ready, pending := none }) rfl (.inl (.inl rfl))
  have hfr2 : Fr none_ w0 (upd W5 (s + 1) (.loop { L' with state := .ready, pending := none })) :=
    hfr.trans_new f6 (fun b hb h => by
      rcases h with h | h | h
      · omega
      · have := hvb b h; omega
      · omega)
  refine hK _ ⟨⟨vH, ?_, upd_own o5 (fun b hb => by have := hvH b hb; omega), hvH⟩, ⟨{ L' with state := .ready, pending := none }, heap_upd_same (by rw [l5]; rfl), hsame, rfl, rfl⟩, f6.heap hd ?_, hfr2, hq, hqs, hits⟩ (f6.mono fun b _ h => ?_)
  · rw [heap_upd_ne (by omega)]; exact v5
  · rintro (h | h | h)
    · omega
    · have := hvb _ h; omega
    · omega
  · rcases h with h | h | h
    · omega
    · have := hvb _ h; exact ⟨this.2, by omega⟩
    · omega

theorem coll_round {T E sz by_ : Nat} {ag : Bool} {z : Value} {ty : TypeId} [hT : SlT P T E] [hs : Sz P E sz ag] [hsT : Sz P T 1 false] [hb : By P E by_] [hz : ZV P E z] {w0 : World} {q s it : Nat} {L : Loop} {es : List (List Value)} {x : List Value} {xv : Value}
    (hx : ∀ (K : Value → World → Prop) w, (∀ v' w', OwnE E sz w' v' [x] → Fr none_ w w' → New w v' → K v' w') → opS P (S.buildS T 1 [(0, xv)]) K w) (hone : x.all S.oneCell = true) (hzn : z.cells.size = sz) (hby : 0 < by_) (hroom : (2 * (es.length + 1) + 192) * by_ ≤ 2 ^ 48)
    (h : CI E sz T w0 q s L it es w) (hit : it < w.heap.size) (hK : ∀ w', CI E sz T w0 q s L it (es ++ [x]) w' → Fr (fun b => b ≠ it ∧ w0.heap.size ≤ b) w w' → K (.bool true) w') :
    opS P (S.beginR (pt (s + 1) 0)) (fun _ => opS P (S.ld T (pt q 0)) fun x6 => opS P (S.buildS T 1 [(0, xv)]) fun x7 => opS P (S.bi .append #[T, T] ty [x6, x7]) fun x8 => opS P (S.st T (pt q 0) x8) fun _ => opS P (S.endR (pt (s + 1) 0) none) K) w :=
  coll_roundM (mid := fun K => opS P (S.buildS T 1 [(0, xv)]) K) (fun K w1 _ hk => hx K w1 hk) hone hzn hby hroom h hit hK

/-- at its end -/
theorem coll_end (P : Program) {E sz : Nat} {T : TypeId} {w0 : World} {q s it : Nat} {L : Loop} {es : List (List Value)} (h : CI E sz T w0 q s L it es w) :
    ∃ v w', (Instr.endLoop (s + 1)).run P w = .ok none w' ∧ w'.heap[q]? = some (cellsO [v] T) ∧ OwnE E sz w' v es ∧ (∀ b, blkS v = some b → s + 1 < b) ∧ w'.heap[s]? = some (.deferred (some [])) ∧ Fr none_ w0 w' ∧ q < s ∧ w0.heap.size ≤ q := by
  obtain ⟨⟨v, hv, hvO, hvb⟩, ⟨L', hlb, hsame, hst, hpd⟩, hd, hfr, hq, hqs, hits⟩ := h
  refine ⟨v, _, by rw [run_endLoop hlb (by rw [hst]; decide), hpd], ?_, upd_own hvO fun b hb => by have := (hvb b hb).1; omega, fun b hb => (hvb b hb).1, ?_, hfr.step_upd hlb rfl _ rfl (.inr (by omega)), hqs, hq⟩
  · rw [heap_upd_ne (by omega)]; exact hv
  · rw [heap_upd_ne (by omega)]; exact hd

end Go.Gx
end

section
/- Of which ports the stations are to be forgotten. -/
set_option linter.unusedVariables false
set_option linter.unusedSimpArgs false
set_option maxRecDepth 100000
namespace Go.Gx.S
open Go Go.Gx Go.Proofs
variable {K : Value → World → Prop} {w : World} {sp mb : Nat} {bs : List Nat} {pv fv : Value} {s : Sp}

/-! ### Plain -/

/-- the numbers of those, of the first n -/
def fl (f : List Bool) (n : Nat) : List Int := ((List.range n).filter fun i => decide (f[i]? = some true)).map fun (i : Nat) => (i : Int) + 1
def Sp.flushed (s : Sp) : List Int := fl s.forget s.forget.length
def Sp.flushS (s : Sp) : Sp := { s with forget := List.replicate s.forget.length false }

theorem fl_succ (f : List Bool) (n : Nat) : fl f (n + 1) = fl f n ++ if f[n]? = some true then [(n : Int) + 1] else [] := by
  unfold fl
  rw [List.range_succ, List.filter_append, List.map_append]
  congr 1
  by_cases h : f[n]? = some true
  · rw [if_pos h, List.filter_cons_of_pos (by simpa using h)]; rfl
  · rw [if_neg h, List.filter_cons_of_neg (by simpa using h)]; rfl
theorem fl_len (f : List Bool) (n : Nat) : (fl f n).length ≤ n := by
  unfold fl
  rw [List.length_map]
  refine Nat.le_trans (List.length_filter_le _ _) ?_
  simp
theorem fl_rise (f : List Bool) (n : Nat) : (fl f n).Pairwise (· < ·) := by
  unfold fl
  refine List.Pairwise.map (R := (· < ·)) _ ?_ (List.Pairwise.filter _ List.pairwise_lt_range)
  intro a b hab
  show (a : Int) + 1 < b + 1
  omega
theorem fl_mem {f : List Bool} {x : Int} : x ∈ fl f f.length ↔ 1 ≤ x ∧ f[(x - 1).toNat]? = some true := by
  unfold fl
  rw [List.mem_map]
  constructor
  · rintro ⟨i, hi, rfl⟩
    rw [List.mem_filter] at hi
    have h1 : f[i]? = some true := by simpa using hi.2
    have h2 : ((i : Int) + 1 - 1).toNat = i := by omega
    exact ⟨by omega, by rw [h2]; exact h1⟩
  · rintro ⟨h1, h2⟩
    refine ⟨(x - 1).toNat, ?_, by omega⟩
    rw [List.mem_filter, List.mem_range]
    exact ⟨(List.getElem?_eq_some_iff.1 h2).1, by simpa using h2⟩
theorem getL_mem : ∀ {l : List (Int × Bool)} {k : Int} {v : Bool}, getL l k = some v → k ∈ l.map Prod.fst
  | [], k, v, h => by cases h
  | q :: l, k, v, h => by
    by_cases e : k = q.1
    · exact e ▸ List.mem_map_of_mem (List.mem_cons_self ..)
    · have hb : (@BEq.beq Int instBEqOfDecidableEq k q.1) = false := by simpa using e
      unfold getL at h
      rw [hb] at h
      exact List.mem_map.2 (by obtain ⟨x, hx, he⟩ := List.mem_map.1 (getL_mem h); exact ⟨x, List.mem_cons_of_mem _ hx, he⟩)
theorem FM.mem {m : List (Int × Bool)} {f : List Bool} (h : FM m f) (hn : (m.map Prod.fst).Nodup) (x : Int) : x ∈ m.map Prod.fst ↔ x ∈ fl f f.length := by
  rw [fl_mem]
  constructor
  · intro hx
    obtain ⟨q, hq, rfl⟩ := List.mem_map.1 hx
    have := lookup_of_mem hn hq
    rw [h] at this
    split at this
    · assumption
    · cases this
  · intro hx
    have := h x
    rw [if_pos hx] at this
    exact getL_mem this
theorem FM.len {m : List (Int × Bool)} {f : List Bool} (h : FM m f) (hn : (m.map Prod.fst).Nodup) : m.length ≤ f.length := by
  have h1 := sort_eq hn (fl_rise f f.length) (h.mem hn)
  have h2 := congrArg List.length h1
  rw [List.length_mergeSort, List.length_map] at h2
  have := fl_len f f.length
  omega
theorem Sp.wf.flushS (h : s.wf) : s.flushS.wf := ⟨h.me, h.l, h.best, h.num, h.fair, by show (List.replicate _ _).length = _; rw [List.length_replicate]; exact h.fl, h.rl, h.la⟩

/-! ### The keys of a map -/

theorem keys_spec {m : Nat} (h : ∀ w', w'.heap[w.heap.size]? = some (cellsO [.map (some m)] 55) → Fr none_ w w' → K (.func (.func 78) #[] #[pt w.heap.size 0]) w') : CallsR Tryz.prog 60 #[.map (some m)] K w := by
  apply c60
  unfold p60
  simp only [push_cast, Nat.reduceAdd, Nat.reduceLeDiff, Nat.reduceLT, Int.reduceToNat, Nat.left_eq_add, Nat.add_eq_left, Nat.add_left_cancel_iff, Nat.reduceEqDiff, Nat.add_assoc, Nat.succ_ne_zero]
  exact h _ (by simp only [push_cast, Nat.reduceAdd, Nat.reduceLeDiff, Nat.reduceLT, Int.reduceToNat, Nat.left_eq_add, Nat.add_eq_left, Nat.add_left_cancel_iff, Nat.reduceEqDiff, Nat.add_assoc, Nat.succ_ne_zero]; rfl) (by repeat' first | with_reducible exact Fr.refl _ _ | with_reducible refine Fr.step_alloc ?_ ?_ | with_reducible refine Fr.step_drew ?_ | with_reducible refine Fr.step_wr ?_ ?_ _ _ | exact rfl | exact Or.inr (by omega) | exact Or.inl rfl | exact Or.inl (Or.inl rfl) | exact Or.inl (Or.inr rfl))

theorem keys1_spec {m cb N : Nat} {t : List (Int × Bool)} {y : Value} (I : Nat → List (Int × Bool) → World → Prop) (hm : MapR kI .bool isI w m t) (hcb : w.heap[cb]? = some (cellsO [.map (some m)] 55)) (hmN : m < N)
    (h0 : ∀ w', w.heap.size < w'.heap.size → Fr none_ w w' → I w.heap.size [] w')
    (hst : ∀ it d w1 w2, I it d w1 → Fr (fun b => b = it) w1 w2 → I it d w2)
    (hy : ∀ it d x r w1 KY, it < w1.heap.size → (d ++ x :: r).Perm t → I it d w1 → (∀ w2, I it (d ++ [x]) w2 → Fr (fun b => b ≠ it ∧ N ≤ b) w1 w2 → KY (.bool true) w2) → opS Tryz.prog (S.call y [i64 x.1]) KY w1)
    (h : ∀ it d w', d.Perm t → I it d w' → K (.tuple #[]) w') : CallsR Tryz.prog 78 #[y, pt cb 0] K w := by
  apply c78
  unfold p78
  simp only [push_cast, Nat.reduceAdd, Nat.reduceLeDiff, Nat.reduceLT, Int.reduceToNat, Nat.left_eq_add, Nat.add_eq_left, Nat.add_left_cancel_iff, Nat.reduceEqDiff, Nat.add_assoc, Nat.succ_ne_zero, hcb]
  refine s_rng (kc := kI) (vc := Value.bool) (kok := isI) hm fun w1 hIt hF1 hs1 => ?_
  refine jn0 (fun w' => ∃ d, d.Perm t ∧ I w.heap.size d w') (fun w' ⟨d, hd, hi⟩ => h _ d w' hd hi) fun j hj => ?_
  refine loop0 (fun n w' => ∃ d todo, (d ++ todo).Perm t ∧ todo.length = n ∧ IterR kI Value.bool isI w' w.heap.size m t todo ∧ I w.heap.size d w' ∧ w.heap.size < w'.heap.size) ?_ t.length ⟨[], t, List.Perm.refl _, rfl, hIt, h0 _ (by omega) hF1, by omega⟩
  rintro n w' X ⟨d, todo, hp, rfl, hI, hi, hlt⟩ hX
  refine s_nxt hI (fun e => ?_) fun i q w2 hq hI2 hF2 hs2 hent => ?_
  · subst e
    simp only [push_cast, Nat.reduceAdd, Nat.reduceLeDiff, Nat.reduceLT, Int.reduceToNat, Nat.left_eq_add, Nat.add_eq_left, Nat.add_left_cancel_iff, Nat.reduceEqDiff, Nat.add_assoc, Nat.succ_ne_zero]
    exact hj _ ⟨d, by simpa using hp, hi⟩
  · simp only [push_cast, Nat.reduceAdd, Nat.reduceLeDiff, Nat.reduceLT, Int.reduceToNat, Nat.left_eq_add, Nat.add_eq_left, Nat.add_left_cancel_iff, Nat.reduceEqDiff, Nat.add_assoc, Nat.succ_ne_zero]
    refine s_ent (hent w2 (Fr.refl _ _)) ?_
    simp only [push_cast, Nat.reduceAdd, Nat.reduceLeDiff, Nat.reduceLT, Int.reduceToNat, Nat.left_eq_add, Nat.add_eq_left, Nat.add_left_cancel_iff, Nat.reduceEqDiff, Nat.add_assoc, Nat.succ_ne_zero]
    have hlt2 : w.heap.size < w2.heap.size := by omega
    have hq' : todo = todo.take i ++ q :: todo.drop (i + 1) := by
      obtain ⟨h1, h2⟩ := List.getElem?_eq_some_iff.1 hq
      rw [← h2, List.getElem_cons_drop, List.take_append_drop]
    have hpe : (d ++ q :: todo.eraseIdx i).Perm t := by
      refine List.Perm.trans (List.Perm.append_left d ?_) hp
      rw [List.eraseIdx_eq_take_drop_succ]
      conv => rhs; rw [hq']
      exact List.perm_middle.symm
    refine hy _ d q (todo.eraseIdx i) w2 _ hlt2 hpe (hst _ _ _ _ hi hF2) fun w3 hi3 hF3 => ?_
    simp only [push_cast, Nat.reduceAdd, Nat.reduceLeDiff, Nat.reduceLT, Int.reduceToNat, Nat.left_eq_add, Nat.add_eq_left, Nat.add_left_cancel_iff, Nat.reduceEqDiff, Nat.add_assoc, Nat.succ_ne_zero]
    have hil : i < todo.length := (List.getElem?_eq_some_iff.1 hq).1
    refine hX (todo.eraseIdx i).length _ (by rw [List.length_eraseIdx_of_lt hil]; omega) ⟨d ++ [q], todo.eraseIdx i, by simpa using hpe, rfl, hI2.fr hF3 (fun h => h.1 rfl) (fun h => by have := h.2; omega), hi3, by have := hF3.size; omega⟩

theorem appendSeq_spec {m cb : Nat} {t : List (Int × Bool)} (hm : MapR kI .bool isI w m t) (hcb : w.heap[cb]? = some (cellsO [.map (some m)] 55)) (hl : t.length ≤ 64)
    (hk : ∀ (d : List (Int × Bool)) v w', d.Perm t → OwnE 3 1 w' v (d.map fun x => cellI x.1) → New w v → Fr none_ w w' → K v w') :
    CallsR Tryz.prog 87 #[.slice none 0 0, .func (.func 78) #[] #[pt cb 0]] K w := by
  apply c87
  unfold p87
  have hm0 := hm.lt
  simp only [push_cast, Nat.reduceAdd, Nat.reduceLeDiff, Nat.reduceLT, Int.reduceToNat, Nat.left_eq_add, Nat.add_eq_left, Nat.add_left_cancel_iff, Nat.reduceEqDiff, Nat.add_assoc, Nat.succ_ne_zero]
  have hFa : Fr none_ w (w.alloc (cellsO [.slice none 0 0] 26)) := (by repeat' first | with_reducible exact Fr.refl _ _ | with_reducible refine Fr.step_alloc ?_ ?_ | with_reducible refine Fr.step_drew ?_ | with_reducible refine Fr.step_wr ?_ ?_ _ _ | exact rfl | exact Or.inr (by omega) | exact Or.inl rfl | exact Or.inl (Or.inl rfl) | exact Or.inl (Or.inr rfl))
  have hsa : (w.alloc (cellsO [.slice none 0 0] 26)).heap[w.heap.size]? = some (cellsO [.slice none 0 0] 26) := by simp only [push_cast, Nat.reduceAdd, Nat.reduceLeDiff, Nat.reduceLT, Int.reduceToNat, Nat.left_eq_add, Nat.add_eq_left, Nat.add_left_cancel_iff, Nat.reduceEqDiff, Nat.add_assoc, Nat.succ_ne_zero]
  have hsz : (w.alloc (cellsO [.slice none 0 0] 26)).heap.size = w.heap.size + 1 := size_alloc _ _
  generalize w.alloc (cellsO [.slice none 0 0] 26) = w1 at *
  intro L hL1 hL2 hL3 hyield
  rw [enterS_call]
  have hF2 : Fr none_ w1 ((w1.alloc (.deferred (some []))).alloc (.loop L)) := ((Fr.refl _ _).step_alloc rfl).step_alloc rfl
  have hm2 : MapR kI .bool isI ((w1.alloc (.deferred (some []))).alloc (.loop L)) m t := hm.fr (hFa.trans hF2) fun h => h
  have hcb2 := (hFa.trans hF2).heap hcb fun h => h
  have hsz2 : ((w1.alloc (.deferred (some []))).alloc (.loop L)).heap.size = w1.heap.size + 2 := by rw [size_alloc, size_alloc]
  refine keys1_spec (N := w.heap.size) (t := t) (fun it d w' => CI 3 1 26 w w.heap.size w1.heap.size L it (d.map fun x => cellI x.1) w') hm2 hcb2 hm0 ?_ ?_ ?_ ?_
  · intro w' _ hF'
    exact CI.start (es := []) hL1 hL3 hsa (own_nil _ _ _) rfl hFa (Nat.le_refl _) hF' (by omega)
  · intro it d w2 w3 hI hF'
    exact hI.stay hF'
  · intro it d x r w2 KY hlt hp hI hK
    obtain ⟨L', hlb, hsame, hst, hpd⟩ := hI.loop
    refine hyield KY [i64 x.1] w2 L' hst hsame hlb rfl ?_
    have hlen : (d.map fun x => cellI x.1).length < t.length := by
      have := hp.length_eq
      rw [List.length_append, List.length_cons] at this
      rw [List.length_map]; omega
    refine coll_round (T := 26) (E := 3) (sz := 1) (by_ := 8) (z := .int .i64 0) (x := cellI x.1) (xv := i64 x.1) (fun K w hk => s_bs1c (z := .int .i64 0) rfl rfl hk) rfl rfl (by decide) (by omega) hI hlt fun w3 hI3 hF3 => ?_
    refine hK w3 ?_ hF3
    rw [List.map_append]
    exact hI3
  · intro it d w2 hd hI
    obtain ⟨v, w3, hrun, hs3, hv3, hb3, hd3, hF3, hqs, hq⟩ := coll_end Tryz.prog hI
    refine ⟨none, w3, hrun, ?_⟩
    simp only [push_cast, Nat.reduceAdd, Nat.reduceLeDiff, Nat.reduceLT, Int.reduceToNat, Nat.left_eq_add, Nat.add_eq_left, Nat.add_left_cancel_iff, Nat.reduceEqDiff, Nat.add_assoc, Nat.succ_ne_zero, hs3]
    show opS Tryz.prog (S.take (pt w1.heap.size 0)) _ _
    rw [opS_take hd3]
    refine hk d v _ hd (upd_own hv3 fun b hb e => ?_) (fun b hb => ?_) (hF3.step_upd hd3 rfl _ rfl (.inr (by omega)))
    · have := hb3 _ hb; omega
    · have := hb3 _ hb; omega

theorem sorted_spec {m cb : Nat} {t : List (Int × Bool)} (hm : MapR kI .bool isI w m t) (hcb : w.heap[cb]? = some (cellsO [.map (some m)] 55)) (hl : t.length ≤ 64)
    (hk : ∀ (d : List (Int × Bool)) v w', d.Perm t → OwnE 3 1 w' v (((d.map Prod.fst).mergeSort fun x y => decide (x ≤ y)).map cellI) → New w v → Fr none_ w w' → K v w') :
    CallsR Tryz.prog 59 #[.func (.func 78) #[] #[pt cb 0]] K w := by
  apply c59
  unfold p59
  rw [opS_cl]
  apply c76
  unfold p76
  rw [opS_cl]
  refine appendSeq_spec hm hcb hl fun d v w' hd hv hN hF => ?_
  have hmap : (d.map fun x => cellI x.1) = (d.map Prod.fst).map cellI := by rw [List.map_map]; rfl
  rw [hmap] at hv
  show opS Tryz.prog (S.cl 77 [v]) (fun _ => K v) w'
  rw [opS_cl]
  refine sortI_spec hv (by rw [List.length_map, hd.length_eq]; omega) fun w4 hv4 hF4 => ?_
  exact hk d v w4 hd hv4 hN (hF.trans_new hF4 fun b hb e => by have := hN b e; omega)

theorem flushed_spec (h : CS w sp bs pv mb s) (hw : s.wf) (hk : ∀ v w', CS w' sp bs pv mb s.flushS → OwnE 3 1 w' v (s.flushed.map cellI) → New w v → Fr (fC sp bs mb) w w' → K v w') : CallsR Tryz.prog 27 #[pt sp 0] K w := by
  apply c27
  unfold p27
  have h64 := hw.n64
  have hfl := hw.fl
  obtain ⟨m, hm, hfm⟩ := h.mp
  obtain ⟨es, clock, hmb, hM⟩ := id hm
  have hlen := hfm.len hM.nd
  simp only [push_cast, Nat.reduceAdd, Nat.reduceLeDiff, Nat.reduceLT, Int.reduceToNat, Nat.left_eq_add, Nat.add_eq_left, Nat.add_left_cancel_iff, Nat.reduceEqDiff, Nat.add_assoc, Nat.succ_ne_zero, h.ps.main]
  refine keys_spec fun w1 hcb hF1 => ?_
  simp only [push_cast, Nat.reduceAdd, Nat.reduceLeDiff, Nat.reduceLT, Int.reduceToNat, Nat.left_eq_add, Nat.add_eq_left, Nat.add_left_cancel_iff, Nat.reduceEqDiff, Nat.add_assoc, Nat.succ_ne_zero]
  refine sorted_spec (hm.fr hF1 fun h => h) hcb (by omega) fun d v w2 hd hv hN hF2 => ?_
  have hF := hF1.trans hF2
  have hI := h.fr0 hF
  have hsz := hF1.size
  simp only [push_cast, Nat.reduceAdd, Nat.reduceLeDiff, Nat.reduceLT, Int.reduceToNat, Nat.left_eq_add, Nat.add_eq_left, Nat.add_left_cancel_iff, Nat.reduceEqDiff, Nat.add_assoc, Nat.succ_ne_zero, hI.ps.main]
  refine s_mclear (kc := kI) (vc := Value.bool) (kok := isI) (hm.fr hF fun h => h) fun w3 hm3 hF3 => ?_
  have hps := hI.ps.fr hF3 (fun e => h.nmb.1 e.symm) (fun b hb e => h.nmb.2.1 (e ▸ hb)) fun b hb e => h.nmb.2.2 (e ▸ hb)
  have hnd : (d.map Prod.fst).Nodup := (hd.map Prod.fst).nodup_iff.2 hM.nd
  rw [sort_eq hnd (fl_rise s.forget s.forget.length) fun x => by rw [(hd.map Prod.fst).mem_iff]; exact hfm.mem hM.nd x] at hv
  have hml := hm.lt
  refine hk v w3 ⟨hps.forget _, ⟨_, hm3, FM.nil _⟩, h.nmb⟩ (hv.fr hF3 fun b hb e => ?_) (fun b hb => ?_) ((hF.mono fun _ _ h => h.elim).trans (hF3.mono fun x _ e => .inr (.inr e)))
  · have := hN b hb
    have e : b = mb := e
    omega
  · have := hN b hb; omega

/-- the first ones are told -/
def zf (f : List Bool) (k : Nat) : List Bool := f.mapIdx fun i b => if i < k then false else b
theorem zf_len (f : List Bool) (k : Nat) : (zf f k).length = f.length := by unfold zf; simp
theorem zf_get (f : List Bool) (k i : Nat) : (zf f k)[i]? = (f[i]?).map fun b => if i < k then false else b := by unfold zf; rw [List.getElem?_mapIdx]
theorem zf_0 (f : List Bool) : zf f 0 = f := by
  apply List.ext_getElem?
  intro i
  rw [zf_get]
  cases f[i]? <;> simp
theorem zf_succ {f : List Bool} {k : Nat} : zf f (k + 1) = (zf f k).set k false := by
  apply List.ext_getElem?
  intro i
  rw [List.getElem?_set, zf_get, zf_get, zf_len]
  by_cases e : k = i
  · subst e
    rw [if_pos rfl]
    by_cases hk : k < f.length
    · rw [if_pos hk, List.getElem?_eq_getElem hk]; simp
    · rw [if_neg hk, List.getElem?_eq_none (by omega)]; rfl
  · rw [if_neg e]
    congr 1
    funext x
    have : (i < k + 1) ↔ i < k := by omega
    simp [this]
theorem zf_all (f : List Bool) : zf f f.length = List.replicate f.length false := by
  apply List.ext_getElem?
  intro i
  rw [zf_get, List.getElem?_replicate]
  by_cases h : i < f.length
  · rw [if_pos h, List.getElem?_eq_getElem h]; simp [h]
  · rw [if_neg h, List.getElem?_eq_none (by omega)]; rfl
theorem ld_bool {TS : TypeId} [hS : SlT Tryz.prog TS 4] {v : Value} {l : List Bool} (h : RdE 1 w v (l.map cellB)) {k : Nat} {r : Bool} (hr : l[k]? = some r) {R : Value → World → Prop} (hk : R (.bool r) w) : opS Tryz.prog (S.ia TS v (i64 k)) (fun x => opS Tryz.prog (S.ld 4 x) R) w := by
  obtain ⟨hi, e⟩ := List.getElem?_eq_some_iff.1 hr
  refine s_iaE h (by omega) (by simpa using hi) fun c o c' _ he => ?_
  simp only [Int.toNat_natCast, List.getElem_map, e] at he ⊢
  rw [s_ld1, he.cell0 (by exact Nat.one_pos)]
  exact hk

theorem rflushed_spec (h : RS w sp bs pv fv s) (hw : s.wf) (hk : ∀ v w', RS w' sp bs pv fv s.flushS → OwnE 3 1 w' v (s.flushed.map cellI) → New w v → Fr (fR sp bs fv) w w' → K v w') : CallsR Tryz.prog 28 #[pt sp 0] K w := by
  apply c28
  unfold p28
  have h64 := hw.n64
  have hfl := hw.fl
  refine jn1 (fun v W => RS W sp bs pv fv s.flushS ∧ OwnE 3 1 W v (s.flushed.map cellI) ∧ New w v ∧ Fr (fR sp bs fv) w W) (fun v W ⟨h1, h2, h3, h4⟩ => hk v W h1 h2 h3 h4) fun j hj => ?_
  refine loop2 (fun n x u W => ∃ k : Nat, k ≤ s.l.length ∧ n = s.l.length - k ∧ u = i64 k ∧ RS W sp bs pv fv { s with forget := zf s.forget k } ∧ OwnE 3 1 W x ((fl s.forget k).map cellI) ∧ New w x ∧ Fr (fR sp bs fv) w W) ?_ s.l.length ⟨0, by omega, rfl, rfl, by rw [zf_0]; exact h, own_nil _ _ _, fun b hb => by simp [blkS] at hb, Fr.refl _ _⟩
  rintro n x u W X ⟨k, hk2, rfl, rfl, hI, hO, hN, hF⟩ hX
  simp only [push_cast, Nat.reduceAdd, Nat.reduceLeDiff, Nat.reduceLT, Int.reduceToNat, Nat.left_eq_add, Nat.add_eq_left, Nat.add_left_cancel_iff, Nat.reduceEqDiff, Nat.add_assoc, Nat.succ_ne_zero, hI.ps.main]
  rw [hI.ps.lenv]
  simp only [push_cast, Nat.reduceAdd, Nat.reduceLeDiff, Nat.reduceLT, Int.reduceToNat, Nat.left_eq_add, Nat.add_eq_left, Nat.add_left_cancel_iff, Nat.reduceEqDiff, Nat.add_assoc, Nat.succ_ne_zero]
  refine br_dec (fun hlt => ?_) fun hge => ?_
  · have hkl : k < s.l.length := by have : (k : Int) < s.l.length := hlt; omega
    have hwk : IntKind.i64.wrap ((k : Int) + 1) = ((k + 1 : Nat) : Int) := by rw [wrap_i64 (by omega)]; rfl
    have hgk : s.forget[k]? = some (s.forget[k]'(by omega)) := List.getElem?_eq_getElem _
    have hzk : (zf s.forget k)[k]? = some (s.forget[k]'(by omega)) := by rw [zf_get, hgk]; simp
    have hfs := fl_succ s.forget k
    rw [hgk] at hfs
    generalize s.forget[k]'(by omega) = c at *
    refine jn1 (fun v W' => RS W' sp bs pv fv { s with forget := zf s.forget k } ∧ OwnE 3 1 W' v ((fl s.forget (k + 1)).map cellI) ∧ New w v ∧ Fr (fR sp bs fv) w W') ?_ fun j2 hj2 => ?_
    · rintro v W' ⟨hI, hO, hN, hF⟩
      simp only [push_cast, Nat.reduceAdd, Nat.reduceLeDiff, Nat.reduceLT, Int.reduceToNat, Nat.left_eq_add, Nat.add_eq_left, Nat.add_left_cancel_iff, Nat.reduceEqDiff, Nat.add_assoc, Nat.succ_ne_zero, hI.ps.main]
      refine own_st hI.fo (by rw [List.length_map, zf_len]; omega) rfl fun b W2 hb hfo' hF' => ?_
      obtain ⟨n1, n2, n3⟩ := hI.nfv b hb
      have hps := hI.ps.fr hF' (fun e => n1 e.symm) (fun c hc e => n2 (e ▸ hc)) fun c hc e => n3 (e ▸ hc)
      simp only [push_cast, Nat.reduceAdd, Nat.reduceLeDiff, Nat.reduceLT, Int.reduceToNat, Nat.left_eq_add, Nat.add_eq_left, Nat.add_left_cancel_iff, Nat.reduceEqDiff, Nat.add_assoc, Nat.succ_ne_zero, hwk]
      refine hX (s.l.length - (k + 1)) _ _ _ (by omega) ⟨k + 1, by omega, rfl, rfl, ⟨hps.forget _, ?_, hI.nfv⟩, hO.fr hF' fun c hc e => ?_, hN, hF.trans (hF'.mono fun x _ e => .inr (.inr (e ▸ hb)))⟩
      · show OwnE 4 1 W2 fv ((zf s.forget (k + 1)).map cellB)
        rw [zf_succ]
        have : ((zf s.forget k).set k false).map cellB = ((zf s.forget k).map cellB).set k [.bool false] := List.map_set ..
        rw [this]; exact hfo'
      · have h1 := hN c hc
        have h2 := h.lt b (.inr (.inr hb))
        have e : c = b := e
        omega
    · simp only [push_cast, Nat.reduceAdd, Nat.reduceLeDiff, Nat.reduceLT, Int.reduceToNat, Nat.left_eq_add, Nat.add_eq_left, Nat.add_left_cancel_iff, Nat.reduceEqDiff, Nat.add_assoc, Nat.succ_ne_zero, hI.ps.main]
      refine ld_bool hI.fo.rd hzk ?_
      rw [brn_br]
      refine br_intro (fun e => ?_) fun e => ?_
      · rw [e, if_pos rfl] at hfs
        have hll := fl_len s.forget k
        simp only [push_cast, Nat.reduceAdd, Nat.reduceLeDiff, Nat.reduceLT, Int.reduceToNat, Nat.left_eq_add, Nat.add_eq_left, Nat.add_left_cancel_iff, Nat.reduceEqDiff, Nat.add_assoc, Nat.succ_ne_zero, hwk]
        refine s_app1 (z := .int .i64 0) rfl rfl (by decide) hO (by rw [List.length_map]; omega) fun v2 w2 h1 h2 h3 => ?_
        have hs := hF.size
        refine hj2 _ _ ⟨hI.fr h3 (fun c hc e => ?_) (fun c hc e => ?_), ?_, fun c hc => ?_, hF.trans_new h3 fun c hc hx => by have := hN c hx; omega⟩
        · have := hN c e
          have := h.lt c hc; omega
        · have := hN c e
          have := h.ps.pv_lt (by omega) c hc; omega
        · rw [hfs, List.map_append]; exact h1
        · rcases h2 with h2 | h2
          · rw [h2] at hc; exact hN c hc
          · have := h2 c hc; omega
      · have e : c = false := by simpa using e
        rw [e, if_neg (by simp), List.append_nil] at hfs
        exact hj2 _ _ ⟨hI, by rw [hfs]; exact hO, hN, hF⟩
  · obtain rfl : k = s.l.length := by have : ¬ (k : Int) < s.l.length := hge; omega
    rw [← hfl] at hI hO
    rw [zf_all] at hI
    exact hj _ _ ⟨hI, hO, hN, hF⟩

end Go.Gx.S
end

section
/- Bridges that are made, and meet. -/
set_option linter.unusedVariables false
set_option linter.unusedSimpArgs false
set_option maxRecDepth 100000
namespace Go.Gx.S
open Go Go.Gx Go.Proofs
variable {K : Value → World → Prop} {w : World} {sp mb : Nat} {bs : List Nat} {pv fv : Value} {s : Sp}

/-! ### Lists are the same -/

theorem sameints_spec {a b : Value} {l r : List Int} (ha : RdE 1 w a (l.map cellI)) (hb : RdE 1 w b (r.map cellI)) (hn : l.length < 2 ^ 62) (h : ∀ w', Fr none_ w w' → K (.bool (decide (l = r))) w') : CallsR Tryz.prog 9 #[a, b] K w := by
  apply c9
  unfold p9
  obtain ⟨aa, ac, rfl⟩ := ha.form
  obtain ⟨ba, bc, rfl⟩ := hb.form
  rw [List.length_map] at ha hb ⊢
  rw [List.length_map]
  simp only [push_cast, Nat.reduceAdd, Nat.reduceLeDiff, Nat.reduceLT, Int.reduceToNat, Nat.left_eq_add, Nat.add_eq_left, Nat.add_left_cancel_iff, Nat.reduceEqDiff, Nat.add_assoc, Nat.succ_ne_zero]
  refine br_intro (fun hne => ?_) fun heq => ?_
  · have : l ≠ r := fun e => by subst e; simp at hne
    rw [decide_eq_false this] at h
    exact h _ (Fr.refl _ _)
  · have hl : l.length = r.length := by
      have : (l.length : Int) = r.length := by simpa using heq
      omega
    refine jn0 (fun w' => Fr none_ w w' ∧ l = r) (fun w' ⟨hF, e⟩ => ?_) fun j hj => ?_
    · rw [decide_eq_true e] at h
      exact h _ hF
    refine loop1 (fun m v w' => ∃ i : Nat, v = i64 i ∧ i + m = l.length ∧ Fr none_ w w' ∧ l.take i = r.take i) ?_ l.length ⟨0, rfl, by omega, Fr.refl _ _, rfl⟩
    rintro m v w' X ⟨i, rfl, hi, hF, htk⟩ hX
    simp only [push_cast, Nat.reduceAdd, Nat.reduceLeDiff, Nat.reduceLT, Int.reduceToNat, Nat.left_eq_add, Nat.add_eq_left, Nat.add_left_cancel_iff, Nat.reduceEqDiff, Nat.add_assoc, Nat.succ_ne_zero]
    refine br_dec (fun hlt => ?_) fun hge => hj _ ⟨hF, ?_⟩
    · have hi2 : i < l.length := by omega
      have ha' : RdE 1 w'.drew _ (l.map cellI) := ha.fr hF.step_drew (fun _ _ h => h)
      have hb' : RdE 1 w'.drew _ (r.map cellI) := hb.fr hF.step_drew (fun _ _ h => h)
      rw [← List.length_map (f := cellI)] at ha'
      rw [← List.length_map (f := cellI)] at hb'
      refine s_iaE (es := l.map cellI) (ha.fr hF.step_drew (fun _ _ h => h)) (by omega) (by simpa using hi2) fun b1 o1 c1 _ hE => ?_
      simp only [Int.toNat_natCast, List.getElem_map] at hE ⊢
      have hE0 := hE.cell0 (show 0 < 1 by decide)
      simp only [push_cast, Nat.reduceAdd, Nat.reduceLeDiff, Nat.reduceLT, Int.reduceToNat, Nat.left_eq_add, Nat.add_eq_left, Nat.add_left_cancel_iff, Nat.reduceEqDiff, Nat.add_assoc, Nat.succ_ne_zero, cellI] at hE0
      simp only [push_cast, Nat.reduceAdd, Nat.reduceLeDiff, Nat.reduceLT, Int.reduceToNat, Nat.left_eq_add, Nat.add_eq_left, Nat.add_left_cancel_iff, Nat.reduceEqDiff, Nat.add_assoc, Nat.succ_ne_zero, hE0]
      refine s_iaE (es := r.map cellI) (hb.fr hF.step_drew (fun _ _ h => h)) (by omega) (by simpa using hl ▸ hi2) fun b2 o2 c2 _ hE2 => ?_
      simp only [Int.toNat_natCast, List.getElem_map] at hE2 ⊢
      have hE3 := hE2.cell0 (show 0 < 1 by decide)
      simp only [push_cast, Nat.reduceAdd, Nat.reduceLeDiff, Nat.reduceLT, Int.reduceToNat, Nat.left_eq_add, Nat.add_eq_left, Nat.add_left_cancel_iff, Nat.reduceEqDiff, Nat.add_assoc, Nat.succ_ne_zero, cellI] at hE3
      simp only [push_cast, Nat.reduceAdd, Nat.reduceLeDiff, Nat.reduceLT, Int.reduceToNat, Nat.left_eq_add, Nat.add_eq_left, Nat.add_left_cancel_iff, Nat.reduceEqDiff, Nat.add_assoc, Nat.succ_ne_zero, hE3]
      have hw : IntKind.i64.wrap ((i : Int) + 1) = ((i + 1 : Nat) : Int) := by rw [wrap_i64 (by omega)]; omega
      refine br_intro (fun hd => ?_) fun hd => ?_
      · have : l ≠ r := fun e => by subst e; simp at hd
        rw [decide_eq_false this] at h
        exact h _ hF.step_drew
      · have he : l[i] = r[i] := by simpa using hd
        simp only [push_cast, Nat.reduceAdd, Nat.reduceLeDiff, Nat.reduceLT, Int.reduceToNat, Nat.left_eq_add, Nat.add_eq_left, Nat.add_left_cancel_iff, Nat.reduceEqDiff, Nat.add_assoc, Nat.succ_ne_zero, hw]
        refine hX (m - 1) _ _ (by omega) ⟨i + 1, rfl, by omega, hF.step_drew, ?_⟩
        rw [List.take_add_one, List.take_add_one, htk, List.getElem?_eq_getElem hi2, List.getElem?_eq_getElem (hl ▸ hi2), he]
    · rw [List.take_of_length_le (by omega), List.take_of_length_le (by omega)] at htk
      exact htk

theorem ctSpk : Tryz.prog.cellsOf 80 = 23 := by kernel_rfl
theorem spk_enc {d : Nat} {x : Spk} (h : x.ok) : Tryz.prog.keyLits (d + 5) 80 x.cells = some x.lits := by
  refine kl_struct_mk (ls := [[_], x.b.lits]) Tryz.underlying80 (by simp) (by rw [ctSpk]; rfl) ?_
  simp only [List.mapM_cons, List.mapM_nil, ctInt, ctBpd, Spk.cells, bind, Option.bind_eq_some_iff, pure, Option.some.injEq, List.drop_succ_cons, List.drop_zero, List.take_succ_cons, List.take_zero]
  exact ⟨_, kl_int_mk uInt h.1, _, ⟨_, bpd_enc h.2, _, rfl, rfl⟩, rfl⟩
theorem s_neSpk {x y : Spk} (hx : x.ok) (hy : y.ok) (h : K (.bool (!decide (x = y))) w) : opS Tryz.prog (S.binG .neq 80 (.agg x.cells.toArray) (.agg y.cells.toArray)) K w :=
  s_neqG (spk_enc (d := 3) hx) (spk_enc (d := 3) hy) fun q hq => by
    rw [Spk.lits_inj] at hq
    have : q = decide (x = y) := by rw [Bool.eq_iff_iff, hq, decide_eq_true_iff]
    rw [this]; exact h

theorem same_spec {a b : Value} {l r : List Spk} (ha : RdE 23 w a (l.map Spk.cells)) (hb : RdE 23 w b (r.map Spk.cells)) (hlo : ∀ x ∈ l, x.ok) (hro : ∀ x ∈ r, x.ok) (hn : l.length < 2 ^ 62) (h : ∀ w', Fr none_ w w' → K (.bool (decide (l = r))) w') : CallsR Tryz.prog 24 #[a, b] K w := by
  apply c24
  unfold p24
  obtain ⟨aa, ac, rfl⟩ := ha.form
  obtain ⟨ba, bc, rfl⟩ := hb.form
  rw [List.length_map] at ha hb ⊢
  rw [List.length_map]
  simp only [push_cast, Nat.reduceAdd, Nat.reduceLeDiff, Nat.reduceLT, Int.reduceToNat, Nat.left_eq_add, Nat.add_eq_left, Nat.add_left_cancel_iff, Nat.reduceEqDiff, Nat.add_assoc, Nat.succ_ne_zero]
  refine br_intro (fun hne => ?_) fun heq => ?_
  · have : l ≠ r := fun e => by subst e; simp at hne
    rw [decide_eq_false this] at h
    exact h _ (Fr.refl _ _)
  · have hl : l.length = r.length := by
      have : (l.length : Int) = r.length := by simpa using heq
      omega
    refine jn0 (fun w' => Fr none_ w w' ∧ l = r) (fun w' ⟨hF, e⟩ => ?_) fun j hj => ?_
    · rw [decide_eq_true e] at h
      exact h _ hF
    refine loop1 (fun m v w' => ∃ i : Nat, v = i64 i ∧ i + m = l.length ∧ Fr none_ w w' ∧ l.take i = r.take i) ?_ l.length ⟨0, rfl, by omega, Fr.refl _ _, rfl⟩
    rintro m v w' X ⟨i, rfl, hi, hF, htk⟩ hX
    simp only [push_cast, Nat.reduceAdd, Nat.reduceLeDiff, Nat.reduceLT, Int.reduceToNat, Nat.left_eq_add, Nat.add_eq_left, Nat.add_left_cancel_iff, Nat.reduceEqDiff, Nat.add_assoc, Nat.succ_ne_zero]
    refine br_dec (fun hlt => ?_) fun hge => hj _ ⟨hF, ?_⟩
    · have hi2 : i < l.length := by omega
      have hi3 : i < r.length := by omega
      refine s_iaE (es := l.map Spk.cells) (ha.fr hF.step_drew (fun _ _ h => h)) (by omega) (by simpa using hi2) fun b1 o1 c1 _ hE => ?_
      simp only [Int.toNat_natCast, List.getElem_map] at hE ⊢
      have h23 : aggAt w'.heap[b1]? (o1 + i * 23) 23 = some (.agg l[i].cells.toArray) := hE.agg0 (Spk.len _)
      simp only [push_cast, Nat.reduceAdd, Nat.reduceLeDiff, Nat.reduceLT, Int.reduceToNat, Nat.left_eq_add, Nat.add_eq_left, Nat.add_left_cancel_iff, Nat.reduceEqDiff, Nat.add_assoc, Nat.succ_ne_zero, h23]
      refine s_iaE (es := r.map Spk.cells) (hb.fr hF.step_drew (fun _ _ h => h)) (by omega) (by simpa using hi3) fun b2 o2 c2 _ hE2 => ?_
      simp only [Int.toNat_natCast, List.getElem_map] at hE2 ⊢
      have h24 : aggAt w'.heap[b2]? (o2 + i * 23) 23 = some (.agg r[i].cells.toArray) := hE2.agg0 (Spk.len _)
      simp only [push_cast, Nat.reduceAdd, Nat.reduceLeDiff, Nat.reduceLT, Int.reduceToNat, Nat.left_eq_add, Nat.add_eq_left, Nat.add_left_cancel_iff, Nat.reduceEqDiff, Nat.add_assoc, Nat.succ_ne_zero, h24]
      have hw : IntKind.i64.wrap ((i : Int) + 1) = ((i + 1 : Nat) : Int) := by rw [wrap_i64 (by omega)]; rfl
      refine s_neSpk (hlo _ (List.getElem_mem hi2)) (hro _ (List.getElem_mem hi3)) ?_
      simp only [push_cast, Nat.reduceAdd, Nat.reduceLeDiff, Nat.reduceLT, Int.reduceToNat, Nat.left_eq_add, Nat.add_eq_left, Nat.add_left_cancel_iff, Nat.reduceEqDiff, Nat.add_assoc, Nat.succ_ne_zero]
      refine br_intro (fun hd => ?_) fun hd => ?_
      · have : l ≠ r := fun e => by subst e; simp at hd
        rw [decide_eq_false this] at h
        exact h _ hF.step_drew
      · have he : l[i] = r[i] := by simpa using hd
        simp only [push_cast, Nat.reduceAdd, Nat.reduceLeDiff, Nat.reduceLT, Int.reduceToNat, Nat.left_eq_add, Nat.add_eq_left, Nat.add_left_cancel_iff, Nat.reduceEqDiff, Nat.add_assoc, Nat.succ_ne_zero, hw]
        refine hX (m - 1) _ _ (by omega) ⟨i + 1, rfl, by omega, hF.step_drew, ?_⟩
        rw [List.take_add_one, List.take_add_one, htk, List.getElem?_eq_getElem hi2, List.getElem?_eq_getElem hi3, he]
    · rw [List.take_of_length_le (by omega), List.take_of_length_le (by omega)] at htk
      exact htk

/-! ### What is said is in form -/

theorem wrap_in (x : Int) : isI (IntKind.i64.wrap x) := isI_iff.2 (by
  unfold IntKind.wrap
  have e1 : (2 : Int) ^ IntKind.i64.bits = 18446744073709551616 := rfl
  have e2 : (2 : Int) ^ (IntKind.i64.bits - 1) = 9223372036854775808 := rfl
  have e3 : IntKind.i64.signed = true := rfl
  simp only [e1, e2, e3, Bool.true_and, decide_eq_true_eq]
  split <;> omega)
theorem putI_ok {f : Int} (h : isI f) (is : Bool) (b : Int) : isI (putI f is b) := by
  unfold putI
  split
  · exact wrap_in _
  · exact h
theorem baseF_ok (p : Prt) (due tells : Bool) : isI (baseF p due tells) := by
  unfold baseF
  split
  · exact putI_ok (putI_ok isI0 _ _) _ _
  · exact putI_ok (putI_ok (putI_ok isI0 _ _) _ _) _ _
theorem flagsF_ok (p : Prt) (due tells : Bool) : isI (flagsF p due tells) := by
  unfold flagsF
  split
  · exact isI0
  · exact putI_ok (putI_ok (putI_ok (baseF_ok p due tells) _ _) _ _) _ _
theorem rootAge_in (h : s.wf) : 0 ≤ s.rootAge ∧ s.rootAge ≤ 65535 := by
  unfold Sp.rootAge ageK
  cases hf : (s.l.take s.l.length).find? isRoot with
  | none => exact ⟨Int.le_refl 0, by show (0 : Int) ≤ 65535; omega⟩
  | some p =>
    have hm := List.mem_of_find?_eq_some hf
    rw [List.take_length] at hm
    have := (h.rl p hm).age
    show 0 ≤ min (p.age + 1) 65535 ∧ min (p.age + 1) 65535 ≤ 65535
    omega
theorem sayB_ok (h : s.wf) {k : Nat} (hk : k < 2 ^ 20) {f : Int} (hf : isI f) : (sayB s k f).ok := by
  have h1 := rootAge_in h
  have h2 : isI ((k : Int) + 1) := isI_iff.2 (by omega)
  exact ⟨h2, isI2, hf, h.best.1, h.best.2.1, h.me, h2, isI_iff.2 (by show _ ≤ s.rootAge ∧ s.rootAge ≤ _; omega), isI_iff.2 (by show (_ : Int) ≤ 20 ∧ (20 : Int) ≤ _; omega), isI2, isI_iff.2 (by show (_ : Int) ≤ 15 ∧ (15 : Int) ≤ _; omega)⟩
theorem sayK_ok (h : s.wf) (due : Bool) (now : Int) : ∀ k, k ≤ s.l.length → ∀ x ∈ (s.sayK due now k).2, x.ok
  | 0, _ => fun x hx => by cases hx
  | k + 1, hk => fun x hx => by
    have ih := sayK_ok h due now k (by omega)
    have h64 := h.n64
    obtain ⟨p, hp⟩ : ∃ p, (s.sayK due now k).1.l[k]? = some p := ⟨_, List.getElem?_eq_getElem (by rw [sayK_len]; omega)⟩
    rw [sayK_succ hp] at hx
    unfold sayN at hx
    split at hx
    · exact ih x hx
    · rcases List.mem_append.1 hx with hx | hx
      · exact ih x hx
      · simp only [List.mem_singleton] at hx
        rw [hx]
        exact sayB_ok (h.sayK due now k) (by omega) (flagsF_ok _ _ _)
theorem tick_ok (h : s.wf) {now : Int} (hn : momB now) : ∀ x ∈ (s.tickP now).2, x.ok :=
  sayK_ok ((h.tick3 hn).dueS hn) _ now _ (by rw [dueS_l, tick3_len]; exact Nat.le_refl _)
theorem sayK_n (s : Sp) (due : Bool) (now : Int) : ∀ k, (s.sayK due now k).2.length ≤ k
  | 0 => Nat.le_refl _
  | k + 1 => by
    have ih := sayK_n s due now k
    show (match (s.sayK due now k).1.l[k]? with
      | none => s.sayK due now k
      | some p => sayN (s.sayK due now k) k p ((s.sayK due now k).1.says p due now)).2.length ≤ k + 1
    split
    · omega
    · unfold sayN
      split
      · omega
      · simp; omega
theorem tick_n (s : Sp) (now : Int) : (s.tickP now).2.length ≤ s.l.length := sayK_n _ _ _ _

/-! ### Two meet -/

def takeAll (s : Sp) (now : Int) : List Spk → Sp
  | [] => s
  | x :: l => takeAll (s.take x.port x.b now).1 now l
def meetR (t : Sp × Sp) (now : Int) : Sp × Sp := (takeAll (t.1.tickP now).1 now (t.2.tickP now).2, takeAll (t.2.tickP now).1 now (t.1.tickP now).2)
def meetK (t : Sp × Sp) : Nat → Sp × Sp
  | 0 => t
  | k + 1 => meetR (meetK t k) k
theorem takeAll_app (s : Sp) (now : Int) (l : List Spk) (x : Spk) : takeAll s now (l ++ [x]) = ((takeAll s now l).take x.port x.b now).1 := by
  induction l generalizing s with
  | nil => rfl
  | cons y l ih => exact ih _
theorem Sp.wf.takeAll (h : s.wf) (now : Int) {l : List Spk} (hl : ∀ x ∈ l, x.ok) : (takeAll s now l).wf := by
  induction l generalizing s with
  | nil => exact h
  | cons y l ih => exact ih (h.take _ (hl y (List.mem_cons_self ..)).2 now) fun x hx => hl x (List.mem_cons_of_mem _ hx)
theorem Sp.wf.meetK {t : Sp × Sp} (h1 : t.1.wf) (h2 : t.2.wf) : ∀ k, k ≤ 1000 → (meetK t k).1.wf ∧ (meetK t k).2.wf
  | 0, _ => ⟨h1, h2⟩
  | k + 1, hk => by
    obtain ⟨g1, g2⟩ := Sp.wf.meetK h1 h2 k (by omega)
    have hn : momB (k : Int) := by unfold momB; omega
    exact ⟨(g1.tickP hn).takeAll k (tick_ok g2 hn), (g2.tickP hn).takeAll k (tick_ok g1 hn)⟩

/-- nothing of one is the other's -/
structure Sep (spA : Nat) (bsA : List Nat) (pvA : Value) (mbA : Nat) (spB : Nat) (bsB : List Nat) (pvB : Value) (mbB : Nat) : Prop where
  ab : ∀ c, fC spA bsA mbA c → ¬ fC spB bsB mbB c
  pa : ∀ c, blkS pvA = some c → ¬ fC spB bsB mbB c
  pb : ∀ c, blkS pvB = some c → ¬ fC spA bsA mbA c

section
variable {spA mbA spB mbB : Nat} {bsA bsB : List Nat} {pvA pvB : Value} {a b : Sp}
theorem Sep.symm (h : Sep spA bsA pvA mbA spB bsB pvB mbB) : Sep spB bsB pvB mbB spA bsA pvA mbA := ⟨fun c h1 h2 => h.ab c h2 h1, h.pb, h.pa⟩
theorem Sep.frA (h : Sep spA bsA pvA mbA spB bsB pvB mbB) {w' : World} (hA : CS w spA bsA pvA mbA a) (hF : Fr (fC spB bsB mbB) w w') : CS w' spA bsA pvA mbA a := hA.fr hF h.ab h.pa

/-- all that was said is taken -/
theorem takes_spec {v : Value} {l : List Spk} {now : Int} (h : CS w sp bs pv mb s) (hw : s.wf) (hv : RdE 23 w v (l.map Spk.cells)) (hl : ∀ x ∈ l, x.ok) (hl2 : l.length ≤ 2 ^ 20) (hd : ∀ c, blkS v = some c → ¬ fC sp bs mb c) {j : World → Prop}
    (hj : ∀ w', CS w' sp bs pv mb (takeAll s now l) → Fr (fC sp bs mb) w w' → j w') :
    loopJ 1 (fun j4 x15 => opS Tryz.prog (S.len v) fun x16 => opS Tryz.prog (S.binI .lss x15 x16) fun x17 => brn x17 (drw <| opS Tryz.prog (S.ia 72 v x15) fun x18 => opS Tryz.prog (S.fa 80 x18 0) fun x19 => opS Tryz.prog (S.ld 3 x19) fun x20 =>
      opS Tryz.prog (S.ia 72 v x15) fun x21 => opS Tryz.prog (S.fa 80 x21 1) fun x22 => opS Tryz.prog (S.ld 38 x22) fun x23 => opS Tryz.prog (S.cl 20 [pt sp 0, x20, x23, i64 now]) fun _ => opS Tryz.prog (S.binI .add x15 (.int .i64 1)) fun x25 => j4 x25) j) (.int .i64 0) w := by
  obtain ⟨va, vc, rfl⟩ := hv.form
  rw [List.length_map] at hv hd ⊢
  refine loop1 (fun n u W => ∃ i : Nat, u = i64 i ∧ i + n = l.length ∧ CS W sp bs pv mb (takeAll s now (l.take i)) ∧ Fr (fC sp bs mb) w W) ?_ l.length ⟨0, rfl, by omega, h, Fr.refl _ _⟩
  rintro n u W X ⟨i, rfl, hi, hI, hF⟩ hX
  simp only [push_cast, Nat.reduceAdd, Nat.reduceLeDiff, Nat.reduceLT, Int.reduceToNat, Nat.left_eq_add, Nat.add_eq_left, Nat.add_left_cancel_iff, Nat.reduceEqDiff, Nat.add_assoc, Nat.succ_ne_zero]
  refine br_dec (fun hlt => ?_) fun hge => ?_
  · have hil : i < l.length := by omega
    have hw1 : IntKind.i64.wrap ((i : Int) + 1) = ((i + 1 : Nat) : Int) := by rw [wrap_i64 (by omega)]; rfl
    have hvd : RdE 23 W.drew _ (l.map Spk.cells) := hv.fr (hF.trans (Fr.drew W)) hd
    refine s_iaE (es := l.map Spk.cells) hvd (by omega) (by simpa using hil) fun b1 o1 c1 _ hE => ?_
    simp only [Int.toNat_natCast, List.getElem_map] at hE ⊢
    have h1 : cellAt W.heap[b1]? (o1 + i * 23) = some (i64 l[i].port) := hE.cell0 (by rw [Spk.len]; decide)
    have h2 : aggAt W.heap[b1]? (o1 + i * 23 + 1) 22 = some (.agg l[i].b.cells.toArray) := by
      have := hE.agg 1 22 (by rw [Spk.len]; decide)
      rw [Spk.d_b] at this
      exact this
    have h2' : aggAt W.heap[b1]? (o1 + (i * 23 + 1)) 22 = some (.agg l[i].b.cells.toArray) := by rw [← Nat.add_assoc]; exact h2
    simp only [push_cast, Nat.reduceAdd, Nat.reduceLeDiff, Nat.reduceLT, Int.reduceToNat, Nat.left_eq_add, Nat.add_eq_left, Nat.add_left_cancel_iff, Nat.reduceEqDiff, Nat.add_assoc, Nat.succ_ne_zero, h1]
    refine s_iaE (es := l.map Spk.cells) hvd (by omega) (by simpa using hil) fun b2 o2 c2 _ hE2 => ?_
    simp only [Int.toNat_natCast, List.getElem_map] at hE2 ⊢
    have h3 : aggAt W.heap[b2]? (o2 + (i * 23 + 1)) 22 = some (.agg l[i].b.cells.toArray) := by
      have := hE2.agg 1 22 (by rw [Spk.len]; decide)
      rw [Spk.d_b, Nat.add_assoc] at this
      exact this
    simp only [push_cast, Nat.reduceAdd, Nat.reduceLeDiff, Nat.reduceLT, Int.reduceToNat, Nat.left_eq_add, Nat.add_eq_left, Nat.add_left_cancel_iff, Nat.reduceEqDiff, Nat.add_assoc, Nat.succ_ne_zero, h3]
    have hwI := hw.takeAll now (l := l.take i) fun x hx => hl x (List.mem_of_mem_take hx)
    refine take_spec (hI.fr0 (Fr.drew W)) hwI (hl _ (List.getElem_mem hil)).2 fun W2 h2 f2 => ?_
    simp only [push_cast, Nat.reduceAdd, Nat.reduceLeDiff, Nat.reduceLT, Int.reduceToNat, Nat.left_eq_add, Nat.add_eq_left, Nat.add_left_cancel_iff, Nat.reduceEqDiff, Nat.add_assoc, Nat.succ_ne_zero, hw1]
    refine hX (l.length - (i + 1)) _ _ (by omega) ⟨i + 1, rfl, by omega, ?_, (hF.trans (Fr.drew W)).trans f2⟩
    rw [List.take_add_one, List.getElem?_eq_getElem hil]
    show CS W2 sp bs pv mb (takeAll s now (l.take i ++ [l[i]]))
    rw [takeAll_app]
    exact h2
  · rw [List.take_of_length_le (by omega)] at hI
    exact hj _ hI hF

theorem meet_spec {n : Int} (hA : CS w spA bsA pvA mbA a) (hB : CS w spB bsB pvB mbB b) (ha : a.wf) (hb : b.wf) (hs : Sep spA bsA pvA mbA spB bsB pvB mbB) (hn0 : 0 ≤ n) (hn : n ≤ 1000)
    (hk : ∀ w', CS w' spA bsA pvA mbA (meetK (a, b) n.toNat).1 → CS w' spB bsB pvB mbB (meetK (a, b) n.toNat).2 → Fr (fun c => fC spA bsA mbA c ∨ fC spB bsB mbB c) w w' → K (.bool true) w') :
    CallsR Tryz.prog 17 #[pt spA 0, pt spB 0, i64 0, i64 n] K w := by
  apply c17
  unfold p17
  refine jn0 (fun W => CS W spA bsA pvA mbA (meetK (a, b) n.toNat).1 ∧ CS W spB bsB pvB mbB (meetK (a, b) n.toNat).2 ∧ Fr (fun c => fC spA bsA mbA c ∨ fC spB bsB mbB c) w W) (fun W ⟨h1, h2, h3⟩ => hk W h1 h2 h3) fun j hj => ?_
  refine loop1 (fun m u W => ∃ k : Nat, k ≤ n.toNat ∧ m = n.toNat - k ∧ u = i64 k ∧ CS W spA bsA pvA mbA (meetK (a, b) k).1 ∧ CS W spB bsB pvB mbB (meetK (a, b) k).2 ∧ Fr (fun c => fC spA bsA mbA c ∨ fC spB bsB mbB c) w W) ?_ n.toNat ⟨0, by omega, rfl, rfl, hA, hB, Fr.refl _ _⟩
  rintro m u W X ⟨k, hk2, rfl, rfl, hA, hB, hF⟩ hX
  have hw0 : IntKind.i64.wrap (0 + n) = n := by rw [wrap_i64 (by omega)]; omega
  simp only [push_cast, Nat.reduceAdd, Nat.reduceLeDiff, Nat.reduceLT, Int.reduceToNat, Nat.left_eq_add, Nat.add_eq_left, Nat.add_left_cancel_iff, Nat.reduceEqDiff, Nat.add_assoc, Nat.succ_ne_zero, hw0]
  refine br_dec (fun hlt => ?_) fun hge => ?_
  · have hkn : k < n.toNat := by omega
    have hmn : momB (k : Int) := by unfold momB; omega
    obtain ⟨wa, wb⟩ := Sp.wf.meetK (t := (a, b)) ha hb k (by omega)
    have hsucc : meetK (a, b) (k + 1) = meetR (meetK (a, b) k) k := rfl
    have hla := wa.n64
    have hlb := wb.n64
    generalize meetK (a, b) k = T at *
    refine jn0 (fun W => CS W spA bsA pvA mbA (meetK (a, b) (k + 1)).1 ∧ CS W spB bsB pvB mbB (meetK (a, b) (k + 1)).2 ∧ Fr (fun c => fC spA bsA mbA c ∨ fC spB bsB mbB c) w W) ?_ fun j1 hj1 => ?_
    · rintro W ⟨h1, h2, h3⟩
      have hwk : IntKind.i64.wrap ((k : Int) + 1) = ((k + 1 : Nat) : Int) := by rw [wrap_i64 (by omega)]; rfl
      simp only [push_cast, Nat.reduceAdd, Nat.reduceLeDiff, Nat.reduceLT, Int.reduceToNat, Nat.left_eq_add, Nat.add_eq_left, Nat.add_left_cancel_iff, Nat.reduceEqDiff, Nat.add_assoc, Nat.succ_ne_zero, hwk]
      exact hX (n.toNat - (k + 1)) _ _ (by omega) ⟨k + 1, by omega, rfl, rfl, h1, h2, h3⟩
    · refine tick_spec hA wa (fun e => absurd hmn e) fun x W1 _ hA1 hx1 nx1 f1 => ?_
      simp only [push_cast, Nat.reduceAdd, Nat.reduceLeDiff, Nat.reduceLT, Int.reduceToNat, Nat.left_eq_add, Nat.add_eq_left, Nat.add_left_cancel_iff, Nat.reduceEqDiff, Nat.add_assoc, Nat.succ_ne_zero]
      have hB1 : CS W1 spB bsB pvB mbB T.2 := hs.symm.frA hB f1
      refine tick_spec hB1 wb (fun e => absurd hmn e) fun y W2 _ hB2 hy2 ny2 f2 => ?_
      have hA2 : CS W2 spA bsA pvA mbA (T.1.tickP k).1 := hs.frA hA1 f2
      have hs1 := f1.size
      have hs2 := f2.size
      have hx2 := hx1.fr f2 fun c hc e => by
        have := nx1 c hc
        have := hB.lt c e
        omega
      have hxl : ∀ c, blkS x = some c → W.heap.size ≤ c := nx1
      have hyl : ∀ c, blkS y = some c → W.heap.size ≤ c := fun c hc => by have := ny2 c hc; omega
      have hF2 : Fr (fun c => fC spA bsA mbA c ∨ fC spB bsB mbB c) w W2 := (hF.trans (f1.mono fun _ _ h => .inl h)).trans (f2.mono fun _ _ h => .inr h)
      have oa := tick_ok wa hmn
      have ob := tick_ok wb hmn
      have na := tick_n T.1 k
      have nb := tick_n T.2 k
      have wta := wa.tickP hmn
      have wtb := wb.tickP hmn
      refine jn0 (fun W3 => CS W3 spA bsA pvA mbA (T.1.tickP k).1 ∧ CS W3 spB bsB pvB mbB (takeAll (T.2.tickP k).1 k (T.1.tickP k).2) ∧ RdE 23 W3 y ((T.2.tickP k).2.map Spk.cells) ∧ Fr (fun c => fC spA bsA mbA c ∨ fC spB bsB mbB c) w W3) ?_ fun j3 hj3 => ?_
      · rintro W3 ⟨hA3, hB3, hy3, hF3⟩
        rw [jn_0]
        refine takes_spec hA3 wta hy3 ob (by omega) (fun c hc e => ?_) fun W4 h4 f4 => hj1 _ ⟨?_, ?_, hF3.trans (f4.mono fun _ _ h => .inl h)⟩
        · have := hyl c hc
          have := hA.lt c e
          omega
        · rw [hsucc]; exact h4
        · rw [hsucc]; exact hs.symm.frA hB3 f4
      · refine takes_spec hB2 wtb hx2.rd oa (by omega) (fun c hc e => ?_) fun W4 h4 f4 => hj3 _ ⟨hs.frA hA2 f4, h4, (hy2.fr f4 fun c hc e => ?_).rd, hF2.trans (f4.mono fun _ _ h => .inr h)⟩
        · have := hxl c hc
          have := hB.lt c e
          omega
        · have := hyl c hc
          have := hB.lt c e
          omega
  · obtain rfl : k = n.toNat := by omega
    exact hj _ ⟨hA, hB, hF⟩
end

/-! ### One is made -/

def idn (n : Int) : Idn := ⟨32768, ⟨2, 0, 0, 0, 0, IntKind.u8.wrap n⟩⟩
theorem isB_2 : isB 2 := by unfold isB; omega
theorem isB_0 : isB 0 := by unfold isB; omega
theorem idn_ok (n : Int) : (idn n).ok := by
  have h : isB (IntKind.u8.wrap n) := by rw [wrap_u8]; unfold isB; omega
  exact ⟨isI_iff.2 (by show (_ : Int) ≤ 32768 ∧ (32768 : Int) ≤ _; omega), isB_2, isB_0, isB_0, isB_0, isB_0, h⟩
theorem build_mac {n : Int} : opS Tryz.prog (S.build 23 [(0, .int .u8 2), (1, .int .u8 0), (2, .int .u8 0), (3, .int .u8 0), (4, .int .u8 0), (5, .int .u8 n)]) K w = K (.agg (Mac.cells ⟨2, 0, 0, 0, 0, n⟩).toArray) w := by
  rw [opS_build _ rfl]; rfl
theorem build_id {p : Int} {m : Mac} : opS Tryz.prog (S.build 25 [(0, .int .i64 p), (1, .agg m.cells.toArray)]) K w = K (.agg (Idn.cells ⟨p, m⟩).toArray) w := by
  rw [opS_build _ rfl]; rfl
theorem id_spec {n : Int} (hk : ∀ w', Fr none_ w w' → K (.agg (idn n).cells.toArray) w') : CallsR Tryz.prog 16 #[i64 n] K w := by
  apply c16
  unfold p16
  simp only [push_cast, Nat.reduceAdd, Nat.reduceLeDiff, Nat.reduceLT, Int.reduceToNat, Nat.left_eq_add, Nat.add_eq_left, Nat.add_left_cancel_iff, Nat.reduceEqDiff, Nat.add_assoc, Nat.succ_ne_zero]
  rw [build_mac, build_id]
  have hz : splice [Value.int .i64 0, .int .u8 0, .int .u8 0, .int .u8 0, .int .u8 0, .int .u8 0, .int .u8 0] 0 (idn n).cells = (idn n).cells := id rfl
  have hi : (⟨32768, ⟨2, 0, 0, 0, 0, IntKind.u8.wrap n⟩⟩ : Idn) = idn n := rfl
  rw [hi]
  simp only [push_cast, Nat.reduceAdd, Nat.reduceLeDiff, Nat.reduceLT, Int.reduceToNat, Nat.left_eq_add, Nat.add_eq_left, Nat.add_left_cancel_iff, Nat.reduceEqDiff, Nat.add_assoc, Nat.succ_ne_zero, hz]
  exact hk _ (by repeat' first | with_reducible exact Fr.refl _ _ | with_reducible refine Fr.step_alloc ?_ ?_ | with_reducible refine Fr.step_drew ?_ | with_reducible refine Fr.step_wr ?_ ?_ _ _ | exact rfl | exact Or.inr (by omega) | exact Or.inl rfl | exact Or.inl (Or.inl rfl) | exact Or.inl (Or.inr rfl))

/-- its ports come up -/
def Sp.upAt (s : Sp) (i : Nat) (up edge : Bool) (now : Int) : Sp := s.onP i fun p => (s.setP i (upQ p up edge)).reckon now
def madeK (s : Sp) : Nat → Sp
  | 0 => s
  | k + 1 => (madeK s k).upAt k true false 0
theorem upAt_len (s : Sp) (i : Nat) (up edge : Bool) (now : Int) : (s.upAt i up edge now).l.length = s.l.length := by
  unfold Sp.upAt Sp.onP
  split
  · rw [reckon_len, setP_len]
  · rfl
theorem Sp.wf.upAt (h : s.wf) (i : Nat) (up edge : Bool) {now : Int} (hn : momB now) : (s.upAt i up edge now).wf := by
  unfold Sp.upAt Sp.onP
  split
  · rename_i p hp
    exact (h.setP (q := upQ p up edge) hp ⟨rfl, rfl⟩ (upQ_ok (h.l p (List.mem_of_getElem? hp)) _ _)).reckon hn
  · exact h
theorem madeK_len (s : Sp) : ∀ k, (madeK s k).l.length = s.l.length
  | 0 => rfl
  | k + 1 => by
    show ((madeK s k).upAt k true false 0).l.length = _
    rw [upAt_len, madeK_len s k]
theorem mom0 : momB 0 := by unfold momB; omega
theorem Sp.wf.madeK (h : s.wf) : ∀ k, (madeK s k).wf
  | 0 => h
  | k + 1 => (Sp.wf.madeK h k).upAt k true false mom0
def madeS (me : Idn) (costs : List Int) : Sp := madeK (newS me costs) costs.length

theorem made_spec {me : Idn} {costs : List Int} {cv : Value} (hm : me.ok) (hc : RdE 1 w cv (costs.map cellI)) (hci : ∀ c ∈ costs, isI c) (hl : costs.length ≤ 2 ^ 20)
    (h0 : newB me costs = false → ∀ w', Fr none_ w w' → K (.tuple #[.pointer none, .bool false]) w')
    (h1 : newB me costs = true → ∀ sp bs pv mb w', CS w' sp bs pv mb (madeS me costs) → (∀ b, fC sp bs mb b → w.heap.size ≤ b) → (∀ b, blkS pv = some b → w.heap.size ≤ b) → Fr none_ w w' → K (.tuple #[pt sp 0, .bool true]) w') :
    CallsR Tryz.prog 15 #[.agg me.cells.toArray, cv] K w := by
  apply c15
  unfold p15
  have elen : ∀ (R : Value → World → Prop) W, opS Tryz.prog (S.len cv) R W = R (i64 costs.length) W := fun R W => by
    obtain ⟨a, c, e⟩ := hc.form
    rw [e, List.length_map]; rfl
  simp only [push_cast, Nat.reduceAdd, Nat.reduceLeDiff, Nat.reduceLT, Int.reduceToNat, Nat.left_eq_add, Nat.add_eq_left, Nat.add_left_cancel_iff, Nat.reduceEqDiff, Nat.add_assoc, Nat.succ_ne_zero]
  have hF0 : Fr none_ w (w.alloc (cellsO me.cells 25)) := (by repeat' first | with_reducible exact Fr.refl _ _ | with_reducible refine Fr.step_alloc ?_ ?_ | with_reducible refine Fr.step_drew ?_ | with_reducible refine Fr.step_wr ?_ ?_ _ _ | exact rfl | exact Or.inr (by omega) | exact Or.inl rfl | exact Or.inl (Or.inl rfl) | exact Or.inl (Or.inr rfl))
  refine new_spec hm (hc.fr hF0 fun _ _ h => h) hci hl (fun e W hF => ?_) fun e sp bs pv mb W hC hb hp hF => ?_
  · simp only [push_cast, Nat.reduceAdd, Nat.reduceLeDiff, Nat.reduceLT, Int.reduceToNat, Nat.left_eq_add, Nat.add_eq_left, Nat.add_left_cancel_iff, Nat.reduceEqDiff, Nat.add_assoc, Nat.succ_ne_zero]
    exact h0 e W (hF0.trans hF)
  · simp only [push_cast, Nat.reduceAdd, Nat.reduceLeDiff, Nat.reduceLT, Int.reduceToNat, Nat.left_eq_add, Nat.add_eq_left, Nat.add_left_cancel_iff, Nat.reduceEqDiff, Nat.add_assoc, Nat.succ_ne_zero]
    have hsz := hF0.size
    have hwf := newS_wf hm e
    have hlS := newS_len me costs
    have hl64 := hwf.n64
    refine jn0 (fun W => CS W sp bs pv mb (madeS me costs) ∧ Fr none_ w W) (fun W ⟨g1, g2⟩ => h1 e sp bs pv mb W g1 (fun b h => by have := hb b h; omega) (fun b h => by have := hp b h; omega) g2) fun j hj => ?_
    refine loop1 (fun m u W => ∃ k : Nat, k ≤ costs.length ∧ m = costs.length - k ∧ u = i64 ((k + 1 : Nat) : Int) ∧ CS W sp bs pv mb (madeK (newS me costs) k) ∧ Fr none_ w W) ?_ costs.length ⟨0, by omega, rfl, rfl, hC, hF0.trans hF⟩
    rintro m u W X ⟨k, hk2, rfl, rfl, hC, hF⟩ hX
    rw [elen]
    simp only [push_cast, Nat.reduceAdd, Nat.reduceLeDiff, Nat.reduceLT, Int.reduceToNat, Nat.left_eq_add, Nat.add_eq_left, Nat.add_left_cancel_iff, Nat.reduceEqDiff, Nat.add_assoc, Nat.succ_ne_zero]
    refine br_dec (fun hlt => ?_) fun hge => ?_
    · have hkl : k < costs.length := by omega
      refine up_spec hC (hwf.madeK k) (fun e => absurd ⟨⟨by omega, by rw [madeK_len, hlS]; omega⟩, mom0⟩ e) fun i p W2 hi hpb hmo hpi h2 f2 => ?_
      have hik : i = k := by omega
      subst hik
      have hwk : IntKind.i64.wrap ((i : Int) + 1 + 1) = ((i + 1 + 1 : Nat) : Int) := by rw [wrap_i64 (by omega)]; rfl
      simp only [push_cast, Nat.reduceAdd, Nat.reduceLeDiff, Nat.reduceLT, Int.reduceToNat, Nat.left_eq_add, Nat.add_eq_left, Nat.add_left_cancel_iff, Nat.reduceEqDiff, Nat.add_assoc, Nat.succ_ne_zero, hwk]
      refine hX (costs.length - (i + 1)) _ _ (by omega) ⟨i + 1, by omega, rfl, rfl, ?_, hF.trans_new f2 fun c hc e => by have := hb c e; omega⟩
      have : madeK (newS me costs) (i + 1) = ((madeK (newS me costs) i).setP i (upQ p true false)).reckon 0 := Sp.onP_eq hpi _
      rw [this]; exact h2
    · obtain rfl : k = costs.length := by omega
      exact hj _ ⟨hC, hF⟩

end Go.Gx.S
end

section
/- A check that bridges do something. -/
set_option linter.unusedVariables false
set_option linter.unusedSimpArgs false
set_option maxRecDepth 100000
namespace Go.Gx.S
open Go Go.Gx Go.Proofs
variable {K : Value → World → Prop} {w : World} {sp mb : Nat} {bs : List Nat} {pv fv : Value} {s : Sp}

def awM : Sp × Sp := meetK (madeS (idn 1) [5], madeS (idn 2) [5]) 3
theorem aw_new (n : Int) : newB (idn n) [5] = true := id rfl
theorem aw_fact : awM.1.statesOf = [2] ∧ awM.2.statesOf = [2] ∧ awM.2.best.root = idn 1 := by decide +kernel

theorem lit5 (h : ∀ v w', OwnE 3 1 w' v ([5].map cellI) → Fr none_ w w' → New w v → K v w') : opS Tryz.prog (S.buildS 26 1 [(0, .int .i64 5)]) K w :=
  s_bs1c (z := .int .i64 0) rfl rfl fun v w' h1 h2 h3 => h v w' h1 h2 h3
theorem lit2 (h : ∀ v w', OwnE 3 1 w' v ([2].map cellI) → Fr none_ w w' → New w v → K v w') : opS Tryz.prog (S.buildS 26 1 [(0, .int .i64 2)]) K w :=
  s_bs1c (z := .int .i64 0) rfl rfl fun v w' h1 h2 h3 => h v w' h1 h2 h3
theorem isI5 : ∀ c ∈ ([5] : List Int), isI c := fun c hc => by
  simp only [List.mem_singleton] at hc
  subst hc
  exact isI_iff.2 (by omega)

theorem fld_root {v : Vec} : opS Tryz.prog (S.fld 44 (.agg v.cells.toArray) 0) K w = K (.agg v.root.cells.toArray) w := by
  rfl

theorem awake_spec (hk : ∀ w', Fr none_ w w' → K (.bool true) w') : CallsR Tryz.prog 5 #[] K w := by
  apply c5
  unfold p5
  obtain ⟨q1, q2, q3⟩ := aw_fact
  simp only [push_cast, Nat.reduceAdd, Nat.reduceLeDiff, Nat.reduceLT, Int.reduceToNat, Nat.left_eq_add, Nat.add_eq_left, Nat.add_left_cancel_iff, Nat.reduceEqDiff, Nat.add_assoc, Nat.succ_ne_zero]
  refine id_spec fun w1 f1 => ?_
  refine lit5 fun v w2 hv f2 nv => ?_
  simp only [push_cast, Nat.reduceAdd, Nat.reduceLeDiff, Nat.reduceLT, Int.reduceToNat, Nat.left_eq_add, Nat.add_eq_left, Nat.add_left_cancel_iff, Nat.reduceEqDiff, Nat.add_assoc, Nat.succ_ne_zero]
  have f12 := f1.trans f2
  refine made_spec (idn_ok 1) hv.rd isI5 (by decide) (fun e => by rw [aw_new] at e; cases e) fun _ spA bsA pvA mbA w3 hA a1 a2 f3 => ?_
  simp only [push_cast, Nat.reduceAdd, Nat.reduceLeDiff, Nat.reduceLT, Int.reduceToNat, Nat.left_eq_add, Nat.add_eq_left, Nat.add_left_cancel_iff, Nat.reduceEqDiff, Nat.add_assoc, Nat.succ_ne_zero]
  refine id_spec fun w4 f4 => ?_
  refine lit5 fun v2 w5 hv2 f5 nv2 => ?_
  simp only [push_cast, Nat.reduceAdd, Nat.reduceLeDiff, Nat.reduceLT, Int.reduceToNat, Nat.left_eq_add, Nat.add_eq_left, Nat.add_left_cancel_iff, Nat.reduceEqDiff, Nat.add_assoc, Nat.succ_ne_zero]
  have f13 := f12.trans f3
  have f45 := f4.trans f5
  have hA5 := hA.fr0 f45
  refine made_spec (idn_ok 2) hv2.rd isI5 (by decide) (fun e => by rw [aw_new] at e; cases e) fun _ spB bsB pvB mbB w6 hB b1 b2 f6 => ?_
  have hA6 := hA5.fr0 f6
  have hwA : (madeS (idn 1) [5]).wf := (newS_wf (idn_ok 1) (aw_new 1)).madeK _
  have hwB : (madeS (idn 2) [5]).wf := (newS_wf (idn_ok 2) (aw_new 2)).madeK _
  have s1 := f12.size
  have s3 := f3.size
  have s45 := f45.size
  have hlA : 0 < (madeS (idn 1) [5]).l.length := by unfold madeS; rw [madeK_len, newS_len]; decide
  have hsep : Sep spA bsA pvA mbA spB bsB pvB mbB := ⟨fun c h1 h2 => by have := hA5.lt c h1; have := b1 c h2; omega, fun c h1 h2 => by have := hA5.ps.pv_lt hlA c h1; have := b1 c h2; omega, fun c h1 h2 => by have := hA5.lt c h2; have := b2 c h1; omega⟩
  simp only [push_cast, Nat.reduceAdd, Nat.reduceLeDiff, Nat.reduceLT, Int.reduceToNat, Nat.left_eq_add, Nat.add_eq_left, Nat.add_left_cancel_iff, Nat.reduceEqDiff, Nat.add_assoc, Nat.succ_ne_zero]
  refine meet_spec (n := 3) hA6 hB hwA hwB hsep (by decide) (by decide) fun w7 hA7 hB7 f7 => ?_
  have hM : meetK (madeS (idn 1) [5], madeS (idn 2) [5]) (3 : Int).toNat = awM := rfl
  rw [hM] at hA7 hB7
  obtain ⟨wA7, wB7⟩ := Sp.wf.meetK (t := (madeS (idn 1) [5], madeS (idn 2) [5])) hwA hwB 3 (by decide)
  have f17 : Fr none_ w w7 := (((f13.trans f45).trans f6)).trans_new f7 fun c hc e => by
    rcases e with e | e
    · have := a1 c e; omega
    · have := b1 c e; omega
  simp only [push_cast, Nat.reduceAdd, Nat.reduceLeDiff, Nat.reduceLT, Int.reduceToNat, Nat.left_eq_add, Nat.add_eq_left, Nat.add_left_cancel_iff, Nat.reduceEqDiff, Nat.add_assoc, Nat.succ_ne_zero]
  refine states_spec hA7 wA7 fun x w8 hx nx f8 => ?_
  refine lit2 fun y w9 hy f9 ny => ?_
  simp only [push_cast, Nat.reduceAdd, Nat.reduceLeDiff, Nat.reduceLT, Int.reduceToNat, Nat.left_eq_add, Nat.add_eq_left, Nat.add_left_cancel_iff, Nat.reduceEqDiff, Nat.add_assoc, Nat.succ_ne_zero]
  have q1 : Sp.statesOf awM.1 = [2] := q1
  rw [q1] at hx
  refine sameints_spec (hx.fr f9 fun _ _ h => h).rd hy.rd (by decide) fun w10 f10 => ?_
  simp only [push_cast, Nat.reduceAdd, Nat.reduceLeDiff, Nat.reduceLT, Int.reduceToNat, Nat.left_eq_add, Nat.add_eq_left, Nat.add_left_cancel_iff, Nat.reduceEqDiff, Nat.add_assoc, Nat.succ_ne_zero]
  have hB10 := ((hB7.fr0 f8).fr0 f9).fr0 f10
  refine states_spec hB10 wB7 fun x w11 hx nx f11 => ?_
  refine lit2 fun y w12 hy f12 ny => ?_
  simp only [push_cast, Nat.reduceAdd, Nat.reduceLeDiff, Nat.reduceLT, Int.reduceToNat, Nat.left_eq_add, Nat.add_eq_left, Nat.add_left_cancel_iff, Nat.reduceEqDiff, Nat.add_assoc, Nat.succ_ne_zero]
  have q2 : Sp.statesOf awM.2 = [2] := q2
  rw [q2] at hx
  refine sameints_spec (hx.fr f12 fun _ _ h => h).rd hy.rd (by decide) fun w13 f13 => ?_
  simp only [push_cast, Nat.reduceAdd, Nat.reduceLeDiff, Nat.reduceLT, Int.reduceToNat, Nat.left_eq_add, Nat.add_eq_left, Nat.add_left_cancel_iff, Nat.reduceEqDiff, Nat.add_assoc, Nat.succ_ne_zero]
  have hB13 := ((hB10.fr0 f11).fr0 f12).fr0 f13
  refine best_spec hB13 fun w14 f14 => ?_
  have q3 : awM.2.best.root = idn 1 := q3
  rw [fld_root, q3]
  simp only [push_cast, Nat.reduceAdd, Nat.reduceLeDiff, Nat.reduceLT, Int.reduceToNat, Nat.left_eq_add, Nat.add_eq_left, Nat.add_left_cancel_iff, Nat.reduceEqDiff, Nat.add_assoc, Nat.succ_ne_zero]
  refine id_spec fun w15 f15 => ?_
  refine s_eqId (idn_ok 1) (idn_ok 1) ?_
  rw [decide_eq_true rfl]
  exact hk _ ((((((((f17.trans f8).trans f9).trans f10).trans f11).trans f12).trans f13).trans f14).trans f15)

end Go.Gx.S
end

section
/- Steps of a bridge. -/
set_option linter.unusedVariables false
set_option linter.unusedSimpArgs false
set_option maxRecDepth 100000
namespace Go.Gx
open Go
structure SStp where
  act : Int
  port : Int
  now : Int
  is : Bool
  edge : Bool
  p : Bpd
def SStp.cells (x : SStp) : List Value := [i64 x.act, i64 x.port, i64 x.now, .bool x.is, .bool x.edge, i64 x.p.kind, i64 x.p.flags, i64 x.p.root.prio, u8 x.p.root.mac.b0, u8 x.p.root.mac.b1, u8 x.p.root.mac.b2, u8 x.p.root.mac.b3, u8 x.p.root.mac.b4, u8 x.p.root.mac.b5, i64 x.p.cost, i64 x.p.br.prio, u8 x.p.br.mac.b0, u8 x.p.br.mac.b1, u8 x.p.br.mac.b2, u8 x.p.br.mac.b3, u8 x.p.br.mac.b4, u8 x.p.br.mac.b5, i64 x.p.port, i64 x.p.age, i64 x.p.maxAge, i64 x.p.hello, i64 x.p.forward]
theorem SStp.len (x : SStp) : x.cells.length = 27 := id rfl
theorem SStp.one (x : SStp) : x.cells.all S.oneCell = true := id rfl
theorem SStp.dw (x : SStp) : (x.cells.drop 0).take 27 = x.cells := id rfl
theorem SStp.g_act (x : SStp) : x.cells[0]? = some (i64 x.act) := id rfl
theorem SStp.g_port (x : SStp) : x.cells[1]? = some (i64 x.port) := id rfl
theorem SStp.g_now (x : SStp) : x.cells[2]? = some (i64 x.now) := id rfl
theorem SStp.g_is (x : SStp) : x.cells[3]? = some (.bool x.is) := id rfl
theorem SStp.g_edge (x : SStp) : x.cells[4]? = some (.bool x.edge) := id rfl
theorem SStp.d_p (x : SStp) : (x.cells.drop 5).take 22 = x.p.cells := id rfl
attribute [push_cast] SStp.len SStp.one SStp.dw SStp.g_act SStp.g_port SStp.g_now SStp.g_is SStp.g_edge SStp.d_p
def SStp.ok (x : SStp) : Prop := isI x.act ∧ isI x.port ∧ isI x.now ∧ x.p.ok
end Go.Gx
namespace Go.Gx.S
open Go Go.Gx Go.Proofs
variable {K : Value → World → Prop} {w : World} {sp mb : Nat} {bs : List Nat} {pv fv : Value} {s : Sp}

/-! ### Plain -/

def Sp.up (s : Sp) (n : Int) (up edge : Bool) (now : Int) : Sp := if portB s n ∧ momB now then s.upAt (n - 1).toNat up edge now else s
def Sp.step (s : Sp) (x : SStp) : Sp :=
  if x.act = 0 then (s.take x.port x.p x.now).1
  else if x.act = 1 then (if momB x.now then (s.tickP x.now).1 else s)
  else if x.act = 2 then s.up x.port x.is x.edge x.now
  else s.flushS
theorem Sp.wf.up (h : s.wf) (n : Int) (up edge : Bool) (now : Int) : (s.up n up edge now).wf := by
  unfold Sp.up
  split
  · rename_i hc
    exact h.upAt _ _ _ hc.2
  · exact h
theorem Sp.wf.step (h : s.wf) {x : SStp} (hx : x.ok) : (s.step x).wf := by
  unfold Sp.step
  split
  · exact h.take _ hx.2.2.2 _
  · split
    · split
      · exact h.tickP (by assumption)
      · exact h
    · split
      · exact h.up _ _ _ _
      · exact h.flushS

/-! ### Up, told anew -/

theorem cup_spec {n now : Int} {up edge : Bool} (h : CS w sp bs pv mb s) (hw : s.wf)
    (hk : ∀ w', CS w' sp bs pv mb (s.up n up edge now) → Fr (fC sp bs mb) w w' → K (i64 (if portB s n ∧ momB now then 0 else 1)) w') :
    CallsR Tryz.prog 25 #[pt sp 0, i64 n, .bool up, .bool edge, i64 now] K w := by
  unfold Sp.up at hk
  refine up_spec h hw (fun e => ?_) fun i p W hi hpb hm hp hC hF => ?_
  · rw [if_neg e, if_neg e] at hk
    exact hk w h (Fr.refl _ _)
  · rw [if_pos ⟨hpb, hm⟩, if_pos ⟨hpb, hm⟩] at hk
    refine hk W ?_ hF
    have e : (n - 1).toNat = i := by omega
    have e2 : s.upAt i up edge now = (s.setP i (upQ p up edge)).reckon now := Sp.onP_eq hp _
    rw [e, e2]; exact hC
theorem crup_spec {n now : Int} {up edge : Bool} (h : RS w sp bs pv fv s) (hw : s.wf)
    (hk : ∀ w', RS w' sp bs pv fv (s.up n up edge now) → Fr (fR sp bs fv) w w' → K (i64 (if portB s n ∧ momB now then 0 else 1)) w') :
    CallsR Tryz.prog 26 #[pt sp 0, i64 n, .bool up, .bool edge, i64 now] K w := by
  unfold Sp.up at hk
  refine rup_spec h hw (fun e => ?_) fun i p W hi hpb hm hp hC hF => ?_
  · rw [if_neg e, if_neg e] at hk
    exact hk w h (Fr.refl _ _)
  · rw [if_pos ⟨hpb, hm⟩, if_pos ⟨hpb, hm⟩] at hk
    refine hk W ?_ hF
    have e : (n - 1).toNat = i := by omega
    have e2 : s.upAt i up edge now = (s.setP i (upQ p up edge)).reckon now := Sp.onP_eq hp _
    rw [e, e2]; exact hC

/-! ### A step at both -/

structure SepR (spA : Nat) (bsA : List Nat) (pvA : Value) (mbA : Nat) (spB : Nat) (bsB : List Nat) (pvB fvB : Value) : Prop where
  ab : ∀ c, fC spA bsA mbA c → ¬ fR spB bsB fvB c
  pa : ∀ c, blkS pvA = some c → ¬ fR spB bsB fvB c
  pb : ∀ c, blkS pvB = some c → ¬ fC spA bsA mbA c

/-- both are one bridge -/
structure Both (w : World) (spA : Nat) (bsA : List Nat) (pvA : Value) (mbA : Nat) (spB : Nat) (bsB : List Nat) (pvB fvB : Value) (s : Sp) : Prop where
  c : CS w spA bsA pvA mbA s
  r : RS w spB bsB pvB fvB s
  sep : SepR spA bsA pvA mbA spB bsB pvB fvB
  wf : s.wf
def fB (spA : Nat) (bsA : List Nat) (mbA : Nat) (spB : Nat) (bsB : List Nat) (fvB : Value) : Nat → Prop := fun c => fC spA bsA mbA c ∨ fR spB bsB fvB c

section
variable {spA mbA spB : Nat} {bsA bsB : List Nat} {pvA pvB fvB : Value}
theorem Both.fr0 {w' : World} (h : Both w spA bsA pvA mbA spB bsB pvB fvB s) (hF : Fr none_ w w') : Both w' spA bsA pvA mbA spB bsB pvB fvB s := ⟨h.c.fr0 hF, h.r.fr0 hF, h.sep, h.wf⟩
theorem SepR.frA {a : Sp} {w' : World} (h : SepR spA bsA pvA mbA spB bsB pvB fvB) (hA : CS w spA bsA pvA mbA a) (hF : Fr (fR spB bsB fvB) w w') : CS w' spA bsA pvA mbA a := hA.fr hF h.ab h.pa
theorem SepR.frB {a : Sp} {w' : World} (h : SepR spA bsA pvA mbA spB bsB pvB fvB) (hB : RS w spB bsB pvB fvB a) (hF : Fr (fC spA bsA mbA) w w') : RS w' spB bsB pvB fvB a := hB.fr hF (fun c h1 h2 => h.ab c h2 h1) h.pb
theorem Both.lt (h : Both w spA bsA pvA mbA spB bsB pvB fvB s) : ∀ c, fB spA bsA mbA spB bsB fvB c → c < w.heap.size := fun c hc => hc.elim (h.c.lt c) (h.r.lt c)

theorem step_spec {x : SStp} (h : Both w spA bsA pvA mbA spB bsB pvB fvB s) (hx : x.ok)
    (hk : ∀ w', Both w' spA bsA pvA mbA spB bsB pvB fvB (s.step x) → Fr (fB spA bsA mbA spB bsB fvB) w w' → K (.bool true) w') :
    CallsR Tryz.prog 8 #[pt spA 0, pt spB 0, .agg x.cells.toArray] K w := by
  apply c8
  unfold p8
  have h0 : (w.alloc (cellsO x.cells 40)).heap[w.heap.size]? = some (cellsO x.cells 40) := by simp only [push_cast, Nat.reduceAdd, Nat.reduceLeDiff, Nat.reduceLT, Int.reduceToNat, Nat.left_eq_add, Nat.add_eq_left, Nat.add_left_cancel_iff, Nat.reduceEqDiff, Nat.add_assoc, Nat.succ_ne_zero]
  have hF0 : Fr none_ w (w.alloc (cellsO x.cells 40)) := (by repeat' first | with_reducible exact Fr.refl _ _ | with_reducible refine Fr.step_alloc ?_ ?_ | with_reducible refine Fr.step_drew ?_ | with_reducible refine Fr.step_wr ?_ ?_ _ _ | exact rfl | exact Or.inr (by omega) | exact Or.inl rfl | exact Or.inl (Or.inl rfl) | exact Or.inl (Or.inr rfl))
  simp only [opS_box, cells_agg, alloc_cellsO]
  have hn : ∀ c, fB spA bsA mbA spB bsB fvB c → c ≠ w.heap.size := fun c hc => by have := h.lt c hc; omega
  have h' := h.fr0 hF0
  generalize w.alloc (cellsO x.cells 40) = W0 at *
  generalize w.heap.size = xb at *
  have hwf := h.wf
  have hfin : ∀ w1 w2, CS w1 spA bsA pvA mbA (s.step x) → Fr (fC spA bsA mbA) W0 w1 → RS w2 spB bsB pvB fvB (s.step x) → Fr (fR spB bsB fvB) w1 w2 → Both w2 spA bsA pvA mbA spB bsB pvB fvB (s.step x) ∧ Fr (fB spA bsA mbA spB bsB fvB) w w2 := fun w1 w2 a1 a2 b1 b2 =>
    ⟨⟨h.sep.frA a1 b2, b1, h.sep, hwf.step hx⟩, ((hF0.mono fun _ _ h => h.elim).trans (a2.mono fun _ _ h => .inl h)).trans (b2.mono fun _ _ h => .inr h)⟩
  simp only [push_cast, Nat.reduceAdd, Nat.reduceLeDiff, Nat.reduceLT, Int.reduceToNat, Nat.left_eq_add, Nat.add_eq_left, Nat.add_left_cancel_iff, Nat.reduceEqDiff, Nat.add_assoc, Nat.succ_ne_zero, h0]
  refine br_dec (fun e0 => ?_) fun e0 => ?_
  · have hst : s.step x = (s.take x.port x.p x.now).1 := by unfold Sp.step; rw [if_pos e0]
    refine take_spec h'.c hwf hx.2.2.2 fun w1 a1 a2 => ?_
    have h1 := a2.heap h0 fun e => hn _ (.inl e) rfl
    simp only [push_cast, Nat.reduceAdd, Nat.reduceLeDiff, Nat.reduceLT, Int.reduceToNat, Nat.left_eq_add, Nat.add_eq_left, Nat.add_left_cancel_iff, Nat.reduceEqDiff, Nat.add_assoc, Nat.succ_ne_zero, h1]
    refine rtake_spec (h.sep.frB h'.r a2) hwf hx.2.2.2 fun w2 b1 b2 => ?_
    rw [← hst] at a1 b1
    obtain ⟨g1, g2⟩ := hfin w1 w2 a1 a2 b1 b2
    simp only [push_cast, Nat.reduceAdd, Nat.reduceLeDiff, Nat.reduceLT, Int.reduceToNat, Nat.left_eq_add, Nat.add_eq_left, Nat.add_left_cancel_iff, Nat.reduceEqDiff, Nat.add_assoc, Nat.succ_ne_zero, beq_self_eq_true]
    exact hk w2 g1 g2
  refine br_dec (fun e1 => ?_) fun e1 => ?_
  · have hsame : ∀ {a b : Value} {l : List Spk} {W : World} {e : Int}, RdE 23 W a (l.map Spk.cells) → RdE 23 W b (l.map Spk.cells) → (∀ x ∈ l, x.ok) → l.length ≤ 64 → (∀ W', Fr none_ W W' → K (.bool true) W') →
        opS Tryz.prog (S.cl 24 [a, b]) (fun x18 => jnJ 1 (fun x19 => K x19) fun j0 => brn x18 (opS Tryz.prog (S.binI .eql (i64 e) (i64 e)) fun x19 => j0 x19) (j0 (.bool false))) W := by
      intro a b l W e ha hb hl hn hK
      simp only [push_cast, Nat.reduceAdd, Nat.reduceLeDiff, Nat.reduceLT, Int.reduceToNat, Nat.left_eq_add, Nat.add_eq_left, Nat.add_left_cancel_iff, Nat.reduceEqDiff, Nat.add_assoc, Nat.succ_ne_zero]
      refine same_spec ha hb hl hl (by omega) fun W' hF => ?_
      rw [decide_eq_true rfl]
      rw [jn_1]
      simp only [push_cast, Nat.reduceAdd, Nat.reduceLeDiff, Nat.reduceLT, Int.reduceToNat, Nat.left_eq_add, Nat.add_eq_left, Nat.add_left_cancel_iff, Nat.reduceEqDiff, Nat.add_assoc, Nat.succ_ne_zero, beq_self_eq_true]
      exact hK W' hF
    by_cases hm : momB x.now
    · have hst : s.step x = (s.tickP x.now).1 := by unfold Sp.step; rw [if_neg e0, if_pos e1, if_pos hm]
      refine tick_spec h'.c hwf (fun e => absurd hm e) fun v w1 _ a1 hv nv a2 => ?_
      have h1 := a2.heap h0 fun e => hn _ (.inl e) rfl
      simp only [push_cast, Nat.reduceAdd, Nat.reduceLeDiff, Nat.reduceLT, Int.reduceToNat, Nat.left_eq_add, Nat.add_eq_left, Nat.add_left_cancel_iff, Nat.reduceEqDiff, Nat.add_assoc, Nat.succ_ne_zero, h1]
      refine rtick_spec (h.sep.frB h'.r a2) hwf (fun e => absurd hm e) fun v2 w2 _ b1 hv2 nv2 b2 => ?_
      have hout := tick_ok hwf hm
      have hon := tick_n s x.now
      have h64 := hwf.n64
      rw [← hst] at a1 b1
      obtain ⟨g1, g2⟩ := hfin w1 w2 a1 a2 b1 b2
      refine hsame (hv.fr b2 fun c hc e => ?_).rd hv2.rd hout (by omega) fun w3 f3 => hk w3 (g1.fr0 f3) (g2.trans (f3.mono fun _ _ h => h.elim))
      have := nv c hc
      have := h'.r.lt c e
      omega
    · have hst : s.step x = s := by unfold Sp.step; rw [if_neg e0, if_pos e1, if_neg hm]
      refine tick_spec h'.c hwf (fun _ => ?_) fun _ _ e => absurd e hm
      simp only [push_cast, Nat.reduceAdd, Nat.reduceLeDiff, Nat.reduceLT, Int.reduceToNat, Nat.left_eq_add, Nat.add_eq_left, Nat.add_left_cancel_iff, Nat.reduceEqDiff, Nat.add_assoc, Nat.succ_ne_zero, h0]
      refine rtick_spec h'.r hwf (fun _ => ?_) fun _ _ e => absurd e hm
      refine hsame (l := []) (own_nil 80 23 _).rd (own_nil 80 23 _).rd (by simp) (by simp) fun w3 f3 => hk w3 ?_ ((hF0.trans f3).mono fun _ _ h => h.elim)
      rw [hst]
      exact h'.fr0 f3
  refine br_dec (fun e2 => ?_) fun e2 => ?_
  · have hst : s.step x = s.up x.port x.is x.edge x.now := by unfold Sp.step; rw [if_neg e0, if_neg e1, if_pos e2]
    refine cup_spec h'.c hwf fun w1 a1 a2 => ?_
    have h1 := a2.heap h0 fun e => hn _ (.inl e) rfl
    simp only [push_cast, Nat.reduceAdd, Nat.reduceLeDiff, Nat.reduceLT, Int.reduceToNat, Nat.left_eq_add, Nat.add_eq_left, Nat.add_left_cancel_iff, Nat.reduceEqDiff, Nat.add_assoc, Nat.succ_ne_zero, h1]
    refine crup_spec (h.sep.frB h'.r a2) hwf fun w2 b1 b2 => ?_
    rw [← hst] at a1 b1
    obtain ⟨g1, g2⟩ := hfin w1 w2 a1 a2 b1 b2
    simp only [push_cast, Nat.reduceAdd, Nat.reduceLeDiff, Nat.reduceLT, Int.reduceToNat, Nat.left_eq_add, Nat.add_eq_left, Nat.add_left_cancel_iff, Nat.reduceEqDiff, Nat.add_assoc, Nat.succ_ne_zero, beq_self_eq_true]
    exact hk w2 g1 g2
  · have hst : s.step x = s.flushS := by unfold Sp.step; rw [if_neg e0, if_neg e1, if_neg e2]
    refine flushed_spec h'.c hwf fun v w1 a1 hv nv a2 => ?_
    simp only [push_cast, Nat.reduceAdd, Nat.reduceLeDiff, Nat.reduceLT, Int.reduceToNat, Nat.left_eq_add, Nat.add_eq_left, Nat.add_left_cancel_iff, Nat.reduceEqDiff, Nat.add_assoc, Nat.succ_ne_zero]
    refine rflushed_spec (h.sep.frB h'.r a2) hwf fun v2 w2 b1 hv2 nv2 b2 => ?_
    rw [← hst] at a1 b1
    obtain ⟨g1, g2⟩ := hfin w1 w2 a1 a2 b1 b2
    simp only [push_cast, Nat.reduceAdd, Nat.reduceLeDiff, Nat.reduceLT, Int.reduceToNat, Nat.left_eq_add, Nat.add_eq_left, Nat.add_left_cancel_iff, Nat.reduceEqDiff, Nat.add_assoc, Nat.succ_ne_zero]
    have h64 := hwf.n64
    have hfl := hwf.fl
    have hll := fl_len s.forget s.forget.length
    refine sameints_spec (hv.fr b2 fun c hc e => ?_).rd hv2.rd (by show (fl _ _).length < _; omega) fun w3 f3 => ?_
    · have := nv c hc
      have := h'.r.lt c e
      omega
    · rw [decide_eq_true rfl]
      exact hk w3 (g1.fr0 f3) (g2.trans (f3.mono fun _ _ h => h.elim))
end

end Go.Gx.S
end
