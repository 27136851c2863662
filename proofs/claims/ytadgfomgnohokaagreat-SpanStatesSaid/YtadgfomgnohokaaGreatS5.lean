/- Own texts, put together. -/
import Derived.Test.YtadgfomgnohokaaGreatS4
import Derived.Test.YtadgfomgnohokaaGreatS2
section
/- All of a bridge is reckoned anew. -/
set_option linter.unusedVariables false
set_option linter.unusedSimpArgs false
set_option maxRecDepth 100000
namespace Go.Gx.S
open Go Go.Gx Go.Proofs
variable {K : Value → World → Prop} {w : World} {sp mb : Nat} {bs : List Nat} {pv fv : Value} {s : Sp}

def zHrd : Hrd := ⟨0, 0, false, false, zVec⟩
theorem hrds_one (l : List Hrd) : (l.map Hrd.cells).flatten.all S.oneCell = true := by
  rw [List.all_eq_true]
  intro x hx
  obtain ⟨e, he, hxe⟩ := List.mem_flatten.1 hx
  obtain ⟨h, _, rfl⟩ := List.mem_map.1 he
  exact (List.all_eq_true.1 h.one) x hxe
theorem hs_get {i : Nat} {p : Prt} (h : s.l[i]? = some p) : s.hs[i]? = some p.h := by unfold Sp.hs; rw [List.getElem?_map, h]; rfl
theorem hs_len (s : Sp) : s.hs.length = s.l.length := by unfold Sp.hs; simp

theorem heards_spec (h : CS w sp bs pv mb s) (h64 : s.l.length ≤ 2 ^ 20) (hk : ∀ v w', OwnE 61 21 w' v (s.hs.map Hrd.cells) → Fr none_ w w' → K v w') : CallsR Tryz.prog 19 #[pt sp 0] K w := by
  apply c19
  unfold p19
  simp only [push_cast, Nat.reduceAdd, Nat.reduceLeDiff, Nat.reduceLT, Int.reduceToNat, Nat.left_eq_add, Nat.add_eq_left, Nat.add_left_cancel_iff, Nat.reduceEqDiff, Nat.add_assoc, Nat.succ_ne_zero, h.ps.main]
  rw [h.ps.lenv]
  refine jn1 (fun v W => OwnE 61 21 W v (s.hs.map Hrd.cells) ∧ Fr none_ w W) (fun v W ⟨h1, h2⟩ => hk v W h1 h2) fun j hj => ?_
  refine loop2 (fun n x u W => ∃ k : Nat, k ≤ s.l.length ∧ n = s.l.length - k ∧ u = i64 k ∧ OwnE 61 21 W x ((s.hs.take k).map Hrd.cells) ∧ New w x ∧ Fr none_ w W) ?_ s.l.length ⟨0, by omega, rfl, rfl, own_nil _ _ _, fun b hb => by simp [blkS] at hb, Fr.refl _ _⟩
  rintro n x u W X ⟨k, hk2, rfl, rfl, hO, hN, hF⟩ hX
  simp only [push_cast, Nat.reduceAdd, Nat.reduceLeDiff, Nat.reduceLT, Int.reduceToNat, Nat.left_eq_add, Nat.add_eq_left, Nat.add_left_cancel_iff, Nat.reduceEqDiff, Nat.add_assoc, Nat.succ_ne_zero]
  have hwk : k < s.l.length → IntKind.i64.wrap ((k : Int) + 1) = ((k + 1 : Nat) : Int) := fun _ => by rw [wrap_i64 (by omega)]; rfl
  refine br_dec (fun hlt => ?_) fun hge => ?_
  · have hkl : k < s.l.length := by omega
    obtain ⟨b, p, hb, hp⟩ := bs_at h.ps hkl
    refine ld_ptr h.ps hF hb ?_
    simp only [push_cast, Nat.reduceAdd, Nat.reduceLeDiff, Nat.reduceLT, Int.reduceToNat, Nat.left_eq_add, Nat.add_eq_left, Nat.add_left_cancel_iff, Nat.reduceEqDiff, Nat.add_assoc, Nat.succ_ne_zero, hF.heap (h.ps.port k b p hb hp) fun h => h]
    refine s_bs1 (sz := 21) (z := .agg zHrd.cells.toArray) p.h.len rfl (by decide) (by decide) fun y W1 hy hF1 hN1 => ?_
    refine s_app (sz := 21) (by_ := 80) (z := .agg zHrd.cells.toArray) rfl (by decide) (hO.fr hF1 fun _ _ h => h) hy.rd (by simp [p.h.one]) (by simp; omega) fun y2 W2 hy2 hb2 hF2 => ?_
    have hs1 := hF.size
    have hs2 := hF1.size
    simp only [push_cast, Nat.reduceAdd, Nat.reduceLeDiff, Nat.reduceLT, Int.reduceToNat, Nat.left_eq_add, Nat.add_eq_left, Nat.add_left_cancel_iff, Nat.reduceEqDiff, Nat.add_assoc, Nat.succ_ne_zero, hwk hkl]
    refine hX (s.l.length - (k + 1)) _ _ _ (by omega) ⟨k + 1, by omega, rfl, rfl, ?_, ?_, ?_⟩
    · rw [List.take_add_one, hs_get hp, List.map_append]; exact hy2
    · intro c hc
      rcases hb2 with hb2 | hb2
      · rw [hb2] at hc; exact hN c hc
      · have := hb2 c hc; omega
    · exact (hF.trans hF1).trans_new hF2 fun c hc hx => by have := hN c hx; omega
  · obtain rfl : k = s.l.length := by omega
    rw [List.take_of_length_le (by rw [hs_len]; omega)] at hO
    exact hj _ _ ⟨hO, hF⟩

/-! ### Plain -/

def newRole (p : Prt) (r : Int) : Prt := { p with role := r, agreed := if p.role = r then p.agreed else false, reply := if p.role = r then p.reply else false }
def Sp.stepQ (s : Sp) (i : Nat) (p : Prt) (r now : Int) : Sp :=
  if r = 1 ∨ (r = 2 ∧ p.role ≠ 2 ∧ p.edge = true) then (s.setP i (newRole p r)).forwQ i (newRole p r) now
  else if r = 2 ∧ p.role ≠ 2 then s.setP i (holdP (newRole p r) now)
  else if r ≠ 2 then s.setP i { newRole p r with state := 0 } else s.setP i (newRole p r)
def Sp.stepR (s : Sp) (i : Nat) (r now : Int) : Sp := match s.l[i]? with
  | none => s
  | some p => s.stepQ i p r now
def Sp.reckK (s : Sp) (rs : List Int) (now : Int) : Nat → Sp
  | 0 => s
  | k + 1 => (s.reckK rs now k).stepR k (rs[k]?.getD 0) now
def Sp.reckon (s : Sp) (now : Int) : Sp := ({ s with best := (bestL s.me s.hs).1 } : Sp).reckK (rolesL s.me s.hs) now s.l.length

theorem setP_len (s : Sp) (i : Nat) (p : Prt) : (s.setP i p).l.length = s.l.length := by unfold Sp.setP; simp
theorem forwQ_len (s : Sp) (i : Nat) (p : Prt) (now : Int) : (s.forwQ i p now).l.length = s.l.length := by
  unfold Sp.forwQ; rw [setP_len]; split <;> rfl
theorem stepQ_len (s : Sp) (i : Nat) (p : Prt) (r now : Int) : (s.stepQ i p r now).l.length = s.l.length := by
  unfold Sp.stepQ
  split
  · rw [forwQ_len, setP_len]
  · split
    · rw [setP_len]
    · split <;> rw [setP_len]
theorem stepR_len (s : Sp) (i : Nat) (r now : Int) : (s.stepR i r now).l.length = s.l.length := by
  unfold Sp.stepR
  split
  · rfl
  · rw [stepQ_len]
theorem reckK_len (s : Sp) (rs : List Int) (now : Int) : ∀ k, (s.reckK rs now k).l.length = s.l.length
  | 0 => rfl
  | k + 1 => by
    show ((s.reckK rs now k).stepR k _ now).l.length = _
    rw [stepR_len, reckK_len s rs now k]
theorem isR {r : Int} (h : 0 ≤ r ∧ r ≤ 4) : isI r := isI_iff.2 (by omega)
theorem newRole_ok {p : Prt} (h : p.ok) {r : Int} (hr : isI r) : (newRole p r).ok := ⟨h.1, h.2.1, h.2.2.1, hr, h.2.2.2.2⟩
theorem newRole_inv {p : Prt} {r : Int} (hr : 0 ≤ r ∧ r ≤ 4) (h : p.inv) : (newRole p r).inv := by
  refine ⟨hr, h.state, h.age, fun e => ?_⟩
  have e : r = 2 := e
  show (if p.role = r then p.reply else false) = false
  split
  · rename_i e2
    exact h.reply (e2.trans e)
  · rfl
theorem Sp.wf.stepQ (h : s.wf) {i : Nat} {p : Prt} (hp : s.l[i]? = some p) {r now : Int} (hr : 0 ≤ r ∧ r ≤ 4) (hn : momB now) : (s.stepQ i p r now).wf := by
  have hpo := h.l p (List.mem_of_getElem? hp)
  have hq := newRole_ok hpo (isR hr)
  have h1 : (s.setP i (newRole p r)).wf := h.setP hp ⟨rfl, rfl⟩ hq (newRole_inv hr)
  unfold Sp.stepQ
  split
  · exact h1.forwQ (s.setP_get hp _) now
  · split
    · have := h1.holdP (s.setP_get hp _) hn
      rw [Sp.setP_setP] at this
      exact this
    · split
      · exact h.setP hp ⟨rfl, rfl⟩ ⟨hq.1, hq.2.1, hq.2.2.1, hq.2.2.2.1, isI0, hq.2.2.2.2.2⟩ fun h => ⟨hr, st0, h.age, (newRole_inv hr h).reply⟩
      · exact h1
theorem Sp.wf.stepR (h : s.wf) (i : Nat) {r now : Int} (hr : 0 ≤ r ∧ r ≤ 4) (hn : momB now) : (s.stepR i r now).wf := by
  unfold Sp.stepR
  split
  · exact h
  · rename_i p hp
    exact h.stepQ hp hr hn
theorem roleOf_in (me : Idn) (best : Vec) (root : Int) (i : Nat) (h : Hrd) : 0 ≤ roleOf me best root i h ∧ roleOf me best root i h ≤ 4 := by
  unfold roleOf
  split
  · omega
  · split
    · omega
    · split
      · omega
      · split <;> omega
theorem rolesL_in (me : Idn) (l : List Hrd) (k : Nat) : 0 ≤ (rolesL me l)[k]?.getD 0 ∧ (rolesL me l)[k]?.getD 0 ≤ 4 := by
  unfold rolesL
  rw [List.getElem?_mapIdx]
  cases l[k]? with
  | none => simp
  | some h => exact roleOf_in _ _ _ _ _
theorem Sp.wf.reckK (h : s.wf) (me : Idn) (l : List Hrd) {now : Int} (hn : momB now) : ∀ k, (s.reckK (rolesL me l) now k).wf
  | 0 => h
  | k + 1 => (Sp.wf.reckK h me l hn k).stepR k (rolesL_in me l k) hn
theorem hs_ok (h : s.wf) : ∀ x ∈ s.hs, x.ok := fun x hx => by
  obtain ⟨p, hp, rfl⟩ := List.mem_map.1 hx
  exact (h.l p hp).1
theorem Sp.wf.best' (h : s.wf) {b : Vec} (hb : b.ok) : ({ s with best := b } : Sp).wf := ⟨h.me, h.l, hb, h.num, h.fair, h.fl, h.rl, h.la⟩
theorem Sp.wf.reckon (h : s.wf) {now : Int} (hn : momB now) : (s.reckon now).wf := (h.best' (bestK_ok h.me (hs_ok h) _)).reckK _ _ hn _

theorem rolesL_len (me : Idn) (l : List Hrd) : (rolesL me l).length = l.length := by unfold rolesL; simp

/-! ### One port -/

theorem ld_int {v : Value} {l : List Int} (h : RdE 1 w v (l.map cellI)) {k : Nat} {r : Int} (hr : l[k]? = some r) {R : Value → World → Prop} (hk : R (i64 r) w) : opS Tryz.prog (S.ia 26 v (i64 k)) (fun x => opS Tryz.prog (S.ld 3 x) R) w := by
  obtain ⟨hi, e⟩ := List.getElem?_eq_some_iff.1 hr
  refine s_iaE h (by omega) (by simpa using hi) fun c o c' _ he => ?_
  simp only [Int.toNat_natCast, List.getElem_map, e] at he ⊢
  rw [s_ld1, he.cell0 (by exact Nat.one_pos)]
  exact hk

theorem reck_len {S0 : Sp} {n : Nat} (h : S0.l.length = n) (rs : List Int) (now : Int) (k : Nat) : (S0.reckK rs now k).l.length = n := by rw [reckK_len, h]

theorem reck_step {S0 : Sp} {rs : List Int} {now : Int} {k : Nat} {p : Prt} {r : Int} (hp : (S0.reckK rs now k).l[k]? = some p) (hr : rs[k]? = some r) : (S0.reckK rs now k).stepQ k p r now = S0.reckK rs now (k + 1) := by
  show _ = (S0.reckK rs now k).stepR k (rs[k]?.getD 0) now
  unfold Sp.stepR
  rw [hp, hr]; rfl

theorem CS.lt (h : CS w sp bs pv mb s) : ∀ b, fC sp bs mb b → b < w.heap.size := by
  rintro b (rfl | hx | rfl)
  · exact lt_of_heap h.ps.main
  · obtain ⟨i, hi, rfl⟩ := List.getElem_of_mem hx
    obtain ⟨b, p, hb, hp⟩ := bs_at h.ps (show i < s.l.length by rw [← h.ps.len]; exact hi)
    rw [List.getElem?_eq_getElem hi] at hb; cases hb
    exact lt_of_heap (h.ps.port i _ p (List.getElem?_eq_getElem hi) hp)
  · obtain ⟨m, hm, _⟩ := h.mp
    exact hm.lt
theorem RS.lt (h : RS w sp bs pv fv s) : ∀ b, fR sp bs fv b → b < w.heap.size := by
  rintro b (rfl | hx | hx)
  · exact lt_of_heap h.ps.main
  · obtain ⟨i, hi, rfl⟩ := List.getElem_of_mem hx
    obtain ⟨b, p, hb, hp⟩ := bs_at h.ps (show i < s.l.length by rw [← h.ps.len]; exact hi)
    rw [List.getElem?_eq_getElem hi] at hb; cases hb
    exact lt_of_heap (h.ps.port i _ p (List.getElem?_eq_getElem hi) hp)
  · exact h.fo.lt hx

/-- while the ways are told, and judged -/
def RKs (w W : World) (s : Sp) (hv : Option Value) (vb : Option Nat) (y : Option Value) : Prop :=
  Fr none_ w W ∧ (∀ v, hv = some v → OwnE 61 21 W v (s.hs.map Hrd.cells)) ∧ (∀ b, vb = some b → W.heap[b]? = some (cellsO zVec.cells 44) ∧ w.heap.size ≤ b) ∧
    ∀ v, y = some v → OwnE 3 1 W v ((rolesL s.me s.hs).map cellI) ∧ New w v ∧ ∀ b, vb = some b → blkS v ≠ some b
section
variable {W : World} {hv : Option Value} {vb : Option Nat} {y : Option Value} {R : Value → World → Prop}
theorem RKs.fr0 {W' : World} (h : RKs w W s hv vb y) (hF : Fr none_ W W') : RKs w W' s hv vb y := by
  obtain ⟨h1, h2, h3, h4⟩ := h
  exact ⟨h1.trans hF, fun v e => (h2 v e).fr hF fun _ _ h => h, fun b e => ⟨hF.heap (h3 b e).1 fun h => h, (h3 b e).2⟩, fun v e => ⟨(h4 v e).1.fr hF fun _ _ h => h, (h4 v e).2⟩⟩
theorem k_ld (h : CS w sp bs pv mb s) (hR : RKs w W s hv vb y) (hk : R (.agg s.me.cells.toArray) W) : opS Tryz.prog (S.ld 25 (pt sp 0)) R W := by
  simp only [push_cast, Nat.reduceAdd, Nat.reduceLeDiff, Nat.reduceLT, Int.reduceToNat, Nat.left_eq_add, Nat.add_eq_left, Nat.add_left_cancel_iff, Nat.reduceEqDiff, Nat.add_assoc, Nat.succ_ne_zero, hR.1.heap h.ps.main fun h => h]; exact hk
theorem k_heards (h : CS w sp bs pv mb s) (hw : s.wf) (hR : RKs w W s none vb none) (hk : ∀ v W', RKs w W' s (some v) vb none → R v W') : opS Tryz.prog (S.cl 19 [pt sp 0]) R W := by
  rw [opS_cl]
  refine heards_spec (h.fr0 hR.1) (by have := hw.n64; omega) fun v W' hO hF => hk v W' ?_
  obtain ⟨h1, h2, h3, h4⟩ := hR.fr0 hF
  exact ⟨h1, fun x e => (by cases e; exact hO), h3, fun _ e => (by cases e)⟩
theorem k_al (hR : RKs w W s hv none y) (hk : ∀ b W', RKs w W' s hv (some b) y → R (pt b 0) W') : opS Tryz.prog (S.alloc 44) R W := by
  rw [zalloc_vec]
  have hF : Fr none_ W (W.alloc (cellsO zVec.cells 44)) := (by repeat' first | with_reducible exact Fr.refl _ _ | with_reducible refine Fr.step_alloc ?_ ?_ | with_reducible refine Fr.step_drew ?_ | with_reducible refine Fr.step_wr ?_ ?_ _ _ | exact rfl | exact Or.inr (by omega) | exact Or.inl rfl | exact Or.inl (Or.inl rfl) | exact Or.inl (Or.inr rfl))
  obtain ⟨h1, h2, h3, h4⟩ := hR.fr0 hF
  have hsz := hR.1.size
  refine hk _ _ ⟨h1, h2, fun b e => (by cases e; exact ⟨by simp only [push_cast, Nat.reduceAdd, Nat.reduceLeDiff, Nat.reduceLT, Int.reduceToNat, Nat.left_eq_add, Nat.add_eq_left, Nat.add_left_cancel_iff, Nat.reduceEqDiff, Nat.add_assoc, Nat.succ_ne_zero], hsz⟩), fun v e => ⟨(h4 v e).1, (h4 v e).2.1, fun b e2 e3 => ?_⟩⟩
  cases e2
  have := (hR.2.2.2 v e).1.lt e3
  omega
theorem k_sel {R : Value → Value → World → Prop} {v : Value} (h : CS w sp bs pv mb s) (hw : s.wf) (hR : RKs w W s (some v) vb none) (hk : ∀ x W', RKs w W' s (some v) vb (some x) → R (.agg (bestL s.me s.hs).1.cells.toArray) x W') : opS Tryz.prog (S.cl 18 [.agg s.me.cells.toArray, v]) (fun x => opS Tryz.prog (S.ext x 0) fun a => opS Tryz.prog (S.ext x 1) fun b => opS Tryz.prog (S.ext x 2) fun _ => R a b) W := by
  rw [opS_cl]
  have hv := hR.2.1 v rfl
  have h64 := hw.n64
  refine select_spec hv.rd hw.num (hs_ok hw) hw.me (by rw [hs_len]; omega) (fun e => by rw [hw.fair] at e; cases e) fun _ x W' hO hF hN => hk x W' ?_
  obtain ⟨h1, h2, h3, h4⟩ := hR.fr0 hF
  have hsz := hR.1.size
  refine ⟨h1, h2, h3, fun z e => ?_⟩
  cases e
  exact ⟨hO, fun b hb => by have := hN b hb; omega, fun b e2 e3 => by
    have := hN b e3
    have := lt_of_heap (hR.2.2.1 b e2).1
    omega⟩
end

theorem reckon_spec {now : Int} (h : CS w sp bs pv mb s) (hw : s.wf) (hn : momB now)
    (hk : ∀ w', CS w' sp bs pv mb (s.reckon now) → Fr (fC sp bs mb) w w' → K (.tuple #[]) w') : CallsR Tryz.prog 43 #[pt sp 0, i64 now] K w := by
  apply c43
  unfold p43
  have h64 := hw.n64
  have hbok := bestK_ok (k := s.hs.length) hw.me (hs_ok hw)
  refine jn2 (fun x y W => ∃ vb, x = pt vb 0 ∧ W.heap[vb]? = some (cellsO (bestL s.me s.hs).1.cells 44) ∧ OwnE 3 1 W y ((rolesL s.me s.hs).map cellI) ∧ New w y ∧ Fr none_ w W) ?_ fun j hj => ?_
  · rintro x y W ⟨vb, rfl, hvb, hO, hN, hF⟩
    have hI := h.fr0 hF
    simp only [push_cast, Nat.reduceAdd, Nat.reduceLeDiff, Nat.reduceLT, Int.reduceToNat, Nat.left_eq_add, Nat.add_eq_left, Nat.add_left_cancel_iff, Nat.reduceEqDiff, Nat.add_assoc, Nat.succ_ne_zero, hvb, hI.ps.main]
    obtain ⟨hI1, hF1⟩ := hI.stm (s' := { s with best := (bestL s.me s.hs).1 }) rfl rfl (spC_sbest _ _ _ _)
    have hF1' : Fr (fC sp bs mb) w (wr W sp 8 (bestL s.me s.hs).1.cells) := (hF.mono fun _ _ h => h.elim).trans hF1
    have hO1 := hO.fr hF1 fun b hb hx => by
      have h1 := hN b hb
      have := h.lt b hx; omega
    have hw1 : ({ s with best := (bestL s.me s.hs).1 } : Sp).wf := hw.best' hbok
    generalize wr W sp 8 (bestL s.me s.hs).1.cells = W1 at *
    rw [h.ps.lenv]
    refine jn0 (fun W => CS W sp bs pv mb (s.reckon now) ∧ Fr (fC sp bs mb) w W) (fun W ⟨h1, h2⟩ => hk W h1 h2) fun j hj => ?_
    have hrec : s.reckon now = ({ s with best := (bestL s.me s.hs).1 } : Sp).reckK (rolesL s.me s.hs) now s.l.length := rfl
    have hl1 : ({ s with best := (bestL s.me s.hs).1 } : Sp).l.length = s.l.length := rfl
    generalize hS0 : ({ s with best := (bestL s.me s.hs).1 } : Sp) = S0 at *
    refine loop1 (fun n u W => ∃ k : Nat, k ≤ s.l.length ∧ n = s.l.length - k ∧ u = i64 k ∧ CS W sp bs pv mb (S0.reckK (rolesL s.me s.hs) now k) ∧ Fr (fC sp bs mb) w W ∧ OwnE 3 1 W y ((rolesL s.me s.hs).map cellI)) ?_ s.l.length ⟨0, by omega, rfl, rfl, hI1, hF1', hO1⟩
    rintro n u W2 X ⟨k, hk2, rfl, rfl, hI, hF, hO⟩ hX
    simp only [push_cast, Nat.reduceAdd, Nat.reduceLeDiff, Nat.reduceLT, Int.reduceToNat, Nat.left_eq_add, Nat.add_eq_left, Nat.add_left_cancel_iff, Nat.reduceEqDiff, Nat.add_assoc, Nat.succ_ne_zero]
    refine br_dec (fun hlt => ?_) fun hge => ?_
    · have hkl : k < s.l.length := by omega
      have hwk : IntKind.i64.wrap ((k : Int) + 1) = ((k + 1 : Nat) : Int) := by rw [wrap_i64 (by omega)]; rfl
      have hwf : (S0.reckK (rolesL s.me s.hs) now k).wf := hw1.reckK _ _ hn k
      obtain ⟨b, p, hb, hp⟩ := bs_at hI.ps (show k < (S0.reckK (rolesL s.me s.hs) now k).l.length by rw [reck_len hl1]; exact hkl)
      have hrk : (rolesL s.me s.hs)[k]? = some ((rolesL s.me s.hs)[k]'(by rw [rolesL_len, hs_len]; exact hkl)) := List.getElem?_eq_getElem _
      have hrin := rolesL_in s.me s.hs k
      rw [hrk] at hrin
      generalize (rolesL s.me s.hs)[k]'(by rw [rolesL_len, hs_len]; exact hkl) = r at *
      replace hrin : 0 ≤ r ∧ r ≤ 4 := hrin
      have hsucc := reck_step hp hrk (now := now)
      have hfin : ∀ W3, CS W3 sp bs pv mb ((S0.reckK (rolesL s.me s.hs) now k).stepQ k p r now) → Fr (fC sp bs mb) W2 W3 → X (i64 ((k + 1 : Nat) : Int)) W3 := fun W3 h1 h2 => by
        refine hX (s.l.length - (k + 1)) _ _ (by omega) ⟨k + 1, by omega, rfl, rfl, by rw [← hsucc]; exact h1, hF.trans h2, hO.fr h2 fun c hc hx => ?_⟩
        have h1 := hN c hc
        have := h.lt c hx; omega
      generalize S0.reckK (rolesL s.me s.hs) now k = Sk at *
      refine ld_ptr hI.ps (Fr.refl _ _) hb ?_
      have hc := hI.ps.port k b p hb hp
      simp only [push_cast, Nat.reduceAdd, Nat.reduceLeDiff, Nat.reduceLT, Int.reduceToNat, Nat.left_eq_add, Nat.add_eq_left, Nat.add_left_cancel_iff, Nat.reduceEqDiff, Nat.add_assoc, Nat.succ_ne_zero, hc]
      refine ld_int hO.rd hrk ?_
      simp only [push_cast, Nat.reduceAdd, Nat.reduceLeDiff, Nat.reduceLT, Int.reduceToNat, Nat.left_eq_add, Nat.add_eq_left, Nat.add_left_cancel_iff, Nat.reduceEqDiff, Nat.add_assoc, Nat.succ_ne_zero, hc]
      obtain ⟨g1, f1⟩ := hI.stp hb hp (Prt.s_role p r)
      have hpp : ∀ q, (Sk.setP k q).l[k]? = some q := Sk.setP_get hp
      refine jn0 (fun W => CS W sp bs pv mb (Sk.setP k (newRole p r)) ∧ Fr (fC sp bs mb) W2 W) ?_ fun j2 hj2 => ?_
      · rintro W3 ⟨h3, f3⟩
        have hc3 := h3.ps.port k b _ hb (hpp _)
        have hwf3 : (Sk.setP k (newRole p r)).wf := hwf.setP hp ⟨rfl, rfl⟩ (newRole_ok (hwf.l p (List.mem_of_getElem? hp)) (isR hrin)) (newRole_inv hrin)
        have er : (newRole p r).role = r := rfl
        have ee : (newRole p r).edge = p.edge := rfl
        have hstep : ∀ W4, CS W4 sp bs pv mb (Sk.stepQ k p r now) → Fr (fC sp bs mb) W2 W4 → opS Tryz.prog (S.binI .add (i64 k) (.int .i64 1)) (fun y => X y) W4 := fun W4 h1 h2 => by
          simp only [push_cast, Nat.reduceAdd, Nat.reduceLeDiff, Nat.reduceLT, Int.reduceToNat, Nat.left_eq_add, Nat.add_eq_left, Nat.add_left_cancel_iff, Nat.reduceEqDiff, Nat.add_assoc, Nat.succ_ne_zero, hwk]
          exact hfin W4 h1 h2
        refine jn1 (fun v W => v = .bool (decide (r = 2) && !decide (p.role = 2)) ∧ W = W3) ?_ fun j3 hj3 => ?_
        · rintro v W ⟨rfl, rfl⟩
          refine jn1 (fun v W' => v = .bool (decide (r = 1) || (decide (r = 2) && !decide (p.role = 2)) && p.edge) ∧ W' = W) ?_ fun j4 hj4 => ?_
          · rintro v W' ⟨rfl, rfl⟩
            rw [brn_br]
            refine br_intro (fun e => ?_) fun e => ?_
            · have e : r = 1 ∨ (r = 2 ∧ p.role ≠ 2 ∧ p.edge = true) := by simpa [and_assoc] using e
              rw [opS_cl]
              refine forwards_spec h3 hwf3 hb (hpp _) hn fun W4 h4 f4 => hstep _ ?_ (f3.trans f4)
              unfold Sp.stepQ; rw [if_pos e]; exact h4
            · have e : ¬ (r = 1 ∨ (r = 2 ∧ p.role ≠ 2 ∧ p.edge = true)) := by simpa [and_assoc] using e
              rw [brn_br]
              refine br_intro (fun e5 => ?_) fun e5 => ?_
              · have e5 : r = 2 ∧ p.role ≠ 2 := by simpa using e5
                rw [opS_cl]
                refine holds_spec h3 hb (hpp _) hn fun W4 h4 f4 => hstep _ ?_ (f3.trans f4)
                rw [Sp.setP_setP] at h4
                unfold Sp.stepQ; rw [if_neg e, if_pos e5]; exact h4
              · have e5 : ¬ (r = 2 ∧ p.role ≠ 2) := by simpa using e5
                simp only [push_cast, Nat.reduceAdd, Nat.reduceLeDiff, Nat.reduceLT, Int.reduceToNat, Nat.left_eq_add, Nat.add_eq_left, Nat.add_left_cancel_iff, Nat.reduceEqDiff, Nat.add_assoc, Nat.succ_ne_zero, hc3, er]
                refine br_intro (fun e6 => ?_) fun e6 => ?_
                · have e6 : r ≠ 2 := by simpa using e6
                  obtain ⟨g4, f4⟩ := h3.stp hb (hpp _) (Prt.s_state (newRole p r) 0)
                  rw [Sp.setP_setP] at g4
                  rw [hwk]
                  refine hfin _ ?_ (f3.trans f4)
                  unfold Sp.stepQ; rw [if_neg e, if_neg e5, if_pos e6]; exact g4
                · have e6 : ¬ r ≠ 2 := by simpa using e6
                  rw [hwk]
                  refine hfin _ ?_ f3
                  unfold Sp.stepQ; rw [if_neg e, if_neg e5, if_neg e6]; exact h3
          · simp only [push_cast, Nat.reduceAdd, Nat.reduceLeDiff, Nat.reduceLT, Int.reduceToNat, Nat.left_eq_add, Nat.add_eq_left, Nat.add_left_cancel_iff, Nat.reduceEqDiff, Nat.add_assoc, Nat.succ_ne_zero, hc3, er]
            refine br_intro (fun e => ?_) fun e => ?_
            · have e' : r = 1 := by simpa using e
              exact hj4 _ _ ⟨by rw [e, decide_eq_true e', Bool.true_or], rfl⟩
            · have e' : ¬ r = 1 := by simpa using e
              rw [decide_eq_false e', Bool.false_or] at hj4
              refine jn1 (fun v W' => v = .bool ((decide (r = 2) && !decide (p.role = 2)) && p.edge) ∧ W' = W) (fun v W' h => hj4 v W' h) fun j5 hj5 => ?_
              rw [brn_br]
              refine br_intro (fun e2 => ?_) fun e2 => ?_
              · simp only [push_cast, Nat.reduceAdd, Nat.reduceLeDiff, Nat.reduceLT, Int.reduceToNat, Nat.left_eq_add, Nat.add_eq_left, Nat.add_left_cancel_iff, Nat.reduceEqDiff, Nat.add_assoc, Nat.succ_ne_zero, hc3, ee]
                exact hj5 _ _ ⟨by rw [e2, Bool.true_and], rfl⟩
              · exact hj5 _ _ ⟨by rw [e2, Bool.false_and], rfl⟩
        · simp only [push_cast, Nat.reduceAdd, Nat.reduceLeDiff, Nat.reduceLT, Int.reduceToNat, Nat.left_eq_add, Nat.add_eq_left, Nat.add_left_cancel_iff, Nat.reduceEqDiff, Nat.add_assoc, Nat.succ_ne_zero, hc3, er]
          refine br_intro (fun e => ?_) fun e => ?_
          · have e' : r = 2 := by simpa using e
            exact hj3 _ _ ⟨by rw [decide_eq_true e', Bool.true_and]; congr 1, rfl⟩
          · have e' : ¬ r = 2 := by simpa using e
            exact hj3 _ _ ⟨by rw [decide_eq_false e', Bool.false_and], rfl⟩
      · simp only [push_cast, Nat.reduceAdd, Nat.reduceLeDiff, Nat.reduceLT, Int.reduceToNat, Nat.left_eq_add, Nat.add_eq_left, Nat.add_left_cancel_iff, Nat.reduceEqDiff, Nat.add_assoc, Nat.succ_ne_zero, hc]
        refine br_intro (fun e => ?_) fun e => ?_
        · have e' : p.role ≠ r := by simpa using e
          obtain ⟨g2, f2⟩ := g1.stp hb (hpp _) (Prt.s_agreed { p with role := r } false)
          rw [Sp.setP_setP] at g2
          obtain ⟨g3, f3⟩ := g2.stp hb (hpp _) (Prt.s_reply { p with role := r, agreed := false } false)
          rw [Sp.setP_setP] at g3
          refine hj2 _ ⟨?_, (f1.trans f2).trans f3⟩
          have : newRole p r = { p with role := r, agreed := false, reply := false } := by unfold newRole; rw [if_neg e', if_neg e']
          rw [this]; exact g3
        · have e' : p.role = r := by simpa using e
          refine hj2 _ ⟨?_, f1⟩
          have : newRole p r = { p with role := r } := by unfold newRole; rw [if_pos e', if_pos e']
          rw [this]; exact g1
    · obtain rfl : k = s.l.length := by omega
      exact hj _ ⟨by rw [hrec]; exact hI, hF⟩
  · simp only [push_cast, Nat.reduceAdd, Nat.reduceLeDiff, Nat.reduceLT, Int.reduceToNat, Nat.left_eq_add, Nat.add_eq_left, Nat.add_left_cancel_iff, Nat.reduceEqDiff, Nat.add_assoc, Nat.succ_ne_zero, h.ps.main]
    have fin : ∀ {W : World} {v b y}, RKs w W s (some v) (some b) (some y) → opS Tryz.prog (S.st 44 (pt b 0) (.agg (bestL s.me s.hs).1.cells.toArray)) (fun _ => j (pt b 0) y) W := by
      intro W v b y hR
      obtain ⟨h1, h2, h3, h4⟩ := hR
      obtain ⟨h3, h3'⟩ := h3 _ rfl
      obtain ⟨h4, h5, h6⟩ := h4 _ rfl
      have hF3 := Fr.wr (fp := fun x => x = b) W b 0 (bestL s.me s.hs).1.cells rfl
      simp only [push_cast, Nat.reduceAdd, Nat.reduceLeDiff, Nat.reduceLT, Int.reduceToNat, Nat.left_eq_add, Nat.add_eq_left, Nat.add_left_cancel_iff, Nat.reduceEqDiff, Nat.add_assoc, Nat.succ_ne_zero, h3]
      refine hj _ _ _ ⟨_, rfl, by simp only [push_cast, Nat.reduceAdd, Nat.reduceLeDiff, Nat.reduceLT, Int.reduceToNat, Nat.left_eq_add, Nat.add_eq_left, Nat.add_left_cancel_iff, Nat.reduceEqDiff, Nat.add_assoc, Nat.succ_ne_zero, h3], h4.fr hF3 fun c hc e => h6 _ rfl (e ▸ hc), h5, h1.step_wr (.inr h3') _ _⟩
    have hR0 : RKs w w.drew s none none none := ⟨Fr.drew w, fun _ h => (by cases h), fun _ h => (by cases h), fun _ h => (by cases h)⟩
    generalize w.drew = W0 at *
    repeat' first
      | with_reducible refine allW_intro ?_ ?_
      | with_reducible refine k_ld h (by assumption) ?_
      | with_reducible refine k_heards h hw (by assumption) fun _ _ _ => ?_
      | with_reducible refine k_al (by assumption) fun _ _ _ => ?_
      | with_reducible refine k_sel h hw (by assumption) fun _ _ _ => ?_
      | with_reducible exact fin (by assumption)

/-! ### The reference's -/

theorem ext3 {R : Value → Value → World → Prop} {a b c : Value} (h : R a b w) : opS Tryz.prog (S.ext (.tuple #[a, b, c]) 0) (fun x => opS Tryz.prog (S.ext (.tuple #[a, b, c]) 1) fun y => opS Tryz.prog (S.ext (.tuple #[a, b, c]) 2) fun _ => R x y) w := by
  simp only [push_cast, Nat.reduceAdd, Nat.reduceLeDiff, Nat.reduceLT, Int.reduceToNat, Nat.left_eq_add, Nat.add_eq_left, Nat.add_left_cancel_iff, Nat.reduceEqDiff, Nat.add_assoc, Nat.succ_ne_zero]; exact h
theorem rreckon_spec {now : Int} (h : RS w sp bs pv fv s) (hw : s.wf) (hn : momB now)
    (hk : ∀ w', RS w' sp bs pv fv (s.reckon now) → Fr (fR sp bs fv) w w' → K (.tuple #[]) w') : CallsR Tryz.prog 50 #[pt sp 0, i64 now] K w := by
  apply c50
  unfold p50
  have h64 := hw.n64
  have hbok := bestK_ok (k := s.hs.length) hw.me (hs_ok hw)
  refine jn1 (fun v W => OwnE 61 21 W v (s.hs.map Hrd.cells) ∧ Fr none_ w W) ?_ fun j hj => ?_
  · rintro hv W ⟨hhv, hF⟩
    have hI := h.fr0 hF
    simp only [push_cast, Nat.reduceAdd, Nat.reduceLeDiff, Nat.reduceLT, Int.reduceToNat, Nat.left_eq_add, Nat.add_eq_left, Nat.add_left_cancel_iff, Nat.reduceEqDiff, Nat.add_assoc, Nat.succ_ne_zero, hI.ps.main]
    refine rselect_spec hhv.rd hw.num (hs_ok hw) hw.me hw.fair fun y W1 hO hF1 hN => ?_
    have hI1 := hI.fr0 hF1
    have hsz := hF.size
    have hsz1 := hF1.size
    refine ext3 ?_
    refine vec_slot fun _ W2 hb2 hF2 => ?_
    have hI2 := hI1.fr0 hF2
    have hF3 := (hF.trans hF1).trans hF2
    replace hO := hO.fr hF2 fun _ _ h => h
    replace hN : New w y := fun b hb => by have := hN b hb; omega
    simp only [push_cast, Nat.reduceAdd, Nat.reduceLeDiff, Nat.reduceLT, Int.reduceToNat, Nat.left_eq_add, Nat.add_eq_left, Nat.add_left_cancel_iff, Nat.reduceEqDiff, Nat.add_assoc, Nat.succ_ne_zero, hb2, hI2.ps.main]
    obtain ⟨hI4, hF4⟩ := hI2.stm (s' := { s with best := (bestL s.me s.hs).1 }) rfl rfl (spC_sbest _ _ _ _)
    have hF5 : Fr (fR sp bs fv) w (wr W2 sp 8 (bestL s.me s.hs).1.cells) := (hF3.mono fun _ _ h => h.elim).trans hF4
    have hO1 := hO.fr hF4 fun b hb hx => by
      have h1 := hN b hb
      have := h.lt b hx; omega
    have hw1 : ({ s with best := (bestL s.me s.hs).1 } : Sp).wf := hw.best' hbok
    generalize wr W2 sp 8 (bestL s.me s.hs).1.cells = W3 at *
    refine jn0 (fun W => RS W sp bs pv fv (s.reckon now) ∧ Fr (fR sp bs fv) w W) (fun W ⟨h1, h2⟩ => hk W h1 h2) fun j hj => ?_
    have hrec : s.reckon now = ({ s with best := (bestL s.me s.hs).1 } : Sp).reckK (rolesL s.me s.hs) now s.l.length := rfl
    have hl1 : ({ s with best := (bestL s.me s.hs).1 } : Sp).l.length = s.l.length := rfl
    generalize hS0 : ({ s with best := (bestL s.me s.hs).1 } : Sp) = S0 at *
    refine loop1 (fun n u W => ∃ k : Nat, k ≤ s.l.length ∧ n = s.l.length - k ∧ u = i64 k ∧ RS W sp bs pv fv (S0.reckK (rolesL s.me s.hs) now k) ∧ Fr (fR sp bs fv) w W ∧ OwnE 3 1 W y ((rolesL s.me s.hs).map cellI)) ?_ s.l.length ⟨0, by omega, rfl, rfl, hI4, hF5, hO1⟩
    rintro n u W2 X ⟨k, hk2, rfl, rfl, hI, hF, hO⟩ hX
    simp only [push_cast, Nat.reduceAdd, Nat.reduceLeDiff, Nat.reduceLT, Int.reduceToNat, Nat.left_eq_add, Nat.add_eq_left, Nat.add_left_cancel_iff, Nat.reduceEqDiff, Nat.add_assoc, Nat.succ_ne_zero, hI.ps.main]
    rw [h.ps.lenv]
    simp only [push_cast, Nat.reduceAdd, Nat.reduceLeDiff, Nat.reduceLT, Int.reduceToNat, Nat.left_eq_add, Nat.add_eq_left, Nat.add_left_cancel_iff, Nat.reduceEqDiff, Nat.add_assoc, Nat.succ_ne_zero]
    refine br_dec (fun hlt => ?_) fun hge => ?_
    · have hkl : k < s.l.length := by omega
      have hwk : IntKind.i64.wrap ((k : Int) + 1) = ((k + 1 : Nat) : Int) := by rw [wrap_i64 (by omega)]; rfl
      have hwf : (S0.reckK (rolesL s.me s.hs) now k).wf := hw1.reckK _ _ hn k
      obtain ⟨b, p, hb, hp⟩ := bs_at hI.ps (show k < (S0.reckK (rolesL s.me s.hs) now k).l.length by rw [reck_len hl1]; exact hkl)
      have hrk : (rolesL s.me s.hs)[k]? = some ((rolesL s.me s.hs)[k]'(by rw [rolesL_len, hs_len]; exact hkl)) := List.getElem?_eq_getElem _
      have hrin := rolesL_in s.me s.hs k
      rw [hrk] at hrin
      generalize (rolesL s.me s.hs)[k]'(by rw [rolesL_len, hs_len]; exact hkl) = r at *
      replace hrin : 0 ≤ r ∧ r ≤ 4 := hrin
      have hsucc := reck_step hp hrk (now := now)
      have hfin : ∀ W3, RS W3 sp bs pv fv ((S0.reckK (rolesL s.me s.hs) now k).stepQ k p r now) → Fr (fR sp bs fv) W2 W3 → X (i64 ((k + 1 : Nat) : Int)) W3 := fun W3 h1 h2 => by
        refine hX (s.l.length - (k + 1)) _ _ (by omega) ⟨k + 1, by omega, rfl, rfl, by rw [← hsucc]; exact h1, hF.trans h2, hO.fr h2 fun c hc hx => ?_⟩
        have h1 := hN c hc
        have := h.lt c hx; omega
      generalize S0.reckK (rolesL s.me s.hs) now k = Sk at *
      simp only [push_cast, Nat.reduceAdd, Nat.reduceLeDiff, Nat.reduceLT, Int.reduceToNat, Nat.left_eq_add, Nat.add_eq_left, Nat.add_left_cancel_iff, Nat.reduceEqDiff, Nat.add_assoc, Nat.succ_ne_zero, hI.ps.main]
      refine ld_ptr hI.ps (Fr.refl _ _) hb ?_
      have hc := hI.ps.port k b p hb hp
      simp only [push_cast, Nat.reduceAdd, Nat.reduceLeDiff, Nat.reduceLT, Int.reduceToNat, Nat.left_eq_add, Nat.add_eq_left, Nat.add_left_cancel_iff, Nat.reduceEqDiff, Nat.add_assoc, Nat.succ_ne_zero, hc]
      refine ld_int hO.rd hrk ?_
      simp only [push_cast, Nat.reduceAdd, Nat.reduceLeDiff, Nat.reduceLT, Int.reduceToNat, Nat.left_eq_add, Nat.add_eq_left, Nat.add_left_cancel_iff, Nat.reduceEqDiff, Nat.add_assoc, Nat.succ_ne_zero, hc]
      obtain ⟨g1, f1⟩ := hI.stp hb hp (Prt.s_role p r)
      have hpp : ∀ q, (Sk.setP k q).l[k]? = some q := Sk.setP_get hp
      refine jn0 (fun W => RS W sp bs pv fv (Sk.setP k (newRole p r)) ∧ Fr (fR sp bs fv) W2 W) ?_ fun j2 hj2 => ?_
      · rintro W3 ⟨h3, f3⟩
        have hc3 := h3.ps.port k b _ hb (hpp _)
        have hwf3 : (Sk.setP k (newRole p r)).wf := hwf.setP hp ⟨rfl, rfl⟩ (newRole_ok (hwf.l p (List.mem_of_getElem? hp)) (isR hrin)) (newRole_inv hrin)
        have er : (newRole p r).role = r := rfl
        have ee : (newRole p r).edge = p.edge := rfl
        have hstep : ∀ W4, RS W4 sp bs pv fv (Sk.stepQ k p r now) → Fr (fR sp bs fv) W2 W4 → opS Tryz.prog (S.binI .add (i64 k) (.int .i64 1)) (fun y => X y) W4 := fun W4 h1 h2 => by
          simp only [push_cast, Nat.reduceAdd, Nat.reduceLeDiff, Nat.reduceLT, Int.reduceToNat, Nat.left_eq_add, Nat.add_eq_left, Nat.add_left_cancel_iff, Nat.reduceEqDiff, Nat.add_assoc, Nat.succ_ne_zero, hwk]
          exact hfin W4 h1 h2
        simp only [push_cast, Nat.reduceAdd, Nat.reduceLeDiff, Nat.reduceLT, Int.reduceToNat, Nat.left_eq_add, Nat.add_eq_left, Nat.add_left_cancel_iff, Nat.reduceEqDiff, Nat.add_assoc, Nat.succ_ne_zero, hc3, er]
        refine br_intro (fun e1 => ?_) fun e1 => ?_
        · have e1 : r = 1 := by simpa using e1
          refine rforwards_spec h3 hwf3 (hpp _) hn fun W4 h4 f4 => hstep _ ?_ (f3.trans f4)
          unfold Sp.stepQ; rw [if_pos (.inl e1)]; exact h4
        have e1 : r ≠ 1 := by simpa using e1
        refine br_intro (fun e2 => ?_) fun e2 => ?_
        · have e2 : r ≠ 2 := by simpa using e2
          obtain ⟨g4, f4⟩ := h3.stp hb (hpp _) (Prt.s_state (newRole p r) 0)
          rw [Sp.setP_setP] at g4
          rw [hwk]
          refine hfin _ ?_ (f3.trans f4)
          unfold Sp.stepQ; rw [if_neg (fun h => h.elim e1 fun h => e2 h.1), if_neg (fun h => e2 h.1), if_pos e2]; exact g4
        have e2 : r = 2 := by simpa using e2
        refine jn0 (fun W => W = W3 ∧ ¬ (p.role ≠ 2 ∧ p.edge = true)) ?_ fun j3 hj3 => ?_
        · rintro W ⟨rfl, e3⟩
          simp only [push_cast, Nat.reduceAdd, Nat.reduceLeDiff, Nat.reduceLT, Int.reduceToNat, Nat.left_eq_add, Nat.add_eq_left, Nat.add_left_cancel_iff, Nat.reduceEqDiff, Nat.add_assoc, Nat.succ_ne_zero]
          refine br_intro (fun e4 => ?_) fun e4 => ?_
          · have e4 : p.role ≠ 2 := by simpa using e4
            refine rholds_spec h3 hb (hpp _) hn fun W4 h4 f4 => hstep _ ?_ (f3.trans f4)
            rw [Sp.setP_setP] at h4
            unfold Sp.stepQ; rw [if_neg (fun h => h.elim e1 fun h => e3 h.2), if_pos ⟨e2, e4⟩]; exact h4
          · have e4 : ¬ p.role ≠ 2 := by simpa using e4
            rw [hwk]
            refine hfin _ ?_ f3
            unfold Sp.stepQ; rw [if_neg (fun h => h.elim e1 fun h => e3 h.2), if_neg (fun h => e4 h.2), if_neg (fun h => h e2)]; exact h3
        · simp only [push_cast, Nat.reduceAdd, Nat.reduceLeDiff, Nat.reduceLT, Int.reduceToNat, Nat.left_eq_add, Nat.add_eq_left, Nat.add_left_cancel_iff, Nat.reduceEqDiff, Nat.add_assoc, Nat.succ_ne_zero]
          refine br_intro (fun e4 => ?_) fun e4 => ?_
          · have e4 : p.role ≠ 2 := by simpa using e4
            simp only [push_cast, Nat.reduceAdd, Nat.reduceLeDiff, Nat.reduceLT, Int.reduceToNat, Nat.left_eq_add, Nat.add_eq_left, Nat.add_left_cancel_iff, Nat.reduceEqDiff, Nat.add_assoc, Nat.succ_ne_zero, hc3, ee]
            refine br_intro (fun e5 => ?_) fun e5 => ?_
            · refine rforwards_spec h3 hwf3 (hpp _) hn fun W4 h4 f4 => hstep _ ?_ (f3.trans f4)
              unfold Sp.stepQ; rw [if_pos (.inr ⟨e2, e4, e5⟩)]; exact h4
            · exact hj3 _ ⟨rfl, fun h => by rw [h.2] at e5; cases e5⟩
          · have e4 : ¬ p.role ≠ 2 := by simpa using e4
            exact hj3 _ ⟨rfl, fun h => e4 h.1⟩
      · simp only [push_cast, Nat.reduceAdd, Nat.reduceLeDiff, Nat.reduceLT, Int.reduceToNat, Nat.left_eq_add, Nat.add_eq_left, Nat.add_left_cancel_iff, Nat.reduceEqDiff, Nat.add_assoc, Nat.succ_ne_zero, hc]
        refine br_intro (fun e => ?_) fun e => ?_
        · have e' : p.role ≠ r := by simpa using e
          obtain ⟨g2, f2⟩ := g1.stp hb (hpp _) (Prt.s_agreed { p with role := r } false)
          rw [Sp.setP_setP] at g2
          obtain ⟨g3, f3⟩ := g2.stp hb (hpp _) (Prt.s_reply { p with role := r, agreed := false } false)
          rw [Sp.setP_setP] at g3
          refine hj2 _ ⟨?_, (f1.trans f2).trans f3⟩
          have : newRole p r = { p with role := r, agreed := false, reply := false } := by unfold newRole; rw [if_neg e', if_neg e']
          rw [this]; exact g3
        · have e' : p.role = r := by simpa using e
          refine hj2 _ ⟨?_, f1⟩
          have : newRole p r = { p with role := r } := by unfold newRole; rw [if_pos e', if_pos e']
          rw [this]; exact g1
    · obtain rfl : k = s.l.length := by omega
      exact hj _ ⟨by rw [hrec]; exact hI, hF⟩
  · refine loop2 (fun n x u W => ∃ k : Nat, k ≤ s.l.length ∧ n = s.l.length - k ∧ u = i64 k ∧ OwnE 61 21 W x ((s.hs.take k).map Hrd.cells) ∧ New w x ∧ Fr none_ w W) ?_ s.l.length ⟨0, by omega, rfl, rfl, own_nil _ _ _, fun b hb => by simp [blkS] at hb, Fr.refl _ _⟩
    rintro n x u W X ⟨k, hk2, rfl, rfl, hO, hN, hF⟩ hX
    simp only [push_cast, Nat.reduceAdd, Nat.reduceLeDiff, Nat.reduceLT, Int.reduceToNat, Nat.left_eq_add, Nat.add_eq_left, Nat.add_left_cancel_iff, Nat.reduceEqDiff, Nat.add_assoc, Nat.succ_ne_zero, hF.heap h.ps.main fun h => h]
    rw [h.ps.lenv]
    simp only [push_cast, Nat.reduceAdd, Nat.reduceLeDiff, Nat.reduceLT, Int.reduceToNat, Nat.left_eq_add, Nat.add_eq_left, Nat.add_left_cancel_iff, Nat.reduceEqDiff, Nat.add_assoc, Nat.succ_ne_zero]
    have hwk : k < s.l.length → IntKind.i64.wrap ((k : Int) + 1) = ((k + 1 : Nat) : Int) := fun _ => by rw [wrap_i64 (by omega)]; rfl
    refine br_dec (fun hlt => ?_) fun hge => ?_
    · have hkl : k < s.l.length := by omega
      obtain ⟨b, p, hb, hp⟩ := bs_at h.ps hkl
      simp only [push_cast, Nat.reduceAdd, Nat.reduceLeDiff, Nat.reduceLT, Int.reduceToNat, Nat.left_eq_add, Nat.add_eq_left, Nat.add_left_cancel_iff, Nat.reduceEqDiff, Nat.add_assoc, Nat.succ_ne_zero, hF.heap h.ps.main fun h => h]
      refine ld_ptr h.ps hF hb ?_
      simp only [push_cast, Nat.reduceAdd, Nat.reduceLeDiff, Nat.reduceLT, Int.reduceToNat, Nat.left_eq_add, Nat.add_eq_left, Nat.add_left_cancel_iff, Nat.reduceEqDiff, Nat.add_assoc, Nat.succ_ne_zero, hF.heap (h.ps.port k b p hb hp) fun h => h]
      refine s_bs1 (sz := 21) (z := .agg zHrd.cells.toArray) p.h.len rfl (by decide) (by decide) fun y W1 hy hF1 hN1 => ?_
      refine s_app (sz := 21) (by_ := 80) (z := .agg zHrd.cells.toArray) rfl (by decide) (hO.fr hF1 fun _ _ h => h) hy.rd (by simp [p.h.one]) (by simp; omega) fun y2 W2 hy2 hb2 hF2 => ?_
      have hs1 := hF.size
      have hs2 := hF1.size
      simp only [push_cast, Nat.reduceAdd, Nat.reduceLeDiff, Nat.reduceLT, Int.reduceToNat, Nat.left_eq_add, Nat.add_eq_left, Nat.add_left_cancel_iff, Nat.reduceEqDiff, Nat.add_assoc, Nat.succ_ne_zero, hwk hkl]
      refine hX (s.l.length - (k + 1)) _ _ _ (by omega) ⟨k + 1, by omega, rfl, rfl, ?_, ?_, ?_⟩
      · rw [List.take_add_one, hs_get hp, List.map_append]; exact hy2
      · intro c hc
        rcases hb2 with hb2 | hb2
        · rw [hb2] at hc; exact hN c hc
        · have := hb2 c hc; omega
      · exact (hF.trans hF1).trans_new hF2 fun c hc hx => by have := hN c hx; omega
    · obtain rfl : k = s.l.length := by omega
      rw [List.take_of_length_le (by rw [hs_len]; omega)] at hO
      exact hj _ _ ⟨hO, hF⟩

end Go.Gx.S
end

section
/- A port is up, or down; what it hears; what it is proposed. -/
set_option linter.unusedVariables false
set_option linter.unusedSimpArgs false
set_option maxRecDepth 100000
namespace Go.Gx.S
open Go Go.Gx Go.Proofs
variable {K : Value → World → Prop} {w : World} {sp mb : Nat} {bs : List Nat} {pv fv : Value} {s : Sp}

/-! ### Ports and moments -/

instance (now : Int) : Decidable (momB now) := by unfold momB; infer_instance
def portB (s : Sp) (n : Int) : Prop := 1 ≤ n ∧ n ≤ s.l.length
instance (s : Sp) (n : Int) : Decidable (portB s n) := by unfold portB; infer_instance

theorem moment_spec {now : Int} (hk : K (.bool (decide (momB now))) w) : CallsR Tryz.prog 38 #[i64 now] K w := by
  apply c38
  unfold p38
  simp only [push_cast, Nat.reduceAdd, Nat.reduceLeDiff, Nat.reduceLT, Int.reduceToNat, Nat.left_eq_add, Nat.add_eq_left, Nat.add_left_cancel_iff, Nat.reduceEqDiff, Nat.add_assoc, Nat.succ_ne_zero]
  refine br_dec (fun h => ?_) fun h => ?_
  · rw [decide_eq_decide.2 (show momB now ↔ now ≤ 1099511627776 by unfold momB; omega)] at hk
    exact hk
  · rw [decide_eq_false (show ¬ momB now by unfold momB; omega)] at hk
    exact hk

theorem at_spec {n : Int} (h : CS w sp bs pv mb s) (hw : s.wf) (h0 : ¬ portB s n → K (.pointer none) w) (h1 : ∀ (i b : Nat) p, n = (i : Int) + 1 → portB s n → bs[i]? = some b → s.l[i]? = some p → K (pt b 0) w) : CallsR Tryz.prog 37 #[pt sp 0, i64 n] K w := by
  apply c37
  unfold p37
  have h64 := hw.n64
  simp only [push_cast, Nat.reduceAdd, Nat.reduceLeDiff, Nat.reduceLT, Int.reduceToNat, Nat.left_eq_add, Nat.add_eq_left, Nat.add_left_cancel_iff, Nat.reduceEqDiff, Nat.add_assoc, Nat.succ_ne_zero]
  unfold portB at h0 h1
  refine br_dec (fun e => h0 (by omega)) fun e => ?_
  simp only [push_cast, Nat.reduceAdd, Nat.reduceLeDiff, Nat.reduceLT, Int.reduceToNat, Nat.left_eq_add, Nat.add_eq_left, Nat.add_left_cancel_iff, Nat.reduceEqDiff, Nat.add_assoc, Nat.succ_ne_zero, h.ps.main]
  rw [h.ps.lenv]
  simp only [push_cast, Nat.reduceAdd, Nat.reduceLeDiff, Nat.reduceLT, Int.reduceToNat, Nat.left_eq_add, Nat.add_eq_left, Nat.add_left_cancel_iff, Nat.reduceEqDiff, Nat.add_assoc, Nat.succ_ne_zero]
  refine br_dec (fun e => h0 (by omega)) fun e2 => ?_
  simp only [push_cast, Nat.reduceAdd, Nat.reduceLeDiff, Nat.reduceLT, Int.reduceToNat, Nat.left_eq_add, Nat.add_eq_left, Nat.add_left_cancel_iff, Nat.reduceEqDiff, Nat.add_assoc, Nat.succ_ne_zero, h.ps.main]
  rw [wrap_i64 (by omega)]
  obtain ⟨i, hi⟩ : ∃ i : Nat, n = (i : Int) + 1 := ⟨(n - 1).toNat, by omega⟩
  obtain ⟨b, p, hb, hp⟩ := bs_at h.ps (show i < s.l.length by omega)
  rw [show n - 1 = (i : Int) by omega]
  refine ld_ptr h.ps (Fr.refl _ _) hb ?_
  exact h1 i b p hi ⟨by omega, by omega⟩ hb hp

theorem right_spec {n now : Int} (h : RS w sp bs pv fv s) (hk : K (.bool (decide (portB s n) && decide (momB now))) w) : CallsR Tryz.prog 46 #[pt sp 0, i64 n, i64 now] K w := by
  apply c46
  unfold p46
  simp only [push_cast, Nat.reduceAdd, Nat.reduceLeDiff, Nat.reduceLT, Int.reduceToNat, Nat.left_eq_add, Nat.add_eq_left, Nat.add_left_cancel_iff, Nat.reduceEqDiff, Nat.add_assoc, Nat.succ_ne_zero]
  refine br_dec (fun e => ?_) fun e => ?_
  · simp only [push_cast, Nat.reduceAdd, Nat.reduceLeDiff, Nat.reduceLT, Int.reduceToNat, Nat.left_eq_add, Nat.add_eq_left, Nat.add_left_cancel_iff, Nat.reduceEqDiff, Nat.add_assoc, Nat.succ_ne_zero, h.ps.main]
    rw [h.ps.lenv]
    simp only [push_cast, Nat.reduceAdd, Nat.reduceLeDiff, Nat.reduceLT, Int.reduceToNat, Nat.left_eq_add, Nat.add_eq_left, Nat.add_left_cancel_iff, Nat.reduceEqDiff, Nat.add_assoc, Nat.succ_ne_zero]
    refine br_dec (fun e2 => ?_) fun e2 => ?_
    · rw [decide_eq_true (show portB s n from ⟨by omega, e2⟩), Bool.true_and] at hk
      refine br_dec (fun e3 => ?_) fun e3 => ?_
      · rw [decide_eq_decide.2 (show momB now ↔ now ≤ 1099511627776 by unfold momB; omega)] at hk
        exact hk
      · rw [decide_eq_false (show ¬ momB now by unfold momB; omega)] at hk
        exact hk
    · rw [decide_eq_false (show ¬ portB s n from fun h => e2 h.2)] at hk
      exact hk
  · rw [decide_eq_false (show ¬ portB s n from fun h => by have := h.1; omega)] at hk
    exact hk

/-! ### Up -/

def upQ (p : Prt) (up edge : Bool) : Prt := { p with h := { p.h with up := up, has := false }, edge := up && edge }
theorem upQ_ok {p : Prt} (h : p.ok) (up edge : Bool) : (upQ p up edge).ok := h

theorem up_spec {n now : Int} {up edge : Bool} (h : CS w sp bs pv mb s) (hw : s.wf) (h0 : ¬ (portB s n ∧ momB now) → K (i64 1) w)
    (h1 : ∀ (i : Nat) p w', n = (i : Int) + 1 → portB s n → momB now → s.l[i]? = some p → CS w' sp bs pv mb ((s.setP i (upQ p up edge)).reckon now) → Fr (fC sp bs mb) w w' → K (i64 0) w') :
    CallsR Tryz.prog 25 #[pt sp 0, i64 n, .bool up, .bool edge, i64 now] K w := by
  apply c25
  unfold p25
  simp only [push_cast, Nat.reduceAdd, Nat.reduceLeDiff, Nat.reduceLT, Int.reduceToNat, Nat.left_eq_add, Nat.add_eq_left, Nat.add_left_cancel_iff, Nat.reduceEqDiff, Nat.add_assoc, Nat.succ_ne_zero]
  refine at_spec h hw (fun e => ?_) fun i b p hn hpb hb hp => ?_
  · simp only [push_cast, Nat.reduceAdd, Nat.reduceLeDiff, Nat.reduceLT, Int.reduceToNat, Nat.left_eq_add, Nat.add_eq_left, Nat.add_left_cancel_iff, Nat.reduceEqDiff, Nat.add_assoc, Nat.succ_ne_zero]
    exact h0 fun h => e h.1
  simp only [push_cast, Nat.reduceAdd, Nat.reduceLeDiff, Nat.reduceLT, Int.reduceToNat, Nat.left_eq_add, Nat.add_eq_left, Nat.add_left_cancel_iff, Nat.reduceEqDiff, Nat.add_assoc, Nat.succ_ne_zero]
  refine moment_spec ?_
  simp only [push_cast, Nat.reduceAdd, Nat.reduceLeDiff, Nat.reduceLT, Int.reduceToNat, Nat.left_eq_add, Nat.add_eq_left, Nat.add_left_cancel_iff, Nat.reduceEqDiff, Nat.add_assoc, Nat.succ_ne_zero]
  refine br_intro (fun e => ?_) fun e => ?_
  · exact h0 fun h => by simp [h.2] at e
  have hnow : momB now := by simpa using e
  have hc := h.ps.port i b p hb hp
  have hpp : ∀ q, (s.setP i q).l[i]? = some q := s.setP_get hp
  obtain ⟨g1, f1⟩ := h.stp hb hp (Prt.s_h_up p up)
  obtain ⟨g2, f2⟩ := g1.stp hb (hpp _) (Prt.s_h_has { p with h := { p.h with up := up } } false)
  obtain ⟨g3, f3⟩ := g2.stp hb (Sp.setP_get _ (hpp _) _) (Prt.s_edge { p with h := { p.h with up := up, has := false } } (up && edge))
  rw [Sp.setP_setP, Sp.setP_setP] at g3
  have hwf : (s.setP i (upQ p up edge)).wf := hw.setP hp ⟨rfl, rfl⟩ (upQ_ok (hw.l p (List.mem_of_getElem? hp)) _ _)
  cases up
  all_goals
    simp only [push_cast, Nat.reduceAdd, Nat.reduceLeDiff, Nat.reduceLT, Int.reduceToNat, Nat.left_eq_add, Nat.add_eq_left, Nat.add_left_cancel_iff, Nat.reduceEqDiff, Nat.add_assoc, Nat.succ_ne_zero, hc]
    refine reckon_spec g3 hwf hnow fun W1 h3 hF3 => ?_
    exact h1 i p _ hn hpb hnow hp h3 (((f1.trans f2).trans f3).trans hF3)

theorem rup_spec {n now : Int} {up edge : Bool} (h : RS w sp bs pv fv s) (hw : s.wf) (h0 : ¬ (portB s n ∧ momB now) → K (i64 1) w)
    (h1 : ∀ (i : Nat) p w', n = (i : Int) + 1 → portB s n → momB now → s.l[i]? = some p → RS w' sp bs pv fv ((s.setP i (upQ p up edge)).reckon now) → Fr (fR sp bs fv) w w' → K (i64 0) w') :
    CallsR Tryz.prog 26 #[pt sp 0, i64 n, .bool up, .bool edge, i64 now] K w := by
  apply c26
  unfold p26
  simp only [push_cast, Nat.reduceAdd, Nat.reduceLeDiff, Nat.reduceLT, Int.reduceToNat, Nat.left_eq_add, Nat.add_eq_left, Nat.add_left_cancel_iff, Nat.reduceEqDiff, Nat.add_assoc, Nat.succ_ne_zero]
  have h64 := hw.n64
  refine right_spec h ?_
  simp only [push_cast, Nat.reduceAdd, Nat.reduceLeDiff, Nat.reduceLT, Int.reduceToNat, Nat.left_eq_add, Nat.add_eq_left, Nat.add_left_cancel_iff, Nat.reduceEqDiff, Nat.add_assoc, Nat.succ_ne_zero]
  refine br_intro (fun e => ?_) fun e => ?_
  · exact h0 fun h => by simp [h.1, h.2] at e
  have e : portB s n ∧ momB now := by simpa using e
  obtain ⟨hpb, hnow⟩ := e
  have hpb' := hpb
  unfold portB at hpb'
  obtain ⟨i, hi⟩ : ∃ i : Nat, n = (i : Int) + 1 := ⟨(n - 1).toNat, by omega⟩
  obtain ⟨b, p, hb, hp⟩ := bs_at h.ps (show i < s.l.length by omega)
  have hc := h.ps.port i b p hb hp
  have hpp : ∀ q, (s.setP i q).l[i]? = some q := s.setP_get hp
  obtain ⟨g1, f1⟩ := h.stp hb hp (Prt.s_h_up p up)
  obtain ⟨g2, f2⟩ := g1.stp hb (hpp _) (Prt.s_h_has { p with h := { p.h with up := up } } false)
  obtain ⟨g3, f3⟩ := g2.stp hb (Sp.setP_get _ (hpp _) _) (Prt.s_edge { p with h := { p.h with up := up, has := false } } (up && edge))
  rw [Sp.setP_setP, Sp.setP_setP] at g3
  have hwf : (s.setP i (upQ p up edge)).wf := hw.setP hp ⟨rfl, rfl⟩ (upQ_ok (hw.l p (List.mem_of_getElem? hp)) _ _)
  simp only [push_cast, Nat.reduceAdd, Nat.reduceLeDiff, Nat.reduceLT, Int.reduceToNat, Nat.left_eq_add, Nat.add_eq_left, Nat.add_left_cancel_iff, Nat.reduceEqDiff, Nat.add_assoc, Nat.succ_ne_zero, h.ps.main]
  rw [wrap_i64 (by omega), show n - 1 = (i : Int) by omega]
  refine ld_ptr h.ps (Fr.refl _ _) hb ?_
  cases up
  all_goals
    simp only [push_cast, Nat.reduceAdd, Nat.reduceLeDiff, Nat.reduceLT, Int.reduceToNat, Nat.left_eq_add, Nat.add_eq_left, Nat.add_left_cancel_iff, Nat.reduceEqDiff, Nat.add_assoc, Nat.succ_ne_zero, hc]
    refine rreckon_spec g3 hwf hnow fun W1 h3 hF3 => ?_
    exact h1 i p _ hi hpb hnow hp h3 (((f1.trans f2).trans f3).trans hF3)

/-! ### What is heard -/

def heardV (b : Bpd) : Vec := { (ofV b 1).1 with own := 0 }
def hearC (p : Prt) (b : Bpd) : Prop := p.h.has = false ∨ ((heardV b).br = p.h.v.br ∧ (heardV b).port = p.h.v.port) ∨ cmpV (heardV b) p.h.v ≤ 0
instance (p : Prt) (b : Bpd) : Decidable (hearC p b) := by unfold hearC; infer_instance
def hearN (p : Prt) (b : Bpd) (now : Int) : Prt := { p with h := { p.h with v := heardV b, has := true }, age := b.age, until_ := now + 6 }
def hearP (p : Prt) (b : Bpd) (now : Int) : Prt := if hearC p b then hearN p b now else p

theorem ofV_ok {b : Bpd} (h : b.ok) {o : Int} (ho : isI o) : (ofV b o).1.ok := by
  unfold ofV
  split
  · exact zVec_ok
  · split
    · exact zVec_ok
    · exact ⟨h.2.2.1, h.2.2.2.1, h.2.2.2.2.1, h.2.2.2.2.2.1, ho⟩
theorem isI1 : isI 1 := isI_iff.2 (by omega)
theorem heardV_ok {b : Bpd} (h : b.ok) : (heardV b).ok := by
  obtain ⟨h1, h2, h3, h4, h5⟩ := ofV_ok h isI1
  exact ⟨h1, h2, h3, h4, isI0⟩
theorem hearP_ok {p : Prt} (h : p.ok) {b : Bpd} (hb : b.ok) {now : Int} (hn : momB now) : (hearP p b now).ok := by
  unfold hearP
  split
  · exact ⟨⟨h.1.1, h.1.2.1, heardV_ok hb⟩, hb.2.2.2.2.2.2.1, isIm hn (by decide) (by decide), h.2.2.2.1, h.2.2.2.2⟩
  · exact h
theorem hearP_same (p : Prt) (b : Bpd) (now : Int) : sameP p (hearP p b now) := by unfold hearP; split <;> exact ⟨rfl, rfl⟩
theorem hearP_inv {p : Prt} (h : p.inv) {b : Bpd} (hb : 0 ≤ b.age ∧ b.age ≤ 65535) (now : Int) : (hearP p b now).inv := by
  unfold hearP
  split
  · exact ⟨h.role, h.state, hb, h.reply⟩
  · exact h
theorem hearP_role (p : Prt) (b : Bpd) (now : Int) : (hearP p b now).role = p.role := by unfold hearP; split <;> rfl

theorem hears_spec {i b : Nat} {p : Prt} {x : Bpd} {now : Int} (h : CS w sp bs pv mb s) (hw : s.wf) (hb : bs[i]? = some b) (hp : s.l[i]? = some p) (hx : x.ok) (hn : momB now)
    (hk : ∀ w', CS w' sp bs pv mb (s.setP i (hearP p x now)) → Fr (fC sp bs mb) w w' → K (.tuple #[]) w') : CallsR Tryz.prog 42 #[pt b 0, .agg x.cells.toArray, i64 now] K w := by
  apply c42
  unfold p42
  have hpo := hw.l p (List.mem_of_getElem? hp)
  have h0 : (w.alloc (cellsO x.cells 38)).heap[w.heap.size]? = some (cellsO x.cells 38) := by simp only [push_cast, Nat.reduceAdd, Nat.reduceLeDiff, Nat.reduceLT, Int.reduceToNat, Nat.left_eq_add, Nat.add_eq_left, Nat.add_left_cancel_iff, Nat.reduceEqDiff, Nat.add_assoc, Nat.succ_ne_zero]
  have hF : Fr none_ w (w.alloc (cellsO x.cells 38)) := (by repeat' first | with_reducible exact Fr.refl _ _ | with_reducible refine Fr.step_alloc ?_ ?_ | with_reducible refine Fr.step_drew ?_ | with_reducible refine Fr.step_wr ?_ ?_ _ _ | exact rfl | exact Or.inr (by omega) | exact Or.inl rfl | exact Or.inl (Or.inl rfl) | exact Or.inl (Or.inr rfl))
  simp only [opS_box, cells_agg, alloc_cellsO]
  have hxs := lt_of_heap h0
  generalize w.alloc (cellsO x.cells 38) = W0 at *
  have hxb : w.heap.size ≤ w.heap.size := Nat.le_refl _
  generalize hxe : w.heap.size = xb at h0 hxs ⊢
  simp only [push_cast, Nat.reduceAdd, Nat.reduceLeDiff, Nat.reduceLT, Int.reduceToNat, Nat.left_eq_add, Nat.add_eq_left, Nat.add_left_cancel_iff, Nat.reduceEqDiff, Nat.add_assoc, Nat.succ_ne_zero, h0]
  refine of_spec hx fun W1 hF1 => ?_
  have hbl : b < w.heap.size := h.lt b (.inr (.inl (List.mem_of_getElem? hb)))
  have hc := hF1.heap (hF.heap (h.ps.port i b p hb hp) fun h => h) fun h => h
  have h1 := hF1.heap h0 fun h => h
  have hs1 := lt_of_heap h1
  have hne : ¬ b = W1.heap.size := by omega
  have hnx : ¬ xb = W1.heap.size := by omega
  simp only [push_cast, Nat.reduceAdd, Nat.reduceLeDiff, Nat.reduceLT, Int.reduceToNat, Nat.left_eq_add, Nat.add_eq_left, Nat.add_left_cancel_iff, Nat.reduceEqDiff, Nat.add_assoc, Nat.succ_ne_zero, hc, h1, hne, hnx]
  have hF2 := hF.trans hF1
  have hs2 := hF2.size
  refine at_w (fun W => W.heap[W1.heap.size]? = some (cellsO (heardV x).cells 44) ∧ W.heap[W1.heap.size + 1]? = some (cellsO p.h.v.cells 44) ∧ W.heap[xb]? = some (cellsO x.cells 38) ∧ Fr none_ w W) ⟨?_, ?_, ?_, ?_⟩ ?_
  · simp only [push_cast, Nat.reduceAdd, Nat.reduceLeDiff, Nat.reduceLT, Int.reduceToNat, Nat.left_eq_add, Nat.add_eq_left, Nat.add_left_cancel_iff, Nat.reduceEqDiff, Nat.add_assoc, Nat.succ_ne_zero]; rfl
  · simp only [push_cast, Nat.reduceAdd, Nat.reduceLeDiff, Nat.reduceLT, Int.reduceToNat, Nat.left_eq_add, Nat.add_eq_left, Nat.add_left_cancel_iff, Nat.reduceEqDiff, Nat.add_assoc, Nat.succ_ne_zero]
  · have hnx2 : ¬ xb = W1.heap.size + 1 := by omega
    simp only [push_cast, Nat.reduceAdd, Nat.reduceLeDiff, Nat.reduceLT, Int.reduceToNat, Nat.left_eq_add, Nat.add_eq_left, Nat.add_left_cancel_iff, Nat.reduceEqDiff, Nat.add_assoc, Nat.succ_ne_zero, h1, hnx, hnx2]
  · exact hF2.trans (by repeat' first | with_reducible exact Fr.refl _ _ | with_reducible refine Fr.step_alloc ?_ ?_ | with_reducible refine Fr.step_drew ?_ | with_reducible refine Fr.step_wr ?_ ?_ _ _ | exact rfl | exact Or.inr (by omega) | exact Or.inl rfl | exact Or.inl (Or.inl rfl) | exact Or.inl (Or.inr rfl))
  rintro W ⟨v1, o1, x1, f1⟩
  have hI := h.fr0 f1
  have hc1 := hI.ps.port i b p hb hp
  generalize W1.heap.size = vb at *
  have hvo := heardV_ok hx
  have hw6 := wrapm hn (show (0 : Int) ≤ 6 by decide) (by decide)
  refine jn1 (fun v W' => v = .bool (decide ((heardV x).br = p.h.v.br ∧ (heardV x).port = p.h.v.port)) ∧ W' = W) ?_ fun j hj => ?_
  · rintro v W' ⟨rfl, rfl⟩
    refine jn0 (fun W2 => hearC p x ∧ CS W2 sp bs pv mb s ∧ W2.heap[vb]? = some (cellsO (heardV x).cells 44) ∧ W2.heap[xb]? = some (cellsO x.cells 38) ∧ Fr none_ w W2) ?_ fun j hj => ?_
    · rintro W2 ⟨hC, hI2, v2, x2, f2⟩
      have hc2 := hI2.ps.port i b p hb hp
      have hbx : ¬ b = xb := by omega
      have hbx' : ¬ xb = b := by omega
      have hdone : ∀ {W3 : World}, CS W3 sp bs pv mb s → Fr none_ w W3 → K (.tuple #[]) (wr (wr (wr (wr W3 b 4 (heardV x).cells) b 3 [.bool true]) b 21 [i64 x.age]) b 22 [i64 (now + 6)]) := fun {W3} hI3 f3 => by
        have hpp : ∀ q, (s.setP i q).l[i]? = some q := s.setP_get hp
        obtain ⟨g1, e1⟩ := hI3.stp hb hp (Prt.s_h_v p (heardV x))
        obtain ⟨g2, e2⟩ := g1.stp hb (hpp _) (Prt.s_h_has { p with h := { p.h with v := heardV x } } true)
        rw [Sp.setP_setP] at g2
        obtain ⟨g3, e3⟩ := g2.stp hb (hpp _) (Prt.s_age { p with h := { p.h with v := heardV x, has := true } } x.age)
        rw [Sp.setP_setP] at g3
        obtain ⟨g4, e4⟩ := g3.stp hb (hpp _) (Prt.s_until { p with h := { p.h with v := heardV x, has := true }, age := x.age } (now + 6))
        rw [Sp.setP_setP] at g4
        refine hk _ ?_ ((f3.mono fun _ _ h => h.elim).trans (((e1.trans e2).trans e3).trans e4))
        unfold hearP; rw [if_pos hC]; exact g4
      simp only [drw_eq]
      replace hI2 := hI2.fr0 (Fr.drew W2)
      replace f2 := f2.trans (Fr.drew W2)
      have hc3 : W2.drew.heap[b]? = some (cellsO p.cells 63) := hc2
      have v3 : W2.drew.heap[vb]? = some (cellsO (heardV x).cells 44) := v2
      have x3 : W2.drew.heap[xb]? = some (cellsO x.cells 38) := x2
      generalize W2.drew = W3 at *
      simp only [push_cast, Nat.reduceAdd, Nat.reduceLeDiff, Nat.reduceLT, Int.reduceToNat, Nat.left_eq_add, Nat.add_eq_left, Nat.add_left_cancel_iff, Nat.reduceEqDiff, Nat.add_assoc, Nat.succ_ne_zero, v3, x3, hc3, hw6, hbx, hbx']
      refine allW_intro ?_ ?_
      · simp only [push_cast, Nat.reduceAdd, Nat.reduceLeDiff, Nat.reduceLT, Int.reduceToNat, Nat.left_eq_add, Nat.add_eq_left, Nat.add_left_cancel_iff, Nat.reduceEqDiff, Nat.add_assoc, Nat.succ_ne_zero, v3, x3, hc3, hw6, hbx, hbx']
        exact hdone hI2 f2
      · simp only [push_cast, Nat.reduceAdd, Nat.reduceLeDiff, Nat.reduceLT, Int.reduceToNat, Nat.left_eq_add, Nat.add_eq_left, Nat.add_left_cancel_iff, Nat.reduceEqDiff, Nat.add_assoc, Nat.succ_ne_zero, v3, x3, hc3, hw6, hbx, hbx']
        refine allW_intro ?_ ?_
        all_goals
          simp only [push_cast, Nat.reduceAdd, Nat.reduceLeDiff, Nat.reduceLT, Int.reduceToNat, Nat.left_eq_add, Nat.add_eq_left, Nat.add_left_cancel_iff, Nat.reduceEqDiff, Nat.add_assoc, Nat.succ_ne_zero, v3, x3, hc3, hw6, hbx, hbx']
          exact hdone hI2 f2
    · simp only [push_cast, Nat.reduceAdd, Nat.reduceLeDiff, Nat.reduceLT, Int.reduceToNat, Nat.left_eq_add, Nat.add_eq_left, Nat.add_left_cancel_iff, Nat.reduceEqDiff, Nat.add_assoc, Nat.succ_ne_zero, hc1]
      refine br_intro (fun e => ?_) fun e => ?_
      · have e : p.h.has = false := by simpa using e
        exact hj _ ⟨.inl e, hI, v1, x1, f1⟩
      have e : p.h.has ≠ false := by simpa using e
      refine br_intro (fun e2 => ?_) fun e2 => ?_
      · have e2 : (heardV x).br = p.h.v.br ∧ (heardV x).port = p.h.v.port := by simpa using e2
        exact hj _ ⟨.inr (.inl e2), hI, v1, x1, f1⟩
      have e2 : ¬ ((heardV x).br = p.h.v.br ∧ (heardV x).port = p.h.v.port) := by simpa using e2
      simp only [push_cast, Nat.reduceAdd, Nat.reduceLeDiff, Nat.reduceLT, Int.reduceToNat, Nat.left_eq_add, Nat.add_eq_left, Nat.add_left_cancel_iff, Nat.reduceEqDiff, Nat.add_assoc, Nat.succ_ne_zero, v1, o1]
      refine vcmp_spec hvo hpo.1.2.2 fun W4 hF4 => ?_
      simp only [push_cast, Nat.reduceAdd, Nat.reduceLeDiff, Nat.reduceLT, Int.reduceToNat, Nat.left_eq_add, Nat.add_eq_left, Nat.add_left_cancel_iff, Nat.reduceEqDiff, Nat.add_assoc, Nat.succ_ne_zero]
      refine br_dec (fun e3 => ?_) fun e3 => ?_
      · exact hj _ ⟨.inr (.inr e3), hI.fr0 hF4, hF4.heap v1 fun h => h, hF4.heap x1 fun h => h, f1.trans hF4⟩
      · refine hk _ ?_ ((f1.trans hF4).mono fun _ _ h => h.elim)
        unfold hearP
        rw [if_neg (fun h => h.elim e fun h => h.elim e2 e3), s.setP_same hp]
        exact hI.fr0 hF4
  · simp only [push_cast, Nat.reduceAdd, Nat.reduceLeDiff, Nat.reduceLT, Int.reduceToNat, Nat.left_eq_add, Nat.add_eq_left, Nat.add_left_cancel_iff, Nat.reduceEqDiff, Nat.add_assoc, Nat.succ_ne_zero, v1, o1]
    refine s_eqId hvo.2.2.1 hpo.1.2.2.2.2.1 ?_
    simp only [push_cast, Nat.reduceAdd, Nat.reduceLeDiff, Nat.reduceLT, Int.reduceToNat, Nat.left_eq_add, Nat.add_eq_left, Nat.add_left_cancel_iff, Nat.reduceEqDiff, Nat.add_assoc, Nat.succ_ne_zero]
    refine br_dec (fun e => ?_) fun e => ?_
    · simp only [push_cast, Nat.reduceAdd, Nat.reduceLeDiff, Nat.reduceLT, Int.reduceToNat, Nat.left_eq_add, Nat.add_eq_left, Nat.add_left_cancel_iff, Nat.reduceEqDiff, Nat.add_assoc, Nat.succ_ne_zero, v1, o1]
      exact hj _ _ ⟨by congr 1; exact decide_eq_decide.2 ⟨fun h => ⟨e, h⟩, fun h => h.2⟩, rfl⟩
    · exact hj _ _ ⟨by rw [decide_eq_false (fun h => e h.1)], rfl⟩

theorem rhears_spec {i b : Nat} {p : Prt} {x : Bpd} {now : Int} {rp : Value} (h : RS w sp bs pv fv s) (hw : s.wf) (hb : bs[i]? = some b) (hp : s.l[i]? = some p) (hx : x.ok) (hn : momB now)
    (hk : ∀ w', RS w' sp bs pv fv (s.setP i (hearP p x now)) → Fr (fR sp bs fv) w w' → K (.tuple #[]) w') : CallsR Tryz.prog 49 #[rp, pt b 0, .agg x.cells.toArray, i64 now] K w := by
  apply c49
  unfold p49
  have hpo := hw.l p (List.mem_of_getElem? hp)
  have h0 : (w.alloc (cellsO x.cells 38)).heap[w.heap.size]? = some (cellsO x.cells 38) := by simp only [push_cast, Nat.reduceAdd, Nat.reduceLeDiff, Nat.reduceLT, Int.reduceToNat, Nat.left_eq_add, Nat.add_eq_left, Nat.add_left_cancel_iff, Nat.reduceEqDiff, Nat.add_assoc, Nat.succ_ne_zero]
  have hF : Fr none_ w (w.alloc (cellsO x.cells 38)) := (by repeat' first | with_reducible exact Fr.refl _ _ | with_reducible refine Fr.step_alloc ?_ ?_ | with_reducible refine Fr.step_drew ?_ | with_reducible refine Fr.step_wr ?_ ?_ _ _ | exact rfl | exact Or.inr (by omega) | exact Or.inl rfl | exact Or.inl (Or.inl rfl) | exact Or.inl (Or.inr rfl))
  simp only [opS_box, cells_agg, alloc_cellsO]
  have hxs := lt_of_heap h0
  generalize w.alloc (cellsO x.cells 38) = W0 at *
  have hxb : w.heap.size ≤ w.heap.size := Nat.le_refl _
  generalize hxe : w.heap.size = xb at h0 hxs ⊢
  simp only [push_cast, Nat.reduceAdd, Nat.reduceLeDiff, Nat.reduceLT, Int.reduceToNat, Nat.left_eq_add, Nat.add_eq_left, Nat.add_left_cancel_iff, Nat.reduceEqDiff, Nat.add_assoc, Nat.succ_ne_zero, h0]
  refine rof_spec hx fun W1 hF1 => ?_
  have hbl : b < w.heap.size := h.lt b (.inr (.inl (List.mem_of_getElem? hb)))
  have hc := hF1.heap (hF.heap (h.ps.port i b p hb hp) fun h => h) fun h => h
  have h1 := hF1.heap h0 fun h => h
  have hs1 := lt_of_heap h1
  have hne : ¬ b = W1.heap.size := by omega
  have hnx : ¬ xb = W1.heap.size := by omega
  simp only [push_cast, Nat.reduceAdd, Nat.reduceLeDiff, Nat.reduceLT, Int.reduceToNat, Nat.left_eq_add, Nat.add_eq_left, Nat.add_left_cancel_iff, Nat.reduceEqDiff, Nat.add_assoc, Nat.succ_ne_zero, hc, h1, hne, hnx]
  have hF2 := hF.trans hF1
  have hs2 := hF2.size
  refine at_w (fun W => W.heap[W1.heap.size]? = some (cellsO (heardV x).cells 44) ∧ W.heap[W1.heap.size + 1]? = some (cellsO p.h.cells 61) ∧ W.heap[xb]? = some (cellsO x.cells 38) ∧ Fr none_ w W) ⟨?_, ?_, ?_, ?_⟩ ?_
  · simp only [push_cast, Nat.reduceAdd, Nat.reduceLeDiff, Nat.reduceLT, Int.reduceToNat, Nat.left_eq_add, Nat.add_eq_left, Nat.add_left_cancel_iff, Nat.reduceEqDiff, Nat.add_assoc, Nat.succ_ne_zero]; rfl
  · simp only [push_cast, Nat.reduceAdd, Nat.reduceLeDiff, Nat.reduceLT, Int.reduceToNat, Nat.left_eq_add, Nat.add_eq_left, Nat.add_left_cancel_iff, Nat.reduceEqDiff, Nat.add_assoc, Nat.succ_ne_zero]
  · have hnx2 : ¬ xb = W1.heap.size + 1 := by omega
    simp only [push_cast, Nat.reduceAdd, Nat.reduceLeDiff, Nat.reduceLT, Int.reduceToNat, Nat.left_eq_add, Nat.add_eq_left, Nat.add_left_cancel_iff, Nat.reduceEqDiff, Nat.add_assoc, Nat.succ_ne_zero, h1, hnx, hnx2]
  · exact hF2.trans (by repeat' first | with_reducible exact Fr.refl _ _ | with_reducible refine Fr.step_alloc ?_ ?_ | with_reducible refine Fr.step_drew ?_ | with_reducible refine Fr.step_wr ?_ ?_ _ _ | exact rfl | exact Or.inr (by omega) | exact Or.inl rfl | exact Or.inl (Or.inl rfl) | exact Or.inl (Or.inr rfl))
  rintro W ⟨v1, o1, x1, f1⟩
  have hI := h.fr0 f1
  have hc1 := hI.ps.port i b p hb hp
  generalize W1.heap.size = vb at *
  have hvo := heardV_ok hx
  have hw6 := wrapm hn (show (0 : Int) ≤ 6 by decide) (by decide)
  refine jn0 (fun W2 => hearC p x ∧ RS W2 sp bs pv fv s ∧ W2.heap[vb]? = some (cellsO (heardV x).cells 44) ∧ W2.heap[xb]? = some (cellsO x.cells 38) ∧ Fr none_ w W2) ?_ fun j hj => ?_
  · rintro W3 ⟨hC, hI3, v3, x3, f3⟩
    have hc3 := hI3.ps.port i b p hb hp
    have hbx : ¬ b = xb := by omega
    have hbx' : ¬ xb = b := by omega
    have hpp : ∀ q, (s.setP i q).l[i]? = some q := s.setP_get hp
    obtain ⟨g1, e1⟩ := hI3.stp hb hp (Prt.s_h_v p (heardV x))
    obtain ⟨g2, e2⟩ := g1.stp hb (hpp _) (Prt.s_h_has { p with h := { p.h with v := heardV x } } true)
    rw [Sp.setP_setP] at g2
    obtain ⟨g3, e3⟩ := g2.stp hb (hpp _) (Prt.s_age { p with h := { p.h with v := heardV x, has := true } } x.age)
    rw [Sp.setP_setP] at g3
    obtain ⟨g4, e4⟩ := g3.stp hb (hpp _) (Prt.s_until { p with h := { p.h with v := heardV x, has := true }, age := x.age } (now + 6))
    rw [Sp.setP_setP] at g4
    simp only [push_cast, Nat.reduceAdd, Nat.reduceLeDiff, Nat.reduceLT, Int.reduceToNat, Nat.left_eq_add, Nat.add_eq_left, Nat.add_left_cancel_iff, Nat.reduceEqDiff, Nat.add_assoc, Nat.succ_ne_zero, v3, x3, hc3, hw6, hbx, hbx']
    refine hk _ ?_ ((f3.mono fun _ _ h => h.elim).trans (((e1.trans e2).trans e3).trans e4))
    unfold hearP; rw [if_pos hC]; exact g4
  · simp only [push_cast, Nat.reduceAdd, Nat.reduceLeDiff, Nat.reduceLT, Int.reduceToNat, Nat.left_eq_add, Nat.add_eq_left, Nat.add_left_cancel_iff, Nat.reduceEqDiff, Nat.add_assoc, Nat.succ_ne_zero, o1]
    refine br_intro (fun e => ?_) fun e => ?_
    · have e : p.h.has = false := by simpa using e
      exact hj _ ⟨.inl e, hI, v1, x1, f1⟩
    have e : p.h.has ≠ false := by simpa using e
    simp only [push_cast, Nat.reduceAdd, Nat.reduceLeDiff, Nat.reduceLT, Int.reduceToNat, Nat.left_eq_add, Nat.add_eq_left, Nat.add_left_cancel_iff, Nat.reduceEqDiff, Nat.add_assoc, Nat.succ_ne_zero, v1, o1]
    refine rvcmp_spec hvo hpo.1.2.2 fun W4 hF4 => ?_
    replace hI := hI.fr0 hF4
    replace v1 := hF4.heap v1 fun h => h
    replace o1 := hF4.heap o1 fun h => h
    replace x1 := hF4.heap x1 fun h => h
    replace f1 := f1.trans hF4
    have hno : ¬ hearC p x → K (.tuple #[]) W4 := fun hC => by
      refine hk _ ?_ (f1.mono fun _ _ h => h.elim)
      unfold hearP
      rw [if_neg hC, s.setP_same hp]
      exact hI
    simp only [push_cast, Nat.reduceAdd, Nat.reduceLeDiff, Nat.reduceLT, Int.reduceToNat, Nat.left_eq_add, Nat.add_eq_left, Nat.add_left_cancel_iff, Nat.reduceEqDiff, Nat.add_assoc, Nat.succ_ne_zero]
    refine br_dec (fun e3 => ?_) fun e3 => ?_
    · exact hj _ ⟨.inr (.inr e3), hI, v1, x1, f1⟩
    simp only [push_cast, Nat.reduceAdd, Nat.reduceLeDiff, Nat.reduceLT, Int.reduceToNat, Nat.left_eq_add, Nat.add_eq_left, Nat.add_left_cancel_iff, Nat.reduceEqDiff, Nat.add_assoc, Nat.succ_ne_zero, v1, o1]
    refine s_eqId hvo.2.2.1 hpo.1.2.2.2.2.1 ?_
    simp only [push_cast, Nat.reduceAdd, Nat.reduceLeDiff, Nat.reduceLT, Int.reduceToNat, Nat.left_eq_add, Nat.add_eq_left, Nat.add_left_cancel_iff, Nat.reduceEqDiff, Nat.add_assoc, Nat.succ_ne_zero]
    refine br_dec (fun e4 => ?_) fun e4 => ?_
    · simp only [push_cast, Nat.reduceAdd, Nat.reduceLeDiff, Nat.reduceLT, Int.reduceToNat, Nat.left_eq_add, Nat.add_eq_left, Nat.add_left_cancel_iff, Nat.reduceEqDiff, Nat.add_assoc, Nat.succ_ne_zero, v1, o1]
      refine br_dec (fun e5 => ?_) fun e5 => ?_
      · exact hj _ ⟨.inr (.inl ⟨e4, e5⟩), hI, v1, x1, f1⟩
      · exact hno fun h => h.elim e fun h => h.elim (fun h => e5 h.2) e3
    · exact hno fun h => h.elim e fun h => h.elim (fun h => e4 h.1) e3

/-! ### What is proposed -/

def Sp.propS (s : Sp) (r0 : Int) (k : Nat) (now : Int) : Sp := match s.l[k]? with
  | none => s
  | some q => if r0 = 1 ∧ q.role = 2 ∧ q.edge = false ∧ q.agreed = false then s.setP k (holdP q now) else s
def Sp.propK (s : Sp) (r0 now : Int) : Nat → Sp
  | 0 => s
  | k + 1 => (s.propK r0 now k).propS r0 k now
def Sp.propP (s : Sp) (i : Nat) (p : Prt) (now : Int) : Sp := (s.propK p.role now s.l.length).setP i { p with reply := decide (p.role ≠ 2) && decide (p.role ≠ 0) }

theorem propS_len (s : Sp) (r0 : Int) (k : Nat) (now : Int) : (s.propS r0 k now).l.length = s.l.length := by
  unfold Sp.propS
  split
  · rfl
  · split
    · rw [setP_len]
    · rfl
theorem propK_len (s : Sp) (r0 now : Int) : ∀ k, (s.propK r0 now k).l.length = s.l.length
  | 0 => rfl
  | k + 1 => by
    show ((s.propK r0 now k).propS r0 k now).l.length = _
    rw [propS_len, propK_len s r0 now k]
theorem propS_at (s : Sp) {i : Nat} {p : Prt} (h : s.l[i]? = some p) (k : Nat) (now : Int) : (s.propS p.role k now).l[i]? = some p := by
  unfold Sp.propS
  split
  · exact h
  · rename_i q hq
    split
    · rename_i hc
      by_cases e : k = i
      · subst e
        rw [h] at hq; cases hq
        have := hc.1; have := hc.2.1; omega
      · rw [Sp.setP_ne s e]; exact h
    · exact h
theorem propK_at (s : Sp) {i : Nat} {p : Prt} (h : s.l[i]? = some p) (now : Int) : ∀ k, (s.propK p.role now k).l[i]? = some p
  | 0 => h
  | k + 1 => propS_at _ (propK_at s h now k) k now
theorem propK_ne (s : Sp) {r0 : Int} (h : r0 ≠ 1) (now : Int) : ∀ k, s.propK r0 now k = s
  | 0 => rfl
  | k + 1 => by
    show (s.propK r0 now k).propS r0 k now = s
    rw [propK_ne s h now k]
    unfold Sp.propS
    split
    · rfl
    · rw [if_neg (fun h' => h h'.1)]
theorem Sp.wf.propS (h : s.wf) (r0 : Int) (k : Nat) {now : Int} (hn : momB now) : (s.propS r0 k now).wf := by
  unfold Sp.propS
  split
  · exact h
  · rename_i q hq
    split
    · exact h.holdP hq hn
    · exact h
theorem Sp.wf.propK (h : s.wf) (r0 : Int) {now : Int} (hn : momB now) : ∀ k, (s.propK r0 now k).wf
  | 0 => h
  | k + 1 => (Sp.wf.propK h r0 hn k).propS r0 k hn
theorem Sp.wf.propP (h : s.wf) {i : Nat} {p : Prt} (hp : s.l[i]? = some p) {now : Int} (hn : momB now) : (s.propP i p now).wf :=
  (h.propK p.role hn _).setP (propK_at s hp now _) ⟨rfl, rfl⟩ (h.l p (List.mem_of_getElem? hp)) fun h => ⟨h.role, h.state, h.age, fun e => by
    have e : p.role = 2 := e
    show (decide (p.role ≠ 2) && _) = false
    rw [e]; rfl⟩
theorem propP_len (s : Sp) (i : Nat) (p : Prt) (now : Int) : (s.propP i p now).l.length = s.l.length := by unfold Sp.propP; rw [setP_len, propK_len]

theorem proposed_spec {i b : Nat} {p : Prt} {now : Int} (h : CS w sp bs pv mb s) (hw : s.wf) (hb : bs[i]? = some b) (hp : s.l[i]? = some p) (hn : momB now)
    (hk : ∀ w', CS w' sp bs pv mb (s.propP i p now) → Fr (fC sp bs mb) w w' → K (.tuple #[]) w') : CallsR Tryz.prog 44 #[pt sp 0, pt b 0, i64 now] K w := by
  apply c44
  unfold p44
  have h64 := hw.n64
  simp only [push_cast, Nat.reduceAdd, Nat.reduceLeDiff, Nat.reduceLT, Int.reduceToNat, Nat.left_eq_add, Nat.add_eq_left, Nat.add_left_cancel_iff, Nat.reduceEqDiff, Nat.add_assoc, Nat.succ_ne_zero, h.ps.main]
  rw [h.ps.lenv]
  refine jn0 (fun W => CS W sp bs pv mb (s.propK p.role now s.l.length) ∧ Fr (fC sp bs mb) w W) ?_ fun j hj => ?_
  · rintro W ⟨hI, hF⟩
    have hp1 := propK_at s hp now s.l.length
    have hc := hI.ps.port i b p hb hp1
    obtain ⟨g1, f1⟩ := hI.stp hb hp1 (Prt.s_reply p (decide (p.role ≠ 2) && decide (p.role ≠ 0)))
    have hfin := hk _ g1 (hF.trans f1)
    try simp only [push_cast, Nat.reduceAdd, Nat.reduceLeDiff, Nat.reduceLT, Int.reduceToNat, Nat.left_eq_add, Nat.add_eq_left, Nat.add_left_cancel_iff, Nat.reduceEqDiff, Nat.add_assoc, Nat.succ_ne_zero, hc]
    refine br_intro (fun e => ?_) fun e => ?_
    · have e : p.role ≠ 2 := by simpa using e
      rw [decide_eq_true e, Bool.true_and] at hfin
      try simp only [push_cast, Nat.reduceAdd, Nat.reduceLeDiff, Nat.reduceLT, Int.reduceToNat, Nat.left_eq_add, Nat.add_eq_left, Nat.add_left_cancel_iff, Nat.reduceEqDiff, Nat.add_assoc, Nat.succ_ne_zero, hc]
      have eb : (p.role != 0) = decide (p.role ≠ 0) := by by_cases h : p.role = 0 <;> simp [h]
      first | exact hfin | (rw [eb]; exact hfin) | (simp only [decide_not] at hfin; exact hfin)
    · have e : ¬ p.role ≠ 2 := by simpa using e
      rw [decide_eq_false e, Bool.false_and] at hfin
      try simp only [push_cast, Nat.reduceAdd, Nat.reduceLeDiff, Nat.reduceLT, Int.reduceToNat, Nat.left_eq_add, Nat.add_eq_left, Nat.add_left_cancel_iff, Nat.reduceEqDiff, Nat.add_assoc, Nat.succ_ne_zero, hc]
      exact hfin
  · refine loop1 (fun n u W => ∃ k : Nat, k ≤ s.l.length ∧ n = s.l.length - k ∧ u = i64 k ∧ CS W sp bs pv mb (s.propK p.role now k) ∧ Fr (fC sp bs mb) w W) ?_ s.l.length ⟨0, by omega, rfl, rfl, h, Fr.refl _ _⟩
    rintro n u W X ⟨k, hk2, rfl, rfl, hI, hF⟩ hX
    simp only [push_cast, Nat.reduceAdd, Nat.reduceLeDiff, Nat.reduceLT, Int.reduceToNat, Nat.left_eq_add, Nat.add_eq_left, Nat.add_left_cancel_iff, Nat.reduceEqDiff, Nat.add_assoc, Nat.succ_ne_zero]
    refine br_dec (fun hlt => ?_) fun hge => ?_
    · have hkl : k < s.l.length := by omega
      have hwk : IntKind.i64.wrap ((k : Int) + 1) = ((k + 1 : Nat) : Int) := by rw [wrap_i64 (by omega)]; rfl
      obtain ⟨c, q, hcb, hq⟩ := bs_at hI.ps (show k < (s.propK p.role now k).l.length by rw [propK_len]; exact hkl)
      have hp1 := propK_at s hp now k
      have hc := hI.ps.port i b p hb hp1
      have hcq := hI.ps.port k c q hcb hq
      have hstay : ¬ (p.role = 1 ∧ q.role = 2 ∧ q.edge = false ∧ q.agreed = false) → X (i64 ((k + 1 : Nat) : Int)) W := fun hC => by
        refine hX (s.l.length - (k + 1)) _ _ (by omega) ⟨k + 1, by omega, rfl, rfl, ?_, hF⟩
        show CS W sp bs pv mb ((s.propK p.role now k).propS p.role k now)
        unfold Sp.propS
        rw [hq]; simp only []
        rw [if_neg hC]; exact hI
      refine ld_ptr hI.ps (Fr.refl _ _) hcb ?_
      try simp only [push_cast, Nat.reduceAdd, Nat.reduceLeDiff, Nat.reduceLT, Int.reduceToNat, Nat.left_eq_add, Nat.add_eq_left, Nat.add_left_cancel_iff, Nat.reduceEqDiff, Nat.add_assoc, Nat.succ_ne_zero, hc]
      refine br_dec (fun e1 => ?_) fun e1 => ?_
      · refine s_neP hcq hc ?_
        simp only [push_cast, Nat.reduceAdd, Nat.reduceLeDiff, Nat.reduceLT, Int.reduceToNat, Nat.left_eq_add, Nat.add_eq_left, Nat.add_left_cancel_iff, Nat.reduceEqDiff, Nat.add_assoc, Nat.succ_ne_zero]
        refine br_intro (fun e2 => ?_) fun e2 => ?_
        · try simp only [push_cast, Nat.reduceAdd, Nat.reduceLeDiff, Nat.reduceLT, Int.reduceToNat, Nat.left_eq_add, Nat.add_eq_left, Nat.add_left_cancel_iff, Nat.reduceEqDiff, Nat.add_assoc, Nat.succ_ne_zero, hcq]
          refine br_dec (fun e3 => ?_) fun e3 => ?_
          · try simp only [push_cast, Nat.reduceAdd, Nat.reduceLeDiff, Nat.reduceLT, Int.reduceToNat, Nat.left_eq_add, Nat.add_eq_left, Nat.add_left_cancel_iff, Nat.reduceEqDiff, Nat.add_assoc, Nat.succ_ne_zero, hcq]
            refine br_intro (fun e4 => ?_) fun e4 => ?_
            · have e4 : q.edge = false := by simpa using e4
              try simp only [push_cast, Nat.reduceAdd, Nat.reduceLeDiff, Nat.reduceLT, Int.reduceToNat, Nat.left_eq_add, Nat.add_eq_left, Nat.add_left_cancel_iff, Nat.reduceEqDiff, Nat.add_assoc, Nat.succ_ne_zero, hcq]
              refine br_intro (fun e5 => ?_) fun e5 => ?_
              · have e5 : q.agreed = false := by simpa using e5
                try rw [opS_cl]
                refine holds_spec hI hcb hq hn fun W2 h2 f2 => ?_
                try simp only [push_cast, Nat.reduceAdd, Nat.reduceLeDiff, Nat.reduceLT, Int.reduceToNat, Nat.left_eq_add, Nat.add_eq_left, Nat.add_left_cancel_iff, Nat.reduceEqDiff, Nat.add_assoc, Nat.succ_ne_zero, hwk]
                refine hX (s.l.length - (k + 1)) _ _ (by omega) ⟨k + 1, by omega, rfl, rfl, ?_, hF.trans f2⟩
                show CS W2 sp bs pv mb ((s.propK p.role now k).propS p.role k now)
                unfold Sp.propS
                rw [hq]; simp only []
                rw [if_pos ⟨e1, e3, e4, e5⟩]; exact h2
              · have e5 : ¬ q.agreed = false := by simpa using e5
                try simp only [push_cast, Nat.reduceAdd, Nat.reduceLeDiff, Nat.reduceLT, Int.reduceToNat, Nat.left_eq_add, Nat.add_eq_left, Nat.add_left_cancel_iff, Nat.reduceEqDiff, Nat.add_assoc, Nat.succ_ne_zero, hwk]
                exact hstay fun h => e5 h.2.2.2
            · have e4 : ¬ q.edge = false := by simpa using e4
              try simp only [push_cast, Nat.reduceAdd, Nat.reduceLeDiff, Nat.reduceLT, Int.reduceToNat, Nat.left_eq_add, Nat.add_eq_left, Nat.add_left_cancel_iff, Nat.reduceEqDiff, Nat.add_assoc, Nat.succ_ne_zero, hwk]
              exact hstay fun h => e4 h.2.2.1
          · try simp only [push_cast, Nat.reduceAdd, Nat.reduceLeDiff, Nat.reduceLT, Int.reduceToNat, Nat.left_eq_add, Nat.add_eq_left, Nat.add_left_cancel_iff, Nat.reduceEqDiff, Nat.add_assoc, Nat.succ_ne_zero, hwk]
            exact hstay fun h => e3 h.2.1
        · have e2 : c = b := by simpa using e2
          have hki : k = i := hI.ps.inj hcb (e2 ▸ hb)
          try simp only [push_cast, Nat.reduceAdd, Nat.reduceLeDiff, Nat.reduceLT, Int.reduceToNat, Nat.left_eq_add, Nat.add_eq_left, Nat.add_left_cancel_iff, Nat.reduceEqDiff, Nat.add_assoc, Nat.succ_ne_zero, hwk]
          refine hstay fun h => ?_
          subst hki
          rw [hp1] at hq; cases hq
          have := h.1; have := h.2.1; omega
      · try simp only [push_cast, Nat.reduceAdd, Nat.reduceLeDiff, Nat.reduceLT, Int.reduceToNat, Nat.left_eq_add, Nat.add_eq_left, Nat.add_left_cancel_iff, Nat.reduceEqDiff, Nat.add_assoc, Nat.succ_ne_zero, hwk]
        exact hstay fun h => e1 h.1
    · obtain rfl : k = s.l.length := by omega
      exact hj _ ⟨hI, hF⟩

instance : PtT Tryz.prog 68 := ⟨_, _, Tryz.underlying68, rfl, by decide⟩

theorem rproposed_spec {i : Nat} {n : Int} {p : Prt} {now : Int} (h : RS w sp bs pv fv s) (hw : s.wf) (hp : s.l[i]? = some p) (hi : n = (i : Int) + 1) (hn : momB now)
    (hk : ∀ w', RS w' sp bs pv fv (s.propP i p now) → Fr (fR sp bs fv) w w' → K (.tuple #[]) w') : CallsR Tryz.prog 51 #[pt sp 0, i64 n, i64 now] K w := by
  apply c51
  unfold p51
  have h64 := hw.n64
  have hil := (List.getElem?_eq_some_iff.1 hp).1
  obtain ⟨b, _, hb, _⟩ := bs_at h.ps hil
  simp only [push_cast, Nat.reduceAdd, Nat.reduceLeDiff, Nat.reduceLT, Int.reduceToNat, Nat.left_eq_add, Nat.add_eq_left, Nat.add_left_cancel_iff, Nat.reduceEqDiff, Nat.add_assoc, Nat.succ_ne_zero, h.ps.main]
  rw [wrap_i64 (by omega), show n - 1 = (i : Int) by omega]
  refine ld_ptr h.ps (Fr.refl _ _) hb ?_
  refine jn0 (fun W => RS W sp bs pv fv (s.propK p.role now s.l.length) ∧ Fr (fR sp bs fv) w W) ?_ fun j hj => ?_
  · rintro W ⟨hI, hF⟩
    have hp1 := propK_at s hp now s.l.length
    have hc := hI.ps.port i b p hb hp1
    obtain ⟨g1, f1⟩ := hI.stp hb hp1 (Prt.s_reply p (decide (p.role ≠ 2) && decide (p.role ≠ 0)))
    have hfin := hk _ g1 (hF.trans f1)
    have hrl := (hw.rl p (List.mem_of_getElem? hp)).role
    simp only [push_cast, Nat.reduceAdd, Nat.reduceLeDiff, Nat.reduceLT, Int.reduceToNat, Nat.left_eq_add, Nat.add_eq_left, Nat.add_left_cancel_iff, Nat.reduceEqDiff, Nat.add_assoc, Nat.succ_ne_zero, hc]
    refine br_dec (fun e => ?_) fun e => ?_
    · try simp only [push_cast, Nat.reduceAdd, Nat.reduceLeDiff, Nat.reduceLT, Int.reduceToNat, Nat.left_eq_add, Nat.add_eq_left, Nat.add_left_cancel_iff, Nat.reduceEqDiff, Nat.add_assoc, Nat.succ_ne_zero, hc]
      rw [decide_eq_true (show p.role ≠ 2 by omega), decide_eq_true (show p.role ≠ 0 by omega)] at hfin
      exact hfin
    · try simp only [push_cast, Nat.reduceAdd, Nat.reduceLeDiff, Nat.reduceLT, Int.reduceToNat, Nat.left_eq_add, Nat.add_eq_left, Nat.add_left_cancel_iff, Nat.reduceEqDiff, Nat.add_assoc, Nat.succ_ne_zero, hc]
      refine br_dec (fun e => ?_) fun e => ?_
      · try simp only [push_cast, Nat.reduceAdd, Nat.reduceLeDiff, Nat.reduceLT, Int.reduceToNat, Nat.left_eq_add, Nat.add_eq_left, Nat.add_left_cancel_iff, Nat.reduceEqDiff, Nat.add_assoc, Nat.succ_ne_zero, hc]
        rw [decide_eq_true (show p.role ≠ 2 by omega), decide_eq_true (show p.role ≠ 0 by omega)] at hfin
        exact hfin
      · try simp only [push_cast, Nat.reduceAdd, Nat.reduceLeDiff, Nat.reduceLT, Int.reduceToNat, Nat.left_eq_add, Nat.add_eq_left, Nat.add_left_cancel_iff, Nat.reduceEqDiff, Nat.add_assoc, Nat.succ_ne_zero, hc]
        have e4 : (decide (p.role ≠ 2) && decide (p.role ≠ 0)) = decide (p.role = 4) := by
          by_cases h4 : p.role = 4
          · simp [h4]
          · by_cases h2 : p.role = 2
            · simp [h2]
            · have h0 : p.role = 0 := by omega
              simp [h0]
        rw [e4] at hfin
        exact hfin
  · refine loop1 (fun n u W => ∃ k : Nat, k ≤ s.l.length ∧ n = s.l.length - k ∧ u = i64 k ∧ RS W sp bs pv fv (s.propK p.role now k) ∧ Fr (fR sp bs fv) w W) ?_ s.l.length ⟨0, by omega, rfl, rfl, h, Fr.refl _ _⟩
    rintro n u W X ⟨k, hk2, rfl, rfl, hI, hF⟩ hX
    simp only [push_cast, Nat.reduceAdd, Nat.reduceLeDiff, Nat.reduceLT, Int.reduceToNat, Nat.left_eq_add, Nat.add_eq_left, Nat.add_left_cancel_iff, Nat.reduceEqDiff, Nat.add_assoc, Nat.succ_ne_zero, hI.ps.main]
    rw [h.ps.lenv]
    simp only [push_cast, Nat.reduceAdd, Nat.reduceLeDiff, Nat.reduceLT, Int.reduceToNat, Nat.left_eq_add, Nat.add_eq_left, Nat.add_left_cancel_iff, Nat.reduceEqDiff, Nat.add_assoc, Nat.succ_ne_zero]
    refine br_dec (fun hlt => ?_) fun hge => ?_
    · have hkl : k < s.l.length := by omega
      have hwk : IntKind.i64.wrap ((k : Int) + 1) = ((k + 1 : Nat) : Int) := by rw [wrap_i64 (by omega)]; rfl
      obtain ⟨c, q, hcb, hq⟩ := bs_at hI.ps (show k < (s.propK p.role now k).l.length by rw [propK_len]; exact hkl)
      have hp1 := propK_at s hp now k
      have hc := hI.ps.port i b p hb hp1
      have hcq := hI.ps.port k c q hcb hq
      have hstay : ¬ (p.role = 1 ∧ q.role = 2 ∧ q.edge = false ∧ q.agreed = false) → X (i64 ((k + 1 : Nat) : Int)) W := fun hC => by
        refine hX (s.l.length - (k + 1)) _ _ (by omega) ⟨k + 1, by omega, rfl, rfl, ?_, hF⟩
        show RS W sp bs pv fv ((s.propK p.role now k).propS p.role k now)
        unfold Sp.propS
        rw [hq]; simp only []
        rw [if_neg hC]; exact hI
      simp only [push_cast, Nat.reduceAdd, Nat.reduceLeDiff, Nat.reduceLT, Int.reduceToNat, Nat.left_eq_add, Nat.add_eq_left, Nat.add_left_cancel_iff, Nat.reduceEqDiff, Nat.add_assoc, Nat.succ_ne_zero, hc]
      refine br_dec (fun e1 => ?_) fun e1 => ?_
      · simp only [push_cast, Nat.reduceAdd, Nat.reduceLeDiff, Nat.reduceLT, Int.reduceToNat, Nat.left_eq_add, Nat.add_eq_left, Nat.add_left_cancel_iff, Nat.reduceEqDiff, Nat.add_assoc, Nat.succ_ne_zero, hI.ps.main]
        refine ld_ptr hI.ps (Fr.refl _ _) hcb ?_
        refine s_neP hcq hc ?_
        simp only [push_cast, Nat.reduceAdd, Nat.reduceLeDiff, Nat.reduceLT, Int.reduceToNat, Nat.left_eq_add, Nat.add_eq_left, Nat.add_left_cancel_iff, Nat.reduceEqDiff, Nat.add_assoc, Nat.succ_ne_zero]
        refine br_intro (fun e2 => ?_) fun e2 => ?_
        · simp only [push_cast, Nat.reduceAdd, Nat.reduceLeDiff, Nat.reduceLT, Int.reduceToNat, Nat.left_eq_add, Nat.add_eq_left, Nat.add_left_cancel_iff, Nat.reduceEqDiff, Nat.add_assoc, Nat.succ_ne_zero, hcq]
          refine br_dec (fun e3 => ?_) fun e3 => ?_
          · try simp only [push_cast, Nat.reduceAdd, Nat.reduceLeDiff, Nat.reduceLT, Int.reduceToNat, Nat.left_eq_add, Nat.add_eq_left, Nat.add_left_cancel_iff, Nat.reduceEqDiff, Nat.add_assoc, Nat.succ_ne_zero, hcq]
            refine br_intro (fun e4 => ?_) fun e4 => ?_
            · have e4 : q.edge = false := by simpa using e4
              try simp only [push_cast, Nat.reduceAdd, Nat.reduceLeDiff, Nat.reduceLT, Int.reduceToNat, Nat.left_eq_add, Nat.add_eq_left, Nat.add_left_cancel_iff, Nat.reduceEqDiff, Nat.add_assoc, Nat.succ_ne_zero, hcq]
              refine br_intro (fun e5 => ?_) fun e5 => ?_
              · have e5 : q.agreed = false := by simpa using e5
                try rw [opS_cl]
                refine rholds_spec hI hcb hq hn fun W2 h2 f2 => ?_
                simp only [push_cast, Nat.reduceAdd, Nat.reduceLeDiff, Nat.reduceLT, Int.reduceToNat, Nat.left_eq_add, Nat.add_eq_left, Nat.add_left_cancel_iff, Nat.reduceEqDiff, Nat.add_assoc, Nat.succ_ne_zero, hwk]
                refine hX (s.l.length - (k + 1)) _ _ (by omega) ⟨k + 1, by omega, rfl, rfl, ?_, hF.trans f2⟩
                show RS W2 sp bs pv fv ((s.propK p.role now k).propS p.role k now)
                unfold Sp.propS
                rw [hq]; simp only []
                rw [if_pos ⟨e1, e3, e4, e5⟩]; exact h2
              · have e5 : ¬ q.agreed = false := by simpa using e5
                try simp only [push_cast, Nat.reduceAdd, Nat.reduceLeDiff, Nat.reduceLT, Int.reduceToNat, Nat.left_eq_add, Nat.add_eq_left, Nat.add_left_cancel_iff, Nat.reduceEqDiff, Nat.add_assoc, Nat.succ_ne_zero, hwk]
                exact hstay fun h => e5 h.2.2.2
            · have e4 : ¬ q.edge = false := by simpa using e4
              try simp only [push_cast, Nat.reduceAdd, Nat.reduceLeDiff, Nat.reduceLT, Int.reduceToNat, Nat.left_eq_add, Nat.add_eq_left, Nat.add_left_cancel_iff, Nat.reduceEqDiff, Nat.add_assoc, Nat.succ_ne_zero, hwk]
              exact hstay fun h => e4 h.2.2.1
          · try simp only [push_cast, Nat.reduceAdd, Nat.reduceLeDiff, Nat.reduceLT, Int.reduceToNat, Nat.left_eq_add, Nat.add_eq_left, Nat.add_left_cancel_iff, Nat.reduceEqDiff, Nat.add_assoc, Nat.succ_ne_zero, hwk]
            exact hstay fun h => e3 h.2.1
        · have e2 : c = b := by simpa using e2
          have hki : k = i := hI.ps.inj hcb (e2 ▸ hb)
          try simp only [push_cast, Nat.reduceAdd, Nat.reduceLeDiff, Nat.reduceLT, Int.reduceToNat, Nat.left_eq_add, Nat.add_eq_left, Nat.add_left_cancel_iff, Nat.reduceEqDiff, Nat.add_assoc, Nat.succ_ne_zero, hwk]
          refine hstay fun h => ?_
          subst hki
          rw [hp1] at hq; cases hq
          have := h.1; have := h.2.1; omega
      · refine hj _ ⟨?_, hF⟩
        rw [propK_ne s e1] at hI ⊢
        exact hI
    · obtain rfl : k = s.l.length := by omega
      exact hj _ ⟨hI, hF⟩

end Go.Gx.S
end

section
/- A bridge is heard. -/
set_option linter.unusedVariables false
set_option linter.unusedSimpArgs false
set_option maxRecDepth 100000
namespace Go.Gx.S
open Go Go.Gx Go.Proofs
variable {K : Value → World → Prop} {w : World} {sp mb : Nat} {bs : List Nat} {pv fv : Value} {s : Sp}

def andI (a b : Int) : Int := IntKind.i64.wrap (BitVec.ofInt 64 a &&& BitVec.ofInt 64 b).toNat
theorem s_andI (a b : Int) : opS Tryz.prog (S.binI .and (.int .i64 a) (.int .i64 b)) K w = K (.int .i64 (andI a b)) w := rfl

/-! ### Plain -/

def takeF (b : Bpd) : Int := if b.kind = 0 then 12 else b.flags
def Sp.onP (s : Sp) (i : Nat) (f : Prt → Sp) : Sp := match s.l[i]? with
  | some q => f q
  | none => s
theorem Sp.onP_eq {s : Sp} {i : Nat} {q : Prt} (h : s.l[i]? = some q) (f : Prt → Sp) : s.onP i f = f q := by unfold Sp.onP; rw [h]
def Sp.take1 (s : Sp) (i : Nat) (p : Prt) (b : Bpd) (now : Int) : Sp :=
  if andI (takeF b) 12 = 12 ∧ b.age < 20 then
    (if andI (takeF b) 2 ≠ 0 then ((s.setP i (hearP p b now)).reckon now).onP i fun q => ((s.setP i (hearP p b now)).reckon now).propP i q now else (s.setP i (hearP p b now)).reckon now)
  else s
def Sp.take2 (s : Sp) (i : Nat) (b : Bpd) (now : Int) : Sp :=
  if andI (takeF b) 12 ≠ 12 ∧ andI (takeF b) 64 ≠ 0 then s.onP i fun q => if q.role = 2 ∧ b.root = s.best.root then (s.setP i { q with agreed := true }).forwQ i { q with agreed := true } now else s
  else s
def Sp.take3 (s : Sp) (i : Nat) (b : Bpd) (now : Int) : Sp := if andI (takeF b) 1 ≠ 0 then s.changeP i now else s
def Sp.takeP (s : Sp) (i : Nat) (p : Prt) (b : Bpd) (now : Int) : Sp := (((s.setP i { p with edge := false }).take1 i { p with edge := false } b now).take2 i b now).take3 i b now
def Sp.takeQ (s : Sp) (i : Nat) (p : Prt) (b : Bpd) (now : Int) : Sp × Int := if p.h.up = false then (s, 7) else if b.kind = 128 then (s.changeP i now, 0) else (s.takeP i p b now, 0)
def Sp.take (s : Sp) (n : Int) (b : Bpd) (now : Int) : Sp × Int :=
  if portB s n ∧ momB now ∧ rightP b = true then (match s.l[(n - 1).toNat]? with | some p => s.takeQ (n - 1).toNat p b now | none => (s, 1)) else (s, 1)
theorem Sp.take_eq {s : Sp} {i : Nat} {n : Int} {p : Prt} (hi : n = (i : Int) + 1) (hp : s.l[i]? = some p) (h1 : portB s n) {b : Bpd} {now : Int} (h2 : momB now) (h3 : rightP b = true) : s.take n b now = s.takeQ i p b now := by
  unfold Sp.take
  rw [if_pos ⟨h1, h2, h3⟩, show (n - 1).toNat = i by omega, hp]

theorem rightP_age {b : Bpd} (h : rightP b = true) (h1 : ¬ b.kind = 128) : 0 ≤ b.age ∧ b.age ≤ 65535 := by
  unfold rightP oksB at h
  rw [if_neg h1, Bool.and_eq_true] at h
  have := h.2
  simp [inR] at this
  omega
theorem reckon_len (s : Sp) (now : Int) : (s.reckon now).l.length = s.l.length := by unfold Sp.reckon; rw [reckK_len]
theorem Sp.wf.edge (h : s.wf) {i : Nat} {p : Prt} (hp : s.l[i]? = some p) (e : Bool) : (s.setP i { p with edge := e }).wf := h.setP hp ⟨rfl, rfl⟩ (h.l p (List.mem_of_getElem? hp))
theorem Sp.wf.agreed (h : s.wf) {i : Nat} {p : Prt} (hp : s.l[i]? = some p) (e : Bool) : (s.setP i { p with agreed := e }).wf := h.setP hp ⟨rfl, rfl⟩ (h.l p (List.mem_of_getElem? hp))
theorem Sp.wf.hearP (h : s.wf) {i : Nat} {p : Prt} (hp : s.l[i]? = some p) {b : Bpd} (hb : b.ok) {now : Int} (hn : momB now) (hr : 0 ≤ b.age ∧ b.age ≤ 65535) : (s.setP i (hearP p b now)).wf := h.setP hp (hearP_same p b now) (hearP_ok (h.l p (List.mem_of_getElem? hp)) hb hn) fun h => hearP_inv h hr now
theorem Sp.wf.take1 (h : s.wf) {i : Nat} {p : Prt} (hp : s.l[i]? = some p) {b : Bpd} (hb : b.ok) {now : Int} (hn : momB now) (hr : 0 ≤ b.age ∧ b.age ≤ 65535) : (s.take1 i p b now).wf := by
  unfold Sp.take1
  have h1 := (h.hearP hp hb hn hr).reckon hn
  split
  · split
    · unfold Sp.onP
      split
      · rename_i q hq
        exact h1.propP hq hn
      · exact h1
    · exact h1
  · exact h
theorem take1_len (s : Sp) (i : Nat) (p : Prt) (b : Bpd) (now : Int) : (s.take1 i p b now).l.length = s.l.length := by
  unfold Sp.take1
  split
  · split
    · unfold Sp.onP
      split
      · rw [propP_len, reckon_len, setP_len]
      · rw [reckon_len, setP_len]
    · rw [reckon_len, setP_len]
  · rfl
theorem Sp.wf.take2 (h : s.wf) (i : Nat) (b : Bpd) (now : Int) : (s.take2 i b now).wf := by
  unfold Sp.take2
  split
  · unfold Sp.onP
    split
    · rename_i q hq
      show Sp.wf (if q.role = 2 ∧ b.root = s.best.root then _ else _)
      split
      · exact (h.agreed hq true).forwQ (s.setP_get hq _) now
      · exact h
    · exact h
  · exact h
theorem Sp.wf.take3 (h : s.wf) (i : Nat) (b : Bpd) (now : Int) : (s.take3 i b now).wf := by
  unfold Sp.take3
  split
  · exact h.changeP i now
  · exact h
theorem Sp.wf.take (h : s.wf) (n : Int) {b : Bpd} (hb : b.ok) (now : Int) : (s.take n b now).1.wf := by
  unfold Sp.take
  split
  · rename_i hc
    split
    · rename_i p hp
      unfold Sp.takeQ
      split
      · exact h
      · split
        · exact h.changeP _ now
        · exact (((h.edge hp false).take1 (s.setP_get hp _) hb hc.2.1 (rightP_age hc.2.2 (by assumption))).take2 _ b now).take3 _ b now
    · exact h
  · exact h

/-! ### The code's -/

theorem has_spec {fb : Nat} {fl m : Int} (hf : w.heap[fb]? = some (cellsO [i64 fl] 3)) (hk : K (.bool (decide (andI fl m ≠ 0))) w) : CallsR Tryz.prog 41 #[i64 m, pt fb 0] K w := by
  apply c41
  unfold p41
  simp only [push_cast, Nat.reduceAdd, Nat.reduceLeDiff, Nat.reduceLT, Int.reduceToNat, Nat.left_eq_add, Nat.add_eq_left, Nat.add_left_cancel_iff, Nat.reduceEqDiff, Nat.add_assoc, Nat.succ_ne_zero, hf, s_andI]
  rw [show (andI fl m != 0) = decide (andI fl m ≠ 0) by by_cases h : andI fl m = 0 <;> simp [h]]
  exact hk

/-- while a Bpdu is taken -/
structure TKc (w : World) (sp : Nat) (bs : List Nat) (pv : Value) (mb xb fb : Nat) (x : Bpd) (fl : Int) (s : Sp) (W : World) : Prop where
  c : CS W sp bs pv mb s
  x : W.heap[xb]? = some (cellsO x.cells 38)
  f : W.heap[fb]? = some (cellsO [i64 fl] 3)
  fr : Fr (fC sp bs mb) w W
  nx : ¬ fC sp bs mb xb
  nf : ¬ fC sp bs mb fb
theorem TKc.step {xb fb : Nat} {x : Bpd} {fl : Int} {s' : Sp} {W W' : World} (h : TKc w sp bs pv mb xb fb x fl s W) (hc : CS W' sp bs pv mb s') (hF : Fr (fC sp bs mb) W W') : TKc w sp bs pv mb xb fb x fl s' W' :=
  ⟨hc, hF.heap h.x h.nx, hF.heap h.f h.nf, h.fr.trans hF, h.nx, h.nf⟩

theorem PS.pv_lt {T TP : TypeId} (h : PS T TP w sp bs pv fv s) (h0 : 0 < s.l.length) : ∀ b, blkS pv = some b → b < w.heap.size := by
  intro b hb
  rcases h.pvs.1 with ⟨_, e, _⟩ | ⟨b', o, c, cs, T', fz, e, hb', _⟩
  · rw [List.length_map, h.len] at e; omega
  · rw [e] at hb; simp only [blkS, Option.some.injEq] at hb
    subst hb
    exact lt_of_heap hb'
theorem TKc.stf {xb fb : Nat} {x : Bpd} {fl : Int} {W : World} (h : TKc w sp bs pv mb xb fb x fl s W) (hxf : ¬ xb = fb) (hle : w.heap.size ≤ fb) (hpv : blkS pv ≠ some fb) (fl' : Int) : TKc w sp bs pv mb xb fb x fl' s (wr W fb 0 [i64 fl']) := by
  have hF : Fr (fun b => b = fb) W (wr W fb 0 [i64 fl']) := Fr.wr W _ _ _ rfl
  refine ⟨h.c.fr hF (fun b hb e => h.nf (e ▸ hb)) fun b hb e => hpv (e ▸ hb), hF.heap h.x hxf, ?_, h.fr.step_wr (.inr hle) _ _, h.nx, h.nf⟩
  rw [heap_wr, if_pos rfl, h.f, putAt_cells]
  rfl
theorem take_bad {n now : Int} {b : Bpd} (h : ¬ (portB s n ∧ momB now ∧ rightP b = true)) : s.take n b now = (s, 1) := by
  unfold Sp.take
  rw [if_neg h]

theorem fr_new {W : World} {b o : Nat} {v u l : List Value} {T : TypeId} : Fr none_ (wr W b o v) (wr ((wr W b o v).alloc (cellsO l T)) W.heap.size 0 u) := by
  refine Fr.step_wr (Fr.step_alloc (Fr.refl _ _) rfl) (.inr ?_) _ _
  rw [size_wr]; exact Nat.le_refl _
theorem take_spec {n now : Int} {x : Bpd} (h : CS w sp bs pv mb s) (hw : s.wf) (hx : x.ok)
    (hk : ∀ w', CS w' sp bs pv mb (s.take n x now).1 → Fr (fC sp bs mb) w w' → K (i64 (s.take n x now).2) w') :
    CallsR Tryz.prog 20 #[pt sp 0, i64 n, .agg x.cells.toArray, i64 now] K w := by
  apply c20
  unfold p20
  have h0 : (w.alloc (cellsO x.cells 38)).heap[w.heap.size]? = some (cellsO x.cells 38) := by simp only [push_cast, Nat.reduceAdd, Nat.reduceLeDiff, Nat.reduceLT, Int.reduceToNat, Nat.left_eq_add, Nat.add_eq_left, Nat.add_left_cancel_iff, Nat.reduceEqDiff, Nat.add_assoc, Nat.succ_ne_zero]
  have hF : Fr none_ w (w.alloc (cellsO x.cells 38)) := (by repeat' first | with_reducible exact Fr.refl _ _ | with_reducible refine Fr.step_alloc ?_ ?_ | with_reducible refine Fr.step_drew ?_ | with_reducible refine Fr.step_wr ?_ ?_ _ _ | exact rfl | exact Or.inr (by omega) | exact Or.inl rfl | exact Or.inl (Or.inl rfl) | exact Or.inl (Or.inr rfl))
  simp only [opS_box, cells_agg, alloc_cellsO]
  have hxs := lt_of_heap h0
  have hnx : ¬ fC sp bs mb w.heap.size := fun e => by have := h.lt _ e; omega
  have hI := h.fr0 hF
  have hsw := hF.size
  generalize w.alloc (cellsO x.cells 38) = W0 at *
  have hbad : ∀ {W'}, ¬ (portB s n ∧ momB now ∧ rightP x = true) → Fr none_ w W' → K (i64 1) W' := fun {W'} hb hF' => by
    have := hk W'
    rw [take_bad hb] at this
    exact this (h.fr0 hF') (hF'.mono fun _ _ h => h.elim)
  simp only [push_cast, Nat.reduceAdd, Nat.reduceLeDiff, Nat.reduceLT, Int.reduceToNat, Nat.left_eq_add, Nat.add_eq_left, Nat.add_left_cancel_iff, Nat.reduceEqDiff, Nat.add_assoc, Nat.succ_ne_zero]
  refine at_spec hI hw (fun e => ?_) fun i b p hi hpb hb hp => ?_
  · simp only [push_cast, Nat.reduceAdd, Nat.reduceLeDiff, Nat.reduceLT, Int.reduceToNat, Nat.left_eq_add, Nat.add_eq_left, Nat.add_left_cancel_iff, Nat.reduceEqDiff, Nat.add_assoc, Nat.succ_ne_zero]
    exact hbad (fun h => e h.1) hF
  simp only [push_cast, Nat.reduceAdd, Nat.reduceLeDiff, Nat.reduceLT, Int.reduceToNat, Nat.left_eq_add, Nat.add_eq_left, Nat.add_left_cancel_iff, Nat.reduceEqDiff, Nat.add_assoc, Nat.succ_ne_zero]
  refine moment_spec ?_
  simp only [push_cast, Nat.reduceAdd, Nat.reduceLeDiff, Nat.reduceLT, Int.reduceToNat, Nat.left_eq_add, Nat.add_eq_left, Nat.add_left_cancel_iff, Nat.reduceEqDiff, Nat.add_assoc, Nat.succ_ne_zero]
  refine br_intro (fun e => ?_) fun e => ?_
  · exact hbad (fun h => by simp [h.2.1] at e) hF
  have hnow : momB now := by simpa using e
  simp only [push_cast, Nat.reduceAdd, Nat.reduceLeDiff, Nat.reduceLT, Int.reduceToNat, Nat.left_eq_add, Nat.add_eq_left, Nat.add_left_cancel_iff, Nat.reduceEqDiff, Nat.add_assoc, Nat.succ_ne_zero, h0]
  refine bright_spec hx fun W1 hF1 => ?_
  have hF2 := hF.trans hF1
  simp only [push_cast, Nat.reduceAdd, Nat.reduceLeDiff, Nat.reduceLT, Int.reduceToNat, Nat.left_eq_add, Nat.add_eq_left, Nat.add_left_cancel_iff, Nat.reduceEqDiff, Nat.add_assoc, Nat.succ_ne_zero]
  refine br_intro (fun e => ?_) fun e => ?_
  · exact hbad (fun h => by rw [h.2.2] at e; cases e) hF2
  have hright : rightP x = true := by simpa using e
  rw [Sp.take_eq hi hp hpb hnow hright] at hk
  have hI1 := hI.fr0 hF1
  have hc := hI1.ps.port i b p hb hp
  have hx1 := hF1.heap h0 fun h => h
  have hfr : Fr (fC sp bs mb) w W1 := hF2.mono fun _ _ h => h.elim
  simp only [push_cast, Nat.reduceAdd, Nat.reduceLeDiff, Nat.reduceLT, Int.reduceToNat, Nat.left_eq_add, Nat.add_eq_left, Nat.add_left_cancel_iff, Nat.reduceEqDiff, Nat.add_assoc, Nat.succ_ne_zero, hc]
  refine br_intro (fun e => ?_) fun e => ?_
  · have e : p.h.up = false := by simpa using e
    have := hk W1
    unfold Sp.takeQ at this
    rw [if_pos e] at this
    exact this hI1 hfr
  have hup : ¬ p.h.up = false := by simpa using e
  simp only [push_cast, Nat.reduceAdd, Nat.reduceLeDiff, Nat.reduceLT, Int.reduceToNat, Nat.left_eq_add, Nat.add_eq_left, Nat.add_left_cancel_iff, Nat.reduceEqDiff, Nat.add_assoc, Nat.succ_ne_zero, hx1]
  refine br_dec (fun e1 => ?_) fun e1 => ?_
  · refine changed_spec hI1 hw hb hnow fun W2 h2 f2 => ?_
    have := hk W2
    unfold Sp.takeQ at this
    rw [if_neg hup, if_pos e1] at this
    exact this h2 (hfr.trans f2)
  have hbl := h.lt b (.inr (.inl (List.mem_of_getElem? hb)))
  have hs1 := hF1.size
  have n1 : ¬ w.heap.size = b := by omega
  have n2 : ¬ b = w.heap.size := by omega
  have n3 : ¬ W1.heap.size = b := by omega
  have n4 : ¬ W1.heap.size = w.heap.size := by omega
  have n5 : ¬ w.heap.size = W1.heap.size := by omega
  have n6 : ¬ b = W1.heap.size := by omega
  simp only [push_cast, Nat.reduceAdd, Nat.reduceLeDiff, Nat.reduceLT, Int.reduceToNat, Nat.left_eq_add, Nat.add_eq_left, Nat.add_left_cancel_iff, Nat.reduceEqDiff, Nat.add_assoc, Nat.succ_ne_zero, hc, hx1, n1, n2, n3, n4, n5, n6]
  obtain ⟨g1, f1⟩ := hI1.stp hb hp (Prt.s_edge p false)
  have hfb : ¬ fC sp bs mb W1.heap.size := fun e => by have := hI1.lt _ e; omega
  refine at_w (fun W => TKc w sp bs pv mb w.heap.size W1.heap.size x x.flags (s.setP i { p with edge := false }) W) ⟨?_, ?_, ?_, ?_, hnx, hfb⟩ ?_
  · exact g1.fr0 fr_new
  · simp only [push_cast, Nat.reduceAdd, Nat.reduceLeDiff, Nat.reduceLT, Int.reduceToNat, Nat.left_eq_add, Nat.add_eq_left, Nat.add_left_cancel_iff, Nat.reduceEqDiff, Nat.add_assoc, Nat.succ_ne_zero, hx1, n1, n2, n3, n4, n5, n6]
  · simp only [push_cast, Nat.reduceAdd, Nat.reduceLeDiff, Nat.reduceLT, Int.reduceToNat, Nat.left_eq_add, Nat.add_eq_left, Nat.add_left_cancel_iff, Nat.reduceEqDiff, Nat.add_assoc, Nat.succ_ne_zero, hx1, n1, n2, n3, n4, n5, n6]
  · exact (hfr.trans f1).trans (Fr.mono fr_new fun _ _ h => h.elim)
  intro W2 hT
  have hlf : w.heap.size ≤ W1.heap.size := by omega
  have hpvf : blkS pv ≠ some W1.heap.size := fun e => by have := h.ps.pv_lt (by have := (List.getElem?_eq_some_iff.1 hp).1; omega) _ e; omega
  have hxf : ¬ w.heap.size = W1.heap.size := n5
  generalize hfe : W1.heap.size = fb at *
  generalize hxe : w.heap.size = xb at hT hnx h0 hx1 hxf ⊢
  have hage := rightP_age hright e1
  have hpp : ∀ q, (s.setP i q).l[i]? = some q := s.setP_get hp
  have hw0 := hw.edge hp false
  have htk : ∀ W, CS W sp bs pv mb (s.takeP i p x now) → Fr (fC sp bs mb) w W → K (i64 0) W := fun W => by
    have := hk W
    unfold Sp.takeQ at this
    rw [if_neg hup, if_neg e1] at this
    exact this
  unfold Sp.takeP at htk
  generalize hp0 : ({ p with edge := false } : Prt) = p0 at *
  refine jn0 (fun W => TKc w sp bs pv mb xb fb x (takeF x) (s.setP i p0) W) ?_ fun j hj => ?_
  · rintro W3 hT3
    simp only [push_cast, Nat.reduceAdd, Nat.reduceLeDiff, Nat.reduceLT, Int.reduceToNat, Nat.left_eq_add, Nat.add_eq_left, Nat.add_left_cancel_iff, Nat.reduceEqDiff, Nat.add_assoc, Nat.succ_ne_zero, hT3.f, s_andI]
    have hwf1 := hw0.take1 (hpp p0) hx hnow hage
    have hl1 : ((s.setP i p0).take1 i p0 x now).l.length = s.l.length := by rw [take1_len, setP_len]
    refine jn0 (fun W => TKc w sp bs pv mb xb fb x (takeF x) ((s.setP i p0).take1 i p0 x now) W) ?_ fun j1 hj1 => ?_
    · rintro W4 hT4
      refine jn0 (fun W => TKc w sp bs pv mb xb fb x (takeF x) (((s.setP i p0).take1 i p0 x now).take2 i x now) W) ?_ fun j2 hj2 => ?_
      · rintro W5 hT5
        have hwf2 := hwf1.take2 i x now
        simp only [push_cast, Nat.reduceAdd, Nat.reduceLeDiff, Nat.reduceLT, Int.reduceToNat, Nat.left_eq_add, Nat.add_eq_left, Nat.add_left_cancel_iff, Nat.reduceEqDiff, Nat.add_assoc, Nat.succ_ne_zero]
        refine has_spec hT5.f ?_
        simp only [push_cast, Nat.reduceAdd, Nat.reduceLeDiff, Nat.reduceLT, Int.reduceToNat, Nat.left_eq_add, Nat.add_eq_left, Nat.add_left_cancel_iff, Nat.reduceEqDiff, Nat.add_assoc, Nat.succ_ne_zero]
        refine br_intro (fun e => ?_) fun e => ?_
        · have e : andI (takeF x) 1 ≠ 0 := by simpa using e
          refine changed_spec hT5.c hwf2 hb hnow fun W6 h6 f6 => ?_
          refine htk _ ?_ (hT5.fr.trans f6)
          unfold Sp.take3; rw [if_pos e]; exact h6
        · have e : ¬ andI (takeF x) 1 ≠ 0 := by simpa using e
          refine htk _ ?_ hT5.fr
          unfold Sp.take3; rw [if_neg e]; exact hT5.c
      · rw [jn_0]
        simp only [drw_eq]
        replace hT4 := hT4.step (hT4.c.fr0 (Fr.drew W4)) ((Fr.drew (fp := none_) W4).mono fun _ _ h => h.elim)
        generalize W4.drew = W5 at *
        generalize hS1 : (s.setP i p0).take1 i p0 x now = s1 at *
        obtain ⟨_, q, _, hq⟩ := bs_at hT4.c.ps (show i < s1.l.length by rw [hl1]; exact (List.getElem?_eq_some_iff.1 hp).1)
        have hcq := hT4.c.ps.port i b q hb hq
        have hno : ¬ (andI (takeF x) 12 ≠ 12 ∧ andI (takeF x) 64 ≠ 0 ∧ q.role = 2 ∧ x.root = s1.best.root) → j2 W5 := fun hC => by
          refine hj2 _ ?_
          have : s1.take2 i x now = s1 := by
            unfold Sp.take2
            split
            · rename_i hc
              rw [Sp.onP_eq hq]
              exact if_neg fun h => hC ⟨hc.1, hc.2, h.1, h.2⟩
            · rfl
          rw [this]; exact hT4
        simp only [push_cast, Nat.reduceAdd, Nat.reduceLeDiff, Nat.reduceLT, Int.reduceToNat, Nat.left_eq_add, Nat.add_eq_left, Nat.add_left_cancel_iff, Nat.reduceEqDiff, Nat.add_assoc, Nat.succ_ne_zero]
        refine br_intro (fun e3 => ?_) fun e3 => ?_
        · have e3 : andI (takeF x) 12 ≠ 12 := by simpa using e3
          refine has_spec hT4.f ?_
          simp only [push_cast, Nat.reduceAdd, Nat.reduceLeDiff, Nat.reduceLT, Int.reduceToNat, Nat.left_eq_add, Nat.add_eq_left, Nat.add_left_cancel_iff, Nat.reduceEqDiff, Nat.add_assoc, Nat.succ_ne_zero]
          refine br_intro (fun e4 => ?_) fun e4 => ?_
          · have e4 : andI (takeF x) 64 ≠ 0 := by simpa using e4
            simp only [push_cast, Nat.reduceAdd, Nat.reduceLeDiff, Nat.reduceLT, Int.reduceToNat, Nat.left_eq_add, Nat.add_eq_left, Nat.add_left_cancel_iff, Nat.reduceEqDiff, Nat.add_assoc, Nat.succ_ne_zero, hcq]
            refine br_dec (fun e5 => ?_) fun e5 => ?_
            · simp only [push_cast, Nat.reduceAdd, Nat.reduceLeDiff, Nat.reduceLT, Int.reduceToNat, Nat.left_eq_add, Nat.add_eq_left, Nat.add_left_cancel_iff, Nat.reduceEqDiff, Nat.add_assoc, Nat.succ_ne_zero, hT4.x, hT4.c.ps.main]
              refine s_eqId hx.2.2.1 hwf1.best.1 ?_
              simp only [push_cast, Nat.reduceAdd, Nat.reduceLeDiff, Nat.reduceLT, Int.reduceToNat, Nat.left_eq_add, Nat.add_eq_left, Nat.add_left_cancel_iff, Nat.reduceEqDiff, Nat.add_assoc, Nat.succ_ne_zero]
              refine br_dec (fun e6 => ?_) fun e6 => ?_
              · simp only [push_cast, Nat.reduceAdd, Nat.reduceLeDiff, Nat.reduceLT, Int.reduceToNat, Nat.left_eq_add, Nat.add_eq_left, Nat.add_left_cancel_iff, Nat.reduceEqDiff, Nat.add_assoc, Nat.succ_ne_zero, hcq]
                obtain ⟨g4, f4⟩ := hT4.c.stp hb hq (Prt.s_agreed q true)
                refine forwards_spec g4 (hwf1.agreed hq true) hb (s1.setP_get hq _) hnow fun W6 h6 f6 => ?_
                refine hj2 _ ?_
                have : s1.take2 i x now = (s1.setP i { q with agreed := true }).forwQ i { q with agreed := true } now := by
                  unfold Sp.take2
                  rw [if_pos ⟨e3, e4⟩, Sp.onP_eq hq]
                  exact if_pos ⟨e5, e6⟩
                rw [this]
                exact hT4.step h6 (f4.trans f6)
              · exact hno fun h => e6 h.2.2.2
            · exact hno fun h => e5 h.2.2.1
          · have e4 : ¬ andI (takeF x) 64 ≠ 0 := by simpa using e4
            exact hno fun h => e4 h.2.1
        · have e3 : ¬ andI (takeF x) 12 ≠ 12 := by simpa using e3
          exact hno fun h => e3 h.1
    · rw [jn_0, brn_br]
      have hno : ¬ (andI (takeF x) 12 = 12 ∧ x.age < 20) → j1 W3 := fun hC => by
        refine hj1 _ ?_
        unfold Sp.take1; rw [if_neg hC]; exact hT3
      refine br_intro (fun e3 => ?_) fun e3 => ?_
      · have e3 : andI (takeF x) 12 = 12 := by simpa using e3
        simp only [push_cast, Nat.reduceAdd, Nat.reduceLeDiff, Nat.reduceLT, Int.reduceToNat, Nat.left_eq_add, Nat.add_eq_left, Nat.add_left_cancel_iff, Nat.reduceEqDiff, Nat.add_assoc, Nat.succ_ne_zero, hT3.x]
        refine br_dec (fun e4 => ?_) fun e4 => ?_
        · try simp only [push_cast, Nat.reduceAdd, Nat.reduceLeDiff, Nat.reduceLT, Int.reduceToNat, Nat.left_eq_add, Nat.add_eq_left, Nat.add_left_cancel_iff, Nat.reduceEqDiff, Nat.add_assoc, Nat.succ_ne_zero, hT3.x]
          refine hears_spec hT3.c hw0 hb (hpp p0) hx hnow fun W4 h4 f4 => ?_
          have hT4 := hT3.step h4 f4
          have hwh := hw0.hearP (hpp p0) hx hnow hage
          simp only [push_cast, Nat.reduceAdd, Nat.reduceLeDiff, Nat.reduceLT, Int.reduceToNat, Nat.left_eq_add, Nat.add_eq_left, Nat.add_left_cancel_iff, Nat.reduceEqDiff, Nat.add_assoc, Nat.succ_ne_zero]
          refine reckon_spec h4 hwh hnow fun W5 h5 f5 => ?_
          have hT5 := hT4.step h5 f5
          have hwr := hwh.reckon hnow
          rw [jn_0]
          simp only [push_cast, Nat.reduceAdd, Nat.reduceLeDiff, Nat.reduceLT, Int.reduceToNat, Nat.left_eq_add, Nat.add_eq_left, Nat.add_left_cancel_iff, Nat.reduceEqDiff, Nat.add_assoc, Nat.succ_ne_zero]
          refine has_spec hT5.f ?_
          simp only [push_cast, Nat.reduceAdd, Nat.reduceLeDiff, Nat.reduceLT, Int.reduceToNat, Nat.left_eq_add, Nat.add_eq_left, Nat.add_left_cancel_iff, Nat.reduceEqDiff, Nat.add_assoc, Nat.succ_ne_zero]
          refine br_intro (fun e5 => ?_) fun e5 => ?_
          · have e5 : andI (takeF x) 2 ≠ 0 := by simpa using e5
            obtain ⟨_, q, _, hq⟩ := bs_at h5.ps (show i < _ by rw [reckon_len, setP_len, setP_len]; exact (List.getElem?_eq_some_iff.1 hp).1)
            refine proposed_spec h5 hwr hb hq hnow fun W6 h6 f6 => ?_
            refine hj1 _ ?_
            unfold Sp.take1
            rw [if_pos ⟨e3, e4⟩, if_pos e5, Sp.onP_eq hq]
            exact hT5.step h6 f6
          · have e5 : ¬ andI (takeF x) 2 ≠ 0 := by simpa using e5
            refine hj1 _ ?_
            unfold Sp.take1
            rw [if_pos ⟨e3, e4⟩, if_neg e5]
            exact hT5
        · exact hno fun h => e4 h.2
      · have e3 : ¬ andI (takeF x) 12 = 12 := by simpa using e3
        exact hno fun h => e3 h.1
  · simp only [push_cast, Nat.reduceAdd, Nat.reduceLeDiff, Nat.reduceLT, Int.reduceToNat, Nat.left_eq_add, Nat.add_eq_left, Nat.add_left_cancel_iff, Nat.reduceEqDiff, Nat.add_assoc, Nat.succ_ne_zero, hT.x]
    refine br_dec (fun e2 => ?_) fun e2 => ?_
    · simp only [push_cast, Nat.reduceAdd, Nat.reduceLeDiff, Nat.reduceLT, Int.reduceToNat, Nat.left_eq_add, Nat.add_eq_left, Nat.add_left_cancel_iff, Nat.reduceEqDiff, Nat.add_assoc, Nat.succ_ne_zero, hT.f]
      have : takeF x = 12 := by unfold takeF; rw [if_pos e2]
      refine hj _ ?_
      rw [this]
      exact hT.stf hxf hlf hpvf 12
    · have : takeF x = x.flags := by unfold takeF; rw [if_neg e2]
      refine hj _ ?_
      rw [this]; exact hT

/-! ### The reference's -/

structure TKr (w : World) (sp : Nat) (bs : List Nat) (pv fv : Value) (xb : Nat) (x : Bpd) (s : Sp) (W : World) : Prop where
  c : RS W sp bs pv fv s
  x : W.heap[xb]? = some (cellsO x.cells 38)
  fr : Fr (fR sp bs fv) w W
  nx : ¬ fR sp bs fv xb
theorem TKr.step {xb : Nat} {x : Bpd} {s' : Sp} {W W' : World} (h : TKr w sp bs pv fv xb x s W) (hc : RS W' sp bs pv fv s') (hF : Fr (fR sp bs fv) W W') : TKr w sp bs pv fv xb x s' W' :=
  ⟨hc, hF.heap h.x h.nx, h.fr.trans hF, h.nx⟩
theorem right_kind {x : Bpd} (h : rightP x = true) (h1 : x.kind ≠ 128) : x.kind = 0 ∨ x.kind = 2 := by
  unfold rightP at h
  rw [if_neg h1, Bool.and_eq_true, Bool.or_eq_true, decide_eq_true_iff, decide_eq_true_iff] at h
  exact h.1

theorem rtake_spec {n now : Int} {x : Bpd} (h : RS w sp bs pv fv s) (hw : s.wf) (hx : x.ok)
    (hk : ∀ w', RS w' sp bs pv fv (s.take n x now).1 → Fr (fR sp bs fv) w w' → K (i64 (s.take n x now).2) w') :
    CallsR Tryz.prog 21 #[pt sp 0, i64 n, .agg x.cells.toArray, i64 now] K w := by
  apply c21
  unfold p21
  have h64 := hw.n64
  have h0 : (w.alloc (cellsO x.cells 38)).heap[w.heap.size]? = some (cellsO x.cells 38) := by simp only [push_cast, Nat.reduceAdd, Nat.reduceLeDiff, Nat.reduceLT, Int.reduceToNat, Nat.left_eq_add, Nat.add_eq_left, Nat.add_left_cancel_iff, Nat.reduceEqDiff, Nat.add_assoc, Nat.succ_ne_zero]
  have hF : Fr none_ w (w.alloc (cellsO x.cells 38)) := (by repeat' first | with_reducible exact Fr.refl _ _ | with_reducible refine Fr.step_alloc ?_ ?_ | with_reducible refine Fr.step_drew ?_ | with_reducible refine Fr.step_wr ?_ ?_ _ _ | exact rfl | exact Or.inr (by omega) | exact Or.inl rfl | exact Or.inl (Or.inl rfl) | exact Or.inl (Or.inr rfl))
  simp only [opS_box, cells_agg, alloc_cellsO]
  have hxs := lt_of_heap h0
  have hnx : ¬ fR sp bs fv w.heap.size := fun e => by have := h.lt _ e; omega
  have hI := h.fr0 hF
  have hsw := hF.size
  generalize w.alloc (cellsO x.cells 38) = W0 at *
  have hbad : ∀ {W'}, ¬ (portB s n ∧ momB now ∧ rightP x = true) → Fr none_ w W' → K (i64 1) W' := fun {W'} hb hF' => by
    have := hk W'
    rw [take_bad hb] at this
    exact this (h.fr0 hF') (hF'.mono fun _ _ h => h.elim)
  simp only [push_cast, Nat.reduceAdd, Nat.reduceLeDiff, Nat.reduceLT, Int.reduceToNat, Nat.left_eq_add, Nat.add_eq_left, Nat.add_left_cancel_iff, Nat.reduceEqDiff, Nat.add_assoc, Nat.succ_ne_zero]
  refine right_spec hI ?_
  simp only [push_cast, Nat.reduceAdd, Nat.reduceLeDiff, Nat.reduceLT, Int.reduceToNat, Nat.left_eq_add, Nat.add_eq_left, Nat.add_left_cancel_iff, Nat.reduceEqDiff, Nat.add_assoc, Nat.succ_ne_zero]
  refine br_intro (fun e => ?_) fun e => ?_
  · exact hbad (fun h => by simp [h.1, h.2.1] at e) hF
  have e : portB s n ∧ momB now := by simpa using e
  obtain ⟨hpb, hnow⟩ := e
  have hpb' := hpb
  unfold portB at hpb'
  obtain ⟨i, hi⟩ : ∃ i : Nat, n = (i : Int) + 1 := ⟨(n - 1).toNat, by omega⟩
  obtain ⟨b, p, hb, hp⟩ := bs_at h.ps (show i < s.l.length by omega)
  simp only [push_cast, Nat.reduceAdd, Nat.reduceLeDiff, Nat.reduceLT, Int.reduceToNat, Nat.left_eq_add, Nat.add_eq_left, Nat.add_left_cancel_iff, Nat.reduceEqDiff, Nat.add_assoc, Nat.succ_ne_zero, h0]
  refine rright_spec hx fun W1 hF1 => ?_
  have hF2 := hF.trans hF1
  simp only [push_cast, Nat.reduceAdd, Nat.reduceLeDiff, Nat.reduceLT, Int.reduceToNat, Nat.left_eq_add, Nat.add_eq_left, Nat.add_left_cancel_iff, Nat.reduceEqDiff, Nat.add_assoc, Nat.succ_ne_zero]
  refine br_intro (fun e => ?_) fun e => ?_
  · exact hbad (fun h => by rw [h.2.2] at e; cases e) hF2
  have hright : rightP x = true := by simpa using e
  rw [Sp.take_eq hi hp hpb hnow hright] at hk
  have hI1 := hI.fr0 hF1
  have hc := hI1.ps.port i b p hb hp
  have hx1 := hF1.heap h0 fun h => h
  have hfr : Fr (fR sp bs fv) w W1 := hF2.mono fun _ _ h => h.elim
  have hwn : IntKind.i64.wrap (n - 1) = (i : Int) := by rw [wrap_i64 (by omega)]; omega
  simp only [push_cast, Nat.reduceAdd, Nat.reduceLeDiff, Nat.reduceLT, Int.reduceToNat, Nat.left_eq_add, Nat.add_eq_left, Nat.add_left_cancel_iff, Nat.reduceEqDiff, Nat.add_assoc, Nat.succ_ne_zero, hI1.ps.main, hwn]
  refine ld_ptr hI1.ps (Fr.refl _ _) hb ?_
  simp only [push_cast, Nat.reduceAdd, Nat.reduceLeDiff, Nat.reduceLT, Int.reduceToNat, Nat.left_eq_add, Nat.add_eq_left, Nat.add_left_cancel_iff, Nat.reduceEqDiff, Nat.add_assoc, Nat.succ_ne_zero, hc]
  refine br_intro (fun e => ?_) fun e => ?_
  · have e : p.h.up = false := by simpa using e
    have := hk W1
    unfold Sp.takeQ at this
    rw [if_pos e] at this
    exact this hI1 hfr
  have hup : ¬ p.h.up = false := by simpa using e
  simp only [push_cast, Nat.reduceAdd, Nat.reduceLeDiff, Nat.reduceLT, Int.reduceToNat, Nat.left_eq_add, Nat.add_eq_left, Nat.add_left_cancel_iff, Nat.reduceEqDiff, Nat.add_assoc, Nat.succ_ne_zero, hx1, hwn]
  refine br_dec (fun e1 => ?_) fun e1 => ?_
  · refine rchange_spec hI1 hw (List.getElem?_eq_some_iff.1 hp).1 hnow fun W2 h2 f2 => ?_
    have := hk W2
    unfold Sp.takeQ at this
    rw [if_neg hup, if_pos e1] at this
    exact this h2 (hfr.trans f2)
  have hbl := h.lt b (.inr (.inl (List.mem_of_getElem? hb)))
  have n1 : ¬ w.heap.size = b := by omega
  have n2 : ¬ b = w.heap.size := by omega
  simp only [push_cast, Nat.reduceAdd, Nat.reduceLeDiff, Nat.reduceLT, Int.reduceToNat, Nat.left_eq_add, Nat.add_eq_left, Nat.add_left_cancel_iff, Nat.reduceEqDiff, Nat.add_assoc, Nat.succ_ne_zero, hc, hx1, n1, n2]
  obtain ⟨g1, f1⟩ := hI1.stp hb hp (Prt.s_edge p false)
  refine at_w (fun W => TKr w sp bs pv fv w.heap.size x (s.setP i { p with edge := false }) W) ⟨g1, ?_, hfr.trans f1, hnx⟩ ?_
  · simp only [push_cast, Nat.reduceAdd, Nat.reduceLeDiff, Nat.reduceLT, Int.reduceToNat, Nat.left_eq_add, Nat.add_eq_left, Nat.add_left_cancel_iff, Nat.reduceEqDiff, Nat.add_assoc, Nat.succ_ne_zero, hx1, n1, n2]
  intro W2 hT
  generalize hxe : w.heap.size = xb at hT hnx h0 hx1 ⊢
  have hage := rightP_age hright e1
  have hpp : ∀ q, (s.setP i q).l[i]? = some q := s.setP_get hp
  have hw0 := hw.edge hp false
  have htk : ∀ W, RS W sp bs pv fv (s.takeP i p x now) → Fr (fR sp bs fv) w W → K (i64 0) W := fun W => by
    have := hk W
    unfold Sp.takeQ at this
    rw [if_neg hup, if_neg e1] at this
    exact this
  unfold Sp.takeP at htk
  generalize hp0 : ({ p with edge := false } : Prt) = p0 at *
  have hkind := right_kind hright e1
  have h12 : andI 12 12 = 12 := by decide
  have hil := (List.getElem?_eq_some_iff.1 hp).1
  have hfl2 : x.kind = 2 → takeF x = x.flags := fun e => by unfold takeF; rw [if_neg (by omega)]
  have hfl0 : ¬ x.kind = 2 → takeF x = 12 := fun e => by unfold takeF; rw [if_pos (by omega)]
  refine jn1 (fun v W => v = i64 (andI (takeF x) 12) ∧ W = W2) ?_ fun j hj => ?_
  · rintro v W3 ⟨rfl, rfl⟩
    have hwf1 := hw0.take1 (hpp p0) hx hnow hage
    have hl1 : ((s.setP i p0).take1 i p0 x now).l.length = s.l.length := by rw [take1_len, setP_len]
    refine jn0 (fun W => TKr w sp bs pv fv xb x ((s.setP i p0).take1 i p0 x now) W) ?_ fun j1 hj1 => ?_
    · rintro W4 hT4
      refine jn0 (fun W => TKr w sp bs pv fv xb x (((s.setP i p0).take1 i p0 x now).take2 i x now) W) ?_ fun j2 hj2 => ?_
      · rintro W5 hT5
        have hwf2 := hwf1.take2 i x now
        have hno : ¬ andI (takeF x) 1 ≠ 0 → K (i64 0) W5 := fun e => by
          refine htk _ ?_ hT5.fr
          unfold Sp.take3; rw [if_neg e]; exact hT5.c
        rw [brn_br]
        refine br_intro (fun e => ?_) fun e => ?_
        · have e : x.kind = 2 := by simpa using e
          have efl := hfl2 e
          simp only [push_cast, Nat.reduceAdd, Nat.reduceLeDiff, Nat.reduceLT, Int.reduceToNat, Nat.left_eq_add, Nat.add_eq_left, Nat.add_left_cancel_iff, Nat.reduceEqDiff, Nat.add_assoc, Nat.succ_ne_zero, hT5.x, s_andI]
          refine br_intro (fun e2 => ?_) fun e2 => ?_
          · have e2 : andI (takeF x) 1 ≠ 0 := by rw [efl]; simpa using e2
            simp only [push_cast, Nat.reduceAdd, Nat.reduceLeDiff, Nat.reduceLT, Int.reduceToNat, Nat.left_eq_add, Nat.add_eq_left, Nat.add_left_cancel_iff, Nat.reduceEqDiff, Nat.add_assoc, Nat.succ_ne_zero, hwn]
            have hl2 : i < (((s.setP i p0).take1 i p0 x now).take2 i x now).l.length := by
              rw [← hT5.c.ps.len]; exact (List.getElem?_eq_some_iff.1 hb).1
            refine rchange_spec hT5.c hwf2 hl2 hnow fun W6 h6 f6 => ?_
            refine htk _ ?_ (hT5.fr.trans f6)
            unfold Sp.take3; rw [if_pos e2]; exact h6
          · have e2 : ¬ andI (takeF x) 1 ≠ 0 := by rw [efl]; simpa using e2
            exact hno e2
        · have e : ¬ x.kind = 2 := by simpa using e
          exact hno (by rw [hfl0 e]; decide)
      · rw [jn_0]
        simp only [drw_eq]
        replace hT4 := hT4.step (hT4.c.fr0 (Fr.drew W4)) ((Fr.drew (fp := none_) W4).mono fun _ _ h => h.elim)
        generalize W4.drew = W5 at *
        generalize hS1 : (s.setP i p0).take1 i p0 x now = s1 at *
        obtain ⟨_, q, _, hq⟩ := bs_at hT4.c.ps (show i < s1.l.length by rw [hl1]; exact hil)
        have hcq := hT4.c.ps.port i b q hb hq
        have hno : ¬ (andI (takeF x) 12 ≠ 12 ∧ andI (takeF x) 64 ≠ 0 ∧ q.role = 2 ∧ x.root = s1.best.root) → j2 W5 := fun hC => by
          refine hj2 _ ?_
          have : s1.take2 i x now = s1 := by
            unfold Sp.take2
            split
            · rename_i hc
              rw [Sp.onP_eq hq]
              exact if_neg fun h => hC ⟨hc.1, hc.2, h.1, h.2⟩
            · rfl
          rw [this]; exact hT4
        simp only [push_cast, Nat.reduceAdd, Nat.reduceLeDiff, Nat.reduceLT, Int.reduceToNat, Nat.left_eq_add, Nat.add_eq_left, Nat.add_left_cancel_iff, Nat.reduceEqDiff, Nat.add_assoc, Nat.succ_ne_zero]
        refine br_intro (fun e3 => ?_) fun e3 => ?_
        · have e3 : andI (takeF x) 12 ≠ 12 := by simpa using e3
          have ek : x.kind = 2 := by
            by_cases e : x.kind = 2
            · exact e
            · exact absurd (by rw [hfl0 e, h12]) e3
          have efl := hfl2 ek
          simp only [push_cast, Nat.reduceAdd, Nat.reduceLeDiff, Nat.reduceLT, Int.reduceToNat, Nat.left_eq_add, Nat.add_eq_left, Nat.add_left_cancel_iff, Nat.reduceEqDiff, Nat.add_assoc, Nat.succ_ne_zero, hT4.x, s_andI]
          refine br_intro (fun e4 => ?_) fun e4 => ?_
          · have e4 : andI (takeF x) 64 ≠ 0 := by rw [efl]; simpa using e4
            simp only [push_cast, Nat.reduceAdd, Nat.reduceLeDiff, Nat.reduceLT, Int.reduceToNat, Nat.left_eq_add, Nat.add_eq_left, Nat.add_left_cancel_iff, Nat.reduceEqDiff, Nat.add_assoc, Nat.succ_ne_zero, hcq]
            refine br_dec (fun e5 => ?_) fun e5 => ?_
            · simp only [push_cast, Nat.reduceAdd, Nat.reduceLeDiff, Nat.reduceLT, Int.reduceToNat, Nat.left_eq_add, Nat.add_eq_left, Nat.add_left_cancel_iff, Nat.reduceEqDiff, Nat.add_assoc, Nat.succ_ne_zero, hT4.x, hT4.c.ps.main]
              refine s_eqId hx.2.2.1 hwf1.best.1 ?_
              simp only [push_cast, Nat.reduceAdd, Nat.reduceLeDiff, Nat.reduceLT, Int.reduceToNat, Nat.left_eq_add, Nat.add_eq_left, Nat.add_left_cancel_iff, Nat.reduceEqDiff, Nat.add_assoc, Nat.succ_ne_zero]
              refine br_dec (fun e6 => ?_) fun e6 => ?_
              · simp only [push_cast, Nat.reduceAdd, Nat.reduceLeDiff, Nat.reduceLT, Int.reduceToNat, Nat.left_eq_add, Nat.add_eq_left, Nat.add_left_cancel_iff, Nat.reduceEqDiff, Nat.add_assoc, Nat.succ_ne_zero, hcq, hwn]
                obtain ⟨g4, f4⟩ := hT4.c.stp hb hq (Prt.s_agreed q true)
                refine rforwards_spec g4 (hwf1.agreed hq true) (s1.setP_get hq _) hnow fun W6 h6 f6 => ?_
                refine hj2 _ ?_
                have : s1.take2 i x now = (s1.setP i { q with agreed := true }).forwQ i { q with agreed := true } now := by
                  unfold Sp.take2
                  rw [if_pos ⟨e3, e4⟩, Sp.onP_eq hq]
                  exact if_pos ⟨e5, e6⟩
                rw [this]
                exact hT4.step h6 (f4.trans f6)
              · exact hno fun h => e6 h.2.2.2
            · exact hno fun h => e5 h.2.2.1
          · have e4 : ¬ andI (takeF x) 64 ≠ 0 := by rw [efl]; simpa using e4
            exact hno fun h => e4 h.2.1
        · have e3 : ¬ andI (takeF x) 12 ≠ 12 := by simpa using e3
          exact hno fun h => e3 h.1
    · rw [jn_0]
      have hno : ¬ (andI (takeF x) 12 = 12 ∧ x.age < 20) → j1 W3 := fun hC => by
        refine hj1 _ ?_
        unfold Sp.take1; rw [if_neg hC]; exact hT
      simp only [push_cast, Nat.reduceAdd, Nat.reduceLeDiff, Nat.reduceLT, Int.reduceToNat, Nat.left_eq_add, Nat.add_eq_left, Nat.add_left_cancel_iff, Nat.reduceEqDiff, Nat.add_assoc, Nat.succ_ne_zero]
      refine br_dec (fun e3 => ?_) fun e3 => ?_
      · simp only [push_cast, Nat.reduceAdd, Nat.reduceLeDiff, Nat.reduceLT, Int.reduceToNat, Nat.left_eq_add, Nat.add_eq_left, Nat.add_left_cancel_iff, Nat.reduceEqDiff, Nat.add_assoc, Nat.succ_ne_zero, hT.x]
        refine br_dec (fun e4 => ?_) fun e4 => ?_
        · try simp only [push_cast, Nat.reduceAdd, Nat.reduceLeDiff, Nat.reduceLT, Int.reduceToNat, Nat.left_eq_add, Nat.add_eq_left, Nat.add_left_cancel_iff, Nat.reduceEqDiff, Nat.add_assoc, Nat.succ_ne_zero, hT.x]
          refine rhears_spec hT.c hw0 hb (hpp p0) hx hnow fun W4 h4 f4 => ?_
          have hT4 := hT.step h4 f4
          have hwh := hw0.hearP (hpp p0) hx hnow hage
          simp only [push_cast, Nat.reduceAdd, Nat.reduceLeDiff, Nat.reduceLT, Int.reduceToNat, Nat.left_eq_add, Nat.add_eq_left, Nat.add_left_cancel_iff, Nat.reduceEqDiff, Nat.add_assoc, Nat.succ_ne_zero]
          refine rreckon_spec h4 hwh hnow fun W5 h5 f5 => ?_
          have hT5 := hT4.step h5 f5
          have hwr := hwh.reckon hnow
          rw [jn_0, jn_0, brn_br]
          have hno2 : ¬ andI (takeF x) 2 ≠ 0 → j1 W5 := fun e => by
            refine hj1 _ ?_
            unfold Sp.take1
            rw [if_pos ⟨e3, e4⟩, if_neg e]
            exact hT5
          refine br_intro (fun e5 => ?_) fun e5 => ?_
          · have e5 : x.kind = 2 := by simpa using e5
            have efl := hfl2 e5
            simp only [push_cast, Nat.reduceAdd, Nat.reduceLeDiff, Nat.reduceLT, Int.reduceToNat, Nat.left_eq_add, Nat.add_eq_left, Nat.add_left_cancel_iff, Nat.reduceEqDiff, Nat.add_assoc, Nat.succ_ne_zero, hT5.x, s_andI]
            refine br_intro (fun e6 => ?_) fun e6 => ?_
            · have e6 : andI (takeF x) 2 ≠ 0 := by rw [efl]; simpa using e6
              obtain ⟨_, q, _, hq⟩ := bs_at h5.ps (show i < _ by rw [reckon_len, setP_len, setP_len]; exact hil)
              refine rproposed_spec h5 hwr hq hi hnow fun W6 h6 f6 => ?_
              refine hj1 _ ?_
              unfold Sp.take1
              rw [if_pos ⟨e3, e4⟩, if_pos e6, Sp.onP_eq hq]
              exact hT5.step h6 f6
            · exact hno2 (by rw [efl]; simpa using e6)
          · have e5 : ¬ x.kind = 2 := by simpa using e5
            exact hno2 (by rw [hfl0 e5]; decide)
        · exact hno fun h => e4 h.2
      · exact hno fun h => e3 h.1
  · rw [brn_br]
    refine br_intro (fun e => ?_) fun e => ?_
    · have e : x.kind = 2 := by simpa using e
      simp only [push_cast, Nat.reduceAdd, Nat.reduceLeDiff, Nat.reduceLT, Int.reduceToNat, Nat.left_eq_add, Nat.add_eq_left, Nat.add_left_cancel_iff, Nat.reduceEqDiff, Nat.add_assoc, Nat.succ_ne_zero, hT.x, s_andI]
      exact hj _ _ ⟨by rw [hfl2 e], rfl⟩
    · have e : ¬ x.kind = 2 := by simpa using e
      exact hj _ _ ⟨by rw [hfl0 e, h12], rfl⟩

end Go.Gx.S
end

section
/- A port goes on; what it says. -/
set_option linter.unusedVariables false
set_option linter.unusedSimpArgs false
set_option maxRecDepth 100000
namespace Go.Gx.S
open Go Go.Gx Go.Proofs
variable {K : Value → World → Prop} {w : World} {sp mb : Nat} {bs : List Nat} {pv fv : Value} {s : Sp}

def orI (a b : Int) : Int := IntKind.i64.wrap (BitVec.ofInt 64 a ||| BitVec.ofInt 64 b).toNat
theorem s_orI (a b : Int) : opS Tryz.prog (S.binI .or (.int .i64 a) (.int .i64 b)) K w = K (.int .i64 (orI a b)) w := rfl

/-! ### Plain -/

def Sp.goesQ (s : Sp) (i : Nat) (p : Prt) (now : Int) : Sp :=
  if p.role = 2 ∧ ¬ now < p.on then
    (if p.state = 0 then s.setP i { p with state := 1, on := now + 15 } else if p.state = 1 then s.forwQ i p now else s)
  else s
theorem goesQ_len (s : Sp) (i : Nat) (p : Prt) (now : Int) : (s.goesQ i p now).l.length = s.l.length := by
  unfold Sp.goesQ
  split
  · split
    · rw [setP_len]
    · split
      · rw [forwQ_len]
      · rfl
  · rfl
theorem Sp.wf.goesQ (h : s.wf) {i : Nat} {p : Prt} (hp : s.l[i]? = some p) {now : Int} (hn : momB now) : (s.goesQ i p now).wf := by
  have hpo := h.l p (List.mem_of_getElem? hp)
  unfold Sp.goesQ
  split
  · split
    · exact h.setP hp ⟨rfl, rfl⟩ ⟨hpo.1, hpo.2.1, hpo.2.2.1, hpo.2.2.2.1, isI1, isIm hn (by decide) (by decide)⟩ fun h => ⟨h.role, st1, h.age, h.reply⟩
    · split
      · exact h.forwQ hp now
      · exact h
  · exact h

theorem goes_spec {i b : Nat} {p : Prt} {now : Int} (h : CS w sp bs pv mb s) (hw : s.wf) (hb : bs[i]? = some b) (hp : s.l[i]? = some p) (hn : momB now)
    (hk : ∀ w', CS w' sp bs pv mb (s.goesQ i p now) → Fr (fC sp bs mb) w w' → K (.tuple #[]) w') : CallsR Tryz.prog 53 #[pt sp 0, pt b 0, i64 now] K w := by
  apply c53
  unfold p53
  have hc := h.ps.port i b p hb hp
  have hw15 := wrapm hn (show (0 : Int) ≤ 15 by decide) (by decide)
  unfold Sp.goesQ at hk
  simp only [push_cast, Nat.reduceAdd, Nat.reduceLeDiff, Nat.reduceLT, Int.reduceToNat, Nat.left_eq_add, Nat.add_eq_left, Nat.add_left_cancel_iff, Nat.reduceEqDiff, Nat.add_assoc, Nat.succ_ne_zero, hc]
  refine br_intro (fun e => ?_) fun e => ?_
  · have e : p.role ≠ 2 := by simpa using e
    rw [if_neg (fun h => e h.1)] at hk
    exact hk _ h (Fr.refl _ _)
  have e : p.role = 2 := by simpa using e
  refine br_dec (fun e2 => ?_) fun e2 => ?_
  · rw [if_neg (fun h => h.2 e2)] at hk
    exact hk _ h (Fr.refl _ _)
  rw [if_pos ⟨e, e2⟩] at hk
  refine br_dec (fun e3 => ?_) fun e3 => ?_
  · rw [if_pos e3] at hk
    obtain ⟨h1, f1⟩ := h.stp hb hp (Prt.s_state p 1)
    obtain ⟨h2, f2⟩ := h1.stp hb (s.setP_get hp _) (Prt.s_on { p with state := 1 } (now + 15))
    rw [Sp.setP_setP] at h2
    simp only [push_cast, Nat.reduceAdd, Nat.reduceLeDiff, Nat.reduceLT, Int.reduceToNat, Nat.left_eq_add, Nat.add_eq_left, Nat.add_left_cancel_iff, Nat.reduceEqDiff, Nat.add_assoc, Nat.succ_ne_zero, hc, hw15]
    exact hk _ h2 (f1.trans f2)
  rw [if_neg e3] at hk
  refine br_dec (fun e4 => ?_) fun e4 => ?_
  · rw [if_pos e4] at hk
    refine forwards_spec h hw hb hp hn fun W1 h1 f1 => ?_
    exact hk _ h1 f1
  · rw [if_neg e4] at hk
    exact hk _ h (Fr.refl _ _)

theorem rgoes_spec {i : Nat} {p : Prt} {now : Int} (h : RS w sp bs pv fv s) (hw : s.wf) (hp : s.l[i]? = some p) (hn : momB now)
    (hk : ∀ w', RS w' sp bs pv fv (s.goesQ i p now) → Fr (fR sp bs fv) w w' → K (.tuple #[]) w') : CallsR Tryz.prog 56 #[pt sp 0, i64 i, i64 now] K w := by
  apply c56
  unfold p56
  have hi := (List.getElem?_eq_some_iff.1 hp).1
  have hinv := (hw.rl p (List.mem_of_getElem? hp)).state
  obtain ⟨b, _, hb, _⟩ := bs_at h.ps hi
  have hc := h.ps.port i b p hb hp
  have hw15 := wrapm hn (show (0 : Int) ≤ 15 by decide) (by decide)
  unfold Sp.goesQ at hk
  simp only [push_cast, Nat.reduceAdd, Nat.reduceLeDiff, Nat.reduceLT, Int.reduceToNat, Nat.left_eq_add, Nat.add_eq_left, Nat.add_left_cancel_iff, Nat.reduceEqDiff, Nat.add_assoc, Nat.succ_ne_zero, h.ps.main]
  refine ld_ptr h.ps (Fr.refl _ _) hb ?_
  simp only [push_cast, Nat.reduceAdd, Nat.reduceLeDiff, Nat.reduceLT, Int.reduceToNat, Nat.left_eq_add, Nat.add_eq_left, Nat.add_left_cancel_iff, Nat.reduceEqDiff, Nat.add_assoc, Nat.succ_ne_zero, hc]
  refine br_intro (fun e => ?_) fun e => ?_
  · have e : p.role ≠ 2 := by simpa using e
    rw [if_neg (fun h => e h.1)] at hk
    exact hk _ h (Fr.refl _ _)
  have e : p.role = 2 := by simpa using e
  refine br_dec (fun e0 => ?_) fun e0 => ?_
  · refine hk _ ?_ (Fr.refl _ _)
    split
    · rw [if_neg (by omega), if_neg (by omega)]; exact h
    · exact h
  refine br_dec (fun e2 => ?_) fun e2 => ?_
  · rw [if_neg (fun h => h.2 e2)] at hk
    exact hk _ h (Fr.refl _ _)
  rw [if_pos ⟨e, e2⟩] at hk
  refine br_dec (fun e3 => ?_) fun e3 => ?_
  · rw [if_pos e3] at hk
    obtain ⟨h1, f1⟩ := h.stp hb hp (Prt.s_state p 1)
    obtain ⟨h2, f2⟩ := h1.stp hb (s.setP_get hp _) (Prt.s_on { p with state := 1 } (now + 15))
    rw [Sp.setP_setP] at h2
    simp only [push_cast, Nat.reduceAdd, Nat.reduceLeDiff, Nat.reduceLT, Int.reduceToNat, Nat.left_eq_add, Nat.add_eq_left, Nat.add_left_cancel_iff, Nat.reduceEqDiff, Nat.add_assoc, Nat.succ_ne_zero, hc, hw15]
    exact hk _ h2 (f1.trans f2)
  rw [if_neg e3, if_pos (show p.state = 1 by omega)] at hk
  refine rforwards_spec h hw hp hn fun W1 h1 f1 => ?_
  exact hk _ h1 f1

/-! ### flags -/

def putI (f : Int) (is : Bool) (bits : Int) : Int := if is = true then orI f bits else f
/-- without the port's state -/
def baseF (p : Prt) (due tells : Bool) : Int :=
  if p.role = 2 then putI (putI 0 due 12) (due && !decide (p.state = 2)) 2
  else putI (putI (putI 0 ((p.reply || decide (p.role = 1) && due && tells) && decide (p.role = 1)) 8) ((p.reply || decide (p.role = 1) && due && tells) && !decide (p.role = 1)) 4) p.reply 64
def flagsF (p : Prt) (due tells : Bool) : Int :=
  if baseF p due tells = 0 ∨ p.h.up = false then 0
  else putI (putI (putI (baseF p due tells) (!decide (p.state = 0)) 16) (decide (p.state = 2)) 32) tells 1

/-- while it is told -/
structure FGc (w : World) (sp : Nat) (bs : List Nat) (pv : Value) (mb fb : Nat) (s : Sp) (f : Int) (W : World) : Prop where
  c : CS W sp bs pv mb s
  f : W.heap[fb]? = some (cellsO [i64 f] 3)
  fr : Fr none_ w W
  nf : w.heap.size ≤ fb
theorem put_spec {fb : Nat} {f bits : Int} {is : Bool} {W : World} (h : CS w sp bs pv mb s) (h0 : 0 < s.l.length) (hf : FGc w sp bs pv mb fb s f W) (hk : ∀ W', FGc w sp bs pv mb fb s (putI f is bits) W' → K (.tuple #[]) W') :
    CallsR Tryz.prog 75 #[.bool is, i64 bits, pt fb 0] K W := by
  apply c75
  unfold p75
  rw [brn_br]
  refine br_intro (fun e => ?_) fun e => ?_
  · subst e
    simp only [push_cast, Nat.reduceAdd, Nat.reduceLeDiff, Nat.reduceLT, Int.reduceToNat, Nat.left_eq_add, Nat.add_eq_left, Nat.add_left_cancel_iff, Nat.reduceEqDiff, Nat.add_assoc, Nat.succ_ne_zero, hf.f, s_orI]
    refine hk _ ?_
    have hF : Fr (fun b => b = fb) W (wr W fb 0 [i64 (orI f bits)]) := Fr.wr W _ _ _ rfl
    refine ⟨hf.c.fr hF (fun b hb e => ?_) fun b hb e => ?_, ?_, hf.fr.step_wr (.inr hf.nf) _ _, hf.nf⟩
    · have h1 := h.lt b hb
      have h2 := hf.nf
      have e : b = fb := e
      omega
    · have h1 := h.ps.pv_lt h0 b hb
      have h2 := hf.nf
      have e : b = fb := e
      omega
    · rw [heap_wr, if_pos rfl, hf.f, putAt_cells]
      rfl
  · have e : is = false := by simpa using e
    subst e
    exact hk _ hf

theorem flags_spec {i b : Nat} {p : Prt} {now : Int} {due : Bool} (h : CS w sp bs pv mb s) (hb : bs[i]? = some b) (hp : s.l[i]? = some p)
    (hk : ∀ w', CS w' sp bs pv mb s → Fr none_ w w' → K (i64 (flagsF p due (decide (now < s.change)))) w') : CallsR Tryz.prog 55 #[pt sp 0, pt b 0, .bool due, i64 now] K w := by
  apply c55
  unfold p55
  have hc := h.ps.port i b p hb hp
  have hb1 : (p.role == 1) = decide (p.role = 1) := by by_cases h : p.role = 1 <;> simp [h]
  have hl0 : 0 < s.l.length := by have := (List.getElem?_eq_some_iff.1 hp).1; omega
  have hbl := h.lt b (.inr (.inl (List.mem_of_getElem? hb)))
  have n1 : ¬ b = w.heap.size := by omega
  simp only [push_cast, Nat.reduceAdd, Nat.reduceLeDiff, Nat.reduceLT, Int.reduceToNat, Nat.left_eq_add, Nat.add_eq_left, Nat.add_left_cancel_iff, Nat.reduceEqDiff, Nat.add_assoc, Nat.succ_ne_zero, hc, n1]
  refine at_w (fun W => FGc w sp bs pv mb w.heap.size s 0 W) ⟨?_, ?_, (by repeat' first | with_reducible exact Fr.refl _ _ | with_reducible refine Fr.step_alloc ?_ ?_ | with_reducible refine Fr.step_drew ?_ | with_reducible refine Fr.step_wr ?_ ?_ _ _ | exact rfl | exact Or.inr (by omega) | exact Or.inl rfl | exact Or.inl (Or.inl rfl) | exact Or.inl (Or.inr rfl)), Nat.le_refl _⟩ ?_
  · exact h.fr0 (by repeat' first | with_reducible exact Fr.refl _ _ | with_reducible refine Fr.step_alloc ?_ ?_ | with_reducible refine Fr.step_drew ?_ | with_reducible refine Fr.step_wr ?_ ?_ _ _ | exact rfl | exact Or.inr (by omega) | exact Or.inl rfl | exact Or.inl (Or.inl rfl) | exact Or.inl (Or.inr rfl))
  · simp only [push_cast, Nat.reduceAdd, Nat.reduceLeDiff, Nat.reduceLT, Int.reduceToNat, Nat.left_eq_add, Nat.add_eq_left, Nat.add_left_cancel_iff, Nat.reduceEqDiff, Nat.add_assoc, Nat.succ_ne_zero]
  intro W1 hT
  generalize w.heap.size = fb at *
  refine jn0 (fun W => FGc w sp bs pv mb fb s (baseF p due (decide (now < s.change))) W) ?_ fun j0 hj0 => ?_
  · rintro W hT
    simp only [push_cast, Nat.reduceAdd, Nat.reduceLeDiff, Nat.reduceLT, Int.reduceToNat, Nat.left_eq_add, Nat.add_eq_left, Nat.add_left_cancel_iff, Nat.reduceEqDiff, Nat.add_assoc, Nat.succ_ne_zero, hT.f]
    have h0 : flagsF p due (decide (now < s.change)) = 0 → K (i64 0) W := fun e => by
      have := hk W hT.c hT.fr
      rwa [e] at this
    refine br_dec (fun e0 => h0 (by unfold flagsF; rw [if_pos (.inl e0)])) fun e0 => ?_
    simp only [push_cast, Nat.reduceAdd, Nat.reduceLeDiff, Nat.reduceLT, Int.reduceToNat, Nat.left_eq_add, Nat.add_eq_left, Nat.add_left_cancel_iff, Nat.reduceEqDiff, Nat.add_assoc, Nat.succ_ne_zero, hT.c.ps.port i b p hb hp]
    refine br_intro (fun e1 => ?_) fun e1 => ?_
    · have e1 : p.h.up = false := by simpa using e1
      exact h0 (by unfold flagsF; rw [if_pos (.inr e1)])
    have e1 : ¬ p.h.up = false := by simpa using e1
    unfold flagsF at hk
    rw [if_neg (fun h => h.elim e0 e1)] at hk
    refine put_spec h hl0 hT fun W2 hT2 => ?_
    simp only [push_cast, Nat.reduceAdd, Nat.reduceLeDiff, Nat.reduceLT, Int.reduceToNat, Nat.left_eq_add, Nat.add_eq_left, Nat.add_left_cancel_iff, Nat.reduceEqDiff, Nat.add_assoc, Nat.succ_ne_zero, hT2.c.ps.port i b p hb hp]
    refine put_spec h hl0 hT2 fun W3 hT3 => ?_
    simp only [push_cast, Nat.reduceAdd, Nat.reduceLeDiff, Nat.reduceLT, Int.reduceToNat, Nat.left_eq_add, Nat.add_eq_left, Nat.add_left_cancel_iff, Nat.reduceEqDiff, Nat.add_assoc, Nat.succ_ne_zero, hT3.c.ps.main]
    refine put_spec h hl0 hT3 fun W4 hT4 => ?_
    simp only [push_cast, Nat.reduceAdd, Nat.reduceLeDiff, Nat.reduceLT, Int.reduceToNat, Nat.left_eq_add, Nat.add_eq_left, Nat.add_left_cancel_iff, Nat.reduceEqDiff, Nat.add_assoc, Nat.succ_ne_zero, hT4.f]
    exact hk _ hT4.c hT4.fr
  · unfold baseF at hj0
    simp only [push_cast, Nat.reduceAdd, Nat.reduceLeDiff, Nat.reduceLT, Int.reduceToNat, Nat.left_eq_add, Nat.add_eq_left, Nat.add_left_cancel_iff, Nat.reduceEqDiff, Nat.add_assoc, Nat.succ_ne_zero, hT.c.ps.port i b p hb hp]
    refine br_dec (fun e => ?_) fun e => ?_
    · rw [if_pos e] at hj0
      refine put_spec h hl0 hT fun W2 hT2 => ?_
      rw [jn_0, brn_br]
      refine br_intro (fun e2 => ?_) fun e2 => ?_
      · subst e2
        simp only [push_cast, Nat.reduceAdd, Nat.reduceLeDiff, Nat.reduceLT, Int.reduceToNat, Nat.left_eq_add, Nat.add_eq_left, Nat.add_left_cancel_iff, Nat.reduceEqDiff, Nat.add_assoc, Nat.succ_ne_zero, hT2.c.ps.port i b p hb hp]
        refine put_spec h hl0 hT2 fun W3 hT3 => ?_
        exact hj0 _ hT3
      · have e2 : due = false := by simpa using e2
        subst e2
        simp only [push_cast, Nat.reduceAdd, Nat.reduceLeDiff, Nat.reduceLT, Int.reduceToNat, Nat.left_eq_add, Nat.add_eq_left, Nat.add_left_cancel_iff, Nat.reduceEqDiff, Nat.add_assoc, Nat.succ_ne_zero]
        refine put_spec h hl0 hT2 fun W3 hT3 => ?_
        exact hj0 _ hT3
    · rw [if_neg e] at hj0
      refine jn1 (fun v W => v = .bool (p.reply || decide (p.role = 1) && due && decide (now < s.change)) ∧ W = W1) ?_ fun j1 hj1 => ?_
      · rintro v W ⟨rfl, rfl⟩
        generalize (p.reply || decide (p.role = 1) && due && decide (now < s.change)) = says at *
        rw [jn_0, jn_0]
        have hlast : ∀ {W2}, FGc w sp bs pv mb fb s (putI (putI 0 (says && decide (p.role = 1)) 8) (says && !decide (p.role = 1)) 4) W2 → opS Tryz.prog (S.nc (pt b 0)) (fun x16 => opS Tryz.prog (S.fa 63 x16 8) fun x17 => opS Tryz.prog (S.ld 4 x17) fun x18 => opS Tryz.prog (S.call (.func (.func 75) #[] #[pt fb 0]) [x18, .int .i64 64]) fun _ => j0) W2 := fun {W2} hT2 => by
          simp only [push_cast, Nat.reduceAdd, Nat.reduceLeDiff, Nat.reduceLT, Int.reduceToNat, Nat.left_eq_add, Nat.add_eq_left, Nat.add_left_cancel_iff, Nat.reduceEqDiff, Nat.add_assoc, Nat.succ_ne_zero, hT2.c.ps.port i b p hb hp]
          refine put_spec h hl0 hT2 fun W3 hT3 => ?_
          exact hj0 _ hT3
        rw [brn_br]
        refine br_intro (fun e2 => ?_) fun e2 => ?_
        · subst e2
          refine put_spec h hl0 hT fun W2 hT2 => ?_
          simp only [push_cast, Nat.reduceAdd, Nat.reduceLeDiff, Nat.reduceLT, Int.reduceToNat, Nat.left_eq_add, Nat.add_eq_left, Nat.add_left_cancel_iff, Nat.reduceEqDiff, Nat.add_assoc, Nat.succ_ne_zero]
          refine put_spec h hl0 hT2 fun W3 hT3 => ?_
          refine hlast ?_
          rw [hb1] at hT3
          exact hT3
        · have e2 : says = false := by simpa using e2
          subst e2
          refine put_spec h hl0 hT fun W2 hT2 => ?_
          simp only [push_cast, Nat.reduceAdd, Nat.reduceLeDiff, Nat.reduceLT, Int.reduceToNat, Nat.left_eq_add, Nat.add_eq_left, Nat.add_left_cancel_iff, Nat.reduceEqDiff, Nat.add_assoc, Nat.succ_ne_zero]
          refine put_spec h hl0 hT2 fun W3 hT3 => ?_
          refine hlast ?_
          exact hT3
      · simp only [push_cast, Nat.reduceAdd, Nat.reduceLeDiff, Nat.reduceLT, Int.reduceToNat, Nat.left_eq_add, Nat.add_eq_left, Nat.add_left_cancel_iff, Nat.reduceEqDiff, Nat.add_assoc, Nat.succ_ne_zero, hT.c.ps.port i b p hb hp]
        refine br_intro (fun e2 => ?_) fun e2 => ?_
        · exact hj1 _ _ ⟨by rw [e2, Bool.true_or], rfl⟩
        · rw [e2, Bool.false_or] at hj1
          refine br_dec (fun e3 => ?_) fun e3 => ?_
          · rw [decide_eq_true e3, Bool.true_and] at hj1
            refine br_intro (fun e4 => ?_) fun e4 => ?_
            · rw [e4, Bool.true_and] at hj1
              simp only [push_cast, Nat.reduceAdd, Nat.reduceLeDiff, Nat.reduceLT, Int.reduceToNat, Nat.left_eq_add, Nat.add_eq_left, Nat.add_left_cancel_iff, Nat.reduceEqDiff, Nat.add_assoc, Nat.succ_ne_zero, hT.c.ps.main]
              exact hj1 _ _ ⟨rfl, rfl⟩
            · have e4 : due = false := by simpa using e4
              exact hj1 _ _ ⟨by rw [e4, Bool.false_and], rfl⟩
          · exact hj1 _ _ ⟨by rw [decide_eq_false e3, Bool.false_and, Bool.false_and], rfl⟩

/-! ### The reference's -/

theorem rflags_spec {i b : Nat} {p : Prt} {now : Int} {due : Bool} (h : RS w sp bs pv fv s) (hb : bs[i]? = some b) (hp : s.l[i]? = some p)
    (hk : K (i64 (flagsF p due (decide (now < s.change)))) w) : CallsR Tryz.prog 57 #[pt sp 0, pt b 0, .bool due, i64 now] K w := by
  apply c57
  unfold p57
  have hc := h.ps.port i b p hb hp
  have hm := h.ps.main
  refine jn1 (fun v W => v = i64 (if p.h.up = false then 0 else baseF p due (decide (now < s.change))) ∧ W = w) ?_ fun j0 hj0 => ?_
  · rintro v W ⟨rfl, rfl⟩
    have hk0 : (if p.h.up = false then 0 else baseF p due (decide (now < s.change))) = 0 → K (i64 0) W := fun e => by
      have hk := hk
      unfold flagsF at hk
      rwa [if_pos] at hk
      by_cases h : p.h.up = false
      · exact .inr h
      · rw [if_neg h] at e; exact .inl e
    have hk1 : ¬ (if p.h.up = false then 0 else baseF p due (decide (now < s.change))) = 0 → K (i64 (putI (putI (putI (if p.h.up = false then 0 else baseF p due (decide (now < s.change))) (!decide (p.state = 0)) 16) (decide (p.state = 2)) 32) (decide (now < s.change)) 1)) W := fun e => by
      have hk := hk
      unfold flagsF at hk
      by_cases h : p.h.up = false
      · rw [if_pos h] at e; exact absurd rfl e
      · rw [if_neg h] at e ⊢
        rwa [if_neg (fun h2 => h2.elim e h)] at hk
    generalize (if p.h.up = false then 0 else baseF p due (decide (now < s.change))) = f at *
    simp only [push_cast, Nat.reduceAdd, Nat.reduceLeDiff, Nat.reduceLT, Int.reduceToNat, Nat.left_eq_add, Nat.add_eq_left, Nat.add_left_cancel_iff, Nat.reduceEqDiff, Nat.add_assoc, Nat.succ_ne_zero]
    refine br_dec (fun e => hk0 e) fun e => ?_
    replace hk1 := hk1 e
    refine jn1 (fun v W' => v = i64 (putI f (!decide (p.state = 0)) 16) ∧ W' = W) ?_ fun j1 hj1 => ?_
    · rintro v W' ⟨rfl, rfl⟩
      refine jn1 (fun v W'' => v = i64 (putI (putI f (!decide (p.state = 0)) 16) (decide (p.state = 2)) 32) ∧ W'' = W') ?_ fun j2 hj2 => ?_
      · rintro v W'' ⟨rfl, rfl⟩
        simp only [push_cast, Nat.reduceAdd, Nat.reduceLeDiff, Nat.reduceLT, Int.reduceToNat, Nat.left_eq_add, Nat.add_eq_left, Nat.add_left_cancel_iff, Nat.reduceEqDiff, Nat.add_assoc, Nat.succ_ne_zero, hm]
        refine br_dec (fun e => ?_) fun e => ?_
        · rw [decide_eq_true e] at hk1
          simp only [push_cast, Nat.reduceAdd, Nat.reduceLeDiff, Nat.reduceLT, Int.reduceToNat, Nat.left_eq_add, Nat.add_eq_left, Nat.add_left_cancel_iff, Nat.reduceEqDiff, Nat.add_assoc, Nat.succ_ne_zero, s_orI]
          exact hk1
        · rw [decide_eq_false e] at hk1
          exact hk1
      · simp only [push_cast, Nat.reduceAdd, Nat.reduceLeDiff, Nat.reduceLT, Int.reduceToNat, Nat.left_eq_add, Nat.add_eq_left, Nat.add_left_cancel_iff, Nat.reduceEqDiff, Nat.add_assoc, Nat.succ_ne_zero, hc]
        refine br_dec (fun e => ?_) fun e => ?_
        · rw [decide_eq_true e] at hj2
          simp only [push_cast, Nat.reduceAdd, Nat.reduceLeDiff, Nat.reduceLT, Int.reduceToNat, Nat.left_eq_add, Nat.add_eq_left, Nat.add_left_cancel_iff, Nat.reduceEqDiff, Nat.add_assoc, Nat.succ_ne_zero, s_orI]
          exact hj2 _ _ ⟨rfl, rfl⟩
        · rw [decide_eq_false e] at hj2
          exact hj2 _ _ ⟨rfl, rfl⟩
    · simp only [push_cast, Nat.reduceAdd, Nat.reduceLeDiff, Nat.reduceLT, Int.reduceToNat, Nat.left_eq_add, Nat.add_eq_left, Nat.add_left_cancel_iff, Nat.reduceEqDiff, Nat.add_assoc, Nat.succ_ne_zero, hc]
      refine br_intro (fun e => ?_) fun e => ?_
      · have e : p.state ≠ 0 := by simpa using e
        rw [decide_eq_false e] at hj1
        simp only [push_cast, Nat.reduceAdd, Nat.reduceLeDiff, Nat.reduceLT, Int.reduceToNat, Nat.left_eq_add, Nat.add_eq_left, Nat.add_left_cancel_iff, Nat.reduceEqDiff, Nat.add_assoc, Nat.succ_ne_zero, s_orI]
        exact hj1 _ _ ⟨rfl, rfl⟩
      · have e : p.state = 0 := by simpa using e
        rw [decide_eq_true e] at hj1
        exact hj1 _ _ ⟨rfl, rfl⟩
  · simp only [push_cast, Nat.reduceAdd, Nat.reduceLeDiff, Nat.reduceLT, Int.reduceToNat, Nat.left_eq_add, Nat.add_eq_left, Nat.add_left_cancel_iff, Nat.reduceEqDiff, Nat.add_assoc, Nat.succ_ne_zero, hc]
    refine br_intro (fun e => ?_) fun e => ?_
    · have e : p.h.up = false := by simpa using e
      exact hj0 _ _ ⟨by rw [if_pos e], rfl⟩
    have e : ¬ p.h.up = false := by simpa using e
    rw [if_neg e] at hj0
    rw [jn_1]
    unfold baseF at hj0
    simp only [push_cast, Nat.reduceAdd, Nat.reduceLeDiff, Nat.reduceLT, Int.reduceToNat, Nat.left_eq_add, Nat.add_eq_left, Nat.add_left_cancel_iff, Nat.reduceEqDiff, Nat.add_assoc, Nat.succ_ne_zero, hc]
    refine br_dec (fun e1 => ?_) fun e1 => ?_
    · rw [if_pos e1] at hj0
      refine jn1 (fun v W => v = i64 (putI 0 due 12) ∧ W = w) ?_ fun j2 hj2 => ?_
      · rintro v W ⟨rfl, rfl⟩
        rw [jn_1, jn_0, brn_br]
        refine br_intro (fun e2 => ?_) fun e2 => ?_
        · rw [e2] at hj0
          simp only [push_cast, Nat.reduceAdd, Nat.reduceLeDiff, Nat.reduceLT, Int.reduceToNat, Nat.left_eq_add, Nat.add_eq_left, Nat.add_left_cancel_iff, Nat.reduceEqDiff, Nat.add_assoc, Nat.succ_ne_zero, hc]
          refine br_intro (fun e3 => ?_) fun e3 => ?_
          · have e3 : p.state ≠ 2 := by simpa using e3
            rw [decide_eq_false e3] at hj0
            simp only [push_cast, Nat.reduceAdd, Nat.reduceLeDiff, Nat.reduceLT, Int.reduceToNat, Nat.left_eq_add, Nat.add_eq_left, Nat.add_left_cancel_iff, Nat.reduceEqDiff, Nat.add_assoc, Nat.succ_ne_zero, s_orI]
            exact hj0 _ _ ⟨by rw [e2]; rfl, rfl⟩
          · have e3 : p.state = 2 := by simpa using e3
            rw [decide_eq_true e3] at hj0
            exact hj0 _ _ ⟨by rw [e2]; rfl, rfl⟩
        · have e2 : due = false := by simpa using e2
          rw [e2] at hj0
          exact hj0 _ _ ⟨by rw [e2]; rfl, rfl⟩
      · rw [brn_br]
        refine br_intro (fun e2 => ?_) fun e2 => ?_
        · exact hj2 _ _ ⟨by rw [e2]; rfl, rfl⟩
        · have e2 : due = false := by simpa using e2
          exact hj2 _ _ ⟨by rw [e2]; rfl, rfl⟩
    · rw [if_neg e1] at hj0
      generalize hsays : (p.reply || decide (p.role = 1) && due && decide (now < s.change)) = says at *
      refine jn1 (fun v W => v = i64 (putI (putI 0 (says && decide (p.role = 1)) 8) (says && !decide (p.role = 1)) 4) ∧ W = w) ?_ fun j2 hj2 => ?_
      · rintro v W ⟨rfl, rfl⟩
        rw [jn_1]
        simp only [push_cast, Nat.reduceAdd, Nat.reduceLeDiff, Nat.reduceLT, Int.reduceToNat, Nat.left_eq_add, Nat.add_eq_left, Nat.add_left_cancel_iff, Nat.reduceEqDiff, Nat.add_assoc, Nat.succ_ne_zero, hc]
        refine br_intro (fun e2 => ?_) fun e2 => ?_
        · rw [e2] at hj0
          simp only [push_cast, Nat.reduceAdd, Nat.reduceLeDiff, Nat.reduceLT, Int.reduceToNat, Nat.left_eq_add, Nat.add_eq_left, Nat.add_left_cancel_iff, Nat.reduceEqDiff, Nat.add_assoc, Nat.succ_ne_zero, s_orI]
          exact hj0 _ _ ⟨rfl, rfl⟩
        · have e2 : p.reply = false := by simpa using e2
          rw [e2] at hj0
          exact hj0 _ _ ⟨rfl, rfl⟩
      · refine jn0 (fun W => says = true ∧ W = w) ?_ fun j3 hj3 => ?_
        · rintro W ⟨rfl, rfl⟩
          rw [jn_1]
          simp only [push_cast, Nat.reduceAdd, Nat.reduceLeDiff, Nat.reduceLT, Int.reduceToNat, Nat.left_eq_add, Nat.add_eq_left, Nat.add_left_cancel_iff, Nat.reduceEqDiff, Nat.add_assoc, Nat.succ_ne_zero, hc]
          refine br_dec (fun e2 => ?_) fun e2 => ?_
          · exact hj2 _ _ ⟨by rw [decide_eq_true e2]; rfl, rfl⟩
          · exact hj2 _ _ ⟨by rw [decide_eq_false e2]; rfl, rfl⟩
        · refine jn0 (fun W => says = false ∧ W = w) ?_ fun j4 hj4 => ?_
          · rintro W ⟨rfl, rfl⟩
            exact hj2 _ _ ⟨rfl, rfl⟩
          · simp only [push_cast, Nat.reduceAdd, Nat.reduceLeDiff, Nat.reduceLT, Int.reduceToNat, Nat.left_eq_add, Nat.add_eq_left, Nat.add_left_cancel_iff, Nat.reduceEqDiff, Nat.add_assoc, Nat.succ_ne_zero, hc]
            refine br_intro (fun e2 => ?_) fun e2 => ?_
            · exact hj3 _ ⟨by rw [← hsays, e2, Bool.true_or], rfl⟩
            rw [e2, Bool.false_or] at hsays
            refine br_dec (fun e3 => ?_) fun e3 => ?_
            · rw [decide_eq_true e3, Bool.true_and] at hsays
              refine br_intro (fun e4 => ?_) fun e4 => ?_
              · rw [e4, Bool.true_and] at hsays
                simp only [push_cast, Nat.reduceAdd, Nat.reduceLeDiff, Nat.reduceLT, Int.reduceToNat, Nat.left_eq_add, Nat.add_eq_left, Nat.add_left_cancel_iff, Nat.reduceEqDiff, Nat.add_assoc, Nat.succ_ne_zero, hm]
                refine br_dec (fun e5 => ?_) fun e5 => ?_
                · exact hj3 _ ⟨by rw [← hsays]; exact decide_eq_true e5, rfl⟩
                · exact hj4 _ ⟨by rw [← hsays]; exact decide_eq_false e5, rfl⟩
              · have e4 : due = false := by simpa using e4
                exact hj4 _ ⟨by rw [← hsays, e4, Bool.false_and], rfl⟩
            · exact hj4 _ ⟨by rw [← hsays, decide_eq_false e3, Bool.false_and, Bool.false_and], rfl⟩

end Go.Gx.S
end

section
/- What a bridge says. -/
set_option linter.unusedVariables false
set_option linter.unusedSimpArgs false
set_option maxRecDepth 100000
namespace Go.Gx.S
open Go Go.Gx Go.Proofs
variable {K : Value → World → Prop} {w : World} {sp mb : Nat} {bs : List Nat} {pv fv : Value} {s : Sp}

/-! ### One root at most -/

def Sp.rolesOf (s : Sp) : List Int := s.l.map (·.role)
def Sp.one (s : Sp) : Prop := ∀ i j : Nat, s.rolesOf[i]? = some 1 → s.rolesOf[j]? = some 1 → i = j

theorem rolesOf_len (s : Sp) : s.rolesOf.length = s.l.length := by unfold Sp.rolesOf; simp
theorem rolesOf_get {i : Nat} {p : Prt} (h : s.l[i]? = some p) : s.rolesOf[i]? = some p.role := by unfold Sp.rolesOf; rw [List.getElem?_map, h]; rfl
theorem rolesOf_setP (s : Sp) (i : Nat) (p : Prt) : (s.setP i p).rolesOf = s.rolesOf.set i p.role := by unfold Sp.rolesOf Sp.setP; exact List.map_set ..
theorem set_same {α : Type} {l : List α} {i : Nat} {x : α} (h : l[i]? = some x) : l.set i x = l := by
  obtain ⟨hi, e⟩ := List.getElem?_eq_some_iff.1 h
  apply List.ext_getElem?
  intro k
  rw [List.getElem?_set]
  by_cases e2 : i = k
  · subst e2; rw [if_pos rfl, if_pos hi, h]
  · rw [if_neg e2]
theorem rolesOf_setS {i : Nat} {p q : Prt} (h : s.l[i]? = some p) (e : q.role = p.role) : (s.setP i q).rolesOf = s.rolesOf := by
  rw [rolesOf_setP, e, set_same (rolesOf_get h)]
theorem rolesOf_forwQ (s : Sp) (i : Nat) (p : Prt) (now : Int) : (s.forwQ i p now).rolesOf = s.rolesOf.set i p.role := by
  unfold Sp.forwQ
  rw [rolesOf_setP]
  split <;> rfl
theorem rolesOf_goesQ {i : Nat} {p : Prt} (h : s.l[i]? = some p) (now : Int) : (s.goesQ i p now).rolesOf = s.rolesOf := by
  unfold Sp.goesQ
  split
  · split
    · exact rolesOf_setS h rfl
    · split
      · rw [rolesOf_forwQ, set_same (rolesOf_get h)]
      · rfl
  · rfl
theorem rolesOf_stepQ (s : Sp) (i : Nat) (p : Prt) (r now : Int) : (s.stepQ i p r now).rolesOf = s.rolesOf.set i r := by
  unfold Sp.stepQ
  split
  · rw [rolesOf_forwQ, rolesOf_setP, List.set_set]; rfl
  · split
    · rw [rolesOf_setP]; rfl
    · split <;> (rw [rolesOf_setP]; rfl)
theorem rolesOf_stepR (s : Sp) (i : Nat) (r now : Int) : (s.stepR i r now).rolesOf = s.rolesOf.set i r := by
  unfold Sp.stepR
  split
  · rename_i h
    rw [List.set_eq_of_length_le]
    rw [rolesOf_len]
    exact List.getElem?_eq_none_iff.1 h
  · exact rolesOf_stepQ ..
theorem rolesOf_reckK (s : Sp) (rs : List Int) (now : Int) (i : Nat) : ∀ k, (s.reckK rs now k).rolesOf[i]? = if i < k then s.rolesOf[i]?.map (fun _ => rs[i]?.getD 0) else s.rolesOf[i]?
  | 0 => by rw [if_neg (by omega)]; rfl
  | k + 1 => by
    show ((s.reckK rs now k).stepR k _ now).rolesOf[i]? = _
    rw [rolesOf_stepR, List.getElem?_set]
    by_cases e : k = i
    · subst e
      have hl : (s.reckK rs now k).rolesOf.length = s.rolesOf.length := by rw [rolesOf_len, reckK_len, rolesOf_len]
      have h1 : k < k + 1 := by omega
      rw [if_pos rfl, hl, if_pos h1]
      by_cases h : k < s.rolesOf.length
      · rw [if_pos h, List.getElem?_eq_getElem h]; rfl
      · rw [if_neg h, List.getElem?_eq_none (l := s.rolesOf) (by omega)]; rfl
    · rw [if_neg e, rolesOf_reckK s rs now i k]
      by_cases h : i < k
      · rw [if_pos h, if_pos (by omega)]
      · rw [if_neg h, if_neg (by omega)]
theorem rolesOf_reckon (s : Sp) (now : Int) : (s.reckon now).rolesOf = rolesL s.me s.hs := by
  apply List.ext_getElem?
  intro i
  unfold Sp.reckon
  rw [rolesOf_reckK]
  have hl : (rolesL s.me s.hs).length = s.l.length := by rw [rolesL_len, hs_len]
  have hr : ({ s with best := (bestL s.me s.hs).1 } : Sp).rolesOf = s.rolesOf := rfl
  rw [hr]
  by_cases h : i < s.l.length
  · rw [if_pos h, List.getElem?_eq_getElem (l := s.rolesOf) (by rw [rolesOf_len]; exact h), List.getElem?_eq_getElem (l := rolesL s.me s.hs) (by rw [hl]; exact h)]; rfl
  · rw [if_neg h, List.getElem?_eq_none (l := s.rolesOf) (by rw [rolesOf_len]; omega), List.getElem?_eq_none (l := rolesL s.me s.hs) (by rw [hl]; omega)]
theorem roleOf_root {me : Idn} {best : Vec} {root : Int} {i : Nat} {h : Hrd} (e : roleOf me best root i h = 1) : (i : Int) = root := by
  unfold roleOf at e
  split at e
  · omega
  · split at e
    · assumption
    · split at e
      · omega
      · split at e <;> omega
theorem rolesL_root {me : Idn} {l : List Hrd} {i : Nat} (h : (rolesL me l)[i]? = some 1) : (i : Int) = (bestL me l).2 := by
  unfold rolesL at h
  rw [List.getElem?_mapIdx] at h
  cases hl : l[i]? with
  | none => rw [hl] at h; cases h
  | some x =>
    rw [hl] at h
    exact roleOf_root (Option.some.inj h)
theorem one_of {l : List Int} (h : s.rolesOf = l) (h1 : ∀ i j : Nat, l[i]? = some 1 → l[j]? = some 1 → i = j) : s.one := by unfold Sp.one; rw [h]; exact h1
theorem one_reckon (s : Sp) (now : Int) : (s.reckon now).one := one_of (rolesOf_reckon s now) fun i j hi hj => by
  have h1 := rolesL_root hi
  have h2 := rolesL_root hj
  omega

/-! ### Of which age -/

def isRoot (p : Prt) : Bool := decide (p.role = 1)
def ageO : Option Prt → Int
  | some p => min (p.age + 1) 65535
  | none => 0
def ageK (s : Sp) (k : Nat) : Int := ageO ((s.l.take k).find? isRoot)
def Sp.rootAge (s : Sp) : Int := ageK s s.l.length
theorem find_app {α : Type} (f : α → Bool) (l : List α) (x : α) : (l ++ [x]).find? f = (l.find? f).or (if f x then some x else none) := by
  rw [List.find?_append, List.find?_singleton]
theorem ageK_not {k : Nat} {p : Prt} (hp : s.l[k]? = some p) (hr : ¬ p.role = 1) : ageK s (k + 1) = ageK s k := by
  unfold ageK
  rw [List.take_add_one, hp]
  show ageO ((s.l.take k ++ [p]).find? isRoot) = _
  rw [find_app, if_neg (by simpa [isRoot] using hr), Option.or_none]
theorem none_root {k : Nat} {p : Prt} (h1 : s.one) (hp : s.l[k]? = some p) (hr : p.role = 1) : (s.l.take k).find? isRoot = none := by
  rw [List.find?_eq_none]
  intro q hq e
  obtain ⟨i, hi, e2⟩ := List.getElem_of_mem hq
  have hik : i < k := by rw [List.length_take] at hi; omega
  have h3 : s.l[i]? = some q := by
    rw [List.getElem_take] at e2
    rw [List.length_take] at hi
    rw [List.getElem?_eq_getElem (by omega), e2]
  have e : q.role = 1 := by simpa [isRoot] using e
  have := h1 i k (by rw [rolesOf_get h3, e]) (by rw [rolesOf_get hp, hr])
  omega
theorem ageK_root {k : Nat} {p : Prt} (h1 : s.one) (hp : s.l[k]? = some p) (hr : p.role = 1) : ageK s (k + 1) = min (p.age + 1) 65535 := by
  unfold ageK
  rw [List.take_add_one, hp]
  show ageO ((s.l.take k ++ [p]).find? isRoot) = _
  rw [find_app, none_root h1 hp hr, if_pos (by simpa [isRoot] using hr)]
  rfl
theorem rootAge_first {k : Nat} {p : Prt} (h0 : (s.l.take k).find? isRoot = none) (hp : s.l[k]? = some p) (hr : p.role = 1) : s.rootAge = min (p.age + 1) 65535 := by
  unfold Sp.rootAge ageK
  rw [List.take_length]
  have hk := (List.getElem?_eq_some_iff.1 hp).1
  have e : s.l = s.l.take k ++ p :: s.l.drop (k + 1) := by
    have := (List.getElem?_eq_some_iff.1 hp).2
    rw [← this, List.getElem_cons_drop, List.take_append_drop]
  rw [e, List.find?_append, h0, List.find?_cons_of_pos (by simpa [isRoot] using hr)]
  rfl

def Sp.spokenB (s : Sp) : Bpd := ⟨2, 0, s.best.root, s.best.cost, s.me, 0, s.rootAge, 20, 2, 15⟩
def spokK (s : Sp) (k : Nat) : Bpd := ⟨2, 0, s.best.root, s.best.cost, s.me, 0, ageK s k, 20, 2, 15⟩

theorem s_minI (a b : Int) : opS Tryz.prog (S.bi .min #[3, 3] 3 [.int .i64 a, .int .i64 b]) K w = K (.int .i64 (min a b)) w := by
  have h : min a b = if b < a then b else a := by omega
  rw [h]
  rfl

/-! ### The reference's -/

theorem rage_spec (h : RS w sp bs pv fv s) (hw : s.wf) (hk : K (i64 s.rootAge) w) : CallsR Tryz.prog 58 #[pt sp 0] K w := by
  apply c58
  unfold p58
  have h64 := hw.n64
  refine jn0 (fun W => W = w ∧ s.l.find? isRoot = none) ?_ fun j hj => ?_
  · rintro W ⟨rfl, e⟩
    unfold Sp.rootAge ageK at hk
    rw [List.take_length, e] at hk
    exact hk
  refine loop1 (fun n u W => ∃ k : Nat, k ≤ s.l.length ∧ n = s.l.length - k ∧ u = i64 k ∧ W = w ∧ (s.l.take k).find? isRoot = none) ?_ s.l.length ⟨0, by omega, rfl, rfl, rfl, rfl⟩
  rintro n u W X ⟨k, hk2, rfl, rfl, rfl, hn⟩ hX
  simp only [push_cast, Nat.reduceAdd, Nat.reduceLeDiff, Nat.reduceLT, Int.reduceToNat, Nat.left_eq_add, Nat.add_eq_left, Nat.add_left_cancel_iff, Nat.reduceEqDiff, Nat.add_assoc, Nat.succ_ne_zero, h.ps.main]
  rw [h.ps.lenv]
  simp only [push_cast, Nat.reduceAdd, Nat.reduceLeDiff, Nat.reduceLT, Int.reduceToNat, Nat.left_eq_add, Nat.add_eq_left, Nat.add_left_cancel_iff, Nat.reduceEqDiff, Nat.add_assoc, Nat.succ_ne_zero]
  have hwk : IntKind.i64.wrap ((k : Int) + 1) = ((k + 1 : Nat) : Int) := by rw [wrap_i64 (by omega)]; rfl
  refine br_dec (fun hlt => ?_) fun hge => ?_
  · have hkl : k < s.l.length := by omega
    obtain ⟨b, p, hb, hp⟩ := bs_at h.ps hkl
    have hc := h.ps.port k b p hb hp
    simp only [push_cast, Nat.reduceAdd, Nat.reduceLeDiff, Nat.reduceLT, Int.reduceToNat, Nat.left_eq_add, Nat.add_eq_left, Nat.add_left_cancel_iff, Nat.reduceEqDiff, Nat.add_assoc, Nat.succ_ne_zero, h.ps.main]
    refine ld_ptr h.ps (Fr.refl _ _) hb ?_
    simp only [push_cast, Nat.reduceAdd, Nat.reduceLeDiff, Nat.reduceLT, Int.reduceToNat, Nat.left_eq_add, Nat.add_eq_left, Nat.add_left_cancel_iff, Nat.reduceEqDiff, Nat.add_assoc, Nat.succ_ne_zero, hc]
    refine br_dec (fun e => ?_) fun e => ?_
    · simp only [push_cast, Nat.reduceAdd, Nat.reduceLeDiff, Nat.reduceLT, Int.reduceToNat, Nat.left_eq_add, Nat.add_eq_left, Nat.add_left_cancel_iff, Nat.reduceEqDiff, Nat.add_assoc, Nat.succ_ne_zero, h.ps.main]
      refine ld_ptr h.ps (Fr.refl _ _) hb ?_
      have hinv := (hw.rl p (List.mem_of_getElem? hp)).age
      simp only [push_cast, Nat.reduceAdd, Nat.reduceLeDiff, Nat.reduceLT, Int.reduceToNat, Nat.left_eq_add, Nat.add_eq_left, Nat.add_left_cancel_iff, Nat.reduceEqDiff, Nat.add_assoc, Nat.succ_ne_zero, hc, s_minI, wrap_i64 (show -9223372036854775808 ≤ p.age + 1 ∧ p.age + 1 < 9223372036854775808 by omega)]
      rw [rootAge_first hn hp e] at hk
      exact hk
    · simp only [hwk]
      refine hX (s.l.length - (k + 1)) _ _ (by omega) ⟨k + 1, by omega, rfl, rfl, rfl, ?_⟩
      rw [List.take_add_one, hp]
      show (s.l.take k ++ [p]).find? isRoot = none
      rw [find_app, hn, if_neg (by simpa [isRoot] using e)]
      rfl
  · obtain rfl : k = s.l.length := by omega
    rw [List.take_length] at hn
    exact hj _ ⟨rfl, hn⟩

/-! ### The code's -/

def SPs (w W : World) (vb : Option Nat) : Prop := Fr none_ w W ∧ ∀ b, vb = some b → W.heap[b]? = some (cellsO zBpd.cells 38) ∧ w.heap.size ≤ b

section
variable {W : World} {vb : Option Nat} {R : Value → World → Prop}
theorem zalloc_bpd : opS Tryz.prog (S.alloc 38) K w = K (pt w.heap.size 0) (w.alloc (cellsO zBpd.cells 38)) := by
  rw [opS_alloc]; rfl
theorem build_spok {r m : Idn} {c : Int} : opS Tryz.prog (S.build 38 [(0, i64 2), (2, .agg r.cells.toArray), (3, i64 c), (4, .agg m.cells.toArray), (7, i64 20), (8, i64 2), (9, i64 15)]) K w = K (.agg (Bpd.cells ⟨2, 0, r, c, m, 0, 0, 20, 2, 15⟩).toArray) w := by
  rw [opS_build _ rfl]; rfl
theorem l_root (h : CS w sp bs pv mb s) (hR : SPs w W vb) (hk : R (.agg s.best.root.cells.toArray) W) : opS Tryz.prog (S.ld 25 (pt sp 8)) R W := by
  simp only [push_cast, Nat.reduceAdd, Nat.reduceLeDiff, Nat.reduceLT, Int.reduceToNat, Nat.left_eq_add, Nat.add_eq_left, Nat.add_left_cancel_iff, Nat.reduceEqDiff, Nat.add_assoc, Nat.succ_ne_zero, hR.1.heap h.ps.main fun h => h]; exact hk
theorem l_cost (h : CS w sp bs pv mb s) (hR : SPs w W vb) (hk : R (i64 s.best.cost) W) : opS Tryz.prog (S.ld 3 (pt sp 15)) R W := by
  simp only [push_cast, Nat.reduceAdd, Nat.reduceLeDiff, Nat.reduceLT, Int.reduceToNat, Nat.left_eq_add, Nat.add_eq_left, Nat.add_left_cancel_iff, Nat.reduceEqDiff, Nat.add_assoc, Nat.succ_ne_zero, hR.1.heap h.ps.main fun h => h]; exact hk
theorem l_me (h : CS w sp bs pv mb s) (hR : SPs w W vb) (hk : R (.agg s.me.cells.toArray) W) : opS Tryz.prog (S.ld 25 (pt sp 0)) R W := by
  simp only [push_cast, Nat.reduceAdd, Nat.reduceLeDiff, Nat.reduceLT, Int.reduceToNat, Nat.left_eq_add, Nat.add_eq_left, Nat.add_left_cancel_iff, Nat.reduceEqDiff, Nat.add_assoc, Nat.succ_ne_zero, hR.1.heap h.ps.main fun h => h]; exact hk
theorem l_al (hR : SPs w W none) (hk : ∀ b W', SPs w W' (some b) → R (pt b 0) W') : opS Tryz.prog (S.alloc 38) R W := by
  rw [zalloc_bpd]
  refine hk _ _ ⟨hR.1.trans (by repeat' first | with_reducible exact Fr.refl _ _ | with_reducible refine Fr.step_alloc ?_ ?_ | with_reducible refine Fr.step_drew ?_ | with_reducible refine Fr.step_wr ?_ ?_ _ _ | exact rfl | exact Or.inr (by omega) | exact Or.inl rfl | exact Or.inl (Or.inl rfl) | exact Or.inl (Or.inr rfl)), fun b e => ?_⟩
  cases e
  exact ⟨by simp only [push_cast, Nat.reduceAdd, Nat.reduceLeDiff, Nat.reduceLT, Int.reduceToNat, Nat.left_eq_add, Nat.add_eq_left, Nat.add_left_cancel_iff, Nat.reduceEqDiff, Nat.add_assoc, Nat.succ_ne_zero], hR.1.size⟩
end

theorem spoken_spec (h : CS w sp bs pv mb s) (hw : s.wf) (h1 : s.one) (hk : ∀ w', Fr none_ w w' → K (.agg s.spokenB.cells.toArray) w') : CallsR Tryz.prog 54 #[pt sp 0] K w := by
  apply c54
  unfold p54
  have h64 := hw.n64
  rw [zalloc_bpd]
  have hF0 : Fr none_ w (w.alloc (cellsO zBpd.cells 38)) := (by repeat' first | with_reducible exact Fr.refl _ _ | with_reducible refine Fr.step_alloc ?_ ?_ | with_reducible refine Fr.step_drew ?_ | with_reducible refine Fr.step_wr ?_ ?_ _ _ | exact rfl | exact Or.inr (by omega) | exact Or.inl rfl | exact Or.inl (Or.inl rfl) | exact Or.inl (Or.inr rfl))
  have hx0 : (w.alloc (cellsO zBpd.cells 38)).heap[w.heap.size]? = some (cellsO zBpd.cells 38) := by simp only [push_cast, Nat.reduceAdd, Nat.reduceLeDiff, Nat.reduceLT, Int.reduceToNat, Nat.left_eq_add, Nat.add_eq_left, Nat.add_left_cancel_iff, Nat.reduceEqDiff, Nat.add_assoc, Nat.succ_ne_zero]
  have hI0 := h.fr0 hF0
  have hxl := lt_of_heap hx0
  have hle : w.heap.size ≤ w.heap.size := Nat.le_refl _
  generalize w.alloc (cellsO zBpd.cells 38) = w1 at *
  generalize hxe : w.heap.size = xb at hx0 hxl hle ⊢
  refine jn1 (fun v W => ∃ b, v = pt b 0 ∧ W.heap[b]? = some (cellsO (spokK s 0).cells 38) ∧ Fr none_ w1 W ∧ w1.heap.size ≤ b) ?_ fun j hj => ?_
  · rintro v W ⟨b, rfl, hb, hF, hbl⟩
    have hI := hI0.fr0 hF
    simp only [push_cast, Nat.reduceAdd, Nat.reduceLeDiff, Nat.reduceLT, Int.reduceToNat, Nat.left_eq_add, Nat.add_eq_left, Nat.add_left_cancel_iff, Nat.reduceEqDiff, Nat.add_assoc, Nat.succ_ne_zero, hI.ps.main]
    rw [hI.ps.lenv]
    refine jn0 (fun W => W.heap[b]? = some (cellsO s.spokenB.cells 38) ∧ Fr none_ w1 W) ?_ fun j hj => ?_
    · rintro W ⟨hb, hF⟩
      have hbx : ¬ xb = b := by omega
      simp only [push_cast, Nat.reduceAdd, Nat.reduceLeDiff, Nat.reduceLT, Int.reduceToNat, Nat.left_eq_add, Nat.add_eq_left, Nat.add_left_cancel_iff, Nat.reduceEqDiff, Nat.add_assoc, Nat.succ_ne_zero, hb, hF.heap hx0 fun h => h, hbx]
      refine hk _ ((hF0.trans hF).step_wr (.inr (by omega)) _ _)
    refine loop1 (fun n u W => ∃ k : Nat, k ≤ s.l.length ∧ n = s.l.length - k ∧ u = i64 k ∧ W.heap[b]? = some (cellsO (spokK s k).cells 38) ∧ Fr none_ w1 W) ?_ s.l.length ⟨0, by omega, rfl, rfl, hb, hF⟩
    rintro n u W X ⟨k, hk2, rfl, rfl, hb, hF⟩ hX
    simp only [push_cast, Nat.reduceAdd, Nat.reduceLeDiff, Nat.reduceLT, Int.reduceToNat, Nat.left_eq_add, Nat.add_eq_left, Nat.add_left_cancel_iff, Nat.reduceEqDiff, Nat.add_assoc, Nat.succ_ne_zero]
    have hwk : k < s.l.length → IntKind.i64.wrap ((k : Int) + 1) = ((k + 1 : Nat) : Int) := fun _ => by rw [wrap_i64 (by omega)]; rfl
    refine br_dec (fun hlt => ?_) fun hge => ?_
    · have hkl : k < s.l.length := by omega
      obtain ⟨c, p, hc, hp⟩ := bs_at hI0.ps hkl
      refine ld_ptr hI0.ps hF hc ?_
      have hcc := hF.heap (hI0.ps.port k c p hc hp) fun h => h
      simp only [push_cast, Nat.reduceAdd, Nat.reduceLeDiff, Nat.reduceLT, Int.reduceToNat, Nat.left_eq_add, Nat.add_eq_left, Nat.add_left_cancel_iff, Nat.reduceEqDiff, Nat.add_assoc, Nat.succ_ne_zero, hcc]
      refine br_dec (fun e => ?_) fun e => ?_
      · have hinv := (hw.rl p (List.mem_of_getElem? hp)).age
        simp only [push_cast, Nat.reduceAdd, Nat.reduceLeDiff, Nat.reduceLT, Int.reduceToNat, Nat.left_eq_add, Nat.add_eq_left, Nat.add_left_cancel_iff, Nat.reduceEqDiff, Nat.add_assoc, Nat.succ_ne_zero, hcc, hb, s_minI, wrap_i64 (show -9223372036854775808 ≤ p.age + 1 ∧ p.age + 1 < 9223372036854775808 by omega), hwk hkl]
        refine hX (s.l.length - (k + 1)) _ _ (by omega) ⟨k + 1, by omega, rfl, rfl, ?_, hF.step_wr (.inr hbl) _ _⟩
        rw [heap_wr, if_pos rfl, hb, putAt_cells]
        unfold spokK
        rw [ageK_root h1 hp e]
        rfl
      · simp only [hwk hkl]
        refine hX (s.l.length - (k + 1)) _ _ (by omega) ⟨k + 1, by omega, rfl, rfl, ?_, hF⟩
        unfold spokK
        rw [ageK_not hp e]
        exact hb
    · obtain rfl : k = s.l.length := by omega
      exact hj _ ⟨hb, hF⟩
  · simp only [push_cast, Nat.reduceAdd, Nat.reduceLeDiff, Nat.reduceLT, Int.reduceToNat, Nat.left_eq_add, Nat.add_eq_left, Nat.add_left_cancel_iff, Nat.reduceEqDiff, Nat.add_assoc, Nat.succ_ne_zero]
    have fin : ∀ {W : World} {b}, SPs w1 W (some b) → opS Tryz.prog (S.st 38 (pt b 0) (.agg (spokK s 0).cells.toArray)) (fun _ => j (pt b 0)) W := by
      intro W b hR
      obtain ⟨h1, h2⟩ := hR
      obtain ⟨h2, h3⟩ := h2 _ rfl
      simp only [push_cast, Nat.reduceAdd, Nat.reduceLeDiff, Nat.reduceLT, Int.reduceToNat, Nat.left_eq_add, Nat.add_eq_left, Nat.add_left_cancel_iff, Nat.reduceEqDiff, Nat.add_assoc, Nat.succ_ne_zero, h2]
      refine hj _ _ ⟨_, rfl, by simp only [push_cast, Nat.reduceAdd, Nat.reduceLeDiff, Nat.reduceLT, Int.reduceToNat, Nat.left_eq_add, Nat.add_eq_left, Nat.add_left_cancel_iff, Nat.reduceEqDiff, Nat.add_assoc, Nat.succ_ne_zero, h2], h1.step_wr (.inr h3) _ _, h3⟩
    have hR0 : SPs w1 w1.drew none := ⟨Fr.drew w1, fun _ h => (by cases h)⟩
    generalize w1.drew = W0 at *
    have hb : ∀ {R : Value → World → Prop} {W}, R (.agg (spokK s 0).cells.toArray) W → opS Tryz.prog (S.build 38 [(0, i64 2), (2, .agg s.best.root.cells.toArray), (3, i64 s.best.cost), (4, .agg s.me.cells.toArray), (7, i64 20), (8, i64 2), (9, i64 15)]) R W := fun h => by
      rw [build_spok]; exact h
    repeat' first
      | with_reducible refine allW_intro ?_ ?_
      | with_reducible refine l_root hI0 (by assumption) ?_
      | with_reducible refine l_cost hI0 (by assumption) ?_
      | with_reducible refine l_me hI0 (by assumption) ?_
      | with_reducible refine l_al (by assumption) fun _ _ _ => ?_
      | with_reducible refine hb ?_
      | with_reducible exact fin (by assumption)

end Go.Gx.S
end
