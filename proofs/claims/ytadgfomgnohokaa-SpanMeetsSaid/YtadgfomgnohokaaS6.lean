/- Own texts, put together. -/
import Derived.Test.YtadgfomgnohokaaS5
section
/- Two bridges hear one another: the other one. -/
set_option linter.unusedVariables false
set_option linter.unusedSimpArgs false
set_option maxRecDepth 100000
namespace Go.Gx.S
open Go Go.Gx Go.Proofs
variable {s t : Sp} {L H : Idn} {costs : List Int}

def fullH (L : Idn) (i : Nat) (c : Int) : Hrd := ⟨(i : Int) + 1, c, true, true, hearV L i⟩
def hsP (L : Idn) (k i : Nat) (c : Int) : Hrd := if i < k then fullH L i c else alH i c
def hsK (L : Idn) (costs : List Int) (k : Nat) : List Hrd := costs.mapIdx (hsP L k)
theorem hsK_get (L : Idn) (costs : List Int) (k i : Nat) : (hsK L costs k)[i]? = (costs[i]?).map (hsP L k i) := by unfold hsK; rw [List.getElem?_mapIdx]
/-- the best of the first k -/
def bf (L H : Idn) (costs : List Int) : Nat → Vec × Int
  | 0 => (ownV H, -1)
  | k + 1 => match costs[k]? with
    | some c => bestStep H (bf L H costs k) k (fullH L k c)
    | none => bf L H costs k
theorem bestK_hsK (L H : Idn) (costs : List Int) (k : Nat) : ∀ m, bestK H (hsK L costs k) m = bf L H costs (min m k)
  | 0 => by rw [Nat.zero_min]; rfl
  | m + 1 => by
    have ih := bestK_hsK L H costs k m
    have e : bestK H (hsK L costs k) (m + 1) = match (hsK L costs k)[m]? with
      | some h => bestStep H (bestK H (hsK L costs k) m) m h
      | none => bestK H (hsK L costs k) m := rfl
    rw [e, hsK_get, ih]
    by_cases hk : m < k
    · rw [Nat.min_eq_left (by omega), Nat.min_eq_left (by omega)]
      have e2 : bf L H costs (m + 1) = match costs[m]? with
        | some c => bestStep H (bf L H costs m) m (fullH L m c)
        | none => bf L H costs m := rfl
      rw [e2]
      cases costs[m]? with
      | none => rfl
      | some c =>
        show bestStep H _ m (hsP L k m c) = _
        unfold hsP
        rw [if_pos hk]
    · rw [Nat.min_eq_right (by omega), Nat.min_eq_right (by omega)]
      cases costs[m]? with
      | none => rfl
      | some c =>
        show bestStep H _ m (hsP L k m c) = _
        unfold hsP bestStep
        rw [if_neg hk, if_neg (fun h => by cases h.1)]
theorem hsK_len (L : Idn) (costs : List Int) (k : Nat) : (hsK L costs k).length = costs.length := by unfold hsK; simp
theorem bestL_hsK (L H : Idn) {costs : List Int} {k : Nat} (hk : k ≤ costs.length) : bestL H (hsK L costs k) = bf L H costs k := by
  unfold bestL
  rw [bestK_hsK, hsK_len, Nat.min_eq_right hk]
def candF (L : Idn) (i : Nat) (c : Int) : Vec := ⟨L, c, L, (i : Int) + 1, (i : Int) + 1⟩
theorem cand_full {i : Nat} {c : Int} (hc : 1 ≤ c ∧ c ≤ 200000000) : candV (fullH L i c) = candF L i c := hear_cand (h := fullH L i c) rfl rfl hc
theorem bf_some (hcs : ∀ c ∈ costs, 1 ≤ c ∧ c ≤ 200000000) (hlo : cmpD L H < 0) : ∀ k, 1 ≤ k → k ≤ costs.length → ∃ (i : Nat) (c : Int), i < k ∧ costs[i]? = some c ∧ bf L H costs k = (candF L i c, (i : Int))
  | 0, h, _ => by omega
  | k + 1, _, hk => by
    have hkc : costs[k]? = some costs[k] := List.getElem?_eq_getElem (by omega)
    have hcr := hcs _ (List.getElem_mem (show k < costs.length by omega))
    have e2 : bf L H costs (k + 1) = bestStep H (bf L H costs k) k (fullH L k costs[k]) := by
      show (match costs[k]? with
        | some c => bestStep H (bf L H costs k) k (fullH L k c)
        | none => bf L H costs k) = _
      rw [hkc]
    rw [e2]
    have hne : (fullH L k costs[k]).v.br ≠ H := fun e => by
      have e : L = H := e
      rw [e, cmpD_self] at hlo
      omega
    unfold bestStep
    rw [cand_full hcr]
    by_cases hc : cntB (fullH L k costs[k]) = true ∧ (fullH L k costs[k]).v.br ≠ H ∧ cmpV (candF L k costs[k]) (bf L H costs k).1 < 0
    · rw [if_pos hc]
      exact ⟨k, costs[k], by omega, hkc, rfl⟩
    · rw [if_neg hc]
      by_cases h0 : 1 ≤ k
      · obtain ⟨i, c, h1, h2, h3⟩ := bf_some hcs hlo k h0 (by omega)
        exact ⟨i, c, by omega, h2, h3⟩
      · exfalso
        have h0 : k = 0 := by omega
        subst h0
        refine hc ⟨rfl, hne, ?_⟩
        have hb : (bf L H costs 0).1 = ownV H := rfl
        rw [hb, cmpV_root (show cmpD (candF L 0 costs[0]).root (ownV H).root ≠ 0 from (show cmpD L H ≠ 0 by omega))]
        exact hlo
theorem bf_step {k : Nat} (hk : k < costs.length) : (bf L H costs (k + 1)).2 = (k : Int) ∨ bf L H costs (k + 1) = bf L H costs k := by
  have e2 : bf L H costs (k + 1) = bestStep H (bf L H costs k) k (fullH L k costs[k]) := by
    show (match costs[k]? with
      | some c => bestStep H (bf L H costs k) k (fullH L k c)
      | none => bf L H costs k) = _
    rw [List.getElem?_eq_getElem hk]
  rw [e2]
  unfold bestStep
  split
  · exact .inl rfl
  · exact .inr rfl
theorem bf_lt (k : Nat) : (bf L H costs k).2 < k := by
  induction k with
  | zero => show (-1 : Int) < 0; omega
  | succ k ih =>
    show (match costs[k]? with
      | some c => bestStep H (bf L H costs k) k (fullH L k c)
      | none => bf L H costs k).2 < ((k + 1 : Nat) : Int)
    split
    · unfold bestStep
      split
      · show (k : Int) < _; omega
      · omega
    · omega

/-- what a port is, where k were heard -/
def roleK (L H : Idn) (costs : List Int) (k i : Nat) : Int := if (i : Int) = (bf L H costs k).2 then 1 else if i < k then 3 else 2
theorem role_hsK (hcs : ∀ c ∈ costs, 1 ≤ c ∧ c ≤ 200000000) (hlo : cmpD L H < 0) {k i : Nat} (hk : k ≤ costs.length) (hi : i < costs.length) : (rolesL H (hsK L costs k))[i]?.getD 0 = roleK L H costs k i := by
  have hLH : L ≠ H := fun e => by rw [e, cmpD_self] at hlo; omega
  unfold rolesL
  rw [List.getElem?_mapIdx, hsK_get, List.getElem?_eq_getElem hi, bestL_hsK L H hk]
  show roleOf H (bf L H costs k).1 (bf L H costs k).2 i (hsP L k i costs[i]) = _
  unfold roleOf roleK
  have hup : (hsP L k i costs[i]).up = true := by unfold hsP; split <;> rfl
  rw [if_neg (by rw [hup]; decide)]
  by_cases hr : (i : Int) = (bf L H costs k).2
  · rw [if_pos hr, if_pos hr]
  · rw [if_neg hr, if_neg hr]
    by_cases hik : i < k
    · have hx : hsP L k i costs[i] = fullH L i costs[i] := by unfold hsP; rw [if_pos hik]
      rw [hx, if_pos hik]
      obtain ⟨j, c, _, hj, hbf⟩ := bf_some hcs hlo k (by omega) hk
      have hcr := hcs c (List.mem_of_getElem? hj)
      have hcmp : cmpV (bare (fullH L i costs[i])) (offer H (bf L H costs k).1 (fullH L i costs[i]).port) < 0 := by
        rw [hbf]
        unfold cmpV
        rw [orL_cons]
        show (if cmpD L L ≠ 0 then _ else _) < 0
        rw [cmpD_self, if_neg (fun h => h rfl), orL_cons]
        show (if cmpI 0 c ≠ 0 then cmpI 0 c else _) < 0
        have h2 : cmpI 0 c = -1 := by unfold cmpI; rw [if_pos (by omega)]
        rw [h2, if_pos (by decide)]
        decide
      rw [if_neg (fun h => by
        rcases h with h | h
        · cases h
        · exact h hcmp), if_neg (show ¬ (fullH L i costs[i]).v.br = H from fun e => hLH e)]
    · have hx : hsP L k i costs[i] = alH i costs[i] := by unfold hsP; rw [if_neg hik]
      rw [hx, if_neg hik, if_pos (.inl rfl)]
theorem roleK_in (L H : Idn) (costs : List Int) (k i : Nat) : roleK L H costs k i = 1 ∨ roleK L H costs k i = 2 ∨ roleK L H costs k i = 3 := by
  unfold roleK
  split
  · exact .inl rfl
  · split
    · exact .inr (.inr rfl)
    · exact .inr (.inl rfl)

/-! ### While it hears all for the first time -/

structure HI (L H : Idn) (costs : List Int) (k : Nat) (s : Sp) : Prop where
  eme : s.me = H
  ebest : s.best = (bf L H costs k).1
  len : s.l.length = costs.length
  h : ∀ (i : Nat) p, s.l[i]? = some p → ∃ c, costs[i]? = some c ∧ p.h = hsP L k i c
  p : ∀ (i : Nat) p, s.l[i]? = some p → p.role = roleK L H costs k i ∧ stP p ∧ p.edge = false ∧ (i < k → p.until_ = 6) ∧ (p.role = 1 → p.reply = true)
theorem HI.hs {k : Nat} (h : HI L H costs k s) : s.hs = hsK L costs k := by
  apply List.ext_getElem?
  intro i
  rw [hsK_get]
  cases hp : s.l[i]? with
  | none =>
    have : costs[i]? = none := by
      rw [List.getElem?_eq_none_iff, ← h.len]
      exact List.getElem?_eq_none_iff.1 hp
    rw [this]
    unfold Sp.hs
    rw [List.getElem?_map, hp]; rfl
  | some p =>
    obtain ⟨c, hc, hh⟩ := h.h i p hp
    rw [hs_get hp, hc, hh]; rfl

theorem HI.take {k : Nat} (h : HI L H costs k s) (hcs : ∀ c ∈ costs, 1 ≤ c ∧ c ≤ 200000000) (hlo : cmpD L H < 0) {x : Spk} (hM : MsgD L costs.length k x) (h2 : andI x.b.flags 2 ≠ 0) :
    HI L H costs (k + 1) (s.take ((k : Int) + 1) x.b 0).1 ∧ (s.take ((k : Int) + 1) x.b 0).1.last = s.last := by
  have hkl := hM.lt
  obtain ⟨p, hp⟩ : ∃ p, s.l[k]? = some p := ⟨_, List.getElem?_eq_getElem (by rw [h.len]; exact hkl)⟩
  obtain ⟨c, hc, hh⟩ := h.h k p hp
  have hh0 : p.h = alH k c := by rw [hh]; unfold hsP; rw [if_neg (by omega)]
  obtain ⟨hpr, hps, hpe, _, _⟩ := h.p k p hp
  have hup : p.h.up = true := by rw [hh0]; rfl
  rw [take_des hp mom0 hM.right hup hM.kind hM.flags hM.age]
  have hq : hearP { p with edge := false } x.b 0 = { p with h := fullH L k c, age := x.b.age, until_ := 6, edge := false } := by
    unfold hearP
    rw [if_pos (.inl (by show p.h.has = false; rw [hh0]; rfl))]
    unfold hearN
    rw [hM.v]
    show ({ p with h := { p.h with v := hearV L k, has := true }, age := x.b.age, until_ := 0 + 6, edge := false } : Prt) = _
    rw [hh0]
    rfl
  -- with what it heard
  have hs1 : (s.setP k (hearP { p with edge := false } x.b 0)).hs = hsK L costs (k + 1) := by
    apply List.ext_getElem?
    intro i
    unfold Sp.hs
    rw [List.getElem?_map, set_get hp, hsK_get]
    by_cases e : k = i
    · subst e
      rw [if_pos rfl, hc, hq]
      show some (fullH L k c) = some (hsP L (k + 1) k c)
      unfold hsP
      rw [if_pos (by omega)]
    · rw [if_neg e]
      cases hpi : s.l[i]? with
      | none =>
        have : costs[i]? = none := by
          rw [List.getElem?_eq_none_iff, ← h.len]
          exact List.getElem?_eq_none_iff.1 hpi
        rw [this]; rfl
      | some q =>
        obtain ⟨c2, hc2, hh2⟩ := h.h i q hpi
        rw [hc2]
        show some q.h = some (hsP L (k + 1) i c2)
        rw [hh2]
        unfold hsP
        by_cases h1 : i < k
        · rw [if_pos h1, if_pos (by omega)]
        · rw [if_neg h1, if_neg (by omega)]
  have hme1 : (s.setP k (hearP { p with edge := false } x.b 0)).me = H := h.eme
  have hd : ∀ i : Nat, (desS s k p x.b 0).l[i]? = ((s.setP k (hearP { p with edge := false } x.b 0)).l[i]?).map fun q => portStep q ((rolesL H (hsK L costs (k + 1)))[i]?.getD 0) 0 := fun i => by
    show (Sp.reckon _ 0).l[i]? = _
    rw [reckon_get, hme1, hs1]
  have hdk : (desS s k p x.b 0).l[k]? = some (portStep (hearP { p with edge := false } x.b 0) (roleK L H costs (k + 1) k) 0) := by
    rw [hd, set_get hp, if_pos rfl]
    show some (portStep _ ((rolesL H (hsK L costs (k + 1)))[k]?.getD 0) 0) = _
    rw [role_hsK hcs hlo (by omega) hkl]
  have hpr_role : ∀ (q : Prt) (r : Int), (portStep q r 0).role = r := fun q r => by
    unfold portStep
    split
    · rfl
    · split
      · rfl
      · split <;> rfl
  have hpr_st : ∀ (q : Prt) (r : Int), stP q → stP (portStep q r 0) := fun q r hs => by
    by_cases hr : r = q.role
    · rw [hr, portStep_id hs]; exact hs
    · refine ⟨fun h1 h2 => ?_, fun h1 => ?_⟩
      · rw [hpr_role] at h1 h2
        unfold portStep
        rw [if_neg (fun h => h.elim h1 fun h => h2 h.1), if_neg (fun h => h2 h.1), if_pos h2]
      · rw [hpr_role] at h1
        unfold portStep
        rw [if_pos (.inl h1)]
  have hpr_reply : ∀ (q : Prt) (r : Int), q.role = r → (portStep q r 0).reply = q.reply := fun q r e => by
    have hn : newRole q r = q := by rw [← e]; exact newRole_same q
    unfold portStep
    rw [hn]
    split
    · rfl
    · split
      · rfl
      · split <;> rfl
  obtain ⟨m1, m2, m3⟩ := propO_meb (desS s k p x.b 0) k x.b 0
  obtain ⟨t1, t2, t3, t4⟩ := take3_view (propO (desS s k p x.b 0) k x.b 0) k x.b 0
  have hdlen : (desS s k p x.b 0).l.length = costs.length := by
    show (Sp.reckon _ 0).l.length = _
    rw [reckon_len, setP_len, h.len]
  -- each port
  have hport : ∀ (i : Nat) q', ((propO (desS s k p x.b 0) k x.b 0).take3 k x.b 0).l[i]? = some q' → ∃ q c, (desS s k p x.b 0).l[i]? = some q ∧ costs[i]? = some c ∧ q.h = hsP L (k + 1) i c ∧ q.role = roleK L H costs (k + 1) i ∧ stP q ∧ q.edge = false ∧ (i < k + 1 → q.until_ = 6) ∧
      (i ≠ k → q.role = 1 → q.reply = true) ∧ q' = propPort (portStep (hearP { p with edge := false } x.b 0) (roleK L H costs (k + 1) k) 0) q (decide (k = i)) 0 := fun i q' hq' => by
    rw [t1, propO_get hdk] at hq'
    cases hqi : (desS s k p x.b 0).l[i]? with
    | none => rw [hqi] at hq'; cases hq'
    | some q =>
      rw [hqi] at hq'
      have hil : i < costs.length := by rw [← hdlen]; exact (List.getElem?_eq_some_iff.1 hqi).1
      have e1 : q' = propPort (portStep (hearP { p with edge := false } x.b 0) (roleK L H costs (k + 1) k) 0) q (decide (k = i)) 0 := by
        have := (Option.some.inj hq').symm
        rw [this]
        show propOP _ q _ x.b 0 = _
        unfold propOP
        rw [if_pos h2]
      by_cases e : k = i
      · subst e
        rw [hdk] at hqi
        have hqq := (Option.some.inj hqi).symm
        refine ⟨q, c, by rw [hqq], hc, ?_, ?_, ?_, ?_, fun _ => ?_, fun h => absurd rfl h, e1⟩
        · rw [hqq, (portStep_h _ _ _).1, hq]
          show fullH L k c = hsP L (k + 1) k c
          unfold hsP
          rw [if_pos (by omega)]
        · rw [hqq, hpr_role]
        · rw [hqq]
          refine hpr_st _ _ ?_
          rw [hq]; exact hps
        · rw [hqq, (portStep_h _ _ _).2.2.1, hq]
        · rw [hqq, (portStep_h _ _ _).2.1, hq]
      · have hqi0 := hqi
        rw [hd, set_get hp, if_neg e] at hqi
        cases hpi : s.l[i]? with
        | none => rw [hpi] at hqi; cases hqi
        | some p2 =>
          rw [hpi] at hqi
          have hqq := (Option.some.inj hqi).symm
          rw [role_hsK hcs hlo (by omega) hil] at hqq
          obtain ⟨c2, hc2, hh2⟩ := h.h i p2 hpi
          obtain ⟨a1, a2, a3, a4, a5⟩ := h.p i p2 hpi
          refine ⟨q, c2, rfl, hc2, ?_, ?_, ?_, ?_, fun hlt => ?_, fun _ hr1 => ?_, e1⟩
          · rw [hqq, (portStep_h _ _ _).1, hh2]
            unfold hsP
            by_cases h1 : i < k
            · rw [if_pos h1, if_pos (by omega)]
            · rw [if_neg h1, if_neg (by omega)]
          · rw [hqq, hpr_role]
          · rw [hqq]; exact hpr_st _ _ a2
          · rw [hqq, (portStep_h _ _ _).2.2.1, a3]
          · rw [hqq, (portStep_h _ _ _).2.1]
            exact a4 (by omega)
          · rw [hqq, hpr_role] at hr1
            -- it was the root
            have hold : p2.role = 1 := by
              rw [a1]
              unfold roleK at hr1 ⊢
              have hi2 : (i : Int) = (bf L H costs (k + 1)).2 := by
                by_cases hx : (i : Int) = (bf L H costs (k + 1)).2
                · exact hx
                · rw [if_neg hx] at hr1
                  split at hr1 <;> omega
              rcases bf_step (L := L) (H := H) hkl with hb | hb
              · exfalso; omega
              · rw [if_pos (by rw [← hb]; exact hi2)]
            rw [hqq, hpr_reply _ _ (by rw [hold, hr1])]
            exact a5 hold
  refine ⟨⟨by rw [t2, m1]; show (Sp.reckon _ 0).me = H; rw [reckon_me]; exact hme1, ?_, by rw [t1, propO_len, hdlen], fun i q' hq' => ?_, fun i q' hq' => ?_⟩, ?_⟩
  · rw [t3, m2]
    show (Sp.reckon _ 0).best = _
    rw [reckon_best, hme1, hs1, bestL_hsK L H (by omega)]
  · obtain ⟨q, c2, hdq, hc2, hh2, _, _, _, _, _, e⟩ := hport i q' hq'
    refine ⟨c2, hc2, ?_⟩
    have hsame : decide (k = i) = true → portStep (hearP { p with edge := false } x.b 0) (roleK L H costs (k + 1) k) 0 = q := fun hd => by
      have hd := of_decide_eq_true hd
      subst hd
      rw [hdk] at hdq
      exact Option.some.inj hdq
    rw [e, (propPort_same hsame 0).1, hh2]
  · obtain ⟨q, c2, hdq, hc2, hh2, b1, b2, b3, b4, b5, e⟩ := hport i q' hq'
    have hsame : decide (k = i) = true → portStep (hearP { p with edge := false } x.b 0) (roleK L H costs (k + 1) k) 0 = q := fun hd => by
      have hd := of_decide_eq_true hd
      subst hd
      rw [hdk] at hdq
      exact Option.some.inj hdq
    obtain ⟨f1, f2, f3, f4, f5⟩ := propPort_same hsame 0
    refine ⟨by rw [e, f2, b1], by rw [e]; exact propPort_st hsame 0 b2, by rw [e, f3, b3], fun hlt => by rw [e, f4]; exact b4 hlt, fun hr1 => ?_⟩
    rw [e, f2] at hr1
    by_cases ei : k = i
    · rw [e]
      unfold propPort
      rw [if_pos (decide_eq_true ei), hsame (decide_eq_true ei)]
      show (decide (q.role ≠ 2) && decide (q.role ≠ 0)) = true
      rw [hr1]; rfl
    · have hb := b5 (fun h => ei h.symm) hr1
      rw [e]
      unfold propPort
      rw [if_neg (by rw [decide_eq_false ei]; decide)]
      unfold hqP
      split
      · exact hb
      · exact hb
  · rw [t4, m3]
    show (Sp.reckon _ 0).last = _
    rw [reckon_last]; rfl

end Go.Gx.S
end

section
/- Two bridges hear one another: both, moment for moment. -/
set_option linter.unusedVariables false
set_option linter.unusedSimpArgs false
set_option maxRecDepth 100000
namespace Go.Gx.S
open Go Go.Gx Go.Proofs
variable {s t : Sp} {L H : Idn} {costs : List Int}

/-! ### When it has heard all -/

structure HF (L H : Idn) (costs : List Int) (U : Int) (s : Sp) : Prop where
  eme : s.me = H
  ebest : s.best = (bf L H costs costs.length).1
  len : s.l.length = costs.length
  h : ∀ (i : Nat) p, s.l[i]? = some p → ∃ c, costs[i]? = some c ∧ p.h = fullH L i c
  p : ∀ (i : Nat) p, s.l[i]? = some p → p.role = roleK L H costs costs.length i ∧ stP p ∧ p.edge = false ∧ U ≤ p.until_
theorem HI.full (h : HI L H costs costs.length s) : HF L H costs 6 s := ⟨h.eme, h.ebest, h.len, fun i p hp => by
    obtain ⟨c, hc, hh⟩ := h.h i p hp
    refine ⟨c, hc, ?_⟩
    rw [hh]
    unfold hsP
    rw [if_pos (List.getElem?_eq_some_iff.1 hc).1],
  fun i p hp => by
    obtain ⟨a1, a2, a3, a4, a5⟩ := h.p i p hp
    have hi : i < costs.length := by rw [← h.len]; exact (List.getElem?_eq_some_iff.1 hp).1
    exact ⟨a1, a2, a3, by rw [a4 hi]; exact Int.le_refl 6⟩⟩
theorem HF.hs {U : Int} (h : HF L H costs U s) : s.hs = hsK L costs costs.length := by
  apply List.ext_getElem?
  intro i
  rw [hsK_get]
  cases hp : s.l[i]? with
  | none =>
    have : costs[i]? = none := by
      rw [List.getElem?_eq_none_iff, ← h.len]
      exact List.getElem?_eq_none_iff.1 hp
    rw [this]
    unfold Sp.hs
    rw [List.getElem?_map, hp]; rfl
  | some p =>
    obtain ⟨c, hc, hh⟩ := h.h i p hp
    rw [hs_get hp, hc, hh]
    show some (fullH L i c) = some (hsP L costs.length i c)
    unfold hsP
    rw [if_pos (List.getElem?_eq_some_iff.1 hc).1]
theorem roleK_n {i : Nat} (hi : i < costs.length) : roleK L H costs costs.length i ≠ 2 := by
  unfold roleK
  split
  · omega
  · omega
theorem HF.of {U : Int} (h : HF L H costs U s) (hme : t.me = H) (hb : t.best = (bf L H costs costs.length).1) (hl : t.l = s.l) : HF L H costs U t := ⟨hme, hb, by rw [hl]; exact h.len, fun i p hp => h.h i p (by rw [← hl]; exact hp), fun i p hp => h.p i p (by rw [← hl]; exact hp)⟩
theorem HF.role {U : Int} (h : HF L H costs U s) (hcs : ∀ c ∈ costs, 1 ≤ c ∧ c ≤ 200000000) (hlo : cmpD L H < 0) {i : Nat} {p : Prt} (hp : s.l[i]? = some p) : (rolesL H s.hs)[i]?.getD 0 = p.role := by
  have hi : i < costs.length := by rw [← h.len]; exact (List.getElem?_eq_some_iff.1 hp).1
  rw [h.hs, role_hsK hcs hlo (Nat.le_refl _) hi, (h.p i p hp).1]
theorem HF.reckon {U : Int} (h : HF L H costs U s) (hcs : ∀ c ∈ costs, 1 ≤ c ∧ c ≤ 200000000) (hlo : cmpD L H < 0) (now : Int) : (s.reckon now).l = s.l ∧ (s.reckon now).me = H ∧ (s.reckon now).best = (bf L H costs costs.length).1 ∧ (s.reckon now).last = s.last := by
  refine ⟨List.ext_getElem? fun i => ?_, by rw [reckon_me, h.eme], by rw [reckon_best, h.eme, h.hs, bestL_hsK L H (Nat.le_refl _)], reckon_last _ _⟩
  rw [reckon_get, h.eme]
  cases hp : s.l[i]? with
  | none => rfl
  | some p =>
    show some (portStep p ((rolesL H s.hs)[i]?.getD 0) now) = some p
    rw [h.role hcs hlo hp, portStep_id (h.p i p hp).2.1]
/-- one port is set -/
theorem HF.set {U : Int} (h : HF L H costs U s) {i : Nat} {p q : Prt} (hp : s.l[i]? = some p) (hh : q.h = p.h) (hr : q.role = p.role) (hs : q.state = p.state) (he : q.edge = p.edge) (hu : U ≤ q.until_) : HF L H costs U (s.setP i q) := ⟨h.eme, h.ebest, by rw [setP_len]; exact h.len, fun j x hx => by
    rw [set_get hp] at hx
    by_cases e : i = j
    · subst e
      rw [if_pos rfl] at hx
      rw [← Option.some.inj hx, hh]
      exact h.h i p hp
    · rw [if_neg e] at hx
      exact h.h j x hx,
  fun j x hx => by
    rw [set_get hp] at hx
    by_cases e : i = j
    · subst e
      rw [if_pos rfl] at hx
      rw [← Option.some.inj hx]
      obtain ⟨a1, a2, a3, a4⟩ := h.p i p hp
      exact ⟨hr.trans a1, ⟨by rw [hr, hs]; exact a2.1, by rw [hr, hs]; exact a2.2⟩, he.trans a3, hu⟩
    · rw [if_neg e] at hx
      exact h.p j x hx⟩

theorem HF.take {U : Int} (h : HF L H costs U s) (hcs : ∀ c ∈ costs, 1 ≤ c ∧ c ≤ 200000000) (hlo : cmpD L H < 0) {i : Nat} {x : Spk} (hM : MsgD L costs.length i x) {now : Int} (hm : momB now) (hU : U ≤ now + 6) :
    HF L H costs U (s.take ((i : Int) + 1) x.b now).1 ∧ (s.take ((i : Int) + 1) x.b now).1.last = s.last ∧ (∀ q, (s.take ((i : Int) + 1) x.b now).1.l[i]? = some q → q.until_ = now + 6) ∧
      ∀ (j : Nat) p q, j ≠ i → s.l[j]? = some p → (s.take ((i : Int) + 1) x.b now).1.l[j]? = some q → q.until_ = p.until_ := by
  have hil := hM.lt
  obtain ⟨p, hp⟩ : ∃ p, s.l[i]? = some p := ⟨_, List.getElem?_eq_getElem (by rw [h.len]; exact hil)⟩
  obtain ⟨c, hc, hh⟩ := h.h i p hp
  obtain ⟨a1, a2, a3, a4⟩ := h.p i p hp
  rw [take_des hp hm hM.right (by rw [hh]; rfl) hM.kind hM.flags hM.age]
  have hq : hearP { p with edge := false } x.b now = { p with age := x.b.age, until_ := now + 6, edge := false } := by
    unfold hearP
    rw [if_pos (.inr (.inl ⟨by rw [hM.v]; show (hearV L i).br = p.h.v.br; rw [hh]; rfl, by rw [hM.v]; show (hearV L i).port = p.h.v.port; rw [hh]; rfl⟩))]
    unfold hearN
    rw [hM.v]
    show ({ p with h := { p.h with v := hearV L i, has := true }, age := x.b.age, until_ := now + 6, edge := false } : Prt) = _
    have : ({ p.h with v := hearV L i, has := true } : Hrd) = p.h := by rw [hh]; rfl
    rw [this]
  have h1 : HF L H costs U (s.setP i (hearP { p with edge := false } x.b now)) := by
    rw [hq]
    exact h.set hp rfl rfl rfl a3.symm hU
  obtain ⟨r1, r2, r3, r4⟩ := h1.reckon hcs hlo now
  have h2 : HF L H costs U (desS s i p x.b now) := h1.of r2 r3 r1
  have hd2 : (desS s i p x.b now).l[i]? = some (hearP { p with edge := false } x.b now) := by
    show (Sp.reckon _ now).l[i]? = _
    rw [r1]; exact s.setP_get hp _
  obtain ⟨m1, m2, m3⟩ := propO_meb (desS s i p x.b now) i x.b now
  obtain ⟨t1, t2, t3, t4⟩ := take3_view (propO (desS s i p x.b now) i x.b now) i x.b now
  have hport : ∀ (j : Nat) q', ((propO (desS s i p x.b now) i x.b now).take3 i x.b now).l[j]? = some q' → ∃ q, (desS s i p x.b now).l[j]? = some q ∧ q'.h = q.h ∧ q'.role = q.role ∧ q'.state = q.state ∧ q'.edge = q.edge ∧ q'.until_ = q.until_ := fun j q' hq' => by
    rw [t1, propO_get hd2] at hq'
    cases hqj : (desS s i p x.b now).l[j]? with
    | none => rw [hqj] at hq'; cases hq'
    | some q =>
      rw [hqj] at hq'
      have e := (Option.some.inj hq').symm
      refine ⟨q, rfl, ?_⟩
      rw [e]
      show (propOP _ q _ x.b now).h = q.h ∧ (propOP _ q _ x.b now).role = q.role ∧ (propOP _ q _ x.b now).state = q.state ∧ (propOP _ q _ x.b now).edge = q.edge ∧ (propOP _ q _ x.b now).until_ = q.until_
      unfold propOP
      split
      · unfold propPort
        by_cases e : i = j
        · subst e
          rw [hd2] at hqj
          rw [decide_eq_true rfl, if_pos rfl, ← Option.some.inj hqj]
          exact ⟨rfl, rfl, rfl, rfl, rfl⟩
        · rw [decide_eq_false e, if_neg (by decide)]
          unfold hqP
          rw [if_neg]
          · exact ⟨rfl, rfl, rfl, rfl, rfl⟩
          · intro hx
            have hjl : j < costs.length := by rw [← h2.len]; exact (List.getElem?_eq_some_iff.1 hqj).1
            have := (h2.p j q hqj).1
            exact roleK_n hjl (by rw [← this]; exact hx.2.1)
      · exact ⟨rfl, rfl, rfl, rfl, rfl⟩
  refine ⟨⟨by rw [t2, m1, h2.eme], by rw [t3, m2, h2.ebest], by rw [t1, propO_len, h2.len], fun j q' hq' => ?_, fun j q' hq' => ?_⟩, ?_, fun q' hq' => ?_, fun j p2 q' hj hp2 hq' => ?_⟩
  · obtain ⟨q, e1, e2, _⟩ := hport j q' hq'
    rw [e2]
    exact h2.h j q e1
  · obtain ⟨q, e1, e2, e3, e4, e5, e6⟩ := hport j q' hq'
    obtain ⟨b1, b2, b3, b4⟩ := h2.p j q e1
    exact ⟨e3.trans b1, ⟨by rw [e3, e4]; exact b2.1, by rw [e3, e4]; exact b2.2⟩, e5.trans b3, by rw [e6]; exact b4⟩
  · rw [t4, m3]
    show (Sp.reckon _ now).last = _
    rw [r4]; rfl
  · obtain ⟨q, e1, _, _, _, _, e6⟩ := hport i q' hq'
    rw [hd2] at e1
    rw [e6, ← Option.some.inj e1, hq]
  · obtain ⟨q, e1, _, _, _, _, e6⟩ := hport j q' hq'
    have hl2 : (desS s i p x.b now).l = (s.setP i (hearP { p with edge := false } x.b now)).l := r1
    rw [hl2, set_get hp, if_neg (fun e => hj e.symm), hp2] at e1
    rw [e6, ← Option.some.inj e1]

theorem HF.takesK {U : Int} (h : HF L H costs U s) (hcs : ∀ c ∈ costs, 1 ≤ c ∧ c ≤ 200000000) (hlo : cmpD L H < 0) {g : Nat → Spk} (hg : ∀ i, i < costs.length → MsgD L costs.length i (g i)) {now : Int} (hm : momB now) (hU : U ≤ now + 6) : ∀ m, m ≤ costs.length →
    HF L H costs U (takeAll s now ((List.range m).map g)) ∧ (takeAll s now ((List.range m).map g)).last = s.last ∧ ∀ (i : Nat) q, i < m → (takeAll s now ((List.range m).map g)).l[i]? = some q → q.until_ = now + 6
  | 0, _ => ⟨h, rfl, fun i q hi => by omega⟩
  | m + 1, hm1 => by
    obtain ⟨a1, a2, a3⟩ := HF.takesK h hcs hlo hg hm hU m (by omega)
    have hM := hg m (by omega)
    obtain ⟨b1, b2, b3, b4⟩ := a1.take hcs hlo hM hm hU
    have e : takeAll s now ((List.range (m + 1)).map g) = ((takeAll s now ((List.range m).map g)).take ((m : Int) + 1) (g m).b now).1 := by
      rw [List.range_succ, List.map_append]
      show takeAll s now ((List.range m).map g ++ [g m]) = _
      rw [takeAll_app, hM.port]
    rw [e]
    refine ⟨b1, b2.trans a2, fun i q hi hq => ?_⟩
    by_cases e : i = m
    · subst e
      exact b3 q hq
    · obtain ⟨p, hp⟩ : ∃ p, (takeAll s now ((List.range m).map g)).l[i]? = some p := ⟨_, List.getElem?_eq_getElem (by rw [a1.len]; omega)⟩
      rw [b4 i p q e hp hq]
      exact a3 i p (by omega) hp
theorem HF.takesU {U : Int} (h : HF L H costs U s) (hcs : ∀ c ∈ costs, 1 ≤ c ∧ c ≤ 200000000) (hlo : cmpD L H < 0) {g : Nat → Spk} (hg : ∀ i, i < costs.length → MsgD L costs.length i (g i)) {now : Int} (hm : momB now) (hU : U ≤ now + 6) :
    HF L H costs (now + 6) (takeAll s now ((List.range costs.length).map g)) ∧ (takeAll s now ((List.range costs.length).map g)).last = s.last := by
  obtain ⟨a1, a2, a3⟩ := h.takesK hcs hlo hg hm hU costs.length (Nat.le_refl _)
  refine ⟨⟨a1.eme, a1.ebest, a1.len, a1.h, fun i p hp => ?_⟩, a2⟩
  obtain ⟨b1, b2, b3, b4⟩ := a1.p i p hp
  exact ⟨b1, b2, b3, by rw [a3 i p (by rw [← a1.len]; exact (List.getElem?_eq_some_iff.1 hp).1) hp]; exact Int.le_refl _⟩

/-- a port behind the first part of a tick -/
theorem HF.tick3 {U : Int} (h : HF L H costs U s) (hcs : ∀ c ∈ costs, 1 ≤ c ∧ c ≤ 200000000) (hlo : cmpD L H < 0) {now : Int} (hn : now < U) : (s.tick3 now).l = s.l ∧ (s.tick3 now).me = H ∧ (s.tick3 now).best = (bf L H costs costs.length).1 := by
  have hhas : ∀ (i : Nat) p, s.l[i]? = some p → hasQ p now = p := fun i p hp => by
    obtain ⟨c, hc, hh⟩ := h.h i p hp
    have hu := (h.p i p hp).2.2.2
    have h1 : p.h.has = true := by rw [hh]; rfl
    have : ({ p.h with has := p.h.has && decide (now < p.until_) } : Hrd) = p.h := by
      rw [h1, decide_eq_true (show now < p.until_ by omega), Bool.true_and, ← h1]
    unfold hasQ
    rw [this]
  have hhs : (s.hasK now s.l.length).hs = s.hs := hs_ext fun i => by
    rw [hasK_get]
    by_cases hi : i < s.l.length
    · rw [if_pos hi]
      cases hp : s.l[i]? with
      | none => rfl
      | some p =>
        show some (hasQ p now).h = some p.h
        rw [hhas i p hp]
    · rw [if_neg hi]
  refine ⟨List.ext_getElem? fun i => ?_, by rw [tick3_me, h.eme], by rw [tick3_best, h.eme, hhs, h.hs, bestL_hsK L H (Nat.le_refl _)]⟩
  rw [tick3_get, hhs, h.eme]
  cases hp : s.l[i]? with
  | none => rfl
  | some p =>
    show some (goesPort (portStep (hasQ p now) ((rolesL H s.hs)[i]?.getD 0) now) now) = some p
    rw [hhas i p hp, h.role hcs hlo hp, portStep_id (h.p i p hp).2.1]
    unfold goesPort
    rw [if_neg]
    intro hx
    have hi : i < costs.length := by rw [← h.len]; exact (List.getElem?_eq_some_iff.1 hp).1
    exact roleK_n hi (by rw [← (h.p i p hp).1]; exact hx.1)
theorem HF.tick {U : Int} (h : HF L H costs U s) (hcs : ∀ c ∈ costs, 1 ≤ c ∧ c ≤ 200000000) (hlo : cmpD L H < 0) {now : Int} (hn : now < U) : HF L H costs U (s.tickP now).1 := by
  obtain ⟨h1, h2, h3⟩ := h.tick3 hcs hlo hn
  have hl4 : ((s.tick3 now).dueS now).l = s.l := by rw [dueS_l, h1]
  have hg : ∀ i : Nat, (s.tickP now).1.l[i]? = (s.l[i]?).map fun p => sayPort p ((s.tick3 now).due now) (decide (now < ((s.tick3 now).dueS now).change)) := fun i => by
    unfold Sp.tickP
    rw [sayK_get, hl4]
    by_cases hi : i < s.l.length
    · rw [if_pos hi]
    · rw [if_neg hi, List.getElem?_eq_none (by omega)]; rfl
  refine ⟨by rw [tickP_me, h.eme], ?_, by rw [tickP_len, h.len], fun i q hq => ?_, fun i q hq => ?_⟩
  · unfold Sp.tickP
    rw [(sayK_meb _ _ _ _).2.1]
    unfold Sp.dueS
    split
    · exact h3
    · exact h3
  · rw [hg] at hq
    cases hp : s.l[i]? with
    | none => rw [hp] at hq; cases hq
    | some p =>
      rw [hp] at hq
      rw [← Option.some.inj hq, (sayPort_h _ _ _).1]
      exact h.h i p hp
  · rw [hg] at hq
    cases hp : s.l[i]? with
    | none => rw [hp] at hq; cases hq
    | some p =>
      rw [hp] at hq
      obtain ⟨s1, s2, s3, s4, s5, s6, s7⟩ := sayPort_h p ((s.tick3 now).due now) (decide (now < ((s.tick3 now).dueS now).change))
      obtain ⟨b1, b2, b3, b4⟩ := h.p i p hp
      rw [← Option.some.inj hq]
      exact ⟨s5.trans b1, ⟨by rw [s5, s6]; exact b2.1, by rw [s5, s6]; exact b2.2⟩, s3.trans b3, by rw [s2]; exact b4⟩
theorem HF.out {U : Int} (h : HF L H costs U s) (hw : s.wf) (hcs : ∀ c ∈ costs, 1 ≤ c ∧ c ≤ 200000000) (hlo : cmpD L H < 0) {now : Int} (hm : momB now) (hn : now < U) (hne : 1 ≤ costs.length) (hL : 0 ≤ L.prio ∧ L.prio ≤ 65535) (hH : 0 ≤ H.prio ∧ H.prio ≤ 65535) :
    (∀ x ∈ (s.tickP now).2, ∃ i, MsgO L costs.length i x) ∧ (∀ (i : Nat) p, s.l[i]? = some p → p.role = 1 → p.reply = true → ∃ x ∈ (s.tickP now).2, x.port = (i : Int) + 1 ∧ andI x.b.flags 64 ≠ 0) := by
  obtain ⟨h1, h2, h3⟩ := h.tick3 hcs hlo hn
  have hw4 := (hw.tick3 hm).dueS hm
  have hl4 : ((s.tick3 now).dueS now).l = s.l := by rw [dueS_l, h1]
  have hme : ((s.tick3 now).dueS now).me = H := by unfold Sp.dueS; split <;> exact h2
  have hbe : ((s.tick3 now).dueS now).best = (bf L H costs costs.length).1 := by unfold Sp.dueS; split <;> exact h3
  have ho : (s.tickP now).2 = (List.range costs.length).filterMap (spkAt ((s.tick3 now).dueS now) ((s.tick3 now).due now) now) := by
    unfold Sp.tickP
    rw [sayK_out, h.len]
  obtain ⟨j, c, hj, hcj, hbf⟩ := bf_some (H := H) hcs hlo costs.length hne (Nat.le_refl _)
  have hcr := hcs c (List.mem_of_getElem? hcj)
  have hra := rootAge_in hw4
  have h64 := hw.n64
  generalize (s.tick3 now).due now = due at *
  generalize (s.tick3 now).dueS now = s4 at *
  have hroot : s4.best.root = L := by rw [hbe, hbf]; rfl
  have hcost : s4.best.cost = c := by rw [hbe, hbf]; rfl
  have hmsg : ∀ (i : Nat) p, s.l[i]? = some p → flagsF p due (decide (now < s4.change)) ≠ 0 → MsgO L costs.length i (msgB s4 i (flagsF p due (decide (now < s4.change)))) := fun i p hp hf => by
    have hi : i < costs.length := by rw [← h.len]; exact (List.getElem?_eq_some_iff.1 hp).1
    obtain ⟨cc, _, hh⟩ := h.h i p hp
    have hr2 : p.role ≠ 2 := by rw [(h.p i p hp).1]; exact roleK_n hi
    have hup : p.h.up = true := by rw [hh]; rfl
    have hfl := flags_oth (decide (p.role = 1)) (decide (p.state = 0)) (decide (p.state = 2)) p.reply due (decide (now < s4.change))
    have hfe : flagsF p due (decide (now < s4.change)) = flagsB false (decide (p.role = 1)) (decide (p.state = 0)) (decide (p.state = 2)) true p.reply due (decide (now < s4.change)) := by
      rw [flagsF_eq, decide_eq_false hr2, hup]
    refine ⟨hi, rfl, rfl, ?_, hroot, msg_right (by rw [← h.len] at hi; omega) ?_ (by rw [hroot]; exact hL) (by rw [hme]; exact hH) (by rw [hcost]; omega) hra⟩
    · show andI (flagsF p due (decide (now < s4.change))) 12 ≠ 12
      rw [hfe]; exact hfl.1
    · rw [hfe]; exact hfl.2
  rw [ho]
  refine ⟨fun x hx => ?_, fun i p hp hr hre => ?_⟩
  · obtain ⟨i, hi, hx⟩ := List.mem_filterMap.1 hx
    unfold spkAt at hx
    rw [hl4] at hx
    cases hp : s.l[i]? with
    | none => rw [hp] at hx; cases hx
    | some p =>
      rw [hp] at hx
      have hx : (if flagsF p due (decide (now < s4.change)) = 0 then none else some (msgB s4 i (flagsF p due (decide (now < s4.change))))) = some x := hx
      by_cases hf : flagsF p due (decide (now < s4.change)) = 0
      · rw [if_pos hf] at hx; cases hx
      · rw [if_neg hf] at hx
        rw [← Option.some.inj hx]
        exact ⟨i, hmsg i p hp hf⟩
  · have hi : i < costs.length := by rw [← h.len]; exact (List.getElem?_eq_some_iff.1 hp).1
    obtain ⟨cc, _, hh⟩ := h.h i p hp
    have hup : p.h.up = true := by rw [hh]; rfl
    have hfl := flags_agree (decide (p.state = 0)) (decide (p.state = 2)) due (decide (now < s4.change))
    have hfe : flagsF p due (decide (now < s4.change)) = flagsB false true (decide (p.state = 0)) (decide (p.state = 2)) true true due (decide (now < s4.change)) := by
      rw [flagsF_eq, decide_eq_false (show ¬ p.role = 2 by omega), decide_eq_true hr, hup, hre]
    refine ⟨msgB s4 i (flagsF p due (decide (now < s4.change))), List.mem_filterMap.2 ⟨i, List.mem_range.2 hi, ?_⟩, rfl, ?_⟩
    · unfold spkAt
      rw [hl4, hp]
      show (if flagsF p due (decide (now < s4.change)) = 0 then none else some (msgB s4 i (flagsF p due (decide (now < s4.change))))) = _
      rw [if_neg (by rw [hfe]; exact hfl.1)]
    · show andI (flagsF p due (decide (now < s4.change))) 64 ≠ 0
      rw [hfe]; exact hfl.2

end Go.Gx.S
end

section
/- Two bridges hear one another: behind twelve moments. -/
set_option linter.unusedVariables false
set_option linter.unusedSimpArgs false
set_option maxRecDepth 100000
namespace Go.Gx.S
open Go Go.Gx Go.Proofs
variable {s t : Sp} {L H : Idn} {costs : List Int}

def lastT (t : Nat) : Int := ((2 * ((t - 1) / 2) : Nat) : Int)
structure PI (L H : Idn) (costs : List Int) (t : Nat) (l h : Sp) : Prop where
  li : LI L H costs l
  hf : HF L H costs (lastT t + 6) h
  wl : l.wf
  wh : h.wf
  ll : l.last = lastT t
  lh : h.last = lastT t
  re : t = 1 → ∀ (i : Nat) p, h.l[i]? = some p → p.role = 1 → p.reply = true
  st : 2 ≤ t → ∀ (i : Nat) p, roleK L H costs costs.length i = 1 → l.l[i]? = some p → p.state = 2

theorem madeS_LI (hne : True) : LI L H costs (madeS L costs) := by
  have h := made_AInv (me := L) (costs := costs) costs.length (Nat.le_refl _)
  refine ⟨h.eme, h.ebest, h.len, fun i p hp => ?_⟩
  obtain ⟨c, hc, hP⟩ := h.get hp
  rw [if_pos (List.getElem?_eq_some_iff.1 hc).1] at hP
  rw [hP]
  exact ⟨c, hc, ⟨rfl, rfl, rfl, (fun h => Bool.noConfusion h), rfl, rfl, .inr ⟨rfl, Int.le_refl 15⟩⟩⟩
theorem HI.takesK {g : Nat → Spk} (h : HI L H costs 0 s) (hcs : ∀ c ∈ costs, 1 ≤ c ∧ c ≤ 200000000) (hlo : cmpD L H < 0) (hg : ∀ i, i < costs.length → MsgD L costs.length i (g i) ∧ andI (g i).b.flags 2 ≠ 0) : ∀ m, m ≤ costs.length →
    HI L H costs m (takeAll s 0 ((List.range m).map g)) ∧ (takeAll s 0 ((List.range m).map g)).last = s.last
  | 0, _ => ⟨h, rfl⟩
  | m + 1, hm1 => by
    obtain ⟨a1, a2⟩ := HI.takesK h hcs hlo hg m (by omega)
    obtain ⟨hM, h2⟩ := hg m (by omega)
    obtain ⟨b1, b2⟩ := a1.take hcs hlo hM h2
    have e : takeAll s 0 ((List.range (m + 1)).map g) = ((takeAll s 0 ((List.range m).map g)).take ((m : Int) + 1) (g m).b 0).1 := by
      rw [List.range_succ, List.map_append]
      show takeAll s 0 ((List.range m).map g ++ [g m]) = _
      rw [takeAll_app, hM.port]
    rw [e]
    exact ⟨b1, b2.trans a2⟩

structure Two (L H : Idn) (costs : List Int) : Prop where
  cs : ∀ c ∈ costs, 1 ≤ c ∧ c ≤ 200000000
  lo : cmpD L H < 0
  hi : cmpD H L > 0
  n1 : 1 ≤ costs.length
  n64 : costs.length ≤ 64
  pl : 0 ≤ L.prio ∧ L.prio ≤ 65535
  ph : 0 ≤ H.prio ∧ H.prio ≤ 65535
  okl : L.ok
  okh : H.ok

theorem PI.first (T : Two L H costs) : PI L H costs 1 (meetR (madeS L costs, madeS H costs) 0).1 (meetR (madeS L costs, madeS H costs) 0).2 := by
  have hB : ∀ me : Idn, (0 ≤ me.prio ∧ me.prio ≤ 65535) → newB me costs = true := fun me hp => by
    unfold newB
    rw [decide_eq_true T.n1, decide_eq_true T.n64, decide_eq_true hp.1, decide_eq_true hp.2]
    show costs.all costC = true
    rw [List.all_eq_true]
    intro c hc
    have := T.cs c hc
    unfold costC
    rw [decide_eq_true this.1, decide_eq_true this.2]; rfl
  have wl0 : (madeS L costs).wf := (newS_wf T.okl (hB L T.pl)).madeK _
  have wh0 : (madeS H costs).wf := (newS_wf T.okh (hB H T.ph)).madeK _
  have hl0 : LI L H costs (madeS L costs) := madeS_LI trivial
  have hA := made_AInv (me := H) (costs := costs) costs.length (Nat.le_refl _)
  have hA : AInv H costs (fun _ => false) costs.length 0 15 (-1) (madeS H costs) := hA
  have hAl := made_AInv (me := L) (costs := costs) costs.length (Nat.le_refl _)
  have hAl : AInv L costs (fun _ => false) costs.length 0 15 (-1) (madeS L costs) := hAl
  obtain ⟨tl1, tl2, tl3⟩ := hl0.tick T.cs T.hi (now := 0) (by omega)
  obtain ⟨th1, th2⟩ := hA.tick (now := 0) (by omega)
  have hd0 : dueB (-1) 0 = true := by decide
  -- what the lesser one says
  have hol := (hl0.out T.cs T.hi T.n64 T.pl (now := 0) (by omega)).2 (by rw [hAl.elast]; exact hd0)
  obtain ⟨g, hg1, hg2⟩ := hol
  -- what the other one says
  have hho : LI H ⟨H.prio + 1, H.mac⟩ costs (madeS H costs) := madeS_LI trivial
  have hbig : cmpD ⟨H.prio + 1, H.mac⟩ H > 0 := by
    unfold cmpD
    have : cmpI (H.prio + 1) H.prio = 1 := by unfold cmpI; rw [if_neg (by omega), if_pos (by omega)]
    show (if cmpI (H.prio + 1) H.prio ≠ 0 then cmpI (H.prio + 1) H.prio else _) > 0
    rw [this, if_pos (by decide)]; decide
  have hoh := (hho.out T.cs hbig T.n64 T.ph (now := 0) (by omega)).2 (by rw [hA.elast]; exact hd0)
  obtain ⟨g', hg1', hg2'⟩ := hoh
  have hgo : goS 0 15 0 = (0, 15) := by decide
  rw [hgo, hd0] at th1
  have hHI : HI L H costs 0 ((madeS H costs).tickP 0).1 := by
    refine ⟨th1.eme, th1.ebest, th1.len, fun i p hp => ?_, fun i p hp => ?_⟩
    · obtain ⟨c, hc, hP⟩ := th1.get hp
      rw [if_pos (List.getElem?_eq_some_iff.1 hc).1] at hP
      refine ⟨c, hc, ?_⟩
      rw [hP]
      show alH i c = hsP L 0 i c
      unfold hsP
      rw [if_neg (by omega)]
    · obtain ⟨c, hc, hP⟩ := th1.get hp
      rw [if_pos (List.getElem?_eq_some_iff.1 hc).1] at hP
      have hr : p.role = 2 := by rw [hP]; rfl
      refine ⟨?_, ⟨fun _ e => absurd hr e, fun e => by omega⟩, by rw [hP]; rfl, fun h => by omega, fun e => by omega⟩
      rw [hr]
      unfold roleK
      have : (bf L H costs 0).2 = -1 := rfl
      rw [this, if_neg (by omega), if_neg (by omega)]
  have hol2 : ((madeS L costs).tickP 0).2 = (List.range costs.length).map g := hg1
  have hoh2 : ((madeS H costs).tickP 0).2 = (List.range costs.length).map g' := hg1'
  obtain ⟨r1, r2⟩ := HI.takesK hHI T.cs T.lo (fun i hi => ⟨(hg2 i hi).1, (hg2 i hi).2 (alP i costs[i] false 0 15) (hAl.at (List.getElem?_eq_getElem hi)) (by show ¬ (0 : Int) = 2; omega)⟩) costs.length (Nat.le_refl _)
  obtain ⟨q1, q2⟩ := LI.takeAllD T.cs T.hi mom0 (l := ((madeS H costs).tickP 0).2) tl1 (fun x hx => by
    rw [hoh2] at hx
    obtain ⟨i, hi, rfl⟩ := List.mem_map.1 hx
    rw [List.mem_range] at hi
    exact ⟨i, (hg2' i hi).1⟩)
  rw [← hol2] at r1 r2
  have hlast1 : (madeS L costs).last = -1 := hAl.elast
  have hlast2 : ((madeS H costs).tickP 0).1.last = 0 := th1.elast
  refine ⟨q1, r1.full, (wl0.tickP mom0).takeAll 0 (tick_ok wh0 mom0), (wh0.tickP mom0).takeAll 0 (tick_ok wl0 mom0), ?_, ?_, fun _ i p hp hr => (r1.p i p hp).2.2.2.2 hr, fun h => by omega⟩
  · show (takeAll _ 0 _).last = _
    rw [q2, tl2, hlast1, hd0, if_pos rfl]; rfl
  · show (takeAll _ 0 _).last = _
    rw [r2, hlast2]; rfl

theorem PI.next (T : Two L H costs) {t : Nat} (ht : 1 ≤ t) (ht2 : t ≤ 11) {l h : Sp} (P : PI L H costs t l h) : PI L H costs (t + 1) (meetR (l, h) t).1 (meetR (l, h) t).2 := by
  have hm : momB (t : Int) := by unfold momB; omega
  have hU : (t : Int) < lastT t + 6 := by unfold lastT; omega
  obtain ⟨tl1, tl2, tl3⟩ := P.li.tick T.cs T.hi (now := (t : Int)) (by omega)
  have th := P.hf.tick T.cs T.lo hU
  obtain ⟨ol1, ol2⟩ := P.li.out T.cs T.hi T.n64 T.pl (now := (t : Int)) (by omega)
  obtain ⟨oh1, oh2⟩ := P.hf.out P.wh T.cs T.lo hm hU T.n1 T.pl T.ph
  have thl := tickP_last h (t : Int)
  rw [P.ll] at tl2 ol1 ol2
  rw [P.lh] at thl
  obtain ⟨q1, q2, q3, q4⟩ := LI.takeAllO hm (l := (h.tickP t).2) tl1 oh1
  have wl : (takeAll (l.tickP t).1 t (h.tickP t).2).wf := (P.wl.tickP hm).takeAll t (tick_ok P.wh hm)
  have wh : (takeAll (h.tickP t).1 t (l.tickP t).2).wf := (P.wh.tickP hm).takeAll t (tick_ok P.wl hm)
  have hlast : (if dueB (lastT t) t = true then (t : Int) else lastT t) = lastT (t + 1) := by
    unfold dueB lastT
    by_cases hp : t % 2 = 0
    · rw [if_pos (by simp; omega)]
      omega
    · rw [if_neg (by simp; omega)]
      omega
  -- the states at the lesser one
  have hst : ∀ (i : Nat) p, roleK L H costs costs.length i = 1 → (takeAll (l.tickP t).1 t (h.tickP t).2).l[i]? = some p → p.state = 2 := fun i p hr hp => by
    have hi : i < costs.length := by rw [← q1.len]; exact (List.getElem?_eq_some_iff.1 hp).1
    obtain ⟨p0, hp0⟩ : ∃ p0, l.l[i]? = some p0 := ⟨_, List.getElem?_eq_getElem (by rw [P.li.len]; exact hi)⟩
    obtain ⟨p1, hp1⟩ : ∃ p1, (l.tickP t).1.l[i]? = some p1 := ⟨_, List.getElem?_eq_getElem (by rw [tl1.len]; exact hi)⟩
    by_cases h1 : t = 1
    · obtain ⟨ph, hph⟩ : ∃ ph, h.l[i]? = some ph := ⟨_, List.getElem?_eq_getElem (by rw [P.hf.len]; exact hi)⟩
      have hrole : ph.role = 1 := by rw [(P.hf.p i ph hph).1, hr]
      obtain ⟨x, hx, hxp, hx64⟩ := oh2 i ph hph hrole (P.re h1 i ph hph hrole)
      exact q4 x hx hx64 i p hxp hp
    · exact q3 i p1 p hp1 (by rw [tl3 i p0 p1 hp0 hp1]; exact P.st (by omega) i p0 hr hp0) hp
  refine ⟨q1, ?_, wl, wh, ?_, ?_, fun h => by omega, fun _ => hst⟩
  · show HF L H costs _ (takeAll (h.tickP t).1 t (l.tickP t).2)
    cases hd : dueB (lastT t) t
    · rw [ol1 hd]
      rw [hd, if_neg (by decide)] at hlast
      rw [← hlast]
      exact th
    · obtain ⟨g, hg1, hg2⟩ := ol2 hd
      rw [hd, if_pos rfl] at hlast
      rw [hg1, ← hlast]
      exact (th.takesU T.cs T.lo (fun i hi => (hg2 i hi).1) hm (by unfold lastT; omega)).1
  · show (takeAll (l.tickP t).1 t (h.tickP t).2).last = _
    rw [q2, tl2, hlast]
  · show (takeAll (h.tickP t).1 t (l.tickP t).2).last = _
    cases hd : dueB (lastT t) t
    · rw [ol1 hd]
      show (h.tickP t).1.last = _
      rw [thl, hlast]
    · obtain ⟨g, hg1, hg2⟩ := ol2 hd
      rw [hg1, (th.takesU T.cs T.lo (fun i hi => (hg2 i hi).1) hm (by unfold lastT; omega)).2, thl, hlast]

theorem PI.all (T : Two L H costs) : ∀ t, 1 ≤ t → t ≤ 12 → PI L H costs t (meetK (madeS L costs, madeS H costs) t).1 (meetK (madeS L costs, madeS H costs) t).2
  | 0, h, _ => by omega
  | t + 1, _, h => by
    by_cases h0 : t = 0
    · subst h0
      exact PI.first T
    · exact PI.next T (by omega) (by omega) (PI.all T t (by omega) (by omega))
theorem meetK_swap (a b : Sp) : ∀ k, meetK (b, a) k = ((meetK (a, b) k).2, (meetK (a, b) k).1)
  | 0 => rfl
  | k + 1 => by
    show meetR (meetK (b, a) k) k = ((meetR (meetK (a, b) k) k).2, (meetR (meetK (a, b) k) k).1)
    rw [meetK_swap a b k]
    rfl

/-- behind twelve moments -/
theorem two_end (T : Two L H costs) : ∃ ρ : Nat, ρ < costs.length ∧
    (∀ i, i < costs.length → ∃ p q, (meetK (madeS L costs, madeS H costs) 12).1.l[i]? = some p ∧ (meetK (madeS L costs, madeS H costs) 12).2.l[i]? = some q ∧ ((p.state = 2 ∧ q.state = 2) ↔ i = ρ)) ∧
    (meetK (madeS L costs, madeS H costs) 12).1.best.root = L ∧ (meetK (madeS L costs, madeS H costs) 12).2.best.root = L ∧
    (meetK (madeS L costs, madeS H costs) 12).1.l.length = costs.length ∧ (meetK (madeS L costs, madeS H costs) 12).2.l.length = costs.length := by
  have P := PI.all T 12 (by omega) (by omega)
  obtain ⟨j, c, hj, hcj, hbf⟩ := bf_some (H := H) T.cs T.lo costs.length T.n1 (Nat.le_refl _)
  refine ⟨j, hj, fun i hi => ?_, by rw [P.li.ebest]; rfl, by rw [P.hf.ebest, hbf]; rfl, P.li.len, P.hf.len⟩
  obtain ⟨p, hp⟩ : ∃ p, (meetK (madeS L costs, madeS H costs) 12).1.l[i]? = some p := ⟨_, List.getElem?_eq_getElem (by rw [P.li.len]; exact hi)⟩
  obtain ⟨q, hq⟩ : ∃ q, (meetK (madeS L costs, madeS H costs) 12).2.l[i]? = some q := ⟨_, List.getElem?_eq_getElem (by rw [P.hf.len]; exact hi)⟩
  refine ⟨p, q, hp, hq, ?_⟩
  obtain ⟨b1, b2, _⟩ := P.hf.p i q hq
  constructor
  · rintro ⟨_, h2⟩
    by_cases e : i = j
    · exact e
    · exfalso
      have hr : q.role = 3 := by
        rw [b1]
        unfold roleK
        rw [hbf, if_neg (show ¬ (i : Int) = (j : Int) by omega), if_pos hi]
      have := b2.1 (by omega) (by omega)
      omega
  · rintro rfl
    have hr : roleK L H costs costs.length i = 1 := by
      unfold roleK
      rw [hbf, if_pos rfl]
    exact ⟨P.st (by omega) i p hr hp, b2.2 (by rw [b1, hr])⟩

end Go.Gx.S
end

section
/- Two bridges meet. -/
set_option linter.unusedVariables false
set_option linter.unusedSimpArgs false
set_option maxRecDepth 100000
namespace Go.Gx.S
open Go Go.Gx Go.Proofs
variable {K : Value → World → Prop} {w : World} {sp mb : Nat} {bs : List Nat} {pv fv : Value} {s : Sp}

theorem s_andJ (a b : Int) : opS Try.prog (S.binI .and (.int .i64 a) (.int .i64 b)) K w = K (.int .i64 (andI a b)) w := id rfl
theorem and7_in (a : Int) : 0 ≤ andI a 7 ∧ andI a 7 ≤ 7 := by
  unfold andI
  have h : (BitVec.ofInt 64 a &&& BitVec.ofInt 64 7).toNat ≤ 7 := by
    rw [BitVec.toNat_and]
    exact Nat.le_trans Nat.and_le_right (by decide)
  rw [wrap_i64 (by omega)]
  omega
theorem ids_cmp : ∀ x y : Fin 8, x < y → cmpD (idn (x.val : Int)) (idn (y.val : Int)) < 0 ∧ cmpD (idn (y.val : Int)) (idn (x.val : Int)) > 0 := by decide +kernel
theorem ids_lt {x y : Int} (hx : 0 ≤ x) (hxy : x < y) (hy : y ≤ 7) : cmpD (idn x) (idn y) < 0 ∧ cmpD (idn y) (idn x) > 0 := by
  have h := ids_cmp ⟨x.toNat, by omega⟩ ⟨y.toNat, by omega⟩ (by show x.toNat < y.toNat; omega)
  have e1 : ((x.toNat : Nat) : Int) = x := by omega
  have e2 : ((y.toNat : Nat) : Int) = y := by omega
  simp only [e1, e2] at h
  exact h
theorem two_of {x y : Int} {costs : List Int} (hx : 0 ≤ x) (hxy : x < y) (hy : y ≤ 7) (hcs : ∀ c ∈ costs, 1 ≤ c ∧ c ≤ 200000000) (h1 : 1 ≤ costs.length) (h8 : costs.length ≤ 8) : Two (idn x) (idn y) costs :=
  ⟨hcs, (ids_lt hx hxy hy).1, (ids_lt hx hxy hy).2, h1, by omega, by show (0 : Int) ≤ 32768 ∧ (32768 : Int) ≤ 65535; omega, by show (0 : Int) ≤ 32768 ∧ (32768 : Int) ≤ 65535; omega, idn_ok x, idn_ok y⟩
theorem meets_end {x y : Int} {costs : List Int} (hx : 0 ≤ x ∧ x ≤ 7) (hy : 0 ≤ y ∧ y ≤ 7) (hne : x ≠ y) (hcs : ∀ c ∈ costs, 1 ≤ c ∧ c ≤ 200000000) (h1 : 1 ≤ costs.length) (h8 : costs.length ≤ 8) : ∃ ρ : Nat, ρ < costs.length ∧
    (∀ i, i < costs.length → ∃ p q, (meetK (madeS (idn x) costs, madeS (idn y) costs) 12).1.l[i]? = some p ∧ (meetK (madeS (idn x) costs, madeS (idn y) costs) 12).2.l[i]? = some q ∧ ((p.state = 2 ∧ q.state = 2) ↔ i = ρ)) ∧
    (meetK (madeS (idn x) costs, madeS (idn y) costs) 12).1.best.root = idn (min x y) ∧ (meetK (madeS (idn x) costs, madeS (idn y) costs) 12).2.best.root = idn (min x y) := by
  by_cases h : x < y
  · obtain ⟨ρ, a1, a2, a3, a4, _⟩ := two_end (two_of hx.1 h hy.2 hcs h1 h8)
    rw [show min x y = x by omega]
    exact ⟨ρ, a1, a2, a3, a4⟩
  · obtain ⟨ρ, a1, a2, a3, a4, _⟩ := two_end (two_of hy.1 (show y < x by omega) hx.2 hcs h1 h8)
    have hs := meetK_swap (madeS (idn y) costs) (madeS (idn x) costs) 12
    rw [show min x y = y by omega]
    generalize meetK (madeS (idn y) costs, madeS (idn x) costs) 12 = M at *
    rw [hs]
    refine ⟨ρ, a1, fun i hi => ?_, a4, a3⟩
    obtain ⟨p, q, hp, hq, hpq⟩ := a2 i hi
    exact ⟨q, p, hq, hp, by rw [← hpq]; exact ⟨fun h => ⟨h.2, h.1⟩, fun h => ⟨h.2, h.1⟩⟩⟩

theorem ia2_0 (b : Nat) : opS Try.prog (S.ia 22 (pt b 0) (.int .i64 0)) K w = K (pt b 0) w := opS_iaA (T := 22) (E := 3) (m := 2) (n := 1) b 0 .i64 0 (by decide)
theorem ia2_1 (b : Nat) : opS Try.prog (S.ia 22 (pt b 0) (.int .i64 1)) K w = K (pt b 1) w := opS_iaA (T := 22) (E := 3) (m := 2) (n := 1) b 0 .i64 1 (by decide)

theorem meets_law {n0 n1 : Int} {costs : List Int} {cv : Value} (hc : RdE 1 w cv (costs.map cellI)) (hci : ∀ c ∈ costs, isI c)
    (hk : ∀ w', Fr none_ w w' → K (.bool true) w') : CallsR Try.prog 3 #[.agg #[i64 n0, i64 n1], cv] K w := by
  apply c3
  unfold p3
  have elen : ∀ (R : Value → World → Prop) W, opS Try.prog (S.len cv) R W = R (i64 costs.length) W := fun R W => by
    obtain ⟨a, c, e⟩ := hc.form
    rw [e, List.length_map]; rfl
  have hx0 : (w.alloc (cellsO [i64 n0, i64 n1] 22)).heap[w.heap.size]? = some (cellsO [i64 n0, i64 n1] 22) := by simp only [push_cast, Nat.reduceAdd, Nat.reduceLeDiff, Nat.reduceLT, Int.reduceToNat, Nat.left_eq_add, Nat.add_eq_left, Nat.add_left_cancel_iff, Nat.reduceEqDiff, Nat.add_assoc, Nat.succ_ne_zero]
  have hF0 : Fr none_ w (w.alloc (cellsO [i64 n0, i64 n1] 22)) := (by repeat' first | with_reducible exact Fr.refl _ _ | with_reducible refine Fr.step_alloc ?_ ?_ | with_reducible refine Fr.step_drew ?_ | with_reducible refine Fr.step_wr ?_ ?_ _ _ | exact rfl | exact Or.inr (by omega) | exact Or.inl rfl | exact Or.inl (Or.inl rfl) | exact Or.inl (Or.inr rfl))
  have hbox : ∀ (R : Value → World → Prop), opS Try.prog (S.box 22 (.agg #[i64 n0, i64 n1])) R w = R (pt w.heap.size 0) (w.alloc (cellsO [i64 n0, i64 n1] 22)) := fun R => by
    simp only [opS_box]
    rfl
  rw [hbox]
  generalize w.alloc (cellsO [i64 n0, i64 n1] 22) = W0 at *
  generalize w.heap.size = xb at hx0 ⊢
  have hx := and7_in n0
  have hy := and7_in n1
  have c0 : ([i64 n0, i64 n1] : List Value)[0]? = some (i64 n0) := rfl
  have c1 : ([i64 n0, i64 n1] : List Value)[1]? = some (i64 n1) := rfl
  simp only [push_cast, Nat.reduceAdd, Nat.reduceLeDiff, Nat.reduceLT, Int.reduceToNat, Nat.left_eq_add, Nat.add_eq_left, Nat.add_left_cancel_iff, Nat.reduceEqDiff, Nat.add_assoc, Nat.succ_ne_zero]
  refine awake_spec fun w1 f1 => ?_
  have F1 := hF0.trans f1
  have hx1 := f1.heap hx0 fun h => h
  simp only [push_cast, Nat.reduceAdd, Nat.reduceLeDiff, Nat.reduceLT, Int.reduceToNat, Nat.left_eq_add, Nat.add_eq_left, Nat.add_left_cancel_iff, Nat.reduceEqDiff, Nat.add_assoc, Nat.succ_ne_zero, ia2_0, ia2_1, hx1, c0, c1, s_andJ]
  refine br_dec (fun _ => hk _ F1) fun hne => ?_
  rw [elen]
  simp only [push_cast, Nat.reduceAdd, Nat.reduceLeDiff, Nat.reduceLT, Int.reduceToNat, Nat.left_eq_add, Nat.add_eq_left, Nat.add_left_cancel_iff, Nat.reduceEqDiff, Nat.add_assoc, Nat.succ_ne_zero]
  refine br_dec (fun _ => hk _ F1) fun h1 => ?_
  rw [elen]
  simp only [push_cast, Nat.reduceAdd, Nat.reduceLeDiff, Nat.reduceLT, Int.reduceToNat, Nat.left_eq_add, Nat.add_eq_left, Nat.add_left_cancel_iff, Nat.reduceEqDiff, Nat.add_assoc, Nat.succ_ne_zero]
  refine br_dec (fun _ => hk _ F1) fun h8 => ?_
  refine jn0 (fun W => W = w1 ∧ ∀ c ∈ costs, 1 ≤ c ∧ c ≤ 200000000) ?_ fun j hj => ?_
  · rintro W ⟨rfl, hcs⟩
    obtain ⟨ρ, hρ, hend, hra, hrb⟩ := meets_end hx hy (fun e => hne e) hcs (by omega) (by omega)
    have hB : ∀ k : Int, newB (idn k) costs = true := fun k => by
      unfold newB
      rw [decide_eq_true (show 1 ≤ costs.length by omega), decide_eq_true (show costs.length ≤ 64 by omega)]
      show costs.all costC = true
      rw [List.all_eq_true]
      intro c hc
      have := hcs c hc
      unfold costC
      rw [decide_eq_true this.1, decide_eq_true this.2]; rfl
    simp only [push_cast, Nat.reduceAdd, Nat.reduceLeDiff, Nat.reduceLT, Int.reduceToNat, Nat.left_eq_add, Nat.add_eq_left, Nat.add_left_cancel_iff, Nat.reduceEqDiff, Nat.add_assoc, Nat.succ_ne_zero, ia2_0, hx1, c0, s_andJ]
    refine id_spec fun w2 f2 => ?_
    have F2 := F1.trans f2
    simp only [push_cast, Nat.reduceAdd, Nat.reduceLeDiff, Nat.reduceLT, Int.reduceToNat, Nat.left_eq_add, Nat.add_eq_left, Nat.add_left_cancel_iff, Nat.reduceEqDiff, Nat.add_assoc, Nat.succ_ne_zero]
    refine made_spec (idn_ok _) (hc.fr F2 fun _ _ h => h) hci (by omega) (fun e => by rw [hB] at e; cases e) fun _ spA bsA pvA mbA w3 hA a1 a2 f3 => ?_
    have F3 := F2.trans f3
    have hx3 := f3.heap (f2.heap hx1 fun h => h) fun h => h
    simp only [push_cast, Nat.reduceAdd, Nat.reduceLeDiff, Nat.reduceLT, Int.reduceToNat, Nat.left_eq_add, Nat.add_eq_left, Nat.add_left_cancel_iff, Nat.reduceEqDiff, Nat.add_assoc, Nat.succ_ne_zero, ia2_1, hx3, c1, s_andJ]
    refine id_spec fun w4 f4 => ?_
    have F4 := F3.trans f4
    simp only [push_cast, Nat.reduceAdd, Nat.reduceLeDiff, Nat.reduceLT, Int.reduceToNat, Nat.left_eq_add, Nat.add_eq_left, Nat.add_left_cancel_iff, Nat.reduceEqDiff, Nat.add_assoc, Nat.succ_ne_zero]
    refine made_spec (idn_ok _) (hc.fr F4 fun _ _ h => h) hci (by omega) (fun e => by rw [hB] at e; cases e) fun _ spB bsB pvB mbB w5 hBc b1 b2 f5 => ?_
    have F5 := F4.trans f5
    have hx5 := f5.heap (f4.heap hx3 fun h => h) fun h => h
    have hA4 := hA.fr0 f4
    have hA5 := hA4.fr0 f5
    have hwA : (madeS (idn (andI n0 7)) costs).wf := (newS_wf (idn_ok _) (hB _)).madeK _
    have hwB : (madeS (idn (andI n1 7)) costs).wf := (newS_wf (idn_ok _) (hB _)).madeK _
    have hlA : 0 < (madeS (idn (andI n0 7)) costs).l.length := by unfold madeS; rw [madeK_len, newS_len]; omega
    have s2 := F2.size
    have s4 := f4.size
    have s3 := f3.size
    have hsep : Sep spA bsA pvA mbA spB bsB pvB mbB := ⟨fun c h1 h2 => by have := hA4.lt c h1; have := b1 c h2; omega, fun c h1 h2 => by have := hA4.ps.pv_lt hlA c h1; have := b1 c h2; omega, fun c h1 h2 => by have := hA4.lt c h2; have := b2 c h1; omega⟩
    generalize madeS (idn (andI n0 7)) costs = A at *
    generalize madeS (idn (andI n1 7)) costs = B at *
    simp only [push_cast, Nat.reduceAdd, Nat.reduceLeDiff, Nat.reduceLT, Int.reduceToNat, Nat.left_eq_add, Nat.add_eq_left, Nat.add_left_cancel_iff, Nat.reduceEqDiff, Nat.add_assoc, Nat.succ_ne_zero]
    refine meet_spec (n := 12) hA5 hBc hwA hwB hsep (by decide) (by decide) fun w6 hA6 hB6 f6 => ?_
    obtain ⟨wA6, wB6⟩ := Sp.wf.meetK (t := (A, B)) hwA hwB 12 (by decide)
    have h12 : (12 : Int).toNat = 12 := rfl
    rw [h12] at hA6 hB6
    have hxlt := lt_of_heap hx1
    have hx6 := f6.heap hx5 fun e => by
      rcases e with e | e
      · have := a1 _ e; have := f2.size; omega
      · have := b1 _ e; have := f2.size; omega
    have F6 : Fr none_ w w6 := F5.trans_new f6 fun c hc e => by
      have := F1.size
      have := f2.size
      rcases e with e | e
      · have := a1 c e; omega
      · have := b1 c e; omega
    generalize meetK (A, B) 12 = M at *
    simp only [push_cast, Nat.reduceAdd, Nat.reduceLeDiff, Nat.reduceLT, Int.reduceToNat, Nat.left_eq_add, Nat.add_eq_left, Nat.add_left_cancel_iff, Nat.reduceEqDiff, Nat.add_assoc, Nat.succ_ne_zero]
    refine states_spec hA6 wA6 fun x w7 hxs nx f7 => ?_
    simp only [push_cast, Nat.reduceAdd, Nat.reduceLeDiff, Nat.reduceLT, Int.reduceToNat, Nat.left_eq_add, Nat.add_eq_left, Nat.add_left_cancel_iff, Nat.reduceEqDiff, Nat.add_assoc, Nat.succ_ne_zero]
    refine states_spec (hB6.fr0 f7) wB6 fun y w8 hys ny f8 => ?_
    have hxs8 := hxs.fr f8 fun _ _ h => h
    have hA8 := (hA6.fr0 f7).fr0 f8
    have hB8 := (hB6.fr0 f7).fr0 f8
    have F8 := (F6.trans f7).trans f8
    have hx8 := f8.heap (f7.heap hx6 fun h => h) fun h => h
    refine jn1 (fun v W => v = i64 1 ∧ W = w8) ?_ fun j2 hj2 => ?_
    · rintro v W ⟨rfl, rfl⟩
      simp only [push_cast, Nat.reduceAdd, Nat.reduceLeDiff, Nat.reduceLT, Int.reduceToNat, Nat.left_eq_add, Nat.add_eq_left, Nat.add_left_cancel_iff, Nat.reduceEqDiff, Nat.add_assoc, Nat.succ_ne_zero, ia2_0, ia2_1, hx8, c0, c1, s_andJ, s_minI]
      refine id_spec fun w9 f9 => ?_
      have F9 := F8.trans f9
      have hA9 := hA8.fr0 f9
      have hB9 := hB8.fr0 f9
      rw [zalloc_id]
      have hz : splice zId.cells 0 (idn (min (andI n0 7) (andI n1 7))).cells = (idn (min (andI n0 7) (andI n1 7))).cells := id rfl
      have hro := idn_ok (min (andI n0 7) (andI n1 7))
      generalize idn (min (andI n0 7) (andI n1 7)) = R0 at *
      have hF9' : Fr none_ w9 (wr (w9.alloc (cellsO zId.cells 31)) w9.heap.size 0 R0.cells).drew := (by repeat' first | with_reducible exact Fr.refl _ _ | with_reducible refine Fr.step_alloc ?_ ?_ | with_reducible refine Fr.step_drew ?_ | with_reducible refine Fr.step_wr ?_ ?_ _ _ | exact rfl | exact Or.inr (by omega) | exact Or.inl rfl | exact Or.inl (Or.inl rfl) | exact Or.inl (Or.inr rfl))
      have hx9' : (wr (w9.alloc (cellsO zId.cells 31)) w9.heap.size 0 R0.cells).drew.heap[w9.heap.size]? = some (cellsO R0.cells 31) := by simp only [push_cast, Nat.reduceAdd, Nat.reduceLeDiff, Nat.reduceLT, Int.reduceToNat, Nat.left_eq_add, Nat.add_eq_left, Nat.add_left_cancel_iff, Nat.reduceEqDiff, Nat.add_assoc, Nat.succ_ne_zero, hz]
      simp only [push_cast, Nat.reduceAdd, Nat.reduceLeDiff, Nat.reduceLT, Int.reduceToNat, Nat.left_eq_add, Nat.add_eq_left, Nat.add_left_cancel_iff, Nat.reduceEqDiff, Nat.add_assoc, Nat.succ_ne_zero, hz]
      refine br_intro (fun _ => ?_) fun e => absurd e (by decide)
      have hA10 := hA9.fr0 hF9'
      have hB10 := hB9.fr0 hF9'
      have F10 := F9.trans hF9'
      generalize (wr (w9.alloc (cellsO zId.cells 31)) w9.heap.size 0 R0.cells).drew = W10 at *
      generalize w9.heap.size = rb at *
      have bA : ∀ {R : Value → World → Prop} {W'}, CS W' spA bsA pvA mbA M.1 ∧ CS W' spB bsB pvB mbB M.2 ∧ W'.heap[rb]? = some (cellsO R0.cells 31) ∧ Fr none_ w W' → (∀ W'', CS W'' spA bsA pvA mbA M.1 ∧ CS W'' spB bsB pvB mbB M.2 ∧ W''.heap[rb]? = some (cellsO R0.cells 31) ∧ Fr none_ w W'' → R (.agg R0.cells.toArray) W'') →
          opS Try.prog (S.cl 11 [pt spA 0]) (fun x => opS Try.prog (S.fld 36 x 0) fun y => R y) W' := by
        rintro R W' ⟨g1, g2, g3, g4⟩ hR
        rw [opS_cl]
        refine best_spec g1 fun W6 g6 => ?_
        rw [fld_root, hra]
        exact hR _ ⟨g1.fr0 g6, g2.fr0 g6, g6.heap g3 fun h => h, g4.trans g6⟩
      have bB : ∀ {R : Value → World → Prop} {W'}, CS W' spA bsA pvA mbA M.1 ∧ CS W' spB bsB pvB mbB M.2 ∧ W'.heap[rb]? = some (cellsO R0.cells 31) ∧ Fr none_ w W' → (∀ W'', CS W'' spA bsA pvA mbA M.1 ∧ CS W'' spB bsB pvB mbB M.2 ∧ W''.heap[rb]? = some (cellsO R0.cells 31) ∧ Fr none_ w W'' → R (.agg R0.cells.toArray) W'') →
          opS Try.prog (S.cl 11 [pt spB 0]) (fun x => opS Try.prog (S.fld 36 x 0) fun y => R y) W' := by
        rintro R W' ⟨g1, g2, g3, g4⟩ hR
        rw [opS_cl]
        refine best_spec g2 fun W6 g6 => ?_
        rw [fld_root, hrb]
        exact hR _ ⟨g1.fr0 g6, g2.fr0 g6, g6.heap g3 fun h => h, g4.trans g6⟩
      have lR : ∀ {R : Value → World → Prop} {W'}, CS W' spA bsA pvA mbA M.1 ∧ CS W' spB bsB pvB mbB M.2 ∧ W'.heap[rb]? = some (cellsO R0.cells 31) ∧ Fr none_ w W' → R (.agg R0.cells.toArray) W' → opS Try.prog (S.ld 31 (pt rb 0)) R W' := by
        rintro R W' ⟨g1, g2, g3, g4⟩ hR
        simp only [push_cast, Nat.reduceAdd, Nat.reduceLeDiff, Nat.reduceLT, Int.reduceToNat, Nat.left_eq_add, Nat.add_eq_left, Nat.add_left_cancel_iff, Nat.reduceEqDiff, Nat.add_assoc, Nat.succ_ne_zero, g3]
        exact hR
      have eR : ∀ {R : Value → World → Prop} {W'}, R (.bool true) W' → opS Try.prog (S.binG .eql 31 (.agg R0.cells.toArray) (.agg R0.cells.toArray)) R W' := fun hR => by
        refine s_eqId hro hro ?_
        rw [decide_eq_true rfl]
        exact hR
      have bT : ∀ {p q : World → Prop} {W'}, p W' → brn (.bool true) p q W' := fun h => h
      have kT : ∀ {W'}, CS W' spA bsA pvA mbA M.1 ∧ CS W' spB bsB pvB mbB M.2 ∧ W'.heap[rb]? = some (cellsO R0.cells 31) ∧ Fr none_ w W' → K (.bool true) W' := fun h => hk _ h.2.2.2
      have h0 : CS W10 spA bsA pvA mbA M.1 ∧ CS W10 spB bsB pvB mbB M.2 ∧ W10.heap[rb]? = some (cellsO R0.cells 31) ∧ Fr none_ w W10 := ⟨hA10, hB10, hx9', F10⟩
      repeat' first
        | with_reducible refine allW_intro ?_ ?_
        | with_reducible refine bA (by assumption) fun _ _ => ?_
        | with_reducible refine bB (by assumption) fun _ _ => ?_
        | with_reducible refine lR (by assumption) ?_
        | with_reducible refine eR ?_
        | with_reducible refine bT ?_
        | with_reducible exact kT (by assumption)
    · refine loop2 (fun m v u W => ∃ k : Nat, k + m = costs.length ∧ u = i64 k ∧ v = i64 (if ρ < k then 1 else 0) ∧ W = w8) ?_ costs.length ⟨0, by omega, rfl, rfl, rfl⟩
      rintro m v u W X ⟨k, hkm, rfl, rfl, rfl⟩ hX
      rw [elen]
      simp only [push_cast, Nat.reduceAdd, Nat.reduceLeDiff, Nat.reduceLT, Int.reduceToNat, Nat.left_eq_add, Nat.add_eq_left, Nat.add_left_cancel_iff, Nat.reduceEqDiff, Nat.add_assoc, Nat.succ_ne_zero]
      refine br_dec (fun hlt => ?_) fun hge => ?_
      · have hkl : k < costs.length := by omega
        have hwk : IntKind.i64.wrap ((k : Int) + 1) = ((k + 1 : Nat) : Int) := by rw [wrap_i64 (by omega)]; rfl
        obtain ⟨p, q, hp, hq, hpq⟩ := hend k hkl
        have hsx : M.1.statesOf[k]? = some p.state := by unfold Sp.statesOf; rw [List.getElem?_map, hp]; rfl
        have hsy : M.2.statesOf[k]? = some q.state := by unfold Sp.statesOf; rw [List.getElem?_map, hq]; rfl
        have hno : ¬ k = ρ → (if ρ < k then 1 else 0 : Int) = if ρ < k + 1 then 1 else 0 := fun e => by
          by_cases h : ρ < k
          · rw [if_pos h, if_pos (by omega)]
          · rw [if_neg h, if_neg (by omega)]
        have hgo : ∀ z : Int, z = (if ρ < k + 1 then 1 else 0) → X (i64 z) (i64 ((k + 1 : Nat) : Int)) W := fun z hz => hX (m - 1) _ _ _ (by omega) ⟨k + 1, by omega, rfl, by rw [hz], rfl⟩
        refine ld_int hxs8.rd hsx ?_
        simp only [push_cast, Nat.reduceAdd, Nat.reduceLeDiff, Nat.reduceLT, Int.reduceToNat, Nat.left_eq_add, Nat.add_eq_left, Nat.add_left_cancel_iff, Nat.reduceEqDiff, Nat.add_assoc, Nat.succ_ne_zero]
        refine br_dec (fun e1 => ?_) fun e1 => ?_
        · refine ld_int hys.rd hsy ?_
          simp only [push_cast, Nat.reduceAdd, Nat.reduceLeDiff, Nat.reduceLT, Int.reduceToNat, Nat.left_eq_add, Nat.add_eq_left, Nat.add_left_cancel_iff, Nat.reduceEqDiff, Nat.add_assoc, Nat.succ_ne_zero]
          refine br_dec (fun e2 => ?_) fun e2 => ?_
          · have hkr := hpq.1 ⟨e1, e2⟩
            rw [hwk]
            have hz : IntKind.i64.wrap ((if ρ < k then 1 else 0 : Int) + 1) = if ρ < k + 1 then 1 else 0 := by
              rw [if_neg (show ¬ ρ < k by omega), if_pos (show ρ < k + 1 by omega)]; decide
            exact hgo _ hz
          · rw [hwk]
            exact hgo _ (hno fun e => e2 (hpq.2 e).2)
        · rw [hwk]
          exact hgo _ (hno fun e => e1 (hpq.2 e).1)
      · obtain rfl : k = costs.length := by omega
        rw [if_pos hρ]
        exact hj2 _ _ ⟨rfl, rfl⟩
  · refine loop1 (fun m u W => ∃ k : Nat, k + m = costs.length ∧ u = i64 k ∧ W = w1 ∧ ∀ c ∈ costs.take k, 1 ≤ c ∧ c ≤ 200000000) ?_ costs.length ⟨0, by omega, rfl, rfl, fun c hc => by cases hc⟩
    rintro m u W X ⟨k, hkm, rfl, rfl, hall⟩ hX
    rw [elen]
    simp only [push_cast, Nat.reduceAdd, Nat.reduceLeDiff, Nat.reduceLT, Int.reduceToNat, Nat.left_eq_add, Nat.add_eq_left, Nat.add_left_cancel_iff, Nat.reduceEqDiff, Nat.add_assoc, Nat.succ_ne_zero]
    refine br_dec (fun hlt => ?_) fun hge => ?_
    · have hkl : k < costs.length := by omega
      have hwk : IntKind.i64.wrap ((k : Int) + 1) = ((k + 1 : Nat) : Int) := by rw [wrap_i64 (by omega)]; rfl
      have hgk : costs[k]? = some costs[k] := List.getElem?_eq_getElem hkl
      have hcr := hc.fr F1 fun _ _ h => h
      refine ld_int hcr hgk ?_
      simp only [push_cast, Nat.reduceAdd, Nat.reduceLeDiff, Nat.reduceLT, Int.reduceToNat, Nat.left_eq_add, Nat.add_eq_left, Nat.add_left_cancel_iff, Nat.reduceEqDiff, Nat.add_assoc, Nat.succ_ne_zero]
      refine br_dec (fun _ => hk _ F1) fun e1 => ?_
      refine ld_int hcr hgk ?_
      simp only [push_cast, Nat.reduceAdd, Nat.reduceLeDiff, Nat.reduceLT, Int.reduceToNat, Nat.left_eq_add, Nat.add_eq_left, Nat.add_left_cancel_iff, Nat.reduceEqDiff, Nat.add_assoc, Nat.succ_ne_zero]
      refine br_dec (fun _ => hk _ F1) fun e2 => ?_
      rw [hwk]
      refine hX (m - 1) _ _ (by omega) ⟨k + 1, by omega, rfl, rfl, fun c hc => ?_⟩
      rw [List.take_add_one, hgk] at hc
      rcases List.mem_append.1 hc with hc | hc
      · exact hall c hc
      · have : c = costs[k] := by simpa using hc
        omega
    · obtain rfl : k = costs.length := by omega
      rw [List.take_length] at hall
      exact hj _ ⟨rfl, hall⟩

end Go.Gx.S
end

section
/- Numbers that come in, for two bridges. -/
namespace Go.Gx.S
end Go.Gx.S
end
