/- Tables of VLANs: the plain laws. -/
import Derived.Test.YtclkdldkebjgpaaGxLoop
namespace Go.Gx
open Go
namespace VT

theorem mem_members {t : VT} {v p : Int} : p ∈ t.members v ↔ t.port p ∧ t.is v p = true := by
  unfold members port
  rw [List.mem_filter, List.mem_map]
  constructor
  · rintro ⟨⟨n, hn, rfl⟩, h⟩
    rw [List.mem_range] at hn
    exact ⟨⟨by simp, by simpa using hn⟩, h⟩
  · rintro ⟨⟨h1, h2⟩, h⟩
    exact ⟨⟨p.toNat, by rw [List.mem_range]; omega, by simp; omega⟩, h⟩

theorem inn_eq {t : VT} {p : Int} {f : Frm} {n : Nat} : ∃ u, t.inn p f n = if t.port p ∧ f.right n = true then (if t.is u p = true then (u, 0) else (0, 4)) else (0, 1) := ⟨_, rfl⟩

theorem inn_none {t : VT} {p : Int} {f : Frm} {n : Nat} (h : (t.inn p f n).2 ≠ 0) : (t.inn p f n).1 = 0 := by
  obtain ⟨u, hu⟩ := inn_eq (t := t) (p := p) (f := f) (n := n)
  rw [hu] at h ⊢
  by_cases h1 : t.port p ∧ f.right n = true
  · rw [if_pos h1] at h ⊢
    by_cases h2 : t.is u p = true
    · rw [if_pos h2] at h
      exact absurd rfl h
    · rw [if_neg h2]
  · rw [if_neg h1]

theorem inn_some {t : VT} {p : Int} {f : Frm} {n : Nat} (h : (t.inn p f n).2 = 0) : t.port p ∧ f.right n = true ∧ t.is (t.inn p f n).1 p = true := by
  obtain ⟨u, hu⟩ := inn_eq (t := t) (p := p) (f := f) (n := n)
  rw [hu] at h ⊢
  by_cases h1 : t.port p ∧ f.right n = true
  · rw [if_pos h1] at h ⊢
    by_cases h2 : t.is u p = true
    · rw [if_pos h2]
      exact ⟨h1.1, h1.2, h2⟩
    · rw [if_neg h2] at h
      cases h
  · rw [if_neg h1] at h
    cases h

theorem out_some {t : VT} {v p : Int} {f : Frm} {n : Nat} (h : (t.out v p f n).2 = 0) : t.right v p ∧ f.right n = true ∧ ((getL t.tab (v, p) = some true ∧ (t.out v p f n).1 = f.tag v f.prio) ∨ (getL t.tab (v, p) = some false ∧ (t.out v p f n).1 = f.untag)) := by
  unfold out at *
  split at h
  · rename_i hc
    rw [if_pos hc]
    refine ⟨hc.1, hc.2, ?_⟩
    split at h
    · cases h
    · rename_i hl
      rw [hl]; exact .inl ⟨rfl, rfl⟩
    · rename_i hl
      rw [hl]; exact .inr ⟨rfl, rfl⟩
  · cases h

theorem out_is {t : VT} {v p : Int} {f : Frm} {n : Nat} (hr : t.right v p) (hf : f.right n = true) (hi : t.is v p = true) : (t.out v p f n).2 = 0 := by
  unfold out
  rw [if_pos ⟨hr, hf⟩]
  obtain ⟨b, hb⟩ := Option.isSome_iff_exists.1 hi
  rw [hb]
  cases b <;> rfl

theorem right_untag {f : Frm} {n : Nat} (h : f.right n = true) : f.untag.right n = true := by
  unfold Frm.right Frm.untag at *
  simp only [Bool.and_eq_true] at h ⊢
  exact ⟨h.1, by simp⟩

/-- it comes in as what it went out as -/
theorem back_tag {t : VT} {v p : Int} {f : Frm} {n : Nat} (hr : t.right v p) (hf : f.right n = true) (hi : t.is v p = true) : t.inn p (f.tag v f.prio) n = (v, 0) := by
  unfold inn
  rw [if_pos ⟨hr.2.2, tag_right hf hr.1 hr.2.1⟩]
  have h1 := hr.1
  have e : (f.tag v f.prio).vlan = v := rfl
  have h0 : v ≠ 0 := by omega
  rw [e, if_neg h0]
  simp only []
  rw [if_pos hi]

theorem back_untag {t : VT} {v p : Int} {f : Frm} {n : Nat} (hr : t.right v p) (hf : f.right n = true) (hi : t.is v p = true) : (t.native p v).1.inn p f.untag n = (v, 0) := by
  have h1 := hr.1
  have h2 := hr.2.1
  have h3 := hr.2.2
  unfold native
  rw [if_pos ⟨h3, by omega, by omega⟩]
  unfold inn
  have hp : (⟨t.tab, t.nat.set p.toNat v⟩ : VT).port p := by unfold port at *; simpa using h3
  simp only []
  rw [if_pos ⟨hp, right_untag hf⟩]
  have e : f.untag.vlan = 0 := rfl
  have hlt : p.toNat < t.nat.length := by unfold port at h3; omega
  have hg : (t.nat.set p.toNat v).getD p.toNat 0 = v := by
    rw [List.getD_eq_getElem?_getD, List.getElem?_set_self hlt]; rfl
  rw [e, if_pos rfl, hg, if_pos (by exact hi)]

theorem members_native {t : VT} (p v u : Int) : (t.native p v).1.members u = t.members u := by
  unfold native
  split
  · unfold members is; simp
  · rfl

theorem members_step {t t' : VT} {u : Int} (hn : t'.nat.length = t.nat.length) (h : ∀ p, t'.is u p = t.is u p) : t'.members u = t.members u := by
  unfold members
  rw [hn]
  exact List.filter_congr fun p _ => h p

theorem members_add {t : VT} {v p u : Int} {b : Bool} (h : v ≠ u) : (t.add v p b).1.members u = t.members u := by
  unfold add
  split
  · refine members_step rfl fun q => ?_
    unfold is
    simp only []
    rw [lookup_setL, if_neg]
    intro e
    exact h (congrArg Prod.fst e).symm
  · rfl

theorem members_remove {t : VT} {v p u : Int} (h : v ≠ u) : (t.remove v p).1.members u = t.members u := by
  unfold remove
  split
  · split
    · refine members_step rfl fun q => ?_
      unfold is
      simp only []
      rw [lookup_delL, if_neg]
      intro e
      exact h (congrArg Prod.fst e).symm
    · rfl
  · rfl

theorem filter_one_less {l : List Int} {f g : Int → Bool} {p : Int} (hn : l.Nodup) (hp : p ∈ l) (hf : f p = true) (hg : g p = false) (h : ∀ q, q ≠ p → g q = f q) : (l.filter g).length + 1 = (l.filter f).length := by
  induction l with
  | nil => cases hp
  | cons a l ih =>
    rw [List.nodup_cons] at hn
    by_cases e : a = p
    · subst e
      rw [List.filter_cons, List.filter_cons, if_neg (by simp [hg]), if_pos hf, List.length_cons]
      have : l.filter g = l.filter f := List.filter_congr fun q hq => h q fun e => hn.1 (e ▸ hq)
      rw [this]
    · have hp' : p ∈ l := by
        rcases List.mem_cons.1 hp with rfl | hp
        · exact absurd rfl e
        · exact hp
      rw [List.filter_cons, List.filter_cons, h a e]
      have := ih hn.2 hp'
      split
      · simp only [List.length_cons]; omega
      · exact this

theorem range_nodup (n : Nat) : ((List.range n).map Int.ofNat).Nodup := by
  refine List.Pairwise.map (R := (· < ·)) _ ?_ List.pairwise_lt_range
  intro a b hab e
  have : (a : Int) = b := e
  omega

theorem members_rise (t : VT) (v : Int) : (t.members v).Pairwise (· < ·) := by
  unfold members
  refine List.Pairwise.filter _ ?_
  refine List.Pairwise.map (R := (· < ·)) _ ?_ List.pairwise_lt_range
  intro a b hab
  show (a : Int) < b
  omega

theorem native_none {t : VT} (h : t.ok) (p : Int) (f : Frm) (hf : f.vlan = 0) (n : Nat) :
    ((t.native p 0).1.inn p f n).1 = 0 ∧ ((t.native p 0).1.inn p f n).2 ≠ 0 ∧ ((t.inn p f n).2 = 1 ∨ (t.native p 0).2 = 0) := by
  by_cases hp : t.port p
  · have hlt : p.toNat < t.nat.length := by unfold port at hp; omega
    have hn : t.native p 0 = ({ t with nat := t.nat.set p.toNat 0 }, 0) := by unfold native; rw [if_pos ⟨hp, by omega, by omega⟩]
    rw [hn]
    have hok := ok_native h p 0
    rw [hn] at hok
    have hno : (⟨t.tab, t.nat.set p.toNat 0⟩ : VT).is 0 p = false := by
      cases hi : (⟨t.tab, t.nat.set p.toNat 0⟩ : VT).is 0 p with
      | false => rfl
      | true =>
        have := is_right hok hi
        have := this.1
        omega
    have hg : (t.nat.set p.toNat 0).getD p.toNat 0 = 0 := by
      rw [List.getD_eq_getElem?_getD, List.getElem?_set_self hlt]; rfl
    refine ⟨?_, ?_, .inr rfl⟩
    all_goals
      unfold inn
      simp only [hf, if_true, hg, hno]
      split <;> simp
  · have hn : t.native p 0 = (t, 1) := by unfold native; rw [if_neg (fun h => hp h.1)]
    rw [hn]
    have : t.inn p f n = (0, 1) := by unfold inn; rw [if_neg (fun h => hp h.1)]
    rw [this]
    exact ⟨rfl, by decide, .inl rfl⟩

end VT
end Go.Gx
