/- Places found by a hash: plain. -/
import Derived.Test.YtclkdldkebjgpaaGxRep
set_option linter.unusedVariables false
namespace Go.Gx
open Go

abbrev Key := Int × Mac
def zE : Ent := ⟨0, zMac, 0, 0, false⟩

/-- what is at a place -/
def pAt (ps : List Ent) (i : Nat) : Ent := ps.getD i zE
theorem pAt_eq {ps : List Ent} {i : Nat} (h : i < ps.length) : pAt ps i = ps[i] := by
  unfold pAt
  rw [List.getD_eq_getElem?_getD, List.getElem?_eq_getElem h]; rfl
theorem pAt_ge {ps : List Ent} {i : Nat} (h : ps.length ≤ i) : pAt ps i = zE := by
  unfold pAt
  rw [List.getD_eq_getElem?_getD, List.getElem?_eq_none h]; rfl
theorem pAt_set {ps : List Ent} {i : Nat} (h : i < ps.length) (x : Ent) (j : Nat) : pAt (ps.set i x) j = if j = i then x else pAt ps j := by
  unfold pAt
  rw [List.getD_eq_getElem?_getD, List.getD_eq_getElem?_getD, List.getElem?_set]
  by_cases e : i = j
  · subst e
    rw [if_pos rfl, if_pos h, if_pos rfl]; rfl
  · rw [if_neg e, if_neg (fun e2 => e e2.symm)]

/-- the walk from a place -/
def wk (n h s : Nat) : Nat := (h + s) % n

theorem wk_hits {n h e : Nat} (hh : h < n) (he : e < n) : ∃ s, s < n ∧ wk n h s = e := by
  refine ⟨(e + n - h) % n, Nat.mod_lt _ (by omega), ?_⟩
  unfold wk
  rw [Nat.add_mod_mod]
  have : h + (e + n - h) = e + n := by omega
  rw [this, Nat.add_mod_right, Nat.mod_eq_of_lt he]
theorem wk_wk (n h s t : Nat) : wk n (wk n h s) t = wk n h (s + t) := by
  unfold wk
  rw [Nat.mod_add_mod, Nat.add_assoc]
theorem wk_lt {n : Nat} (hn : 0 < n) (h s : Nat) : wk n h s < n := Nat.mod_lt _ hn
theorem wk_inj {n h s t : Nat} (hs : s < n) (ht : t < n) (e : wk n h s = wk n h t) : s = t := by
  unfold wk at e
  have key : ∀ a b, a ≤ b → b < n → (h + a) % n = (h + b) % n → a = b := by
    intro a b hab hb e
    have h1 : (h + b - (h + a)) % n = 0 := Nat.sub_mod_eq_zero_of_mod_eq e.symm
    have h2 : h + b - (h + a) = b - a := by omega
    rw [h2, Nat.mod_eq_of_lt (by omega)] at h1
    omega
  rcases Nat.le_total s t with h1 | h1
  · exact key s t h1 ht e
  · exact (key t s h1 hs e.symm).symm

section
variable {n : Nat} {hm : Key → Nat}

/-- from an entry's home on, up to it, no place is free -/
def PathOk (n : Nat) (hm : Key → Nat) (ps : List Ent) (p : Nat) : Prop :=
  ∀ t, (∀ s, s ≤ t → wk n (hm (eKey (pAt ps p))) s ≠ p) → pAt ps (wk n (hm (eKey (pAt ps p))) t) ≠ zE

structure PT (n : Nat) (hm : Key → Nat) (ps : List Ent) : Prop where
  len : ps.length = n
  pos : 0 < n
  home : ∀ k, hm k < n
  path : ∀ p, p < n → pAt ps p ≠ zE → PathOk n hm ps p
  inj : ∀ p q, p < n → q < n → pAt ps p ≠ zE → pAt ps q ≠ zE → eKey (pAt ps p) = eKey (pAt ps q) → p = q

/-- how far the walk of a key has come: no free place, and not the key -/
def Seen (n : Nat) (ps : List Ent) (h : Nat) (k : Key) (d : Nat) : Prop := ∀ s, s < d → pAt ps (wk n h s) ≠ zE ∧ eKey (pAt ps (wk n h s)) ≠ k

theorem Seen.lt {ps : List Ent} {h : Nat} {k : Key} {d : Nat} (hs : Seen n ps h k d) (hh : h < n) (he : ∃ e, e < n ∧ pAt ps e = zE) : d < n := by
  obtain ⟨e, he, hz⟩ := he
  obtain ⟨s, hs1, hs2⟩ := wk_hits hh he
  rcases Nat.lt_or_ge d n with h1 | h1
  · exact h1
  · have := (hs s (by omega)).1
    rw [hs2] at this
    exact absurd hz this
theorem Seen.step {ps : List Ent} {h : Nat} {k : Key} {d : Nat} (hs : Seen n ps h k d) (h1 : pAt ps (wk n h d) ≠ zE) (h2 : eKey (pAt ps (wk n h d)) ≠ k) : Seen n ps h k (d + 1) := by
  intro s hlt
  rcases Nat.lt_or_ge s d with h3 | h3
  · exact hs s h3
  · have : s = d := by omega
    subst this
    exact ⟨h1, h2⟩

/-- the walk ends at a free place: the key is nowhere -/
theorem PT.absent {ps : List Ent} (hp : PT n hm ps) {k : Key} {d : Nat} (hs : Seen n ps (hm k) k d) (hz : pAt ps (wk n (hm k) d) = zE) : ∀ p, p < n → pAt ps p ≠ zE → eKey (pAt ps p) ≠ k := by
  intro p hpn hpz hk
  have h1 := hp.path p hpn hpz
  unfold PathOk at h1
  rw [hk] at h1
  by_cases hq : ∀ s, s ≤ d → wk n (hm k) s ≠ p
  · exact h1 d hq hz
  · obtain ⟨s, hq1⟩ := Classical.not_forall.1 hq
    obtain ⟨hsd, hq2⟩ := Classical.not_imp.1 hq1
    have hq3 : wk n (hm k) s = p := Classical.not_not.1 hq2
    rcases Nat.lt_or_ge s d with h3 | h3
    · have := (hs s h3).2
      rw [hq3] at this
      exact this hk
    · have : s = d := by omega
      subst this
      rw [hq3] at hz
      exact hpz hz

/-- one entry more, at the free place where the walk of its key ends -/
theorem PT.insert {ps : List Ent} (hp : PT n hm ps) {x : Ent} {d : Nat} (hx : x ≠ zE) (hs : Seen n ps (hm (eKey x)) (eKey x) d) (hz : pAt ps (wk n (hm (eKey x)) d) = zE) : PT n hm (ps.set (wk n (hm (eKey x)) d) x) := by
  have hf : wk n (hm (eKey x)) d < ps.length := by rw [hp.len]; exact wk_lt hp.pos _ _
  have hab := hp.absent hs hz
  generalize hfd : wk n (hm (eKey x)) d = f at *
  refine ⟨by rw [List.length_set]; exact hp.len, hp.pos, hp.home, fun p hpn hpz => ?_, fun p q hpn hqn hpz hqz hk => ?_⟩
  · intro t ht
    rw [pAt_set hf] at hpz ht ⊢
    rw [pAt_set hf]
    split at hpz
    · rename_i e
      subst e
      rw [if_pos rfl] at ht
      have htd : t < d := Nat.lt_of_not_le fun h => ht d h hfd
      rw [if_pos rfl, if_neg (ht t (Nat.le_refl _))]
      exact (hs t htd).1
    · rename_i e
      rw [if_neg e] at ht ⊢
      have := hp.path p hpn hpz t ht
      split
      · exact hx
      · exact this
  · rw [pAt_set hf] at hpz hk
    rw [pAt_set hf] at hqz hk
    split at hpz <;> split at hqz
    · rename_i e1 e2; rw [e1, e2]
    · rename_i e1 e2
      rw [if_pos e1, if_neg e2] at hk
      exact absurd hk.symm (hab q hqn hqz)
    · rename_i e1 e2
      rw [if_neg e1, if_pos e2] at hk
      exact absurd hk (hab p hpn hpz)
    · rename_i e1 e2
      rw [if_neg e1, if_neg e2] at hk
      exact hp.inj p q hpn hqn hpz hqz hk

/-- another entry of the same key in its place -/
theorem PT.update {ps : List Ent} (hp : PT n hm ps) {x : Ent} {f : Nat} (hf : f < n) (hx : x ≠ zE) (hz : pAt ps f ≠ zE) (hk : eKey (pAt ps f) = eKey x) : PT n hm (ps.set f x) := by
  have hf' : f < ps.length := by rw [hp.len]; exact hf
  have hkey : ∀ p, eKey (pAt (ps.set f x) p) = eKey (pAt ps p) := fun p => by
    rw [pAt_set hf']
    split
    · rename_i e; rw [e, hk]
    · rfl
  have hocc : ∀ p, pAt (ps.set f x) p ≠ zE ↔ pAt ps p ≠ zE := fun p => by
    rw [pAt_set hf']
    split
    · rename_i e; rw [e]; exact ⟨fun _ => hz, fun _ => hx⟩
    · rfl
  refine ⟨by rw [List.length_set]; exact hp.len, hp.pos, hp.home, fun p hpn hpz => ?_, fun p q hpn hqn hpz hqz hk => ?_⟩
  · have := hp.path p hpn ((hocc p).1 hpz)
    unfold PathOk at this ⊢
    rw [hkey p]
    intro t ht
    exact (hocc _).2 (this t ht)
  · rw [hkey, hkey] at hk
    exact hp.inj p q hpn hqn ((hocc p).1 hpz) ((hocc q).1 hqz) hk

/-! ### An entry is taken out; those behind it are put in anew -/

structure Tk (n : Nat) (hm : Key → Nat) (i M m : Nat) (ps : List Ent) : Prop where
  len : ps.length = n
  pos : 0 < n
  home : ∀ k, hm k < n
  lt : M < n
  seg : ∀ s, m ≤ s → s < M → pAt ps (wk n i s) ≠ zE
  free : pAt ps (wk n i M) = zE
  path : ∀ p, p < n → pAt ps p ≠ zE → (∀ s, m ≤ s → s < M → wk n i s ≠ p) → PathOk n hm ps p
  noE : ∀ p, p < n → pAt ps p ≠ zE → ∀ t, (∀ s, s ≤ t → wk n (hm (eKey (pAt ps p))) s ≠ p) → wk n (hm (eKey (pAt ps p))) t ≠ wk n i M
  inj : ∀ p q, p < n → q < n → pAt ps p ≠ zE → pAt ps q ≠ zE → eKey (pAt ps p) = eKey (pAt ps q) → p = q

theorem PT.tk {ps : List Ent} (hp : PT n hm ps) {i M : Nat} (hM : M < n) (hseg : ∀ s, s < M → pAt ps (wk n i s) ≠ zE) (hz : pAt ps (wk n i M) = zE) : Tk n hm i M 0 ps :=
  ⟨hp.len, hp.pos, hp.home, hM, fun s _ h => hseg s h, hz, fun p hpn hpz _ => hp.path p hpn hpz, fun p hpn hpz t ht e => hp.path p hpn hpz t ht (e ▸ hz), hp.inj⟩
theorem Tk.pt {i M : Nat} {ps : List Ent} (h : Tk n hm i M M ps) : PT n hm ps :=
  ⟨h.len, h.pos, h.home, fun p hpn hpz => h.path p hpn hpz fun s h1 h2 => by omega, h.inj⟩

theorem Tk.remove {i M m : Nat} {ps : List Ent} (h : Tk n hm i M m ps) (hm' : m < M) : Tk n hm i M (m + 1) (ps.set (wk n i m) zE) := by
  have hj : wk n i m < ps.length := by rw [h.len]; exact wk_lt h.pos _ _
  have hne : ∀ s, s ≤ M → s ≠ m → wk n i s ≠ wk n i m := fun s hs hn e => hn (wk_inj (by have := h.lt; omega) (by have := h.lt; omega) e)
  have hocc : ∀ p, pAt (ps.set (wk n i m) zE) p ≠ zE → p ≠ wk n i m ∧ pAt (ps.set (wk n i m) zE) p = pAt ps p := fun p hp => by
    rw [pAt_set hj] at hp ⊢
    split at hp
    · exact absurd rfl hp
    · rename_i e; exact ⟨e, if_neg e⟩
  refine ⟨by rw [List.length_set]; exact h.len, h.pos, h.home, h.lt, fun s h1 h2 => ?_, ?_, fun p hpn hpz hout => ?_, fun p hpn hpz => ?_, fun p q hpn hqn hpz hqz hk => ?_⟩
  · rw [pAt_set hj, if_neg (hne s (by omega) (by omega))]
    exact h.seg s (by omega) h2
  · rw [pAt_set hj, if_neg (hne M (Nat.le_refl _) (by omega))]
    exact h.free
  · obtain ⟨e1, e2⟩ := hocc p hpz
    have hpz' : pAt ps p ≠ zE := e2 ▸ hpz
    have hpath := h.path p hpn hpz' fun s h1 h2 e => by
      rcases Nat.lt_or_ge m s with h3 | h3
      · exact hout s h3 h2 e
      · have : s = m := by omega
        subst this
        exact e1 e.symm
    intro t ht
    rw [e2] at ht ⊢
    have hocct := hpath t ht
    rw [pAt_set hj]
    split
    · rename_i ej
      exfalso
      refine hpath (t + (M - m)) (fun s hs e => ?_) ?_
      · rcases Nat.lt_or_ge t s with h3 | h3
        · have h4 : wk n (hm (eKey (pAt ps p))) s = wk n i (m + (s - t)) := by
            have : s = t + (s - t) := by omega
            rw [this, ← wk_wk, ej, wk_wk]
            congr 1; omega
          rw [h4] at e
          rcases Nat.lt_or_ge (m + (s - t)) M with h5 | h5
          · exact hout _ (by omega) h5 e
          · have : m + (s - t) = M := by omega
            rw [this] at e
            rw [← e] at hpz'
            exact hpz' h.free
        · exact ht s h3 e
      · rw [← wk_wk, ej, wk_wk]
        have : m + (M - m) = M := by omega
        rw [this]
        exact h.free
    · exact hocct
  · obtain ⟨e1, e2⟩ := hocc p hpz
    rw [e2]
    exact h.noE p hpn (e2 ▸ hpz)
  · obtain ⟨e1, e2⟩ := hocc p hpz
    obtain ⟨e3, e4⟩ := hocc q hqz
    rw [e2, e4] at hk
    exact h.inj p q hpn hqn (e2 ▸ hpz) (e4 ▸ hqz) hk

theorem Tk.insert {i M m : Nat} {ps : List Ent} (h : Tk n hm i M m ps) {x : Ent} {d : Nat} (hx : x ≠ zE) (hab : ∀ p, p < n → pAt ps p ≠ zE → eKey (pAt ps p) ≠ eKey x)
    (hs : ∀ s, s < d → pAt ps (wk n (hm (eKey x)) s) ≠ zE) (hz : pAt ps (wk n (hm (eKey x)) d) = zE) (hE : wk n (hm (eKey x)) d ≠ wk n i M) : Tk n hm i M m (ps.set (wk n (hm (eKey x)) d) x) := by
  have hf : wk n (hm (eKey x)) d < ps.length := by rw [h.len]; exact wk_lt h.pos _ _
  generalize hfd : wk n (hm (eKey x)) d = f at *
  have hmono : ∀ p, pAt ps p ≠ zE → pAt (ps.set f x) p ≠ zE := fun p hp => by
    rw [pAt_set hf]
    split
    · exact hx
    · exact hp
  refine ⟨by rw [List.length_set]; exact h.len, h.pos, h.home, h.lt, fun s h1 h2 => hmono _ (h.seg s h1 h2), ?_, fun p hpn hpz hout => ?_, fun p hpn hpz => ?_, fun p q hpn hqn hpz hqz hk => ?_⟩
  · rw [pAt_set hf, if_neg (fun e => hE e.symm)]
    exact h.free
  · by_cases e : p = f
    · subst e
      intro t ht
      have hpx : pAt (ps.set p x) p = x := by rw [pAt_set hf, if_pos rfl]
      rw [hpx] at ht ⊢
      have htd : t < d := Nat.lt_of_not_le fun h => ht d h hfd
      exact hmono _ (hs t htd)
    · have e2 : pAt (ps.set f x) p = pAt ps p := by rw [pAt_set hf, if_neg e]
      have hpz' : pAt ps p ≠ zE := e2 ▸ hpz
      intro t ht
      rw [e2] at ht ⊢
      exact hmono _ (h.path p hpn hpz' hout t ht)
  · by_cases e : p = f
    · subst e
      intro t ht
      rw [pAt_set hf, if_pos rfl] at ht ⊢
      have htd : t < d := Nat.lt_of_not_le fun h => ht d h hfd
      intro e
      have := hs t htd
      rw [e] at this
      exact this h.free
    · have e2 : pAt (ps.set f x) p = pAt ps p := by rw [pAt_set hf, if_neg e]
      rw [e2]
      exact h.noE p hpn (e2 ▸ hpz)
  · rw [pAt_set hf] at hpz hk
    rw [pAt_set hf] at hqz hk
    split at hpz <;> split at hqz
    · rename_i e1 e2; rw [e1, e2]
    · rename_i e1 e2
      rw [if_pos e1, if_neg e2] at hk
      exact absurd hk.symm (hab q hqn hqz)
    · rename_i e1 e2
      rw [if_neg e1, if_pos e2] at hk
      exact absurd hk (hab p hpn hpz)
    · rename_i e1 e2
      rw [if_neg e1, if_neg e2] at hk
      exact h.inj p q hpn hqn hpz hqz hk

/-- one that stood behind is put in anew -/
theorem Tk.again {i M m : Nat} {ps : List Ent} (h : Tk n hm i M m ps) (hm' : m < M) {d : Nat}
    (hs : Seen n (ps.set (wk n i m) zE) (hm (eKey (pAt ps (wk n i m)))) (eKey (pAt ps (wk n i m))) d) (hz : pAt (ps.set (wk n i m) zE) (wk n (hm (eKey (pAt ps (wk n i m)))) d) = zE) :
    Tk n hm i M (m + 1) ((ps.set (wk n i m) zE).set (wk n (hm (eKey (pAt ps (wk n i m)))) d) (pAt ps (wk n i m))) := by
  have hj : wk n i m < ps.length := by rw [h.len]; exact wk_lt h.pos _ _
  have hjn : wk n i m < n := wk_lt h.pos _ _
  have hx : pAt ps (wk n i m) ≠ zE := h.seg m (Nat.le_refl _) hm'
  have h1 := h.remove hm'
  refine h1.insert hx (fun p hpn hpz hk => ?_) (fun s hlt => (hs s hlt).1) hz fun e => ?_
  · rw [pAt_set hj] at hpz hk
    split at hpz
    · exact hpz rfl
    · rename_i e
      rw [if_neg e] at hk
      exact e (h.inj p _ hpn hjn hpz hx hk)
  · by_cases hq : ∀ s, s ≤ d → wk n (hm (eKey (pAt ps (wk n i m)))) s ≠ wk n i m
    · exact h.noE _ hjn hx d hq e
    · obtain ⟨s, hq1⟩ := Classical.not_forall.1 hq
      obtain ⟨hsd, hq2⟩ := Classical.not_imp.1 hq1
      have hq3 : wk n (hm (eKey (pAt ps (wk n i m)))) s = wk n i m := Classical.not_not.1 hq2
      rcases Nat.lt_or_ge s d with h3 | h3
      · have := (hs s h3).1
        rw [hq3, pAt_set hj, if_pos rfl] at this
        exact this rfl
      · have : s = d := by omega
        subst this
        rw [hq3] at e
        have := wk_inj (by have := h.lt; omega) h.lt e
        omega

/-! ### What is in the places -/

/-- the places hold the entries of a list in order -/
structure CT (ps : List Ent) (r : List Ent) : Prop where
  srt : Srt r
  nz : ∀ e ∈ r, e ≠ zE
  mem : ∀ e, e ∈ r ↔ e ≠ zE ∧ ∃ p, p < ps.length ∧ pAt ps p = e
  inj : ∀ p q, p < ps.length → q < ps.length → pAt ps p ≠ zE → pAt ps q ≠ zE → eKey (pAt ps p) = eKey (pAt ps q) → p = q

theorem CT.put {ps r : List Ent} (h : CT ps r) {x : Ent} {f : Nat} (hx : x ≠ zE) (hok : x.ok) (hf : f < ps.length) (hk : ∀ p, p < ps.length → p ≠ f → pAt ps p ≠ zE → eKey (pAt ps p) ≠ eKey x) (hfk : pAt ps f ≠ zE → eKey (pAt ps f) = eKey x) : CT (ps.set f x) (withL r x) := by
  refine ⟨h.srt.with hok, fun e he => ?_, fun e => ?_, fun p q hp hq hpz hqz hkk => ?_⟩
  · rcases mem_with.1 he with rfl | he
    · exact hx
    · exact h.nz e he.1
  · rw [mem_with, h.mem, List.length_set]
    constructor
    · rintro (rfl | ⟨⟨h1, p, hp, rfl⟩, h2⟩)
      · exact ⟨hx, f, hf, by rw [pAt_set hf, if_pos rfl]⟩
      · refine ⟨h1, p, hp, ?_⟩
        rw [pAt_set hf, if_neg]
        intro e
        subst e
        exact h2 (hfk h1)
    · rintro ⟨h1, p, hp, rfl⟩
      rw [pAt_set hf] at h1 ⊢
      split at h1
      · rename_i e; exact .inl (if_pos e)
      · rename_i e
        rw [if_neg e]
        exact .inr ⟨⟨h1, p, hp, rfl⟩, hk p hp e h1⟩
  · rw [List.length_set] at hp hq
    rw [pAt_set hf] at hpz hkk
    rw [pAt_set hf] at hqz hkk
    split at hpz <;> split at hqz
    · rename_i e1 e2; rw [e1, e2]
    · rename_i e1 e2
      rw [if_pos e1, if_neg e2] at hkk
      exact absurd hkk.symm (hk q hq e2 hqz)
    · rename_i e1 e2
      rw [if_neg e1, if_pos e2] at hkk
      exact absurd hkk (hk p hp e1 hpz)
    · rename_i e1 e2
      rw [if_neg e1, if_neg e2] at hkk
      exact h.inj p q hp hq hpz hqz hkk

theorem CT.take {ps r : List Ent} (h : CT ps r) {f : Nat} (hf : f < ps.length) (hz : pAt ps f ≠ zE) : CT (ps.set f zE) (withoutL r (pAt ps f)) := by
  refine ⟨h.srt.without _, fun e he => h.nz e (mem_without.1 he).1, fun e => ?_, fun p q hp hq hpz hqz hkk => ?_⟩
  · rw [mem_without, h.mem, List.length_set]
    constructor
    · rintro ⟨⟨h1, p, hp, rfl⟩, h2⟩
      refine ⟨h1, p, hp, ?_⟩
      rw [pAt_set hf, if_neg]
      intro e
      subst e
      exact h2 rfl
    · rintro ⟨h1, p, hp, rfl⟩
      rw [pAt_set hf] at h1 ⊢
      split at h1
      · exact absurd rfl h1
      · rename_i e
        rw [if_neg e]
        exact ⟨⟨h1, p, hp, rfl⟩, fun hk => e (h.inj p f hp hf h1 hz hk)⟩
  · rw [List.length_set] at hp hq
    rw [pAt_set hf] at hpz hkk
    rw [pAt_set hf] at hqz hkk
    split at hpz <;> split at hqz
    · exact absurd rfl hpz
    · exact absurd rfl hpz
    · exact absurd rfl hqz
    · rename_i e1 e2
      rw [if_neg e1, if_neg e2] at hkk
      exact h.inj p q hp hq hpz hqz hkk

theorem with_without {r : List Ent} (h : Srt r) {x : Ent} (hx : x ∈ r) : withL (withoutL r x) x = r := by
  refine ((h.without x).with (h.2 x hx)).eq h fun e => ?_
  rw [mem_with, mem_without]
  constructor
  · rintro (rfl | h1)
    · exact hx
    · exact h1.1.1
  · intro he
    by_cases hk : eKey e = eKey x
    · exact .inl (h.key he hx hk)
    · exact .inr ⟨⟨he, hk⟩, hk⟩
theorem without_none {r : List Ent} {x : Ent} (h : ∀ e ∈ r, eKey e ≠ eKey x) : withoutL r x = r := by
  unfold withoutL
  rw [List.filter_eq_self]
  exact fun e he => decide_eq_true (h e he)
theorem without_key {r : List Ent} {x y : Ent} (h : eKey x = eKey y) : withoutL r x = withoutL r y := by
  unfold withoutL
  rw [h]
theorem with_len_new {r : List Ent} {x : Ent} (h : ∀ e ∈ r, eKey e ≠ eKey x) : (withL r x).length = r.length + 1 := by
  unfold withL
  rw [ins_len, without_none h]
theorem without_len_old {r : List Ent} (h : Srt r) {x : Ent} (hx : x ∈ r) : (withoutL r x).length + 1 = r.length := by
  have h1 := congrArg List.length (with_without h hx)
  unfold withL at h1
  rw [ins_len, without_none (fun e he => (mem_without.1 he).2)] at h1
  exact h1
theorem with_len_old {r : List Ent} (h : Srt r) {x y : Ent} (hy : y ∈ r) (hk : eKey y = eKey x) : (withL r x).length = r.length := by
  have h1 := without_len_old h hy
  unfold withL
  rw [ins_len, ← without_key hk]
  exact h1

/-- the entries, one behind the other -/
theorem CT.perm {ps r : List Ent} (h : CT ps r) : (ps.filter fun e => decide (e ≠ zE)).Perm r := by
  refine (List.perm_ext_iff_of_nodup ?_ ?_).2 fun e => ?_
  · have : (ps.filter fun e => decide (e ≠ zE)).Pairwise (· ≠ ·) := by
      rw [List.pairwise_filter, List.pairwise_iff_getElem]
      intro i j hi hj hij h1 h2 e
      have h1 : ps[i] ≠ zE := by simpa using h1
      have h2 : ps[j] ≠ zE := by simpa using h2
      have := h.inj i j hi hj (by rw [pAt_eq hi]; exact h1) (by rw [pAt_eq hj]; exact h2) (by rw [pAt_eq hi, pAt_eq hj, e])
      omega
    exact this
  · exact List.Pairwise.imp (fun {a b} (hab : ltE a b) (e : a = b) => ltE_irr b (e ▸ hab)) h.srt.1
  · rw [h.mem, List.mem_filter, decide_eq_true_iff]
    constructor
    · rintro ⟨h1, h2⟩
      obtain ⟨i, hi, rfl⟩ := List.getElem_of_mem h1
      exact ⟨h2, i, hi, pAt_eq hi⟩
    · rintro ⟨h1, p, hp, rfl⟩
      rw [pAt_eq hp] at h1 ⊢
      exact ⟨List.getElem_mem hp, h1⟩
theorem CT.free {ps r : List Ent} (h : CT ps r) (hl : r.length < ps.length) : ∃ e, e < ps.length ∧ pAt ps e = zE := by
  refine Classical.byContradiction fun hn => ?_
  have hall : ∀ e ∈ ps, decide (e ≠ zE) = true := fun e he => by
    obtain ⟨i, hi, rfl⟩ := List.getElem_of_mem he
    refine decide_eq_true fun e => hn ⟨i, hi, ?_⟩
    rw [pAt_eq hi, e]
  have h1 := h.perm.length_eq
  rw [List.filter_eq_self.2 hall] at h1
  omega

/-- the first free place behind one -/
theorem first_free {ps : List Ent} {i e : Nat} (hi : i < n) (he : e < n) (hz : pAt ps e = zE) (hiz : pAt ps i ≠ zE) : ∃ M, 0 < M ∧ M < n ∧ pAt ps (wk n i M) = zE ∧ ∀ s, s < M → pAt ps (wk n i s) ≠ zE := by
  obtain ⟨s, hs, hse⟩ := wk_hits hi he
  have hex : ∃ M, pAt ps (wk n i M) = zE := ⟨s, by rw [hse]; exact hz⟩
  have key : ∀ k, (∃ M, M ≤ k ∧ pAt ps (wk n i M) = zE) → ∃ M, M ≤ k ∧ pAt ps (wk n i M) = zE ∧ ∀ s, s < M → pAt ps (wk n i s) ≠ zE := by
    intro k
    induction k with
    | zero =>
      rintro ⟨M, h1, h2⟩
      exact ⟨M, h1, h2, fun s hs => by omega⟩
    | succ k ih =>
      intro ⟨M, h1, h2⟩
      by_cases hq : ∃ M, M ≤ k ∧ pAt ps (wk n i M) = zE
      · obtain ⟨M', h3, h4⟩ := ih hq
        exact ⟨M', by omega, h4⟩
      · refine ⟨M, h1, h2, fun s hs e => hq ⟨s, by omega, e⟩⟩
  obtain ⟨M, h1, h2, h3⟩ := key s ⟨s, Nat.le_refl _, by rw [hse]; exact hz⟩
  refine ⟨M, Nat.pos_of_ne_zero fun e => ?_, by omega, h2, h3⟩
  subst e
  have : wk n i 0 = i := Nat.mod_eq_of_lt hi
  rw [this] at h2
  exact hiz h2
end

end Go.Gx
