/- Entries in order; what changes make of them: plain. -/
import Derived.Test.YtclkdldkebjgpaaGxEnt
import Derived.Test.YtclkdldkebjgpaaGxVlan
import Derived.Test.YtclkdldkebjgpaaGxSortK
namespace Go.Gx
open Go Go.Sort Go.Proofs

theorem Ent.g0 (e : Ent) : e.cells[0]? = some (i64 e.vlan) := id rfl
theorem Ent.g7 (e : Ent) : e.cells[7]? = some (i64 e.port) := id rfl
theorem Ent.g8 (e : Ent) : e.cells[8]? = some (i64 e.at_) := id rfl
theorem Ent.g9 (e : Ent) : e.cells[9]? = some (.bool e.static) := id rfl
theorem Ent.d1 (e : Ent) : (e.cells.drop 1).take 6 = e.mac.cells := id rfl
theorem Ent.dw (e : Ent) : (e.cells.drop 0).take 10 = e.cells := id rfl
theorem Ent.sw (e f : Ent) : splice e.cells 0 f.cells = f.cells := id rfl
attribute [push_cast] Ent.g0 Ent.g7 Ent.g8 Ent.g9 Ent.d1 Ent.dw Ent.sw Ent.cells_length Ent.cells_one

def eKey (e : Ent) : Int × Mac := (e.vlan, e.mac)
def cmpE (a b : Ent) : Int := if cmpI a.vlan b.vlan ≠ 0 then cmpI a.vlan b.vlan else cmpM a.mac b.mac
def ltE (a b : Ent) : Prop := a.vlan < b.vlan ∨ (a.vlan = b.vlan ∧ macN a.mac < macN b.mac)
instance (a b : Ent) : Decidable (ltE a b) := by unfold ltE; infer_instance

theorem cmpI_lt {a b : Int} : cmpI a b < 0 ↔ a < b := by
  unfold cmpI
  by_cases h1 : a < b
  · rw [if_pos h1]; simp [h1]
  · rw [if_neg h1]
    by_cases h2 : b < a
    · rw [if_pos h2]; constructor <;> intro h <;> omega
    · rw [if_neg h2]; constructor <;> intro h <;> omega
theorem cmpI_zero {a b : Int} : cmpI a b = 0 ↔ a = b := by
  unfold cmpI
  by_cases h1 : a < b
  · rw [if_pos h1]; constructor <;> intro h <;> omega
  · rw [if_neg h1]
    by_cases h2 : b < a
    · rw [if_pos h2]; constructor <;> intro h <;> omega
    · rw [if_neg h2]; constructor <;> intro h <;> omega
theorem cmpE_lt {a b : Ent} : cmpE a b < 0 ↔ ltE a b := by
  unfold cmpE ltE cmpM
  by_cases h : a.vlan = b.vlan
  · rw [if_neg (fun h2 => h2 (cmpI_zero.2 h)), cmpI_lt]
    constructor
    · intro h2; exact .inr ⟨h, h2⟩
    · rintro (h2 | h2)
      · omega
      · exact h2.2
  · rw [if_pos (fun h2 => h (cmpI_zero.1 h2)), cmpI_lt]
    constructor
    · intro h2; exact .inl h2
    · rintro (h2 | h2)
      · exact h2
      · exact absurd h2.1 h

theorem ltE_irr (a : Ent) : ¬ ltE a a := by unfold ltE; omega
theorem ltE_asym (a b : Ent) (h : ltE a b) : ¬ ltE b a := by unfold ltE at *; omega
theorem ltE_trans {a b c : Ent} (h : ltE a b) (h' : ltE b c) : ltE a c := by unfold ltE at *; omega
theorem ltE_total {a b : Ent} (ha : a.ok) (hb : b.ok) (h : eKey a ≠ eKey b) : ltE a b ∨ ltE b a := by
  unfold ltE
  by_cases h1 : a.vlan = b.vlan
  · have : macN a.mac ≠ macN b.mac := fun h2 => h (by unfold eKey; rw [h1, macN_inj ha.2.1 hb.2.1 h2])
    omega
  · omega
theorem ltE_key {a b : Ent} (h : ltE a b) : eKey a ≠ eKey b := by
  intro e
  unfold eKey at e
  simp only [Prod.mk.injEq] at e
  unfold ltE at h
  rw [e.1, e.2] at h
  omega

/-- entries, in order, each key once -/
def Srt (r : List Ent) : Prop := r.Pairwise ltE ∧ ∀ e ∈ r, e.ok

theorem Srt.nil : Srt [] := ⟨List.Pairwise.nil, by simp⟩
theorem Srt.key {r : List Ent} (h : Srt r) {e f : Ent} (he : e ∈ r) (hf : f ∈ r) (hk : eKey e = eKey f) : e = f := by
  obtain ⟨i, hi, rfl⟩ := List.getElem_of_mem he
  obtain ⟨j, hj, rfl⟩ := List.getElem_of_mem hf
  have hp := List.pairwise_iff_getElem.1 h.1
  rcases Nat.lt_trichotomy i j with hij | rfl | hij
  · exact absurd hk (ltE_key (hp i j hi hj hij))
  · rfl
  · exact absurd hk.symm (ltE_key (hp j i hj hi hij))
theorem Srt.eq {r s : List Ent} (h : Srt r) (h' : Srt s) (he : ∀ e, e ∈ r ↔ e ∈ s) : r = s := eq_of_rising ltE_irr ltE_asym h.1 h'.1 he

def withoutL (l : List Ent) (x : Ent) : List Ent := l.filter fun e => decide (eKey e ≠ eKey x)
def insL (l : List Ent) (x : Ent) : List Ent := l.takeWhile (fun e => decide (ltE e x)) ++ x :: l.dropWhile (fun e => decide (ltE e x))
def withL (l : List Ent) (x : Ent) : List Ent := insL (withoutL l x) x

theorem mem_without {l : List Ent} {x e : Ent} : e ∈ withoutL l x ↔ e ∈ l ∧ eKey e ≠ eKey x := by
  unfold withoutL
  rw [List.mem_filter, decide_eq_true_iff]
theorem mem_ins {l : List Ent} {x e : Ent} : e ∈ insL l x ↔ e = x ∨ e ∈ l := by
  unfold insL
  conv => rhs; rw [← List.takeWhile_append_dropWhile (p := fun e => decide (ltE e x)) (l := l)]
  simp only [List.mem_append, List.mem_cons]
  constructor
  · rintro (h | h | h)
    · exact .inr (.inl h)
    · exact .inl h
    · exact .inr (.inr h)
  · rintro (h | h | h)
    · exact .inr (.inl h)
    · exact .inl h
    · exact .inr (.inr h)
theorem mem_with {l : List Ent} {x e : Ent} : e ∈ withL l x ↔ e = x ∨ (e ∈ l ∧ eKey e ≠ eKey x) := by
  unfold withL
  rw [mem_ins, mem_without]

theorem Srt.without {r : List Ent} (h : Srt r) (x : Ent) : Srt (withoutL r x) := ⟨h.1.filter _, fun e he => h.2 e (mem_without.1 he).1⟩
theorem Srt.with {r : List Ent} (h : Srt r) {x : Ent} (hx : x.ok) : Srt (withL r x) := by
  have hw := h.without x
  have hk : ∀ e ∈ withoutL r x, eKey e ≠ eKey x := fun e he => (mem_without.1 he).2
  refine ⟨?_, fun e he => ?_⟩
  · unfold withL
    generalize withoutL r x = l at *
    clear h
    unfold insL
    have hcut : ∀ e ∈ l.dropWhile (fun e => decide (ltE e x)), ltE x e := by
      have hs : (l.dropWhile (fun e => decide (ltE e x))).Pairwise ltE := hw.1.sublist (List.dropWhile_sublist _)
      cases hd : l.dropWhile (fun e => decide (ltE e x)) with
      | nil => simp
      | cons f k =>
        rw [hd] at hs
        have hf : ¬ ltE f x := by
          have := List.head_dropWhile_not (fun e => decide (ltE e x)) (l := l) (by rw [hd]; simp)
          simp only [hd, List.head_cons] at this
          simpa using this
        have hfl : f ∈ l := (List.dropWhile_sublist _).subset (by rw [hd]; exact List.mem_cons_self ..)
        have hxf : ltE x f := (ltE_total (hw.2 f hfl) hx (hk f hfl)).resolve_left hf
        intro e he
        rcases List.mem_cons.1 he with rfl | he
        · exact hxf
        · exact ltE_trans hxf ((List.pairwise_cons.1 hs).1 e he)
    have htk : ∀ e ∈ l.takeWhile (fun e => decide (ltE e x)), ltE e x := fun e he => by
      have := List.all_eq_true.1 (List.all_takeWhile (p := fun e => decide (ltE e x)) (l := l)) e he
      simpa using this
    rw [List.pairwise_append]
    refine ⟨hw.1.sublist (List.takeWhile_sublist _), List.pairwise_cons.2 ⟨hcut, hw.1.sublist (List.dropWhile_sublist _)⟩, fun a ha b hb => ?_⟩
    rcases List.mem_cons.1 hb with rfl | hb
    · exact htk a ha
    · exact ltE_trans (htk a ha) (hcut b hb)
  · rcases mem_with.1 he with rfl | he
    · exact hx
    · exact h.2 e he.1

def chL (r : List Ent) (c : Ent × Bool) : List Ent := if c.2 then withoutL r c.1 else withL r c.1
def replayL (l : List Ent) (cs : List (Ent × Bool)) : List Ent := cs.foldl chL (l.foldl withL [])

theorem Srt.ch {r : List Ent} (h : Srt r) {c : Ent × Bool} (hc : c.1.ok) : Srt (chL r c) := by
  unfold chL
  split
  · exact h.without _
  · exact h.with hc
theorem Srt.chs {r : List Ent} (h : Srt r) : ∀ {cs : List (Ent × Bool)}, (∀ c ∈ cs, c.1.ok) → Srt (cs.foldl chL r)
  | [], _ => h
  | c :: cs, hc => by
    rw [List.foldl_cons]
    exact Srt.chs (h.ch (hc c (List.mem_cons_self ..))) fun d hd => hc d (List.mem_cons_of_mem _ hd)
theorem Srt.ents {r : List Ent} (h : Srt r) : ∀ {l : List Ent}, (∀ e ∈ l, e.ok) → Srt (l.foldl withL r)
  | [], _ => h
  | c :: cs, hc => by
    rw [List.foldl_cons]
    exact Srt.ents (h.with (hc c (List.mem_cons_self ..))) fun d hd => hc d (List.mem_cons_of_mem _ hd)
theorem Srt.replay {l : List Ent} {cs : List (Ent × Bool)} (hl : ∀ e ∈ l, e.ok) (hc : ∀ c ∈ cs, c.1.ok) : Srt (replayL l cs) := (Srt.nil.ents hl).chs hc

theorem without_len (l : List Ent) (x : Ent) : (withoutL l x).length ≤ l.length := List.length_filter_le _ _
theorem ins_len (l : List Ent) (x : Ent) : (insL l x).length = l.length + 1 := by
  have h := congrArg List.length (List.takeWhile_append_dropWhile (p := fun e => decide (ltE e x)) (l := l))
  unfold insL
  rw [List.length_append] at h ⊢
  rw [List.length_cons]
  omega
theorem with_len (l : List Ent) (x : Ent) : (withL l x).length ≤ l.length + 1 := by
  unfold withL
  rw [ins_len]
  have := without_len l x
  omega
theorem ents_len : ∀ (l r : List Ent), (l.foldl withL r).length ≤ r.length + l.length
  | [], r => by simp
  | e :: l, r => by
    rw [List.foldl_cons, List.length_cons]
    have := ents_len l (withL r e)
    have := with_len r e
    omega
theorem chs_len : ∀ (cs : List (Ent × Bool)) (r : List Ent), (cs.foldl chL r).length ≤ r.length + cs.length
  | [], r => by simp
  | c :: cs, r => by
    rw [List.foldl_cons, List.length_cons]
    have := chs_len cs (chL r c)
    have h1 := with_len r c.1
    have h2 := without_len r c.1
    have : (chL r c).length ≤ r.length + 1 := by unfold chL; split <;> omega
    omega
theorem replay_len (l : List Ent) (cs : List (Ent × Bool)) : (replayL l cs).length ≤ l.length + cs.length := by
  have h1 := chs_len cs (l.foldl withL [])
  have h2 := ents_len l []
  unfold replayL
  simp at h2
  omega

/-- entries in order are put in as they are -/
theorem ents_self {r : List Ent} (h : Srt r) : r.foldl withL [] = r := by
  have key : ∀ (l : List Ent) (s : List Ent), Srt (s ++ l) → l.foldl withL s = s ++ l := by
    intro l
    induction l with
    | nil => intro s _; simp
    | cons e l ih =>
      intro s hs
      rw [List.foldl_cons]
      have hse : Srt s := ⟨hs.1.sublist (List.sublist_append_left _ _), fun x hx => hs.2 x (List.mem_append_left _ hx)⟩
      have hek : e.ok := hs.2 e (by simp)
      have hsub : Srt (s ++ [e]) := ⟨hs.1.sublist (List.Sublist.append_left (by simp) _), fun x hx => hs.2 x (by simp at hx ⊢; rcases hx with h | h; exact .inl h; exact .inr (.inl h))⟩
      have hw : withL s e = s ++ [e] := by
        refine (hse.with hek).eq hsub fun x => ?_
        rw [mem_with, List.mem_append, List.mem_singleton]
        have hlt : ∀ y ∈ s, ltE y e := fun y hy => (List.pairwise_append.1 hsub.1).2.2 y hy e (by simp)
        constructor
        · rintro (h | h)
          · exact .inr h
          · exact .inl h.1
        · rintro (h | h)
          · exact .inr ⟨h, ltE_key (hlt x h)⟩
          · exact .inl h
      rw [hw, ih (s ++ [e]) (by simpa using hs)]
      simp
  simpa using key r [] (by simpa using h)

theorem replay_self {r : List Ent} (h : Srt r) (cs : List (Ent × Bool)) : replayL r cs = cs.foldl chL r := by
  unfold replayL
  rw [ents_self h]

/-! ### A map of entries -/

structure RM (m : List ((Int × Mac) × Ent)) (r : List Ent) : Prop where
  srt : Srt r
  mem : ∀ e, e ∈ r ↔ (eKey e, e) ∈ m
  key : ∀ p ∈ m, p.1 = eKey p.2
  nd : (m.map Prod.fst).Nodup

theorem RM.nil : RM [] [] := ⟨Srt.nil, by simp, by simp, by simp⟩
theorem setL_mem_iff {κ ν : Type} [DecidableEq κ] {l : List (κ × ν)} (hn : (l.map Prod.fst).Nodup) {k : κ} {v : ν} {x : κ × ν} : x ∈ setL l k v ↔ x = (k, v) ∨ (x ∈ l ∧ x.1 ≠ k) := by
  have hns := VT.setL_nodup (k := k) (v := v) hn
  have key : ∀ (q : List (κ × ν)), (q.map Prod.fst).Nodup → ∀ y, y ∈ q ↔ getL q y.1 = some y.2 := fun q hq y => ⟨fun h => lookup_of_mem hq h, fun h => lookup_some_mem h⟩
  rw [key _ hns, lookup_setL]
  by_cases e : x.1 = k
  · rw [if_pos e]
    constructor
    · intro h
      left
      simp only [Option.some.injEq] at h
      exact Prod.ext e h.symm
    · rintro (h | h)
      · rw [h]
      · exact absurd e h.2
  · rw [if_neg e]
    constructor
    · intro h; exact .inr ⟨lookup_some_mem h, e⟩
    · rintro (h | h)
      · rw [h] at e; exact absurd rfl e
      · exact lookup_of_mem hn h.1
theorem delL_mem_iff {κ ν : Type} [DecidableEq κ] {l : List (κ × ν)} {k : κ} {x : κ × ν} : x ∈ delL l k ↔ x ∈ l ∧ x.1 ≠ k := by
  unfold delL
  rw [List.mem_filter, decide_eq_true_iff]

theorem RM.set {m : List ((Int × Mac) × Ent)} {r : List Ent} (h : RM m r) {e : Ent} (he : e.ok) : RM (setL m (eKey e) e) (withL r e) := by
  refine ⟨h.srt.with he, fun f => ?_, fun p hp => ?_, VT.setL_nodup h.nd⟩
  · rw [mem_with, setL_mem_iff h.nd, h.mem]
    constructor
    · rintro (rfl | ⟨h1, h2⟩)
      · exact .inl rfl
      · exact .inr ⟨h1, h2⟩
    · rintro (h1 | ⟨h1, h2⟩)
      · exact .inl (Prod.ext_iff.1 h1).2
      · exact .inr ⟨h1, h2⟩
  · rcases (setL_mem_iff h.nd).1 hp with rfl | ⟨h1, _⟩
    · rfl
    · exact h.key p h1
theorem RM.del {m : List ((Int × Mac) × Ent)} {r : List Ent} (h : RM m r) (e : Ent) : RM (delL m (eKey e)) (withoutL r e) := by
  refine ⟨h.srt.without e, fun f => ?_, fun p hp => h.key p (delL_mem_iff.1 hp).1, h.nd.sublist ((VT.delL_sub _ _).map _)⟩
  rw [mem_without, delL_mem_iff, h.mem]

/-- what comes out of the map, sorted -/
theorem RM.out {m d : List ((Int × Mac) × Ent)} {r ys : List Ent} (h : RM m r) (hd : d.Perm m) (hy : ys.Perm (d.map Prod.snd)) (hs : ys.Pairwise fun x y => ¬ cmpE y x < 0) : ys = r := by
  have hm : ∀ e, e ∈ ys ↔ e ∈ r := fun e => by
    rw [hy.mem_iff, (hd.map _).mem_iff, h.mem, List.mem_map]
    constructor
    · rintro ⟨p, hp, rfl⟩
      have := h.key p hp
      rw [← this]; exact hp
    · intro hp; exact ⟨_, hp, rfl⟩
  have hnd : ys.Nodup := by
    rw [hy.nodup_iff, (hd.map _).nodup_iff]
    have : (m.map Prod.snd).map eKey = m.map Prod.fst := by
      rw [List.map_map]
      exact List.map_congr_left fun p hp => (h.key p hp).symm
    have hn := h.nd
    rw [← this] at hn
    exact List.Pairwise.of_map eKey (fun a b h e => h (congrArg eKey e)) hn
  refine Srt.eq ⟨?_, fun e he => h.srt.2 e ((hm e).1 he)⟩ h.srt hm
  rw [List.pairwise_iff_getElem] at hs ⊢
  intro i j hi hj hij
  have h1 := hs i j hi hj hij
  rw [cmpE_lt] at h1
  have hne : ys[i] ≠ ys[j] := List.pairwise_iff_getElem.1 hnd i j hi hj hij
  have hmi := (hm _).1 (List.getElem_mem hi)
  have hmj := (hm _).1 (List.getElem_mem hj)
  have hk : eKey ys[i] ≠ eKey ys[j] := fun e => hne (h.srt.key hmi hmj e)
  exact (ltE_total (h.srt.2 _ hmi) (h.srt.2 _ hmj) hk).resolve_right h1

theorem swoE {p : Ent → Prop} : SWO (ltOf fun x y : { e : Ent // p e } => cmpE x.1 y.1) where
  irrefl x := by
    unfold ltOf
    rw [decide_eq_false_iff_not, cmpE_lt]
    exact ltE_irr _
  trans x y z h1 h2 := by
    unfold ltOf at *
    rw [decide_eq_true_iff, cmpE_lt] at *
    exact ltE_trans h1 h2
  ntrans x y z h1 h2 := by
    unfold ltOf at *
    rw [decide_eq_false_iff_not, cmpE_lt] at *
    unfold ltE at *
    omega

end Go.Gx
