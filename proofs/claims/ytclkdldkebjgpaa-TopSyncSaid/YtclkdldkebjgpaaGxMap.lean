/- Maps: what they hold; looking up, putting, deleting, going through. -/
import Derived.Test.YtclkdldkebjgpaaGxTypes
import Derived.Maps.RangeRun
import Derived.Maps.Keyed
import Derived.DeepKeys4
namespace Go.Gx
open Go Go.Maps
variable {P : Program} {K : Value → World → Prop} {w : World}

/-- keys of a type, as values of a Lean type -/
class KeyC (P : Program) (T : TypeId) (κ : outParam Type) (kc : outParam (κ → Value)) (ok : outParam (κ → Prop)) : Prop where
  law : Keyed P T
  of : ∀ k, ok k → ∃ l, keyOf P T (kc k) = some l
  inj : ∀ a b, kc a = kc b → a = b

section
variable {κ ν : Type} {kc : κ → Value} {vc : ν → Value} {kok : κ → Prop}

structure MHolds (kc : κ → Value) (vc : ν → Value) (kok : κ → Prop) (es : List MapEntry) (clock : Nat) (l : List (κ × ν)) : Prop where
  same : es.map (fun e => (e.key, e.val)) = l.map fun p => (kc p.1, vc p.2)
  nd : (l.map Prod.fst).Nodup
  ok : ∀ p ∈ l, kok p.1
  born : (es.map (·.born)).Nodup
  lt : ∀ e ∈ es, e.born < clock

/-- a map, in the order in which its keys came -/
def MapR (kc : κ → Value) (vc : ν → Value) (kok : κ → Prop) (w : World) (m : Nat) (l : List (κ × ν)) : Prop :=
  ∃ es clock, w.heap[m]? = some (.map es clock) ∧ MHolds kc vc kok es.toList clock l

theorem MapR.fr {fp : Nat → Prop} {w w' : World} {m : Nat} {l : List (κ × ν)} (h : MapR kc vc kok w m l) (hf : Fr fp w w') (hn : ¬ fp m) : MapR kc vc kok w' m l := by
  obtain ⟨es, clock, hb, hh⟩ := h
  exact ⟨es, clock, hf.heap hb hn, hh⟩
theorem MapR.lt {m : Nat} {l : List (κ × ν)} (h : MapR kc vc kok w m l) : m < w.heap.size := by
  obtain ⟨es, clock, hb, hh⟩ := h
  exact lt_of_heap hb
theorem MapR.drew {m : Nat} {l : List (κ × ν)} (h : MapR kc vc kok w m l) : MapR kc vc kok w.drew m l := h

theorem MHolds.len {es : List MapEntry} {clock : Nat} {l : List (κ × ν)} (h : MHolds kc vc kok es clock l) : es.length = l.length := by
  have := congrArg List.length h.same
  simpa using this
theorem MHolds.at {es : List MapEntry} {clock : Nat} {l : List (κ × ν)} (h : MHolds kc vc kok es clock l) {j : Nat} {e : MapEntry} (he : es[j]? = some e) : ∃ p, l[j]? = some p ∧ e.key = kc p.1 ∧ e.val = vc p.2 := by
  have := congrArg (fun l => l[j]?) h.same
  simp only [List.getElem?_map, he, Option.map_some] at this
  cases hl : l[j]? with
  | none => rw [hl] at this; cases this
  | some p =>
    rw [hl, Option.map_some, Option.some.injEq, Prod.mk.injEq] at this
    exact ⟨p, rfl, this.1, this.2⟩
theorem MHolds.mem {es : List MapEntry} {clock : Nat} {l : List (κ × ν)} (h : MHolds kc vc kok es clock l) {e : MapEntry} (he : e ∈ es) : ∃ p ∈ l, e.key = kc p.1 ∧ e.val = vc p.2 := by
  obtain ⟨j, hj⟩ := List.mem_iff_getElem?.1 he
  obtain ⟨p, hp, h1, h2⟩ := h.at hj
  exact ⟨p, List.mem_of_getElem? hp, h1, h2⟩

variable [DecidableEq κ]

/-- what a key has -/
def getL {κ ν : Type} [DecidableEq κ] : List (κ × ν) → κ → Option ν
  | [], _ => none
  | q :: l, k => match @BEq.beq κ instBEqOfDecidableEq k q.1 with
    | true => some q.2
    | false => getL l k

theorem lookup_of_mem : ∀ {l : List (κ × ν)}, (l.map Prod.fst).Nodup → ∀ {p : κ × ν}, p ∈ l → getL l p.1 = some p.2
  | [], _, _, h => by cases h
  | q :: l, hn, p, h => by
    rw [List.map_cons, List.nodup_cons] at hn
    rcases List.mem_cons.1 h with rfl | h
    · simp [getL]
    · have hne : p.1 ≠ q.1 := fun e => hn.1 (e ▸ List.mem_map_of_mem h)
      have : (p.1 == q.1) = false := by simpa using hne
      rw [getL, this]
      exact lookup_of_mem hn.2 h
theorem lookup_none : ∀ {l : List (κ × ν)} {k : κ}, (∀ p ∈ l, p.1 ≠ k) → getL l k = none
  | [], _, _ => rfl
  | q :: l, k, h => by
    have hne : (k == q.1) = false := by simpa using (h q (List.mem_cons_self ..)).symm
    rw [getL, hne]
    exact lookup_none fun p hp => h p (List.mem_cons_of_mem _ hp)
theorem lookup_some_mem : ∀ {l : List (κ × ν)} {k : κ} {v : ν}, getL l k = some v → (k, v) ∈ l
  | [], _, _, h => by cases h
  | q :: l, k, v, h => by
    rw [getL] at h
    split at h
    · rename_i he
      rw [beq_iff_eq] at he
      cases h
      subst he
      exact List.mem_cons_self ..
    · exact List.mem_cons_of_mem _ (lookup_some_mem h)

/-- a value is put in -/
def setL (l : List (κ × ν)) (k : κ) (v : ν) : List (κ × ν) := if (getL l k).isSome then l.map fun p => if p.1 = k then (k, v) else p else l ++ [(k, v)]
def delL (l : List (κ × ν)) (k : κ) : List (κ × ν) := l.filter fun p => decide (p.1 ≠ k)

theorem lookup_setL (l : List (κ × ν)) (k : κ) (v : ν) (k' : κ) : getL (setL l k v) k' = if k' = k then some v else getL l k' := by
  unfold setL
  split
  · rename_i hs
    by_cases e : k' = k
    · subst e
      rw [if_pos rfl]
      obtain ⟨u, hu⟩ := Option.isSome_iff_exists.1 hs
      clear hs
      induction l with
      | nil => cases hu
      | cons q l ih =>
        rw [getL] at hu
        rw [List.map_cons]
        by_cases hq : q.1 = k'
        · rw [if_pos hq]; simp [getL]
        · have : (k' == q.1) = false := by simpa using fun h => hq h.symm
          rw [this] at hu
          rw [if_neg hq, getL, this]
          exact ih hu
    · rw [if_neg e]
      clear hs
      induction l with
      | nil => rfl
      | cons q l ih =>
        rw [List.map_cons]
        by_cases hq : q.1 = k
        · have h1 : (k' == k) = false := by simpa using e
          have h2 : (k' == q.1) = false := by rw [hq]; exact h1
          rw [if_pos hq, getL, h1, getL, h2]
          exact ih
        · rw [if_neg hq, getL, getL]
          cases (k' == q.1)
          · exact ih
          · rfl
  · rename_i hs
    have hn : getL l k = none := by
      cases hl : getL l k with
      | none => rfl
      | some v => rw [hl] at hs; exact absurd rfl hs
    clear hs
    induction l with
    | nil =>
      by_cases e : k' = k
      · subst e; simp [getL]
      · have : (k' == k) = false := by simpa using e
        simp [getL, this, e]
    | cons q l ih =>
      rw [getL] at hn
      rw [List.cons_append, getL, getL]
      cases hq : (k == q.1) with
      | true => rw [hq] at hn; cases hn
      | false =>
        rw [hq] at hn
        cases h1 : (k' == q.1) with
        | true =>
          have : k' ≠ k := fun e => by
            subst e; rw [hq] at h1; cases h1
          rw [if_neg this]
        | false => exact ih hn

theorem lookup_delL (l : List (κ × ν)) (k k' : κ) : getL (delL l k) k' = if k' = k then none else getL l k' := by
  unfold delL
  induction l with
  | nil => simp [getL]
  | cons q l ih =>
    rw [List.filter_cons]
    by_cases hq : q.1 = k
    · rw [if_neg (by simp [hq]), ih]
      by_cases e : k' = k
      · rw [if_pos e, if_pos e]
      · have : (k' == q.1) = false := by rw [hq]; simpa using e
        rw [if_neg e, if_neg e, getL, this]
    · rw [if_pos (by simpa using hq), getL, getL]
      cases h1 : (k' == q.1) with
      | true =>
        have : k' ≠ k := fun e => hq (by rw [← e]; exact (beq_iff_eq.1 h1).symm)
        rw [if_neg this]
      | false => exact ih

theorem setL_keys (l : List (κ × ν)) (k : κ) (v : ν) : (setL l k v).map Prod.fst = if (getL l k).isSome then l.map Prod.fst else l.map Prod.fst ++ [k] := by
  unfold setL
  split
  · rw [List.map_map]
    apply List.map_congr_left
    intro p _
    simp only [Function.comp]
    split
    · rename_i h; exact h.symm
    · rfl
  · simp

theorem not_key {l : List (κ × ν)} {k : κ} (h : getL l k = none) : ∀ p ∈ l, p.1 ≠ k := by
  intro p hp e
  subst e
  induction l with
  | nil => cases hp
  | cons q l ih =>
    rw [getL] at h
    split at h
    · cases h
    · rename_i hq
      rcases List.mem_cons.1 hp with rfl | hp
      · simp at hq
      · exact ih hp h

/-! ### What is found -/

theorem run_getObj {b : Nat} {o : Obj} (h : w.heap[b]? = some o) (ho : ∀ c T fz, o ≠ .cells c T fz) : (getObj b).run P w = .ok o w := by
  cases o with
  | cells c T fz => exact absurd rfl (ho c T fz)
  | _ => simp [getObj, Sem.run, h]
theorem run_getMap {b : Nat} {es : Array MapEntry} {c : Nat} (h : w.heap[b]? = some (.map es c)) : (getObj b).run P w = .ok (.map es c) w := run_getObj h (by intro c T fz e; cases e)

theorem run_find {KT : TypeId} [hK : KeyC P KT κ kc kok] {es : List MapEntry} {clock : Nat} {l : List (κ × ν)} (h : MHolds kc vc kok es clock l) {k : κ} (hk : kok k) :
    (getL l k = none ∧ (Instr.findKey KT (kc k) es).run P w = .ok none w ∧ ∀ p ∈ l, p.1 ≠ k) ∨
    ∃ j p, l[j]? = some p ∧ p.1 = k ∧ getL l k = some p.2 ∧ (Instr.findKey KT (kc k) es).run P w = .ok (some (j, vc p.2)) w := by
  obtain ⟨lx, hlx⟩ := hK.of k hk
  rcases hK.law.find w hlx es (fun e he => by
    obtain ⟨p, hp, h1, h2⟩ := h.mem he
    rw [h1]; exact hK.of _ (h.ok p hp)) with ⟨h1, h2⟩ | ⟨j, e, h1, h2, h3⟩
  · have hne : ∀ p ∈ l, p.1 ≠ k := by
      intro p hp e
      obtain ⟨j, hj⟩ := List.mem_iff_getElem?.1 hp
      have hlt : j < es.length := by rw [h.len]; exact (List.getElem?_eq_some_iff.1 hj).1
      obtain ⟨p', hp', h3, h4⟩ := h.at (List.getElem?_eq_getElem hlt)
      rw [hj] at hp'
      cases hp'
      exact h2 _ (List.getElem_mem hlt) (by rw [h3, e])
    exact .inl ⟨lookup_none hne, h1, hne⟩
  · obtain ⟨p, hp, h4, h5⟩ := h.at h2
    have hpk : p.1 = k := hK.inj _ _ (by rw [← h4, h3])
    refine .inr ⟨j, p, hp, hpk, ?_, by rw [h1, h5]⟩
    rw [← hpk]
    exact lookup_of_mem h.nd (List.mem_of_getElem? hp)

/-- what is told of a key -/
def got (vc : ν → Value) (z : Value) : Option ν → Value
  | some v => vc v
  | none => z

omit [DecidableEq κ] in
theorem run_check {KT : TypeId} [hK : KeyC P KT κ kc kok] {k : κ} (hk : kok k) (em : Bool) : (Instr.checkKey em 10000 KT (kc k)).run P w = .ok () w := by
  obtain ⟨lx, hlx⟩ := hK.of k hk
  exact hK.law.check w em hlx

theorem s_lk {T KT VT : TypeId} {z : Value} [hT : MpT P T KT VT] [hK : KeyC P KT κ kc kok] [hz : ZV P VT z] {m : Nat} {l : List (κ × ν)} {k : κ} {ok : Bool} (h : MapR kc vc kok w m l) (hk : kok k)
    (hh : K (if ok then .tuple #[got vc z (getL l k), .bool (getL l k).isSome] else got vc z (getL l k)) w) : opS P (S.lk T (.map (some m)) (kc k) ok) K w := by
  obtain ⟨es, clock, hb, hh'⟩ := h
  unfold S.lk
  rw [opS_bind]
  unfold Instr.lookup
  rw [Sem.run_bind, run_underlying_of hT.und, Result.andThen_ok]
  simp only []
  rw [Sem.run_bind, run_getMap hb, Result.andThen_ok]
  simp only [pure_bind]
  rw [Sem.run_bind, run_check hk, Result.andThen_ok]
  rcases run_find (P := P) (w := w) (KT := KT) hh' hk with ⟨h1, h2, _⟩ | ⟨j, p, h1, h2, h3, h4⟩
  · rw [h1] at hh
    simp only [Sem.run_bind, h2, hz.zero w, Result.andThen_ok, Sem.run_pure]
    cases ok <;> exact hh
  · rw [h3] at hh
    simp only [Sem.run_bind, h4, Result.andThen_ok, Sem.run_pure]
    cases ok <;> exact hh

/-! ### What is put in -/

theorem modify_map (es : Array MapEntry) (j : Nat) (f : MapEntry → MapEntry) : (es.modify j f).toList = es.toList.mapIdx fun i e => if i = j then f e else e := by
  apply List.ext_getElem?
  intro i
  rw [List.getElem?_mapIdx, Array.getElem?_toList, Array.getElem?_toList, Array.getElem?_modify]
  by_cases h : j = i
  · subst h; simp
  · have : ¬ i = j := fun e => h e.symm
    simp [h, this]

theorem MHolds.put {es : Array MapEntry} {clock : Nat} {l : List (κ × ν)} (h : MHolds kc vc kok es.toList clock l) {k : κ} {v : ν} {j : Nat} {p : κ × ν} (hj : l[j]? = some p) (hp : p.1 = k) :
    MHolds kc vc kok (es.modify j fun e => { e with key := kc k, val := vc v }).toList clock (setL l k v) := by
  have hl : getL l k = some p.2 := by rw [← hp]; exact lookup_of_mem h.nd (List.mem_of_getElem? hj)
  have hjl := (List.getElem?_eq_some_iff.1 hj).1
  have hset : setL l k v = l.mapIdx fun i q => if i = j then (k, v) else q := by
    unfold setL
    rw [if_pos (by rw [hl]; rfl)]
    apply List.ext_getElem?
    intro i
    rw [List.getElem?_map, List.getElem?_mapIdx]
    cases hq : l[i]? with
    | none => rfl
    | some q =>
      simp only [Option.map_some, Option.some.injEq]
      by_cases e : i = j
      · subst e
        rw [hj] at hq; cases hq
        rw [if_pos hp, if_pos rfl]
      · rw [if_neg e, if_neg]
        intro hqk
        have hi := (List.getElem?_eq_some_iff.1 hq).1
        have h1 : (l.map Prod.fst)[i]'(by simpa using hi) = (l.map Prod.fst)[j]'(by simpa using hjl) := by
          have a1 := (List.getElem?_eq_some_iff.1 hq).2
          have a2 := (List.getElem?_eq_some_iff.1 hj).2
          simp only [List.getElem_map]
          rw [a1, a2, hqk, hp]
        exact e ((List.getElem_inj h.nd).1 h1)
  refine ⟨?_, ?_, ?_, ?_, ?_⟩
  · rw [modify_map, hset]
    apply List.ext_getElem?
    intro i
    have := congrArg (fun l => l[i]?) h.same
    simp only [List.getElem?_map, List.getElem?_mapIdx] at this ⊢
    cases h1 : es.toList[i]? <;> cases h2 : l[i]? <;> rw [h1, h2] at this
    · rfl
    · cases this
    · cases this
    · simp only [Option.map_some, Option.some.injEq] at this ⊢
      split
      · rfl
      · exact this
  · rw [setL_keys, if_pos (by rw [hl]; rfl)]; exact h.nd
  · intro q hq
    rw [hset, List.mem_mapIdx] at hq
    obtain ⟨i, hi, rfl⟩ := hq
    split
    · rw [← hp]; exact h.ok p (List.mem_of_getElem? hj)
    · exact h.ok _ (List.getElem_mem hi)
  · rw [modify_map]
    have : (es.toList.mapIdx fun i e => if i = j then ({ e with key := kc k, val := vc v } : MapEntry) else e).map (·.born) = es.toList.map (·.born) := by
      apply List.ext_getElem?
      intro i
      simp only [List.getElem?_map, List.getElem?_mapIdx]
      cases es.toList[i]? with
      | none => rfl
      | some e => simp only [Option.map_some, Option.some.injEq]; split <;> rfl
    rw [this]; exact h.born
  · intro e he
    rw [modify_map, List.mem_mapIdx] at he
    obtain ⟨i, hi, rfl⟩ := he
    have := h.lt _ (List.getElem_mem hi)
    split <;> exact this

theorem MHolds.add {es : Array MapEntry} {clock : Nat} {l : List (κ × ν)} (h : MHolds kc vc kok es.toList clock l) {k : κ} {v : ν} (hk : kok k) (hn : ∀ p ∈ l, p.1 ≠ k) (hl : getL l k = none) :
    MHolds kc vc kok (es.push { key := kc k, val := vc v, born := clock }).toList (clock + 1) (setL l k v) := by
  have hset : setL l k v = l ++ [(k, v)] := by unfold setL; rw [if_neg (by rw [hl]; simp)]
  rw [hset, Array.toList_push]
  refine ⟨by simp [h.same], ?_, ?_, ?_, ?_⟩
  · rw [List.map_append, List.nodup_append]
    refine ⟨h.nd, by simp, ?_⟩
    intro a ha b hb
    simp at hb
    subst hb
    obtain ⟨p, hp, rfl⟩ := List.mem_map.1 ha
    exact hn p hp
  · intro p hp
    rcases List.mem_append.1 hp with hp | hp
    · exact h.ok p hp
    · simp at hp; subst hp; exact hk
  · rw [List.map_append, List.nodup_append]
    refine ⟨h.born, by simp, ?_⟩
    intro a ha b hb
    simp at hb
    subst hb
    obtain ⟨e, he, rfl⟩ := List.mem_map.1 ha
    have := h.lt e he
    omega
  · intro e he
    rcases List.mem_append.1 he with he | he
    · have := h.lt e he; omega
    · simp at he; subst he; simp

theorem s_mu {T KT VT : TypeId} [hT : MpT P T KT VT] [hK : KeyC P KT κ kc kok] {m : Nat} {l : List (κ × ν)} {k : κ} {v : ν} (h : MapR kc vc kok w m l) (hk : kok k)
    (hh : ∀ w', MapR kc vc kok w' m (setL l k v) → Fr (fun b => b = m) w w' → K undef w') : opS P (S.mu T (.map (some m)) (kc k) (vc v)) K w := by
  obtain ⟨es, clock, hb, hh'⟩ := h
  have key : ∃ es' clock', (Instr.mapUpdate T (.map (some m)) (kc k) (vc v)).run P w = .ok () (upd w m (.map es' clock')) ∧ MHolds kc vc kok es'.toList clock' (setL l k v) := by
    unfold Instr.mapUpdate
    rw [Sem.run_bind, run_underlying_of hT.und, Result.andThen_ok]
    simp only []
    rw [Sem.run_bind, run_getMap hb, Result.andThen_ok]
    simp only []
    rw [Sem.run_bind, run_check hk, Result.andThen_ok]
    rcases run_find (P := P) (w := w) (KT := KT) hh' hk with ⟨h1, h2, h3⟩ | ⟨j, p, h1, h2, h3, h4⟩
    · rw [Sem.run_bind, h2, Result.andThen_ok]
      simp only []
      exact ⟨_, _, run_setObj hb (by intro c T fz e; cases e), hh'.add hk h3 h1⟩
    · rw [Sem.run_bind, h4, Result.andThen_ok]
      simp only []
      have hje : ∃ e, es[j]? = some e ∧ e.key = kc k := by
        have hlt : j < es.size := by
          have := (List.getElem?_eq_some_iff.1 h1).1
          rw [← hh'.len, Array.length_toList] at this; exact this
        refine ⟨es[j], Array.getElem?_eq_getElem hlt, ?_⟩
        obtain ⟨q, hq, hk1, _⟩ := hh'.at (j := j) (e := es[j]) (by rw [Array.getElem?_toList]; exact Array.getElem?_eq_getElem hlt)
        rw [h1] at hq; cases hq
        rw [hk1, h2]
      obtain ⟨e, he, hke⟩ := hje
      obtain ⟨lx, hlx⟩ := hK.of k hk
      have hst := hK.law.stays w hlx
      rw [he]
      simp only [Option.map_some, Option.getD_some, hke]
      rw [Sem.run_bind, hst, Result.andThen_ok]
      exact ⟨_, _, run_setObj hb (by intro c T fz e; cases e), hh'.put h1 h2⟩
  obtain ⟨es', clock', hr, hM⟩ := key
  unfold S.mu opS
  rw [Sem.run_bind, hr, Result.andThen_ok]
  exact hh _ ⟨es', clock', heap_upd_same (by rw [hb]; rfl), hM⟩ (Fr.upd' hb rfl _ rfl rfl)

/-! ### What is taken out -/

omit [DecidableEq κ] in
theorem map_eraseIdx' {α β : Type} (f : α → β) : ∀ (l : List α) (i : Nat), (l.eraseIdx i).map f = (l.map f).eraseIdx i
  | [], _ => rfl
  | _ :: _, 0 => rfl
  | a :: l, i + 1 => by simp [map_eraseIdx' f l i]

theorem MHolds.del {es : Array MapEntry} {clock : Nat} {l : List (κ × ν)} (h : MHolds kc vc kok es.toList clock l) {k : κ} {j : Nat} {p : κ × ν} (hj : l[j]? = some p) (hp : p.1 = k) :
    MHolds kc vc kok (es.eraseIdxIfInBounds j).toList clock (delL l k) := by
  have hjl := (List.getElem?_eq_some_iff.1 hj).1
  have hje : j < es.size := by rw [← Array.length_toList, h.len]; exact hjl
  have hd : delL l k = l.eraseIdx j := by
    unfold delL
    have hnd := h.nd
    clear h hje hjl
    induction l generalizing j with
    | nil => cases hj
    | cons q l ih =>
      rw [List.map_cons, List.nodup_cons] at hnd
      cases j with
      | zero =>
        cases hj
        rw [List.filter_cons, if_neg (by simp [hp]), List.eraseIdx_cons_zero]
        apply List.filter_eq_self.2
        intro a ha
        simp only [decide_eq_true_eq]
        intro e
        exact hnd.1 (by rw [hp, ← e]; exact List.mem_map_of_mem ha)
      | succ j =>
        rw [List.getElem?_cons_succ] at hj
        have hne : q.1 ≠ k := fun e => hnd.1 (by rw [e, ← hp]; exact List.mem_map_of_mem (List.mem_of_getElem? hj))
        rw [List.filter_cons, if_pos (by simpa using hne), List.eraseIdx_cons_succ, ih hj hnd.2]
  have he : (es.eraseIdxIfInBounds j).toList = es.toList.eraseIdx j := by
    unfold Array.eraseIdxIfInBounds
    rw [dif_pos hje, Array.toList_eraseIdx]
  rw [hd, he]
  have sub := List.eraseIdx_sublist l j
  have sub2 := List.eraseIdx_sublist es.toList j
  refine ⟨?_, ?_, fun q hq => h.ok q (sub.subset hq), ?_, fun e hm => h.lt e (sub2.subset hm)⟩
  · rw [map_eraseIdx', map_eraseIdx', h.same]
  · exact h.nd.sublist (sub.map _)
  · exact h.born.sublist (sub2.map _)

theorem delL_none {l : List (κ × ν)} {k : κ} (h : ∀ p ∈ l, p.1 ≠ k) : delL l k = l :=
  List.filter_eq_self.2 fun p hp => by simpa using h p hp

theorem s_del {T KT VT KT' ty : TypeId} [hT : MpT P T KT VT] [hK : KeyC P KT κ kc kok] {m : Nat} {l : List (κ × ν)} {k : κ} (h : MapR kc vc kok w m l) (hk : kok k)
    (hh : ∀ w', MapR kc vc kok w' m (delL l k) → Fr (fun b => b = m) w w' → K (.tuple #[]) w') : opS P (S.bi .delete #[T, KT'] ty [.map (some m), kc k]) K w := by
  obtain ⟨es, clock, hb, hh'⟩ := h
  have key : ∃ es' clock', (Builtin.delete_ #[T, KT'] ty #[.map (some m), kc k]).run P w = .ok (.tuple #[]) (upd w m (.map es' clock')) ∧ MHolds kc vc kok es'.toList clock' (delL l k) := by
    unfold Builtin.delete_
    simp only [List.getElem?_toArray, List.getElem?_cons_zero, List.getElem?_cons_succ]
    rw [Sem.run_bind, run_underlying_of hT.und, Result.andThen_ok]
    simp only []
    rw [Sem.run_bind, run_getMap hb, Result.andThen_ok]
    simp only []
    rw [Sem.run_bind, run_check hk, Result.andThen_ok]
    rcases run_find (P := P) (w := w) (KT := KT) hh' hk with ⟨h1, h2, h3⟩ | ⟨j, p, h1, h2, h3, h4⟩
    · rw [Sem.run_bind, h2, Result.andThen_ok]
      simp only []
      rw [Sem.run_bind, run_setObj hb (by intro c T fz e; cases e), Result.andThen_ok]
      exact ⟨_, _, rfl, by rw [delL_none h3]; exact hh'⟩
    · rw [Sem.run_bind, h4, Result.andThen_ok]
      simp only []
      rw [Sem.run_bind, run_setObj hb (by intro c T fz e; cases e), Result.andThen_ok]
      exact ⟨_, _, rfl, hh'.del h1 h2⟩
  obtain ⟨es', clock', hr, hM⟩ := key
  show opS P (do pure (Next.value (← Builtin.delete_ #[T, KT'] ty #[.map (some m), kc k]))) K w
  rw [opS_bind, hr]
  exact hh _ ⟨es', clock', heap_upd_same (by rw [hb]; rfl), hM⟩ (Fr.upd' hb rfl _ rfl rfl)

omit [DecidableEq κ] in
theorem s_mkm {T : TypeId} (hh : ∀ w', MapR kc vc kok w' w.heap.size ([] : List (κ × ν)) → Fr none_ w w' → w'.heap.size = w.heap.size + 1 → K (.map (some w.heap.size)) w') : opS P (S.mkm T none) K w := by
  have : (Instr.makeMap T none).run P w = .ok (.map (some w.heap.size)) (w.alloc (.map #[] 0)) := rfl
  unfold S.mkm
  rw [opS_bind, this]
  exact hh _ ⟨#[], 0, heap_alloc_new _ _, rfl, List.nodup_nil, by simp, List.nodup_nil, by simp⟩ (Fr.alloc _ _ rfl) (size_alloc _ _)

/-! ### What is gone through -/

/-- an iterator over a map: what is left -/
def IterR (kc : κ → Value) (vc : ν → Value) (kok : κ → Prop) (w : World) (it m : Nat) (l todo : List (κ × ν)) : Prop :=
  it ≠ m ∧ ∃ es clock seen, w.heap[m]? = some (.map es clock) ∧ MHolds kc vc kok es.toList clock l ∧ w.heap[it]? = some (.mapIter (some m) clock seen clock) ∧
    (leftOf es seen).toList.map (fun e => (e.key, e.val)) = todo.map fun p => (kc p.1, vc p.2)

omit [DecidableEq κ] in
theorem IterR.map {it m : Nat} {l todo : List (κ × ν)} (h : IterR kc vc kok w it m l todo) : MapR kc vc kok w m l := by
  obtain ⟨_, es, clock, seen, h1, h2, _⟩ := h
  exact ⟨es, clock, h1, h2⟩
omit [DecidableEq κ] in
theorem IterR.fr {fp : Nat → Prop} {w w' : World} {it m : Nat} {l todo : List (κ × ν)} (h : IterR kc vc kok w it m l todo) (hf : Fr fp w w') (h1 : ¬ fp it) (h2 : ¬ fp m) : IterR kc vc kok w' it m l todo := by
  obtain ⟨hne, es, clock, seen, a1, a2, a3, a4⟩ := h
  exact ⟨hne, es, clock, seen, hf.heap a1 h2, a2, hf.heap a3 h1, a4⟩
omit [DecidableEq κ] in
theorem IterR.ne {it m : Nat} {l todo : List (κ × ν)} (h : IterR kc vc kok w it m l todo) : it ≠ m := h.1
omit [DecidableEq κ] in
theorem IterR.lt {it m : Nat} {l todo : List (κ × ν)} (h : IterR kc vc kok w it m l todo) : it < w.heap.size := by
  obtain ⟨hne, es, clock, seen, a1, a2, a3, a4⟩ := h
  exact lt_of_heap a3

omit [DecidableEq κ] in
theorem s_rng {T KT VT : TypeId} [hT : MpT P T KT VT] {m : Nat} {l : List (κ × ν)} (h : MapR kc vc kok w m l)
    (hh : ∀ w', IterR kc vc kok w' w.heap.size m l l → Fr none_ w w' → w'.heap.size = w.heap.size + 1 → K (pt w.heap.size 0) w') : opS P (S.rng T (.map (some m))) K w := by
  obtain ⟨es, clock, hb, hM⟩ := h
  have hr : (Instr.range T (.map (some m))).run P w = .ok (pt w.heap.size 0) (w.alloc (.mapIter (some m) clock #[] clock)) := by
    unfold Instr.range
    rw [Sem.run_bind, run_underlying_of hT.und, Result.andThen_ok]
    simp only []
    rw [Sem.run_bind, run_getMap hb, Result.andThen_ok]
    rfl
  unfold S.rng
  rw [opS_bind, hr]
  have hlt := lt_of_heap hb
  refine hh _ ⟨by omega, es, clock, #[], ?_, hM, heap_alloc_new _ _, ?_⟩ (Fr.alloc _ _ rfl) (size_alloc _ _)
  · rw [heap_alloc_lt hlt]; exact hb
  · rw [← hM.same]
    have : leftOf es #[] = es := by
      unfold leftOf
      simp
    rw [this]

omit [DecidableEq κ] in
theorem filter_seen {l : List MapEntry} {seen : Array Nat} {e : MapEntry} (hn : (l.map (·.born)).Nodup) : ∀ {i : Nat}, (l.filter fun x => !seen.contains x.born)[i]? = some e →
    (l.filter fun x => !(seen.push e.born).contains x.born) = (l.filter fun x => !seen.contains x.born).eraseIdx i := by
  induction l with
  | nil => intro i h; cases h
  | cons q l ih =>
    intro i h
    rw [List.map_cons, List.nodup_cons] at hn
    by_cases hq : q.born ∈ seen
    · rw [List.filter_cons, if_neg (by simp [hq])] at h
      rw [List.filter_cons, if_neg (by simp [hq]), List.filter_cons, if_neg (by simp [hq])]
      exact ih hn.2 h
    · rw [List.filter_cons, if_pos (by simp [hq])] at h
      cases i with
      | zero =>
        cases h
        rw [List.filter_cons, if_neg (by simp), List.filter_cons, if_pos (by simp [hq]), List.eraseIdx_cons_zero]
        apply List.filter_congr
        intro x hx
        have : x.born ≠ e.born := fun h2 => hn.1 (by rw [← h2]; exact List.mem_map_of_mem hx)
        simp [this]
      | succ i =>
        rw [List.getElem?_cons_succ] at h
        have hmem : e ∈ l := (List.mem_filter.1 (List.mem_of_getElem? h)).1
        have hne : q.born ≠ e.born := fun he => hn.1 (by rw [he]; exact List.mem_map_of_mem hmem)
        rw [List.filter_cons, if_pos (by simp [hq, hne]), ih hn.2 h, List.filter_cons, if_pos (by simp [hq]), List.eraseIdx_cons_succ]

omit [DecidableEq κ] in
/-- a step: nothing is left, or one that is left comes out -/
theorem s_nxt {ty it m : Nat} {l todo : List (κ × ν)} (h : IterR kc vc kok w it m l todo) (h0 : todo = [] → K (.tuple #[.bool false]) w)
    (h1 : ∀ i p w', todo[i]? = some p → IterR kc vc kok w' it m l (todo.eraseIdx i) → Fr (fun b => b = it) w w' → w'.heap.size = w.heap.size →
      (∀ w2, Fr (fun b => b ≠ it ∧ b ≠ m) w' w2 → (Instr.entry (pt it 0)).run P w2 = .ok (.tuple #[kc p.1, vc p.2]) w2) → K (.tuple #[.bool true, kc p.1, vc p.2]) w') :
    opS P (S.nxt (pt it 0) false ty) K w := by
  obtain ⟨hne, es, clock, seen, a1, a2, a3, a4⟩ := h
  unfold S.nxt
  rw [opS_bind]
  rcases run_next_at (P := P) w ty it m clock clock seen es clock a3 a1 (fun x hx => a2.lt x hx) (Nat.le_refl _) with ⟨g1, g2⟩ | ⟨e, he, w1, hw1, hr⟩
  · rw [show (pt it 0) = .pointer (some ⟨it, 0, none⟩) from rfl, g2]
    refine h0 ?_
    have : (leftOf es seen).toList = [] := List.eq_nil_of_length_eq_zero (by rw [Array.length_toList]; exact g1)
    rw [this] at a4
    exact List.map_eq_nil_iff.1 a4.symm
  · rw [show (pt it 0) = .pointer (some ⟨it, 0, none⟩) from rfl, hr]
    obtain ⟨i, hi⟩ := List.mem_iff_getElem?.1 he
    have hp : ∃ p, todo[i]? = some p ∧ e.key = kc p.1 ∧ e.val = vc p.2 := by
      have := congrArg (fun l => l[i]?) a4
      simp only [List.getElem?_map, hi, Option.map_some] at this
      cases hl : todo[i]? with
      | none => rw [hl] at this; cases this
      | some p =>
        rw [hl, Option.map_some, Option.some.injEq, Prod.mk.injEq] at this
        exact ⟨p, rfl, this.1, this.2⟩
    obtain ⟨p, hp, hk, hv⟩ := hp
    have hheap : w1.heap = w.heap := by rcases hw1 with rfl | rfl <;> rfl
    have hset : ChangeMaps.setBlock w1 it (.mapIter (some m) clock (seen.push e.born) clock) = upd w1 it (.mapIter (some m) clock (seen.push e.born) clock) := rfl
    rw [hset, hk, hv]
    have b1 : (upd w1 it (.mapIter (some m) clock (seen.push e.born) clock)).heap[m]? = some (.map es clock) := by rw [heap_upd_ne hne, hheap]; exact a1
    have b3 : (upd w1 it (.mapIter (some m) clock (seen.push e.born) clock)).heap[it]? = some (.mapIter (some m) clock (seen.push e.born) clock) := heap_upd_same (by rw [hheap, a3]; rfl)
    have hem : e ∈ es.toList := by
      unfold leftOf at he
      rw [Array.toList_filter] at he
      exact (List.mem_filter.1 he).1
    refine h1 i p _ hp ⟨hne, es, clock, seen.push e.born, b1, a2, b3, ?_⟩ ?_ ?_ ?_
    · have : (leftOf es (seen.push e.born)).toList = (leftOf es seen).toList.eraseIdx i := by
        unfold leftOf at hi ⊢
        rw [Array.toList_filter] at hi ⊢
        rw [Array.toList_filter]
        exact filter_seen a2.born hi
      rw [this, map_eraseIdx', map_eraseIdx', a4]
    · have hF : Fr (fun b => b = it) w w1 := by
        rcases hw1 with rfl | rfl
        · exact Fr.refl _ _
        · exact Fr.drew _
      exact hF.trans (Fr.upd' (x := .mapIter (some m) clock seen clock) (by rw [hheap]; exact a3) rfl _ rfl rfl)
    · rw [size_upd, hheap]
    · intro w2 hF
      have := run_entry_at (P := P) w2 it m clock seen es clock e (hF.heap b3 (fun h => h.1 rfl)) (hF.heap b1 (fun h => h.2 rfl)) hem a2.born
      rw [← hk, ← hv]
      exact this

theorem s_ent {it : Nat} {v : Value} (h : (Instr.entry (pt it 0)).run P w = .ok v w) (hh : K v w) : opS P (S.ent (pt it 0)) K w := by
  unfold S.ent
  rw [opS_bind, h]
  exact hh

end
end Go.Gx
