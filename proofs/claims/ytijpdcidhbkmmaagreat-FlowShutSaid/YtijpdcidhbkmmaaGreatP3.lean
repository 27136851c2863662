/- Own texts, put together. -/
import Derived.Test.YtijpdcidhbkmmaaGreatP2
import Derived.Test.YtijpdcidhbkmmaaGreatP1
import Derived.Maps.RangeRun
import Derived.Maps.Keyed
import Derived.DeepKeys4
import Derived.Laws.Strings
import Derived.Lib.SlicesCompact
section
/- Maps: what they hold; looking up, putting, deleting, going through. -/
namespace Go.Gx
open Go Go.Maps
variable {P : Program} {K : Value → World → Prop} {w : World}

/-- keys of a type, as values of a Lean type -/
class KeyC (P : Program) (T : TypeId) (κ : outParam Type) (kc : outParam (κ → Value)) (ok : outParam (κ → Prop)) : Prop where
  law : Keyed P T
  of : ∀ k, ok k → ∃ l, keyOf P T (kc k) = some l
  inj : ∀ a b, kc a = kc b → a = b

section
variable {κ ν : Type} {kc : κ → Value} {vc : ν → Value} {kok : κ → Prop}

structure MHolds (kc : κ → Value) (vc : ν → Value) (kok : κ → Prop) (es : List MapEntry) (clock : Nat) (l : List (κ × ν)) : Prop where
  same : es.map (fun e => (e.key, e.val)) = l.map fun p => (kc p.1, vc p.2)
  nd : (l.map Prod.fst).Nodup
  ok : ∀ p ∈ l, kok p.1
  born : (es.map (·.born)).Nodup
  lt : ∀ e ∈ es, e.born < clock

/-- a map, in the order in which its keys came -/
def MapR (kc : κ → Value) (vc : ν → Value) (kok : κ → Prop) (w : World) (m : Nat) (l : List (κ × ν)) : Prop :=
  ∃ es clock, w.heap[m]? = some (.map es clock) ∧ MHolds kc vc kok es.toList clock l

theorem MapR.fr {fp : Nat → Prop} {w w' : World} {m : Nat} {l : List (κ × ν)} (h : MapR kc vc kok w m l) (hf : Fr fp w w') (hn : ¬ fp m) : MapR kc vc kok w' m l := by
  obtain ⟨es, clock, hb, hh⟩ := h
  exact ⟨es, clock, hf.heap hb hn, hh⟩
theorem MapR.lt {m : Nat} {l : List (κ × ν)} (h : MapR kc vc kok w m l) : m < w.heap.size := by
  obtain ⟨es, clock, hb, hh⟩ := h
  exact lt_of_heap hb
theorem MapR.drew {m : Nat} {l : List (κ × ν)} (h : MapR kc vc kok w m l) : MapR kc vc kok w.drew m l := h

theorem MHolds.len {es : List MapEntry} {clock : Nat} {l : List (κ × ν)} (h : MHolds kc vc kok es clock l) : es.length = l.length := by
  have := congrArg List.length h.same
  simpa using this
theorem MHolds.at {es : List MapEntry} {clock : Nat} {l : List (κ × ν)} (h : MHolds kc vc kok es clock l) {j : Nat} {e : MapEntry} (he : es[j]? = some e) : ∃ p, l[j]? = some p ∧ e.key = kc p.1 ∧ e.val = vc p.2 := by
  have := congrArg (fun l => l[j]?) h.same
  simp only [List.getElem?_map, he, Option.map_some] at this
  cases hl : l[j]? with
  | none => rw [hl] at this; cases this
  | some p =>
    rw [hl, Option.map_some, Option.some.injEq, Prod.mk.injEq] at this
    exact ⟨p, rfl, this.1, this.2⟩
theorem MHolds.mem {es : List MapEntry} {clock : Nat} {l : List (κ × ν)} (h : MHolds kc vc kok es clock l) {e : MapEntry} (he : e ∈ es) : ∃ p ∈ l, e.key = kc p.1 ∧ e.val = vc p.2 := by
  obtain ⟨j, hj⟩ := List.mem_iff_getElem?.1 he
  obtain ⟨p, hp, h1, h2⟩ := h.at hj
  exact ⟨p, List.mem_of_getElem? hp, h1, h2⟩

variable [DecidableEq κ]

/-- what a key has -/
def getL {κ ν : Type} [DecidableEq κ] : List (κ × ν) → κ → Option ν
  | [], _ => none
  | q :: l, k => match @BEq.beq κ instBEqOfDecidableEq k q.1 with
    | true => some q.2
    | false => getL l k

theorem lookup_of_mem : ∀ {l : List (κ × ν)}, (l.map Prod.fst).Nodup → ∀ {p : κ × ν}, p ∈ l → getL l p.1 = some p.2
  | [], _, _, h => by cases h
  | q :: l, hn, p, h => by
    rw [List.map_cons, List.nodup_cons] at hn
    rcases List.mem_cons.1 h with rfl | h
    · simp [getL]
    · have hne : p.1 ≠ q.1 := fun e => hn.1 (e ▸ List.mem_map_of_mem h)
      have : (p.1 == q.1) = false := by simpa using hne
      rw [getL, this]
      exact lookup_of_mem hn.2 h
theorem lookup_none : ∀ {l : List (κ × ν)} {k : κ}, (∀ p ∈ l, p.1 ≠ k) → getL l k = none
  | [], _, _ => rfl
  | q :: l, k, h => by
    have hne : (k == q.1) = false := by simpa using (h q (List.mem_cons_self ..)).symm
    rw [getL, hne]
    exact lookup_none fun p hp => h p (List.mem_cons_of_mem _ hp)
theorem lookup_some_mem : ∀ {l : List (κ × ν)} {k : κ} {v : ν}, getL l k = some v → (k, v) ∈ l
  | [], _, _, h => by cases h
  | q :: l, k, v, h => by
    rw [getL] at h
    split at h
    · rename_i he
      rw [beq_iff_eq] at he
      cases h
      subst he
      exact List.mem_cons_self ..
    · exact List.mem_cons_of_mem _ (lookup_some_mem h)

/-- a value is put in -/
def setL (l : List (κ × ν)) (k : κ) (v : ν) : List (κ × ν) := if (getL l k).isSome then l.map fun p => if p.1 = k then (k, v) else p else l ++ [(k, v)]
def delL (l : List (κ × ν)) (k : κ) : List (κ × ν) := l.filter fun p => decide (p.1 ≠ k)

theorem lookup_setL (l : List (κ × ν)) (k : κ) (v : ν) (k' : κ) : getL (setL l k v) k' = if k' = k then some v else getL l k' := by
  unfold setL
  split
  · rename_i hs
    by_cases e : k' = k
    · subst e
      rw [if_pos rfl]
      obtain ⟨u, hu⟩ := Option.isSome_iff_exists.1 hs
      clear hs
      induction l with
      | nil => cases hu
      | cons q l ih =>
        rw [getL] at hu
        rw [List.map_cons]
        by_cases hq : q.1 = k'
        · rw [if_pos hq]; simp [getL]
        · have : (k' == q.1) = false := by simpa using fun h => hq h.symm
          rw [this] at hu
          rw [if_neg hq, getL, this]
          exact ih hu
    · rw [if_neg e]
      clear hs
      induction l with
      | nil => rfl
      | cons q l ih =>
        rw [List.map_cons]
        by_cases hq : q.1 = k
        · have h1 : (k' == k) = false := by simpa using e
          have h2 : (k' == q.1) = false := by rw [hq]; exact h1
          rw [if_pos hq, getL, h1, getL, h2]
          exact ih
        · rw [if_neg hq, getL, getL]
          cases (k' == q.1)
          · exact ih
          · rfl
  · rename_i hs
    have hn : getL l k = none := by
      cases hl : getL l k with
      | none => rfl
      | some v => rw [hl] at hs; exact absurd rfl hs
    clear hs
    induction l with
    | nil =>
      by_cases e : k' = k
      · subst e; simp [getL]
      · have : (k' == k) = false := by simpa using e
        simp [getL, this, e]
    | cons q l ih =>
      rw [getL] at hn
      rw [List.cons_append, getL, getL]
      cases hq : (k == q.1) with
      | true => rw [hq] at hn; cases hn
      | false =>
        rw [hq] at hn
        cases h1 : (k' == q.1) with
        | true =>
          have : k' ≠ k := fun e => by
            subst e; rw [hq] at h1; cases h1
          rw [if_neg this]
        | false => exact ih hn

theorem lookup_delL (l : List (κ × ν)) (k k' : κ) : getL (delL l k) k' = if k' = k then none else getL l k' := by
  unfold delL
  induction l with
  | nil => simp [getL]
  | cons q l ih =>
    rw [List.filter_cons]
    by_cases hq : q.1 = k
    · rw [if_neg (by simp [hq]), ih]
      by_cases e : k' = k
      · rw [if_pos e, if_pos e]
      · have : (k' == q.1) = false := by rw [hq]; simpa using e
        rw [if_neg e, if_neg e, getL, this]
    · rw [if_pos (by simpa using hq), getL, getL]
      cases h1 : (k' == q.1) with
      | true =>
        have : k' ≠ k := fun e => hq (by rw [← e]; exact (beq_iff_eq.1 h1).symm)
        rw [if_neg this]
      | false => exact ih

theorem setL_keys (l : List (κ × ν)) (k : κ) (v : ν) : (setL l k v).map Prod.fst = if (getL l k).isSome then l.map Prod.fst else l.map Prod.fst ++ [k] := by
  unfold setL
  split
  · rw [List.map_map]
    apply List.map_congr_left
    intro p _
    simp only [Function.comp]
    split
    · rename_i h; exact h.symm
    · rfl
  · simp

theorem not_key {l : List (κ × ν)} {k : κ} (h : getL l k = none) : ∀ p ∈ l, p.1 ≠ k := by
  intro p hp e
  subst e
  induction l with
  | nil => cases hp
  | cons q l ih =>
    rw [getL] at h
    split at h
    · cases h
    · rename_i hq
      rcases List.mem_cons.1 hp with rfl | hp
      · simp at hq
      · exact ih hp h

/-! ### What is found -/

theorem run_getObj {b : Nat} {o : Obj} (h : w.heap[b]? = some o) (ho : ∀ c T fz, o ≠ .cells c T fz) : (getObj b).run P w = .ok o w := by
  cases o with
  | cells c T fz => exact absurd rfl (ho c T fz)
  | _ => simp [getObj, Sem.run, h]
theorem run_getMap {b : Nat} {es : Array MapEntry} {c : Nat} (h : w.heap[b]? = some (.map es c)) : (getObj b).run P w = .ok (.map es c) w := run_getObj h (by intro c T fz e; cases e)

theorem run_find {KT : TypeId} [hK : KeyC P KT κ kc kok] {es : List MapEntry} {clock : Nat} {l : List (κ × ν)} (h : MHolds kc vc kok es clock l) {k : κ} (hk : kok k) :
    (getL l k = none ∧ (Instr.findKey KT (kc k) es).run P w = .ok none w ∧ ∀ p ∈ l, p.1 ≠ k) ∨
    ∃ j p, l[j]? = some p ∧ p.1 = k ∧ getL l k = some p.2 ∧ (Instr.findKey KT (kc k) es).run P w = .ok (some (j, vc p.2)) w := by
  obtain ⟨lx, hlx⟩ := hK.of k hk
  rcases hK.law.find w hlx es (fun e he => by
    obtain ⟨p, hp, h1, h2⟩ := h.mem he
    rw [h1]; exact hK.of _ (h.ok p hp)) with ⟨h1, h2⟩ | ⟨j, e, h1, h2, h3⟩
  · have hne : ∀ p ∈ l, p.1 ≠ k := by
      intro p hp e
      obtain ⟨j, hj⟩ := List.mem_iff_getElem?.1 hp
      have hlt : j < es.length := by rw [h.len]; exact (List.getElem?_eq_some_iff.1 hj).1
      obtain ⟨p', hp', h3, h4⟩ := h.at (List.getElem?_eq_getElem hlt)
      rw [hj] at hp'
      cases hp'
      exact h2 _ (List.getElem_mem hlt) (by rw [h3, e])
    exact .inl ⟨lookup_none hne, h1, hne⟩
  · obtain ⟨p, hp, h4, h5⟩ := h.at h2
    have hpk : p.1 = k := hK.inj _ _ (by rw [← h4, h3])
    refine .inr ⟨j, p, hp, hpk, ?_, by rw [h1, h5]⟩
    rw [← hpk]
    exact lookup_of_mem h.nd (List.mem_of_getElem? hp)

/-- what is told of a key -/
def got (vc : ν → Value) (z : Value) : Option ν → Value
  | some v => vc v
  | none => z

omit [DecidableEq κ] in
theorem run_check {KT : TypeId} [hK : KeyC P KT κ kc kok] {k : κ} (hk : kok k) (em : Bool) : (Instr.checkKey em 10000 KT (kc k)).run P w = .ok () w := by
  obtain ⟨lx, hlx⟩ := hK.of k hk
  exact hK.law.check w em hlx

theorem s_lk {T KT VT : TypeId} {z : Value} [hT : MpT P T KT VT] [hK : KeyC P KT κ kc kok] [hz : ZV P VT z] {m : Nat} {l : List (κ × ν)} {k : κ} {ok : Bool} (h : MapR kc vc kok w m l) (hk : kok k)
    (hh : K (if ok then .tuple #[got vc z (getL l k), .bool (getL l k).isSome] else got vc z (getL l k)) w) : opS P (S.lk T (.map (some m)) (kc k) ok) K w := by
  obtain ⟨es, clock, hb, hh'⟩ := h
  unfold S.lk
  rw [opS_bind]
  unfold Instr.lookup
  rw [Sem.run_bind, run_underlying_of hT.und, Result.andThen_ok]
  simp only []
  rw [Sem.run_bind, run_getMap hb, Result.andThen_ok]
  simp only [pure_bind]
  rw [Sem.run_bind, run_check hk, Result.andThen_ok]
  rcases run_find (P := P) (w := w) (KT := KT) hh' hk with ⟨h1, h2, _⟩ | ⟨j, p, h1, h2, h3, h4⟩
  · rw [h1] at hh
    simp only [Sem.run_bind, h2, hz.zero w, Result.andThen_ok, Sem.run_pure]
    cases ok <;> exact hh
  · rw [h3] at hh
    simp only [Sem.run_bind, h4, Result.andThen_ok, Sem.run_pure]
    cases ok <;> exact hh

/-! ### What is put in -/

theorem modify_map (es : Array MapEntry) (j : Nat) (f : MapEntry → MapEntry) : (es.modify j f).toList = es.toList.mapIdx fun i e => if i = j then f e else e := by
  apply List.ext_getElem?
  intro i
  rw [List.getElem?_mapIdx, Array.getElem?_toList, Array.getElem?_toList, Array.getElem?_modify]
  by_cases h : j = i
  · subst h; simp
  · have : ¬ i = j := fun e => h e.symm
    simp [h, this]

theorem MHolds.put {es : Array MapEntry} {clock : Nat} {l : List (κ × ν)} (h : MHolds kc vc kok es.toList clock l) {k : κ} {v : ν} {j : Nat} {p : κ × ν} (hj : l[j]? = some p) (hp : p.1 = k) :
    MHolds kc vc kok (es.modify j fun e => { e with key := kc k, val := vc v }).toList clock (setL l k v) := by
  have hl : getL l k = some p.2 := by rw [← hp]; exact lookup_of_mem h.nd (List.mem_of_getElem? hj)
  have hjl := (List.getElem?_eq_some_iff.1 hj).1
  have hset : setL l k v = l.mapIdx fun i q => if i = j then (k, v) else q := by
    unfold setL
    rw [if_pos (by rw [hl]; rfl)]
    apply List.ext_getElem?
    intro i
    rw [List.getElem?_map, List.getElem?_mapIdx]
    cases hq : l[i]? with
    | none => rfl
    | some q =>
      simp only [Option.map_some, Option.some.injEq]
      by_cases e : i = j
      · subst e
        rw [hj] at hq; cases hq
        rw [if_pos hp, if_pos rfl]
      · rw [if_neg e, if_neg]
        intro hqk
        have hi := (List.getElem?_eq_some_iff.1 hq).1
        have h1 : (l.map Prod.fst)[i]'(by simpa using hi) = (l.map Prod.fst)[j]'(by simpa using hjl) := by
          have a1 := (List.getElem?_eq_some_iff.1 hq).2
          have a2 := (List.getElem?_eq_some_iff.1 hj).2
          simp only [List.getElem_map]
          rw [a1, a2, hqk, hp]
        exact e ((List.getElem_inj h.nd).1 h1)
  refine ⟨?_, ?_, ?_, ?_, ?_⟩
  · rw [modify_map, hset]
    apply List.ext_getElem?
    intro i
    have := congrArg (fun l => l[i]?) h.same
    simp only [List.getElem?_map, List.getElem?_mapIdx] at this ⊢
    cases h1 : es.toList[i]? <;> cases h2 : l[i]? <;> rw [h1, h2] at this
    · rfl
    · cases this
    · cases this
    · simp only [Option.map_some, Option.some.injEq] at this ⊢
      split
      · rfl
      · exact this
  · rw [setL_keys, if_pos (by rw [hl]; rfl)]; exact h.nd
  · intro q hq
    rw [hset, List.mem_mapIdx] at hq
    obtain ⟨i, hi, rfl⟩ := hq
    split
    · rw [← hp]; exact h.ok p (List.mem_of_getElem? hj)
    · exact h.ok _ (List.getElem_mem hi)
  · rw [modify_map]
    have : (es.toList.mapIdx fun i e => if i = j then ({ e with key := kc k, val := vc v } : MapEntry) else e).map (·.born) = es.toList.map (·.born) := by
      apply List.ext_getElem?
      intro i
      simp only [List.getElem?_map, List.getElem?_mapIdx]
      cases es.toList[i]? with
      | none => rfl
      | some e => simp only [Option.map_some, Option.some.injEq]; split <;> rfl
    rw [this]; exact h.born
  · intro e he
    rw [modify_map, List.mem_mapIdx] at he
    obtain ⟨i, hi, rfl⟩ := he
    have := h.lt _ (List.getElem_mem hi)
    split <;> exact this

theorem MHolds.add {es : Array MapEntry} {clock : Nat} {l : List (κ × ν)} (h : MHolds kc vc kok es.toList clock l) {k : κ} {v : ν} (hk : kok k) (hn : ∀ p ∈ l, p.1 ≠ k) (hl : getL l k = none) :
    MHolds kc vc kok (es.push { key := kc k, val := vc v, born := clock }).toList (clock + 1) (setL l k v) := by
  have hset : setL l k v = l ++ [(k, v)] := by unfold setL; rw [if_neg (by rw [hl]; simp)]
  rw [hset, Array.toList_push]
  refine ⟨by simp [h.same], ?_, ?_, ?_, ?_⟩
  · rw [List.map_append, List.nodup_append]
    refine ⟨h.nd, by simp, ?_⟩
    intro a ha b hb
    simp at hb
    subst hb
    obtain ⟨p, hp, rfl⟩ := List.mem_map.1 ha
    exact hn p hp
  · intro p hp
    rcases List.mem_append.1 hp with hp | hp
    · exact h.ok p hp
    · simp at hp; subst hp; exact hk
  · rw [List.map_append, List.nodup_append]
    refine ⟨h.born, by simp, ?_⟩
    intro a ha b hb
    simp at hb
    subst hb
    obtain ⟨e, he, rfl⟩ := List.mem_map.1 ha
    have := h.lt e he
    omega
  · intro e he
    rcases List.mem_append.1 he with he | he
    · have := h.lt e he; omega
    · simp at he; subst he; simp

theorem s_mu {T KT VT : TypeId} [hT : MpT P T KT VT] [hK : KeyC P KT κ kc kok] {m : Nat} {l : List (κ × ν)} {k : κ} {v : ν} (h : MapR kc vc kok w m l) (hk : kok k)
    (hh : ∀ w', MapR kc vc kok w' m (setL l k v) → Fr (fun b => b = m) w w' → K undef w') : opS P (S.mu T (.map (some m)) (kc k) (vc v)) K w := by
  obtain ⟨es, clock, hb, hh'⟩ := h
  have key : ∃ es' clock', (Instr.mapUpdate T (.map (some m)) (kc k) (vc v)).run P w = .ok () (upd w m (.map es' clock')) ∧ MHolds kc vc kok es'.toList clock' (setL l k v) := by
    unfold Instr.mapUpdate
    rw [Sem.run_bind, run_underlying_of hT.und, Result.andThen_ok]
    simp only []
    rw [Sem.run_bind, run_getMap hb, Result.andThen_ok]
    simp only []
    rw [Sem.run_bind, run_check hk, Result.andThen_ok]
    rcases run_find (P := P) (w := w) (KT := KT) hh' hk with ⟨h1, h2, h3⟩ | ⟨j, p, h1, h2, h3, h4⟩
    · rw [Sem.run_bind, h2, Result.andThen_ok]
      simp only []
      exact ⟨_, _, run_setObj hb (by intro c T fz e; cases e), hh'.add hk h3 h1⟩
    · rw [Sem.run_bind, h4, Result.andThen_ok]
      simp only []
      have hje : ∃ e, es[j]? = some e ∧ e.key = kc k := by
        have hlt : j < es.size := by
          have := (List.getElem?_eq_some_iff.1 h1).1
          rw [← hh'.len, Array.length_toList] at this; exact this
        refine ⟨es[j], Array.getElem?_eq_getElem hlt, ?_⟩
        obtain ⟨q, hq, hk1, _⟩ := hh'.at (j := j) (e := es[j]) (by rw [Array.getElem?_toList]; exact Array.getElem?_eq_getElem hlt)
        rw [h1] at hq; cases hq
        rw [hk1, h2]
      obtain ⟨e, he, hke⟩ := hje
      obtain ⟨lx, hlx⟩ := hK.of k hk
      have hst := hK.law.stays w hlx
      rw [he]
      simp only [Option.map_some, Option.getD_some, hke]
      rw [Sem.run_bind, hst, Result.andThen_ok]
      exact ⟨_, _, run_setObj hb (by intro c T fz e; cases e), hh'.put h1 h2⟩
  obtain ⟨es', clock', hr, hM⟩ := key
  unfold S.mu opS
  rw [Sem.run_bind, hr, Result.andThen_ok]
  exact hh _ ⟨es', clock', heap_upd_same (by rw [hb]; rfl), hM⟩ (Fr.upd' hb rfl _ rfl rfl)

/-! ### What is taken out -/

omit [DecidableEq κ] in
theorem map_eraseIdx' {α β : Type} (f : α → β) : ∀ (l : List α) (i : Nat), (l.eraseIdx i).map f = (l.map f).eraseIdx i
  | [], _ => rfl
  | _ :: _, 0 => rfl
  | a :: l, i + 1 => by simp [map_eraseIdx' f l i]

theorem MHolds.del {es : Array MapEntry} {clock : Nat} {l : List (κ × ν)} (h : MHolds kc vc kok es.toList clock l) {k : κ} {j : Nat} {p : κ × ν} (hj : l[j]? = some p) (hp : p.1 = k) :
    MHolds kc vc kok (es.eraseIdxIfInBounds j).toList clock (delL l k) := by
  have hjl := (List.getElem?_eq_some_iff.1 hj).1
  have hje : j < es.size := by rw [← Array.length_toList, h.len]; exact hjl
  have hd : delL l k = l.eraseIdx j := by
    unfold delL
    have hnd := h.nd
    clear h hje hjl
    induction l generalizing j with
    | nil => cases hj
    | cons q l ih =>
      rw [List.map_cons, List.nodup_cons] at hnd
      cases j with
      | zero =>
        cases hj
        rw [List.filter_cons, if_neg (by simp [hp]), List.eraseIdx_cons_zero]
        apply List.filter_eq_self.2
        intro a ha
        simp only [decide_eq_true_eq]
        intro e
        exact hnd.1 (by rw [hp, ← e]; exact List.mem_map_of_mem ha)
      | succ j =>
        rw [List.getElem?_cons_succ] at hj
        have hne : q.1 ≠ k := fun e => hnd.1 (by rw [e, ← hp]; exact List.mem_map_of_mem (List.mem_of_getElem? hj))
        rw [List.filter_cons, if_pos (by simpa using hne), List.eraseIdx_cons_succ, ih hj hnd.2]
  have he : (es.eraseIdxIfInBounds j).toList = es.toList.eraseIdx j := by
    unfold Array.eraseIdxIfInBounds
    rw [dif_pos hje, Array.toList_eraseIdx]
  rw [hd, he]
  have sub := List.eraseIdx_sublist l j
  have sub2 := List.eraseIdx_sublist es.toList j
  refine ⟨?_, ?_, fun q hq => h.ok q (sub.subset hq), ?_, fun e hm => h.lt e (sub2.subset hm)⟩
  · rw [map_eraseIdx', map_eraseIdx', h.same]
  · exact h.nd.sublist (sub.map _)
  · exact h.born.sublist (sub2.map _)

theorem delL_none {l : List (κ × ν)} {k : κ} (h : ∀ p ∈ l, p.1 ≠ k) : delL l k = l :=
  List.filter_eq_self.2 fun p hp => by simpa using h p hp

theorem s_del {T KT VT KT' ty : TypeId} [hT : MpT P T KT VT] [hK : KeyC P KT κ kc kok] {m : Nat} {l : List (κ × ν)} {k : κ} (h : MapR kc vc kok w m l) (hk : kok k)
    (hh : ∀ w', MapR kc vc kok w' m (delL l k) → Fr (fun b => b = m) w w' → K (.tuple #[]) w') : opS P (S.bi .delete #[T, KT'] ty [.map (some m), kc k]) K w := by
  obtain ⟨es, clock, hb, hh'⟩ := h
  have key : ∃ es' clock', (Builtin.delete_ #[T, KT'] ty #[.map (some m), kc k]).run P w = .ok (.tuple #[]) (upd w m (.map es' clock')) ∧ MHolds kc vc kok es'.toList clock' (delL l k) := by
    unfold Builtin.delete_
    simp only [List.getElem?_toArray, List.getElem?_cons_zero, List.getElem?_cons_succ]
    rw [Sem.run_bind, run_underlying_of hT.und, Result.andThen_ok]
    simp only []
    rw [Sem.run_bind, run_getMap hb, Result.andThen_ok]
    simp only []
    rw [Sem.run_bind, run_check hk, Result.andThen_ok]
    rcases run_find (P := P) (w := w) (KT := KT) hh' hk with ⟨h1, h2, h3⟩ | ⟨j, p, h1, h2, h3, h4⟩
    · rw [Sem.run_bind, h2, Result.andThen_ok]
      simp only []
      rw [Sem.run_bind, run_setObj hb (by intro c T fz e; cases e), Result.andThen_ok]
      exact ⟨_, _, rfl, by rw [delL_none h3]; exact hh'⟩
    · rw [Sem.run_bind, h4, Result.andThen_ok]
      simp only []
      rw [Sem.run_bind, run_setObj hb (by intro c T fz e; cases e), Result.andThen_ok]
      exact ⟨_, _, rfl, hh'.del h1 h2⟩
  obtain ⟨es', clock', hr, hM⟩ := key
  show opS P (do pure (Next.value (← Builtin.delete_ #[T, KT'] ty #[.map (some m), kc k]))) K w
  rw [opS_bind, hr]
  exact hh _ ⟨es', clock', heap_upd_same (by rw [hb]; rfl), hM⟩ (Fr.upd' hb rfl _ rfl rfl)

omit [DecidableEq κ] in
theorem s_mkm {T : TypeId} (hh : ∀ w', MapR kc vc kok w' w.heap.size ([] : List (κ × ν)) → Fr none_ w w' → w'.heap.size = w.heap.size + 1 → K (.map (some w.heap.size)) w') : opS P (S.mkm T none) K w := by
  have : (Instr.makeMap T none).run P w = .ok (.map (some w.heap.size)) (w.alloc (.map #[] 0)) := rfl
  unfold S.mkm
  rw [opS_bind, this]
  exact hh _ ⟨#[], 0, heap_alloc_new _ _, rfl, List.nodup_nil, by simp, List.nodup_nil, by simp⟩ (Fr.alloc _ _ rfl) (size_alloc _ _)

/-! ### What is gone through -/

/-- an iterator over a map: what is left -/
def IterR (kc : κ → Value) (vc : ν → Value) (kok : κ → Prop) (w : World) (it m : Nat) (l todo : List (κ × ν)) : Prop :=
  it ≠ m ∧ ∃ es clock seen, w.heap[m]? = some (.map es clock) ∧ MHolds kc vc kok es.toList clock l ∧ w.heap[it]? = some (.mapIter (some m) clock seen clock) ∧
    (leftOf es seen).toList.map (fun e => (e.key, e.val)) = todo.map fun p => (kc p.1, vc p.2)

omit [DecidableEq κ] in
theorem IterR.map {it m : Nat} {l todo : List (κ × ν)} (h : IterR kc vc kok w it m l todo) : MapR kc vc kok w m l := by
  obtain ⟨_, es, clock, seen, h1, h2, _⟩ := h
  exact ⟨es, clock, h1, h2⟩
omit [DecidableEq κ] in
theorem IterR.fr {fp : Nat → Prop} {w w' : World} {it m : Nat} {l todo : List (κ × ν)} (h : IterR kc vc kok w it m l todo) (hf : Fr fp w w') (h1 : ¬ fp it) (h2 : ¬ fp m) : IterR kc vc kok w' it m l todo := by
  obtain ⟨hne, es, clock, seen, a1, a2, a3, a4⟩ := h
  exact ⟨hne, es, clock, seen, hf.heap a1 h2, a2, hf.heap a3 h1, a4⟩
omit [DecidableEq κ] in
theorem IterR.ne {it m : Nat} {l todo : List (κ × ν)} (h : IterR kc vc kok w it m l todo) : it ≠ m := h.1
omit [DecidableEq κ] in
theorem IterR.lt {it m : Nat} {l todo : List (κ × ν)} (h : IterR kc vc kok w it m l todo) : it < w.heap.size := by
  obtain ⟨hne, es, clock, seen, a1, a2, a3, a4⟩ := h
  exact lt_of_heap a3

omit [DecidableEq κ] in
theorem s_rng {T KT VT : TypeId} [hT : MpT P T KT VT] {m : Nat} {l : List (κ × ν)} (h : MapR kc vc kok w m l)
    (hh : ∀ w', IterR kc vc kok w' w.heap.size m l l → Fr none_ w w' → w'.heap.size = w.heap.size + 1 → K (pt w.heap.size 0) w') : opS P (S.rng T (.map (some m))) K w := by
  obtain ⟨es, clock, hb, hM⟩ := h
  have hr : (Instr.range T (.map (some m))).run P w = .ok (pt w.heap.size 0) (w.alloc (.mapIter (some m) clock #[] clock)) := by
    unfold Instr.range
    rw [Sem.run_bind, run_underlying_of hT.und, Result.andThen_ok]
    simp only []
    rw [Sem.run_bind, run_getMap hb, Result.andThen_ok]
    rfl
  unfold S.rng
  rw [opS_bind, hr]
  have hlt := lt_of_heap hb
  refine hh _ ⟨by omega, es, clock, #[], ?_, hM, heap_alloc_new _ _, ?_⟩ (Fr.alloc _ _ rfl) (size_alloc _ _)
  · rw [heap_alloc_lt hlt]; exact hb
  · rw [← hM.same]
    have : leftOf es #[] = es := by
      unfold leftOf
      simp
    rw [this]

omit [DecidableEq κ] in
theorem filter_seen {l : List MapEntry} {seen : Array Nat} {e : MapEntry} (hn : (l.map (·.born)).Nodup) : ∀ {i : Nat}, (l.filter fun x => !seen.contains x.born)[i]? = some e →
    (l.filter fun x => !(seen.push e.born).contains x.born) = (l.filter fun x => !seen.contains x.born).eraseIdx i := by
  induction l with
  | nil => intro i h; cases h
  | cons q l ih =>
    intro i h
    rw [List.map_cons, List.nodup_cons] at hn
    by_cases hq : q.born ∈ seen
    · rw [List.filter_cons, if_neg (by simp [hq])] at h
      rw [List.filter_cons, if_neg (by simp [hq]), List.filter_cons, if_neg (by simp [hq])]
      exact ih hn.2 h
    · rw [List.filter_cons, if_pos (by simp [hq])] at h
      cases i with
      | zero =>
        cases h
        rw [List.filter_cons, if_neg (by simp), List.filter_cons, if_pos (by simp [hq]), List.eraseIdx_cons_zero]
        apply List.filter_congr
        intro x hx
        have : x.born ≠ e.born := fun h2 => hn.1 (by rw [← h2]; exact List.mem_map_of_mem hx)
        simp [this]
      | succ i =>
        rw [List.getElem?_cons_succ] at h
        have hmem : e ∈ l := (List.mem_filter.1 (List.mem_of_getElem? h)).1
        have hne : q.born ≠ e.born := fun he => hn.1 (by rw [he]; exact List.mem_map_of_mem hmem)
        rw [List.filter_cons, if_pos (by simp [hq, hne]), ih hn.2 h, List.filter_cons, if_pos (by simp [hq]), List.eraseIdx_cons_succ]

omit [DecidableEq κ] in
/-- a step: nothing is left, or one that is left comes out -/
theorem s_nxt {ty it m : Nat} {l todo : List (κ × ν)} (h : IterR kc vc kok w it m l todo) (h0 : todo = [] → K (.tuple #[.bool false]) w)
    (h1 : ∀ i p w', todo[i]? = some p → IterR kc vc kok w' it m l (todo.eraseIdx i) → Fr (fun b => b = it) w w' → w'.heap.size = w.heap.size →
      (∀ w2, Fr (fun b => b ≠ it ∧ b ≠ m) w' w2 → (Instr.entry (pt it 0)).run P w2 = .ok (.tuple #[kc p.1, vc p.2]) w2) → K (.tuple #[.bool true, kc p.1, vc p.2]) w') :
    opS P (S.nxt (pt it 0) false ty) K w := by
  obtain ⟨hne, es, clock, seen, a1, a2, a3, a4⟩ := h
  unfold S.nxt
  rw [opS_bind]
  rcases run_next_at (P := P) w ty it m clock clock seen es clock a3 a1 (fun x hx => a2.lt x hx) (Nat.le_refl _) with ⟨g1, g2⟩ | ⟨e, he, w1, hw1, hr⟩
  · rw [show (pt it 0) = .pointer (some ⟨it, 0, none⟩) from rfl, g2]
    refine h0 ?_
    have : (leftOf es seen).toList = [] := List.eq_nil_of_length_eq_zero (by rw [Array.length_toList]; exact g1)
    rw [this] at a4
    exact List.map_eq_nil_iff.1 a4.symm
  · rw [show (pt it 0) = .pointer (some ⟨it, 0, none⟩) from rfl, hr]
    obtain ⟨i, hi⟩ := List.mem_iff_getElem?.1 he
    have hp : ∃ p, todo[i]? = some p ∧ e.key = kc p.1 ∧ e.val = vc p.2 := by
      have := congrArg (fun l => l[i]?) a4
      simp only [List.getElem?_map, hi, Option.map_some] at this
      cases hl : todo[i]? with
      | none => rw [hl] at this; cases this
      | some p =>
        rw [hl, Option.map_some, Option.some.injEq, Prod.mk.injEq] at this
        exact ⟨p, rfl, this.1, this.2⟩
    obtain ⟨p, hp, hk, hv⟩ := hp
    have hheap : w1.heap = w.heap := by rcases hw1 with rfl | rfl <;> rfl
    have hset : ChangeMaps.setBlock w1 it (.mapIter (some m) clock (seen.push e.born) clock) = upd w1 it (.mapIter (some m) clock (seen.push e.born) clock) := rfl
    rw [hset, hk, hv]
    have b1 : (upd w1 it (.mapIter (some m) clock (seen.push e.born) clock)).heap[m]? = some (.map es clock) := by rw [heap_upd_ne hne, hheap]; exact a1
    have b3 : (upd w1 it (.mapIter (some m) clock (seen.push e.born) clock)).heap[it]? = some (.mapIter (some m) clock (seen.push e.born) clock) := heap_upd_same (by rw [hheap, a3]; rfl)
    have hem : e ∈ es.toList := by
      unfold leftOf at he
      rw [Array.toList_filter] at he
      exact (List.mem_filter.1 he).1
    refine h1 i p _ hp ⟨hne, es, clock, seen.push e.born, b1, a2, b3, ?_⟩ ?_ ?_ ?_
    · have : (leftOf es (seen.push e.born)).toList = (leftOf es seen).toList.eraseIdx i := by
        unfold leftOf at hi ⊢
        rw [Array.toList_filter] at hi ⊢
        rw [Array.toList_filter]
        exact filter_seen a2.born hi
      rw [this, map_eraseIdx', map_eraseIdx', a4]
    · have hF : Fr (fun b => b = it) w w1 := by
        rcases hw1 with rfl | rfl
        · exact Fr.refl _ _
        · exact Fr.drew _
      exact hF.trans (Fr.upd' (x := .mapIter (some m) clock seen clock) (by rw [hheap]; exact a3) rfl _ rfl rfl)
    · rw [size_upd, hheap]
    · intro w2 hF
      have := run_entry_at (P := P) w2 it m clock seen es clock e (hF.heap b3 (fun h => h.1 rfl)) (hF.heap b1 (fun h => h.2 rfl)) hem a2.born
      rw [← hk, ← hv]
      exact this

theorem s_ent {it : Nat} {v : Value} (h : (Instr.entry (pt it 0)).run P w = .ok v w) (hh : K v w) : opS P (S.ent (pt it 0)) K w := by
  unfold S.ent
  rw [opS_bind, h]
  exact hh

end
end Go.Gx
end

section
/- Bytes, texts of bytes, frames. -/
namespace Go.Gx
open Go
variable {P : Program} {K : Value → World → Prop} {w : World}

/-! ### Bytes -/

def cell1 (n : Int) : List Value := [u8 n]
/-- bytes that can be read -/
def ByR (w : World) (v : Value) (bs : List Int) : Prop := RdE 1 w v (bs.map cell1) ∧ ∀ b ∈ bs, isB b
theorem ByR.fr {fp : Nat → Prop} {w w' : World} {v : Value} {bs : List Int} (h : ByR w v bs) (hf : Fr fp w w') (hn : ∀ b, blkS v = some b → ¬ fp b) : ByR w' v bs := ⟨h.1.fr hf hn, h.2⟩
theorem ByR.form {v : Value} {bs : List Int} (h : ByR w v bs) : ∃ a c, v = .slice a bs.length c := by
  obtain ⟨a, c, rfl⟩ := h.1.form
  exact ⟨a, c, by simp⟩
theorem ByR.nil (w : World) (a : Option Addr) (c : Nat) : ByR w (.slice a 0 c) [] := ⟨⟨.inl ⟨⟨_, _, rfl⟩, rfl, rfl⟩, by simp⟩, by simp⟩
theorem flat_cell1 (bs : List Int) : (bs.map cell1).flatten = bs.map u8 := by
  induction bs with
  | nil => rfl
  | cons b bs ih => simp [cell1, ih]
theorem flat_cell1_one (bs : List Int) : (bs.map cell1).flatten.all S.oneCell = true := by
  rw [flat_cell1, List.all_map, List.all_eq_true]
  intro x _
  rfl

/-- bytes as_ a text -/
def strOf (bs : List Int) : ByteArray := ⟨(bs.map fun n => UInt8.ofNat n.toNat).toArray⟩

theorem byte_inj {a b : Int} (ha : isB a) (hb : isB b) (h : UInt8.ofNat a.toNat = UInt8.ofNat b.toNat) : a = b := by
  have := congrArg UInt8.toNat h
  simp only [UInt8.toNat_ofNat'] at this
  unfold isB at ha hb
  omega

theorem strOf_inj : ∀ {a b : List Int}, (∀ x ∈ a, isB x) → (∀ x ∈ b, isB x) → ((strOf a).data.toList = (strOf b).data.toList ↔ a = b)
  | [], [], _, _ => by simp [strOf]
  | [], b :: bs, _, _ => by simp [strOf]
  | a :: as_, [], _, _ => by simp [strOf]
  | a :: as_, b :: bs, ha, hb => by
    have ih := @strOf_inj as_ bs (fun x hx => ha x (List.mem_cons_of_mem _ hx)) (fun x hx => hb x (List.mem_cons_of_mem _ hx))
    simp only [strOf] at ih ⊢
    simp only [List.map_cons, List.cons.injEq]
    constructor
    · rintro ⟨h1, h2⟩
      exact ⟨byte_inj (ha a (List.mem_cons_self ..)) (hb b (List.mem_cons_self ..)) h1, ih.1 h2⟩
    · rintro ⟨rfl, rfl⟩
      exact ⟨rfl, rfl⟩

class StrT (P : Program) (T : TypeId) : Prop where
  und : P.underlying T = some .string
class ByT (P : Program) (T : TypeId) : Prop where
  und : ∃ e, P.underlying T = some (.slice e) ∧ P.underlying e = some (.int .u8)

theorem push_strOf (bs cs : List Int) : cs.foldl (fun (s : ByteArray) n => s.push (UInt8.ofNat n.toNat)) (strOf bs) = strOf (bs ++ cs) := by
  induction cs generalizing bs with
  | nil => simp
  | cons c cs ih =>
    rw [List.foldl_cons]
    have : (strOf bs).push (UInt8.ofNat c.toNat) = strOf (bs ++ [c]) := by
      simp [strOf, ByteArray.push]
    rw [this, ih]
    simp

theorem run_b2s {v : Value} {bs : List Int} (h : ByR w v bs) : (Conv.bytesToString v).run P w = .ok (.string (strOf bs)) w := by
  obtain ⟨a, c, rfl⟩ := h.form
  have hf : (Builtin.firstCells 1 bs.length (.slice a bs.length c)).run P w = .ok (bs.map u8).toArray w := by
    have h1 := h.1.1
    rw [flat_cell1, List.length_map] at h1
    exact run_firstCells h1
  cases a with
  | none =>
    have hn : bs = [] := by
      rcases h.1.1 with ⟨_, h2, _⟩ | ⟨b, o, c', cs, T, fz, hv, _⟩
      · exact List.map_eq_nil_iff.1 (List.eq_nil_of_length_eq_zero h2)
      · cases hv
    subst hn
    rfl
  | some a =>
    unfold Conv.bytesToString
    have hl : (loadCells a bs.length).run P w = .ok (bs.map u8).toArray w := by
      have e : Builtin.firstCells 1 bs.length (.slice (some a) bs.length c) = loadCells a (bs.length * 1) := rfl
      rw [e, Nat.mul_one] at hf
      exact hf
    simp only []
    rw [Sem.run_bind, hl, Result.andThen_ok]
    have key : ∀ (F : Value → ByteArray → Sem (ForInStep ByteArray)), (∀ n r, F (u8 n) r = pure (ForInStep.yield (r.push (UInt8.ofNat n.toNat)))) →
        ∀ (cs ds : List Int), (forIn (cs.map u8) (strOf ds) F).run P w = .ok (strOf (ds ++ cs)) w := by
      intro F hF cs
      induction cs with
      | nil => intro ds; simp
      | cons c cs ih =>
        intro ds
        rw [List.map_cons, List.forIn_cons, hF]
        simp only [pure_bind]
        have : (strOf ds).push (UInt8.ofNat c.toNat) = strOf (ds ++ [c]) := by simp [strOf, ByteArray.push]
        rw [this]
        have := ih (ds ++ [c])
        rw [List.append_assoc] at this
        exact this
    rw [← Array.forIn_toList, Sem.run_bind]
    have e0 : ByteArray.empty = strOf [] := rfl
    rw [e0, key _ (fun n r => rfl) bs []]
    rfl

theorem s_b2s {T S' : TypeId} [hT : ByT P T] [hS : StrT P S'] {v : Value} {bs : List Int} (h : ByR w v bs) : opS P (S.conv T S' v) K w = K (.string (strOf bs)) w := by
  unfold S.conv
  rw [opS_bind]
  obtain ⟨e, h1, h2⟩ := hT.und
  have hr : (convert T S' v).run P w = .ok (.string (strOf bs)) w := by
    have hb := run_b2s (P := P) h
    obtain ⟨a, c, rfl⟩ := h.form
    unfold convert
    rw [Sem.run_bind, run_underlying_of h1, Result.andThen_ok, Sem.run_bind, run_underlying_of hS.und, Result.andThen_ok]
    simp only []
    rw [Sem.run_bind, run_underlying_of h2, Result.andThen_ok]
    exact hb
  rw [hr]

theorem s_eqS {a b : List Int} (ha : ∀ x ∈ a, isB x) (hb : ∀ x ∈ b, isB x) : opS P (S.binS .eql (.string (strOf a)) (.string (strOf b))) K w = K (.bool (decide (a = b))) w := by
  unfold S.binS
  simp only []
  rw [opS_bind]
  have : (Op.stringOp .eql (strOf a) (strOf b)).run P w = .ok (.bool (decide (a = b))) w := by
    unfold Op.stringOp
    simp only [Sem.run_pure]
    congr 2
    have e : ∀ x : List Int, (strOf x).toList = (strOf x).data.toList := fun x => by
      exact ByteArray.toList_eq _
    rw [e, e]
    have := strOf_inj ha hb
    by_cases h : a = b
    · subst h; simp
    · rw [decide_eq_false h]
      simpa using fun h2 => h (this.1 h2)
  rw [this]

/-! ### Frames -/

@[ext] structure Frm where
  dst : Mac
  src : Mac
  tagged : Bool
  vlan : Int
  prio : Int
  type : Int
  body : Value

def Frm.cells (f : Frm) : List Value :=
  [u8 f.dst.b0, u8 f.dst.b1, u8 f.dst.b2, u8 f.dst.b3, u8 f.dst.b4, u8 f.dst.b5, u8 f.src.b0, u8 f.src.b1, u8 f.src.b2, u8 f.src.b3, u8 f.src.b4, u8 f.src.b5, .bool f.tagged, i64 f.vlan, i64 f.prio, i64 f.type, f.body]
/-- a frame's numbers are of their kinds -/
def Frm.ok (f : Frm) : Prop := f.dst.ok ∧ f.src.ok ∧ isI f.vlan ∧ isI f.prio ∧ isI f.type
/-- a frame that can be read, and the bytes of its body -/
def FrmR (w : World) (f : Frm) (bs : List Int) : Prop := f.ok ∧ ByR w f.body bs
theorem FrmR.fr {fp : Nat → Prop} {w w' : World} {f : Frm} {bs : List Int} (h : FrmR w f bs) (hf : Fr fp w w') (hn : ∀ b, blkS f.body = some b → ¬ fp b) : FrmR w' f bs := ⟨h.1, h.2.fr hf hn⟩
theorem FrmR.fr0 {w w' : World} {f : Frm} {bs : List Int} (h : FrmR w f bs) (hf : Fr none_ w w') : FrmR w' f bs := h.fr hf fun _ _ h => h

def zMac : Mac := ⟨0, 0, 0, 0, 0, 0⟩
def zFrm : Frm := ⟨zMac, zMac, false, 0, 0, 0, .slice none 0 0⟩
theorem zFrmR (w : World) : FrmR w zFrm [] := ⟨⟨by simp [zFrm, zMac, Mac.ok, isB], by simp [zFrm, zMac, Mac.ok, isB], isI_iff.2 (by simp [zFrm]), isI_iff.2 (by simp [zFrm]), isI_iff.2 (by simp [zFrm])⟩, ByR.nil _ _ _⟩

/-- may it be? n: how long its body is -/
def Frm.right (f : Frm) (n : Nat) : Bool :=
  decide (1536 ≤ f.type ∧ f.type ≤ 65535 ∧ f.type ≠ 33024 ∧ n ≤ 1500) && (if f.tagged then decide (0 ≤ f.vlan ∧ f.vlan ≤ 4094 ∧ 0 ≤ f.prio ∧ f.prio ≤ 7) else decide (f.vlan = 0 ∧ f.prio = 0))

def Frm.tag (f : Frm) (v p : Int) : Frm := { f with tagged := true, vlan := v, prio := p }
def Frm.untag (f : Frm) : Frm := { f with tagged := false, vlan := 0, prio := 0 }

theorem Frm.len (f : Frm) : f.cells.length = 17 := id rfl
theorem Frm.g12 (f : Frm) : f.cells[12]? = some (.bool f.tagged) := id rfl
theorem Frm.g13 (f : Frm) : f.cells[13]? = some (i64 f.vlan) := id rfl
theorem Frm.g14 (f : Frm) : f.cells[14]? = some (i64 f.prio) := id rfl
theorem Frm.g15 (f : Frm) : f.cells[15]? = some (i64 f.type) := id rfl
theorem Frm.g16 (f : Frm) : f.cells[16]? = some f.body := id rfl
theorem Frm.d0 (f : Frm) : (f.cells.drop 0).take 6 = f.dst.cells := id rfl
theorem Frm.d6 (f : Frm) : (f.cells.drop 6).take 6 = f.src.cells := id rfl
theorem Frm.dw (f : Frm) : (f.cells.drop 0).take 17 = f.cells := id rfl
theorem Frm.s12 (f : Frm) (b : Bool) : splice f.cells 12 [.bool b] = { f with tagged := b }.cells := id rfl
theorem Frm.s13 (f : Frm) (n : Int) : splice f.cells 13 [i64 n] = { f with vlan := n }.cells := id rfl
theorem Frm.s14 (f : Frm) (n : Int) : splice f.cells 14 [i64 n] = { f with prio := n }.cells := id rfl
theorem Frm.s15 (f : Frm) (n : Int) : splice f.cells 15 [i64 n] = { f with type := n }.cells := id rfl
theorem Frm.s16 (f : Frm) (v : Value) : splice f.cells 16 [v] = { f with body := v }.cells := id rfl
theorem Frm.s0 (f : Frm) (m : Mac) : splice f.cells 0 m.cells = { f with dst := m }.cells := id rfl
theorem Frm.s6 (f : Frm) (m : Mac) : splice f.cells 6 m.cells = { f with src := m }.cells := id rfl
theorem Frm.sw (f g : Frm) : splice f.cells 0 g.cells = g.cells := id rfl
theorem Frm.one (f : Frm) (h : S.oneCell f.body = true) : f.cells.all S.oneCell = true := by
  simp only [Frm.cells, List.all_cons, one_int, one_bool, h, List.all_nil, Bool.and_self]
theorem Mac.one (m : Mac) : m.cells.all S.oneCell = true := id rfl
theorem Mac.len (m : Mac) : m.cells.length = 6 := id rfl
theorem ByR.one {v : Value} {bs : List Int} (h : ByR w v bs) : S.oneCell v = true := h.1.one
theorem FrmR.one {f : Frm} {bs : List Int} (h : FrmR w f bs) : f.cells.all S.oneCell = true := Frm.one _ h.2.one
attribute [push_cast] Frm.len Frm.g12 Frm.g13 Frm.g14 Frm.g15 Frm.g16 Frm.d0 Frm.d6 Frm.dw Frm.s12 Frm.s13 Frm.s14 Frm.s15 Frm.s16 Frm.s0 Frm.s6 Frm.sw Mac.one Mac.len

/-- what comes behind is small: it may stand in each way -/
theorem jn_1 {k : Value → World → Prop} {m : (Value → World → Prop) → World → Prop} : jnJ 1 k m = m k := id rfl
theorem jn_0 {k : World → Prop} {m : (World → Prop) → World → Prop} : jnJ 0 k m = m k := id rfl

end Go.Gx
end

section
/- What is asked of the program as a whole. -/
set_option maxRecDepth 100000
namespace Go.Gx.S
open Go Go.Gx Go.Proofs

theorem laidOut : laidOutB Tryz.prog = true := by kernel_rfl
theorem ctInt : Tryz.prog.cellsOf 3 = 1 := by kernel_rfl
theorem ctBool : Tryz.prog.cellsOf 4 = 1 := by kernel_rfl
theorem uInt : Tryz.prog.underlying 3 = some (.int .i64) := Tryz.underlying3
theorem uBool : Tryz.prog.underlying 4 = some .bool := Tryz.underlying4
theorem own : ownKnob Tryz.prog.godebug = none := by kernel_rfl

end Go.Gx.S
end

section
/- Addresses, bytes and texts among the program's types. -/
set_option maxRecDepth 100000
namespace Go.Gx.S
open Go Go.Gx Go.Proofs

theorem ctByte : Tryz.prog.cellsOf 5 = 1 := by kernel_rfl
theorem ctMac : Tryz.prog.cellsOf 24 = 6 := by kernel_rfl
instance : MacT Tryz.prog 24 5 := ⟨Tryz.underlying24, Tryz.underlying5, ctByte, ctMac⟩
instance : StrT Tryz.prog 9 := ⟨Tryz.underlying9⟩
instance : ByT Tryz.prog 25 := ⟨⟨_, Tryz.underlying25, Tryz.underlying5⟩⟩

end Go.Gx.S
end

section
/- Tables of VLANs: what they come to, in plain Lean. -/
namespace Go.Gx
open Go

/-- members, in the order in which they came, and the native VLANs of the ports -/
structure VT where
  tab : List ((Int × Int) × Bool)
  nat : List Int

namespace VT
def port (t : VT) (p : Int) : Prop := 0 ≤ p ∧ p < t.nat.length
instance (t : VT) (p : Int) : Decidable (t.port p) := by unfold port; infer_instance
def right (t : VT) (v p : Int) : Prop := 1 ≤ v ∧ v ≤ 4094 ∧ t.port p
instance (t : VT) (v p : Int) : Decidable (t.right v p) := by unfold right; infer_instance
structure ok (t : VT) : Prop where
  len : t.nat.length ≤ 64
  key : ∀ x ∈ t.tab, t.right x.1.1 x.1.2
  nat : ∀ n ∈ t.nat, 0 ≤ n ∧ n ≤ 4094
  nd : (t.tab.map Prod.fst).Nodup

def new (n : Nat) : VT := ⟨[], List.replicate n 0⟩
def add (t : VT) (v p : Int) (b : Bool) : VT × Int := if t.right v p then ({ t with tab := setL t.tab (v, p) b }, 0) else (t, 1)
def remove (t : VT) (v p : Int) : VT × Int := if t.right v p then (if (getL t.tab (v, p)).isSome then ({ t with tab := delL t.tab (v, p) }, 0) else (t, 4)) else (t, 1)
def native (t : VT) (p v : Int) : VT × Int := if t.port p ∧ 0 ≤ v ∧ v ≤ 4094 then ({ t with nat := t.nat.set p.toNat v }, 0) else (t, 1)
def is (t : VT) (v p : Int) : Bool := (getL t.tab (v, p)).isSome
def members (t : VT) (v : Int) : List Int := ((List.range t.nat.length).map Int.ofNat).filter fun p => t.is v p
def inn (t : VT) (p : Int) (f : Frm) (n : Nat) : Int × Int :=
  if t.port p ∧ f.right n = true then
    let v := if f.vlan = 0 then t.nat.getD p.toNat 0 else f.vlan
    if t.is v p then (v, 0) else (0, 4)
  else (0, 1)
def out (t : VT) (v p : Int) (f : Frm) (n : Nat) : Frm × Int :=
  if t.right v p ∧ f.right n = true then
    match getL t.tab (v, p) with
    | none => (zFrm, 4)
    | some true => (f.tag v f.prio, 0)
    | some false => (f.untag, 0)
  else (zFrm, 1)

theorem ok_new {n : Nat} (h : n ≤ 64) : (new n).ok := ⟨by simpa [new] using h, by simp [new], by simp [new], by simp [new]⟩

theorem setL_mem {κ ν : Type} [DecidableEq κ] {l : List (κ × ν)} {k : κ} {v : ν} {x : κ × ν} (h : x ∈ setL l k v) : x = (k, v) ∨ x ∈ l := by
  unfold setL at h
  split at h
  · rw [List.mem_map] at h
    obtain ⟨p, hp, rfl⟩ := h
    split
    · exact .inl rfl
    · exact .inr hp
  · rcases List.mem_append.1 h with h | h
    · exact .inr h
    · simp at h; exact .inl h

theorem setL_nodup {κ ν : Type} [DecidableEq κ] {l : List (κ × ν)} {k : κ} {v : ν} (h : (l.map Prod.fst).Nodup) : ((setL l k v).map Prod.fst).Nodup := by
  rw [setL_keys]
  split
  · exact h
  · rename_i hn
    rw [List.nodup_append]
    refine ⟨h, by simp, ?_⟩
    intro a ha b hb
    simp at hb
    subst hb
    obtain ⟨p, hp, rfl⟩ := List.mem_map.1 ha
    refine not_key ?_ p hp
    cases hl : getL l b with
    | none => rfl
    | some v => rw [hl] at hn; exact absurd rfl hn

theorem delL_sub {κ ν : Type} [DecidableEq κ] (l : List (κ × ν)) (k : κ) : (delL l k).Sublist l := List.filter_sublist

theorem ok_add {t : VT} (h : t.ok) (v p : Int) (b : Bool) : (t.add v p b).1.ok := by
  unfold add
  split
  · rename_i hr
    refine ⟨h.len, fun x hx => ?_, h.nat, setL_nodup h.nd⟩
    rcases setL_mem hx with rfl | hx
    · exact hr
    · exact h.key x hx
  · exact h
theorem ok_remove {t : VT} (h : t.ok) (v p : Int) : (t.remove v p).1.ok := by
  unfold remove
  split
  · split
    · exact ⟨h.len, fun x hx => h.key x ((delL_sub _ _).subset hx), h.nat, h.nd.sublist ((delL_sub _ _).map _)⟩
    · exact h
  · exact h
theorem ok_native {t : VT} (h : t.ok) (p v : Int) : (t.native p v).1.ok := by
  unfold native
  split
  · rename_i hr
    refine ⟨by simpa using h.len, fun x hx => ?_, fun n hn => ?_, h.nd⟩
    · have := h.key x hx
      unfold right port at this ⊢
      simpa using this
    · rcases List.mem_or_eq_of_mem_set hn with hn | rfl
      · exact h.nat n hn
      · exact ⟨hr.2.1, hr.2.2⟩
  · exact h
theorem is_right {t : VT} (h : t.ok) {v p : Int} (hi : t.is v p = true) : t.right v p := by
  obtain ⟨b, hb⟩ := Option.isSome_iff_exists.1 hi
  exact h.key _ (lookup_some_mem hb)

theorem tag_right {f : Frm} {n : Nat} (h : f.right n = true) {v : Int} (h1 : 1 ≤ v) (h2 : v ≤ 4094) : (f.tag v f.prio).right n = true := by
  unfold Frm.right Frm.tag at *
  simp only [Bool.and_eq_true, decide_eq_true_eq, if_true] at h ⊢
  obtain ⟨h3, h4⟩ := h
  refine ⟨h3, ?_⟩
  split at h4 <;> simp only [decide_eq_true_eq] at h4 <;> omega

/-! ### Where a key stands -/

theorem get_at {κ ν : Type} [DecidableEq κ] {l : List (κ × ν)} {k : κ} {v : ν} (h : getL l k = some v) : ∃ j : Nat, l[j]? = some (k, v) := by
  obtain ⟨j, hj⟩ := List.mem_iff_getElem?.1 (lookup_some_mem h)
  exact ⟨j, hj⟩

theorem nodup_at {κ ν : Type} {l : List (κ × ν)} (hn : (l.map Prod.fst).Nodup) {i j : Nat} {p q : κ × ν} (hi : l[i]? = some p) (hj : l[j]? = some q) (h : p.1 = q.1) : i = j := by
  have hi' := (List.getElem?_eq_some_iff.1 hi)
  have hj' := (List.getElem?_eq_some_iff.1 hj)
  obtain ⟨h1, h2⟩ := hi'
  obtain ⟨h3, h4⟩ := hj'
  have : (l.map Prod.fst)[i]'(by simpa using h1) = (l.map Prod.fst)[j]'(by simpa using h3) := by
    simp only [List.getElem_map]
    rw [h2, h4, h]
  exact (List.getElem_inj hn).1 this

theorem setL_at {κ ν : Type} [DecidableEq κ] {l : List (κ × ν)} (hn : (l.map Prod.fst).Nodup) {j : Nat} {k : κ} {u : ν} (hj : l[j]? = some (k, u)) (v : ν) : setL l k v = l.set j (k, v) := by
  unfold setL
  rw [if_pos (by rw [lookup_of_mem hn (List.mem_of_getElem? hj)]; rfl)]
  apply List.ext_getElem?
  intro i
  rw [List.getElem?_map, List.getElem?_set]
  have hlt := (List.getElem?_eq_some_iff.1 hj).1
  by_cases e : j = i
  · subst e
    rw [if_pos rfl, if_pos hlt, hj]
    simp
  · rw [if_neg e]
    cases hq : l[i]? with
    | none => rfl
    | some q =>
      rw [Option.map_some, if_neg]
      intro hqk
      exact e (nodup_at hn hj hq hqk.symm)

theorem setL_new {κ ν : Type} [DecidableEq κ] {l : List (κ × ν)} {k : κ} (h : getL l k = none) (v : ν) : setL l k v = l ++ [(k, v)] := by
  unfold setL
  rw [if_neg (by rw [h]; simp)]

theorem delL_at {κ ν : Type} [DecidableEq κ] {l : List (κ × ν)} (hn : (l.map Prod.fst).Nodup) {j : Nat} {k : κ} {u : ν} (hj : l[j]? = some (k, u)) : delL l k = l.take j ++ l.drop (j + 1) := by
  unfold delL
  induction l generalizing j with
  | nil => cases hj
  | cons q l ih =>
    rw [List.map_cons, List.nodup_cons] at hn
    cases j with
    | zero =>
      cases hj
      rw [List.filter_cons, if_neg (by simp), List.take_zero, List.nil_append, List.drop_succ_cons, List.drop_zero]
      apply List.filter_eq_self.2
      intro a ha
      simp only [decide_eq_true_eq]
      intro e
      exact hn.1 (List.mem_map.2 ⟨a, ha, e⟩)
    | succ j =>
      rw [List.getElem?_cons_succ] at hj
      have hne : q.1 ≠ k := fun e => hn.1 (by rw [e]; exact List.mem_map_of_mem (f := Prod.fst) (List.mem_of_getElem? hj))
      rw [List.filter_cons, if_pos (by simpa using hne), List.take_succ_cons, List.drop_succ_cons, List.cons_append, ih hn.2 hj]

theorem nodup_short : ∀ (n : Nat) (l : List Nat), l.Nodup → (∀ x ∈ l, x < n) → l.length ≤ n
  | 0, [], _, _ => Nat.le_refl _
  | 0, x :: l, _, h => by have := h x (List.mem_cons_self ..); omega
  | n + 1, l, hn, h => by
    have ih := nodup_short n (l.filter fun x => decide (x ≠ n)) (hn.filter _) (fun x hx => by
      have h1 := h x (List.mem_filter.1 hx).1
      have h2 : x ≠ n := by simpa using (List.mem_filter.1 hx).2
      omega)
    have key : ∀ l : List Nat, l.Nodup → l.length ≤ (l.filter fun x => decide (x ≠ n)).length + 1 := by
      intro l hn
      induction l with
      | nil => simp
      | cons a l ih =>
        rw [List.nodup_cons] at hn
        rw [List.filter_cons]
        by_cases e : a = n
        · subst e
          rw [if_neg (by simp)]
          have : l.filter (fun x => decide (x ≠ a)) = l := List.filter_eq_self.2 fun x hx => by
            simp only [decide_eq_true_eq]
            intro e
            exact hn.1 (e ▸ hx)
          rw [this]; simp
        · rw [if_pos (by simpa using e)]
          have := ih hn.2
          simp only [List.length_cons]; omega
    have := key l hn
    omega

theorem small {t : VT} (h : t.ok) : t.tab.length ≤ 262144 := by
  have h1 := h.len
  have := nodup_short (4095 * 64) ((t.tab.map Prod.fst).map fun k => k.1.toNat * 64 + k.2.toNat) (by
    refine List.Pairwise.map (R := fun a b : Int × Int => a.1.toNat * 64 + a.2.toNat ≠ b.1.toNat * 64 + b.2.toNat) _ ?_ (List.Pairwise.imp_of_mem ?_ h.nd)
    · exact fun a b (h : a.1.toNat * 64 + a.2.toNat ≠ b.1.toNat * 64 + b.2.toNat) => h
    · intro a b ha hb hab he
      obtain ⟨x, hx, rfl⟩ := List.mem_map.1 ha
      obtain ⟨y, hy, rfl⟩ := List.mem_map.1 hb
      have a1 := h.key x hx
      have a2 := h.key y hy
      unfold right port at a1 a2
      apply hab
      apply Prod.ext <;> omega) (by
    intro n hn
    obtain ⟨k, hk, rfl⟩ := List.mem_map.1 hn
    obtain ⟨x, hx, rfl⟩ := List.mem_map.1 hk
    have a1 := h.key x hx
    unfold right port at a1
    omega)
  simp at this
  omega

end VT
end Go.Gx
end

section
/- Loops with more values, slices of one cell an element. -/
namespace Go.Gx
open Go
variable {P : Program} {K : Value → World → Prop} {w : World}

theorem loop2 {B : (Value → Value → World → Prop) → Value → Value → World → Prop} (I : Nat → Value → Value → World → Prop) (h : ∀ n v u w X, I n v u w → (∀ m v' u' w', m < n → I m v' u' w' → X v' u' w') → B X v u w) (n : Nat) {v u : Value} (h0 : I n v u w) : loopJ 2 B v u w := by
  intro X hX
  have key : ∀ n v u w, (∃ m, m ≤ n ∧ I m v u w) → X v u w := by
    intro n
    induction n with
    | zero =>
      rintro v u w ⟨m, hm, hi⟩
      obtain rfl : m = 0 := by omega
      exact hX v u w (h 0 v u w X hi fun m v' u' w' hm _ => by omega)
    | succ n ih =>
      rintro v u w ⟨m, hm, hi⟩
      exact hX v u w (h m v u w X hi fun k v' u' w' hk hi' => ih v' u' w' ⟨k, by omega, hi'⟩)
  exact key n v u w ⟨n, Nat.le_refl _, h0⟩

theorem loop3 {B : (Value → Value → Value → World → Prop) → Value → Value → Value → World → Prop} (I : Nat → Value → Value → Value → World → Prop) (h : ∀ n v u x w X, I n v u x w → (∀ m v' u' x' w', m < n → I m v' u' x' w' → X v' u' x' w') → B X v u x w) (n : Nat) {v u x : Value} (h0 : I n v u x w) : loopJ 3 B v u x w := by
  intro X hX
  have key : ∀ n v u x w, (∃ m, m ≤ n ∧ I m v u x w) → X v u x w := by
    intro n
    induction n with
    | zero =>
      rintro v u x w ⟨m, hm, hi⟩
      obtain rfl : m = 0 := by omega
      exact hX v u x w (h 0 v u x w X hi fun m v' u' x' w' hm _ => by omega)
    | succ n ih =>
      rintro v u x w ⟨m, hm, hi⟩
      exact hX v u x w (h m v u x w X hi fun k v' u' x' w' hk hi' => ih v' u' x' w' ⟨k, by omega, hi'⟩)
  exact key n v u x w ⟨n, Nat.le_refl _, h0⟩

theorem jn2 {k : Value → Value → World → Prop} {m : (Value → Value → World → Prop) → World → Prop} (Q : Value → Value → World → Prop) (h1 : ∀ v u w', Q v u w' → k v u w') (h2 : ∀ j : Value → Value → World → Prop, (∀ v u w', Q v u w' → j v u w') → m j w) : jnJ 2 k m w := h2 k h1
theorem jn3 {k : Value → Value → Value → World → Prop} {m : (Value → Value → Value → World → Prop) → World → Prop} (Q : Value → Value → Value → World → Prop) (h1 : ∀ v u x w', Q v u x w' → k v u x w') (h2 : ∀ j : Value → Value → Value → World → Prop, (∀ v u x w', Q v u x w' → j v u x w') → m j w) : jnJ 3 k m w := h2 k h1

theorem s_bs1c {T E : TypeId} {ag : Bool} {z : Value} [hT : SlT P T E] [hs : Sz P E 1 ag] [hz : ZV P E z] {x : Value} (hx : S.oneCell x = true) (hzn : z.cells.size = 1)
    (h : ∀ v' w', OwnE E 1 w' v' [[x]] → Fr none_ w w' → New w v' → K v' w') : opS P (S.buildS T 1 [(0, x)]) K w := by
  have hc : x.cells = #[x] := by cases x <;> first | rfl | cases hx
  rw [opS_buildS1 (n := 1) _ (by rw [hc]; rfl) hzn (by decide) (by decide), hc]
  refine h _ _ ⟨.inr ⟨w.heap.size, 0, 1, #[x], rfl, heap_alloc_new _ _, by simp, by simp, by simp⟩, by simp⟩ (Fr.alloc _ _ rfl) fun b hb => ?_
  cases hb; exact Nat.le_refl _

/-- what is known of a world is all that counts -/
theorem at_w (Q : World → Prop) {G : World → Prop} {W : World} (hQ : Q W) (h : ∀ W, Q W → G W) : G W := h W hQ

/-- whole numbers as elements -/
def cellI (n : Int) : List Value := [i64 n]
theorem flat_cellI (l : List Int) : (l.map cellI).flatten = l.map i64 := by
  induction l with
  | nil => rfl
  | cons b bs ih => simp [cellI, ih]
theorem flat_cellI_one (l : List Int) : (l.map cellI).flatten.all S.oneCell = true := by
  rw [flat_cellI, List.all_map, List.all_eq_true]
  intro x _
  rfl

/-- the empty slice -/
theorem own_nil (E sz : Nat) (w : World) : OwnE E sz w (.slice none 0 0) [] := ⟨.inl ⟨rfl, rfl, rfl⟩, by simp⟩

/-- 'append(v, x)': x has one cell -/
theorem s_app1 {T T2 T3 E by_ : TypeId} {ag : Bool} {z : Value} [hT : SlT P T E] [hT2 : SlT P T2 E] [hT3 : SlT P T3 E] [hs : Sz P E 1 ag] [hb : By P E by_] [hz : ZV P E z] {ty : TypeId} {v : Value} {es : List (List Value)} {x : Value}
    (hx : S.oneCell x = true) (hzn : z.cells.size = 1) (hby : 0 < by_) (hv : OwnE E 1 w v es) (hroom : (2 * (es.length + 1) + 192) * by_ ≤ 2 ^ 48)
    (h : ∀ v' w', OwnE E 1 w' v' (es ++ [[x]]) → (blkS v' = blkS v ∨ New w v') → Fr (fun b => blkS v = some b) w w' → K v' w') :
    opS P (S.buildS T3 1 [(0, x)]) (fun y => opS P (S.bi .append #[T, T2] ty [v, y]) K) w := by
  refine s_bs1c hx hzn fun y w1 hy hF1 hN => ?_
  have hv1 := hv.fr hF1 (fun _ _ h => h)
  refine s_app hzn hby hv1 hy.rd (by simp [hx]) (by simpa using hroom) fun v' w' h1 h2 h3 => h v' w' h1 ?_ (Fr.trans (hF1.mono fun _ _ h => h.elim) h3)
  rcases h2 with h2 | h2
  · exact .inl h2
  · exact .inr fun b hb => Nat.le_trans hF1.size (h2 b hb)

theorem splice_get {l vs : List Value} {o : Nat} (h : o + vs.length ≤ l.length) (j : Nat) : (splice l o vs)[j]? = if j < o then l[j]? else if j < o + vs.length then vs[j - o]? else l[j]? := by
  unfold splice
  have ht : (l.take o).length = o := by rw [List.length_take]; omega
  by_cases h1 : j < o
  · rw [if_pos h1, List.append_assoc, List.getElem?_append_left (by omega), List.getElem?_take_of_lt h1]
  · rw [if_neg h1]
    by_cases h2 : j < o + vs.length
    · rw [if_pos h2, List.append_assoc, List.getElem?_append_right (by omega), ht, List.getElem?_append_left (by omega)]
    · rw [if_neg h2, List.getElem?_append_right (by rw [List.length_append]; omega), List.length_append, ht, List.getElem?_drop]
      congr 1
      omega

/-- one cell of an element -/
theorem splice_field {l e : List Value} {p f : Nat} {v : Value} (h : p + e.length ≤ l.length) (he : (l.drop p).take e.length = e) (hf : f < e.length) : splice l (p + f) [v] = splice l p (e.set f v) := by
  apply List.ext_getElem?
  intro j
  rw [splice_get (by simp; omega), splice_get (by simp; omega)]
  simp only [List.length_singleton, List.length_set]
  by_cases h1 : j < p
  · rw [if_pos (by omega), if_pos h1]
  · rw [if_neg h1]
    by_cases h2 : j < p + e.length
    · rw [if_pos h2, List.getElem?_set]
      have hj : l[j]? = e[j - p]? := by
        have : ((l.drop p).take e.length)[j - p]? = e[j - p]? := by rw [he]
        rw [List.getElem?_take_of_lt (by omega), List.getElem?_drop] at this
        rw [← this]; congr 1; omega
      by_cases h3 : j < p + f
      · rw [if_pos h3, if_neg (by omega), hj]
      · rw [if_neg h3]
        by_cases h4 : j = p + f
        · subst h4
          rw [if_pos (by omega), if_pos (by omega), if_pos hf]
          simp
        · rw [if_neg (by omega), if_neg (by omega), hj]
    · rw [if_neg (by omega), if_neg (by omega), if_neg h2]

/-- one cell of an element is written -/
theorem OwnE.putF {E sz : Nat} {b o c i f : Nat} {es : List (List Value)} (h : OwnE E sz w (.slice (some ⟨b, o, none⟩) es.length c) es) (hi : i < es.length) (hf : f < sz) (v : Value) :
    okAt w.heap[b]? (o + i * sz + f) 1 = true ∧ OwnE E sz (wr w b (o + i * sz + f) [v]) (.slice (some ⟨b, o, none⟩) es.length c) (es.set i (es[i].set f v)) := by
  have hlen := h.2 _ (List.getElem_mem hi)
  obtain ⟨h1, h2⟩ := h.put (i := i) (e := es[i].set f v) (by rw [List.length_set, hlen]) hi
  obtain ⟨g1, g2⟩ := h
  rcases g1 with ⟨g1, _⟩ | ⟨b', o', c', cs, hv, hb, hc, ho, hl⟩
  · cases g1
  · simp only [Value.slice.injEq, Option.some.injEq, Addr.mk.injEq] at hv
    obtain ⟨⟨rfl, rfl, _⟩, _, rfl⟩ := hv
    have hm : i * sz + sz ≤ es.length * sz := by rw [← Nat.succ_mul]; exact Nat.mul_le_mul_right _ hi
    have hm2 : es.length * sz ≤ c * sz := Nat.mul_le_mul_right _ hc
    have hel : (cs.toList.drop (o + i * sz)).take es[i].length = es[i] := by
      have := flatten_elem g2 hi 0 sz (by omega)
      rw [hl, Nat.add_zero, List.drop_zero, List.drop_take, List.drop_drop, List.take_take, Nat.min_eq_left (by omega)] at this
      rw [hlen, this, List.take_of_length_le (by omega)]
    refine ⟨?_, ?_⟩
    · rw [hb]
      show (decide (o + i * sz + f + 1 ≤ cs.size) && _) = true
      simp only [Bool.and_eq_true, decide_eq_true_eq, List.all_eq_true]
      exact ⟨by omega, fun x _ => by simp⟩
    · have hw : wr w b (o + i * sz + f) [v] = wr w b (o + i * sz) (es[i].set f v) := by
        unfold wr
        rw [hb]
        simp only []
        have hle : o + i * sz + es[i].length ≤ cs.toList.length := by have e2 : cs.toList.length = cs.size := Array.length_toList; omega
        rw [splice_field hle hel (by omega)]
      rw [hw]
      exact h2

end Go.Gx
end

section
/- Frames, tags; tables of VLANs, and the document's. -/
set_option linter.unusedVariables false
set_option linter.unusedSimpArgs false
set_option maxRecDepth 100000
namespace Go.Gx.S.Vl
open Go Go.Gx Go.Proofs
variable {K : Value → World → Prop} {w : World}

theorem right_spec {f : Frm} {a : Option Addr} {n c : Nat} (hb : f.body = .slice a n c) (h : ∀ w', Fr none_ w w' → K (.bool (f.right n)) w') : CallsR Tryz.prog 69 #[.agg f.cells.toArray] K w := by
  apply c69
  unfold p69
  have hF : Fr none_ w (w.alloc (cellsO f.cells 27)) := (Fr.refl _ _).step_alloc rfl
  simp only [push_cast, Nat.reduceAdd, Nat.reduceLeDiff, Nat.reduceLT, Int.reduceToNat, Nat.left_eq_add, Nat.add_eq_left, Nat.add_left_cancel_iff, Nat.reduceEqDiff, Nat.add_assoc, Nat.succ_ne_zero, hb, jn_1]
  generalize w.alloc (cellsO f.cells 27) = W at *
  have h' : ∀ b, f.right n = b → K (.bool b) W := fun b e => e ▸ h W hF
  clear h
  repeat' first | with_reducible refine br_dec (fun _ => ?_) fun _ => ?_ | with_reducible refine br_intro (fun _ => ?_) fun _ => ?_
  all_goals
    refine h' _ ?_
    unfold Frm.right
    simp_all
    try first | omega | (rw [Bool.eq_iff_iff]; simp; omega)

theorem rright_spec {f : Frm} {a : Option Addr} {n c : Nat} (hb : f.body = .slice a n c) (h : ∀ w', Fr none_ w w' → K (.bool (f.right n)) w') : CallsR Tryz.prog 113 #[.agg f.cells.toArray] K w := by
  apply c113
  unfold p113
  have hF : Fr none_ w (w.alloc (cellsO f.cells 27)) := (Fr.refl _ _).step_alloc rfl
  simp only [push_cast, Nat.reduceAdd, Nat.reduceLeDiff, Nat.reduceLT, Int.reduceToNat, Nat.left_eq_add, Nat.add_eq_left, Nat.add_left_cancel_iff, Nat.reduceEqDiff, Nat.add_assoc, Nat.succ_ne_zero, hb, jn_1]
  generalize w.alloc (cellsO f.cells 27) = W at *
  have h' : ∀ b, f.right n = b → K (.bool b) W := fun b e => e ▸ h W hF
  clear h
  repeat' first | with_reducible refine br_dec (fun _ => ?_) fun _ => ?_ | with_reducible refine br_intro (fun _ => ?_) fun _ => ?_
  all_goals
    refine h' _ ?_
    unfold Frm.right
    simp_all
    try first | omega | (rw [Bool.eq_iff_iff]; simp; omega)


theorem build_zFrm : opS Tryz.prog (S.build 27 []) K w = K (.agg zFrm.cells.toArray) w := by
  rw [opS_build _ rfl]; rfl

theorem tag_spec {f : Frm} {bs : List Int} {v p : Int} (hb : FrmR w f bs) (h : ∀ w', Fr none_ w w' → K (if (f.tag v p).right bs.length then .tuple #[.agg (f.tag v p).cells.toArray, i64 0] else .tuple #[.agg zFrm.cells.toArray, i64 1]) w') :
    CallsR Tryz.prog 100 #[.agg f.cells.toArray, i64 v, i64 p] K w := by
  apply c100
  unfold p100
  obtain ⟨a, c, hbd⟩ := hb.2.form
  have hone : (f.tag v p).cells.all S.oneCell = true := Frm.one _ (by show S.oneCell f.body = true; rw [hbd]; rfl)
  have hone0 : zFrm.cells.all S.oneCell = true := rfl
  simp only [push_cast, Nat.reduceAdd, Nat.reduceLeDiff, Nat.reduceLT, Int.reduceToNat, Nat.left_eq_add, Nat.add_eq_left, Nat.add_left_cancel_iff, Nat.reduceEqDiff, Nat.add_assoc, Nat.succ_ne_zero]
  refine right_spec (f := f.tag v p) hbd fun W' hF' => ?_
  have h0 := hF'.heap (b := w.heap.size) (o := cellsO (f.tag v p).cells 27) (by simp only [push_cast, Nat.reduceAdd, Nat.reduceLeDiff, Nat.reduceLT, Int.reduceToNat, Nat.left_eq_add, Nat.add_eq_left, Nat.add_left_cancel_iff, Nat.reduceEqDiff, Nat.add_assoc, Nat.succ_ne_zero]; rfl) (fun h => h)
  have h1 := hF'.heap (b := w.heap.size + 1) (o := cellsO zFrm.cells 27) (by simp only [push_cast, Nat.reduceAdd, Nat.reduceLeDiff, Nat.reduceLT, Int.reduceToNat, Nat.left_eq_add, Nat.add_eq_left, Nat.add_left_cancel_iff, Nat.reduceEqDiff, Nat.add_assoc, Nat.succ_ne_zero]; rfl) (fun h => h)
  have hF : Fr none_ w W' := Fr.trans (by repeat' first | with_reducible exact Fr.refl _ _ | with_reducible refine Fr.step_alloc ?_ ?_ | with_reducible refine Fr.step_drew ?_ | with_reducible refine Fr.step_wr ?_ ?_ _ _ | exact rfl | exact Or.inr (by omega) | exact Or.inl rfl | exact Or.inl (Or.inl rfl) | exact Or.inl (Or.inr rfl)) hF'
  clear hF'
  simp only [push_cast, Nat.reduceAdd, Nat.reduceLeDiff, Nat.reduceLT, Int.reduceToNat, Nat.left_eq_add, Nat.add_eq_left, Nat.add_left_cancel_iff, Nat.reduceEqDiff, Nat.add_assoc, Nat.succ_ne_zero, h0, h1, hone]
  refine br_intro (fun hr => ?_) fun hr => ?_
  · simp only [build_zFrm, push_cast, Nat.reduceAdd, Nat.reduceLeDiff, Nat.reduceLT, Int.reduceToNat, Nat.left_eq_add, Nat.add_eq_left, Nat.add_left_cancel_iff, Nat.reduceEqDiff, Nat.add_assoc, Nat.succ_ne_zero, h0, h1, hone0]
    rw [show (f.tag v p).right bs.length = false by simpa using hr] at h
    exact h _ (hF.step_wr (Or.inr (by omega)) _ _)
  · rw [show (f.tag v p).right bs.length = true by simpa using hr] at h
    exact h _ (hF.step_wr (Or.inr (by omega)) _ _)

theorem rtag_spec {f : Frm} {bs : List Int} {v p : Int} (hb : FrmR w f bs) (h : ∀ w', Fr none_ w w' → K (if (f.tag v p).right bs.length then .tuple #[.agg (f.tag v p).cells.toArray, i64 0] else .tuple #[.agg zFrm.cells.toArray, i64 1]) w') :
    CallsR Tryz.prog 121 #[.agg f.cells.toArray, i64 v, i64 p] K w := by
  apply c121
  unfold p121
  obtain ⟨a, c, hbd⟩ := hb.2.form
  have hone : (f.tag v p).cells.all S.oneCell = true := Frm.one _ (by show S.oneCell f.body = true; rw [hbd]; rfl)
  have hone0 : zFrm.cells.all S.oneCell = true := rfl
  simp only [push_cast, Nat.reduceAdd, Nat.reduceLeDiff, Nat.reduceLT, Int.reduceToNat, Nat.left_eq_add, Nat.add_eq_left, Nat.add_left_cancel_iff, Nat.reduceEqDiff, Nat.add_assoc, Nat.succ_ne_zero]
  refine rright_spec (f := f.tag v p) hbd fun W' hF' => ?_
  have h0 := hF'.heap (b := w.heap.size) (o := cellsO (f.tag v p).cells 27) (by simp only [push_cast, Nat.reduceAdd, Nat.reduceLeDiff, Nat.reduceLT, Int.reduceToNat, Nat.left_eq_add, Nat.add_eq_left, Nat.add_left_cancel_iff, Nat.reduceEqDiff, Nat.add_assoc, Nat.succ_ne_zero]; rfl) (fun h => h)
  have h1 := hF'.heap (b := w.heap.size + 1) (o := cellsO zFrm.cells 27) (by simp only [push_cast, Nat.reduceAdd, Nat.reduceLeDiff, Nat.reduceLT, Int.reduceToNat, Nat.left_eq_add, Nat.add_eq_left, Nat.add_left_cancel_iff, Nat.reduceEqDiff, Nat.add_assoc, Nat.succ_ne_zero]; rfl) (fun h => h)
  have hF : Fr none_ w W' := Fr.trans (by repeat' first | with_reducible exact Fr.refl _ _ | with_reducible refine Fr.step_alloc ?_ ?_ | with_reducible refine Fr.step_drew ?_ | with_reducible refine Fr.step_wr ?_ ?_ _ _ | exact rfl | exact Or.inr (by omega) | exact Or.inl rfl | exact Or.inl (Or.inl rfl) | exact Or.inl (Or.inr rfl)) hF'
  clear hF'
  simp only [push_cast, Nat.reduceAdd, Nat.reduceLeDiff, Nat.reduceLT, Int.reduceToNat, Nat.left_eq_add, Nat.add_eq_left, Nat.add_left_cancel_iff, Nat.reduceEqDiff, Nat.add_assoc, Nat.succ_ne_zero, h0, h1, hone]
  refine br_intro (fun hr => ?_) fun hr => ?_
  · simp only [build_zFrm, push_cast, Nat.reduceAdd, Nat.reduceLeDiff, Nat.reduceLT, Int.reduceToNat, Nat.left_eq_add, Nat.add_eq_left, Nat.add_left_cancel_iff, Nat.reduceEqDiff, Nat.add_assoc, Nat.succ_ne_zero, h0, h1, hone0]
    rw [show (f.tag v p).right bs.length = false by simpa using hr] at h
    exact h _ (hF.step_wr (Or.inr (by omega)) _ _)
  · rw [show (f.tag v p).right bs.length = true by simpa using hr] at h
    exact h _ (hF.step_wr (Or.inr (by omega)) _ _)

theorem untag_spec {f : Frm} {bs : List Int} (hb : FrmR w f bs) (h : ∀ w', Fr none_ w w' → K (.agg f.untag.cells.toArray) w') : CallsR Tryz.prog 101 #[.agg f.cells.toArray] K w := by
  apply c101
  unfold p101
  obtain ⟨a, c, hbd⟩ := hb.2.form
  have hone : f.untag.cells.all S.oneCell = true := Frm.one _ (by show S.oneCell f.body = true; rw [hbd]; rfl)
  have e : ({ ({ ({ f with tagged := false } : Frm) with vlan := 0 } : Frm) with prio := 0 } : Frm) = f.untag := rfl
  simp only [push_cast, Nat.reduceAdd, Nat.reduceLeDiff, Nat.reduceLT, Int.reduceToNat, Nat.left_eq_add, Nat.add_eq_left, Nat.add_left_cancel_iff, Nat.reduceEqDiff, Nat.add_assoc, Nat.succ_ne_zero, e, hone]
  exact h _ (by repeat' first | with_reducible exact Fr.refl _ _ | with_reducible refine Fr.step_alloc ?_ ?_ | with_reducible refine Fr.step_drew ?_ | with_reducible refine Fr.step_wr ?_ ?_ _ _ | exact rfl | exact Or.inr (by omega) | exact Or.inl rfl | exact Or.inl (Or.inl rfl) | exact Or.inl (Or.inr rfl))

theorem runtag_spec {f : Frm} {bs : List Int} (hb : FrmR w f bs) (h : ∀ w', Fr none_ w w' → K (.agg f.untag.cells.toArray) w') : CallsR Tryz.prog 122 #[.agg f.cells.toArray] K w := by
  apply c122
  unfold p122
  obtain ⟨a, c, hbd⟩ := hb.2.form
  have hone : f.untag.cells.all S.oneCell = true := Frm.one _ (by show S.oneCell f.body = true; rw [hbd]; rfl)
  have e : ({ ({ ({ f with tagged := false } : Frm) with vlan := 0 } : Frm) with prio := 0 } : Frm) = f.untag := rfl
  simp only [push_cast, Nat.reduceAdd, Nat.reduceLeDiff, Nat.reduceLT, Int.reduceToNat, Nat.left_eq_add, Nat.add_eq_left, Nat.add_left_cancel_iff, Nat.reduceEqDiff, Nat.add_assoc, Nat.succ_ne_zero, e, hone]
  exact h _ (by repeat' first | with_reducible exact Fr.refl _ _ | with_reducible refine Fr.step_alloc ?_ ?_ | with_reducible refine Fr.step_drew ?_ | with_reducible refine Fr.step_wr ?_ ?_ _ _ | exact rfl | exact Or.inr (by omega) | exact Or.inl rfl | exact Or.inl (Or.inl rfl) | exact Or.inl (Or.inr rfl))

theorem same_spec {f g : Frm} {bs cs : List Int} (hf : FrmR w f bs) (hg : FrmR w g cs) (h : ∀ w', Fr none_ w w' → K (.bool (decide (f.dst = g.dst ∧ f.src = g.src ∧ f.tagged = g.tagged ∧ f.vlan = g.vlan ∧ f.prio = g.prio ∧ f.type = g.type ∧ bs = cs))) w') :
    CallsR Tryz.prog 40 #[.agg f.cells.toArray, .agg g.cells.toArray] K w := by
  apply c40
  unfold p40
  have hF : Fr none_ w ((w.alloc (cellsO f.cells 27)).alloc (cellsO g.cells 27)) := (by repeat' first | with_reducible exact Fr.refl _ _ | with_reducible refine Fr.step_alloc ?_ ?_ | with_reducible refine Fr.step_drew ?_ | with_reducible refine Fr.step_wr ?_ ?_ _ _ | exact rfl | exact Or.inr (by omega) | exact Or.inl rfl | exact Or.inl (Or.inl rfl) | exact Or.inl (Or.inr rfl))
  have h0 : ((w.alloc (cellsO f.cells 27)).alloc (cellsO g.cells 27)).heap[w.heap.size]? = some (cellsO f.cells 27) := by simp only [push_cast, Nat.reduceAdd, Nat.reduceLeDiff, Nat.reduceLT, Int.reduceToNat, Nat.left_eq_add, Nat.add_eq_left, Nat.add_left_cancel_iff, Nat.reduceEqDiff, Nat.add_assoc, Nat.succ_ne_zero]
  have h1 : ((w.alloc (cellsO f.cells 27)).alloc (cellsO g.cells 27)).heap[w.heap.size + 1]? = some (cellsO g.cells 27) := by simp only [push_cast, Nat.reduceAdd, Nat.reduceLeDiff, Nat.reduceLT, Int.reduceToNat, Nat.left_eq_add, Nat.add_eq_left, Nat.add_left_cancel_iff, Nat.reduceEqDiff, Nat.add_assoc, Nat.succ_ne_zero]
  simp only [opS_box, cells_agg, alloc_cellsO, size_alloc]
  generalize (w.alloc (cellsO f.cells 27)).alloc (cellsO g.cells 27) = W at *
  have hf' := hf.fr0 hF
  have hg' := hg.fr0 hF
  have h' : ∀ b, decide (f.dst = g.dst ∧ f.src = g.src ∧ f.tagged = g.tagged ∧ f.vlan = g.vlan ∧ f.prio = g.prio ∧ f.type = g.type ∧ bs = cs) = b → K (.bool b) W := fun b e => e ▸ h W hF
  clear h
  simp only [push_cast, Nat.reduceAdd, Nat.reduceLeDiff, Nat.reduceLT, Int.reduceToNat, Nat.left_eq_add, Nat.add_eq_left, Nat.add_left_cancel_iff, Nat.reduceEqDiff, Nat.add_assoc, Nat.succ_ne_zero, h0, h1]
  refine s_eqG (MacT.enc (d := 6) hf.1.1) (MacT.enc (d := 6) hg.1.1) fun r hr => ?_
  rw [Mac.lits_inj] at hr
  simp only [push_cast, Nat.reduceAdd, Nat.reduceLeDiff, Nat.reduceLT, Int.reduceToNat, Nat.left_eq_add, Nat.add_eq_left, Nat.add_left_cancel_iff, Nat.reduceEqDiff, Nat.add_assoc, Nat.succ_ne_zero]
  refine br_intro (fun e => ?_) fun e => h' _ ?_
  case' refine_2 => subst e; simp at hr; simp [hr]
  have hr1 := hr.1 e
  clear hr
  simp only [push_cast, Nat.reduceAdd, Nat.reduceLeDiff, Nat.reduceLT, Int.reduceToNat, Nat.left_eq_add, Nat.add_eq_left, Nat.add_left_cancel_iff, Nat.reduceEqDiff, Nat.add_assoc, Nat.succ_ne_zero, h0, h1]
  refine s_eqG (MacT.enc (d := 6) hf.1.2.1) (MacT.enc (d := 6) hg.1.2.1) fun r hr => ?_
  rw [Mac.lits_inj] at hr
  simp only [push_cast, Nat.reduceAdd, Nat.reduceLeDiff, Nat.reduceLT, Int.reduceToNat, Nat.left_eq_add, Nat.add_eq_left, Nat.add_left_cancel_iff, Nat.reduceEqDiff, Nat.add_assoc, Nat.succ_ne_zero]
  refine br_intro (fun e => ?_) fun e => h' _ ?_
  case' refine_2 => subst e; simp at hr; simp [hr]
  have hr2 := hr.1 e
  clear hr
  simp only [push_cast, Nat.reduceAdd, Nat.reduceLeDiff, Nat.reduceLT, Int.reduceToNat, Nat.left_eq_add, Nat.add_eq_left, Nat.add_left_cancel_iff, Nat.reduceEqDiff, Nat.add_assoc, Nat.succ_ne_zero, h0, h1]
  rw [s_b2s hf'.2]
  simp only [push_cast, Nat.reduceAdd, Nat.reduceLeDiff, Nat.reduceLT, Int.reduceToNat, Nat.left_eq_add, Nat.add_eq_left, Nat.add_left_cancel_iff, Nat.reduceEqDiff, Nat.add_assoc, Nat.succ_ne_zero, h0, h1]
  rw [s_b2s hg'.2, s_eqS hf.2.2 hg.2.2]
  repeat' first | with_reducible refine br_dec (fun _ => ?_) fun _ => ?_ | with_reducible refine br_intro (fun _ => ?_) fun _ => ?_
  all_goals
    refine h' _ ?_
    simp_all



/-! ### Places as keys -/

def pk (k : Int × Int) : Value := .agg #[i64 k.1, i64 k.2]
def pkOk (k : Int × Int) : Prop := isI k.1 ∧ isI k.2

theorem ctPlace : Tryz.prog.cellsOf 125 = 2 := by kernel_rfl
instance : KeyC Tryz.prog 125 (Int × Int) pk pkOk where
  law := Maps.Keyed.of_law (deep_law_laid laidOut (m := 8) (by decide) (of_decide_eq_true (by kernel_rfl)) (by kernel_rfl) (by rw [Tryz.underlying125]))
  of := by
    rintro ⟨a, b⟩ ⟨ha, hb⟩
    have hk : ∀ d, Tryz.prog.keyLits (d + 2) 125 [i64 a, i64 b] = some ([[.int .i64 a], [.int .i64 b]] : List (List Lit)).flatten := by
      intro d
      refine kl_struct_mk (ls := [[_], [_]]) Tryz.underlying125 (by simp) (by rw [ctPlace]; rfl) ?_
      simp only [List.mapM_cons, List.mapM_nil, ctInt, bind, Option.bind_eq_some_iff, pure, Option.some.injEq, List.drop_succ_cons, List.drop_zero, List.take_succ_cons, List.take_zero]
      exact ⟨_, kl_int_mk uInt ha, _, ⟨_, kl_int_mk uInt hb, _, rfl, rfl⟩, rfl⟩
    have hsz : ∃ d, Tryz.prog.types.size + 1 = d + 2 := ⟨Tryz.prog.types.size - 1, by
      have : 0 < Tryz.prog.types.size := of_decide_eq_true (by kernel_rfl)
      omega⟩
    obtain ⟨d, hd⟩ := hsz
    have hf : (Value.agg #[i64 a, i64 b]).formed Tryz.prog 125 = true := by
      simp [Value.formed, Tryz.underlying125, ctPlace]
    have hkt : Tryz.prog.keyType 125 = true := by kernel_rfl
    refine ⟨.string (keyBytes ([[.int .i64 a], [.int .i64 b]] : List (List Lit)).flatten), ?_⟩
    unfold keyOf pk
    simp only [Tryz.underlying125, hkt, hf, Bool.and_self, if_true, hd]
    have := hk d
    simp only [Value.cells] at this ⊢
    rw [this]
    rfl
  inj := by
    rintro ⟨a, b⟩ ⟨c, d⟩ h
    simp [pk] at h
    rw [h.1, h.2]

theorem build_place (a b : Int) : opS Tryz.prog (S.build 125 [(0, i64 a), (1, i64 b)]) K w = K (pk (a, b)) w := by
  rw [opS_build _ rfl]; rfl

/-! ### A table -/

structure VRep (w : World) (p m nb : Nat) (t : VT) : Prop where
  blk : w.heap[p]? = some (cellsO [.map (some m), .slice (some ⟨nb, 0, none⟩) t.nat.length t.nat.length] 122)
  map : MapR pk Value.bool pkOk w m t.tab
  nat : w.heap[nb]? = some (cellsO (t.nat.map i64) 3)
  pn : p ≠ nb
  mn : m ≠ nb
  pm : p ≠ m
  ok : t.ok

def vfp (p m nb : Nat) (b : Nat) : Prop := b = p ∨ b = m ∨ b = nb
theorem VRep.fr {fp : Nat → Prop} {w w' : World} {p m nb : Nat} {t : VT} (h : VRep w p m nb t) (hf : Fr fp w w') (h1 : ¬ fp p) (h2 : ¬ fp m) (h3 : ¬ fp nb) : VRep w' p m nb t :=
  ⟨hf.heap h.blk h1, h.map.fr hf h2, hf.heap h.nat h3, h.pn, h.mn, h.pm, h.ok⟩
theorem VRep.fr0 {w w' : World} {p m nb : Nat} {t : VT} (h : VRep w p m nb t) (hf : Fr none_ w w') : VRep w' p m nb t := h.fr hf (fun h => h) (fun h => h) (fun h => h)
theorem VRep.lt {w : World} {p m nb : Nat} {t : VT} (h : VRep w p m nb t) : p < w.heap.size ∧ m < w.heap.size ∧ nb < w.heap.size := ⟨lt_of_heap h.blk, h.map.lt, lt_of_heap h.nat⟩

theorem right_isI {t : VT} (h : t.ok) {v p : Int} (hr : t.right v p) : pkOk (v, p) := by
  have := h.len
  unfold VT.right VT.port at hr
  constructor <;> rw [isI_iff] <;> simp only [] <;> omega

theorem vport_spec {p m nb : Nat} {t : VT} {n : Int} (hv : VRep w p m nb t) (h : K (.bool (decide (t.port n))) w) : CallsR Tryz.prog 88 #[pt p 0, i64 n] K w := by
  apply c88
  unfold p88
  simp only [push_cast, Nat.reduceAdd, Nat.reduceLeDiff, Nat.reduceLT, Int.reduceToNat, Nat.left_eq_add, Nat.add_eq_left, Nat.add_left_cancel_iff, Nat.reduceEqDiff, Nat.add_assoc, Nat.succ_ne_zero, hv.blk]
  refine br_dec (fun h1 => ?_) fun h1 => ?_
  · have : decide (n < (t.nat.length : Int)) = decide (t.port n) := decide_eq_decide.2 ⟨fun h2 => ⟨h1, h2⟩, fun h2 => h2.2⟩
    rw [this]; exact h
  · rw [decide_eq_false (fun h2 => h1 h2.1)] at h; exact h

theorem vright_spec {p m nb : Nat} {t : VT} {v n : Int} (hv : VRep w p m nb t) (h : K (.bool (decide (t.right v n))) w) : CallsR Tryz.prog 85 #[pt p 0, i64 v, i64 n] K w := by
  apply c85
  unfold p85
  simp only [push_cast, Nat.reduceAdd, Nat.reduceLeDiff, Nat.reduceLT, Int.reduceToNat, Nat.left_eq_add, Nat.add_eq_left, Nat.add_left_cancel_iff, Nat.reduceEqDiff, Nat.add_assoc, Nat.succ_ne_zero]
  refine br_dec (fun h1 => ?_) fun h1 => ?_
  · refine br_dec (fun h2 => ?_) fun h2 => ?_
    · refine vport_spec hv ?_
      have : decide (t.port n) = decide (t.right v n) := decide_eq_decide.2 ⟨fun h3 => ⟨h1, h2, h3⟩, fun h3 => h3.2.2⟩
      rw [this]; exact h
    · rw [decide_eq_false (fun h3 => h2 h3.2.1)] at h; exact h
  · rw [decide_eq_false (fun h3 => h1 h3.1)] at h; exact h

theorem vnew_spec (n : Int) (h0 : ¬ (1 ≤ n ∧ n ≤ 64) → K (.tuple #[.pointer none, i64 1]) w)
    (h1 : 1 ≤ n → n ≤ 64 → ∀ w' p m nb, VRep w' p m nb (VT.new n.toNat) → Fr none_ w w' → w.heap.size ≤ p → w.heap.size ≤ m → w.heap.size ≤ nb → K (.tuple #[pt p 0, i64 0]) w') :
    CallsR Tryz.prog 50 #[i64 n] K w := by
  apply c50
  unfold p50
  simp only [push_cast, Nat.reduceAdd, Nat.reduceLeDiff, Nat.reduceLT, Int.reduceToNat, Nat.left_eq_add, Nat.add_eq_left, Nat.add_left_cancel_iff, Nat.reduceEqDiff, Nat.add_assoc, Nat.succ_ne_zero]
  refine br_dec (fun ha => h0 (by omega)) fun ha => ?_
  refine br_dec (fun hb => h0 (by omega)) fun hb => ?_
  refine s_mkm (kc := pk) (vc := Value.bool) (kok := pkOk) fun w1 hm hF1 hs1 => ?_
  rw [opS_mks _ _ _ (by omega) (by omega) (by omega) (by rfl) (by decide)]
  simp only [push_cast, Nat.reduceAdd, Nat.reduceLeDiff, Nat.reduceLT, Int.reduceToNat, Nat.left_eq_add, Nat.add_eq_left, Nat.add_left_cancel_iff, Nat.reduceEqDiff, Nat.add_assoc, Nat.succ_ne_zero]
  rw [opS_build _ rfl]
  have e : zeros n.toNat (Value.int .i64 0).cells.toList = (List.replicate n.toNat (0 : Int)).map i64 := by
    simp [zeros, Value.cells]
  simp only [push_cast, Nat.reduceAdd, Nat.reduceLeDiff, Nat.reduceLT, Int.reduceToNat, Nat.left_eq_add, Nat.add_eq_left, Nat.add_left_cancel_iff, Nat.reduceEqDiff, Nat.add_assoc, Nat.succ_ne_zero]
  refine h1 (by omega) (by omega) _ (w1.heap.size + 1) w.heap.size w1.heap.size ⟨?_, ?_, ?_, by omega, by omega, by omega, VT.ok_new (by omega)⟩ ?_ (by omega) (Nat.le_refl _) (by omega)
  · simp only [push_cast, Nat.reduceAdd, Nat.reduceLeDiff, Nat.reduceLT, Int.reduceToNat, Nat.left_eq_add, Nat.add_eq_left, Nat.add_left_cancel_iff, Nat.reduceEqDiff, Nat.add_assoc, Nat.succ_ne_zero, VT.new, List.length_replicate]
    rfl
  · exact hm.fr (fp := none_) (by repeat' first | with_reducible exact Fr.refl _ _ | with_reducible refine Fr.step_alloc ?_ ?_ | with_reducible refine Fr.step_drew ?_ | with_reducible refine Fr.step_wr ?_ ?_ _ _ | exact rfl | exact Or.inr (by omega) | exact Or.inl rfl | exact Or.inl (Or.inl rfl) | exact Or.inl (Or.inr rfl)) (fun h => h)
  · simp only [push_cast, Nat.reduceAdd, Nat.reduceLeDiff, Nat.reduceLT, Int.reduceToNat, Nat.left_eq_add, Nat.add_eq_left, Nat.add_left_cancel_iff, Nat.reduceEqDiff, Nat.add_assoc, Nat.succ_ne_zero, VT.new]
    rw [← e]
    rfl
  · exact hF1.trans (by repeat' first | with_reducible exact Fr.refl _ _ | with_reducible refine Fr.step_alloc ?_ ?_ | with_reducible refine Fr.step_drew ?_ | with_reducible refine Fr.step_wr ?_ ?_ _ _ | exact rfl | exact Or.inr (by omega) | exact Or.inl rfl | exact Or.inl (Or.inl rfl) | exact Or.inl (Or.inr rfl))

theorem splice_ints (l : List Int) (i : Nat) (h : i < l.length) (v : Int) : splice (l.map i64) i [i64 v] = (l.set i v).map i64 := by
  rw [List.set_eq_take_append_cons_drop, if_pos h]
  unfold splice
  simp [List.map_take, List.map_drop]

theorem vnative_spec {p m nb : Nat} {t : VT} {n v : Int} (hv : VRep w p m nb t) (h : ∀ w', VRep w' p m nb (t.native n v).1 → Fr (vfp p m nb) w w' → K (i64 (t.native n v).2) w') : CallsR Tryz.prog 58 #[pt p 0, i64 n, i64 v] K w := by
  apply c58
  unfold p58
  simp only [push_cast, Nat.reduceAdd, Nat.reduceLeDiff, Nat.reduceLT, Int.reduceToNat, Nat.left_eq_add, Nat.add_eq_left, Nat.add_left_cancel_iff, Nat.reduceEqDiff, Nat.add_assoc, Nat.succ_ne_zero]
  refine vport_spec hv ?_
  simp only [push_cast, Nat.reduceAdd, Nat.reduceLeDiff, Nat.reduceLT, Int.reduceToNat, Nat.left_eq_add, Nat.add_eq_left, Nat.add_left_cancel_iff, Nat.reduceEqDiff, Nat.add_assoc, Nat.succ_ne_zero]
  have hbad : ¬ (t.port n ∧ 0 ≤ v ∧ v ≤ 4094) → K (i64 1) w := fun hb => by
    have := h w
    rw [VT.native, if_neg hb] at this
    exact this hv (Fr.refl _ _)
  refine br_intro (fun hp => hbad fun h2 => ?_) fun hp => ?_
  · rw [decide_eq_true h2.1] at hp; cases hp
  have hp : t.port n := by simpa using hp
  refine br_dec (fun h2 => hbad (by omega)) fun h2 => ?_
  refine br_dec (fun h3 => hbad (by omega)) fun h3 => ?_
  rw [VT.native, if_pos ⟨hp, by omega, by omega⟩] at h
  have hok := VT.ok_native hv.ok n v
  rw [VT.native, if_pos ⟨hp, by omega, by omega⟩] at hok
  simp only [push_cast, Nat.reduceAdd, Nat.reduceLeDiff, Nat.reduceLT, Int.reduceToNat, Nat.left_eq_add, Nat.add_eq_left, Nat.add_left_cancel_iff, Nat.reduceEqDiff, Nat.add_assoc, Nat.succ_ne_zero, hv.blk]
  rw [opS_iaS, if_pos (show 0 ≤ n ∧ n < _ from hp)]
  have hlt : n.toNat < t.nat.length := by have := hp.1; have := hp.2; omega
  simp only [push_cast, Nat.reduceAdd, Nat.reduceLeDiff, Nat.reduceLT, Int.reduceToNat, Nat.left_eq_add, Nat.add_eq_left, Nat.add_left_cancel_iff, Nat.reduceEqDiff, Nat.add_assoc, Nat.succ_ne_zero, hv.nat, Nat.mul_one, List.length_map]
  have hle : decide (n.toNat + 1 ≤ t.nat.length) = true := decide_eq_true (by omega)
  have hpn := hv.pn
  have hmn := hv.mn
  simp only [hle, push_cast, Nat.reduceAdd, Nat.reduceLeDiff, Nat.reduceLT, Int.reduceToNat, Nat.left_eq_add, Nat.add_eq_left, Nat.add_left_cancel_iff, Nat.reduceEqDiff, Nat.add_assoc, Nat.succ_ne_zero]
  refine h _ ⟨?_, hv.map.fr (fp := fun b => b = nb) (by repeat' first | with_reducible exact Fr.refl _ _ | with_reducible refine Fr.step_alloc ?_ ?_ | with_reducible refine Fr.step_drew ?_ | with_reducible refine Fr.step_wr ?_ ?_ _ _ | exact rfl | exact Or.inr (by omega) | exact Or.inl rfl | exact Or.inl (Or.inl rfl) | exact Or.inl (Or.inr rfl)) hmn, ?_, hpn, hmn, hv.pm, hok⟩ (Fr.wr _ _ _ _ (.inr (.inr rfl)))
  · simp only [push_cast, Nat.reduceAdd, Nat.reduceLeDiff, Nat.reduceLT, Int.reduceToNat, Nat.left_eq_add, Nat.add_eq_left, Nat.add_left_cancel_iff, Nat.reduceEqDiff, Nat.add_assoc, Nat.succ_ne_zero, hpn, hv.blk, List.length_set]
  · simp only [push_cast, Nat.reduceAdd, Nat.reduceLeDiff, Nat.reduceLT, Int.reduceToNat, Nat.left_eq_add, Nat.add_eq_left, Nat.add_left_cancel_iff, Nat.reduceEqDiff, Nat.add_assoc, Nat.succ_ne_zero, hv.nat]
    rw [splice_ints _ _ hlt]

theorem vadd_spec {p m nb : Nat} {t : VT} {v n : Int} {b : Bool} (hv : VRep w p m nb t) (h : ∀ w', VRep w' p m nb (t.add v n b).1 → Fr (vfp p m nb) w w' → K (i64 (t.add v n b).2) w') : CallsR Tryz.prog 56 #[pt p 0, i64 v, i64 n, .bool b] K w := by
  apply c56
  unfold p56
  simp only [push_cast, Nat.reduceAdd, Nat.reduceLeDiff, Nat.reduceLT, Int.reduceToNat, Nat.left_eq_add, Nat.add_eq_left, Nat.add_left_cancel_iff, Nat.reduceEqDiff, Nat.add_assoc, Nat.succ_ne_zero]
  refine vright_spec hv ?_
  have hok := VT.ok_add hv.ok v n b
  by_cases hr : t.right v n
  · rw [VT.add, if_pos hr] at h hok
    simp only [hr, push_cast, Nat.reduceAdd, Nat.reduceLeDiff, Nat.reduceLT, Int.reduceToNat, Nat.left_eq_add, Nat.add_eq_left, Nat.add_left_cancel_iff, Nat.reduceEqDiff, Nat.add_assoc, Nat.succ_ne_zero, hv.blk, build_place]
    refine s_mu (kc := pk) (vc := Value.bool) hv.map (right_isI hv.ok hr) fun w' hm hF => ?_
    exact h w' ⟨hF.heap hv.blk hv.pm, hm, hF.heap hv.nat (fun e => hv.mn e.symm), hv.pn, hv.mn, hv.pm, hok⟩ (hF.mono fun b _ hb => .inr (.inl hb))
  · rw [VT.add, if_neg hr] at h
    simp only [hr, push_cast, Nat.reduceAdd, Nat.reduceLeDiff, Nat.reduceLT, Int.reduceToNat, Nat.left_eq_add, Nat.add_eq_left, Nat.add_left_cancel_iff, Nat.reduceEqDiff, Nat.add_assoc, Nat.succ_ne_zero]
    exact h w hv (Fr.refl _ _)

theorem got_bool (z : Value) (o : Option Bool) : got Value.bool z o = match o with | some b => .bool b | none => z := by cases o <;> rfl

theorem vremove_spec {p m nb : Nat} {t : VT} {v n : Int} (hv : VRep w p m nb t) (h : ∀ w', VRep w' p m nb (t.remove v n).1 → Fr (vfp p m nb) w w' → K (i64 (t.remove v n).2) w') : CallsR Tryz.prog 60 #[pt p 0, i64 v, i64 n] K w := by
  apply c60
  unfold p60
  simp only [push_cast, Nat.reduceAdd, Nat.reduceLeDiff, Nat.reduceLT, Int.reduceToNat, Nat.left_eq_add, Nat.add_eq_left, Nat.add_left_cancel_iff, Nat.reduceEqDiff, Nat.add_assoc, Nat.succ_ne_zero]
  refine vright_spec hv ?_
  have hok := VT.ok_remove hv.ok v n
  by_cases hr : t.right v n
  · rw [VT.remove, if_pos hr] at h hok
    have hk := right_isI hv.ok hr
    simp only [hr, push_cast, Nat.reduceAdd, Nat.reduceLeDiff, Nat.reduceLT, Int.reduceToNat, Nat.left_eq_add, Nat.add_eq_left, Nat.add_left_cancel_iff, Nat.reduceEqDiff, Nat.add_assoc, Nat.succ_ne_zero, hv.blk, build_place]
    refine s_lk (kc := pk) (vc := Value.bool) hv.map hk ?_
    simp only [push_cast, Nat.reduceAdd, Nat.reduceLeDiff, Nat.reduceLT, Int.reduceToNat, Nat.left_eq_add, Nat.add_eq_left, Nat.add_left_cancel_iff, Nat.reduceEqDiff, Nat.add_assoc, Nat.succ_ne_zero]
    cases hl : getL t.tab (v, n) with
    | none =>
      rw [hl] at h
      simp only [Option.isSome_none, push_cast, Nat.reduceAdd, Nat.reduceLeDiff, Nat.reduceLT, Int.reduceToNat, Nat.left_eq_add, Nat.add_eq_left, Nat.add_left_cancel_iff, Nat.reduceEqDiff, Nat.add_assoc, Nat.succ_ne_zero]
      exact h w hv (Fr.refl _ _)
    | some b =>
      rw [hl] at h hok
      simp only [Option.isSome_some, push_cast, Nat.reduceAdd, Nat.reduceLeDiff, Nat.reduceLT, Int.reduceToNat, Nat.left_eq_add, Nat.add_eq_left, Nat.add_left_cancel_iff, Nat.reduceEqDiff, Nat.add_assoc, Nat.succ_ne_zero, hv.blk, build_place]
      refine s_del (kc := pk) (vc := Value.bool) hv.map hk fun w' hm hF => ?_
      exact h w' ⟨hF.heap hv.blk hv.pm, hm, hF.heap hv.nat (fun e => hv.mn e.symm), hv.pn, hv.mn, hv.pm, hok⟩ (hF.mono fun b _ hb => .inr (.inl hb))
  · rw [VT.remove, if_neg hr] at h
    simp only [hr, push_cast, Nat.reduceAdd, Nat.reduceLeDiff, Nat.reduceLT, Int.reduceToNat, Nat.left_eq_add, Nat.add_eq_left, Nat.add_left_cancel_iff, Nat.reduceEqDiff, Nat.add_assoc, Nat.succ_ne_zero]
    exact h w hv (Fr.refl _ _)

theorem vin_spec {p m nb : Nat} {t : VT} {n : Int} {f : Frm} {bs : List Int} (hv : VRep w p m nb t) (hf : FrmR w f bs) (h : ∀ w', Fr none_ w w' → K (.tuple #[i64 (t.inn n f bs.length).1, i64 (t.inn n f bs.length).2]) w') :
    CallsR Tryz.prog 71 #[pt p 0, i64 n, .agg f.cells.toArray] K w := by
  apply c71
  unfold p71
  obtain ⟨a, c, hbd⟩ := hf.2.form
  have hone : f.cells.all S.oneCell = true := Frm.one _ hf.2.one
  have h0 : (w.alloc (cellsO f.cells 27)).heap[w.heap.size]? = some (cellsO f.cells 27) := by simp only [push_cast, Nat.reduceAdd, Nat.reduceLeDiff, Nat.reduceLT, Int.reduceToNat, Nat.left_eq_add, Nat.add_eq_left, Nat.add_left_cancel_iff, Nat.reduceEqDiff, Nat.add_assoc, Nat.succ_ne_zero]
  have hF : Fr none_ w (w.alloc (cellsO f.cells 27)) := (by repeat' first | with_reducible exact Fr.refl _ _ | with_reducible refine Fr.step_alloc ?_ ?_ | with_reducible refine Fr.step_drew ?_ | with_reducible refine Fr.step_wr ?_ ?_ _ _ | exact rfl | exact Or.inr (by omega) | exact Or.inl rfl | exact Or.inl (Or.inl rfl) | exact Or.inl (Or.inr rfl))
  simp only [opS_box, cells_agg, alloc_cellsO]
  generalize w.alloc (cellsO f.cells 27) = W at *
  simp only [push_cast, Nat.reduceAdd, Nat.reduceLeDiff, Nat.reduceLT, Int.reduceToNat, Nat.left_eq_add, Nat.add_eq_left, Nat.add_left_cancel_iff, Nat.reduceEqDiff, Nat.add_assoc, Nat.succ_ne_zero]
  refine vport_spec (hv.fr0 hF) ?_
  simp only [push_cast, Nat.reduceAdd, Nat.reduceLeDiff, Nat.reduceLT, Int.reduceToNat, Nat.left_eq_add, Nat.add_eq_left, Nat.add_left_cancel_iff, Nat.reduceEqDiff, Nat.add_assoc, Nat.succ_ne_zero, h0]
  refine br_intro (fun hp => ?_) fun hp => ?_
  · have hp : ¬ t.port n := by simpa using hp
    rw [VT.inn, if_neg (fun h => hp h.1)] at h
    exact h _ hF
  have hp : t.port n := by simpa using hp
  have hlt : n.toNat < t.nat.length := by have := hp.1; have := hp.2; omega
  refine right_spec hbd fun W2 hF2 => ?_
  replace hF := hF.trans hF2
  replace h0 := hF2.heap h0 (fun h => h)
  have hv2 := hv.fr0 hF
  simp only [push_cast, Nat.reduceAdd, Nat.reduceLeDiff, Nat.reduceLT, Int.reduceToNat, Nat.left_eq_add, Nat.add_eq_left, Nat.add_left_cancel_iff, Nat.reduceEqDiff, Nat.add_assoc, Nat.succ_ne_zero]
  refine br_intro (fun hr => ?_) fun hr => ?_
  · rw [VT.inn, if_neg (fun h => by rw [h.2] at hr; cases hr)] at h
    exact h _ hF
  have hr : f.right bs.length = true := by simpa using hr
  rw [VT.inn, if_pos ⟨hp, hr⟩] at h
  simp only [push_cast, Nat.reduceAdd, Nat.reduceLeDiff, Nat.reduceLT, Int.reduceToNat, Nat.left_eq_add, Nat.add_eq_left, Nat.add_left_cancel_iff, Nat.reduceEqDiff, Nat.add_assoc, Nat.succ_ne_zero, h0, jn_1]
  have key : ∀ v : Int, isI v → K (.tuple #[i64 (if t.is v n = true then (v, (0 : Int)) else (0, 4)).1, i64 (if t.is v n = true then (v, (0 : Int)) else (0, 4)).2]) W2 →
      opS Tryz.prog (S.nc (pt p 0)) (fun x12 => opS Tryz.prog (S.fa 122 x12 0) fun x13 => opS Tryz.prog (S.ld 120 x13) fun x14 => opS Tryz.prog (S.build 125 [(0, i64 v), (1, i64 n)]) fun x15 =>
        opS Tryz.prog (S.lk 120 x14 x15 true) fun x16 => opS Tryz.prog (S.ext x16 0) fun x17 => opS Tryz.prog (S.ext x16 1) fun x18 => opS Tryz.prog (S.un .not x18) fun x19 =>
          brn x19 (K (.tuple #[.int .i64 0, .int .i64 4])) (K (.tuple #[i64 v, .int .i64 0]))) W2 := by
    intro v hvi hK
    simp only [push_cast, Nat.reduceAdd, Nat.reduceLeDiff, Nat.reduceLT, Int.reduceToNat, Nat.left_eq_add, Nat.add_eq_left, Nat.add_left_cancel_iff, Nat.reduceEqDiff, Nat.add_assoc, Nat.succ_ne_zero, hv2.blk, build_place]
    have hn : isI n := by have := hp.1; have := hp.2; have := hv.ok.len; rw [isI_iff]; omega
    refine s_lk (kc := pk) (vc := Value.bool) hv2.map ⟨hvi, hn⟩ ?_
    simp only [push_cast, Nat.reduceAdd, Nat.reduceLeDiff, Nat.reduceLT, Int.reduceToNat, Nat.left_eq_add, Nat.add_eq_left, Nat.add_left_cancel_iff, Nat.reduceEqDiff, Nat.add_assoc, Nat.succ_ne_zero]
    unfold VT.is at hK
    cases hl : getL t.tab (v, n) with
    | none =>
      rw [hl] at hK
      simp only [Option.isSome_none, push_cast, Nat.reduceAdd, Nat.reduceLeDiff, Nat.reduceLT, Int.reduceToNat, Nat.left_eq_add, Nat.add_eq_left, Nat.add_left_cancel_iff, Nat.reduceEqDiff, Nat.add_assoc, Nat.succ_ne_zero]
      exact hK
    | some b =>
      rw [hl] at hK
      simp only [Option.isSome_some, push_cast, Nat.reduceAdd, Nat.reduceLeDiff, Nat.reduceLT, Int.reduceToNat, Nat.left_eq_add, Nat.add_eq_left, Nat.add_left_cancel_iff, Nat.reduceEqDiff, Nat.add_assoc, Nat.succ_ne_zero]
      exact hK
  refine br_intro (fun h1 => ?_) fun h1 => ?_
  · have h1 : f.vlan = 0 := by simpa using h1
    simp only [push_cast, Nat.reduceAdd, Nat.reduceLeDiff, Nat.reduceLT, Int.reduceToNat, Nat.left_eq_add, Nat.add_eq_left, Nat.add_left_cancel_iff, Nat.reduceEqDiff, Nat.add_assoc, Nat.succ_ne_zero, hv2.blk]
    rw [opS_iaS, if_pos (show 0 ≤ n ∧ n < _ from hp)]
    simp only [push_cast, Nat.reduceAdd, Nat.reduceLeDiff, Nat.reduceLT, Int.reduceToNat, Nat.left_eq_add, Nat.add_eq_left, Nat.add_left_cancel_iff, Nat.reduceEqDiff, Nat.add_assoc, Nat.succ_ne_zero, hv2.nat, Nat.mul_one, List.getElem?_map, List.getElem?_eq_getElem hlt, Option.map_some]
    have hg : t.nat.getD n.toNat 0 = t.nat[n.toNat] := by simp [List.getD, List.getElem?_eq_getElem hlt]
    rw [if_pos h1, hg] at h
    have := key t.nat[n.toNat] (by have := hv.ok.nat _ (List.getElem_mem hlt); rw [isI_iff]; omega) (h _ hF)
    simp only [push_cast, Nat.reduceAdd, Nat.reduceLeDiff, Nat.reduceLT, Int.reduceToNat, Nat.left_eq_add, Nat.add_eq_left, Nat.add_left_cancel_iff, Nat.reduceEqDiff, Nat.add_assoc, Nat.succ_ne_zero] at this
    exact this
  · have h1 : f.vlan ≠ 0 := by simpa using h1
    rw [if_neg h1] at h
    have := key f.vlan hf.1.2.2.1 (h _ hF)
    simp only [push_cast, Nat.reduceAdd, Nat.reduceLeDiff, Nat.reduceLT, Int.reduceToNat, Nat.left_eq_add, Nat.add_eq_left, Nat.add_left_cancel_iff, Nat.reduceEqDiff, Nat.add_assoc, Nat.succ_ne_zero] at this
    exact this

theorem vout_spec {p m nb : Nat} {t : VT} {v n : Int} {f : Frm} {bs : List Int} (hv : VRep w p m nb t) (hf : FrmR w f bs) (h : ∀ w', Fr none_ w w' → K (.tuple #[.agg (t.out v n f bs.length).1.cells.toArray, i64 (t.out v n f bs.length).2]) w') :
    CallsR Tryz.prog 77 #[pt p 0, i64 v, i64 n, .agg f.cells.toArray] K w := by
  apply c77
  unfold p77
  obtain ⟨a, c, hbd⟩ := hf.2.form
  have hone : f.cells.all S.oneCell = true := Frm.one _ hf.2.one
  have hone0 : zFrm.cells.all S.oneCell = true := rfl
  have hz : ∀ w : World, w.alloc (cellsO [Value.int IntKind.u8 0, Value.int IntKind.u8 0, Value.int IntKind.u8 0, Value.int IntKind.u8 0, Value.int IntKind.u8 0, Value.int IntKind.u8 0, Value.int IntKind.u8 0, Value.int IntKind.u8 0, Value.int IntKind.u8 0, Value.int IntKind.u8 0, Value.int IntKind.u8 0, Value.int IntKind.u8 0,
    Value.bool false, Value.int IntKind.i64 0, Value.int IntKind.i64 0, Value.int IntKind.i64 0, Value.slice none 0 0] 27) = w.alloc (cellsO zFrm.cells 27) := fun _ => rfl
  simp only [push_cast, Nat.reduceAdd, Nat.reduceLeDiff, Nat.reduceLT, Int.reduceToNat, Nat.left_eq_add, Nat.add_eq_left, Nat.add_left_cancel_iff, Nat.reduceEqDiff, Nat.add_assoc, Nat.succ_ne_zero, hz]
  have h0 : ((w.alloc (cellsO f.cells 27)).alloc (cellsO zFrm.cells 27)).heap[w.heap.size]? = some (cellsO f.cells 27) := by simp only [push_cast, Nat.reduceAdd, Nat.reduceLeDiff, Nat.reduceLT, Int.reduceToNat, Nat.left_eq_add, Nat.add_eq_left, Nat.add_left_cancel_iff, Nat.reduceEqDiff, Nat.add_assoc, Nat.succ_ne_zero]
  have h1 : ((w.alloc (cellsO f.cells 27)).alloc (cellsO zFrm.cells 27)).heap[w.heap.size + 1]? = some (cellsO zFrm.cells 27) := by simp only [push_cast, Nat.reduceAdd, Nat.reduceLeDiff, Nat.reduceLT, Int.reduceToNat, Nat.left_eq_add, Nat.add_eq_left, Nat.add_left_cancel_iff, Nat.reduceEqDiff, Nat.add_assoc, Nat.succ_ne_zero]
  have hF : Fr none_ w ((w.alloc (cellsO f.cells 27)).alloc (cellsO zFrm.cells 27)) := (by repeat' first | with_reducible exact Fr.refl _ _ | with_reducible refine Fr.step_alloc ?_ ?_ | with_reducible refine Fr.step_drew ?_ | with_reducible refine Fr.step_wr ?_ ?_ _ _ | exact rfl | exact Or.inr (by omega) | exact Or.inl rfl | exact Or.inl (Or.inl rfl) | exact Or.inl (Or.inr rfl))
  generalize (w.alloc (cellsO f.cells 27)).alloc (cellsO zFrm.cells 27) = W at *
  refine vright_spec (hv.fr0 hF) ?_
  simp only [push_cast, Nat.reduceAdd, Nat.reduceLeDiff, Nat.reduceLT, Int.reduceToNat, Nat.left_eq_add, Nat.add_eq_left, Nat.add_left_cancel_iff, Nat.reduceEqDiff, Nat.add_assoc, Nat.succ_ne_zero, h0, h1, hone, hone0, build_zFrm]
  refine br_intro (fun hp => ?_) fun hp => ?_
  · have hp : ¬ t.right v n := by simpa using hp
    rw [VT.out, if_neg (fun h => hp h.1)] at h
    exact h _ (hF.step_wr (Or.inr (by omega)) _ _)
  have hp : t.right v n := by simpa using hp
  refine right_spec hbd fun W2 hF2 => ?_
  replace hF := hF.trans hF2
  replace h0 := hF2.heap h0 (fun h => h)
  replace h1 := hF2.heap h1 (fun h => h)
  have hv2 := hv.fr0 hF
  simp only [push_cast, Nat.reduceAdd, Nat.reduceLeDiff, Nat.reduceLT, Int.reduceToNat, Nat.left_eq_add, Nat.add_eq_left, Nat.add_left_cancel_iff, Nat.reduceEqDiff, Nat.add_assoc, Nat.succ_ne_zero, h0, h1, hone, hone0, build_zFrm]
  refine br_intro (fun hr => ?_) fun hr => ?_
  · rw [VT.out, if_neg (fun h => by rw [h.2] at hr; cases hr)] at h
    exact h _ (hF.step_wr (Or.inr (by omega)) _ _)
  have hr : f.right bs.length = true := by simpa using hr
  rw [VT.out, if_pos ⟨hp, hr⟩] at h
  simp only [push_cast, Nat.reduceAdd, Nat.reduceLeDiff, Nat.reduceLT, Int.reduceToNat, Nat.left_eq_add, Nat.add_eq_left, Nat.add_left_cancel_iff, Nat.reduceEqDiff, Nat.add_assoc, Nat.succ_ne_zero, hv2.blk, build_place]
  refine s_lk (kc := pk) (vc := Value.bool) hv2.map (right_isI hv.ok hp) ?_
  simp only [push_cast, Nat.reduceAdd, Nat.reduceLeDiff, Nat.reduceLT, Int.reduceToNat, Nat.left_eq_add, Nat.add_eq_left, Nat.add_left_cancel_iff, Nat.reduceEqDiff, Nat.add_assoc, Nat.succ_ne_zero]
  cases hl : getL t.tab (v, n) with
  | none =>
    rw [hl] at h
    simp only [Option.isSome_none, push_cast, Nat.reduceAdd, Nat.reduceLeDiff, Nat.reduceLT, Int.reduceToNat, Nat.left_eq_add, Nat.add_eq_left, Nat.add_left_cancel_iff, Nat.reduceEqDiff, Nat.add_assoc, Nat.succ_ne_zero, h0, h1, hone, hone0, build_zFrm]
    exact h _ (hF.step_wr (Or.inr (by omega)) _ _)
  | some b =>
    rw [hl] at h
    cases b with
    | true =>
      simp only [Option.isSome_some, got, push_cast, Nat.reduceAdd, Nat.reduceLeDiff, Nat.reduceLT, Int.reduceToNat, Nat.left_eq_add, Nat.add_eq_left, Nat.add_left_cancel_iff, Nat.reduceEqDiff, Nat.add_assoc, Nat.succ_ne_zero, h0, h1, hone, hone0, build_zFrm]
      refine tag_spec (hf.fr0 hF) fun W3 hF3 => ?_
      replace h0 := hF3.heap h0 (fun h => h)
      replace h1 := hF3.heap h1 (fun h => h)
      replace hF := hF.trans hF3
      rw [if_pos (VT.tag_right hr hp.1 hp.2.1)]
      have hone2 : (f.tag v f.prio).cells.all S.oneCell = true := Frm.one _ hf.2.one
      simp only [push_cast, Nat.reduceAdd, Nat.reduceLeDiff, Nat.reduceLT, Int.reduceToNat, Nat.left_eq_add, Nat.add_eq_left, Nat.add_left_cancel_iff, Nat.reduceEqDiff, Nat.add_assoc, Nat.succ_ne_zero, h0, h1, hone2]
      exact h _ (hF.step_wr (Or.inr (by omega)) _ _)
    | false =>
      simp only [Option.isSome_some, got, push_cast, Nat.reduceAdd, Nat.reduceLeDiff, Nat.reduceLT, Int.reduceToNat, Nat.left_eq_add, Nat.add_eq_left, Nat.add_left_cancel_iff, Nat.reduceEqDiff, Nat.add_assoc, Nat.succ_ne_zero, h0, h1, hone, hone0, build_zFrm]
      refine untag_spec (hf.fr0 hF) fun W3 hF3 => ?_
      replace h0 := hF3.heap h0 (fun h => h)
      replace h1 := hF3.heap h1 (fun h => h)
      replace hF := hF.trans hF3
      have hone2 : f.untag.cells.all S.oneCell = true := Frm.one _ hf.2.one
      simp only [push_cast, Nat.reduceAdd, Nat.reduceLeDiff, Nat.reduceLT, Int.reduceToNat, Nat.left_eq_add, Nat.add_eq_left, Nat.add_left_cancel_iff, Nat.reduceEqDiff, Nat.add_assoc, Nat.succ_ne_zero, h0, h1, hone2]
      exact h _ (hF.step_wr (Or.inr (by omega)) _ _)

theorem vmembers_spec {p m nb : Nat} {t : VT} {v : Int} (hv : VRep w p m nb t) (hvi : isI v) (h : ∀ w' x, OwnE 3 1 w' x ((t.members v).map cellI) → Fr none_ w w' → New w x → K x w') :
    CallsR Tryz.prog 30 #[pt p 0, i64 v] K w := by
  apply c30
  unfold p30
  simp only [push_cast, Nat.reduceAdd, Nat.reduceLeDiff, Nat.reduceLT, Int.reduceToNat, Nat.left_eq_add, Nat.add_eq_left, Nat.add_left_cancel_iff, Nat.reduceEqDiff, Nat.add_assoc, Nat.succ_ne_zero, hv.blk, jn_1]
  have hlen := hv.ok.len
  refine loop2 (fun mm x y w' => ∃ i : Nat, y = i64 i ∧ i + mm = t.nat.length ∧ Fr none_ w w' ∧ OwnE 3 1 w' x ((((List.range i).map Int.ofNat).filter fun p => t.is v p).map cellI) ∧ New w x) ?_ t.nat.length ⟨0, rfl, by omega, Fr.refl _ _, own_nil _ _ _, fun b hb => by cases hb⟩
  rintro mm x y w' X ⟨i, rfl, hi, hF, hx, hN⟩ hX
  have hv' := hv.fr0 hF
  simp only [push_cast, Nat.reduceAdd, Nat.reduceLeDiff, Nat.reduceLT, Int.reduceToNat, Nat.left_eq_add, Nat.add_eq_left, Nat.add_left_cancel_iff, Nat.reduceEqDiff, Nat.add_assoc, Nat.succ_ne_zero, hv'.blk, build_place]
  refine br_dec (fun hlt => ?_) fun hge => ?_
  · refine s_lk (kc := pk) (vc := Value.bool) hv'.map ⟨hvi, isI_iff.2 ⟨by simp only []; omega, by simp only []; omega⟩⟩ ?_
    simp only [push_cast, Nat.reduceAdd, Nat.reduceLeDiff, Nat.reduceLT, Int.reduceToNat, Nat.left_eq_add, Nat.add_eq_left, Nat.add_left_cancel_iff, Nat.reduceEqDiff, Nat.add_assoc, Nat.succ_ne_zero]
    have hstep : (((List.range (i + 1)).map Int.ofNat).filter fun p => t.is v p) = (((List.range i).map Int.ofNat).filter fun p => t.is v p) ++ (if t.is v i then [(i : Int)] else []) := by
      rw [List.range_succ, List.map_append, List.filter_append]
      congr 1
      by_cases hti : t.is v i <;> simp [hti]
    have hl2 : (((List.range i).map Int.ofNat).filter fun p => t.is v p).length ≤ i := by
      refine Nat.le_trans (List.length_filter_le _ _) ?_
      simp
    have hw : IntKind.i64.wrap ((i : Int) + 1) = ((i + 1 : Nat) : Int) := by rw [wrap_i64 (by omega)]; omega
    refine br_intro (fun hs => ?_) fun hs => ?_
    · have hti : t.is v i = true := hs
      rw [hti] at hstep
      refine s_app1 (by rfl) (by rfl) (by decide) hx (by rw [List.length_map]; omega) fun x' w2 hx' hb hF2 => ?_
      simp only [push_cast, Nat.reduceAdd, Nat.reduceLeDiff, Nat.reduceLT, Int.reduceToNat, Nat.left_eq_add, Nat.add_eq_left, Nat.add_left_cancel_iff, Nat.reduceEqDiff, Nat.add_assoc, Nat.succ_ne_zero, hw]
      refine hX (mm - 1) _ _ _ (by omega) ⟨i + 1, rfl, by omega, hF.trans_new hF2 (fun b hb h => by have := hN b h; omega), ?_, ?_⟩
      · rw [hstep, List.map_append]; exact hx'
      · intro b hb'
        rcases hb with hb | hb
        · exact hN b (hb ▸ hb')
        · exact Nat.le_trans hF.size (hb b hb')
    · have hti : t.is v i = false := hs
      rw [hti] at hstep
      simp only [push_cast, Nat.reduceAdd, Nat.reduceLeDiff, Nat.reduceLT, Int.reduceToNat, Nat.left_eq_add, Nat.add_eq_left, Nat.add_left_cancel_iff, Nat.reduceEqDiff, Nat.add_assoc, Nat.succ_ne_zero, hw]
      refine hX (mm - 1) _ _ _ (by omega) ⟨i + 1, rfl, by omega, hF, ?_, hN⟩
      rw [hstep]
      simpa using hx
  · obtain rfl : i = t.nat.length := by omega
    exact h _ _ hx hF hN



def memC (x : (Int × Int) × Bool) : List Value := [i64 x.1.1, i64 x.1.2, .bool x.2]
theorem memC_one (l : List ((Int × Int) × Bool)) : (l.map memC).flatten.all S.oneCell = true := by
  rw [List.all_eq_true]
  intro x hx
  obtain ⟨e, he, hx⟩ := List.mem_flatten.1 hx
  obtain ⟨y, hy, rfl⟩ := List.mem_map.1 he
  simp [memC] at hx
  rcases hx with rfl | rfl | rfl <;> rfl

structure RRep (w : World) (q nb : Nat) (Lv : Value) (t : VT) : Prop where
  blk : w.heap[q]? = some (cellsO [i64 t.nat.length, Lv, .slice (some ⟨nb, 0, none⟩) t.nat.length t.nat.length] 141)
  lst : OwnE 144 3 w Lv (t.tab.map memC)
  nat : w.heap[nb]? = some (cellsO (t.nat.map i64) 3)
  qn : q ≠ nb
  lq : ∀ b, blkS Lv = some b → b ≠ q ∧ b ≠ nb
  ok : t.ok

def rfp (q nb : Nat) (Lv : Value) (b : Nat) : Prop := b = q ∨ b = nb ∨ blkS Lv = some b
theorem RRep.fr {fp : Nat → Prop} {w w' : World} {q nb : Nat} {Lv : Value} {t : VT} (h : RRep w q nb Lv t) (hf : Fr fp w w') (h1 : ¬ fp q) (h2 : ¬ fp nb) (h3 : ∀ b, blkS Lv = some b → ¬ fp b) : RRep w' q nb Lv t :=
  ⟨hf.heap h.blk h1, h.lst.fr hf h3, hf.heap h.nat h2, h.qn, h.lq, h.ok⟩
theorem RRep.fr0 {w w' : World} {q nb : Nat} {Lv : Value} {t : VT} (h : RRep w q nb Lv t) (hf : Fr none_ w w') : RRep w' q nb Lv t := h.fr hf (fun h => h) (fun h => h) (fun _ _ h => h)
theorem RRep.lt {w : World} {q nb : Nat} {Lv : Value} {t : VT} (h : RRep w q nb Lv t) : q < w.heap.size ∧ nb < w.heap.size := ⟨lt_of_heap h.blk, lt_of_heap h.nat⟩

theorem rright_spec' {q nb : Nat} {Lv : Value} {t : VT} {v n : Int} (hv : RRep w q nb Lv t) (h : K (.bool (decide (t.right v n))) w) : CallsR Tryz.prog 86 #[pt q 0, i64 v, i64 n] K w := by
  apply c86
  unfold p86
  simp only [push_cast, Nat.reduceAdd, Nat.reduceLeDiff, Nat.reduceLT, Int.reduceToNat, Nat.left_eq_add, Nat.add_eq_left, Nat.add_left_cancel_iff, Nat.reduceEqDiff, Nat.add_assoc, Nat.succ_ne_zero, hv.blk]
  have h' : ∀ b, decide (t.right v n) = b → K (.bool b) w := fun b e => e ▸ h
  clear h
  repeat' first | with_reducible refine br_dec (fun _ => ?_) fun _ => ?_
  all_goals
    refine h' _ ?_
    unfold VT.right VT.port
    first | exact decide_eq_false (by omega) | exact decide_eq_decide.2 (by omega)

theorem rnew_spec (n : Int) (h0 : ¬ (1 ≤ n ∧ n ≤ 64) → K (.tuple #[.pointer none, i64 1]) w)
    (h1 : 1 ≤ n → n ≤ 64 → ∀ w' q nb Lv, RRep w' q nb Lv (VT.new n.toNat) → Fr none_ w w' → w.heap.size ≤ q → w.heap.size ≤ nb → New w Lv → K (.tuple #[pt q 0, i64 0]) w') :
    CallsR Tryz.prog 53 #[i64 n] K w := by
  apply c53
  unfold p53
  simp only [push_cast, Nat.reduceAdd, Nat.reduceLeDiff, Nat.reduceLT, Int.reduceToNat, Nat.left_eq_add, Nat.add_eq_left, Nat.add_left_cancel_iff, Nat.reduceEqDiff, Nat.add_assoc, Nat.succ_ne_zero]
  refine br_dec (fun ha => h0 (by omega)) fun ha => ?_
  refine br_dec (fun hb => h0 (by omega)) fun hb => ?_
  rw [opS_mks _ _ _ (by omega) (by omega) (by omega) (by rfl) (by decide)]
  simp only [push_cast, Nat.reduceAdd, Nat.reduceLeDiff, Nat.reduceLT, Int.reduceToNat, Nat.left_eq_add, Nat.add_eq_left, Nat.add_left_cancel_iff, Nat.reduceEqDiff, Nat.add_assoc, Nat.succ_ne_zero]
  rw [opS_build _ rfl]
  have e : zeros n.toNat (Value.int .i64 0).cells.toList = (List.replicate n.toNat (0 : Int)).map i64 := by
    simp [zeros, Value.cells]
  simp only [push_cast, Nat.reduceAdd, Nat.reduceLeDiff, Nat.reduceLT, Int.reduceToNat, Nat.left_eq_add, Nat.add_eq_left, Nat.add_left_cancel_iff, Nat.reduceEqDiff, Nat.add_assoc, Nat.succ_ne_zero]
  refine h1 (by omega) (by omega) _ (w.heap.size + 1) w.heap.size (.slice none 0 0) ⟨?_, own_nil _ _ _, ?_, by omega, fun b hb => (by cases hb), VT.ok_new (by omega)⟩ (by repeat' first | with_reducible exact Fr.refl _ _ | with_reducible refine Fr.step_alloc ?_ ?_ | with_reducible refine Fr.step_drew ?_ | with_reducible refine Fr.step_wr ?_ ?_ _ _ | exact rfl | exact Or.inr (by omega) | exact Or.inl rfl | exact Or.inl (Or.inl rfl) | exact Or.inl (Or.inr rfl)) (by omega) (Nat.le_refl _) (fun b hb => by cases hb)
  · simp only [push_cast, Nat.reduceAdd, Nat.reduceLeDiff, Nat.reduceLT, Int.reduceToNat, Nat.left_eq_add, Nat.add_eq_left, Nat.add_left_cancel_iff, Nat.reduceEqDiff, Nat.add_assoc, Nat.succ_ne_zero, VT.new, List.length_replicate]
    have : ((n.toNat : Nat) : Int) = n := by omega
    rw [this]
    rfl
  · simp only [push_cast, Nat.reduceAdd, Nat.reduceLeDiff, Nat.reduceLT, Int.reduceToNat, Nat.left_eq_add, Nat.add_eq_left, Nat.add_left_cancel_iff, Nat.reduceEqDiff, Nat.add_assoc, Nat.succ_ne_zero, VT.new]
    rw [← e]
    rfl

theorem rfind_spec {q nb : Nat} {Lv : Value} {t : VT} {v n : Int} (hv : RRep w q nb Lv t) (h0 : getL t.tab (v, n) = none → K (i64 (-1)) w) (h1 : ∀ (k : Nat) b, t.tab[k]? = some ((v, n), b) → getL t.tab (v, n) = some b → K (i64 k) w) :
    CallsR Tryz.prog 87 #[pt q 0, i64 v, i64 n] K w := by
  apply c87
  unfold p87
  have hsmall := VT.small hv.ok
  obtain ⟨a, c, hL⟩ := hv.lst.rd.form
  rw [List.length_map] at hL
  refine jn0 (fun w' => w' = w ∧ getL t.tab (v, n) = none) (fun w' ⟨e, hn⟩ => by subst e; exact h0 hn) fun j hj => ?_
  refine loop1 (fun m x w' => ∃ i : Nat, x = i64 i ∧ i + m = t.tab.length ∧ w' = w ∧ ∀ k p, k < i → t.tab[k]? = some p → p.1 ≠ (v, n)) ?_ t.tab.length ⟨0, rfl, by omega, rfl, fun k p hk => by omega⟩
  rintro m x w' X ⟨i, rfl, hi, rfl, hno⟩ hX
  have hlst := hv.lst
  rw [hL] at hlst
  simp only [push_cast, Nat.reduceAdd, Nat.reduceLeDiff, Nat.reduceLT, Int.reduceToNat, Nat.left_eq_add, Nat.add_eq_left, Nat.add_left_cancel_iff, Nat.reduceEqDiff, Nat.add_assoc, Nat.succ_ne_zero, hv.blk, hL]
  refine br_dec (fun hlt => ?_) fun hge => hj _ ⟨rfl, lookup_none fun p hp => ?_⟩
  · have hlt2 : i < t.tab.length := by omega
    have hnext : t.tab[i].1 ≠ (v, n) → X (i64 (i + 1 : Nat)) w' := fun hne => hX (m - 1) _ _ (by omega) ⟨i + 1, rfl, by omega, rfl, fun k p hk hp => by
      by_cases e : k = i
      · subst e
        rw [List.getElem?_eq_getElem hlt2] at hp
        cases hp
        exact hne
      · exact hno k p (by omega) hp⟩
    have hw : IntKind.i64.wrap ((i : Int) + 1) = ((i + 1 : Nat) : Int) := by rw [wrap_i64 (by omega)]; omega
    refine s_iaE hlst.rd (by omega) (by simpa using hlt2) fun b1 o1 c1 _ hE => ?_
    simp only [Int.toNat_natCast, List.getElem_map] at hE ⊢
    have hg0 : (memC t.tab[i])[0]? = some (i64 t.tab[i].1.1) := rfl
    have hg1 : (memC t.tab[i])[1]? = some (i64 t.tab[i].1.2) := rfl
    have hE0 := hE.cell 0 (show 0 < 3 by decide)
    simp only [push_cast, Nat.reduceAdd, Nat.reduceLeDiff, Nat.reduceLT, Int.reduceToNat, Nat.left_eq_add, Nat.add_eq_left, Nat.add_left_cancel_iff, Nat.reduceEqDiff, Nat.add_assoc, Nat.succ_ne_zero, hg0] at hE0
    simp only [push_cast, Nat.reduceAdd, Nat.reduceLeDiff, Nat.reduceLT, Int.reduceToNat, Nat.left_eq_add, Nat.add_eq_left, Nat.add_left_cancel_iff, Nat.reduceEqDiff, Nat.add_assoc, Nat.succ_ne_zero, hE0]
    refine br_intro (fun e1 => ?_) fun e1 => ?_
    · simp only [push_cast, Nat.reduceAdd, Nat.reduceLeDiff, Nat.reduceLT, Int.reduceToNat, Nat.left_eq_add, Nat.add_eq_left, Nat.add_left_cancel_iff, Nat.reduceEqDiff, Nat.add_assoc, Nat.succ_ne_zero, hv.blk, hL]
      refine s_iaE hlst.rd (by omega) (by simpa using hlt2) fun b1 o1 c1 _ hE => ?_
      simp only [Int.toNat_natCast, List.getElem_map] at hE ⊢
      have hE1 := hE.cell 1 (show 1 < 3 by decide)
      simp only [push_cast, Nat.reduceAdd, Nat.reduceLeDiff, Nat.reduceLT, Int.reduceToNat, Nat.left_eq_add, Nat.add_eq_left, Nat.add_left_cancel_iff, Nat.reduceEqDiff, Nat.add_assoc, Nat.succ_ne_zero, hg1] at hE1
      simp only [push_cast, Nat.reduceAdd, Nat.reduceLeDiff, Nat.reduceLT, Int.reduceToNat, Nat.left_eq_add, Nat.add_eq_left, Nat.add_left_cancel_iff, Nat.reduceEqDiff, Nat.add_assoc, Nat.succ_ne_zero, hE1]
      refine br_intro (fun e2 => ?_) fun e2 => ?_
      · have e : t.tab[i].1 = (v, n) := by
          simp at e1 e2
          exact Prod.ext e1 e2
        have hat : t.tab[i]? = some ((v, n), t.tab[i].2) := by
          rw [List.getElem?_eq_getElem hlt2, ← e]
        refine h1 i t.tab[i].2 hat ?_
        have := lookup_of_mem hv.ok.nd (List.getElem_mem hlt2)
        rw [e] at this
        exact this
      · simp only [push_cast, Nat.reduceAdd, Nat.reduceLeDiff, Nat.reduceLT, Int.reduceToNat, Nat.left_eq_add, Nat.add_eq_left, Nat.add_left_cancel_iff, Nat.reduceEqDiff, Nat.add_assoc, Nat.succ_ne_zero, hw]
        refine hnext fun e => ?_
        rw [e] at e2
        simp at e2
    · simp only [push_cast, Nat.reduceAdd, Nat.reduceLeDiff, Nat.reduceLT, Int.reduceToNat, Nat.left_eq_add, Nat.add_eq_left, Nat.add_left_cancel_iff, Nat.reduceEqDiff, Nat.add_assoc, Nat.succ_ne_zero, hw]
      refine hnext fun e => ?_
      rw [e] at e1
      simp at e1
  · obtain ⟨k, hk⟩ := List.mem_iff_getElem?.1 hp
    exact hno k p (by have := (List.getElem?_eq_some_iff.1 hk).1; omega) hk

theorem build_mem (v n : Int) (b : Bool) : opS Tryz.prog (S.build 144 [(0, i64 v), (1, i64 n), (2, .bool b)]) K w = K (.agg (memC ((v, n), b)).toArray) w := by
  rw [opS_build _ rfl]; rfl

theorem radd_spec {q nb : Nat} {Lv : Value} {t : VT} {v n : Int} {b : Bool} (hv : RRep w q nb Lv t) (h : ∀ w' Lv', RRep w' q nb Lv' (t.add v n b).1 → Fr (rfp q nb Lv) w w' → (blkS Lv' = blkS Lv ∨ New w Lv') → K (i64 (t.add v n b).2) w') :
    CallsR Tryz.prog 57 #[pt q 0, i64 v, i64 n, .bool b] K w := by
  apply c57
  unfold p57
  simp only [push_cast, Nat.reduceAdd, Nat.reduceLeDiff, Nat.reduceLT, Int.reduceToNat, Nat.left_eq_add, Nat.add_eq_left, Nat.add_left_cancel_iff, Nat.reduceEqDiff, Nat.add_assoc, Nat.succ_ne_zero]
  refine rright_spec' hv ?_
  have hok := VT.ok_add hv.ok v n b
  have hsmall := VT.small hv.ok
  by_cases hr : t.right v n
  · rw [VT.add, if_pos hr] at h hok
    simp only [hr, push_cast, Nat.reduceAdd, Nat.reduceLeDiff, Nat.reduceLT, Int.reduceToNat, Nat.left_eq_add, Nat.add_eq_left, Nat.add_left_cancel_iff, Nat.reduceEqDiff, Nat.add_assoc, Nat.succ_ne_zero]
    refine rfind_spec hv (fun hg => ?_) fun k b0 hat hg => ?_
    · rw [VT.setL_new hg] at h hok
      have b1 : decide ((-1 : Int) ≥ 0) = false := rfl
      simp only [push_cast, Nat.reduceAdd, Nat.reduceLeDiff, Nat.reduceLT, Int.reduceToNat, Nat.left_eq_add, Nat.add_eq_left, Nat.add_left_cancel_iff, Nat.reduceEqDiff, Nat.add_assoc, Nat.succ_ne_zero, b1]
      refine s_bs0 fun vA WA hA fA nA => ?_
      have hpA := fA.heap hv.blk (fun h => h)
      simp only [push_cast, Nat.reduceAdd, Nat.reduceLeDiff, Nat.reduceLT, Int.reduceToNat, Nat.left_eq_add, Nat.add_eq_left, Nat.add_left_cancel_iff, Nat.reduceEqDiff, Nat.add_assoc, Nat.succ_ne_zero, hpA]
      refine s_app (sz := 3) (by_ := 24) (by rfl) (by decide) hA (hv.lst.rd.fr fA (fun _ _ h => h)) (memC_one _) (by simp; omega) fun vB WB hB bB fB => ?_
      rw [List.nil_append] at hB
      simp only [build_mem, push_cast, Nat.reduceAdd, Nat.reduceLeDiff, Nat.reduceLT, Int.reduceToNat, Nat.left_eq_add, Nat.add_eq_left, Nat.add_left_cancel_iff, Nat.reduceEqDiff, Nat.add_assoc, Nat.succ_ne_zero]
      refine s_bs1 (sz := 3) (x := memC ((v, n), b)) rfl (by rfl) (by decide) (by decide) fun vC WC hC fC nC => ?_
      have hB' := hB.fr fC (fun _ _ h => h)
      refine s_app (sz := 3) (by_ := 24) (by rfl) (by decide) hB' hC.rd (by simp [memC]; exact ⟨rfl, rfl, rfl⟩) (by simp; omega) fun vD WD hD bD fD => ?_
      have hnB : New w vB := fun x hx => by
        rcases bB with bB | bB
        · exact nA x (bB ▸ hx)
        · exact Nat.le_trans fA.size (bB x hx)
      have hnD : New w vD := fun x hx => by
        rcases bD with bD | bD
        · exact hnB x (bD ▸ hx)
        · exact Nat.le_trans (Nat.le_trans fA.size (Nat.le_trans fB.size fC.size)) (bD x hx)
      have hF : Fr none_ w WD := ((fA.trans_new fB (fun x hx hh => by have := nA x hh; omega)).trans fC).trans_new fD (fun x hx hh => by have := hnB x hh; omega)
      have hp := hF.heap hv.blk (fun h => h)
      have hoD := hD.one
      have hq := hv.lt
      simp only [push_cast, Nat.reduceAdd, Nat.reduceLeDiff, Nat.reduceLT, Int.reduceToNat, Nat.left_eq_add, Nat.add_eq_left, Nat.add_left_cancel_iff, Nat.reduceEqDiff, Nat.add_assoc, Nat.succ_ne_zero, hp, hoD]
      have hqn := hv.qn
      refine h _ vD ⟨?_, ?_, ?_, hv.qn, fun x hx => ⟨fun e => by have := hnD x hx; omega, fun e => by have := hnD x hx; omega⟩, hok⟩ (Fr.trans (hF.mono fun _ _ h => h.elim) (Fr.wr _ _ _ _ (.inl rfl))) (.inr hnD)
      · simp only [push_cast, Nat.reduceAdd, Nat.reduceLeDiff, Nat.reduceLT, Int.reduceToNat, Nat.left_eq_add, Nat.add_eq_left, Nat.add_left_cancel_iff, Nat.reduceEqDiff, Nat.add_assoc, Nat.succ_ne_zero, hp]
      · rw [List.map_append]
        exact hD.fr (Fr.wr (fp := fun x => x = q) WD q 1 [vD] rfl) (fun x hx e => by have := hnD x hx; omega)
      · have := hF.heap hv.nat (fun h => h)
        have hne : nb ≠ q := fun e => hqn e.symm
        simp only [push_cast, Nat.reduceAdd, Nat.reduceLeDiff, Nat.reduceLT, Int.reduceToNat, Nat.left_eq_add, Nat.add_eq_left, Nat.add_left_cancel_iff, Nat.reduceEqDiff, Nat.add_assoc, Nat.succ_ne_zero, hne, this]
    · rw [VT.setL_at hv.ok.nd hat] at h hok
      have hk := (List.getElem?_eq_some_iff.1 hat).1
      obtain ⟨a, c, hL⟩ := hv.lst.rd.form
      rw [List.length_map] at hL
      have hlst := hv.lst
      rw [hL] at hlst
      have b1 : decide ((k : Int) ≥ 0) = true := decide_eq_true (by omega)
      simp only [push_cast, Nat.reduceAdd, Nat.reduceLeDiff, Nat.reduceLT, Int.reduceToNat, Nat.left_eq_add, Nat.add_eq_left, Nat.add_left_cancel_iff, Nat.reduceEqDiff, Nat.add_assoc, Nat.succ_ne_zero, b1, hv.blk, hL]
      refine s_iaE hlst.rd (by omega) (by simpa using hk) fun b1 o1 c1 hv1 _ => ?_
      simp only [Int.toNat_natCast]
      rw [List.length_map, Value.slice.injEq] at hv1
      obtain ⟨rfl, _, rfl⟩ := hv1
      have hl2 : OwnE 144 3 w (.slice (some ⟨b1, o1, none⟩) (t.tab.map memC).length c) (t.tab.map memC) := by rw [List.length_map]; exact hlst
      obtain ⟨g1, g2⟩ := hl2.putF (i := k) (f := 2) (by simpa using hk) (by decide) (.bool b)
      have hlq := hv.lq b1 (by rw [hL]; rfl)
      have ne1 : q ≠ b1 := fun e => hlq.1 e.symm
      have ne2 : nb ≠ b1 := fun e => hlq.2 e.symm
      rw [Nat.add_assoc] at g1 g2
      simp only [push_cast, Nat.reduceAdd, Nat.reduceLeDiff, Nat.reduceLT, Int.reduceToNat, Nat.left_eq_add, Nat.add_eq_left, Nat.add_left_cancel_iff, Nat.reduceEqDiff, Nat.add_assoc, Nat.succ_ne_zero, g1]
      refine h _ (.slice (some ⟨b1, o1, none⟩) t.tab.length c) ⟨?_, ?_, ?_, hv.qn, fun x hx => by cases hx; exact hlq, hok⟩ (Fr.wr _ _ _ _ (.inr (.inr (by rw [hL]; rfl)))) (.inl (by rw [hL]))
      · simp only [push_cast, Nat.reduceAdd, Nat.reduceLeDiff, Nat.reduceLT, Int.reduceToNat, Nat.left_eq_add, Nat.add_eq_left, Nat.add_left_cancel_iff, Nat.reduceEqDiff, Nat.add_assoc, Nat.succ_ne_zero, ne1, hv.blk, hL]
      · have e : (t.tab.map memC).set k (((t.tab.map memC)[k]'(by simpa using hk)).set 2 (.bool b)) = (t.tab.set k ((v, n), b)).map memC := by
          rw [List.map_set]
          congr 1
          rw [List.getElem_map]
          have : t.tab[k] = ((v, n), b0) := (List.getElem?_eq_some_iff.1 hat).2
          rw [this]
          rfl
        rw [e, List.length_map] at g2
        exact g2
      · simp only [push_cast, Nat.reduceAdd, Nat.reduceLeDiff, Nat.reduceLT, Int.reduceToNat, Nat.left_eq_add, Nat.add_eq_left, Nat.add_left_cancel_iff, Nat.reduceEqDiff, Nat.add_assoc, Nat.succ_ne_zero, ne2, hv.nat]
  · rw [VT.add, if_neg hr] at h
    simp only [hr, push_cast, Nat.reduceAdd, Nat.reduceLeDiff, Nat.reduceLT, Int.reduceToNat, Nat.left_eq_add, Nat.add_eq_left, Nat.add_left_cancel_iff, Nat.reduceEqDiff, Nat.add_assoc, Nat.succ_ne_zero]
    exact h w Lv hv (Fr.refl _ _) (.inl rfl)

theorem rnative_spec {q nb : Nat} {Lv : Value} {t : VT} {n v : Int} (hv : RRep w q nb Lv t) (h : ∀ w', RRep w' q nb Lv (t.native n v).1 → Fr (rfp q nb Lv) w w' → K (i64 (t.native n v).2) w') :
    CallsR Tryz.prog 59 #[pt q 0, i64 n, i64 v] K w := by
  apply c59
  unfold p59
  simp only [push_cast, Nat.reduceAdd, Nat.reduceLeDiff, Nat.reduceLT, Int.reduceToNat, Nat.left_eq_add, Nat.add_eq_left, Nat.add_left_cancel_iff, Nat.reduceEqDiff, Nat.add_assoc, Nat.succ_ne_zero, hv.blk]
  have hbad : ¬ (t.port n ∧ 0 ≤ v ∧ v ≤ 4094) → K (i64 1) w := fun hb => by
    have := h w
    rw [VT.native, if_neg hb] at this
    exact this hv (Fr.refl _ _)
  refine br_dec (fun h1 => hbad fun h2 => by have := h2.1.1; omega) fun h1 => ?_
  refine br_dec (fun h2 => hbad fun h3 => by have := h3.1.2; omega) fun h2 => ?_
  have hp : t.port n := ⟨by omega, by omega⟩
  refine br_dec (fun h2 => hbad (by omega)) fun h2 => ?_
  refine br_dec (fun h3 => hbad (by omega)) fun h3 => ?_
  rw [VT.native, if_pos ⟨hp, by omega, by omega⟩] at h
  have hok := VT.ok_native hv.ok n v
  rw [VT.native, if_pos ⟨hp, by omega, by omega⟩] at hok
  rw [opS_iaS, if_pos (show 0 ≤ n ∧ n < _ from hp)]
  have hlt : n.toNat < t.nat.length := by have := hp.1; have := hp.2; omega
  simp only [push_cast, Nat.reduceAdd, Nat.reduceLeDiff, Nat.reduceLT, Int.reduceToNat, Nat.left_eq_add, Nat.add_eq_left, Nat.add_left_cancel_iff, Nat.reduceEqDiff, Nat.add_assoc, Nat.succ_ne_zero, hv.nat, Nat.mul_one, List.length_map]
  have hle : decide (n.toNat + 1 ≤ t.nat.length) = true := decide_eq_true (by omega)
  have hqn := hv.qn
  simp only [hle, push_cast, Nat.reduceAdd, Nat.reduceLeDiff, Nat.reduceLT, Int.reduceToNat, Nat.left_eq_add, Nat.add_eq_left, Nat.add_left_cancel_iff, Nat.reduceEqDiff, Nat.add_assoc, Nat.succ_ne_zero]
  refine h _ ⟨?_, hv.lst.fr (Fr.wr (fp := fun b => b = nb) w nb n.toNat [i64 v] rfl) (fun b hb e => (hv.lq b hb).2 e), ?_, hqn, hv.lq, hok⟩ (Fr.wr _ _ _ _ (.inr (.inl rfl)))
  · simp only [push_cast, Nat.reduceAdd, Nat.reduceLeDiff, Nat.reduceLT, Int.reduceToNat, Nat.left_eq_add, Nat.add_eq_left, Nat.add_left_cancel_iff, Nat.reduceEqDiff, Nat.add_assoc, Nat.succ_ne_zero, hqn, hv.blk, List.length_set]
  · simp only [push_cast, Nat.reduceAdd, Nat.reduceLeDiff, Nat.reduceLT, Int.reduceToNat, Nat.left_eq_add, Nat.add_eq_left, Nat.add_left_cancel_iff, Nat.reduceEqDiff, Nat.add_assoc, Nat.succ_ne_zero, hv.nat]
    rw [splice_ints _ _ hlt]

theorem rremove_spec {q nb : Nat} {Lv : Value} {t : VT} {v n : Int} (hv : RRep w q nb Lv t) (h : ∀ w' Lv', RRep w' q nb Lv' (t.remove v n).1 → Fr (rfp q nb Lv) w w' → (blkS Lv' = blkS Lv ∨ New w Lv') → K (i64 (t.remove v n).2) w') :
    CallsR Tryz.prog 61 #[pt q 0, i64 v, i64 n] K w := by
  apply c61
  unfold p61
  simp only [push_cast, Nat.reduceAdd, Nat.reduceLeDiff, Nat.reduceLT, Int.reduceToNat, Nat.left_eq_add, Nat.add_eq_left, Nat.add_left_cancel_iff, Nat.reduceEqDiff, Nat.add_assoc, Nat.succ_ne_zero]
  refine rright_spec' hv ?_
  have hok := VT.ok_remove hv.ok v n
  have hsmall := VT.small hv.ok
  by_cases hr : t.right v n
  · rw [VT.remove, if_pos hr] at h hok
    simp only [hr, push_cast, Nat.reduceAdd, Nat.reduceLeDiff, Nat.reduceLT, Int.reduceToNat, Nat.left_eq_add, Nat.add_eq_left, Nat.add_left_cancel_iff, Nat.reduceEqDiff, Nat.add_assoc, Nat.succ_ne_zero]
    refine rfind_spec hv (fun hg => ?_) fun k b0 hat hg => ?_
    · rw [hg] at h
      have b1 : decide ((-1 : Int) < 0) = true := rfl
      simp only [push_cast, Nat.reduceAdd, Nat.reduceLeDiff, Nat.reduceLT, Int.reduceToNat, Nat.left_eq_add, Nat.add_eq_left, Nat.add_left_cancel_iff, Nat.reduceEqDiff, Nat.add_assoc, Nat.succ_ne_zero, b1]
      exact h w Lv hv (Fr.refl _ _) (.inl rfl)
    · rw [hg] at h hok
      simp only [Option.isSome_some, if_true] at h hok
      rw [VT.delL_at hv.ok.nd hat] at h hok
      have hk := (List.getElem?_eq_some_iff.1 hat).1
      have b1 : decide ((k : Int) < 0) = false := decide_eq_false (by omega)
      simp only [push_cast, Nat.reduceAdd, Nat.reduceLeDiff, Nat.reduceLT, Int.reduceToNat, Nat.left_eq_add, Nat.add_eq_left, Nat.add_left_cancel_iff, Nat.reduceEqDiff, Nat.add_assoc, Nat.succ_ne_zero, b1]
      obtain ⟨a, c, hLv⟩ := hv.lst.rd.form
      have hL : RdE 3 w.drew Lv (t.tab.map memC) := hv.lst.rd
      have hp : w.drew.heap[q]? = _ := hv.blk
      have hF : Fr none_ w w.drew := Fr.drew w
      have hqlt := hv.lt.1
      have hLold : ∀ b, blkS Lv = some b → b < w.heap.size := fun b hb => hv.lst.lt hb
      have hqn := hv.qn
      have hML : (t.tab.map memC).length = t.tab.length := List.length_map ..
      have ek1 : IntKind.i64.wrap ((k : Int) + 1) = (k : Int) + 1 := wrap_i64 (by omega)
      have e6 : ((t.tab.map memC).take k).flatten.all S.oneCell = true := by rw [← List.map_take]; exact memC_one _
      have e7 : ((t.tab.map memC).drop (k + 1)).flatten.all S.oneCell = true := by rw [← List.map_drop]; exact memC_one _
      have e8 : ([] : List (List Value)).length + ((t.tab.map memC).take k).length ≤ 300000 := by simp; omega
      have e9 : ((t.tab.map memC).take k).length + ((t.tab.map memC).drop (k + 1)).length ≤ 300000 := by simp; omega
      have hfin : (t.tab.map memC).take k ++ (t.tab.map memC).drop (k + 1) = (t.tab.take k ++ t.tab.drop (k + 1)).map memC := by
        rw [List.map_append, List.map_take, List.map_drop]
      rw [hML] at hLv
      generalize hM : t.tab.map memC = M at *
      have S1 : ∀ (K : Value → World → Prop) (w : World), K (.slice (if c = 0 then a else a.map (·.add (0 * 3))) (k - 0) (c - 0)) w → k ≤ c → opS Tryz.prog (S.slc 139 Lv none (some (i64 k)) none) K w := by
        intro K w h hc
        rw [hLv, opS_slice (run_boundsH (by omega) (by omega)), Int.toNat_natCast]
        exact h
      have S2 : ∀ (K : Value → World → Prop) (w : World), K (.slice (if c = k + 1 then a else a.map (·.add ((k + 1) * 3))) (t.tab.length - (k + 1)) (c - (k + 1))) w → opS Tryz.prog (S.slc 139 Lv (some (i64 ((k : Int) + 1))) none none) K w := by
        intro K w h
        have e : ((k : Int) + 1).toNat = k + 1 := by omega
        rw [hLv, opS_slice (run_boundsL (by omega) (by omega)), e]
        exact h
      have hc : k ≤ c := by
        have := hv.lst.1
        rw [hLv] at this
        rcases this with ⟨h1, h2, _⟩ | ⟨_, _, _, _, h1, _, h2, _⟩
        · rw [hM] at h2; omega
        · simp only [Value.slice.injEq] at h1
          rw [hM] at h2; omega
      have P1 : ∀ W, RdE 3 W Lv M → RdE 3 W (.slice (if c = 0 then a else a.map (·.add (0 * 3))) (k - 0) (c - 0)) (M.take k) := by
        intro W hW
        rw [hLv, ← hML] at hW
        have := hW.part (l := 0) (m := k) (by omega) (by omega)
        rwa [List.drop_zero] at this
      have P2 : ∀ W, RdE 3 W Lv M → RdE 3 W (.slice (if c = k + 1 then a else a.map (·.add ((k + 1) * 3))) (t.tab.length - (k + 1)) (c - (k + 1))) (M.drop (k + 1)) := by
        intro W hW
        rw [hLv, ← hML] at hW
        have := hW.part (l := k + 1) (m := M.length) (by omega) (by omega)
        rwa [List.take_length, hML] at this
      have B0 : ∀ (K : Value → World → Prop) (w : World), (∀ v' w', OwnE 144 3 w' v' [] → Fr none_ w w' → New w v' → K v' w') → opS Tryz.prog (S.buildS 139 0 []) K w := fun K w h => s_bs0 h
      have B2 : ∀ (K : Value → World → Prop) (w : World) (v u : Value) (es fs : List (List Value)), OwnE 144 3 w v es → RdE 3 w u fs → fs.flatten.all S.oneCell = true → es.length + fs.length ≤ 300000 →
          (∀ v' w', OwnE 144 3 w' v' (es ++ fs) → (blkS v' = blkS v ∨ New w v') → Fr (fun b => blkS v = some b) w w' → K v' w') → opS Tryz.prog (S.bi .append #[139, 139] 139 [v, u]) K w :=
        fun K w v u es fs h1 h2 h3 h4 h => s_app (sz := 3) (by_ := 24) (by rfl) (by decide) h1 h2 h3 (by omega) h
      have hfinal : ∀ W vD, W.heap[q]? = some (cellsO [i64 t.nat.length, Lv, .slice (some ⟨nb, 0, none⟩) t.nat.length t.nat.length] 141) → OwnE 144 3 W vD ((t.tab.take k ++ t.tab.drop (k + 1)).map memC) → Fr none_ w W → New w vD → K (i64 0) (wr W q 1 [vD]) := by
        intro W vD hp hD hF hN
        have hq := hv.lt
        refine h _ vD ⟨?_, hD.fr (Fr.wr (fp := fun x => x = q) W q 1 [vD] rfl) (fun x hx e => by have := hN x hx; omega), ?_, hqn, fun x hx => ⟨fun e => by have := hN x hx; omega, fun e => by have := hN x hx; omega⟩, hok⟩ (Fr.trans (hF.mono fun _ _ h => h.elim) (Fr.wr _ _ _ _ (.inl rfl))) (.inr hN)
        · simp only [push_cast, Nat.reduceAdd, Nat.reduceLeDiff, Nat.reduceLT, Int.reduceToNat, Nat.left_eq_add, Nat.add_eq_left, Nat.add_left_cancel_iff, Nat.reduceEqDiff, Nat.add_assoc, Nat.succ_ne_zero, hp]
        · have := hF.heap hv.nat (fun h => h)
          have hne : nb ≠ q := fun e => hqn e.symm
          simp only [push_cast, Nat.reduceAdd, Nat.reduceLeDiff, Nat.reduceLT, Int.reduceToNat, Nat.left_eq_add, Nat.add_eq_left, Nat.add_left_cancel_iff, Nat.reduceEqDiff, Nat.add_assoc, Nat.succ_ne_zero, hne, this]
      clear h hM hv
      generalize w.drew = W at *
      simp only [push_cast, Nat.reduceAdd, Nat.reduceLeDiff, Nat.reduceLT, Int.reduceToNat, Nat.left_eq_add, Nat.add_eq_left, Nat.add_left_cancel_iff, Nat.reduceEqDiff, Nat.add_assoc, Nat.succ_ne_zero, hp, ek1]
      repeat' first
        | with_reducible refine allW_intro ?_ ?_
        | (with_reducible refine B0 _ _ fun vA WA hA fA nA => ?_
           have hAn : New w vA := fun b hb => Nat.le_trans hF.size (nA b hb)
           replace hp := fA.heap hp (fun h => h)
           replace hL := hL.fr fA (fun _ _ h => h)
           replace hF := hF.trans_new fA (fun _ _ h => h.elim)
           clear fA nA)
        | with_reducible refine S1 _ _ ?_ hc
        | with_reducible refine S2 _ _ ?_
        | (with_reducible refine B2 _ _ _ _ _ _ hA (P1 _ hL) e6 e8 fun vC WC hC bC fC => ?_
           rw [List.nil_append] at hC
           have hCn : New w vC := fun b hb => by
             rcases bC with bC | bC
             · exact hAn b (bC ▸ hb)
             · exact Nat.le_trans hF.size (bC b hb)
           replace hp := fC.heap hp (fun hh => by have := hAn _ hh; omega)
           replace hL := hL.fr fC (fun b hb hh => by have := hAn b hh; have := hLold b hb; omega)
           replace hF := hF.trans_new fC (fun b hb hh => by have := hAn b hh; omega)
           clear fC bC hA)
        | (with_reducible refine B2 _ _ _ _ _ _ hC (P2 _ hL) e7 e9 fun vD WD hD bD fD => ?_
           rw [hfin] at hD
           have hDn : New w vD := fun b hb => by
             rcases bD with bD | bD
             · exact hCn b (bD ▸ hb)
             · exact Nat.le_trans hF.size (bD b hb)
           replace hp := fD.heap hp (fun hh => by have := hCn _ hh; omega)
           replace hF := hF.trans_new fD (fun b hb hh => by have := hCn b hh; omega)
           have hoD := hD.one
           clear fD bD hC
           simp only [push_cast, Nat.reduceAdd, Nat.reduceLeDiff, Nat.reduceLT, Int.reduceToNat, Nat.left_eq_add, Nat.add_eq_left, Nat.add_left_cancel_iff, Nat.reduceEqDiff, Nat.add_assoc, Nat.succ_ne_zero, hp, hoD]
           exact hfinal _ _ hp hD hF hDn)
        | simp only [push_cast, Nat.reduceAdd, Nat.reduceLeDiff, Nat.reduceLT, Int.reduceToNat, Nat.left_eq_add, Nat.add_eq_left, Nat.add_left_cancel_iff, Nat.reduceEqDiff, Nat.add_assoc, Nat.succ_ne_zero, hp, ek1]
  · rw [VT.remove, if_neg hr] at h
    simp only [hr, push_cast, Nat.reduceAdd, Nat.reduceLeDiff, Nat.reduceLT, Int.reduceToNat, Nat.left_eq_add, Nat.add_eq_left, Nat.add_left_cancel_iff, Nat.reduceEqDiff, Nat.add_assoc, Nat.succ_ne_zero]
    exact h w Lv hv (Fr.refl _ _) (.inl rfl)

theorem rin_spec {q nb : Nat} {Lv : Value} {t : VT} {n : Int} {f : Frm} {bs : List Int} (hv : RRep w q nb Lv t) (hf : FrmR w f bs) (h : ∀ w', Fr none_ w w' → K (.tuple #[i64 (t.inn n f bs.length).1, i64 (t.inn n f bs.length).2]) w') :
    CallsR Tryz.prog 115 #[pt q 0, i64 n, .agg f.cells.toArray] K w := by
  apply c115
  unfold p115
  obtain ⟨a, c, hbd⟩ := hf.2.form
  have h0 : (w.alloc (cellsO f.cells 27)).heap[w.heap.size]? = some (cellsO f.cells 27) := by simp only [push_cast, Nat.reduceAdd, Nat.reduceLeDiff, Nat.reduceLT, Int.reduceToNat, Nat.left_eq_add, Nat.add_eq_left, Nat.add_left_cancel_iff, Nat.reduceEqDiff, Nat.add_assoc, Nat.succ_ne_zero]
  have hF : Fr none_ w (w.alloc (cellsO f.cells 27)) := (by repeat' first | with_reducible exact Fr.refl _ _ | with_reducible refine Fr.step_alloc ?_ ?_ | with_reducible refine Fr.step_drew ?_ | with_reducible refine Fr.step_wr ?_ ?_ _ _ | exact rfl | exact Or.inr (by omega) | exact Or.inl rfl | exact Or.inl (Or.inl rfl) | exact Or.inl (Or.inr rfl))
  simp only [opS_box, cells_agg, alloc_cellsO]
  generalize w.alloc (cellsO f.cells 27) = W at *
  simp only [push_cast, Nat.reduceAdd, Nat.reduceLeDiff, Nat.reduceLT, Int.reduceToNat, Nat.left_eq_add, Nat.add_eq_left, Nat.add_left_cancel_iff, Nat.reduceEqDiff, Nat.add_assoc, Nat.succ_ne_zero, h0]
  refine rright_spec hbd fun W2 hF2 => ?_
  replace hF := hF.trans hF2
  replace h0 := hF2.heap h0 (fun h => h)
  have hv2 := hv.fr0 hF
  simp only [push_cast, Nat.reduceAdd, Nat.reduceLeDiff, Nat.reduceLT, Int.reduceToNat, Nat.left_eq_add, Nat.add_eq_left, Nat.add_left_cancel_iff, Nat.reduceEqDiff, Nat.add_assoc, Nat.succ_ne_zero, hv2.blk]
  have hbad : ¬ (t.port n ∧ f.right bs.length = true) → K (.tuple #[.int .i64 0, .int .i64 1]) W2 := fun hb => by
    rw [VT.inn, if_neg hb] at h
    exact h _ hF
  refine br_intro (fun hr => hbad fun h => by rw [h.2] at hr; cases hr) fun hr => ?_
  have hr : f.right bs.length = true := by simpa using hr
  refine br_dec (fun h1 => hbad fun h => by have := h.1.1; omega) fun h1 => ?_
  refine br_dec (fun h2 => hbad fun h => by have := h.1.2; omega) fun h2 => ?_
  have hp : t.port n := ⟨by omega, by omega⟩
  have hlt : n.toNat < t.nat.length := by have := hp.1; have := hp.2; omega
  rw [VT.inn, if_pos ⟨hp, hr⟩] at h
  rw [opS_iaS, if_pos (show 0 ≤ n ∧ n < _ from hp)]
  have hg : t.nat.getD n.toNat 0 = t.nat[n.toNat] := by simp [List.getD, List.getElem?_eq_getElem hlt]
  rw [hg] at h
  simp only [push_cast, Nat.reduceAdd, Nat.reduceLeDiff, Nat.reduceLT, Int.reduceToNat, Nat.left_eq_add, Nat.add_eq_left, Nat.add_left_cancel_iff, Nat.reduceEqDiff, Nat.add_assoc, Nat.succ_ne_zero, hv2.nat, Nat.mul_one, List.getElem?_map, List.getElem?_eq_getElem hlt, Option.map_some]
  have key : ∀ u : Int, (u = if f.vlan = 0 then t.nat[n.toNat] else f.vlan) →
      opS Tryz.prog (S.binI .eql (i64 u) (.int .i64 0)) (fun x18 => brn x18 (K (.tuple #[.int .i64 0, .int .i64 4])) (opS Tryz.prog (S.cl 87 [pt q 0, i64 u, i64 n]) fun x19 => opS Tryz.prog (S.binI .lss x19 (.int .i64 0)) fun x20 =>
        brn x20 (K (.tuple #[.int .i64 0, .int .i64 4])) (K (.tuple #[i64 u, .int .i64 0])))) W2 := by
    rintro u rfl
    simp only [] at h
    generalize (if f.vlan = 0 then t.nat[n.toNat] else f.vlan) = u at *
    simp only [push_cast, Nat.reduceAdd, Nat.reduceLeDiff, Nat.reduceLT, Int.reduceToNat, Nat.left_eq_add, Nat.add_eq_left, Nat.add_left_cancel_iff, Nat.reduceEqDiff, Nat.add_assoc, Nat.succ_ne_zero]
    have hno : getL t.tab (u, n) = none → K (.tuple #[.int .i64 0, .int .i64 4]) W2 := fun hg => by
      have : t.is u n = false := by unfold VT.is; rw [hg]; rfl
      rw [this] at h
      exact h _ hF
    refine br_intro (fun h3 => hno ?_) fun h3 => ?_
    · have h3 : u = 0 := by simpa using h3
      cases hg : getL t.tab (u, n) with
      | none => rfl
      | some b =>
        have := hv.ok.key _ (lookup_some_mem hg)
        have := this.1
        simp only [] at this
        omega
    · refine rfind_spec hv2 (fun hg => ?_) fun k b hk hg => ?_
      · have b1 : decide ((-1 : Int) < 0) = true := rfl
        simp only [push_cast, Nat.reduceAdd, Nat.reduceLeDiff, Nat.reduceLT, Int.reduceToNat, Nat.left_eq_add, Nat.add_eq_left, Nat.add_left_cancel_iff, Nat.reduceEqDiff, Nat.add_assoc, Nat.succ_ne_zero, b1]
        exact hno hg
      · have b1 : decide ((k : Int) < 0) = false := decide_eq_false (by omega)
        simp only [push_cast, Nat.reduceAdd, Nat.reduceLeDiff, Nat.reduceLT, Int.reduceToNat, Nat.left_eq_add, Nat.add_eq_left, Nat.add_left_cancel_iff, Nat.reduceEqDiff, Nat.add_assoc, Nat.succ_ne_zero, b1]
        have : t.is u n = true := by unfold VT.is; rw [hg]; rfl
        rw [this] at h
        exact h _ hF
  clear h
  refine jn1 (fun v w' => w' = W2 ∧ ∃ u : Int, v = i64 u ∧ u = if f.vlan = 0 then t.nat[n.toNat] else f.vlan) ?_ fun j hj => ?_
  · rintro v w' ⟨rfl, u, rfl, hu⟩
    exact key u hu
  · refine jn0 (fun w' => w' = W2 ∧ f.vlan = 0) ?_ fun j2 hj2 => ?_
    · rintro w' ⟨e, hz0⟩
      exact hj _ _ ⟨e, _, rfl, by rw [if_pos hz0]⟩
    · simp only [push_cast, Nat.reduceAdd, Nat.reduceLeDiff, Nat.reduceLT, Int.reduceToNat, Nat.left_eq_add, Nat.add_eq_left, Nat.add_left_cancel_iff, Nat.reduceEqDiff, Nat.add_assoc, Nat.succ_ne_zero, h0]
      refine br_intro (fun ht => ?_) fun ht => hj2 _ ⟨rfl, ?_⟩
      · refine br_intro (fun h3 => ?_) fun h3 => hj2 _ ⟨rfl, by simpa using h3⟩
        have h3 : f.vlan ≠ 0 := by simpa using h3
        exact hj _ _ ⟨rfl, _, rfl, by rw [if_neg h3]⟩
      · unfold Frm.right at hr
        rw [ht] at hr
        simp at hr
        exact hr.2.1

theorem rout_spec {q nb : Nat} {Lv : Value} {t : VT} {v n : Int} {f : Frm} {bs : List Int} (hv : RRep w q nb Lv t) (hf : FrmR w f bs) (h : ∀ w', Fr none_ w w' → K (.tuple #[.agg (t.out v n f bs.length).1.cells.toArray, i64 (t.out v n f bs.length).2]) w') :
    CallsR Tryz.prog 98 #[pt q 0, i64 v, i64 n, .agg f.cells.toArray] K w := by
  apply c98
  unfold p98
  obtain ⟨a, c, hbd⟩ := hf.2.form
  have hone : f.cells.all S.oneCell = true := Frm.one _ hf.2.one
  have hone0 : zFrm.cells.all S.oneCell = true := rfl
  have hz : ∀ w : World, w.alloc (cellsO [Value.int IntKind.u8 0, Value.int IntKind.u8 0, Value.int IntKind.u8 0, Value.int IntKind.u8 0, Value.int IntKind.u8 0, Value.int IntKind.u8 0, Value.int IntKind.u8 0, Value.int IntKind.u8 0, Value.int IntKind.u8 0, Value.int IntKind.u8 0, Value.int IntKind.u8 0, Value.int IntKind.u8 0,
    Value.bool false, Value.int IntKind.i64 0, Value.int IntKind.i64 0, Value.int IntKind.i64 0, Value.slice none 0 0] 27) = w.alloc (cellsO zFrm.cells 27) := fun _ => rfl
  simp only [push_cast, Nat.reduceAdd, Nat.reduceLeDiff, Nat.reduceLT, Int.reduceToNat, Nat.left_eq_add, Nat.add_eq_left, Nat.add_left_cancel_iff, Nat.reduceEqDiff, Nat.add_assoc, Nat.succ_ne_zero, hz]
  have h0 : ((w.alloc (cellsO f.cells 27)).alloc (cellsO zFrm.cells 27)).heap[w.heap.size]? = some (cellsO f.cells 27) := by simp only [push_cast, Nat.reduceAdd, Nat.reduceLeDiff, Nat.reduceLT, Int.reduceToNat, Nat.left_eq_add, Nat.add_eq_left, Nat.add_left_cancel_iff, Nat.reduceEqDiff, Nat.add_assoc, Nat.succ_ne_zero]
  have h1 : ((w.alloc (cellsO f.cells 27)).alloc (cellsO zFrm.cells 27)).heap[w.heap.size + 1]? = some (cellsO zFrm.cells 27) := by simp only [push_cast, Nat.reduceAdd, Nat.reduceLeDiff, Nat.reduceLT, Int.reduceToNat, Nat.left_eq_add, Nat.add_eq_left, Nat.add_left_cancel_iff, Nat.reduceEqDiff, Nat.add_assoc, Nat.succ_ne_zero]
  have hF : Fr none_ w ((w.alloc (cellsO f.cells 27)).alloc (cellsO zFrm.cells 27)) := (by repeat' first | with_reducible exact Fr.refl _ _ | with_reducible refine Fr.step_alloc ?_ ?_ | with_reducible refine Fr.step_drew ?_ | with_reducible refine Fr.step_wr ?_ ?_ _ _ | exact rfl | exact Or.inr (by omega) | exact Or.inl rfl | exact Or.inl (Or.inl rfl) | exact Or.inl (Or.inr rfl))
  generalize (w.alloc (cellsO f.cells 27)).alloc (cellsO zFrm.cells 27) = W at *
  refine rright_spec hbd fun W2 hF2 => ?_
  replace hF := hF.trans hF2
  replace h0 := hF2.heap h0 (fun h => h)
  replace h1 := hF2.heap h1 (fun h => h)
  have hv2 := hv.fr0 hF
  refine rright_spec' hv2 ?_
  simp only [push_cast, Nat.reduceAdd, Nat.reduceLeDiff, Nat.reduceLT, Int.reduceToNat, Nat.left_eq_add, Nat.add_eq_left, Nat.add_left_cancel_iff, Nat.reduceEqDiff, Nat.add_assoc, Nat.succ_ne_zero, h0, h1, hone, hone0, build_zFrm]
  refine br_intro (fun hr => ?_) fun hr => ?_
  · rw [VT.out, if_neg (fun h => by rw [h.2] at hr; cases hr)] at h
    exact h _ (hF.step_wr (Or.inr (by omega)) _ _)
  have hr : f.right bs.length = true := by simpa using hr
  refine br_intro (fun hp => ?_) fun hp => ?_
  · have hp : ¬ t.right v n := by simpa using hp
    rw [VT.out, if_neg (fun h => hp h.1)] at h
    exact h _ (hF.step_wr (Or.inr (by omega)) _ _)
  have hp : t.right v n := by simpa using hp
  rw [VT.out, if_pos ⟨hp, hr⟩] at h
  refine rfind_spec hv2 (fun hg => ?_) fun k b hk hg => ?_
  · rw [hg] at h
    have b1 : decide ((-1 : Int) < 0) = true := rfl
    simp only [push_cast, Nat.reduceAdd, Nat.reduceLeDiff, Nat.reduceLT, Int.reduceToNat, Nat.left_eq_add, Nat.add_eq_left, Nat.add_left_cancel_iff, Nat.reduceEqDiff, Nat.add_assoc, Nat.succ_ne_zero, b1, h0, h1, hone, hone0, build_zFrm]
    exact h _ (hF.step_wr (Or.inr (by omega)) _ _)
  · rw [hg] at h
    have hk2 := (List.getElem?_eq_some_iff.1 hk).1
    have b1 : decide ((k : Int) < 0) = false := decide_eq_false (by omega)
    obtain ⟨a2, c2, hL⟩ := hv2.lst.rd.form
    rw [List.length_map] at hL
    have hlst := hv2.lst
    rw [hL] at hlst
    simp only [push_cast, Nat.reduceAdd, Nat.reduceLeDiff, Nat.reduceLT, Int.reduceToNat, Nat.left_eq_add, Nat.add_eq_left, Nat.add_left_cancel_iff, Nat.reduceEqDiff, Nat.add_assoc, Nat.succ_ne_zero, b1, hv2.blk, hL]
    refine s_iaE hlst.rd (by omega) (by simpa using hk2) fun b1 o1 c1 _ hE => ?_
    have he : (t.tab.map memC)[k]'(by simpa using hk2) = memC ((v, n), b) := by
      rw [List.getElem_map, (List.getElem?_eq_some_iff.1 hk).2]
    simp only [Int.toNat_natCast, he] at hE ⊢
    have hE2 := hE.cell 2 (show 2 < 3 by decide)
    have hg2 : (memC ((v, n), b))[2]? = some (.bool b) := rfl
    rw [hg2] at hE2
    rw [Nat.add_assoc] at hE2
    simp only [push_cast, Nat.reduceAdd, Nat.reduceLeDiff, Nat.reduceLT, Int.reduceToNat, Nat.left_eq_add, Nat.add_eq_left, Nat.add_left_cancel_iff, Nat.reduceEqDiff, Nat.add_assoc, Nat.succ_ne_zero, hE2, h0]
    cases b with
    | true =>
      simp only [push_cast, Nat.reduceAdd, Nat.reduceLeDiff, Nat.reduceLT, Int.reduceToNat, Nat.left_eq_add, Nat.add_eq_left, Nat.add_left_cancel_iff, Nat.reduceEqDiff, Nat.add_assoc, Nat.succ_ne_zero, h0, h1, hone, hone0, build_zFrm]
      refine rtag_spec (hf.fr0 hF) fun W3 hF3 => ?_
      replace h0 := hF3.heap h0 (fun h => h)
      replace h1 := hF3.heap h1 (fun h => h)
      replace hF := hF.trans hF3
      rw [if_pos (VT.tag_right hr hp.1 hp.2.1)]
      have hone2 : (f.tag v f.prio).cells.all S.oneCell = true := Frm.one _ hf.2.one
      have hlt := lt_of_heap h1
      have hne : w.heap.size + 1 ≠ W3.heap.size := by omega
      have hne2 : W3.heap.size ≠ w.heap.size + 1 := by omega
      have hz3 : ∀ w : World, w.alloc (cellsO [Value.int IntKind.u8 0, Value.int IntKind.u8 0, Value.int IntKind.u8 0, Value.int IntKind.u8 0, Value.int IntKind.u8 0, Value.int IntKind.u8 0, Value.int IntKind.u8 0, Value.int IntKind.u8 0, Value.int IntKind.u8 0, Value.int IntKind.u8 0, Value.int IntKind.u8 0, Value.int IntKind.u8 0,
        Value.bool false, Value.int IntKind.i64 0, Value.int IntKind.i64 0, Value.int IntKind.i64 0, Value.slice none 0 0] 27) = w.alloc (cellsO zFrm.cells 27) := fun _ => rfl
      simp only [push_cast, Nat.reduceAdd, Nat.reduceLeDiff, Nat.reduceLT, Int.reduceToNat, Nat.left_eq_add, Nat.add_eq_left, Nat.add_left_cancel_iff, Nat.reduceEqDiff, Nat.add_assoc, Nat.succ_ne_zero, h0, h1, hone2, hz3, hne, hne2]
      exact h _ (((hF.step_alloc rfl).step_wr (Or.inr (by omega)) _ _).step_wr (Or.inr (by omega)) _ _)
    | false =>
      simp only [push_cast, Nat.reduceAdd, Nat.reduceLeDiff, Nat.reduceLT, Int.reduceToNat, Nat.left_eq_add, Nat.add_eq_left, Nat.add_left_cancel_iff, Nat.reduceEqDiff, Nat.add_assoc, Nat.succ_ne_zero, h0, h1, hone, hone0, build_zFrm]
      refine runtag_spec (hf.fr0 hF) fun W3 hF3 => ?_
      replace h0 := hF3.heap h0 (fun h => h)
      replace h1 := hF3.heap h1 (fun h => h)
      replace hF := hF.trans hF3
      have hone2 : f.untag.cells.all S.oneCell = true := Frm.one _ hf.2.one
      simp only [push_cast, Nat.reduceAdd, Nat.reduceLeDiff, Nat.reduceLT, Int.reduceToNat, Nat.left_eq_add, Nat.add_eq_left, Nat.add_left_cancel_iff, Nat.reduceEqDiff, Nat.add_assoc, Nat.succ_ne_zero, h0, h1, hone2]
      exact h _ (hF.step_wr (Or.inr (by omega)) _ _)

theorem sameints_spec {a b : Value} {l r : List Int} (ha : RdE 1 w a (l.map cellI)) (hb : RdE 1 w b (r.map cellI)) (hn : l.length < 2 ^ 62) (h : ∀ w', Fr none_ w w' → K (.bool (decide (l = r))) w') : CallsR Tryz.prog 31 #[a, b] K w := by
  apply c31
  unfold p31
  obtain ⟨aa, ac, rfl⟩ := ha.form
  obtain ⟨ba, bc, rfl⟩ := hb.form
  rw [List.length_map] at ha hb ⊢
  rw [List.length_map]
  simp only [push_cast, Nat.reduceAdd, Nat.reduceLeDiff, Nat.reduceLT, Int.reduceToNat, Nat.left_eq_add, Nat.add_eq_left, Nat.add_left_cancel_iff, Nat.reduceEqDiff, Nat.add_assoc, Nat.succ_ne_zero]
  refine br_intro (fun hne => ?_) fun heq => ?_
  · have : l ≠ r := fun e => by subst e; simp at hne
    rw [decide_eq_false this] at h
    exact h _ (Fr.refl _ _)
  · have hl : l.length = r.length := by
      have : (l.length : Int) = r.length := by simpa using heq
      omega
    refine jn0 (fun w' => Fr none_ w w' ∧ l = r) (fun w' ⟨hF, e⟩ => ?_) fun j hj => ?_
    · rw [decide_eq_true e] at h
      exact h _ hF
    refine loop1 (fun m v w' => ∃ i : Nat, v = i64 i ∧ i + m = l.length ∧ Fr none_ w w' ∧ l.take i = r.take i) ?_ l.length ⟨0, rfl, by omega, Fr.refl _ _, rfl⟩
    rintro m v w' X ⟨i, rfl, hi, hF, htk⟩ hX
    simp only [push_cast, Nat.reduceAdd, Nat.reduceLeDiff, Nat.reduceLT, Int.reduceToNat, Nat.left_eq_add, Nat.add_eq_left, Nat.add_left_cancel_iff, Nat.reduceEqDiff, Nat.add_assoc, Nat.succ_ne_zero]
    refine br_dec (fun hlt => ?_) fun hge => hj _ ⟨hF, ?_⟩
    · have hi2 : i < l.length := by omega
      have ha' : RdE 1 w'.drew _ (l.map cellI) := ha.fr hF.step_drew (fun _ _ h => h)
      have hb' : RdE 1 w'.drew _ (r.map cellI) := hb.fr hF.step_drew (fun _ _ h => h)
      rw [← List.length_map (f := cellI)] at ha'
      rw [← List.length_map (f := cellI)] at hb'
      refine s_iaE (es := l.map cellI) (ha.fr hF.step_drew (fun _ _ h => h)) (by omega) (by simpa using hi2) fun b1 o1 c1 _ hE => ?_
      simp only [Int.toNat_natCast, List.getElem_map] at hE ⊢
      have hE0 := hE.cell0 (show 0 < 1 by decide)
      simp only [push_cast, Nat.reduceAdd, Nat.reduceLeDiff, Nat.reduceLT, Int.reduceToNat, Nat.left_eq_add, Nat.add_eq_left, Nat.add_left_cancel_iff, Nat.reduceEqDiff, Nat.add_assoc, Nat.succ_ne_zero, cellI] at hE0
      simp only [push_cast, Nat.reduceAdd, Nat.reduceLeDiff, Nat.reduceLT, Int.reduceToNat, Nat.left_eq_add, Nat.add_eq_left, Nat.add_left_cancel_iff, Nat.reduceEqDiff, Nat.add_assoc, Nat.succ_ne_zero, hE0]
      refine s_iaE (es := r.map cellI) (hb.fr hF.step_drew (fun _ _ h => h)) (by omega) (by simpa using hl ▸ hi2) fun b2 o2 c2 _ hE2 => ?_
      simp only [Int.toNat_natCast, List.getElem_map] at hE2 ⊢
      have hE3 := hE2.cell0 (show 0 < 1 by decide)
      simp only [push_cast, Nat.reduceAdd, Nat.reduceLeDiff, Nat.reduceLT, Int.reduceToNat, Nat.left_eq_add, Nat.add_eq_left, Nat.add_left_cancel_iff, Nat.reduceEqDiff, Nat.add_assoc, Nat.succ_ne_zero, cellI] at hE3
      simp only [push_cast, Nat.reduceAdd, Nat.reduceLeDiff, Nat.reduceLT, Int.reduceToNat, Nat.left_eq_add, Nat.add_eq_left, Nat.add_left_cancel_iff, Nat.reduceEqDiff, Nat.add_assoc, Nat.succ_ne_zero, hE3]
      have hw : IntKind.i64.wrap ((i : Int) + 1) = ((i + 1 : Nat) : Int) := by rw [wrap_i64 (by omega)]; omega
      refine br_intro (fun hd => ?_) fun hd => ?_
      · have : l ≠ r := fun e => by subst e; simp at hd
        rw [decide_eq_false this] at h
        exact h _ hF.step_drew
      · have he : l[i] = r[i] := by simpa using hd
        simp only [push_cast, Nat.reduceAdd, Nat.reduceLeDiff, Nat.reduceLT, Int.reduceToNat, Nat.left_eq_add, Nat.add_eq_left, Nat.add_left_cancel_iff, Nat.reduceEqDiff, Nat.add_assoc, Nat.succ_ne_zero, hw]
        refine hX (m - 1) _ _ (by omega) ⟨i + 1, rfl, by omega, hF.step_drew, ?_⟩
        rw [List.take_add_one, List.take_add_one, htk, List.getElem?_eq_getElem hi2, List.getElem?_eq_getElem (hl ▸ hi2), he]
    · rw [List.take_of_length_le (by omega), List.take_of_length_le (by omega)] at htk
      exact htk


end Go.Gx.S.Vl
end

section
/- What the functions of this program ask. -/
set_option linter.unusedVariables false
set_option maxRecDepth 100000
namespace Go.Gx.S
open Go Go.Gx Go.Proofs
-- gemel/gemelref01.Group
def p16 (P : Program) (K : Value → World → Prop) (x0 : Value) : World → Prop :=
  opS P (S.box 24 x0) fun x1 =>
  opS P (S.ia 24 x1 (.int .i64 0)) fun x2 =>
  opS P (S.ld 5 x2) fun x3 =>
  opS P (S.binI .rem x3 (.int .u8 2)) fun x4 =>
  opS P (S.binI .eql x4 (.int .u8 1)) fun x5 =>
  K x5
instance fnb16 : FnB Tryz.prog 16 := ⟨Tryz.call16⟩
theorem e16 : p16 Tryz.prog = fun K x0 => denF Tryz.prog Tryz.f16 [x0] K := by kernel_rfl
theorem c16 {K : Value → World → Prop} {x0 : Value} {w : World} (h : p16 Tryz.prog K x0 w) : CallsR Tryz.prog 16 #[x0] K w := by
  rw [e16] at h
  exact denF_sound mixed Tryz.func16 h

-- gemel/gemelref08.New
def p52 (P : Program) (K : Value → World → Prop) (x0 : Value) : World → Prop :=
  opS P (S.binI .lss x0 (.int .i64 1)) fun x1 =>
  brn x1 (
    K (.tuple #[(.pointer none), (.int .i64 1)])
  ) (
    opS P (S.binI .gtr x0 (.int .i64 1024)) fun x2 =>
    brn x2 (
      K (.tuple #[(.pointer none), (.int .i64 1)])
    ) (
      opS P (S.build 118 [(0, x0)]) fun x3 =>
      opS P (S.box 118 x3) fun x4 =>
      K (.tuple #[x4, (.int .i64 0)])
    )
  )
instance fnb52 : FnB Tryz.prog 52 := ⟨Tryz.call52⟩
theorem e52 : p52 Tryz.prog = fun K x0 => denF Tryz.prog Tryz.f52 [x0] K := by kernel_rfl
theorem c52 {K : Value → World → Prop} {x0 : Value} {w : World} (h : p52 Tryz.prog K x0 w) : CallsR Tryz.prog 52 #[x0] K w := by
  rw [e52] at h
  exact denF_sound mixed Tryz.func52 h

-- (*gemel/gemelref08.Table).Age
def p63 (P : Program) (K : Value → World → Prop) (x0 : Value) (x1 : Value) (x2 : Value) : World → Prop :=
  opS P (S.binI .lss x1 (.int .i64 0)) fun x3 =>
  brn x3 (
    K (.slice none 0 0)
  ) (
    opS P (S.binI .gtr x1 (.int .i64 1099511627776)) fun x4 =>
    brn x4 (
      K (.slice none 0 0)
    ) (
      opS P (S.binI .lss x2 (.int .i64 0)) fun x5 =>
      brn x5 (
        K (.slice none 0 0)
      ) (
        opS P (S.binI .gtr x2 (.int .i64 1099511627776)) fun x6 =>
        brn x6 (
          K (.slice none 0 0)
        ) (
          opS P (S.cl 92 [x0, (.int .i64 0), x1, x2]) fun x7 =>
          K x7
        )
      )
    )
  )
instance fnb63 : FnB Tryz.prog 63 := ⟨Tryz.call63⟩
theorem e63 : p63 Tryz.prog = fun K x0 x1 x2 => denF Tryz.prog Tryz.f63 [x0, x1, x2] K := by kernel_rfl
theorem c63 {K : Value → World → Prop} {x0 x1 x2 : Value} {w : World} (h : p63 Tryz.prog K x0 x1 x2 w) : CallsR Tryz.prog 63 #[x0, x1, x2] K w := by
  rw [e63] at h
  exact denF_sound mixed Tryz.func63 h

-- (*gemel/fdb.Table).Put
def p64 (P : Program) (K : Value → World → Prop) (x0 : Value) (x1 : Value) (x2 : Value) (x3 : Value) : World → Prop :=
  opS P (S.box 24 x2) fun x4 =>
  opS P (S.ld 24 x4) fun x5 =>
  opS P (S.cl 93 [x1, x5, x3]) fun x6 =>
  opS P (S.un .not x6) fun x7 =>
  brn x7 (
    K (.int .i64 1)
  ) (
    opS P (S.ld 24 x4) fun x8 =>
    opS P (S.cl 37 [x0, x1, x8]) fun x9 =>
    opS P (S.ext x9 0) fun x10 =>
    opS P (S.ext x9 1) fun x11 =>
    jnJ 0 (
      jnJ 0 (
        drw <|
        opS P (S.nc x0) fun x12 =>
        opS P (S.fa 87 x12 0) fun x13 =>
        opS P (S.ld 51 x13) fun x14 =>
        opS P (S.ld 24 x4) fun x15 =>
        opS P (S.build 40 [(0, x1), (1, x15), (2, x3), (4, (.bool true))]) fun x16 =>
        opS P (S.ia 51 x14 x10) fun x17 =>
        opS P (S.st 40 x17 x16) fun x18 =>
        K (.int .i64 0)
      ) fun j0 =>
      opS P (S.un .not x11) fun x12 =>
      brn x12 (
        opS P (S.nc x0) fun x13 =>
        opS P (S.fa 87 x13 1) fun x14 =>
        opS P (S.ld 3 x14) fun x15 =>
        opS P (S.binI .add x15 (.int .i64 1)) fun x16 =>
        opS P (S.nc x0) fun x17 =>
        opS P (S.fa 87 x17 1) fun x18 =>
        opS P (S.st 3 x18 x16) fun x19 =>
        j0
      ) (
        j0
      )
    ) fun j0 =>
    opS P (S.un .not x11) fun x12 =>
    brn x12 (
      opS P (S.cl 94 [x0]) fun x13 =>
      brn x13 (
        K (.int .i64 3)
      ) (
        j0
      )
    ) (
      j0
    )
  )
instance fnb64 : FnB Tryz.prog 64 := ⟨Tryz.call64⟩
theorem e64 : p64 Tryz.prog = fun K x0 x1 x2 x3 => denF Tryz.prog Tryz.f64 [x0, x1, x2, x3] K := by kernel_rfl
theorem c64 {K : Value → World → Prop} {x0 x1 x2 x3 : Value} {w : World} (h : p64 Tryz.prog K x0 x1 x2 x3 w) : CallsR Tryz.prog 64 #[x0, x1, x2, x3] K w := by
  rw [e64] at h
  exact denF_sound mixed Tryz.func64 h

-- (*gemel/gemelref08.Table).Put
def p65 (P : Program) (K : Value → World → Prop) (x0 : Value) (x1 : Value) (x2 : Value) (x3 : Value) : World → Prop :=
  opS P (S.box 24 x2) fun x4 =>
  opS P (S.ld 24 x4) fun x5 =>
  opS P (S.cl 95 [x1, x5, x3]) fun x6 =>
  opS P (S.un .not x6) fun x7 =>
  brn x7 (
    K (.int .i64 1)
  ) (
    opS P (S.ld 24 x4) fun x8 =>
    opS P (S.build 40 [(0, x1), (1, x8), (2, x3), (4, (.bool true))]) fun x9 =>
    opS P (S.alloc 40) fun x10 =>
    opS P (S.st 40 x10 x9) fun x11 =>
    opS P (S.ld 24 x4) fun x12 =>
    opS P (S.cl 96 [x0, x1, x12]) fun x13 =>
    opS P (S.binI .geq x13 (.int .i64 0)) fun x14 =>
    brn x14 (
      drw <|
      opS P (S.nc x0) fun x15 =>
      opS P (S.fa 118 x15 1) fun x16 =>
      opS P (S.ld 51 x16) fun x17 =>
      opS P (S.ld 40 x10) fun x18 =>
      opS P (S.ia 51 x17 x13) fun x19 =>
      opS P (S.st 40 x19 x18) fun x20 =>
      K (.int .i64 0)
    ) (
      drw <|
      opS P (S.nc x0) fun x15 =>
      opS P (S.fa 118 x15 1) fun x16 =>
      opS P (S.ld 51 x16) fun x17 =>
      opS P (S.len x17) fun x18 =>
      opS P (S.nc x0) fun x19 =>
      opS P (S.fa 118 x19 0) fun x20 =>
      opS P (S.ld 3 x20) fun x21 =>
      opS P (S.binI .geq x18 x21) fun x22 =>
      brn x22 (
        K (.int .i64 3)
      ) (
        opS P (S.ld 40 x10) fun x23 =>
        opS P (S.cl 97 [x0, x23]) fun x24 =>
        K (.int .i64 0)
      )
    )
  )
instance fnb65 : FnB Tryz.prog 65 := ⟨Tryz.call65⟩
theorem e65 : p65 Tryz.prog = fun K x0 x1 x2 x3 => denF Tryz.prog Tryz.f65 [x0, x1, x2, x3] K := by kernel_rfl
theorem c65 {K : Value → World → Prop} {x0 x1 x2 x3 : Value} {w : World} (h : p65 Tryz.prog K x0 x1 x2 x3 w) : CallsR Tryz.prog 65 #[x0, x1, x2, x3] K w := by
  rw [e65] at h
  exact denF_sound mixed Tryz.func65 h

-- (*gemel/gemelref08.Table).forget
def p92 (P : Program) (K : Value → World → Prop) (x0 : Value) (x1 : Value) (x2 : Value) (x3 : Value) : World → Prop :=
  jnJ 2 (fun x4 x5 =>
    opS P (S.nc x0) fun x6 =>
    opS P (S.fa 118 x6 1) fun x7 =>
    opS P (S.st 51 x7 x4) fun x8 =>
    K x5
  ) fun j0 =>
  loopJ 3 (fun j1 x4 x5 x6 =>
    opS P (S.nc x0) fun x7 =>
    opS P (S.fa 118 x7 1) fun x8 =>
    opS P (S.ld 51 x8) fun x9 =>
    opS P (S.len x9) fun x10 =>
    opS P (S.binI .lss x6 x10) fun x11 =>
    brn x11 (
      opS P (S.nc x0) fun x12 =>
      opS P (S.fa 118 x12 1) fun x13 =>
      opS P (S.ld 51 x13) fun x14 =>
      opS P (S.ia 51 x14 x6) fun x15 =>
      opS P (S.ld 40 x15) fun x16 =>
      opS P (S.alloc 40) fun x17 =>
      opS P (S.st 40 x17 x16) fun x18 =>
      jnJ 1 (fun x19 =>
        jnJ 0 (
          opS P (S.ld 40 x17) fun x20 =>
          opS P (S.buildS 51 1 [(0, x20)]) fun x21 =>
          opS P (S.bi .append #[51, 51] 51 [x4, x21]) fun x22 =>
          opS P (S.binI .add x6 (.int .i64 1)) fun x23 =>
          j1 x22 x5 x23
        ) fun j2 =>
        brn x19 (
          opS P (S.fa 40 x17 4) fun x20 =>
          opS P (S.ld 4 x20) fun x21 =>
          opS P (S.un .not x21) fun x22 =>
          brn x22 (
            opS P (S.ld 40 x17) fun x23 =>
            opS P (S.buildS 51 1 [(0, x23)]) fun x24 =>
            opS P (S.bi .append #[51, 51] 51 [x5, x24]) fun x25 =>
            opS P (S.binI .add x6 (.int .i64 1)) fun x26 =>
            j1 x4 x25 x26
          ) (
            j2
          )
        ) (
          j2
        )
      ) fun j2 =>
      opS P (S.binI .eql x1 (.int .i64 0)) fun x19 =>
      brn x19 (
        opS P (S.fa 40 x17 3) fun x20 =>
        opS P (S.ld 3 x20) fun x21 =>
        opS P (S.binI .sub x2 x3) fun x22 =>
        opS P (S.binI .leq x21 x22) fun x23 =>
        j2 x23
      ) (
        jnJ 1 (fun x20 =>
          j2 x20
        ) fun j3 =>
        opS P (S.binI .eql x1 (.int .i64 1)) fun x20 =>
        brn x20 (
          opS P (S.fa 40 x17 2) fun x21 =>
          opS P (S.ld 3 x21) fun x22 =>
          opS P (S.binI .eql x22 x2) fun x23 =>
          j3 x23
        ) (
          jnJ 1 (fun x21 =>
            j3 x21
          ) fun j4 =>
          opS P (S.binI .eql x1 (.int .i64 2)) fun x21 =>
          brn x21 (
            opS P (S.fa 40 x17 0) fun x22 =>
            opS P (S.ld 3 x22) fun x23 =>
            opS P (S.binI .eql x23 x2) fun x24 =>
            j4 x24
          ) (
            j4 (.bool false)
          )
        )
      )
    ) (
      j0 x4 x5
    )
  ) (.slice none 0 0) (.slice none 0 0) (.int .i64 0)
instance fnb92 : FnB Tryz.prog 92 := ⟨Tryz.call92⟩
theorem e92 : p92 Tryz.prog = fun K x0 x1 x2 x3 => denF Tryz.prog Tryz.f92 [x0, x1, x2, x3] K := by kernel_rfl
theorem c92 {K : Value → World → Prop} {x0 x1 x2 x3 : Value} {w : World} (h : p92 Tryz.prog K x0 x1 x2 x3 w) : CallsR Tryz.prog 92 #[x0, x1, x2, x3] K w := by
  rw [e92] at h
  exact denF_sound mixed Tryz.func92 h

-- gemel/gemelref08.right
def p95 (P : Program) (K : Value → World → Prop) (x0 : Value) (x1 : Value) (x2 : Value) : World → Prop :=
  opS P (S.box 24 x1) fun x3 =>
  opS P (S.binI .geq x0 (.int .i64 1)) fun x4 =>
  brn x4 (
    opS P (S.binI .leq x0 (.int .i64 4094)) fun x5 =>
    brn x5 (
      opS P (S.binI .geq x2 (.int .i64 0)) fun x6 =>
      brn x6 (
        opS P (S.binI .leq x2 (.int .i64 1000)) fun x7 =>
        brn x7 (
          opS P (S.ld 24 x3) fun x8 =>
          opS P (S.cl 16 [x8]) fun x9 =>
          opS P (S.un .not x9) fun x10 =>
          K x10
        ) (
          K (.bool false)
        )
      ) (
        K (.bool false)
      )
    ) (
      K (.bool false)
    )
  ) (
    K (.bool false)
  )
instance fnb95 : FnB Tryz.prog 95 := ⟨Tryz.call95⟩
theorem e95 : p95 Tryz.prog = fun K x0 x1 x2 => denF Tryz.prog Tryz.f95 [x0, x1, x2] K := by kernel_rfl
theorem c95 {K : Value → World → Prop} {x0 x1 x2 : Value} {w : World} (h : p95 Tryz.prog K x0 x1 x2 w) : CallsR Tryz.prog 95 #[x0, x1, x2] K w := by
  rw [e95] at h
  exact denF_sound mixed Tryz.func95 h

-- (*gemel/gemelref08.Table).Find
def p96 (P : Program) (K : Value → World → Prop) (x0 : Value) (x1 : Value) (x2 : Value) : World → Prop :=
  opS P (S.box 24 x2) fun x3 =>
  jnJ 0 (
    K (.int .i64 (-1))
  ) fun j0 =>
  loopJ 1 (fun j1 x4 =>
    opS P (S.nc x0) fun x5 =>
    opS P (S.fa 118 x5 1) fun x6 =>
    opS P (S.ld 51 x6) fun x7 =>
    opS P (S.len x7) fun x8 =>
    opS P (S.binI .lss x4 x8) fun x9 =>
    brn x9 (
      drw <|
      opS P (S.nc x0) fun x10 =>
      opS P (S.fa 118 x10 1) fun x11 =>
      opS P (S.ld 51 x11) fun x12 =>
      opS P (S.ia 51 x12 x4) fun x13 =>
      opS P (S.fa 40 x13 0) fun x14 =>
      opS P (S.ld 3 x14) fun x15 =>
      opS P (S.binI .eql x15 x1) fun x16 =>
      brn x16 (
        opS P (S.nc x0) fun x17 =>
        opS P (S.fa 118 x17 1) fun x18 =>
        opS P (S.ld 51 x18) fun x19 =>
        opS P (S.ia 51 x19 x4) fun x20 =>
        opS P (S.fa 40 x20 1) fun x21 =>
        opS P (S.ld 24 x21) fun x22 =>
        opS P (S.ld 24 x3) fun x23 =>
        opS P (S.binG .eql 24 x22 x23) fun x24 =>
        brn x24 (
          K x4
        ) (
          opS P (S.binI .add x4 (.int .i64 1)) fun x25 =>
          j1 x25
        )
      ) (
        opS P (S.binI .add x4 (.int .i64 1)) fun x17 =>
        j1 x17
      )
    ) (
      j0
    )
  ) (.int .i64 0)
instance fnb96 : FnB Tryz.prog 96 := ⟨Tryz.call96⟩
theorem e96 : p96 Tryz.prog = fun K x0 x1 x2 => denF Tryz.prog Tryz.f96 [x0, x1, x2] K := by kernel_rfl
theorem c96 {K : Value → World → Prop} {x0 x1 x2 : Value} {w : World} (h : p96 Tryz.prog K x0 x1 x2 w) : CallsR Tryz.prog 96 #[x0, x1, x2] K w := by
  rw [e96] at h
  exact denF_sound mixed Tryz.func96 h

-- (*gemel/gemelref08.Table).put
def p97 (P : Program) (K : Value → World → Prop) (x0 : Value) (x1 : Value) : World → Prop :=
  opS P (S.box 40 x1) fun x2 =>
  jnJ 1 (fun x3 =>
    opS P (S.buildS 51 0 []) fun x4 =>
    opS P (S.nc x0) fun x5 =>
    opS P (S.fa 118 x5 1) fun x6 =>
    opS P (S.ld 51 x6) fun x7 =>
    opS P (S.slc 51 x7 none (some x3) none) fun x8 =>
    opS P (S.bi .append #[51, 51] 51 [x4, x8]) fun x9 =>
    opS P (S.ld 40 x2) fun x10 =>
    opS P (S.buildS 51 1 [(0, x10)]) fun x11 =>
    opS P (S.bi .append #[51, 51] 51 [x9, x11]) fun x12 =>
    opS P (S.nc x0) fun x13 =>
    opS P (S.fa 118 x13 1) fun x14 =>
    opS P (S.ld 51 x14) fun x15 =>
    opS P (S.slc 51 x15 (some x3) none none) fun x16 =>
    opS P (S.bi .append #[51, 51] 51 [x12, x16]) fun x17 =>
    opS P (S.nc x0) fun x18 =>
    opS P (S.fa 118 x18 1) fun x19 =>
    opS P (S.st 51 x19 x17) fun x20 =>
    K (.tuple #[])
  ) fun j0 =>
  loopJ 1 (fun j1 x3 =>
    drw <|
    opS P (S.nc x0) fun x4 =>
    opS P (S.fa 118 x4 1) fun x5 =>
    opS P (S.ld 51 x5) fun x6 =>
    opS P (S.len x6) fun x7 =>
    opS P (S.binI .lss x3 x7) fun x8 =>
    brn x8 (
      opS P (S.nc x0) fun x9 =>
      opS P (S.fa 118 x9 1) fun x10 =>
      opS P (S.ld 51 x10) fun x11 =>
      opS P (S.ia 51 x11 x3) fun x12 =>
      opS P (S.fa 40 x12 0) fun x13 =>
      opS P (S.ld 3 x13) fun x14 =>
      opS P (S.fa 40 x2 0) fun x15 =>
      opS P (S.ld 3 x15) fun x16 =>
      opS P (S.binI .lss x14 x16) fun x17 =>
      brn x17 (
        opS P (S.binI .add x3 (.int .i64 1)) fun x18 =>
        j1 x18
      ) (
        opS P (S.nc x0) fun x18 =>
        opS P (S.fa 118 x18 1) fun x19 =>
        opS P (S.ld 51 x19) fun x20 =>
        opS P (S.ia 51 x20 x3) fun x21 =>
        opS P (S.fa 40 x21 0) fun x22 =>
        opS P (S.ld 3 x22) fun x23 =>
        opS P (S.fa 40 x2 0) fun x24 =>
        opS P (S.ld 3 x24) fun x25 =>
        opS P (S.binI .eql x23 x25) fun x26 =>
        brn x26 (
          opS P (S.nc x0) fun x27 =>
          opS P (S.fa 118 x27 1) fun x28 =>
          opS P (S.ld 51 x28) fun x29 =>
          opS P (S.ia 51 x29 x3) fun x30 =>
          opS P (S.fa 40 x30 1) fun x31 =>
          opS P (S.ld 24 x31) fun x32 =>
          opS P (S.fa 40 x2 1) fun x33 =>
          opS P (S.ld 24 x33) fun x34 =>
          opS P (S.cl 120 [x32, x34]) fun x35 =>
          opS P (S.binI .lss x35 (.int .i64 0)) fun x36 =>
          brn x36 (
            opS P (S.binI .add x3 (.int .i64 1)) fun x37 =>
            j1 x37
          ) (
            j0 x3
          )
        ) (
          j0 x3
        )
      )
    ) (
      j0 x3
    )
  ) (.int .i64 0)
instance fnb97 : FnB Tryz.prog 97 := ⟨Tryz.call97⟩
theorem e97 : p97 Tryz.prog = fun K x0 x1 => denF Tryz.prog Tryz.f97 [x0, x1] K := by kernel_rfl
theorem c97 {K : Value → World → Prop} {x0 x1 : Value} {w : World} (h : p97 Tryz.prog K x0 x1 w) : CallsR Tryz.prog 97 #[x0, x1] K w := by
  rw [e97] at h
  exact denF_sound mixed Tryz.func97 h

-- (*gemel/gemelref08.Table).Look
def p117 (P : Program) (K : Value → World → Prop) (x0 : Value) (x1 : Value) (x2 : Value) : World → Prop :=
  opS P (S.box 24 x2) fun x3 =>
  opS P (S.alloc 40) fun x4 =>
  opS P (S.ld 24 x3) fun x5 =>
  opS P (S.cl 96 [x0, x1, x5]) fun x6 =>
  opS P (S.binI .lss x6 (.int .i64 0)) fun x7 =>
  brn x7 (
    opS P (S.build 40 []) fun x8 =>
    opS P (S.st 40 x4 x8) fun x9 =>
    opS P (S.ld 40 x4) fun x10 =>
    K (.tuple #[x10, (.bool false)])
  ) (
    opS P (S.nc x0) fun x8 =>
    opS P (S.fa 118 x8 1) fun x9 =>
    opS P (S.ld 51 x9) fun x10 =>
    opS P (S.ia 51 x10 x6) fun x11 =>
    opS P (S.ld 40 x11) fun x12 =>
    opS P (S.st 40 x4 x12) fun x13 =>
    opS P (S.ld 40 x4) fun x14 =>
    K (.tuple #[x14, (.bool true)])
  )
instance fnb117 : FnB Tryz.prog 117 := ⟨Tryz.call117⟩
theorem e117 : p117 Tryz.prog = fun K x0 x1 x2 => denF Tryz.prog Tryz.f117 [x0, x1, x2] K := by kernel_rfl
theorem c117 {K : Value → World → Prop} {x0 x1 x2 : Value} {w : World} (h : p117 Tryz.prog K x0 x1 x2 w) : CallsR Tryz.prog 117 #[x0, x1, x2] K w := by
  rw [e117] at h
  exact denF_sound mixed Tryz.func117 h

-- gemel/gemelref01.Compare
def p120 (P : Program) (K : Value → World → Prop) (x0 : Value) (x1 : Value) : World → Prop :=
  opS P (S.box 24 x0) fun x2 =>
  opS P (S.box 24 x1) fun x3 =>
  opS P (S.ld 24 x2) fun x4 =>
  opS P (S.cl 128 [x4]) fun x5 =>
  opS P (S.ld 24 x3) fun x6 =>
  opS P (S.cl 128 [x6]) fun x7 =>
  opS P (S.binI .lss x5 x7) fun x8 =>
  brn x8 (
    K (.int .i64 (-1))
  ) (
    opS P (S.binI .gtr x5 x7) fun x9 =>
    brn x9 (
      K (.int .i64 1)
    ) (
      K (.int .i64 0)
    )
  )
instance fnb120 : FnB Tryz.prog 120 := ⟨Tryz.call120⟩
theorem e120 : p120 Tryz.prog = fun K x0 x1 => denF Tryz.prog Tryz.f120 [x0, x1] K := by kernel_rfl
theorem c120 {K : Value → World → Prop} {x0 x1 : Value} {w : World} (h : p120 Tryz.prog K x0 x1 w) : CallsR Tryz.prog 120 #[x0, x1] K w := by
  rw [e120] at h
  exact denF_sound mixed Tryz.func120 h

-- gemel/gemelref01.Number
def p128 (P : Program) (K : Value → World → Prop) (x0 : Value) : World → Prop :=
  opS P (S.box 24 x0) fun x1 =>
  jnJ 1 (fun x2 =>
    K x2
  ) fun j0 =>
  loopJ 2 (fun j1 x2 x3 =>
    opS P (S.binI .lss x3 (.int .i64 6)) fun x4 =>
    brn x4 (
      opS P (S.binI .mul x2 (.int .u64 256)) fun x5 =>
      opS P (S.ia 24 x1 x3) fun x6 =>
      opS P (S.ld 5 x6) fun x7 =>
      opS P (S.convI .u64 x7) fun x8 =>
      opS P (S.binI .add x5 x8) fun x9 =>
      opS P (S.binI .add x3 (.int .i64 1)) fun x10 =>
      j1 x9 x10
    ) (
      j0 x2
    )
  ) (.int .u64 0) (.int .i64 0)
instance fnb128 : FnB Tryz.prog 128 := ⟨Tryz.call128⟩
theorem e128 : p128 Tryz.prog = fun K x0 => denF Tryz.prog Tryz.f128 [x0] K := by kernel_rfl
theorem c128 {K : Value → World → Prop} {x0 : Value} {w : World} (h : p128 Tryz.prog K x0 w) : CallsR Tryz.prog 128 #[x0] K w := by
  rw [e128] at h
  exact denF_sound mixed Tryz.func128 h

-- (*gemel/gemelref08.Table).Learn
def p129 (P : Program) (K : Value → World → Prop) (x0 : Value) (x1 : Value) (x2 : Value) (x3 : Value) (x4 : Value) : World → Prop :=
  opS P (S.box 24 x2) fun x5 =>
  opS P (S.ld 24 x5) fun x6 =>
  opS P (S.cl 95 [x1, x6, x3]) fun x7 =>
  opS P (S.un .not x7) fun x8 =>
  brn x8 (
    K (.tuple #[(.int .i64 0), (.int .i64 1)])
  ) (
    opS P (S.binI .lss x4 (.int .i64 0)) fun x9 =>
    brn x9 (
      K (.tuple #[(.int .i64 0), (.int .i64 1)])
    ) (
      opS P (S.binI .gtr x4 (.int .i64 1099511627776)) fun x10 =>
      brn x10 (
        K (.tuple #[(.int .i64 0), (.int .i64 1)])
      ) (
        opS P (S.ld 24 x5) fun x11 =>
        opS P (S.cl 96 [x0, x1, x11]) fun x12 =>
        opS P (S.binI .geq x12 (.int .i64 0)) fun x13 =>
        brn x13 (
          opS P (S.nc x0) fun x14 =>
          opS P (S.fa 118 x14 1) fun x15 =>
          opS P (S.ld 51 x15) fun x16 =>
          opS P (S.ia 51 x16 x12) fun x17 =>
          opS P (S.fa 40 x17 4) fun x18 =>
          opS P (S.ld 4 x18) fun x19 =>
          brn x19 (
            K (.tuple #[(.int .i64 0), (.int .i64 0)])
          ) (
            opS P (S.nc x0) fun x20 =>
            opS P (S.fa 118 x20 1) fun x21 =>
            opS P (S.ld 51 x21) fun x22 =>
            opS P (S.ia 51 x22 x12) fun x23 =>
            opS P (S.fa 40 x23 2) fun x24 =>
            opS P (S.ld 3 x24) fun x25 =>
            opS P (S.nc x0) fun x26 =>
            opS P (S.fa 118 x26 1) fun x27 =>
            opS P (S.ld 51 x27) fun x28 =>
            opS P (S.ia 51 x28 x12) fun x29 =>
            opS P (S.fa 40 x29 2) fun x30 =>
            opS P (S.st 3 x30 x3) fun x31 =>
            opS P (S.nc x0) fun x32 =>
            opS P (S.fa 118 x32 1) fun x33 =>
            opS P (S.ld 51 x33) fun x34 =>
            opS P (S.ia 51 x34 x12) fun x35 =>
            opS P (S.fa 40 x35 3) fun x36 =>
            opS P (S.st 3 x36 x4) fun x37 =>
            opS P (S.binI .eql x25 x3) fun x38 =>
            brn x38 (
              K (.tuple #[(.int .i64 0), (.int .i64 0)])
            ) (
              K (.tuple #[(.int .i64 2), (.int .i64 0)])
            )
          )
        ) (
          drw <|
          opS P (S.nc x0) fun x14 =>
          opS P (S.fa 118 x14 1) fun x15 =>
          opS P (S.ld 51 x15) fun x16 =>
          opS P (S.len x16) fun x17 =>
          opS P (S.nc x0) fun x18 =>
          opS P (S.fa 118 x18 0) fun x19 =>
          opS P (S.ld 3 x19) fun x20 =>
          opS P (S.binI .geq x17 x20) fun x21 =>
          brn x21 (
            K (.tuple #[(.int .i64 0), (.int .i64 3)])
          ) (
            opS P (S.ld 24 x5) fun x22 =>
            opS P (S.build 40 [(0, x1), (1, x22), (2, x3), (3, x4)]) fun x23 =>
            opS P (S.cl 97 [x0, x23]) fun x24 =>
            K (.tuple #[(.int .i64 1), (.int .i64 0)])
          )
        )
      )
    )
  )
instance fnb129 : FnB Tryz.prog 129 := ⟨Tryz.call129⟩
theorem e129 : p129 Tryz.prog = fun K x0 x1 x2 x3 x4 => denF Tryz.prog Tryz.f129 [x0, x1, x2, x3, x4] K := by kernel_rfl
theorem c129 {K : Value → World → Prop} {x0 x1 x2 x3 x4 : Value} {w : World} (h : p129 Tryz.prog K x0 x1 x2 x3 x4 w) : CallsR Tryz.prog 129 #[x0, x1, x2, x3, x4] K w := by
  rw [e129] at h
  exact denF_sound mixed Tryz.func129 h

end Go.Gx.S
-- 52 96 97 129 65 117 92 63 64 16 95 120 128
end

section
/- What the functions of this program ask. -/
set_option linter.unusedVariables false
set_option maxRecDepth 100000
namespace Go.Gx.S
open Go Go.Gx Go.Proofs
-- (*gemel/fdb.Table).All
def p19 (P : Program) (K : Value → World → Prop) (x0 : Value) : World → Prop :=
  opS P (S.nc x0) fun x1 =>
  opS P (S.fa 87 x1 0) fun x2 =>
  opS P (S.ld 51 x2) fun x3 =>
  opS P (S.cl 43 [x3]) fun x4 =>
  opS P (S.cl 42 [x4, (.func (.func 41) #[] #[])]) fun x5 =>
  opS P (S.cl 44 [x5, (.func (.func 45) #[] #[])]) fun x6 =>
  K x5
instance fnb19 : FnB Tryz.prog 19 := ⟨Tryz.call19⟩
theorem e19 : p19 Tryz.prog = fun K x0 => denF Tryz.prog Tryz.f19 [x0] K := by kernel_rfl
theorem c19 {K : Value → World → Prop} {x0 : Value} {w : World} (h : p19 Tryz.prog K x0 w) : CallsR Tryz.prog 19 #[x0] K w := by
  rw [e19] at h
  exact denF_sound mixed Tryz.func19 h

-- gemel/gemelref08.Same
def p20 (P : Program) (K : Value → World → Prop) (x0 : Value) (x1 : Value) : World → Prop :=
  opS P (S.len x0) fun x2 =>
  opS P (S.len x1) fun x3 =>
  opS P (S.binI .neq x2 x3) fun x4 =>
  brn x4 (
    K (.bool false)
  ) (
    jnJ 0 (
      K (.bool true)
    ) fun j0 =>
    loopJ 1 (fun j1 x5 =>
      opS P (S.len x0) fun x6 =>
      opS P (S.binI .lss x5 x6) fun x7 =>
      brn x7 (
        drw <|
        opS P (S.ia 51 x0 x5) fun x8 =>
        opS P (S.ld 40 x8) fun x9 =>
        opS P (S.ia 51 x1 x5) fun x10 =>
        opS P (S.ld 40 x10) fun x11 =>
        opS P (S.binG .neq 40 x9 x11) fun x12 =>
        brn x12 (
          K (.bool false)
        ) (
          opS P (S.binI .add x5 (.int .i64 1)) fun x13 =>
          j1 x13
        )
      ) (
        j0
      )
    ) (.int .i64 0)
  )
instance fnb20 : FnB Tryz.prog 20 := ⟨Tryz.call20⟩
theorem e20 : p20 Tryz.prog = fun K x0 x1 => denF Tryz.prog Tryz.f20 [x0, x1] K := by kernel_rfl
theorem c20 {K : Value → World → Prop} {x0 x1 : Value} {w : World} (h : p20 Tryz.prog K x0 x1 w) : CallsR Tryz.prog 20 #[x0, x1] K w := by
  rw [e20] at h
  exact denF_sound mixed Tryz.func20 h

-- (*gemel/fdb.Table).All$1
def p41 (P : Program) (K : Value → World → Prop) (x0 : Value) : World → Prop :=
  opS P (S.box 40 x0) fun x1 =>
  opS P (S.ld 40 x1) fun x2 =>
  opS P (S.build 40 []) fun x3 =>
  opS P (S.binG .eql 40 x2 x3) fun x4 =>
  K x4
instance fnb41 : FnB Tryz.prog 41 := ⟨Tryz.call41⟩
theorem e41 : p41 Tryz.prog = fun K x0 => denF Tryz.prog Tryz.f41 [x0] K := by kernel_rfl
theorem c41 {K : Value → World → Prop} {x0 : Value} {w : World} (h : p41 Tryz.prog K x0 w) : CallsR Tryz.prog 41 #[x0] K w := by
  rw [e41] at h
  exact denF_sound mixed Tryz.func41 h

-- slices.DeleteFunc[[]gemel/api.Entry,gemel/api.Entry]
def p42 (P : Program) (K : Value → World → Prop) (x0 : Value) (x1 : Value) : World → Prop :=
  opS P (S.cl 78 [x0, x1]) fun x2 =>
  opS P (S.binI .eql x2 (.int .i64 (-1))) fun x3 =>
  brn x3 (
    K x0
  ) (
    opS P (S.binI .add x2 (.int .i64 1)) fun x4 =>
    jnJ 1 (fun x5 =>
      opS P (S.slc 51 x0 (some x5) none none) fun x6 =>
      opS P (S.bi .clear #[51] 0 [x6]) fun x7 =>
      opS P (S.slc 51 x0 none (some x5) none) fun x8 =>
      K x8
    ) fun j0 =>
    loopJ 2 (fun j1 x5 x6 =>
      opS P (S.len x0) fun x7 =>
      opS P (S.binI .lss x6 x7) fun x8 =>
      brn x8 (
        opS P (S.ia 51 x0 x6) fun x9 =>
        opS P (S.ld 40 x9) fun x10 =>
        opS P (S.alloc 40) fun x11 =>
        opS P (S.st 40 x11 x10) fun x12 =>
        opS P (S.ld 40 x11) fun x13 =>
        opS P (S.call x1 [x13]) fun x14 =>
        opS P (S.un .not x14) fun x15 =>
        brn x15 (
          opS P (S.ld 40 x11) fun x16 =>
          opS P (S.ia 51 x0 x5) fun x17 =>
          opS P (S.st 40 x17 x16) fun x18 =>
          opS P (S.binI .add x5 (.int .i64 1)) fun x19 =>
          opS P (S.binI .add x6 (.int .i64 1)) fun x20 =>
          j1 x19 x20
        ) (
          opS P (S.binI .add x6 (.int .i64 1)) fun x16 =>
          j1 x5 x16
        )
      ) (
        j0 x5
      )
    ) x2 x4
  )
instance fnb42 : FnB Tryz.prog 42 := ⟨Tryz.call42⟩
theorem e42 : p42 Tryz.prog = fun K x0 x1 => denF Tryz.prog Tryz.f42 [x0, x1] K := by kernel_rfl
theorem c42 {K : Value → World → Prop} {x0 x1 : Value} {w : World} (h : p42 Tryz.prog K x0 x1 w) : CallsR Tryz.prog 42 #[x0, x1] K w := by
  rw [e42] at h
  exact denF_sound mixed Tryz.func42 h

-- slices.Clone[[]gemel/api.Entry,gemel/api.Entry]
def p43 (P : Program) (K : Value → World → Prop) (x0 : Value) : World → Prop :=
  opS P (S.binN .eql (S.isNilS x0)) fun x1 =>
  brn x1 (
    K (.slice none 0 0)
  ) (
    opS P (S.buildS 51 0 []) fun x2 =>
    opS P (S.bi .append #[51, 51] 51 [x2, x0]) fun x3 =>
    K x3
  )
instance fnb43 : FnB Tryz.prog 43 := ⟨Tryz.call43⟩
theorem e43 : p43 Tryz.prog = fun K x0 => denF Tryz.prog Tryz.f43 [x0] K := by kernel_rfl
theorem c43 {K : Value → World → Prop} {x0 : Value} {w : World} (h : p43 Tryz.prog K x0 w) : CallsR Tryz.prog 43 #[x0] K w := by
  rw [e43] at h
  exact denF_sound mixed Tryz.func43 h

-- (*gemel/fdb.Table).All$2
def p45 (P : Program) (K : Value → World → Prop) (x0 : Value) (x1 : Value) : World → Prop :=
  opS P (S.box 40 x0) fun x2 =>
  opS P (S.box 40 x1) fun x3 =>
  drw <|
  opS P (S.fa 40 x2 0) fun x4 =>
  opS P (S.ld 3 x4) fun x5 =>
  opS P (S.fa 40 x3 0) fun x6 =>
  opS P (S.ld 3 x6) fun x7 =>
  opS P (S.fa 40 x2 1) fun x8 =>
  opS P (S.fa 40 x3 1) fun x9 =>
  allW (
    opS P (S.cl 47 [x5, x7]) fun x10 =>
    opS P (S.ld 24 x8) fun x11 =>
    opS P (S.ld 24 x9) fun x12 =>
    opS P (S.cl 48 [x11, x12]) fun x13 =>
    opS P (S.buildS 70 2 [(0, x10), (1, x13)]) fun x14 =>
    opS P (S.cl 46 [x14]) fun x15 =>
    K x15
  ) (
    allW (
      opS P (S.ld 24 x8) fun x10 =>
      allW (
        opS P (S.cl 47 [x5, x7]) fun x11 =>
        opS P (S.ld 24 x9) fun x12 =>
        opS P (S.cl 48 [x10, x12]) fun x13 =>
        opS P (S.buildS 70 2 [(0, x11), (1, x13)]) fun x14 =>
        opS P (S.cl 46 [x14]) fun x15 =>
        K x15
      ) (
        opS P (S.ld 24 x9) fun x11 =>
        opS P (S.cl 47 [x5, x7]) fun x12 =>
        opS P (S.cl 48 [x10, x11]) fun x13 =>
        opS P (S.buildS 70 2 [(0, x12), (1, x13)]) fun x14 =>
        opS P (S.cl 46 [x14]) fun x15 =>
        K x15
      )
    ) (
      opS P (S.ld 24 x9) fun x10 =>
      allW (
        opS P (S.cl 47 [x5, x7]) fun x11 =>
        opS P (S.ld 24 x8) fun x12 =>
        opS P (S.cl 48 [x12, x10]) fun x13 =>
        opS P (S.buildS 70 2 [(0, x11), (1, x13)]) fun x14 =>
        opS P (S.cl 46 [x14]) fun x15 =>
        K x15
      ) (
        opS P (S.ld 24 x8) fun x11 =>
        opS P (S.cl 47 [x5, x7]) fun x12 =>
        opS P (S.cl 48 [x11, x10]) fun x13 =>
        opS P (S.buildS 70 2 [(0, x12), (1, x13)]) fun x14 =>
        opS P (S.cl 46 [x14]) fun x15 =>
        K x15
      )
    )
  )
instance fnb45 : FnB Tryz.prog 45 := ⟨Tryz.call45⟩
theorem e45 : p45 Tryz.prog = fun K x0 x1 => denF Tryz.prog Tryz.f45 [x0, x1] K := by kernel_rfl
theorem c45 {K : Value → World → Prop} {x0 x1 : Value} {w : World} (h : p45 Tryz.prog K x0 x1 w) : CallsR Tryz.prog 45 #[x0, x1] K w := by
  rw [e45] at h
  exact denF_sound mixed Tryz.func45 h

-- cmp.Or[int]
def p46 (P : Program) (K : Value → World → Prop) (x0 : Value) : World → Prop :=
  opS P (S.len x0) fun x1 =>
  jnJ 0 (
    K (.int .i64 0)
  ) fun j0 =>
  loopJ 1 (fun j1 x2 =>
    opS P (S.binI .lss x2 x1) fun x3 =>
    brn x3 (
      opS P (S.ia 70 x0 x2) fun x4 =>
      opS P (S.ld 3 x4) fun x5 =>
      opS P (S.binI .neq x5 (.int .i64 0)) fun x6 =>
      brn x6 (
        K x5
      ) (
        opS P (S.binI .add x2 (.int .i64 1)) fun x7 =>
        j1 x7
      )
    ) (
      j0
    )
  ) (.int .i64 0)
instance fnb46 : FnB Tryz.prog 46 := ⟨Tryz.call46⟩
theorem e46 : p46 Tryz.prog = fun K x0 => denF Tryz.prog Tryz.f46 [x0] K := by kernel_rfl
theorem c46 {K : Value → World → Prop} {x0 : Value} {w : World} (h : p46 Tryz.prog K x0 w) : CallsR Tryz.prog 46 #[x0] K w := by
  rw [e46] at h
  exact denF_sound mixed Tryz.func46 h

-- cmp.Compare[int]
def p47 (P : Program) (K : Value → World → Prop) (x0 : Value) (x1 : Value) : World → Prop :=
  opS P (S.cl 81 [x0]) fun x2 =>
  opS P (S.cl 81 [x1]) fun x3 =>
  brn x2 (
    brn x3 (
      K (.int .i64 0)
    ) (
      K (.int .i64 (-1))
    )
  ) (
    brn x3 (
      K (.int .i64 1)
    ) (
      opS P (S.binI .lss x0 x1) fun x4 =>
      brn x4 (
        K (.int .i64 (-1))
      ) (
        opS P (S.binI .gtr x0 x1) fun x5 =>
        brn x5 (
          K (.int .i64 1)
        ) (
          K (.int .i64 0)
        )
      )
    )
  )
instance fnb47 : FnB Tryz.prog 47 := ⟨Tryz.call47⟩
theorem e47 : p47 Tryz.prog = fun K x0 x1 => denF Tryz.prog Tryz.f47 [x0, x1] K := by kernel_rfl
theorem c47 {K : Value → World → Prop} {x0 x1 : Value} {w : World} (h : p47 Tryz.prog K x0 x1 w) : CallsR Tryz.prog 47 #[x0, x1] K w := by
  rw [e47] at h
  exact denF_sound mixed Tryz.func47 h

-- gemel/mac.Compare
def p48 (P : Program) (K : Value → World → Prop) (x0 : Value) (x1 : Value) : World → Prop :=
  opS P (S.box 24 x0) fun x2 =>
  opS P (S.box 24 x1) fun x3 =>
  drw <|
  opS P (S.slc 24 x2 none none none) fun x4 =>
  opS P (S.slc 24 x3 none none none) fun x5 =>
  opS P (S.cl 82 [x4, x5]) fun x6 =>
  K x6
instance fnb48 : FnB Tryz.prog 48 := ⟨Tryz.call48⟩
theorem e48 : p48 Tryz.prog = fun K x0 x1 => denF Tryz.prog Tryz.f48 [x0, x1] K := by kernel_rfl
theorem c48 {K : Value → World → Prop} {x0 x1 : Value} {w : World} (h : p48 Tryz.prog K x0 x1 w) : CallsR Tryz.prog 48 #[x0, x1] K w := by
  rw [e48] at h
  exact denF_sound mixed Tryz.func48 h

-- (*gemel/fdb.Table).Age
def p62 (P : Program) (K : Value → World → Prop) (x0 : Value) (x1 : Value) (x2 : Value) : World → Prop :=
  opS P (S.box 3 x1) fun x3 =>
  opS P (S.box 3 x2) fun x4 =>
  opS P (S.ld 3 x3) fun x5 =>
  opS P (S.cl 89 [x5]) fun x6 =>
  opS P (S.un .not x6) fun x7 =>
  brn x7 (
    K (.slice none 0 0)
  ) (
    opS P (S.ld 3 x4) fun x8 =>
    opS P (S.cl 89 [x8]) fun x9 =>
    opS P (S.un .not x9) fun x10 =>
    brn x10 (
      K (.slice none 0 0)
    ) (
      opS P (S.mkf (.func 91) [] [x3, x4]) fun x11 =>
      opS P (S.cl 90 [x0, x11]) fun x12 =>
      K x12
    )
  )
instance fnb62 : FnB Tryz.prog 62 := ⟨Tryz.call62⟩
theorem e62 : p62 Tryz.prog = fun K x0 x1 x2 => denF Tryz.prog Tryz.f62 [x0, x1, x2] K := by kernel_rfl
theorem c62 {K : Value → World → Prop} {x0 x1 x2 : Value} {w : World} (h : p62 Tryz.prog K x0 x1 x2 w) : CallsR Tryz.prog 62 #[x0, x1, x2] K w := by
  rw [e62] at h
  exact denF_sound mixed Tryz.func62 h

-- slices.IndexFunc[[]gemel/api.Entry,gemel/api.Entry]
def p78 (P : Program) (K : Value → World → Prop) (x0 : Value) (x1 : Value) : World → Prop :=
  opS P (S.len x0) fun x2 =>
  jnJ 0 (
    K (.int .i64 (-1))
  ) fun j0 =>
  loopJ 1 (fun j1 x3 =>
    opS P (S.binI .lss x3 x2) fun x4 =>
    brn x4 (
      opS P (S.ia 51 x0 x3) fun x5 =>
      opS P (S.ld 40 x5) fun x6 =>
      opS P (S.call x1 [x6]) fun x7 =>
      brn x7 (
        K x3
      ) (
        opS P (S.binI .add x3 (.int .i64 1)) fun x8 =>
        j1 x8
      )
    ) (
      j0
    )
  ) (.int .i64 0)
instance fnb78 : FnB Tryz.prog 78 := ⟨Tryz.call78⟩
theorem e78 : p78 Tryz.prog = fun K x0 x1 => denF Tryz.prog Tryz.f78 [x0, x1] K := by kernel_rfl
theorem c78 {K : Value → World → Prop} {x0 x1 : Value} {w : World} (h : p78 Tryz.prog K x0 x1 w) : CallsR Tryz.prog 78 #[x0, x1] K w := by
  rw [e78] at h
  exact denF_sound mixed Tryz.func78 h

-- cmp.isNaN[int]
def p81 (P : Program) (K : Value → World → Prop) (x0 : Value) : World → Prop :=
  opS P (S.binI .neq x0 x0) fun x1 =>
  K x1
instance fnb81 : FnB Tryz.prog 81 := ⟨Tryz.call81⟩
theorem e81 : p81 Tryz.prog = fun K x0 => denF Tryz.prog Tryz.f81 [x0] K := by kernel_rfl
theorem c81 {K : Value → World → Prop} {x0 : Value} {w : World} (h : p81 Tryz.prog K x0 w) : CallsR Tryz.prog 81 #[x0] K w := by
  rw [e81] at h
  exact denF_sound mixed Tryz.func81 h

-- bytes.Compare
def p82 (P : Program) (K : Value → World → Prop) (x0 : Value) (x1 : Value) : World → Prop :=
  opS P (S.cl 112 [x0, x1]) fun x2 =>
  K x2
instance fnb82 : FnB Tryz.prog 82 := ⟨Tryz.call82⟩
theorem e82 : p82 Tryz.prog = fun K x0 x1 => denF Tryz.prog Tryz.f82 [x0, x1] K := by kernel_rfl
theorem c82 {K : Value → World → Prop} {x0 x1 : Value} {w : World} (h : p82 Tryz.prog K x0 x1 w) : CallsR Tryz.prog 82 #[x0, x1] K w := by
  rw [e82] at h
  exact denF_sound mixed Tryz.func82 h

-- (*gemel/fdb.Table).forget
def p90 (P : Program) (K : Value → World → Prop) (x0 : Value) (x1 : Value) : World → Prop :=
  opS P (S.box 93 x1) fun x2 =>
  opS P (S.cl 19 [x0]) fun x3 =>
  opS P (S.mkf (.func 118) [] [x2]) fun x4 =>
  opS P (S.cl 42 [x3, x4]) fun x5 =>
  opS P (S.len x5) fun x6 =>
  jnJ 0 (
    K x5
  ) fun j0 =>
  loopJ 1 (fun j1 x7 =>
    opS P (S.binI .lss x7 x6) fun x8 =>
    brn x8 (
      opS P (S.ia 51 x5 x7) fun x9 =>
      opS P (S.ld 40 x9) fun x10 =>
      opS P (S.alloc 40) fun x11 =>
      opS P (S.st 40 x11 x10) fun x12 =>
      opS P (S.fa 40 x11 0) fun x13 =>
      opS P (S.ld 3 x13) fun x14 =>
      opS P (S.fa 40 x11 1) fun x15 =>
      opS P (S.ld 24 x15) fun x16 =>
      opS P (S.cl 119 [x0, x14, x16]) fun x17 =>
      opS P (S.binI .add x7 (.int .i64 1)) fun x18 =>
      j1 x18
    ) (
      j0
    )
  ) (.int .i64 0)
instance fnb90 : FnB Tryz.prog 90 := ⟨Tryz.call90⟩
theorem e90 : p90 Tryz.prog = fun K x0 x1 => denF Tryz.prog Tryz.f90 [x0, x1] K := by kernel_rfl
theorem c90 {K : Value → World → Prop} {x0 x1 : Value} {w : World} (h : p90 Tryz.prog K x0 x1 w) : CallsR Tryz.prog 90 #[x0, x1] K w := by
  rw [e90] at h
  exact denF_sound mixed Tryz.func90 h

-- (*gemel/fdb.Table).Age$1
def p91 (P : Program) (K : Value → World → Prop) (x0 : Value) (x1 : Value) (x2 : Value) : World → Prop :=
  opS P (S.box 40 x0) fun x3 =>
  opS P (S.ld 3 x1) fun x4 =>
  opS P (S.fa 40 x3 3) fun x5 =>
  opS P (S.ld 3 x5) fun x6 =>
  opS P (S.binI .sub x4 x6) fun x7 =>
  opS P (S.ld 3 x2) fun x8 =>
  opS P (S.binI .geq x7 x8) fun x9 =>
  K x9
instance fnb91 : FnB Tryz.prog 91 := ⟨Tryz.call91⟩
theorem e91 : p91 Tryz.prog = fun K x0 x1 x2 => denF Tryz.prog Tryz.f91 [x0, x1, x2] K := by kernel_rfl
theorem c91 {K : Value → World → Prop} {x0 x1 x2 : Value} {w : World} (h : p91 Tryz.prog K x0 x1 x2 w) : CallsR Tryz.prog 91 #[x0, x1, x2] K w := by
  rw [e91] at h
  exact denF_sound mixed Tryz.func91 h

-- (*gemel/fdb.Table).forget$1
def p118 (P : Program) (K : Value → World → Prop) (x0 : Value) (x1 : Value) : World → Prop :=
  opS P (S.box 40 x0) fun x2 =>
  opS P (S.fa 40 x2 4) fun x3 =>
  opS P (S.ld 4 x3) fun x4 =>
  brn x4 (
    K (.bool true)
  ) (
    opS P (S.ld 93 x1) fun x5 =>
    opS P (S.ld 40 x2) fun x6 =>
    opS P (S.call x5 [x6]) fun x7 =>
    opS P (S.un .not x7) fun x8 =>
    K x8
  )
instance fnb118 : FnB Tryz.prog 118 := ⟨Tryz.call118⟩
theorem e118 : p118 Tryz.prog = fun K x0 x1 => denF Tryz.prog Tryz.f118 [x0, x1] K := by kernel_rfl
theorem c118 {K : Value → World → Prop} {x0 x1 : Value} {w : World} (h : p118 Tryz.prog K x0 x1 w) : CallsR Tryz.prog 118 #[x0, x1] K w := by
  rw [e118] at h
  exact denF_sound mixed Tryz.func118 h

end Go.Gx.S
-- 47 81 46 48 82 45 19 41 42 43 78 90 118 62 91 20
end

section
/- Lists that rise. -/
namespace Go.Gx
open Go

theorem eq_of_rising {α : Type} {r : α → α → Prop} (hirr : ∀ a, ¬ r a a) (has : ∀ a b, r a b → ¬ r b a) : ∀ {l k : List α}, l.Pairwise r → k.Pairwise r → (∀ x, x ∈ l ↔ x ∈ k) → l = k
  | [], [], _, _, _ => rfl
  | [], b :: k, _, _, h => absurd ((h b).2 (List.mem_cons_self ..)) (by simp)
  | a :: l, [], _, _, h => absurd ((h a).1 (List.mem_cons_self ..)) (by simp)
  | a :: l, b :: k, h1, h2, h => by
    rw [List.pairwise_cons] at h1 h2
    have hab : a = b := by
      rcases List.mem_cons.1 ((h a).1 (List.mem_cons_self ..)) with e | e
      · exact e
      · rcases List.mem_cons.1 ((h b).2 (List.mem_cons_self ..)) with e2 | e2
        · exact e2.symm
        · exact absurd (h1.1 b e2) (has _ _ (h2.1 a e))
    subst hab
    congr 1
    refine eq_of_rising hirr has h1.2 h2.2 fun x => ⟨fun hx => ?_, fun hx => ?_⟩
    · rcases List.mem_cons.1 ((h x).1 (List.mem_cons_of_mem _ hx)) with e | e
      · subst e; exact absurd (h1.1 x hx) (hirr x)
      · exact e
    · rcases List.mem_cons.1 ((h x).2 (List.mem_cons_of_mem _ hx)) with e | e
      · subst e; exact absurd (h2.1 x hx) (hirr x)
      · exact e

theorem sorted_get {d : List Int} (h : d.Pairwise (· ≤ ·)) {i j : Nat} (hij : i ≤ j) (hj : j < d.length) : d.toArray[i]! ≤ d.toArray[j]! := by
  have hi : i < d.length := by omega
  have e1 : d.toArray[i]! = d[i] := by simp [hi]
  have e2 : d.toArray[j]! = d[j] := by simp [hj]
  rw [e1, e2]
  rcases Nat.eq_or_lt_of_le hij with e | e
  · subst e; exact Int.le_refl _
  · exact List.pairwise_iff_getElem.1 h i j hi hj e

theorem compact_rise {d : List Int} (h : d.Pairwise (· ≤ ·)) : (Lib.compact d).Pairwise (· < ·) := by
  unfold Lib.compact Lib.compactUpTo
  rw [List.pairwise_map]
  have h1 : ((List.range d.length).filter (Lib.keeps d.toArray)).Pairwise (· < ·) := List.pairwise_lt_range.filter _
  refine List.Pairwise.imp_of_mem ?_ h1
  intro a b ha hb hab
  rw [List.mem_filter, List.mem_range] at ha hb
  have hk := hb.2
  simp only [Lib.keeps, decide_eq_true_eq] at hk
  have hne := hk.resolve_left (by omega)
  have g1 := sorted_get h (show a ≤ b - 1 by omega) (by omega)
  have g2 := sorted_get h (show b - 1 ≤ b by omega) hb.1
  omega

theorem compact_mem {d : List Int} {x : Int} : x ∈ Lib.compact d ↔ x ∈ d := by
  unfold Lib.compact Lib.compactUpTo
  rw [List.mem_map]
  constructor
  · rintro ⟨i, hi, rfl⟩
    rw [List.mem_filter, List.mem_range] at hi
    have : d.toArray[i]! = d[i]'hi.1 := by simp [hi.1]
    rw [this]
    exact List.getElem_mem _
  · intro hx
    obtain ⟨i, hi, rfl⟩ := List.getElem_of_mem hx
    have key : ∀ n (hn : n < d.length), ∃ j, j ∈ (List.range d.length).filter (Lib.keeps d.toArray) ∧ d.toArray[j]! = d[n] := by
      intro n
      induction n with
      | zero =>
        intro hn
        refine ⟨0, ?_, by simp [hn]⟩
        rw [List.mem_filter, List.mem_range]
        exact ⟨hn, by simp [Lib.keeps]⟩
      | succ n ih =>
        intro hn
        have e1 : d.toArray[n + 1]! = d[n + 1] := by simp [hn]
        have e0 : d.toArray[n]! = d[n] := by simp [Nat.lt_of_succ_lt hn]
        by_cases e : d[n + 1] = d[n]
        · obtain ⟨j, hj, hje⟩ := ih (by omega)
          exact ⟨j, hj, by rw [hje, e]⟩
        · refine ⟨n + 1, ?_, e1⟩
          rw [List.mem_filter, List.mem_range]
          refine ⟨hn, ?_⟩
          simp only [Lib.keeps, decide_eq_true_eq, Nat.add_sub_cancel]
          right
          rw [e1, e0]
          exact e
    exact key i hi

theorem sorted_ints (d : List Int) : (d.mergeSort fun x y => decide (x ≤ y)).Pairwise (· ≤ ·) := by
  have := List.pairwise_mergeSort (le := fun x y : Int => decide (x ≤ y)) (by intro a b c h1 h2; simp at *; omega) (by intro a b; simp; omega) d
  exact this.imp fun h => by simpa using h

/-- sorted, and each kept once -/
theorem uniq_eq {d k : List Int} (hk : k.Pairwise (· < ·)) (h : ∀ x, x ∈ d ↔ x ∈ k) : Lib.compact (d.mergeSort fun x y => decide (x ≤ y)) = k := by
  refine eq_of_rising (r := (· < ·)) (fun a => by omega) (fun a b h => by omega) (compact_rise (sorted_ints d)) hk fun x => ?_
  rw [compact_mem, List.mem_mergeSort]
  exact h x

end Go.Gx
end

section
/- Bytes that are compared; entries in order; what changes make of them. -/
namespace Go.Gx
open Go
variable {P : Program} {K : Value → World → Prop} {w : World}

/-! ### A function without a body -/

theorem run_extern {f : FuncId} {fn : Func} {e : Array Value → Sem Value} (hf : P.funcs[f]? = some fn) (hn : (fn.name == "runtime.NumGoroutine") = false) (hb : fn.body.isNone = true) (h1 : Extern.findNext fn = none) (h2 : Extern.find fn = some e) (args : Array Value) :
    (callFunc f args).run P w = (do pure (Next.value (← e args)) : Sem Next).run P w := by
  unfold callFunc
  have hp : (program).run P w = .ok P w := rfl
  rw [Sem.run_bind, hp, Result.andThen_ok]
  simp only [hf, hn, hb, h1, h2, Bool.false_eq_true, if_false, if_true]
  rw [Sem.run_bind]
  have hm : (mark (.extern f)).run P w = .ok () w := rfl
  rw [hm, Result.andThen_ok]

theorem s_extern {f : FuncId} {fn : Func} {e : Array Value → Sem Value} (hf : P.funcs[f]? = some fn) (hn : (fn.name == "runtime.NumGoroutine") = false) (hb : fn.body.isNone = true) (h1 : Extern.findNext fn = none) (h2 : Extern.find fn = some e) {args : List Value} {v : Value}
    (hr : (e args.toArray).run P w = .ok v w) (h : K v w) : opS P (S.cl f args) K w := by
  have hx : (S.cl f args).run P w = .ok (.value v) w := by
    have : (S.cl f args).run P w = (callFunc f (#[] ++ args.toArray ++ #[])).run P w := rfl
    rw [this]
    have e2 : (#[] ++ args.toArray ++ #[] : Array Value) = args.toArray := by simp
    rw [e2, run_extern hf hn hb h1 h2, Sem.run_bind, hr]
    rfl
  rw [opS_value hx]
  exact h

theorem run_loadBytes {b : Nat} {c : Array Value} {T : TypeId} {fz : Nat × Nat} (h : w.heap[b]? = some (.cells c T fz)) : ∀ (bs : List Int) (o : Nat) (pre : List Int), o + bs.length ≤ c.size → (c.toList.drop o).take bs.length = bs.map u8 →
    (Extern.Bytes.loadBytes ⟨b, o, none⟩ bs.length (strOf pre)).run P w = .ok (strOf (pre ++ bs)) w
  | [], o, pre, _, _ => by simp [Extern.Bytes.loadBytes]
  | x :: bs, o, pre, hle, he => by
    simp only [List.length_cons] at hle he ⊢
    have hlt : o < c.size := by omega
    have hcl : c.toList.length = c.size := Array.length_toList
    rw [List.drop_eq_getElem_cons (by omega), List.take_succ_cons, List.map_cons, List.cons.injEq] at he
    have hc : w.cell? ⟨b, o, none⟩ = some (u8 x) := by
      rw [cell_rd, rd, h]
      show c[o]? = _
      rw [Array.getElem?_eq_getElem hlt, ← he.1]
      simp
    unfold Extern.Bytes.loadBytes
    rw [Sem.run_bind, run_load, hc]
    simp only [Result.andThen_ok]
    have e1 : (strOf pre).push x.toNat.toUInt8 = strOf (pre ++ [x]) := by simp [strOf, ByteArray.push]
    rw [add_none, e1, run_loadBytes h bs (o + 1) (pre ++ [x]) (by omega) he.2, List.append_assoc]
    rfl

theorem run_bytesOf {v : Value} {bs : List Int} (h : ByR w v bs) : (Extern.Bytes.bytesOf v).run P w = .ok (strOf bs) w := by
  have h1 := h.1.1
  rw [flat_cell1, List.length_map] at h1
  rcases h1 with ⟨⟨a, c, rfl⟩, h2, _⟩ | ⟨b, o, c, cs, T, fz, rfl, hb, hc, ho, hl⟩
  · obtain rfl := List.eq_nil_of_length_eq_zero h2
    cases a <;> rfl
  · have := run_loadBytes (P := P) hb bs o [] (by omega) (by rw [hl, Nat.mul_one])
    exact this

/-! ### Addresses as numbers -/

def macN (m : Mac) : Int := ((((m.b0 * 256 + m.b1) * 256 + m.b2) * 256 + m.b3) * 256 + m.b4) * 256 + m.b5
def macL (m : Mac) : List Int := [m.b0, m.b1, m.b2, m.b3, m.b4, m.b5]
def cmpI (a b : Int) : Int := if a < b then -1 else if b < a then 1 else 0
def cmpM (a b : Mac) : Int := cmpI (macN a) (macN b)

theorem macL_ok {m : Mac} (h : m.ok) : ∀ x ∈ macL m, isB x := by
  obtain ⟨h0, h1, h2, h3, h4, h5⟩ := h
  intro x hx
  simp only [macL, List.mem_cons, List.not_mem_nil, or_false] at hx
  rcases hx with rfl | rfl | rfl | rfl | rfl | rfl <;> assumption

theorem macN_inj {a b : Mac} (ha : a.ok) (hb : b.ok) (h : macN a = macN b) : a = b := by
  obtain ⟨a0, a1, a2, a3, a4, a5⟩ := ha
  obtain ⟨b0, b1, b2, b3, b4, b5⟩ := hb
  unfold macN at h
  unfold isB at *
  apply Mac.ext <;> omega
theorem macN_range {a : Mac} (ha : a.ok) : 0 ≤ macN a ∧ macN a < 281474976710656 := by
  obtain ⟨a0, a1, a2, a3, a4, a5⟩ := ha
  unfold macN
  unfold isB at *
  omega

theorem strOf_size (l : List Int) : (strOf l).size = l.length := by simp [strOf, ByteArray.size]
theorem strOf_get (l : List Int) (i : Nat) (h : i < l.length) : (strOf l)[i]! = UInt8.ofNat (l[i]).toNat := by
  have h2 : i < (strOf l).size := by rw [strOf_size]; exact h
  rw [getElem!_pos _ i h2]
  show (strOf l).data[i] = _
  simp [strOf]

theorem byte_lt {a b : Int} (ha : isB a) (hb : isB b) : UInt8.ofNat a.toNat < UInt8.ofNat b.toNat ↔ a < b := by
  rw [UInt8.lt_iff_toNat_lt]
  simp only [UInt8.toNat_ofNat']
  unfold isB at ha hb
  omega
theorem byte_eq {a b : Int} (ha : isB a) (hb : isB b) : UInt8.ofNat a.toNat = UInt8.ofNat b.toNat ↔ a = b := ⟨byte_inj ha hb, fun h => by rw [h]⟩

theorem cmp_mac {a b : Mac} (ha : a.ok) (hb : b.ok) : Extern.BytealgCompare.cmp (strOf (macL a)) (strOf (macL b)) = cmpM a b := by
  unfold Extern.BytealgCompare.cmp
  have sa : (strOf (macL a)).size = 6 := by rw [strOf_size]; rfl
  have sb : (strOf (macL b)).size = 6 := by rw [strOf_size]; rfl
  rw [sa, sb]
  have gA : ∀ i (h : i < 6), (strOf (macL a))[i]! = UInt8.ofNat ((macL a)[i]'h).toNat := fun i h => strOf_get (macL a) i h
  have gB : ∀ i (h : i < 6), (strOf (macL b))[i]! = UInt8.ofNat ((macL b)[i]'h).toNat := fun i h => strOf_get (macL b) i h
  clear sa sb
  generalize strOf (macL a) = A at *
  generalize strOf (macL b) = B at *
  obtain ⟨a0, a1, a2, a3, a4, a5⟩ := ha
  obtain ⟨b0, b1, b2, b3, b4, b5⟩ := hb
  have hr : List.range (min 6 6) = [0, 1, 2, 3, 4, 5] := rfl
  rw [hr]
  have A0 : A[0]! = UInt8.ofNat a.b0.toNat := gA 0 (by decide)
  have A1 : A[1]! = UInt8.ofNat a.b1.toNat := gA 1 (by decide)
  have A2 : A[2]! = UInt8.ofNat a.b2.toNat := gA 2 (by decide)
  have A3 : A[3]! = UInt8.ofNat a.b3.toNat := gA 3 (by decide)
  have A4 : A[4]! = UInt8.ofNat a.b4.toNat := gA 4 (by decide)
  have A5 : A[5]! = UInt8.ofNat a.b5.toNat := gA 5 (by decide)
  have B0 : B[0]! = UInt8.ofNat b.b0.toNat := gB 0 (by decide)
  have B1 : B[1]! = UInt8.ofNat b.b1.toNat := gB 1 (by decide)
  have B2 : B[2]! = UInt8.ofNat b.b2.toNat := gB 2 (by decide)
  have B3 : B[3]! = UInt8.ofNat b.b3.toNat := gB 3 (by decide)
  have B4 : B[4]! = UInt8.ofNat b.b4.toNat := gB 4 (by decide)
  have B5 : B[5]! = UInt8.ofNat b.b5.toNat := gB 5 (by decide)
  clear gA gB
  simp only [List.find?_cons, List.find?_nil, A0, A1, A2, A3, A4, A5, B0, B1, B2, B3, B4, B5]
  have hne : ∀ x y : Int, isB x → isB y → (UInt8.ofNat x.toNat != UInt8.ofNat y.toNat) = decide (x ≠ y) := by
    intro x y hx hy
    rw [Bool.eq_iff_iff, bne_iff_ne, decide_eq_true_iff, ne_eq, byte_eq hx hy]
  rw [hne _ _ a0 b0, hne _ _ a1 b1, hne _ _ a2 b2, hne _ _ a3 b3, hne _ _ a4 b4, hne _ _ a5 b5]
  unfold cmpM cmpI macN
  have fin : ∀ (x y : Int) (X Y : UInt8), isB x → isB y → X = UInt8.ofNat x.toNat → Y = UInt8.ofNat y.toNat → (if X < Y then (-1 : Int) else 1) = if x < y then -1 else 1 := by
    intro x y X Y hx hy e1 e2
    rw [e1, e2]
    by_cases hxy : x < y
    · rw [if_pos ((byte_lt hx hy).2 hxy), if_pos hxy]
    · rw [if_neg (fun h => hxy ((byte_lt hx hy).1 h)), if_neg hxy]
  by_cases h0 : a.b0 = b.b0
  case neg =>
    simp only [h0, ne_eq, not_false_eq_true, decide_true]
    rw [fin a.b0 b.b0 _ _ a0 b0 A0 B0]
    unfold isB at *
    split <;> split <;> (try split) <;> omega
  by_cases h1 : a.b1 = b.b1
  case neg =>
    simp only [h0, h1, ne_eq, not_true_eq_false, not_false_eq_true, decide_true, decide_false]
    rw [fin a.b1 b.b1 _ _ a1 b1 A1 B1]
    unfold isB at *
    split <;> split <;> (try split) <;> omega
  by_cases h2 : a.b2 = b.b2
  case neg =>
    simp only [h0, h1, h2, ne_eq, not_true_eq_false, not_false_eq_true, decide_true, decide_false]
    rw [fin a.b2 b.b2 _ _ a2 b2 A2 B2]
    unfold isB at *
    split <;> split <;> (try split) <;> omega
  by_cases h3 : a.b3 = b.b3
  case neg =>
    simp only [h0, h1, h2, h3, ne_eq, not_true_eq_false, not_false_eq_true, decide_true, decide_false]
    rw [fin a.b3 b.b3 _ _ a3 b3 A3 B3]
    unfold isB at *
    split <;> split <;> (try split) <;> omega
  by_cases h4 : a.b4 = b.b4
  case neg =>
    simp only [h0, h1, h2, h3, h4, ne_eq, not_true_eq_false, not_false_eq_true, decide_true, decide_false]
    rw [fin a.b4 b.b4 _ _ a4 b4 A4 B4]
    unfold isB at *
    split <;> split <;> (try split) <;> omega
  by_cases h5 : a.b5 = b.b5
  case neg =>
    simp only [h0, h1, h2, h3, h4, h5, ne_eq, not_true_eq_false, not_false_eq_true, decide_true, decide_false]
    rw [fin a.b5 b.b5 _ _ a5 b5 A5 B5]
    unfold isB at *
    split <;> split <;> (try split) <;> omega
  simp [h0, h1, h2, h3, h4, h5]

/-- two slices of bytes that are compared -/
theorem s_bytecmp {f : FuncId} {fn : Func} (hf : P.funcs[f]? = some fn) (hn : (fn.name == "runtime.NumGoroutine") = false) (hb : fn.body.isNone = true) (h1 : Extern.findNext fn = none) (h2 : Extern.find fn = some Extern.BytealgCompare.compare) {a b : Value} {x y : List Int}
    (ha : ByR w a x) (hb2 : ByR w b y) (h : K (.int .i64 (Extern.BytealgCompare.cmp (strOf x) (strOf y))) w) : opS P (S.cl f [a, b]) K w := by
  refine s_extern hf hn hb h1 h2 (v := .int .i64 (Extern.BytealgCompare.cmp (strOf x) (strOf y))) ?_ h
  show (do pure (goInt (Extern.BytealgCompare.cmp (← Extern.Bytes.bytesOf a) (← Extern.Bytes.bytesOf b))) : Sem Value).run P w = _
  rw [Sem.run_bind, run_bytesOf ha, Result.andThen_ok, Sem.run_bind, run_bytesOf hb2, Result.andThen_ok]
  rfl

end Go.Gx
end
