/- Own texts, put together. -/
import Derived.Test.YtadgfomgnohokaaS2
import Derived.RecoverIn
import Derived.LaidEqlPtr
section
/- Entries in order; what changes make of them: plain. -/
namespace Go.Gx
open Go Go.Sort Go.Proofs

theorem Ent.g0 (e : Ent) : e.cells[0]? = some (i64 e.vlan) := id rfl
theorem Ent.g7 (e : Ent) : e.cells[7]? = some (i64 e.port) := id rfl
theorem Ent.g8 (e : Ent) : e.cells[8]? = some (i64 e.at_) := id rfl
theorem Ent.g9 (e : Ent) : e.cells[9]? = some (.bool e.static) := id rfl
theorem Ent.d1 (e : Ent) : (e.cells.drop 1).take 6 = e.mac.cells := id rfl
theorem Ent.dw (e : Ent) : (e.cells.drop 0).take 10 = e.cells := id rfl
theorem Ent.sw (e f : Ent) : splice e.cells 0 f.cells = f.cells := id rfl
attribute [push_cast] Ent.g0 Ent.g7 Ent.g8 Ent.g9 Ent.d1 Ent.dw Ent.sw Ent.cells_length Ent.cells_one

def eKey (e : Ent) : Int × Mac := (e.vlan, e.mac)
def cmpE (a b : Ent) : Int := if cmpI a.vlan b.vlan ≠ 0 then cmpI a.vlan b.vlan else cmpM a.mac b.mac
def ltE (a b : Ent) : Prop := a.vlan < b.vlan ∨ (a.vlan = b.vlan ∧ macN a.mac < macN b.mac)
instance (a b : Ent) : Decidable (ltE a b) := by unfold ltE; infer_instance

theorem cmpI_lt {a b : Int} : cmpI a b < 0 ↔ a < b := by
  unfold cmpI
  by_cases h1 : a < b
  · rw [if_pos h1]; simp [h1]
  · rw [if_neg h1]
    by_cases h2 : b < a
    · rw [if_pos h2]; constructor <;> intro h <;> omega
    · rw [if_neg h2]; constructor <;> intro h <;> omega
theorem cmpI_zero {a b : Int} : cmpI a b = 0 ↔ a = b := by
  unfold cmpI
  by_cases h1 : a < b
  · rw [if_pos h1]; constructor <;> intro h <;> omega
  · rw [if_neg h1]
    by_cases h2 : b < a
    · rw [if_pos h2]; constructor <;> intro h <;> omega
    · rw [if_neg h2]; constructor <;> intro h <;> omega
theorem cmpE_lt {a b : Ent} : cmpE a b < 0 ↔ ltE a b := by
  unfold cmpE ltE cmpM
  by_cases h : a.vlan = b.vlan
  · rw [if_neg (fun h2 => h2 (cmpI_zero.2 h)), cmpI_lt]
    constructor
    · intro h2; exact .inr ⟨h, h2⟩
    · rintro (h2 | h2)
      · omega
      · exact h2.2
  · rw [if_pos (fun h2 => h (cmpI_zero.1 h2)), cmpI_lt]
    constructor
    · intro h2; exact .inl h2
    · rintro (h2 | h2)
      · exact h2
      · exact absurd h2.1 h

theorem ltE_irr (a : Ent) : ¬ ltE a a := by unfold ltE; omega
theorem ltE_asym (a b : Ent) (h : ltE a b) : ¬ ltE b a := by unfold ltE at *; omega
theorem ltE_trans {a b c : Ent} (h : ltE a b) (h' : ltE b c) : ltE a c := by unfold ltE at *; omega
theorem ltE_total {a b : Ent} (ha : a.ok) (hb : b.ok) (h : eKey a ≠ eKey b) : ltE a b ∨ ltE b a := by
  unfold ltE
  by_cases h1 : a.vlan = b.vlan
  · have : macN a.mac ≠ macN b.mac := fun h2 => h (by unfold eKey; rw [h1, macN_inj ha.2.1 hb.2.1 h2])
    omega
  · omega
theorem ltE_key {a b : Ent} (h : ltE a b) : eKey a ≠ eKey b := by
  intro e
  unfold eKey at e
  simp only [Prod.mk.injEq] at e
  unfold ltE at h
  rw [e.1, e.2] at h
  omega

/-- entries, in order, each key once -/
def Srt (r : List Ent) : Prop := r.Pairwise ltE ∧ ∀ e ∈ r, e.ok

theorem Srt.nil : Srt [] := ⟨List.Pairwise.nil, by simp⟩
theorem Srt.key {r : List Ent} (h : Srt r) {e f : Ent} (he : e ∈ r) (hf : f ∈ r) (hk : eKey e = eKey f) : e = f := by
  obtain ⟨i, hi, rfl⟩ := List.getElem_of_mem he
  obtain ⟨j, hj, rfl⟩ := List.getElem_of_mem hf
  have hp := List.pairwise_iff_getElem.1 h.1
  rcases Nat.lt_trichotomy i j with hij | rfl | hij
  · exact absurd hk (ltE_key (hp i j hi hj hij))
  · rfl
  · exact absurd hk.symm (ltE_key (hp j i hj hi hij))
theorem Srt.eq {r s : List Ent} (h : Srt r) (h' : Srt s) (he : ∀ e, e ∈ r ↔ e ∈ s) : r = s := eq_of_rising ltE_irr ltE_asym h.1 h'.1 he

def withoutL (l : List Ent) (x : Ent) : List Ent := l.filter fun e => decide (eKey e ≠ eKey x)
def insL (l : List Ent) (x : Ent) : List Ent := l.takeWhile (fun e => decide (ltE e x)) ++ x :: l.dropWhile (fun e => decide (ltE e x))
def withL (l : List Ent) (x : Ent) : List Ent := insL (withoutL l x) x

theorem mem_without {l : List Ent} {x e : Ent} : e ∈ withoutL l x ↔ e ∈ l ∧ eKey e ≠ eKey x := by
  unfold withoutL
  rw [List.mem_filter, decide_eq_true_iff]
theorem mem_ins {l : List Ent} {x e : Ent} : e ∈ insL l x ↔ e = x ∨ e ∈ l := by
  unfold insL
  conv => rhs; rw [← List.takeWhile_append_dropWhile (p := fun e => decide (ltE e x)) (l := l)]
  simp only [List.mem_append, List.mem_cons]
  constructor
  · rintro (h | h | h)
    · exact .inr (.inl h)
    · exact .inl h
    · exact .inr (.inr h)
  · rintro (h | h | h)
    · exact .inr (.inl h)
    · exact .inl h
    · exact .inr (.inr h)
theorem mem_with {l : List Ent} {x e : Ent} : e ∈ withL l x ↔ e = x ∨ (e ∈ l ∧ eKey e ≠ eKey x) := by
  unfold withL
  rw [mem_ins, mem_without]

theorem Srt.without {r : List Ent} (h : Srt r) (x : Ent) : Srt (withoutL r x) := ⟨h.1.filter _, fun e he => h.2 e (mem_without.1 he).1⟩
theorem Srt.with {r : List Ent} (h : Srt r) {x : Ent} (hx : x.ok) : Srt (withL r x) := by
  have hw := h.without x
  have hk : ∀ e ∈ withoutL r x, eKey e ≠ eKey x := fun e he => (mem_without.1 he).2
  refine ⟨?_, fun e he => ?_⟩
  · unfold withL
    generalize withoutL r x = l at *
    clear h
    unfold insL
    have hcut : ∀ e ∈ l.dropWhile (fun e => decide (ltE e x)), ltE x e := by
      have hs : (l.dropWhile (fun e => decide (ltE e x))).Pairwise ltE := hw.1.sublist (List.dropWhile_sublist _)
      cases hd : l.dropWhile (fun e => decide (ltE e x)) with
      | nil => simp
      | cons f k =>
        rw [hd] at hs
        have hf : ¬ ltE f x := by
          have := List.head_dropWhile_not (fun e => decide (ltE e x)) (l := l) (by rw [hd]; simp)
          simp only [hd, List.head_cons] at this
          simpa using this
        have hfl : f ∈ l := (List.dropWhile_sublist _).subset (by rw [hd]; exact List.mem_cons_self ..)
        have hxf : ltE x f := (ltE_total (hw.2 f hfl) hx (hk f hfl)).resolve_left hf
        intro e he
        rcases List.mem_cons.1 he with rfl | he
        · exact hxf
        · exact ltE_trans hxf ((List.pairwise_cons.1 hs).1 e he)
    have htk : ∀ e ∈ l.takeWhile (fun e => decide (ltE e x)), ltE e x := fun e he => by
      have := List.all_eq_true.1 (List.all_takeWhile (p := fun e => decide (ltE e x)) (l := l)) e he
      simpa using this
    rw [List.pairwise_append]
    refine ⟨hw.1.sublist (List.takeWhile_sublist _), List.pairwise_cons.2 ⟨hcut, hw.1.sublist (List.dropWhile_sublist _)⟩, fun a ha b hb => ?_⟩
    rcases List.mem_cons.1 hb with rfl | hb
    · exact htk a ha
    · exact ltE_trans (htk a ha) (hcut b hb)
  · rcases mem_with.1 he with rfl | he
    · exact hx
    · exact h.2 e he.1

def chL (r : List Ent) (c : Ent × Bool) : List Ent := if c.2 then withoutL r c.1 else withL r c.1
def replayL (l : List Ent) (cs : List (Ent × Bool)) : List Ent := cs.foldl chL (l.foldl withL [])

theorem Srt.ch {r : List Ent} (h : Srt r) {c : Ent × Bool} (hc : c.1.ok) : Srt (chL r c) := by
  unfold chL
  split
  · exact h.without _
  · exact h.with hc
theorem Srt.chs {r : List Ent} (h : Srt r) : ∀ {cs : List (Ent × Bool)}, (∀ c ∈ cs, c.1.ok) → Srt (cs.foldl chL r)
  | [], _ => h
  | c :: cs, hc => by
    rw [List.foldl_cons]
    exact Srt.chs (h.ch (hc c (List.mem_cons_self ..))) fun d hd => hc d (List.mem_cons_of_mem _ hd)
theorem Srt.ents {r : List Ent} (h : Srt r) : ∀ {l : List Ent}, (∀ e ∈ l, e.ok) → Srt (l.foldl withL r)
  | [], _ => h
  | c :: cs, hc => by
    rw [List.foldl_cons]
    exact Srt.ents (h.with (hc c (List.mem_cons_self ..))) fun d hd => hc d (List.mem_cons_of_mem _ hd)
theorem Srt.replay {l : List Ent} {cs : List (Ent × Bool)} (hl : ∀ e ∈ l, e.ok) (hc : ∀ c ∈ cs, c.1.ok) : Srt (replayL l cs) := (Srt.nil.ents hl).chs hc

theorem without_len (l : List Ent) (x : Ent) : (withoutL l x).length ≤ l.length := List.length_filter_le _ _
theorem ins_len (l : List Ent) (x : Ent) : (insL l x).length = l.length + 1 := by
  have h := congrArg List.length (List.takeWhile_append_dropWhile (p := fun e => decide (ltE e x)) (l := l))
  unfold insL
  rw [List.length_append] at h ⊢
  rw [List.length_cons]
  omega
theorem with_len (l : List Ent) (x : Ent) : (withL l x).length ≤ l.length + 1 := by
  unfold withL
  rw [ins_len]
  have := without_len l x
  omega
theorem ents_len : ∀ (l r : List Ent), (l.foldl withL r).length ≤ r.length + l.length
  | [], r => by simp
  | e :: l, r => by
    rw [List.foldl_cons, List.length_cons]
    have := ents_len l (withL r e)
    have := with_len r e
    omega
theorem chs_len : ∀ (cs : List (Ent × Bool)) (r : List Ent), (cs.foldl chL r).length ≤ r.length + cs.length
  | [], r => by simp
  | c :: cs, r => by
    rw [List.foldl_cons, List.length_cons]
    have := chs_len cs (chL r c)
    have h1 := with_len r c.1
    have h2 := without_len r c.1
    have : (chL r c).length ≤ r.length + 1 := by unfold chL; split <;> omega
    omega
theorem replay_len (l : List Ent) (cs : List (Ent × Bool)) : (replayL l cs).length ≤ l.length + cs.length := by
  have h1 := chs_len cs (l.foldl withL [])
  have h2 := ents_len l []
  unfold replayL
  simp at h2
  omega

/-- entries in order are put in as they are -/
theorem ents_self {r : List Ent} (h : Srt r) : r.foldl withL [] = r := by
  have key : ∀ (l : List Ent) (s : List Ent), Srt (s ++ l) → l.foldl withL s = s ++ l := by
    intro l
    induction l with
    | nil => intro s _; simp
    | cons e l ih =>
      intro s hs
      rw [List.foldl_cons]
      have hse : Srt s := ⟨hs.1.sublist (List.sublist_append_left _ _), fun x hx => hs.2 x (List.mem_append_left _ hx)⟩
      have hek : e.ok := hs.2 e (by simp)
      have hsub : Srt (s ++ [e]) := ⟨hs.1.sublist (List.Sublist.append_left (by simp) _), fun x hx => hs.2 x (by simp at hx ⊢; rcases hx with h | h; exact .inl h; exact .inr (.inl h))⟩
      have hw : withL s e = s ++ [e] := by
        refine (hse.with hek).eq hsub fun x => ?_
        rw [mem_with, List.mem_append, List.mem_singleton]
        have hlt : ∀ y ∈ s, ltE y e := fun y hy => (List.pairwise_append.1 hsub.1).2.2 y hy e (by simp)
        constructor
        · rintro (h | h)
          · exact .inr h
          · exact .inl h.1
        · rintro (h | h)
          · exact .inr ⟨h, ltE_key (hlt x h)⟩
          · exact .inl h
      rw [hw, ih (s ++ [e]) (by simpa using hs)]
      simp
  simpa using key r [] (by simpa using h)

theorem replay_self {r : List Ent} (h : Srt r) (cs : List (Ent × Bool)) : replayL r cs = cs.foldl chL r := by
  unfold replayL
  rw [ents_self h]

/-! ### A map of entries -/

structure RM (m : List ((Int × Mac) × Ent)) (r : List Ent) : Prop where
  srt : Srt r
  mem : ∀ e, e ∈ r ↔ (eKey e, e) ∈ m
  key : ∀ p ∈ m, p.1 = eKey p.2
  nd : (m.map Prod.fst).Nodup

theorem RM.nil : RM [] [] := ⟨Srt.nil, by simp, by simp, by simp⟩
theorem setL_mem_iff {κ ν : Type} [DecidableEq κ] {l : List (κ × ν)} (hn : (l.map Prod.fst).Nodup) {k : κ} {v : ν} {x : κ × ν} : x ∈ setL l k v ↔ x = (k, v) ∨ (x ∈ l ∧ x.1 ≠ k) := by
  have hns := VT.setL_nodup (k := k) (v := v) hn
  have key : ∀ (q : List (κ × ν)), (q.map Prod.fst).Nodup → ∀ y, y ∈ q ↔ getL q y.1 = some y.2 := fun q hq y => ⟨fun h => lookup_of_mem hq h, fun h => lookup_some_mem h⟩
  rw [key _ hns, lookup_setL]
  by_cases e : x.1 = k
  · rw [if_pos e]
    constructor
    · intro h
      left
      simp only [Option.some.injEq] at h
      exact Prod.ext e h.symm
    · rintro (h | h)
      · rw [h]
      · exact absurd e h.2
  · rw [if_neg e]
    constructor
    · intro h; exact .inr ⟨lookup_some_mem h, e⟩
    · rintro (h | h)
      · rw [h] at e; exact absurd rfl e
      · exact lookup_of_mem hn h.1
theorem delL_mem_iff {κ ν : Type} [DecidableEq κ] {l : List (κ × ν)} {k : κ} {x : κ × ν} : x ∈ delL l k ↔ x ∈ l ∧ x.1 ≠ k := by
  unfold delL
  rw [List.mem_filter, decide_eq_true_iff]

theorem RM.set {m : List ((Int × Mac) × Ent)} {r : List Ent} (h : RM m r) {e : Ent} (he : e.ok) : RM (setL m (eKey e) e) (withL r e) := by
  refine ⟨h.srt.with he, fun f => ?_, fun p hp => ?_, VT.setL_nodup h.nd⟩
  · rw [mem_with, setL_mem_iff h.nd, h.mem]
    constructor
    · rintro (rfl | ⟨h1, h2⟩)
      · exact .inl rfl
      · exact .inr ⟨h1, h2⟩
    · rintro (h1 | ⟨h1, h2⟩)
      · exact .inl (Prod.ext_iff.1 h1).2
      · exact .inr ⟨h1, h2⟩
  · rcases (setL_mem_iff h.nd).1 hp with rfl | ⟨h1, _⟩
    · rfl
    · exact h.key p h1
theorem RM.del {m : List ((Int × Mac) × Ent)} {r : List Ent} (h : RM m r) (e : Ent) : RM (delL m (eKey e)) (withoutL r e) := by
  refine ⟨h.srt.without e, fun f => ?_, fun p hp => h.key p (delL_mem_iff.1 hp).1, h.nd.sublist ((VT.delL_sub _ _).map _)⟩
  rw [mem_without, delL_mem_iff, h.mem]

/-- what comes out of the map, sorted -/
theorem RM.out {m d : List ((Int × Mac) × Ent)} {r ys : List Ent} (h : RM m r) (hd : d.Perm m) (hy : ys.Perm (d.map Prod.snd)) (hs : ys.Pairwise fun x y => ¬ cmpE y x < 0) : ys = r := by
  have hm : ∀ e, e ∈ ys ↔ e ∈ r := fun e => by
    rw [hy.mem_iff, (hd.map _).mem_iff, h.mem, List.mem_map]
    constructor
    · rintro ⟨p, hp, rfl⟩
      have := h.key p hp
      rw [← this]; exact hp
    · intro hp; exact ⟨_, hp, rfl⟩
  have hnd : ys.Nodup := by
    rw [hy.nodup_iff, (hd.map _).nodup_iff]
    have : (m.map Prod.snd).map eKey = m.map Prod.fst := by
      rw [List.map_map]
      exact List.map_congr_left fun p hp => (h.key p hp).symm
    have hn := h.nd
    rw [← this] at hn
    exact List.Pairwise.of_map eKey (fun a b h e => h (congrArg eKey e)) hn
  refine Srt.eq ⟨?_, fun e he => h.srt.2 e ((hm e).1 he)⟩ h.srt hm
  rw [List.pairwise_iff_getElem] at hs ⊢
  intro i j hi hj hij
  have h1 := hs i j hi hj hij
  rw [cmpE_lt] at h1
  have hne : ys[i] ≠ ys[j] := List.pairwise_iff_getElem.1 hnd i j hi hj hij
  have hmi := (hm _).1 (List.getElem_mem hi)
  have hmj := (hm _).1 (List.getElem_mem hj)
  have hk : eKey ys[i] ≠ eKey ys[j] := fun e => hne (h.srt.key hmi hmj e)
  exact (ltE_total (h.srt.2 _ hmi) (h.srt.2 _ hmj) hk).resolve_right h1

theorem swoE {p : Ent → Prop} : SWO (ltOf fun x y : { e : Ent // p e } => cmpE x.1 y.1) where
  irrefl x := by
    unfold ltOf
    rw [decide_eq_false_iff_not, cmpE_lt]
    exact ltE_irr _
  trans x y z h1 h2 := by
    unfold ltOf at *
    rw [decide_eq_true_iff, cmpE_lt] at *
    exact ltE_trans h1 h2
  ntrans x y z h1 h2 := by
    unfold ltOf at *
    rw [decide_eq_false_iff_not, cmpE_lt] at *
    unfold ltE at *
    omega

end Go.Gx
end

section
/- Bytes that are copied, cut out, made; shifts and bits. -/
namespace Go.Gx
open Go
variable {P : Program} {K : Value → World → Prop} {w : World}

/-! ### Numbers -/

theorem wrap_u8 (x : Int) : IntKind.u8.wrap x = x % 256 := by
  unfold IntKind.wrap
  have e1 : (2 : Int) ^ IntKind.u8.bits = 256 := rfl
  have e3 : IntKind.u8.signed = false := rfl
  simp only [e1, e3, Bool.false_and, Bool.false_eq_true, if_false]

theorem opS_shr (k k' : IntKind) (x : Int) (n : Nat) (hn : n ≤ k.bits) : opS P (S.binI .shr (.int k x) (.int k' n)) K w = K (.int k (x / 2 ^ n)) w := by
  have h : ¬ ((n : Int) < 0) := by omega
  have e : x.fdiv (2 ^ n) = x / 2 ^ n := Int.fdiv_eq_ediv_of_nonneg x (Int.le_of_lt (Int.pow_pos (by decide)))
  simp [S.binI, binOp, Op.shift, opS, uponR, Nat.min_eq_left hn, h, e]
theorem opS_shl (k k' : IntKind) (x : Int) (n : Nat) (hn : n ≤ k.bits) : opS P (S.binI .shl (.int k x) (.int k' n)) K w = K (.int k (k.wrap (x * 2 ^ n))) w := by
  have h : ¬ ((n : Int) < 0) := by omega
  simp [S.binI, binOp, Op.shift, opS, uponR, Nat.min_eq_left hn, h]

theorem ofInt_nat {n : Nat} {x : Int} (h0 : 0 ≤ x) : BitVec.ofInt n x = BitVec.ofNat n x.toNat := by
  obtain ⟨k, rfl⟩ := Int.eq_ofNat_of_zero_le h0
  simp

/-- bits that do not meet -/
theorem opS_or {x y : Int} (m : Nat) (hx : 0 ≤ x) (hx2 : x < 2 ^ 62) (hy : 0 ≤ y) (hy2 : y < 2 ^ m) (hm : x % 2 ^ m = 0) (hm2 : m ≤ 62) : opS P (S.binI .or (.int .i64 x) (.int .i64 y)) K w = K (.int .i64 (x + y)) w := by
  obtain ⟨a, rfl⟩ := Int.eq_ofNat_of_zero_le hx
  obtain ⟨b, rfl⟩ := Int.eq_ofNat_of_zero_le hy
  have hb : b < 2 ^ m := by exact_mod_cast hy2
  have ha : a < 2 ^ 62 := by exact_mod_cast hx2
  have hd : a % 2 ^ m = 0 := by exact_mod_cast hm
  have hpm : 2 ^ m ≤ 2 ^ 62 := Nat.pow_le_pow_right (by decide) hm2
  have e : (BitVec.ofInt 64 (a : Int) ||| BitVec.ofInt 64 (b : Int)).toNat = a + b := by
    rw [ofInt_nat (by omega), ofInt_nat (by omega), BitVec.toNat_or]
    simp only [Int.toNat_natCast, BitVec.toNat_ofNat]
    rw [Nat.mod_eq_of_lt (by omega), Nat.mod_eq_of_lt (by omega)]
    have : a = a / 2 ^ m * 2 ^ m := by
      have := Nat.div_add_mod a (2 ^ m)
      rw [hd, Nat.mul_comm] at this
      omega
    rw [this, ← Nat.shiftLeft_eq, ← Nat.shiftLeft_add_eq_or_of_lt hb]
  have hw : IntKind.i64.wrap ((a + b : Nat) : Int) = (a : Int) + b := by
    rw [wrap_i64 (by omega)]; simp
  unfold S.binI
  simp only []
  have : (binOp .or 0 (.int .i64 (a : Int)) (.int .i64 (b : Int))).run P w = .ok (.int .i64 ((a : Int) + b)) w := by
    show (Op.intBits .or .i64 (a : Int) (b : Int)).run P w = _
    unfold Op.intBits
    show Result.ok (Value.int .i64 (IntKind.i64.wrap ((BitVec.ofInt 64 (a : Int) ||| BitVec.ofInt 64 (b : Int)).toNat : Int))) w = _
    rw [e, hw]
  rw [opS_bind, this]

/-- the low bits -/
theorem opS_and {x : Int} (m : Nat) (hx : 0 ≤ x) (hx2 : x < 2 ^ 62) (hm : m ≤ 62) : opS P (S.binI .and (.int .i64 x) (.int .i64 (2 ^ m - 1))) K w = K (.int .i64 (x % 2 ^ m)) w := by
  obtain ⟨a, rfl⟩ := Int.eq_ofNat_of_zero_le hx
  have ha : a < 2 ^ 62 := by exact_mod_cast hx2
  have hpm : 2 ^ m ≤ 2 ^ 62 := Nat.pow_le_pow_right (by decide) hm
  have hp0 : 0 < 2 ^ m := Nat.pow_pos (by decide)
  have eb : ((2 : Int) ^ m - 1) = ((2 ^ m - 1 : Nat) : Int) := by
    rw [Int.natCast_sub (by omega)]; simp
  have e : (BitVec.ofInt 64 (a : Int) &&& BitVec.ofInt 64 ((2 : Int) ^ m - 1)).toNat = a % 2 ^ m := by
    rw [eb, ofInt_nat (by omega), ofInt_nat (by omega), BitVec.toNat_and]
    simp only [Int.toNat_natCast, BitVec.toNat_ofNat]
    rw [Nat.mod_eq_of_lt (by omega), Nat.mod_eq_of_lt (by omega), Nat.and_two_pow_sub_one_eq_mod]
  have hlt : a % 2 ^ m < 2 ^ m := Nat.mod_lt _ hp0
  have hw : IntKind.i64.wrap ((a % 2 ^ m : Nat) : Int) = (a : Int) % 2 ^ m := by
    rw [wrap_i64 (by omega)]; simp
  unfold S.binI
  simp only []
  have : (binOp .and 0 (.int .i64 (a : Int)) (.int .i64 ((2 : Int) ^ m - 1))).run P w = .ok (.int .i64 ((a : Int) % 2 ^ m)) w := by
    show Result.ok (Value.int .i64 (IntKind.i64.wrap ((BitVec.ofInt 64 (a : Int) &&& BitVec.ofInt 64 ((2 : Int) ^ m - 1)).toNat : Int))) w = _
    rw [e, hw]
  rw [opS_bind, this]

/-! ### Parts of arrays; room -/

theorem opS_slcA {T E n sz : Nat} {ag : Bool} [hT : ArT P T n E] [hs : Sz P E sz ag] (b o : Nat) : opS P (S.slc T (pt b o) none none none) K w = K (.slice (some ⟨b, o, none⟩) n n) w := by
  unfold S.slc
  rw [opS_bind]
  unfold Instr.sliceAt
  rw [Sem.run_bind, run_underlying_of hT.und, Result.andThen_ok]
  simp only []
  have : (Instr.sureAddr (pt b o)).run P w = .ok ⟨b, o, none⟩ w := rfl
  rw [Sem.run_bind, this, Result.andThen_ok]
  have hb : (Instr.sliceBounds false n n none none none).run P w = .ok (0, n, n) w := rfl
  rw [Sem.run_bind, hb, Result.andThen_ok]
  simp only []
  rw [Sem.run_bind, hs.size w, Result.andThen_ok]
  simp only [Nat.zero_mul, add_none, Nat.add_zero, ite_self, Nat.sub_zero]
  rfl

theorem opS_cap {T ty : TypeId} {E : outParam TypeId} [hT : SlT P T E] (a : Option Addr) (n c : Nat) : opS P (S.bi .cap #[T] ty [.slice a n c]) K w = K (.int .i64 c) w := by
  show opS P (do pure (Next.value (← Builtin.cap_ #[T] ty #[.slice a n c]))) K w = _
  rw [opS_bind]
  unfold Builtin.cap_
  simp only [List.getElem?_toArray, List.getElem?_cons_zero]
  rw [Sem.run_bind, run_underlying_of hT.und, Result.andThen_ok]
  rfl

theorem opS_slc0 {T E sz : Nat} {ag : Bool} [hT : SlT P T E] [hs : Sz P E sz ag] {b o n c : Nat} {k : IntKind} : opS P (S.slc T (.slice (some ⟨b, o, none⟩) n c) (some (.int k 0)) none none) K w = K (.slice (some ⟨b, o, none⟩) n c) w := by
  rw [opS_slice (run_boundsL (lo := 0) (by omega) (by omega))]
  simp [add_none]

theorem wr_nil (w : World) (b o : Nat) : wr w b o [] = w := by
  unfold wr
  split
  · rename_i c T fz h
    rw [splice_nil]
    simp only [Array.toArray_toList]
    unfold upd
    have : w.heap.setIfInBounds b (.cells c T fz) = w.heap := by
      apply Array.ext_getElem?
      intro i
      rw [Array.getElem?_setIfInBounds]
      by_cases e : b = i
      · subst e
        rw [if_pos rfl, h, if_pos (lt_of_heap h)]
      · rw [if_neg e]
    rw [this]
  · rfl

/-- 'copy' of as many as there is room for -/
theorem s_copy {T T2 E sz : Nat} {ag : Bool} {ty : TypeId} [hT : SlT P T E] [hs : Sz P E sz ag] {b o n c m : Nat} {u : Value} {k : List Value} {cs : Array Value} {TT : TypeId} (hb : w.heap[b]? = some (.cells cs TT (0, 0)))
    (hu : Rd sz w u m k) (hk : k.all S.oneCell = true) (hm : m ≤ n) (hn : o + n * sz ≤ cs.size) : opS P (S.bi .copy #[T, T2] ty [.slice (some ⟨b, o, none⟩) n c, u]) K w = K (.int .i64 m) (wr w b o k) := by
  show opS P (do pure (Next.value (← Builtin.copy_ #[T, T2] ty #[.slice (some ⟨b, o, none⟩) n c, u]))) K w = _
  rw [opS_bind]
  unfold Builtin.copy_
  simp only [List.getElem?_toArray, List.getElem?_cons_zero, List.getElem?_cons_succ]
  rw [Sem.run_bind, run_underlying_of hT.und, Result.andThen_ok]
  simp only []
  obtain ⟨ua, uc, rfl⟩ := hu.form
  have hlen : (Builtin.lenOf (.slice ua m uc)).run P w = .ok m w := rfl
  have hmin : Nat.min m n = m := Nat.min_eq_left hm
  rw [Sem.run_bind, hlen, Result.andThen_ok, hmin, Sem.run_bind, hs.size w, Result.andThen_ok, Sem.run_bind, run_firstCells hu, Result.andThen_ok]
  have hkl := hu.len
  have hmul : m * sz ≤ n * sz := Nat.mul_le_mul_right _ hm
  have hst := run_storeCells (P := P) k w cs 0 o hb hk (by omega) (fun j hj => by simp)
  rw [Sem.run_bind]
  simp only [Nat.add_zero] at hst
  rw [hst, Result.andThen_ok]
  unfold wr
  rw [hb]
  rfl

theorem opS_mksc {T E n by_ : Nat} {ag : Bool} {z : Value} [hT : SlT P T E] [hs : Sz P E n ag] [hb : By P E by_] [hz : ZV P E z] (k k' : IntKind) (len cap : Int) (h0 : 0 ≤ len) (h0' : len ≤ cap) (h1 : by_ * cap ≤ 2 ^ 48) (h2 : cap < 2 ^ 62)
    (hn : z.cells.size = n) (hn0 : 0 < n) : opS P (S.mks T (.int k len) (.int k' cap)) K w = K (.slice (some ⟨w.heap.size, 0, none⟩) len.toNat cap.toNat) (w.alloc (.cells (zeros cap.toNat z.cells.toList).toArray E)) := by
  obtain ⟨i, hi, hib⟩ := hb.bytes
  unfold S.mks
  rw [opS_bind]
  unfold Instr.makeSlice
  rw [Sem.run_bind, run_underlying_of hT.und, Result.andThen_ok]
  have hw : IntKind.i64.wrap len = len := wrap_i64 (by omega)
  have hw' : IntKind.i64.wrap cap = cap := wrap_i64 (by omega)
  simp only [asInt, asIntOf, pure_bind, hw, hw']
  rw [Sem.run_bind, hi w, Result.andThen_ok]
  have ht : (decide (cap < 0) || decide ((i.bytes : Int) * cap > 2 ^ 48)) = false := by
    rw [hib]; simp; omega
  have hc : ((decide (cap < 0) || decide ((i.bytes : Int) * cap > 2 ^ 48)) || decide (len < 0) || decide (len > cap)) = false := by
    rw [ht]; simp; omega
  simp only [hc, Bool.false_eq_true, if_false]
  have har : (askRoom (cap.toNat * i.bytes)).run P w = .ok () w := by
    unfold askRoom; split <;> rfl
  rw [Sem.run_bind, har, Result.andThen_ok, Sem.run_bind, hs.size w, Result.andThen_ok]
  have hrz := range_zeros cap.toNat z.cells
  rw [hn] at hrz
  by_cases hz0 : cap.toNat * n = 0
  · rw [if_pos hz0, Sem.run_bind]
    have hl0 : cap.toNat = 0 := by
      rcases Nat.mul_eq_zero.1 hz0 with h | h
      · exact h
      · omega
    have e0 : Array.range 0 = #[] := by simp
    simp only [hl0, Nat.zero_mul, e0, Array.map_empty]
    rfl
  · rw [if_neg hz0, Sem.run_bind, hz.zero w, Result.andThen_ok, Sem.run_bind, hn, hrz]
    rfl

/-- 'append([]T(nil), make([]T, n)...)' -/
theorem s_appmk {T T2 E sz by_ : Nat} {ag : Bool} {z : Value} {ty : TypeId} [hT : SlT P T E] (hT2 : P.underlying T2 = some (.int .i64)) [hs : Sz P E sz ag] [hb : By P E by_] [hz : ZV P E z] {n : Nat} (hn : 0 < n) (hzn : z.cells.size = sz) (hsz : 0 < sz) (hby : 0 < by_) (hroom : (2 * n + 192) * by_ ≤ 2 ^ 48)
    (h : ∀ c w', Own E sz w' (.slice (some ⟨w.heap.size, 0, none⟩) n c) n (zeros n z.cells.toList) → c < 2 ^ 63 → Fr none_ w w' → K (.slice (some ⟨w.heap.size, 0, none⟩) n c) w') : opS P (S.bi .append #[T, T2] ty [.slice none 0 0, .int .i64 n]) K w := by
  obtain ⟨inf, hi, hib⟩ := hb.bytes
  show opS P (do pure (Next.value (← Builtin.append_ #[T, T2] ty #[.slice none 0 0, .int .i64 n]))) K w
  rw [opS_bind]
  unfold Builtin.append_
  simp only [List.getElem?_toArray, List.getElem?_cons_zero, List.getElem?_cons_succ]
  rw [Sem.run_bind, run_underlying_of hT.und, Result.andThen_ok]
  simp only []
  rw [Sem.run_bind, hs.size w, Result.andThen_ok, Sem.run_bind, run_underlying_of hT2, Result.andThen_ok]
  have hnn : (2 * n + 192) ≤ 2 ^ 48 := Nat.le_trans (Nat.le_mul_of_pos_right _ hby) hroom
  have hw : IntKind.i64.wrap (n : Int) = n := wrap_i64 (by omega)
  simp only [pure_bind, Bool.not_true, Bool.false_eq_true, if_false, if_true, asInt, asIntOf, hw]
  rw [if_neg (by omega)]
  have hnb : n * by_ ≤ 2 ^ 48 := Nat.le_trans (Nat.mul_le_mul_right by_ (by omega)) hroom
  rw [Sem.run_bind, hi w, Result.andThen_ok, if_neg (by rw [hib]; omega)]
  simp only [Int.toNat_natCast, Nat.zero_add]
  rw [if_neg (by omega)]
  have hg : ¬ (((n : Nat) : Int) > IntKind.i64.max) := by
    have e2 : IntKind.i64.max = 9223372036854775807 := rfl
    rw [e2]; omega
  have hg2 : ¬ (Builtin.nextslicecap n 0 * inf.bytes > 2 ^ 48) := by
    have : Builtin.nextslicecap n 0 = n := by unfold Builtin.nextslicecap; rw [if_pos (by omega)]
    rw [this, hib]; omega
  have har : ∀ x w', (askRoom x).run P w' = .ok () w' := by
    intro x w'; unfold askRoom; split <;> rfl
  rw [Sem.run_bind, hi w, Result.andThen_ok, if_neg (by simp; omega), Sem.run_bind, hi w, Result.andThen_ok, if_neg hg2]
  rw [Sem.run_bind, run_choose rfl, Result.andThen_ok, Sem.run_bind, hi _, Result.andThen_ok, Sem.run_bind, har, Result.andThen_ok]
  have hfc : ∀ w', (Builtin.firstCells sz 0 (.slice none 0 0)).run P w' = .ok #[] w' := fun _ => rfl
  rw [Sem.run_bind, hfc, Result.andThen_ok, if_neg (by have := Nat.mul_pos hn hsz; omega), Sem.run_bind, Sem.run_bind, hz.zero, Result.andThen_ok, Sem.run_pure, Result.andThen_ok, Sem.run_bind, hz.zero, Result.andThen_ok, run_zeroCells_ok, run_zeroCells_ok]
  have hq : ∀ q : Nat, (Question.appendCap n 0 E).cut q = n + q % (2 ^ 63 - n) := fun _ => rfl
  rw [hq]
  have hlt : ∀ q : Nat, q % (2 ^ 63 - n) < 2 ^ 63 - n := fun q => Nat.mod_lt _ (by omega)
  have hx2 := hlt (w.tape w.drawn (Question.appendCap n 0 E))
  generalize w.tape w.drawn (Question.appendCap n 0 E) % (2 ^ 63 - n) = x at *
  have hx : n + x - n = x := by omega
  rw [hx]
  have hnew : ∀ (cs : Array Value) (w' : World), (newRow E cs).run P w' = .ok ⟨w'.heap.size, 0, none⟩ (w'.alloc (.cells cs E)) := fun _ _ => rfl
  rw [Sem.run_bind, hnew, Result.andThen_ok]
  simp only [Sem.run_pure]
  have hcs : (#[] ++ (zeros n z.cells.toList).toArray ++ (zeros x z.cells.toList).toArray).toList = zeros n z.cells.toList ++ zeros x z.cells.toList := by simp
  have hzl : ∀ y, (zeros y z.cells.toList).length = y * sz := fun y => by rw [zeros_length]; simp [hzn]
  refine h _ _ (.inr ⟨w.heap.size, 0, n + x, _, rfl, heap_alloc_new w.drew _, by omega, ?_, ?_⟩) (by omega) ((Fr.drew w).trans (Fr.alloc _ _ rfl))
  · rw [← Array.length_toList, hcs, List.length_append, hzl, hzl, Nat.add_mul]; omega
  · rw [hcs, List.drop_zero, List.take_append_of_le_length (by rw [hzl]; exact Nat.le_refl _), List.take_of_length_le (by rw [hzl]; exact Nat.le_refl _)]

theorem s_bs2o {T E : TypeId} {ag : Bool} {z : Value} [hT : SlT P T E] [hs : Sz P E 1 ag] [hz : ZV P E z] {x y : Value} (hx : S.oneCell x = true) (hy : S.oneCell y = true) (hzn : z.cells.size = 1)
    (h : ∀ v' o, OwnE E 1 (w.alloc o) v' [[x], [y]] → loose o = true → New w v' → K v' (w.alloc o)) : opS P (S.buildS T 2 [(0, x), (1, y)]) K w := by
  have hc : x.cells = #[x] := by cases x <;> first | rfl | cases hx
  have hc' : y.cells = #[y] := by cases y <;> first | rfl | cases hy
  unfold S.buildS
  rw [opS_bind]
  unfold Instr.buildSlice
  rw [Sem.run_bind, run_underlying_of hT.und, Result.andThen_ok]
  simp only []
  rw [Sem.run_bind, hs.size w, Result.andThen_ok]
  simp only [Nat.mul_one]
  rw [if_neg (by omega), if_neg (by omega), Sem.run_bind, hz.zero w, Result.andThen_ok]
  have hr := range_zeros 2 z.cells
  rw [hzn] at hr
  simp only [pure_bind, hzn, Nat.mul_one] at hr ⊢
  rw [hr]
  have hzl : z.cells.toList.length = 1 := by simp [hzn]
  have hz2 : (zeros 2 z.cells.toList).length = 2 := by rw [zeros_length, hzl]
  rw [fill_cons (off := 0) (size := 1) (by simp) (by rw [hc]; rfl) (by simp [hz2]), hc]
  have e1 : (splice (zeros 2 z.cells.toList).toArray.toList 0 #[x].toList).length = 2 := by rw [splice_length] <;> simp [hz2]
  rw [fill_cons (off := 1) (size := 1) (by simp) (by rw [hc']; rfl) (by rw [List.size_toArray, e1]; exact Nat.le_refl _), hc']
  have e : splice (splice (zeros 2 z.cells.toList).toArray.toList 0 #[x].toList).toArray.toList 1 #[y].toList = [x, y] := by
    match hzs : zeros 2 z.cells.toList, hz2 with
    | [a, b], _ => rfl
  rw [e]
  simp only [Instr.fill]
  refine h _ _ ⟨.inr ⟨w.heap.size, 0, 2, #[x, y], rfl, heap_alloc_new _ _, by simp, by simp, by simp⟩, by simp⟩ rfl fun b hb => ?_
  cases hb; exact Nat.le_refl _

theorem s_bs2c {T E : TypeId} {ag : Bool} {z : Value} [hT : SlT P T E] [hs : Sz P E 1 ag] [hz : ZV P E z] {x y : Value} (hx : S.oneCell x = true) (hy : S.oneCell y = true) (hzn : z.cells.size = 1)
    (h : ∀ v' w', OwnE E 1 w' v' [[x], [y]] → Fr none_ w w' → New w v' → K v' w') : opS P (S.buildS T 2 [(0, x), (1, y)]) K w :=
  s_bs2o hx hy hzn fun v' o h1 h2 h3 => h v' _ h1 (Fr.alloc _ _ h2) h3

theorem RdE.cap {sz : Nat} {v : Value} {es : List (List Value)} (h : RdE sz w v es) : ∃ a c, v = .slice a es.length c ∧ es.length ≤ c := by
  rcases h.1 with ⟨⟨a, c, rfl⟩, h2, _⟩ | ⟨b, o, c, cs, T, fz, rfl, _, hc, _⟩
  · exact ⟨a, c, by rw [h2], by omega⟩
  · exact ⟨_, c, rfl, hc⟩

/-- 'v[:k]' -/
theorem s_slcH {T E sz : Nat} {ag : Bool} [hT : SlT P T E] [hs : Sz P E sz ag] {v : Value} {es : List (List Value)} (h : RdE sz w v es) {k : Nat} (hk : k ≤ es.length) (hK : ∀ v', RdE sz w v' (es.take k) → K v' w) : opS P (S.slc T v none (some (.int .i64 k)) none) K w := by
  obtain ⟨a, c, rfl, hc⟩ := h.cap
  rw [opS_slice (run_boundsH (hi := (k : Int)) (by omega) (by omega))]
  have := h.part (l := 0) (m := k) (by omega) hk
  rw [List.drop_zero] at this
  exact hK _ this

/-- 'v[k:]' -/
theorem s_slcL {T E sz : Nat} {ag : Bool} [hT : SlT P T E] [hs : Sz P E sz ag] {v : Value} {es : List (List Value)} (h : RdE sz w v es) {k : Nat} (hk : k ≤ es.length) (hK : ∀ v', RdE sz w v' (es.drop k) → K v' w) : opS P (S.slc T v (some (.int .i64 k)) none none) K w := by
  obtain ⟨a, c, rfl, hc⟩ := h.cap
  rw [opS_slice (run_boundsL (lo := (k : Int)) (by omega) (by omega))]
  have := h.part (l := k) (m := es.length) hk (Nat.le_refl _)
  rw [List.take_length] at this
  exact hK _ this

/-! ### What one holds, by cells -/

/-- a part of what one holds is written -/
theorem Own.copy {E b o c n m : Nat} {l js k : List Value} (h : Own E 1 w (.slice (some ⟨b, o, none⟩) (n + m) c) (n + m) (l ++ js)) (hl : l.length = n) (hk : k.length = m) :
    Own E 1 (wr w b (o + n) k) (.slice (some ⟨b, o, none⟩) (n + m) c) (n + m) (l ++ k) := by
  rcases h with ⟨h, _⟩ | ⟨b', o', c', cs, hv, hb, hc, ho, he⟩
  · cases h
  · simp only [Value.slice.injEq, Option.some.injEq, Addr.mk.injEq, and_true, true_and] at hv
    obtain ⟨⟨rfl, rfl⟩, rfl⟩ := hv
    have hsz : cs.toList.length = cs.size := Array.length_toList
    refine .inr ⟨b, o, c, (splice cs.toList (o + n) k).toArray, rfl, ?_, hc, ?_, ?_⟩
    · rw [heap_wr, if_pos rfl, hb]; rfl
    · rw [List.size_toArray, splice_length (by omega)]; simpa using ho
    · have := splice_window (l := cs.toList) (k := k) (o := o) (a := n) (by omega)
      show l ++ k = List.take _ (List.drop o (splice cs.toList (o + n) k))
      rw [Nat.mul_one, ← hk, this]
      congr 1
      have := congrArg (List.take n) he
      rw [← hl, List.take_left, List.take_take] at this
      rw [hl, Nat.mul_one, Nat.min_eq_left (by omega)] at this
      exact this

theorem Own.splice {E b o c n a : Nat} {l k : List Value} (h : Own E 1 w (.slice (some ⟨b, o, none⟩) n c) n l) (ha : a + k.length ≤ n) :
    Own E 1 (wr w b (o + a) k) (.slice (some ⟨b, o, none⟩) n c) n (Gx.splice l a k) := by
  rcases h with ⟨h, _⟩ | ⟨b', o', c', cs, hv, hb, hc, ho, rfl⟩
  · cases h
  · simp only [Value.slice.injEq, Option.some.injEq, Addr.mk.injEq, and_true, true_and] at hv
    obtain ⟨⟨rfl, rfl⟩, rfl⟩ := hv
    have hsz : cs.toList.length = cs.size := Array.length_toList
    refine .inr ⟨b, o, c, (Gx.splice cs.toList (o + a) k).toArray, rfl, ?_, hc, ?_, ?_⟩
    · rw [heap_wr, if_pos rfl, hb]; rfl
    · rw [List.size_toArray, splice_length (by omega)]; simpa using ho
    · rw [Nat.mul_one, splice_sub (by omega) ha]

/-- more of what one holds, as far as there is room -/
theorem Own.more {E b o c n : Nat} {l : List Value} (h : Own E 1 w (.slice (some ⟨b, o, none⟩) n c) n l) {m : Nat} (hm : n + m ≤ c) :
    ∃ js : List Value, js.length = m ∧ Own E 1 w (.slice (some ⟨b, o, none⟩) (n + m) c) (n + m) (l ++ js) := by
  have hl := h.rd.len
  rcases h with ⟨h, _⟩ | ⟨b', o', c', cs, hv, hb, hc, ho, rfl⟩
  · cases h
  · simp only [Value.slice.injEq, Option.some.injEq, Addr.mk.injEq, and_true, true_and] at hv
    obtain ⟨⟨rfl, rfl⟩, rfl⟩ := hv
    have hsz : cs.toList.length = cs.size := Array.length_toList
    refine ⟨(cs.toList.drop (o + n)).take m, by rw [List.length_take, List.length_drop]; omega, .inr ⟨b, o, c, cs, rfl, hb, hm, ho, ?_⟩⟩
    rw [Nat.mul_one, Nat.mul_one, List.take_add, List.drop_drop]

theorem Own.less {E b o c n m : Nat} {l : List Value} (h : Own E 1 w (.slice (some ⟨b, o, none⟩) n c) n l) (hm : m ≤ n) : Own E 1 w (.slice (some ⟨b, o, none⟩) m c) m (l.take m) := by
  rcases h with ⟨h, _⟩ | ⟨b', o', c', cs, hv, hb, hc, ho, rfl⟩
  · cases h
  · simp only [Value.slice.injEq, Option.some.injEq, Addr.mk.injEq, and_true, true_and] at hv
    obtain ⟨⟨rfl, rfl⟩, rfl⟩ := hv
    refine .inr ⟨b, o, c, cs, rfl, hb, by omega, ho, ?_⟩
    rw [List.take_take, Nat.mul_one, Nat.mul_one, Nat.min_eq_left hm]

theorem Own.cells {E b o c n : Nat} {l : List Value} (h : Own E 1 w (.slice (some ⟨b, o, none⟩) n c) n l) : ∃ cs : Array Value, w.heap[b]? = some (.cells cs E (0, 0)) ∧ n ≤ c ∧ o + c ≤ cs.size := by
  rcases h with ⟨h, _⟩ | ⟨b', o', c', cs, hv, hb, hc, ho, _⟩
  · cases h
  · simp only [Value.slice.injEq, Option.some.injEq, Addr.mk.injEq, and_true, true_and] at hv
    obtain ⟨⟨rfl, rfl⟩, rfl⟩ := hv
    exact ⟨cs, hb, hc, by omega⟩

end Go.Gx
end

section
/- Numbers and addresses that are compared. -/
set_option linter.unusedVariables false
set_option linter.unusedSimpArgs false
set_option maxRecDepth 100000
namespace Go.Gx.S
open Go Go.Gx Go.Proofs
variable {K : Value → World → Prop} {w : World}

theorem isnan_spec {a : Int} (h : K (.bool false) w) : CallsR Try.prog 55 #[i64 a] K w := by
  apply c55
  unfold p55
  simp only [push_cast, Nat.reduceAdd, Nat.reduceLeDiff, Nat.reduceLT, Int.reduceToNat, Nat.left_eq_add, Nat.add_eq_left, Nat.add_left_cancel_iff, Nat.reduceEqDiff, Nat.add_assoc, Nat.succ_ne_zero]
  have : (a != a) = false := by simp
  rw [this]; exact h

theorem ccmp_spec {a b : Int} (h : K (i64 (cmpI a b)) w) : CallsR Try.prog 52 #[i64 a, i64 b] K w := by
  apply c52
  unfold p52
  simp only [push_cast, Nat.reduceAdd, Nat.reduceLeDiff, Nat.reduceLT, Int.reduceToNat, Nat.left_eq_add, Nat.add_eq_left, Nat.add_left_cancel_iff, Nat.reduceEqDiff, Nat.add_assoc, Nat.succ_ne_zero]
  refine isnan_spec ?_
  refine isnan_spec ?_
  simp only [push_cast, Nat.reduceAdd, Nat.reduceLeDiff, Nat.reduceLT, Int.reduceToNat, Nat.left_eq_add, Nat.add_eq_left, Nat.add_left_cancel_iff, Nat.reduceEqDiff, Nat.add_assoc, Nat.succ_ne_zero]
  unfold cmpI at h
  refine br_dec (fun h1 => ?_) fun h1 => ?_
  · rw [if_pos h1] at h; exact h
  · rw [if_neg h1] at h
    refine br_dec (fun h2 => ?_) fun h2 => ?_
    · rw [if_pos h2] at h; exact h
    · rw [if_neg (by omega)] at h; exact h

/-- the first that is not zero -/
def orL : List Int → Int
  | [] => 0
  | x :: l => if x ≠ 0 then x else orL l

theorem orL_cons (x : Int) (l : List Int) : orL (x :: l) = if x ≠ 0 then x else orL l := id rfl

theorem cor_spec {v : Value} {l : List Int} (hv : RdE 1 w v (l.map cellI)) (hl : l.length < 2 ^ 62) (h : K (i64 (orL l)) w) : CallsR Try.prog 50 #[v] K w := by
  apply c50
  unfold p50
  obtain ⟨a, c, rfl⟩ := hv.form
  rw [List.length_map] at hv ⊢
  simp only [push_cast, Nat.reduceAdd, Nat.reduceLeDiff, Nat.reduceLT, Int.reduceToNat, Nat.left_eq_add, Nat.add_eq_left, Nat.add_left_cancel_iff, Nat.reduceEqDiff, Nat.add_assoc, Nat.succ_ne_zero]
  refine jn0 (fun w' => w' = w ∧ orL l = 0) (fun w' ⟨e, e2⟩ => by rw [e]; rw [e2] at h; exact h) fun j hj => ?_
  refine loop1 (fun n v' w' => ∃ i : Nat, v' = i64 i ∧ n + i = l.length ∧ w' = w ∧ orL l = orL (l.drop i)) ?_ l.length ⟨0, rfl, rfl, rfl, rfl⟩
  rintro n v' w' X ⟨i, rfl, hi, rfl, ho⟩ hX
  simp only [push_cast, Nat.reduceAdd, Nat.reduceLeDiff, Nat.reduceLT, Int.reduceToNat, Nat.left_eq_add, Nat.add_eq_left, Nat.add_left_cancel_iff, Nat.reduceEqDiff, Nat.add_assoc, Nat.succ_ne_zero]
  refine br_dec (fun hlt => ?_) fun hge => ?_
  · have hil : i < l.length := by omega
    refine s_iaE hv (by omega) (by simpa using hil) fun b o c _ he => ?_
    simp only [push_cast, Nat.reduceAdd, Nat.reduceLeDiff, Nat.reduceLT, Int.reduceToNat, Nat.left_eq_add, Nat.add_eq_left, Nat.add_left_cancel_iff, Nat.reduceEqDiff, Nat.add_assoc, Nat.succ_ne_zero]
    rw [he.cell0 (by simp [cellI])]
    simp only [push_cast, Nat.reduceAdd, Nat.reduceLeDiff, Nat.reduceLT, Int.reduceToNat, Nat.left_eq_add, Nat.add_eq_left, Nat.add_left_cancel_iff, Nat.reduceEqDiff, Nat.add_assoc, Nat.succ_ne_zero, List.getElem_map, cellI, Int.toNat_natCast]
    rw [List.drop_eq_getElem_cons hil, orL_cons] at ho
    refine br_intro (fun e => ?_) fun e => ?_
    · rw [if_pos (by simpa using e)] at ho
      rw [ho] at h; exact h
    · rw [if_neg (by simpa using e)] at ho
      rw [wrap_i64 (by omega)]
      exact hX (n - 1) _ _ (by omega) ⟨i + 1, by simp, by omega, rfl, ho⟩
  · rw [List.drop_eq_nil_of_le (by omega)] at ho
    exact hj _ ⟨rfl, ho⟩

theorem bcmp_spec {a b : Value} {x y : List Int} (ha : ByR w a x) (hb : ByR w b y) (h : K (.int .i64 (Extern.BytealgCompare.cmp (strOf x) (strOf y))) w) : CallsR Try.prog 56 #[a, b] K w := by
  apply c56
  unfold p56
  exact s_bytecmp Try.func57 (by kernel_rfl) (by kernel_rfl) (by kernel_rfl) (by kernel_rfl) ha hb h

theorem by_mac {m : Mac} {b : Nat} {T : TypeId} (hb : w.heap[b]? = some (cellsO m.cells T)) (h : m.ok) : ByR w (.slice (some ⟨b, 0, none⟩) 6 6) (macL m) :=
  ⟨⟨.inr ⟨b, 0, 6, _, T, (0, 0), rfl, hb, Nat.le_refl _, by show 0 + 6 * 1 ≤ 6; decide, rfl⟩, by simp [macL, cell1]⟩, macL_ok h⟩

theorem mcmp_spec {a b : Mac} (ha : a.ok) (hb : b.ok) (h : ∀ w', Gr w w' → K (i64 (cmpM a b)) w') : CallsR Try.prog 54 #[.agg a.cells.toArray, .agg b.cells.toArray] K w := by
  apply c54
  unfold p54
  have hG : Gr w ((w.alloc (cellsO a.cells 29)).alloc (cellsO b.cells 29)).drew := ((Gr.refl _).step_alloc _ |>.step_alloc _).step_drew
  have h0 : ((w.alloc (cellsO a.cells 29)).alloc (cellsO b.cells 29)).drew.heap[w.heap.size]? = some (cellsO a.cells 29) := by simp only [push_cast, Nat.reduceAdd, Nat.reduceLeDiff, Nat.reduceLT, Int.reduceToNat, Nat.left_eq_add, Nat.add_eq_left, Nat.add_left_cancel_iff, Nat.reduceEqDiff, Nat.add_assoc, Nat.succ_ne_zero]
  have h1 : ((w.alloc (cellsO a.cells 29)).alloc (cellsO b.cells 29)).drew.heap[w.heap.size + 1]? = some (cellsO b.cells 29) := by simp only [push_cast, Nat.reduceAdd, Nat.reduceLeDiff, Nat.reduceLT, Int.reduceToNat, Nat.left_eq_add, Nat.add_eq_left, Nat.add_left_cancel_iff, Nat.reduceEqDiff, Nat.add_assoc, Nat.succ_ne_zero]
  simp only [push_cast, Nat.reduceAdd, Nat.reduceLeDiff, Nat.reduceLT, Int.reduceToNat, Nat.left_eq_add, Nat.add_eq_left, Nat.add_left_cancel_iff, Nat.reduceEqDiff, Nat.add_assoc, Nat.succ_ne_zero]
  generalize ((w.alloc (cellsO a.cells 29)).alloc (cellsO b.cells 29)).drew = W at *
  simp only [opS_slcA, push_cast, Nat.reduceAdd, Nat.reduceLeDiff, Nat.reduceLT, Int.reduceToNat, Nat.left_eq_add, Nat.add_eq_left, Nat.add_left_cancel_iff, Nat.reduceEqDiff, Nat.add_assoc, Nat.succ_ne_zero]
  refine bcmp_spec (by_mac h0 ha) (by_mac h1 hb) ?_
  rw [cmp_mac ha hb]
  exact h W hG

theorem orL_two (a b : Int) : orL [a, b] = if a ≠ 0 then a else b := by
  rw [orL_cons, orL_cons]
  split
  · rfl
  · split
    · rfl
    · rename_i h; unfold orL; omega

/-! ### The document's -/

def numL (l : List Int) : Int := l.foldl (fun n x => n * 256 + x) 0
theorem numL_snoc (l : List Int) (x : Int) : numL (l ++ [x]) = numL l * 256 + x := by unfold numL; rw [List.foldl_append]; rfl
theorem numL_mac (m : Mac) : numL (macL m) = macN m := by
  unfold numL macL macN
  simp
theorem numL_range {m : Mac} (h : m.ok) {k : Nat} (hk : k ≤ 6) : 0 ≤ numL ((macL m).take k) ∧ numL ((macL m).take k) < 281474976710656 := by
  obtain ⟨a0, a1, a2, a3, a4, a5⟩ := h
  unfold isB at *
  match k, hk with
  | 0, _ | 1, _ | 2, _ | 3, _ | 4, _ | 5, _ | 6, _ => simp [numL, macL]; try omega
theorem macL_get (m : Mac) {k : Nat} (hk : k < 6) : m.cells[k]? = some (u8 ((macL m).getD k 0)) := by
  match k, hk with
  | 0, _ | 1, _ | 2, _ | 3, _ | 4, _ | 5, _ => rfl
theorem macL_take {m : Mac} {k : Nat} (hk : k < 6) : (macL m).take (k + 1) = (macL m).take k ++ [(macL m).getD k 0] := by
  match k, hk with
  | 0, _ | 1, _ | 2, _ | 3, _ | 4, _ | 5, _ => rfl
theorem macL_at {m : Mac} (h : m.ok) {k : Nat} (hk : k < 6) : isB ((macL m).getD k 0) := by
  obtain ⟨a0, a1, a2, a3, a4, a5⟩ := h
  match k, hk with
  | 0, _ | 1, _ | 2, _ | 3, _ | 4, _ | 5, _ => assumption
theorem wrap_u64 {x : Int} (h0 : 0 ≤ x) (h1 : x < 18446744073709551616) : IntKind.u64.wrap x = x := by
  unfold IntKind.wrap
  have e1 : (2 : Int) ^ IntKind.u64.bits = 18446744073709551616 := rfl
  have e3 : IntKind.u64.signed = false := rfl
  simp only [e1, e3, Bool.false_and, Bool.false_eq_true, if_false]
  omega

theorem rnum_spec {m : Mac} (hm : m.ok) (h : ∀ w', Fr none_ w w' → K (.int .u64 (macN m)) w') : CallsR Try.prog 48 #[.agg m.cells.toArray] K w := by
  apply c48
  unfold p48
  simp only [push_cast, Nat.reduceAdd, Nat.reduceLeDiff, Nat.reduceLT, Int.reduceToNat, Nat.left_eq_add, Nat.add_eq_left, Nat.add_left_cancel_iff, Nat.reduceEqDiff, Nat.add_assoc, Nat.succ_ne_zero]
  have h0 : (w.alloc (cellsO m.cells 29)).heap[w.heap.size]? = some (cellsO m.cells 29) := by simp only [push_cast, Nat.reduceAdd, Nat.reduceLeDiff, Nat.reduceLT, Int.reduceToNat, Nat.left_eq_add, Nat.add_eq_left, Nat.add_left_cancel_iff, Nat.reduceEqDiff, Nat.add_assoc, Nat.succ_ne_zero]
  have hF : Fr none_ w (w.alloc (cellsO m.cells 29)) := (by repeat' first | with_reducible exact Fr.refl _ _ | with_reducible refine Fr.step_alloc ?_ ?_ | with_reducible refine Fr.step_drew ?_ | with_reducible refine Fr.step_wr ?_ ?_ _ _ | exact rfl | exact Or.inr (by omega) | exact Or.inl rfl | exact Or.inl (Or.inl rfl) | exact Or.inl (Or.inr rfl))
  generalize w.alloc (cellsO m.cells 29) = W at *
  refine jn1 (fun v w' => v = .int .u64 (macN m) ∧ w' = W) (fun v w' ⟨e1, e2⟩ => by rw [e1, e2]; exact h _ hF) fun j hj => ?_
  refine loop2 (fun n x y w' => ∃ k : Nat, k ≤ 6 ∧ n = 6 - k ∧ y = i64 k ∧ x = .int .u64 (numL ((macL m).take k)) ∧ w' = W) ?_ 6 ⟨0, by omega, rfl, rfl, rfl, rfl⟩
  rintro n x y w' X ⟨k, hk, rfl, rfl, rfl, rfl⟩ hX
  simp only [push_cast, Nat.reduceAdd, Nat.reduceLeDiff, Nat.reduceLT, Int.reduceToNat, Nat.left_eq_add, Nat.add_eq_left, Nat.add_left_cancel_iff, Nat.reduceEqDiff, Nat.add_assoc, Nat.succ_ne_zero]
  refine br_dec (fun hlt => ?_) fun hge => ?_
  · have hk6 : k < 6 := by omega
    have hr := numL_range hm hk
    have hr2 := numL_range hm (show k + 1 ≤ 6 by omega)
    have hb := macL_at hm hk6
    rw [wrap_u64 (by omega) (by omega), opS_iaA w.heap.size 0 .i64 (k : Int) (by omega)]
    simp only [push_cast, Nat.reduceAdd, Nat.reduceLeDiff, Nat.reduceLT, Int.reduceToNat, Nat.left_eq_add, Nat.add_eq_left, Nat.add_left_cancel_iff, Nat.reduceEqDiff, Nat.add_assoc, Nat.succ_ne_zero, h0, Int.toNat_natCast, Nat.mul_one]
    rw [macL_get m hk6]
    simp only [push_cast, Nat.reduceAdd, Nat.reduceLeDiff, Nat.reduceLT, Int.reduceToNat, Nat.left_eq_add, Nat.add_eq_left, Nat.add_left_cancel_iff, Nat.reduceEqDiff, Nat.add_assoc, Nat.succ_ne_zero]
    rw [macL_take hk6, numL_snoc] at hr2
    unfold isB at hb
    rw [wrap_u64 (x := (macL m).getD k 0) (by omega) (by omega), wrap_u64 (by omega) (by omega), wrap_i64 (by omega)]
    refine hX (6 - (k + 1)) _ _ _ (by omega) ⟨k + 1, by omega, rfl, by simp, ?_, rfl⟩
    rw [macL_take hk6, numL_snoc]
  · have : k = 6 := by omega
    subst this
    exact hj _ _ ⟨by rw [← numL_mac]; rfl, rfl⟩

theorem rcmp_spec {a b : Mac} (ha : a.ok) (hb : b.ok) (h : ∀ w', Fr none_ w w' → K (i64 (cmpM a b)) w') : CallsR Try.prog 36 #[.agg a.cells.toArray, .agg b.cells.toArray] K w := by
  apply c36
  unfold p36
  have hF : Fr none_ w ((w.alloc (cellsO a.cells 29)).alloc (cellsO b.cells 29)) := (by repeat' first | with_reducible exact Fr.refl _ _ | with_reducible refine Fr.step_alloc ?_ ?_ | with_reducible refine Fr.step_drew ?_ | with_reducible refine Fr.step_wr ?_ ?_ _ _ | exact rfl | exact Or.inr (by omega) | exact Or.inl rfl | exact Or.inl (Or.inl rfl) | exact Or.inl (Or.inr rfl))
  have h1 : ((w.alloc (cellsO a.cells 29)).alloc (cellsO b.cells 29)).heap[w.heap.size + 1]? = some (cellsO b.cells 29) := by simp only [push_cast, Nat.reduceAdd, Nat.reduceLeDiff, Nat.reduceLT, Int.reduceToNat, Nat.left_eq_add, Nat.add_eq_left, Nat.add_left_cancel_iff, Nat.reduceEqDiff, Nat.add_assoc, Nat.succ_ne_zero]
  simp only [push_cast, Nat.reduceAdd, Nat.reduceLeDiff, Nat.reduceLT, Int.reduceToNat, Nat.left_eq_add, Nat.add_eq_left, Nat.add_left_cancel_iff, Nat.reduceEqDiff, Nat.add_assoc, Nat.succ_ne_zero]
  generalize ((w.alloc (cellsO a.cells 29)).alloc (cellsO b.cells 29)) = W at *
  refine rnum_spec ha fun w2 hF2 => ?_
  have h2 := hF2.heap h1 fun h => h
  simp only [push_cast, Nat.reduceAdd, Nat.reduceLeDiff, Nat.reduceLT, Int.reduceToNat, Nat.left_eq_add, Nat.add_eq_left, Nat.add_left_cancel_iff, Nat.reduceEqDiff, Nat.add_assoc, Nat.succ_ne_zero, h2]
  refine rnum_spec hb fun w3 hF3 => ?_
  have hF' := (hF.trans hF2).trans hF3
  have h' := h _ hF'
  unfold cmpM cmpI at h'
  simp only [push_cast, Nat.reduceAdd, Nat.reduceLeDiff, Nat.reduceLT, Int.reduceToNat, Nat.left_eq_add, Nat.add_eq_left, Nat.add_left_cancel_iff, Nat.reduceEqDiff, Nat.add_assoc, Nat.succ_ne_zero]
  refine br_dec (fun h1 => ?_) fun h1 => ?_
  · rw [if_pos h1] at h'; exact h'
  · rw [if_neg h1] at h'
    refine br_dec (fun h2 => ?_) fun h2 => ?_
    · rw [if_pos h2] at h'; exact h'
    · rw [if_neg (by omega)] at h'; exact h'

end Go.Gx.S
end

section
/- Bridges of a tree: what they are, and their cells. -/
namespace Go.Gx
open Go

@[ext] structure Idn where
  prio : Int
  mac : Mac
  deriving DecidableEq, Inhabited

def Idn.cells (x : Idn) : List Value := [i64 x.prio, u8 x.mac.b0, u8 x.mac.b1, u8 x.mac.b2, u8 x.mac.b3, u8 x.mac.b4, u8 x.mac.b5]
theorem Idn.len (x : Idn) : x.cells.length = 7 := id rfl
theorem Idn.one (x : Idn) : x.cells.all S.oneCell = true := id rfl
theorem Idn.dw (x : Idn) : (x.cells.drop 0).take 7 = x.cells := id rfl
theorem Idn.sw (x y : Idn) : splice x.cells 0 y.cells = y.cells := id rfl
theorem Idn.g_prio (x : Idn) : x.cells[0]? = some (i64 x.prio) := id rfl
theorem Idn.s_prio (x : Idn) (v : Int) : splice x.cells 0 [i64 v] = ({ x with prio := v } : Idn).cells := id rfl
theorem Idn.d_mac (x : Idn) : (x.cells.drop 1).take 6 = x.mac.cells := id rfl
theorem Idn.s_mac (x : Idn) (v : Mac) : splice x.cells 1 v.cells = ({ x with mac := v } : Idn).cells := id rfl

@[ext] structure Vec where
  root : Idn
  cost : Int
  br : Idn
  port : Int
  own : Int
  deriving DecidableEq, Inhabited

def Vec.cells (x : Vec) : List Value := [i64 x.root.prio, u8 x.root.mac.b0, u8 x.root.mac.b1, u8 x.root.mac.b2, u8 x.root.mac.b3, u8 x.root.mac.b4, u8 x.root.mac.b5, i64 x.cost, i64 x.br.prio, u8 x.br.mac.b0, u8 x.br.mac.b1, u8 x.br.mac.b2, u8 x.br.mac.b3, u8 x.br.mac.b4, u8 x.br.mac.b5, i64 x.port, i64 x.own]
theorem Vec.len (x : Vec) : x.cells.length = 17 := id rfl
theorem Vec.one (x : Vec) : x.cells.all S.oneCell = true := id rfl
theorem Vec.dw (x : Vec) : (x.cells.drop 0).take 17 = x.cells := id rfl
theorem Vec.sw (x y : Vec) : splice x.cells 0 y.cells = y.cells := id rfl
theorem Vec.d_root (x : Vec) : (x.cells.drop 0).take 7 = x.root.cells := id rfl
theorem Vec.s_root (x : Vec) (v : Idn) : splice x.cells 0 v.cells = ({ x with root := v } : Vec).cells := id rfl
theorem Vec.g_root_prio (x : Vec) : x.cells[0]? = some (i64 x.root.prio) := id rfl
theorem Vec.s_root_prio (x : Vec) (v : Int) : splice x.cells 0 [i64 v] = ({ x with root := { x.root with prio := v } } : Vec).cells := id rfl
theorem Vec.d_root_mac (x : Vec) : (x.cells.drop 1).take 6 = x.root.mac.cells := id rfl
theorem Vec.s_root_mac (x : Vec) (v : Mac) : splice x.cells 1 v.cells = ({ x with root := { x.root with mac := v } } : Vec).cells := id rfl
theorem Vec.g_cost (x : Vec) : x.cells[7]? = some (i64 x.cost) := id rfl
theorem Vec.s_cost (x : Vec) (v : Int) : splice x.cells 7 [i64 v] = ({ x with cost := v } : Vec).cells := id rfl
theorem Vec.d_br (x : Vec) : (x.cells.drop 8).take 7 = x.br.cells := id rfl
theorem Vec.s_br (x : Vec) (v : Idn) : splice x.cells 8 v.cells = ({ x with br := v } : Vec).cells := id rfl
theorem Vec.g_br_prio (x : Vec) : x.cells[8]? = some (i64 x.br.prio) := id rfl
theorem Vec.s_br_prio (x : Vec) (v : Int) : splice x.cells 8 [i64 v] = ({ x with br := { x.br with prio := v } } : Vec).cells := id rfl
theorem Vec.d_br_mac (x : Vec) : (x.cells.drop 9).take 6 = x.br.mac.cells := id rfl
theorem Vec.s_br_mac (x : Vec) (v : Mac) : splice x.cells 9 v.cells = ({ x with br := { x.br with mac := v } } : Vec).cells := id rfl
theorem Vec.g_port (x : Vec) : x.cells[15]? = some (i64 x.port) := id rfl
theorem Vec.s_port (x : Vec) (v : Int) : splice x.cells 15 [i64 v] = ({ x with port := v } : Vec).cells := id rfl
theorem Vec.g_own (x : Vec) : x.cells[16]? = some (i64 x.own) := id rfl
theorem Vec.s_own (x : Vec) (v : Int) : splice x.cells 16 [i64 v] = ({ x with own := v } : Vec).cells := id rfl

@[ext] structure Hrd where
  port : Int
  cost : Int
  up : Bool
  has : Bool
  v : Vec
  deriving DecidableEq, Inhabited

def Hrd.cells (x : Hrd) : List Value := [i64 x.port, i64 x.cost, .bool x.up, .bool x.has, i64 x.v.root.prio, u8 x.v.root.mac.b0, u8 x.v.root.mac.b1, u8 x.v.root.mac.b2, u8 x.v.root.mac.b3, u8 x.v.root.mac.b4, u8 x.v.root.mac.b5, i64 x.v.cost, i64 x.v.br.prio, u8 x.v.br.mac.b0, u8 x.v.br.mac.b1, u8 x.v.br.mac.b2, u8 x.v.br.mac.b3, u8 x.v.br.mac.b4, u8 x.v.br.mac.b5, i64 x.v.port, i64 x.v.own]
theorem Hrd.len (x : Hrd) : x.cells.length = 21 := id rfl
theorem Hrd.one (x : Hrd) : x.cells.all S.oneCell = true := id rfl
theorem Hrd.dw (x : Hrd) : (x.cells.drop 0).take 21 = x.cells := id rfl
theorem Hrd.sw (x y : Hrd) : splice x.cells 0 y.cells = y.cells := id rfl
theorem Hrd.g_port (x : Hrd) : x.cells[0]? = some (i64 x.port) := id rfl
theorem Hrd.s_port (x : Hrd) (v : Int) : splice x.cells 0 [i64 v] = ({ x with port := v } : Hrd).cells := id rfl
theorem Hrd.g_cost (x : Hrd) : x.cells[1]? = some (i64 x.cost) := id rfl
theorem Hrd.s_cost (x : Hrd) (v : Int) : splice x.cells 1 [i64 v] = ({ x with cost := v } : Hrd).cells := id rfl
theorem Hrd.g_up (x : Hrd) : x.cells[2]? = some (.bool x.up) := id rfl
theorem Hrd.s_up (x : Hrd) (v : Bool) : splice x.cells 2 [.bool v] = ({ x with up := v } : Hrd).cells := id rfl
theorem Hrd.g_has (x : Hrd) : x.cells[3]? = some (.bool x.has) := id rfl
theorem Hrd.s_has (x : Hrd) (v : Bool) : splice x.cells 3 [.bool v] = ({ x with has := v } : Hrd).cells := id rfl
theorem Hrd.d_v (x : Hrd) : (x.cells.drop 4).take 17 = x.v.cells := id rfl
theorem Hrd.s_v (x : Hrd) (v : Vec) : splice x.cells 4 v.cells = ({ x with v := v } : Hrd).cells := id rfl
theorem Hrd.d_v_root (x : Hrd) : (x.cells.drop 4).take 7 = x.v.root.cells := id rfl
theorem Hrd.s_v_root (x : Hrd) (v : Idn) : splice x.cells 4 v.cells = ({ x with v := { x.v with root := v } } : Hrd).cells := id rfl
theorem Hrd.g_v_root_prio (x : Hrd) : x.cells[4]? = some (i64 x.v.root.prio) := id rfl
theorem Hrd.s_v_root_prio (x : Hrd) (v : Int) : splice x.cells 4 [i64 v] = ({ x with v := { x.v with root := { x.v.root with prio := v } } } : Hrd).cells := id rfl
theorem Hrd.d_v_root_mac (x : Hrd) : (x.cells.drop 5).take 6 = x.v.root.mac.cells := id rfl
theorem Hrd.s_v_root_mac (x : Hrd) (v : Mac) : splice x.cells 5 v.cells = ({ x with v := { x.v with root := { x.v.root with mac := v } } } : Hrd).cells := id rfl
theorem Hrd.g_v_cost (x : Hrd) : x.cells[11]? = some (i64 x.v.cost) := id rfl
theorem Hrd.s_v_cost (x : Hrd) (v : Int) : splice x.cells 11 [i64 v] = ({ x with v := { x.v with cost := v } } : Hrd).cells := id rfl
theorem Hrd.d_v_br (x : Hrd) : (x.cells.drop 12).take 7 = x.v.br.cells := id rfl
theorem Hrd.s_v_br (x : Hrd) (v : Idn) : splice x.cells 12 v.cells = ({ x with v := { x.v with br := v } } : Hrd).cells := id rfl
theorem Hrd.g_v_br_prio (x : Hrd) : x.cells[12]? = some (i64 x.v.br.prio) := id rfl
theorem Hrd.s_v_br_prio (x : Hrd) (v : Int) : splice x.cells 12 [i64 v] = ({ x with v := { x.v with br := { x.v.br with prio := v } } } : Hrd).cells := id rfl
theorem Hrd.d_v_br_mac (x : Hrd) : (x.cells.drop 13).take 6 = x.v.br.mac.cells := id rfl
theorem Hrd.s_v_br_mac (x : Hrd) (v : Mac) : splice x.cells 13 v.cells = ({ x with v := { x.v with br := { x.v.br with mac := v } } } : Hrd).cells := id rfl
theorem Hrd.g_v_port (x : Hrd) : x.cells[19]? = some (i64 x.v.port) := id rfl
theorem Hrd.s_v_port (x : Hrd) (v : Int) : splice x.cells 19 [i64 v] = ({ x with v := { x.v with port := v } } : Hrd).cells := id rfl
theorem Hrd.g_v_own (x : Hrd) : x.cells[20]? = some (i64 x.v.own) := id rfl
theorem Hrd.s_v_own (x : Hrd) (v : Int) : splice x.cells 20 [i64 v] = ({ x with v := { x.v with own := v } } : Hrd).cells := id rfl

@[ext] structure Prt where
  h : Hrd
  age : Int
  until_ : Int
  edge : Bool
  role : Int
  state : Int
  on : Int
  agreed : Bool
  reply : Bool
  deriving DecidableEq, Inhabited

def Prt.cells (x : Prt) : List Value := [i64 x.h.port, i64 x.h.cost, .bool x.h.up, .bool x.h.has, i64 x.h.v.root.prio, u8 x.h.v.root.mac.b0, u8 x.h.v.root.mac.b1, u8 x.h.v.root.mac.b2, u8 x.h.v.root.mac.b3, u8 x.h.v.root.mac.b4, u8 x.h.v.root.mac.b5, i64 x.h.v.cost, i64 x.h.v.br.prio, u8 x.h.v.br.mac.b0, u8 x.h.v.br.mac.b1, u8 x.h.v.br.mac.b2, u8 x.h.v.br.mac.b3, u8 x.h.v.br.mac.b4, u8 x.h.v.br.mac.b5, i64 x.h.v.port, i64 x.h.v.own, i64 x.age, i64 x.until_, .bool x.edge, i64 x.role, i64 x.state, i64 x.on, .bool x.agreed, .bool x.reply]
theorem Prt.len (x : Prt) : x.cells.length = 29 := id rfl
theorem Prt.one (x : Prt) : x.cells.all S.oneCell = true := id rfl
theorem Prt.dw (x : Prt) : (x.cells.drop 0).take 29 = x.cells := id rfl
theorem Prt.sw (x y : Prt) : splice x.cells 0 y.cells = y.cells := id rfl
theorem Prt.d_h (x : Prt) : (x.cells.drop 0).take 21 = x.h.cells := id rfl
theorem Prt.s_h (x : Prt) (v : Hrd) : splice x.cells 0 v.cells = ({ x with h := v } : Prt).cells := id rfl
theorem Prt.g_h_port (x : Prt) : x.cells[0]? = some (i64 x.h.port) := id rfl
theorem Prt.s_h_port (x : Prt) (v : Int) : splice x.cells 0 [i64 v] = ({ x with h := { x.h with port := v } } : Prt).cells := id rfl
theorem Prt.g_h_cost (x : Prt) : x.cells[1]? = some (i64 x.h.cost) := id rfl
theorem Prt.s_h_cost (x : Prt) (v : Int) : splice x.cells 1 [i64 v] = ({ x with h := { x.h with cost := v } } : Prt).cells := id rfl
theorem Prt.g_h_up (x : Prt) : x.cells[2]? = some (.bool x.h.up) := id rfl
theorem Prt.s_h_up (x : Prt) (v : Bool) : splice x.cells 2 [.bool v] = ({ x with h := { x.h with up := v } } : Prt).cells := id rfl
theorem Prt.g_h_has (x : Prt) : x.cells[3]? = some (.bool x.h.has) := id rfl
theorem Prt.s_h_has (x : Prt) (v : Bool) : splice x.cells 3 [.bool v] = ({ x with h := { x.h with has := v } } : Prt).cells := id rfl
theorem Prt.d_h_v (x : Prt) : (x.cells.drop 4).take 17 = x.h.v.cells := id rfl
theorem Prt.s_h_v (x : Prt) (v : Vec) : splice x.cells 4 v.cells = ({ x with h := { x.h with v := v } } : Prt).cells := id rfl
theorem Prt.d_h_v_root (x : Prt) : (x.cells.drop 4).take 7 = x.h.v.root.cells := id rfl
theorem Prt.s_h_v_root (x : Prt) (v : Idn) : splice x.cells 4 v.cells = ({ x with h := { x.h with v := { x.h.v with root := v } } } : Prt).cells := id rfl
theorem Prt.g_h_v_root_prio (x : Prt) : x.cells[4]? = some (i64 x.h.v.root.prio) := id rfl
theorem Prt.s_h_v_root_prio (x : Prt) (v : Int) : splice x.cells 4 [i64 v] = ({ x with h := { x.h with v := { x.h.v with root := { x.h.v.root with prio := v } } } } : Prt).cells := id rfl
theorem Prt.d_h_v_root_mac (x : Prt) : (x.cells.drop 5).take 6 = x.h.v.root.mac.cells := id rfl
theorem Prt.s_h_v_root_mac (x : Prt) (v : Mac) : splice x.cells 5 v.cells = ({ x with h := { x.h with v := { x.h.v with root := { x.h.v.root with mac := v } } } } : Prt).cells := id rfl
theorem Prt.g_h_v_cost (x : Prt) : x.cells[11]? = some (i64 x.h.v.cost) := id rfl
theorem Prt.s_h_v_cost (x : Prt) (v : Int) : splice x.cells 11 [i64 v] = ({ x with h := { x.h with v := { x.h.v with cost := v } } } : Prt).cells := id rfl
theorem Prt.d_h_v_br (x : Prt) : (x.cells.drop 12).take 7 = x.h.v.br.cells := id rfl
theorem Prt.s_h_v_br (x : Prt) (v : Idn) : splice x.cells 12 v.cells = ({ x with h := { x.h with v := { x.h.v with br := v } } } : Prt).cells := id rfl
theorem Prt.g_h_v_br_prio (x : Prt) : x.cells[12]? = some (i64 x.h.v.br.prio) := id rfl
theorem Prt.s_h_v_br_prio (x : Prt) (v : Int) : splice x.cells 12 [i64 v] = ({ x with h := { x.h with v := { x.h.v with br := { x.h.v.br with prio := v } } } } : Prt).cells := id rfl
theorem Prt.d_h_v_br_mac (x : Prt) : (x.cells.drop 13).take 6 = x.h.v.br.mac.cells := id rfl
theorem Prt.s_h_v_br_mac (x : Prt) (v : Mac) : splice x.cells 13 v.cells = ({ x with h := { x.h with v := { x.h.v with br := { x.h.v.br with mac := v } } } } : Prt).cells := id rfl
theorem Prt.g_h_v_port (x : Prt) : x.cells[19]? = some (i64 x.h.v.port) := id rfl
theorem Prt.s_h_v_port (x : Prt) (v : Int) : splice x.cells 19 [i64 v] = ({ x with h := { x.h with v := { x.h.v with port := v } } } : Prt).cells := id rfl
theorem Prt.g_h_v_own (x : Prt) : x.cells[20]? = some (i64 x.h.v.own) := id rfl
theorem Prt.s_h_v_own (x : Prt) (v : Int) : splice x.cells 20 [i64 v] = ({ x with h := { x.h with v := { x.h.v with own := v } } } : Prt).cells := id rfl
theorem Prt.g_age (x : Prt) : x.cells[21]? = some (i64 x.age) := id rfl
theorem Prt.s_age (x : Prt) (v : Int) : splice x.cells 21 [i64 v] = ({ x with age := v } : Prt).cells := id rfl
theorem Prt.g_until (x : Prt) : x.cells[22]? = some (i64 x.until_) := id rfl
theorem Prt.s_until (x : Prt) (v : Int) : splice x.cells 22 [i64 v] = ({ x with until_ := v } : Prt).cells := id rfl
theorem Prt.g_edge (x : Prt) : x.cells[23]? = some (.bool x.edge) := id rfl
theorem Prt.s_edge (x : Prt) (v : Bool) : splice x.cells 23 [.bool v] = ({ x with edge := v } : Prt).cells := id rfl
theorem Prt.g_role (x : Prt) : x.cells[24]? = some (i64 x.role) := id rfl
theorem Prt.s_role (x : Prt) (v : Int) : splice x.cells 24 [i64 v] = ({ x with role := v } : Prt).cells := id rfl
theorem Prt.g_state (x : Prt) : x.cells[25]? = some (i64 x.state) := id rfl
theorem Prt.s_state (x : Prt) (v : Int) : splice x.cells 25 [i64 v] = ({ x with state := v } : Prt).cells := id rfl
theorem Prt.g_on (x : Prt) : x.cells[26]? = some (i64 x.on) := id rfl
theorem Prt.s_on (x : Prt) (v : Int) : splice x.cells 26 [i64 v] = ({ x with on := v } : Prt).cells := id rfl
theorem Prt.g_agreed (x : Prt) : x.cells[27]? = some (.bool x.agreed) := id rfl
theorem Prt.s_agreed (x : Prt) (v : Bool) : splice x.cells 27 [.bool v] = ({ x with agreed := v } : Prt).cells := id rfl
theorem Prt.g_reply (x : Prt) : x.cells[28]? = some (.bool x.reply) := id rfl
theorem Prt.s_reply (x : Prt) (v : Bool) : splice x.cells 28 [.bool v] = ({ x with reply := v } : Prt).cells := id rfl

@[ext] structure Bpd where
  kind : Int
  flags : Int
  root : Idn
  cost : Int
  br : Idn
  port : Int
  age : Int
  maxAge : Int
  hello : Int
  forward : Int
  deriving DecidableEq, Inhabited

def Bpd.cells (x : Bpd) : List Value := [i64 x.kind, i64 x.flags, i64 x.root.prio, u8 x.root.mac.b0, u8 x.root.mac.b1, u8 x.root.mac.b2, u8 x.root.mac.b3, u8 x.root.mac.b4, u8 x.root.mac.b5, i64 x.cost, i64 x.br.prio, u8 x.br.mac.b0, u8 x.br.mac.b1, u8 x.br.mac.b2, u8 x.br.mac.b3, u8 x.br.mac.b4, u8 x.br.mac.b5, i64 x.port, i64 x.age, i64 x.maxAge, i64 x.hello, i64 x.forward]
theorem Bpd.len (x : Bpd) : x.cells.length = 22 := id rfl
theorem Bpd.one (x : Bpd) : x.cells.all S.oneCell = true := id rfl
theorem Bpd.dw (x : Bpd) : (x.cells.drop 0).take 22 = x.cells := id rfl
theorem Bpd.sw (x y : Bpd) : splice x.cells 0 y.cells = y.cells := id rfl
theorem Bpd.g_kind (x : Bpd) : x.cells[0]? = some (i64 x.kind) := id rfl
theorem Bpd.s_kind (x : Bpd) (v : Int) : splice x.cells 0 [i64 v] = ({ x with kind := v } : Bpd).cells := id rfl
theorem Bpd.g_flags (x : Bpd) : x.cells[1]? = some (i64 x.flags) := id rfl
theorem Bpd.s_flags (x : Bpd) (v : Int) : splice x.cells 1 [i64 v] = ({ x with flags := v } : Bpd).cells := id rfl
theorem Bpd.d_root (x : Bpd) : (x.cells.drop 2).take 7 = x.root.cells := id rfl
theorem Bpd.s_root (x : Bpd) (v : Idn) : splice x.cells 2 v.cells = ({ x with root := v } : Bpd).cells := id rfl
theorem Bpd.g_root_prio (x : Bpd) : x.cells[2]? = some (i64 x.root.prio) := id rfl
theorem Bpd.s_root_prio (x : Bpd) (v : Int) : splice x.cells 2 [i64 v] = ({ x with root := { x.root with prio := v } } : Bpd).cells := id rfl
theorem Bpd.d_root_mac (x : Bpd) : (x.cells.drop 3).take 6 = x.root.mac.cells := id rfl
theorem Bpd.s_root_mac (x : Bpd) (v : Mac) : splice x.cells 3 v.cells = ({ x with root := { x.root with mac := v } } : Bpd).cells := id rfl
theorem Bpd.g_cost (x : Bpd) : x.cells[9]? = some (i64 x.cost) := id rfl
theorem Bpd.s_cost (x : Bpd) (v : Int) : splice x.cells 9 [i64 v] = ({ x with cost := v } : Bpd).cells := id rfl
theorem Bpd.d_br (x : Bpd) : (x.cells.drop 10).take 7 = x.br.cells := id rfl
theorem Bpd.s_br (x : Bpd) (v : Idn) : splice x.cells 10 v.cells = ({ x with br := v } : Bpd).cells := id rfl
theorem Bpd.g_br_prio (x : Bpd) : x.cells[10]? = some (i64 x.br.prio) := id rfl
theorem Bpd.s_br_prio (x : Bpd) (v : Int) : splice x.cells 10 [i64 v] = ({ x with br := { x.br with prio := v } } : Bpd).cells := id rfl
theorem Bpd.d_br_mac (x : Bpd) : (x.cells.drop 11).take 6 = x.br.mac.cells := id rfl
theorem Bpd.s_br_mac (x : Bpd) (v : Mac) : splice x.cells 11 v.cells = ({ x with br := { x.br with mac := v } } : Bpd).cells := id rfl
theorem Bpd.g_port (x : Bpd) : x.cells[17]? = some (i64 x.port) := id rfl
theorem Bpd.s_port (x : Bpd) (v : Int) : splice x.cells 17 [i64 v] = ({ x with port := v } : Bpd).cells := id rfl
theorem Bpd.g_age (x : Bpd) : x.cells[18]? = some (i64 x.age) := id rfl
theorem Bpd.s_age (x : Bpd) (v : Int) : splice x.cells 18 [i64 v] = ({ x with age := v } : Bpd).cells := id rfl
theorem Bpd.g_maxAge (x : Bpd) : x.cells[19]? = some (i64 x.maxAge) := id rfl
theorem Bpd.s_maxAge (x : Bpd) (v : Int) : splice x.cells 19 [i64 v] = ({ x with maxAge := v } : Bpd).cells := id rfl
theorem Bpd.g_hello (x : Bpd) : x.cells[20]? = some (i64 x.hello) := id rfl
theorem Bpd.s_hello (x : Bpd) (v : Int) : splice x.cells 20 [i64 v] = ({ x with hello := v } : Bpd).cells := id rfl
theorem Bpd.g_forward (x : Bpd) : x.cells[21]? = some (i64 x.forward) := id rfl
theorem Bpd.s_forward (x : Bpd) (v : Int) : splice x.cells 21 [i64 v] = ({ x with forward := v } : Bpd).cells := id rfl

@[ext] structure Spk where
  port : Int
  b : Bpd
  deriving DecidableEq, Inhabited

def Spk.cells (x : Spk) : List Value := [i64 x.port, i64 x.b.kind, i64 x.b.flags, i64 x.b.root.prio, u8 x.b.root.mac.b0, u8 x.b.root.mac.b1, u8 x.b.root.mac.b2, u8 x.b.root.mac.b3, u8 x.b.root.mac.b4, u8 x.b.root.mac.b5, i64 x.b.cost, i64 x.b.br.prio, u8 x.b.br.mac.b0, u8 x.b.br.mac.b1, u8 x.b.br.mac.b2, u8 x.b.br.mac.b3, u8 x.b.br.mac.b4, u8 x.b.br.mac.b5, i64 x.b.port, i64 x.b.age, i64 x.b.maxAge, i64 x.b.hello, i64 x.b.forward]
theorem Spk.len (x : Spk) : x.cells.length = 23 := id rfl
theorem Spk.one (x : Spk) : x.cells.all S.oneCell = true := id rfl
theorem Spk.dw (x : Spk) : (x.cells.drop 0).take 23 = x.cells := id rfl
theorem Spk.sw (x y : Spk) : splice x.cells 0 y.cells = y.cells := id rfl
theorem Spk.g_port (x : Spk) : x.cells[0]? = some (i64 x.port) := id rfl
theorem Spk.s_port (x : Spk) (v : Int) : splice x.cells 0 [i64 v] = ({ x with port := v } : Spk).cells := id rfl
theorem Spk.d_b (x : Spk) : (x.cells.drop 1).take 22 = x.b.cells := id rfl
theorem Spk.s_b (x : Spk) (v : Bpd) : splice x.cells 1 v.cells = ({ x with b := v } : Spk).cells := id rfl
theorem Spk.g_b_kind (x : Spk) : x.cells[1]? = some (i64 x.b.kind) := id rfl
theorem Spk.s_b_kind (x : Spk) (v : Int) : splice x.cells 1 [i64 v] = ({ x with b := { x.b with kind := v } } : Spk).cells := id rfl
theorem Spk.g_b_flags (x : Spk) : x.cells[2]? = some (i64 x.b.flags) := id rfl
theorem Spk.s_b_flags (x : Spk) (v : Int) : splice x.cells 2 [i64 v] = ({ x with b := { x.b with flags := v } } : Spk).cells := id rfl
theorem Spk.d_b_root (x : Spk) : (x.cells.drop 3).take 7 = x.b.root.cells := id rfl
theorem Spk.s_b_root (x : Spk) (v : Idn) : splice x.cells 3 v.cells = ({ x with b := { x.b with root := v } } : Spk).cells := id rfl
theorem Spk.g_b_root_prio (x : Spk) : x.cells[3]? = some (i64 x.b.root.prio) := id rfl
theorem Spk.s_b_root_prio (x : Spk) (v : Int) : splice x.cells 3 [i64 v] = ({ x with b := { x.b with root := { x.b.root with prio := v } } } : Spk).cells := id rfl
theorem Spk.d_b_root_mac (x : Spk) : (x.cells.drop 4).take 6 = x.b.root.mac.cells := id rfl
theorem Spk.s_b_root_mac (x : Spk) (v : Mac) : splice x.cells 4 v.cells = ({ x with b := { x.b with root := { x.b.root with mac := v } } } : Spk).cells := id rfl
theorem Spk.g_b_cost (x : Spk) : x.cells[10]? = some (i64 x.b.cost) := id rfl
theorem Spk.s_b_cost (x : Spk) (v : Int) : splice x.cells 10 [i64 v] = ({ x with b := { x.b with cost := v } } : Spk).cells := id rfl
theorem Spk.d_b_br (x : Spk) : (x.cells.drop 11).take 7 = x.b.br.cells := id rfl
theorem Spk.s_b_br (x : Spk) (v : Idn) : splice x.cells 11 v.cells = ({ x with b := { x.b with br := v } } : Spk).cells := id rfl
theorem Spk.g_b_br_prio (x : Spk) : x.cells[11]? = some (i64 x.b.br.prio) := id rfl
theorem Spk.s_b_br_prio (x : Spk) (v : Int) : splice x.cells 11 [i64 v] = ({ x with b := { x.b with br := { x.b.br with prio := v } } } : Spk).cells := id rfl
theorem Spk.d_b_br_mac (x : Spk) : (x.cells.drop 12).take 6 = x.b.br.mac.cells := id rfl
theorem Spk.s_b_br_mac (x : Spk) (v : Mac) : splice x.cells 12 v.cells = ({ x with b := { x.b with br := { x.b.br with mac := v } } } : Spk).cells := id rfl
theorem Spk.g_b_port (x : Spk) : x.cells[18]? = some (i64 x.b.port) := id rfl
theorem Spk.s_b_port (x : Spk) (v : Int) : splice x.cells 18 [i64 v] = ({ x with b := { x.b with port := v } } : Spk).cells := id rfl
theorem Spk.g_b_age (x : Spk) : x.cells[19]? = some (i64 x.b.age) := id rfl
theorem Spk.s_b_age (x : Spk) (v : Int) : splice x.cells 19 [i64 v] = ({ x with b := { x.b with age := v } } : Spk).cells := id rfl
theorem Spk.g_b_maxAge (x : Spk) : x.cells[20]? = some (i64 x.b.maxAge) := id rfl
theorem Spk.s_b_maxAge (x : Spk) (v : Int) : splice x.cells 20 [i64 v] = ({ x with b := { x.b with maxAge := v } } : Spk).cells := id rfl
theorem Spk.g_b_hello (x : Spk) : x.cells[21]? = some (i64 x.b.hello) := id rfl
theorem Spk.s_b_hello (x : Spk) (v : Int) : splice x.cells 21 [i64 v] = ({ x with b := { x.b with hello := v } } : Spk).cells := id rfl
theorem Spk.g_b_forward (x : Spk) : x.cells[22]? = some (i64 x.b.forward) := id rfl
theorem Spk.s_b_forward (x : Spk) (v : Int) : splice x.cells 22 [i64 v] = ({ x with b := { x.b with forward := v } } : Spk).cells := id rfl

attribute [push_cast] Idn.len Idn.one Idn.dw Idn.sw Idn.g_prio Idn.s_prio Idn.d_mac Idn.s_mac Vec.len Vec.one Vec.dw Vec.sw Vec.d_root Vec.s_root Vec.g_root_prio Vec.s_root_prio Vec.d_root_mac Vec.s_root_mac Vec.g_cost Vec.s_cost Vec.d_br Vec.s_br Vec.g_br_prio Vec.s_br_prio Vec.d_br_mac Vec.s_br_mac Vec.g_port Vec.s_port Vec.g_own Vec.s_own Hrd.len Hrd.one Hrd.dw Hrd.sw Hrd.g_port Hrd.s_port Hrd.g_cost Hrd.s_cost Hrd.g_up Hrd.s_up Hrd.g_has Hrd.s_has Hrd.d_v Hrd.s_v Hrd.d_v_root Hrd.s_v_root Hrd.g_v_root_prio Hrd.s_v_root_prio Hrd.d_v_root_mac Hrd.s_v_root_mac Hrd.g_v_cost Hrd.s_v_cost Hrd.d_v_br Hrd.s_v_br Hrd.g_v_br_prio Hrd.s_v_br_prio Hrd.d_v_br_mac Hrd.s_v_br_mac Hrd.g_v_port Hrd.s_v_port Hrd.g_v_own Hrd.s_v_own Prt.len Prt.one Prt.dw Prt.sw Prt.d_h Prt.s_h Prt.g_h_port Prt.s_h_port Prt.g_h_cost Prt.s_h_cost Prt.g_h_up Prt.s_h_up Prt.g_h_has Prt.s_h_has Prt.d_h_v Prt.s_h_v Prt.d_h_v_root Prt.s_h_v_root Prt.g_h_v_root_prio Prt.s_h_v_root_prio Prt.d_h_v_root_mac Prt.s_h_v_root_mac Prt.g_h_v_cost Prt.s_h_v_cost Prt.d_h_v_br Prt.s_h_v_br Prt.g_h_v_br_prio Prt.s_h_v_br_prio Prt.d_h_v_br_mac Prt.s_h_v_br_mac Prt.g_h_v_port Prt.s_h_v_port Prt.g_h_v_own Prt.s_h_v_own Prt.g_age Prt.s_age Prt.g_until Prt.s_until Prt.g_edge Prt.s_edge Prt.g_role Prt.s_role Prt.g_state Prt.s_state Prt.g_on Prt.s_on Prt.g_agreed Prt.s_agreed Prt.g_reply Prt.s_reply Bpd.len Bpd.one Bpd.dw Bpd.sw Bpd.g_kind Bpd.s_kind Bpd.g_flags Bpd.s_flags Bpd.d_root Bpd.s_root Bpd.g_root_prio Bpd.s_root_prio Bpd.d_root_mac Bpd.s_root_mac Bpd.g_cost Bpd.s_cost Bpd.d_br Bpd.s_br Bpd.g_br_prio Bpd.s_br_prio Bpd.d_br_mac Bpd.s_br_mac Bpd.g_port Bpd.s_port Bpd.g_age Bpd.s_age Bpd.g_maxAge Bpd.s_maxAge Bpd.g_hello Bpd.s_hello Bpd.g_forward Bpd.s_forward Spk.len Spk.one Spk.dw Spk.sw Spk.g_port Spk.s_port Spk.d_b Spk.s_b Spk.g_b_kind Spk.s_b_kind Spk.g_b_flags Spk.s_b_flags Spk.d_b_root Spk.s_b_root Spk.g_b_root_prio Spk.s_b_root_prio Spk.d_b_root_mac Spk.s_b_root_mac Spk.g_b_cost Spk.s_b_cost Spk.d_b_br Spk.s_b_br Spk.g_b_br_prio Spk.s_b_br_prio Spk.d_b_br_mac Spk.s_b_br_mac Spk.g_b_port Spk.s_b_port Spk.g_b_age Spk.s_b_age Spk.g_b_maxAge Spk.s_b_maxAge Spk.g_b_hello Spk.s_b_hello Spk.g_b_forward Spk.s_b_forward

def Idn.lits (x : Idn) : List Lit := [.int .i64 x.prio, .int .u8 x.mac.b0, .int .u8 x.mac.b1, .int .u8 x.mac.b2, .int .u8 x.mac.b3, .int .u8 x.mac.b4, .int .u8 x.mac.b5]
def Vec.lits (x : Vec) : List Lit := [.int .i64 x.root.prio, .int .u8 x.root.mac.b0, .int .u8 x.root.mac.b1, .int .u8 x.root.mac.b2, .int .u8 x.root.mac.b3, .int .u8 x.root.mac.b4, .int .u8 x.root.mac.b5, .int .i64 x.cost, .int .i64 x.br.prio, .int .u8 x.br.mac.b0, .int .u8 x.br.mac.b1, .int .u8 x.br.mac.b2, .int .u8 x.br.mac.b3, .int .u8 x.br.mac.b4, .int .u8 x.br.mac.b5, .int .i64 x.port, .int .i64 x.own]
def Bpd.lits (x : Bpd) : List Lit := [.int .i64 x.kind, .int .i64 x.flags, .int .i64 x.root.prio, .int .u8 x.root.mac.b0, .int .u8 x.root.mac.b1, .int .u8 x.root.mac.b2, .int .u8 x.root.mac.b3, .int .u8 x.root.mac.b4, .int .u8 x.root.mac.b5, .int .i64 x.cost, .int .i64 x.br.prio, .int .u8 x.br.mac.b0, .int .u8 x.br.mac.b1, .int .u8 x.br.mac.b2, .int .u8 x.br.mac.b3, .int .u8 x.br.mac.b4, .int .u8 x.br.mac.b5, .int .i64 x.port, .int .i64 x.age, .int .i64 x.maxAge, .int .i64 x.hello, .int .i64 x.forward]
def Spk.lits (x : Spk) : List Lit := [.int .i64 x.port, .int .i64 x.b.kind, .int .i64 x.b.flags, .int .i64 x.b.root.prio, .int .u8 x.b.root.mac.b0, .int .u8 x.b.root.mac.b1, .int .u8 x.b.root.mac.b2, .int .u8 x.b.root.mac.b3, .int .u8 x.b.root.mac.b4, .int .u8 x.b.root.mac.b5, .int .i64 x.b.cost, .int .i64 x.b.br.prio, .int .u8 x.b.br.mac.b0, .int .u8 x.b.br.mac.b1, .int .u8 x.b.br.mac.b2, .int .u8 x.b.br.mac.b3, .int .u8 x.b.br.mac.b4, .int .u8 x.b.br.mac.b5, .int .i64 x.b.port, .int .i64 x.b.age, .int .i64 x.b.maxAge, .int .i64 x.b.hello, .int .i64 x.b.forward]
def Idn.ok (x : Idn) : Prop := isI x.prio ∧ x.mac.ok
def Vec.ok (x : Vec) : Prop := x.root.ok ∧ isI x.cost ∧ x.br.ok ∧ isI x.port ∧ isI x.own
def Hrd.ok (x : Hrd) : Prop := isI x.port ∧ isI x.cost ∧ x.v.ok
def Prt.ok (x : Prt) : Prop := x.h.ok ∧ isI x.age ∧ isI x.until_ ∧ isI x.role ∧ isI x.state ∧ isI x.on
def Bpd.ok (x : Bpd) : Prop := isI x.kind ∧ isI x.flags ∧ x.root.ok ∧ isI x.cost ∧ x.br.ok ∧ isI x.port ∧ isI x.age ∧ isI x.maxAge ∧ isI x.hello ∧ isI x.forward
def Spk.ok (x : Spk) : Prop := isI x.port ∧ x.b.ok

theorem Idn.lits_inj {a b : Idn} : a.lits = b.lits ↔ a = b := by
  constructor
  · intro h
    simp only [Idn.lits, List.cons.injEq, Lit.int.injEq, Lit.bool.injEq, true_and, and_true] at h
    obtain ⟨h0, h1, h2, h3, h4, h5, h6⟩ := h
    exact (Idn.ext h0 (Mac.ext h1 h2 h3 h4 h5 h6))
  · rintro rfl; rfl
theorem Vec.lits_inj {a b : Vec} : a.lits = b.lits ↔ a = b := by
  constructor
  · intro h
    simp only [Vec.lits, List.cons.injEq, Lit.int.injEq, Lit.bool.injEq, true_and, and_true] at h
    obtain ⟨h0, h1, h2, h3, h4, h5, h6, h7, h8, h9, h10, h11, h12, h13, h14, h15, h16⟩ := h
    exact (Vec.ext (Idn.ext h0 (Mac.ext h1 h2 h3 h4 h5 h6)) h7 (Idn.ext h8 (Mac.ext h9 h10 h11 h12 h13 h14)) h15 h16)
  · rintro rfl; rfl
theorem Bpd.lits_inj {a b : Bpd} : a.lits = b.lits ↔ a = b := by
  constructor
  · intro h
    simp only [Bpd.lits, List.cons.injEq, Lit.int.injEq, Lit.bool.injEq, true_and, and_true] at h
    obtain ⟨h0, h1, h2, h3, h4, h5, h6, h7, h8, h9, h10, h11, h12, h13, h14, h15, h16, h17, h18, h19, h20, h21⟩ := h
    exact (Bpd.ext h0 h1 (Idn.ext h2 (Mac.ext h3 h4 h5 h6 h7 h8)) h9 (Idn.ext h10 (Mac.ext h11 h12 h13 h14 h15 h16)) h17 h18 h19 h20 h21)
  · rintro rfl; rfl
theorem Spk.lits_inj {a b : Spk} : a.lits = b.lits ↔ a = b := by
  constructor
  · intro h
    simp only [Spk.lits, List.cons.injEq, Lit.int.injEq, Lit.bool.injEq, true_and, and_true] at h
    obtain ⟨h0, h1, h2, h3, h4, h5, h6, h7, h8, h9, h10, h11, h12, h13, h14, h15, h16, h17, h18, h19, h20, h21, h22⟩ := h
    exact (Spk.ext h0 (Bpd.ext h1 h2 (Idn.ext h3 (Mac.ext h4 h5 h6 h7 h8 h9)) h10 (Idn.ext h11 (Mac.ext h12 h13 h14 h15 h16 h17)) h18 h19 h20 h21 h22))
  · rintro rfl; rfl

end Go.Gx
end

section
/- What may panic, and is let go. -/
namespace Go.Gx
open Go
variable {P : Program} {K Z : Value → World → Prop} {w : World}

theorem opZ_congr {P : Program} {s s' : Sem Next} (h : s = s') (K Z : Value → World → Prop) (w : World) : opZ P s K Z w = opZ P s' K Z w := by rw [h]
theorem pifS_congr {x x' : Value} (h : x = x') (k : World → Prop) (w : World) : pifS x k w = pifS x' k w := by rw [h]
attribute [congr] opZ_congr pifS_congr

theorem opZ_cl {f : FuncId} [hf : FnB P f] (args : List Value) : opZ P (S.cl f args) K Z w = CallsZ P f args.toArray K Z w := by
  unfold S.cl S.call opZ
  have : (do
      let d ← Deferred.ofValue (.func (.func f) #[] #[]) args.toArray
      invoke d.target d.args : Sem Next) = callFunc f (#[] ++ args.toArray ++ #[]) := rfl
  rw [this, hf.enter]
  simp [uponZ]

theorem opZ_call {f : FuncId} [hf : FnB P f] (cap : Array Value) (args : List Value) : opZ P (S.call (.func (.func f) #[] cap) args) K Z w = CallsZ P f (args.toArray ++ cap) K Z w := by
  unfold S.call opZ
  have : (do
      let d ← Deferred.ofValue (.func (.func f) #[] cap) args.toArray
      invoke d.target d.args : Sem Next) = callFunc f (#[] ++ args.toArray ++ cap) := rfl
  rw [this, hf.enter]
  simp [uponZ]

/-- any other operation panics not -/
theorem opZ_of {s : Sem Next} (h : opS P s K w) : opZ P s K Z w := by
  unfold opZ
  unfold opS at h
  generalize s.run P w = r at h
  cases r with
  | halt x w => exact h
  | ok n w => cases n <;> first | exact h | exact CallsZ.of h

theorem pifS_iface (t : TypeId) (x : Value) (k : World → Prop) (w : World) : pifS (.iface t x) k w = k w := id rfl
attribute [push_cast] opZ_cl opZ_call pifS_iface

theorem opS_iface {t : TypeId} {fs : Array Field} [hT : StT P t fs] (x : Value) : opS P (S.iface t x) K w = K (.iface t x) w := by
  unfold S.iface
  rw [opS_bind]
  have : (Instr.makeInterface t x).run P w = .ok (.iface t x) w := by
    unfold Instr.makeInterface
    rw [Sem.run_bind, run_underlying_of hT.und, Result.andThen_ok]
    rfl
  rw [this]

/-- 'v[:k]' of a slice that was read in a world ahead -/
theorem s_slcH0 {T E sz : Nat} {ag : Bool} [hT : SlT P T E] [hs : Sz P E sz ag] {w0 : World} {v : Value} {es : List (List Value)} (h : RdE sz w0 v es) {k : Nat} (hk : k ≤ es.length) (hK : ∀ v', RdE sz w0 v' (es.take k) → K v' w) : opS P (S.slc T v none (some (.int .i64 k)) none) K w := by
  obtain ⟨a, c, rfl, hc⟩ := h.cap
  rw [opS_slice (run_boundsH (hi := (k : Int)) (by omega) (by omega))]
  have := h.part (l := 0) (m := k) (by omega) hk
  rw [List.drop_zero] at this
  exact hK _ this

/-- 'v[k:]' -/
theorem s_slcL0 {T E sz : Nat} {ag : Bool} [hT : SlT P T E] [hs : Sz P E sz ag] {w0 : World} {v : Value} {es : List (List Value)} (h : RdE sz w0 v es) {k : Nat} (hk : k ≤ es.length) (hK : ∀ v', RdE sz w0 v' (es.drop k) → K v' w) : opS P (S.slc T v (some (.int .i64 k)) none none) K w := by
  obtain ⟨a, c, rfl, hc⟩ := h.cap
  rw [opS_slice (run_boundsL (lo := (k : Int)) (by omega) (by omega))]
  have := h.part (l := k) (m := es.length) hk (Nat.le_refl _)
  rw [List.take_length] at this
  exact hK _ this

end Go.Gx
end

section
/- Operations that tell one value each, in worlds that grow. -/
namespace Go.Gx
open Go
variable {P : Program} {K : Value → World → Prop} {w : World}

theorem quietS_intro (C : World → Prop) {b : (World → Prop) → World → Prop} (hC : C w) (h : b C w) : quietS b w := ⟨C, hC, h⟩
theorem qendS_intro {C k : World → Prop} (h : ∀ w', C w' → k w') : qendS C k w := h
/-- an operation that but tells a value -/
theorem qt_pure {C : World → Prop} {s : Sem Next} {v : Value} (h : ∀ (R : Value → World → Prop) w', C w' → opS P s R w' = R v w') (hk : K v w) : qtS P C s K w :=
  ⟨v, fun w' hC => by rw [h _ w' hC]; exact ⟨rfl, hC⟩, hk⟩
/-- one that tells a value, in a world that may have grown -/
theorem qt_run {C : World → Prop} {s : Sem Next} (v : Value) (h : ∀ (R : Value → World → Prop) w', C w' → (∀ w'', C w'' → R v w'') → opS P s R w') (hk : K v w) : qtS P C s K w :=
  ⟨v, fun w' hC => h _ w' hC fun w'' hC'' => ⟨rfl, hC''⟩, hk⟩

variable {W0 : World}
theorem qt_ld1 {T n : Nat} [hs : Sz P T n false] {b o : Nat} {v : Value} {x : Obj} (hb : W0.heap[b]? = some x) (hv : cellAt (some x) o = some v) (hk : K v w) : qtS P (Fr none_ W0) (S.ld T (pt b o)) K w :=
  qt_pure (fun R w' hC => by rw [s_ld1, hC.heap hb (fun h => h), hv, onS_some]) hk
theorem qt_ldN {T n : Nat} [hs : Sz P T n true] {b o : Nat} {v : Value} {x : Obj} (hn : 0 < n) (hb : W0.heap[b]? = some x) (hv : aggAt (some x) o n = some v) (hk : K v w) : qtS P (Fr none_ W0) (S.ld T (pt b o)) K w :=
  qt_pure (fun R w' hC => by rw [s_ldN hn, hC.heap hb (fun h => h), hv, onS_some]) hk
theorem qt_cl {f : FuncId} [hf : FnB P f] {args : List Value} (v : Value) (h : ∀ (R : Value → World → Prop) w', (∀ w'', Fr none_ w' w'' → R v w'') → CallsR P f args.toArray R w') (hk : K v w) : qtS P (Fr none_ W0) (S.cl f args) K w :=
  qt_run v (fun R w' hC hR => by rw [opS_cl]; exact h R w' fun w'' hF => hR w'' (hC.trans hF)) hk
theorem qt_binI {op : BinOp} {x y v : Value} (h : ∀ (R : Value → World → Prop) w', opS P (S.binI op x y) R w' = R v w') (hk : K v w) {C : World → Prop} : qtS P C (S.binI op x y) K w := qt_pure (fun R w' _ => h R w') hk


/-! ### The lesser one -/

theorem opS_min {x y : Int} {k : IntKind} {ats : Array TypeId} {ty : TypeId} : opS P (S.bi .min ats ty [.int k x, .int k y]) K w = K (.int k (if x ≤ y then x else y)) w := by
  show opS P (do pure (Next.value (← Builtin.min_ ats ty #[.int k x, .int k y]))) K w = _
  rw [opS_bind]
  have : (Builtin.min_ ats ty #[.int k x, .int k y]).run P w = .ok (.int k (if x ≤ y then x else y)) w := by
    simp [Builtin.min_, Builtin.min2]
    try (split <;> simp_all <;> omega)
  rw [this]
theorem opS_max {x y : Int} {k : IntKind} {ats : Array TypeId} {ty : TypeId} : opS P (S.bi .max ats ty [.int k x, .int k y]) K w = K (.int k (if x ≤ y then y else x)) w := by
  show opS P (do pure (Next.value (← Builtin.max_ ats ty #[.int k x, .int k y]))) K w = _
  rw [opS_bind]
  have : (Builtin.max_ ats ty #[.int k x, .int k y]).run P w = .ok (.int k (if x ≤ y then y else x)) w := by
    simp [Builtin.max_, Builtin.max2]
    try (split <;> simp_all <;> omega)
  rw [this]
attribute [push_cast] opS_min opS_max

/-! ### Slices of so many elements -/

theorem mergeF_full {z : List Value} : ∀ (vs : List Value) (i : Nat), (∀ v ∈ vs, v.cells.toList.length = z.length) → mergeF i (List.replicate vs.length z) ((List.range' i vs.length).zip vs) = some (vs.flatMap fun v => v.cells.toList)
  | [], i, _ => rfl
  | v :: vs, i, h => by
    simp only [List.length_cons, List.replicate_succ, List.range'_succ, List.zip_cons_cons, mergeF, if_pos]
    rw [if_pos (h v (by simp)), mergeF_full vs (i + 1) fun u hu => h u (by simp [hu])]
    rfl

/-- a slice of elements that are given, all of them -/
theorem s_bsN {T E sz : Nat} {ag : Bool} {z : Value} [hT : SlT P T E] [hs : Sz P E sz ag] [hz : ZV P E z] (vs : List Value) (h0 : 0 < vs.length) (hsz : 0 < sz) (h24 : vs.length * sz ≤ 2 ^ 24) (hzn : z.cells.size = sz) (hv : ∀ v ∈ vs, v.cells.toList.length = sz)
    (h : ∀ v' w', OwnE E sz w' v' (vs.map fun v => v.cells.toList) → Fr none_ w w' → New w v' → K v' w') : opS P (S.buildS T vs.length ((List.range' 0 vs.length).zip vs)) K w := by
  unfold S.buildS
  rw [opS_bind]
  unfold Instr.buildSlice
  rw [Sem.run_bind, run_underlying_of hT.und, Result.andThen_ok]
  simp only []
  rw [Sem.run_bind, hs.size w, Result.andThen_ok]
  have hpos : 0 < vs.length * sz := Nat.mul_pos h0 hsz
  rw [if_neg (by omega), if_neg (by omega), Sem.run_bind, hz.zero w, Result.andThen_ok]
  have hr := range_zeros vs.length z.cells
  rw [hzn] at hr
  simp only [pure_bind, hzn, hr]
  have hzl : z.cells.toList.length = sz := by rw [Array.length_toList, hzn]
  have hm := fill_merge (place := fun i => some (i * sz, sz)) (List.replicate vs.length z.cells.toList) 0 [] ((List.range' 0 vs.length).zip vs) (vs.flatMap fun v => v.cells.toList) (fun k hk => by
    have h2 := offs_rep (z := z.cells.toList) vs.length 0 k (by simpa using hk)
    simp only [List.length_nil] at h2 ⊢
    rw [h2, hzl]; simp) (mergeF_full vs 0 fun v hvv => by rw [hv v hvv, hzl])
  simp only [List.nil_append] at hm
  have e : (zeros vs.length z.cells.toList).toArray = (List.replicate vs.length z.cells.toList).flatten.toArray := rfl
  rw [e, hm]
  have hfl : (vs.map fun v => v.cells.toList).flatten = vs.flatMap fun v => v.cells.toList := rfl
  refine h _ _ ⟨.inr ⟨w.heap.size, 0, vs.length, (vs.flatMap fun v => v.cells.toList).toArray, by rw [List.length_map], heap_alloc_new _ _, by rw [List.length_map]; exact Nat.le_refl _, ?_, ?_⟩, ?_⟩ (Fr.alloc _ _ rfl) fun b hb => by cases hb; exact Nat.le_refl _
  · rw [← hfl, List.size_toArray, flatten_len (sz := sz) (by intro x hx; obtain ⟨v, hvv, rfl⟩ := List.mem_map.1 hx; exact hv v hvv), List.length_map]; omega
  · rw [List.drop_zero, List.length_map, hfl, List.take_of_length_le]
    rw [← hfl, flatten_len (sz := sz) (by intro x hx; obtain ⟨v, hvv, rfl⟩ := List.mem_map.1 hx; exact hv v hvv), List.length_map]
    exact Nat.le_refl _
  · intro x hx; obtain ⟨v, hvv, rfl⟩ := List.mem_map.1 hx; exact hv v hvv

end Go.Gx
end

section
/- Bridges, and ways, that are compared. -/
set_option linter.unusedVariables false
set_option linter.unusedSimpArgs false
set_option maxRecDepth 100000
namespace Go.Gx.S
open Go Go.Gx Go.Proofs
variable {K : Value → World → Prop} {w : World}

/-! ### As keys -/

theorem ctId : Try.prog.cellsOf 31 = 7 := by kernel_rfl
theorem ctVec : Try.prog.cellsOf 36 = 17 := by kernel_rfl
theorem ctBpd : Try.prog.cellsOf 50 = 22 := by kernel_rfl

theorem id_enc {d : Nat} {x : Idn} (h : x.ok) : Try.prog.keyLits (d + 3) 31 x.cells = some x.lits := by
  refine kl_struct_mk (ls := [[_], x.mac.lits]) Try.underlying31 (by simp) (by rw [ctId]; rfl) ?_
  simp only [List.mapM_cons, List.mapM_nil, ctInt, ctMac, Idn.cells, bind, Option.bind_eq_some_iff, pure, Option.some.injEq, List.drop_succ_cons, List.drop_zero, List.take_succ_cons, List.take_zero]
  exact ⟨_, kl_int_mk uInt h.1, _, ⟨_, MacT.enc (d := d) h.2, _, rfl, rfl⟩, rfl⟩
theorem vec_enc {d : Nat} {x : Vec} (h : x.ok) : Try.prog.keyLits (d + 4) 36 x.cells = some x.lits := by
  refine kl_struct_mk (ls := [x.root.lits, [_], x.br.lits, [_], [_]]) Try.underlying36 (by simp) (by rw [ctVec]; rfl) ?_
  simp only [List.mapM_cons, List.mapM_nil, ctInt, ctId, Vec.cells, bind, Option.bind_eq_some_iff, pure, Option.some.injEq, List.drop_succ_cons, List.drop_zero, List.take_succ_cons, List.take_zero]
  exact ⟨_, id_enc h.1, _, ⟨_, kl_int_mk uInt h.2.1, _, ⟨_, id_enc h.2.2.1, _, ⟨_, kl_int_mk uInt h.2.2.2.1, _, ⟨_, kl_int_mk uInt h.2.2.2.2, _, rfl, rfl⟩, rfl⟩, rfl⟩, rfl⟩, rfl⟩
theorem bpd_enc {d : Nat} {x : Bpd} (h : x.ok) : Try.prog.keyLits (d + 4) 50 x.cells = some x.lits := by
  obtain ⟨h0, h1, h2, h3, h4, h5, h6, h7, h8, h9⟩ := h
  refine kl_struct_mk (ls := [[_], [_], x.root.lits, [_], x.br.lits, [_], [_], [_], [_], [_]]) Try.underlying50 (by simp) (by rw [ctBpd]; rfl) ?_
  simp only [List.mapM_cons, List.mapM_nil, ctInt, ctId, Bpd.cells, bind, Option.bind_eq_some_iff, pure, Option.some.injEq, List.drop_succ_cons, List.drop_zero, List.take_succ_cons, List.take_zero]
  exact ⟨_, kl_int_mk uInt h0, _, ⟨_, kl_int_mk uInt h1, _, ⟨_, id_enc h2, _, ⟨_, kl_int_mk uInt h3, _, ⟨_, id_enc h4, _, ⟨_, kl_int_mk uInt h5, _, ⟨_, kl_int_mk uInt h6, _, ⟨_, kl_int_mk uInt h7, _, ⟨_, kl_int_mk uInt h8, _, ⟨_, kl_int_mk uInt h9, _, rfl, rfl⟩, rfl⟩, rfl⟩, rfl⟩, rfl⟩, rfl⟩, rfl⟩, rfl⟩, rfl⟩, rfl⟩

theorem s_eqId {x y : Idn} (hx : x.ok) (hy : y.ok) (h : K (.bool (decide (x = y))) w) : opS Try.prog (S.binG .eql 31 (.agg x.cells.toArray) (.agg y.cells.toArray)) K w :=
  s_eqG (id_enc (d := 5) hx) (id_enc (d := 5) hy) fun q hq => by
    rw [Idn.lits_inj] at hq
    have : q = decide (x = y) := by rw [Bool.eq_iff_iff, hq, decide_eq_true_iff]
    rw [this]; exact h
theorem s_neId {x y : Idn} (hx : x.ok) (hy : y.ok) (h : K (.bool (!decide (x = y))) w) : opS Try.prog (S.binG .neq 31 (.agg x.cells.toArray) (.agg y.cells.toArray)) K w :=
  s_neqG (id_enc (d := 5) hx) (id_enc (d := 5) hy) fun q hq => by
    rw [Idn.lits_inj] at hq
    have : q = decide (x = y) := by rw [Bool.eq_iff_iff, hq, decide_eq_true_iff]
    rw [this]; exact h
theorem s_eqVec {x y : Vec} (hx : x.ok) (hy : y.ok) (h : K (.bool (decide (x = y))) w) : opS Try.prog (S.binG .eql 36 (.agg x.cells.toArray) (.agg y.cells.toArray)) K w :=
  s_eqG (vec_enc (d := 4) hx) (vec_enc (d := 4) hy) fun q hq => by
    rw [Vec.lits_inj] at hq
    have : q = decide (x = y) := by rw [Bool.eq_iff_iff, hq, decide_eq_true_iff]
    rw [this]; exact h
theorem s_neVec {x y : Vec} (hx : x.ok) (hy : y.ok) (h : K (.bool (!decide (x = y))) w) : opS Try.prog (S.binG .neq 36 (.agg x.cells.toArray) (.agg y.cells.toArray)) K w :=
  s_neqG (vec_enc (d := 4) hx) (vec_enc (d := 4) hy) fun q hq => by
    rw [Vec.lits_inj] at hq
    have : q = decide (x = y) := by rw [Bool.eq_iff_iff, hq, decide_eq_true_iff]
    rw [this]; exact h
theorem s_eqBpd {x y : Bpd} (hx : x.ok) (hy : y.ok) (h : K (.bool (decide (x = y))) w) : opS Try.prog (S.binG .eql 50 (.agg x.cells.toArray) (.agg y.cells.toArray)) K w :=
  s_eqG (bpd_enc (d := 4) hx) (bpd_enc (d := 4) hy) fun q hq => by
    rw [Bpd.lits_inj] at hq
    have : q = decide (x = y) := by rw [Bool.eq_iff_iff, hq, decide_eq_true_iff]
    rw [this]; exact h

/-! ### Bridges -/

def cmpD (a b : Idn) : Int := if cmpI a.prio b.prio ≠ 0 then cmpI a.prio b.prio else cmpM a.mac b.mac

theorem dcmp_spec {a b : Idn} (ha : a.ok) (hb : b.ok) (h : ∀ w', Fr none_ w w' → K (i64 (cmpD a b)) w') : CallsR Try.prog 51 #[.agg a.cells.toArray, .agg b.cells.toArray] K w := by
  apply c51
  unfold p51
  have hG : Fr none_ w ((w.alloc (cellsO a.cells 31)).alloc (cellsO b.cells 31)).drew := (by repeat' first | with_reducible exact Fr.refl _ _ | with_reducible refine Fr.step_alloc ?_ ?_ | with_reducible refine Fr.step_drew ?_ | with_reducible refine Fr.step_wr ?_ ?_ _ _ | exact rfl | exact Or.inr (by omega) | exact Or.inl rfl | exact Or.inl (Or.inl rfl) | exact Or.inl (Or.inr rfl))
  have h0 : ((w.alloc (cellsO a.cells 31)).alloc (cellsO b.cells 31)).drew.heap[w.heap.size]? = some (cellsO a.cells 31) := by simp only [push_cast, Nat.reduceAdd, Nat.reduceLeDiff, Nat.reduceLT, Int.reduceToNat, Nat.left_eq_add, Nat.add_eq_left, Nat.add_left_cancel_iff, Nat.reduceEqDiff, Nat.add_assoc, Nat.succ_ne_zero]
  have h1 : ((w.alloc (cellsO a.cells 31)).alloc (cellsO b.cells 31)).drew.heap[w.heap.size + 1]? = some (cellsO b.cells 31) := by simp only [push_cast, Nat.reduceAdd, Nat.reduceLeDiff, Nat.reduceLT, Int.reduceToNat, Nat.left_eq_add, Nat.add_eq_left, Nat.add_left_cancel_iff, Nat.reduceEqDiff, Nat.add_assoc, Nat.succ_ne_zero]
  simp only [push_cast, Nat.reduceAdd, Nat.reduceLeDiff, Nat.reduceLT, Int.reduceToNat, Nat.left_eq_add, Nat.add_eq_left, Nat.add_left_cancel_iff, Nat.reduceEqDiff, Nat.add_assoc, Nat.succ_ne_zero]
  generalize ((w.alloc (cellsO a.cells 31)).alloc (cellsO b.cells 31)).drew = W at *
  have fin : opS Try.prog (S.cl 54 [.agg a.mac.cells.toArray, .agg b.mac.cells.toArray]) (fun x13 => opS Try.prog (S.buildS 23 2 [(0, i64 (cmpI a.prio b.prio)), (1, x13)]) fun x14 => opS Try.prog (S.cl 50 [x14]) K) W := by
    simp only [push_cast, Nat.reduceAdd, Nat.reduceLeDiff, Nat.reduceLT, Int.reduceToNat, Nat.left_eq_add, Nat.add_eq_left, Nat.add_left_cancel_iff, Nat.reduceEqDiff, Nat.add_assoc, Nat.succ_ne_zero]
    refine mcmp_spec ha.2 hb.2 fun w2 hG2 => ?_
    refine s_bs2c (z := .int .i64 0) rfl rfl rfl fun v w3 hv hF3 _ => ?_
    simp only [push_cast, Nat.reduceAdd, Nat.reduceLeDiff, Nat.reduceLT, Int.reduceToNat, Nat.left_eq_add, Nat.add_eq_left, Nat.add_left_cancel_iff, Nat.reduceEqDiff, Nat.add_assoc, Nat.succ_ne_zero]
    refine cor_spec (l := [cmpI a.prio b.prio, cmpM a.mac b.mac]) hv.rd (by show 2 < 2 ^ 62; decide) ?_
    rw [orL_two]
    exact h _ ((hG.trans hG2.fr).trans hF3)
  repeat' first
    | exact fin
    | with_reducible refine allW_intro ?_ ?_
    | with_reducible refine ccmp_spec ?_
    | simp only [push_cast, Nat.reduceAdd, Nat.reduceLeDiff, Nat.reduceLT, Int.reduceToNat, Nat.left_eq_add, Nat.add_eq_left, Nat.add_left_cancel_iff, Nat.reduceEqDiff, Nat.add_assoc, Nat.succ_ne_zero, h0, h1]

theorem rdcmp_spec {a b : Idn} (ha : a.ok) (hb : b.ok) (h : ∀ w', Fr none_ w w' → K (i64 (cmpD a b)) w') : CallsR Try.prog 17 #[.agg a.cells.toArray, .agg b.cells.toArray] K w := by
  apply c17
  unfold p17
  have hF : Fr none_ w ((w.alloc (cellsO a.cells 31)).alloc (cellsO b.cells 31)) := (by repeat' first | with_reducible exact Fr.refl _ _ | with_reducible refine Fr.step_alloc ?_ ?_ | with_reducible refine Fr.step_drew ?_ | with_reducible refine Fr.step_wr ?_ ?_ _ _ | exact rfl | exact Or.inr (by omega) | exact Or.inl rfl | exact Or.inl (Or.inl rfl) | exact Or.inl (Or.inr rfl))
  have h0 : ((w.alloc (cellsO a.cells 31)).alloc (cellsO b.cells 31)).heap[w.heap.size]? = some (cellsO a.cells 31) := by simp only [push_cast, Nat.reduceAdd, Nat.reduceLeDiff, Nat.reduceLT, Int.reduceToNat, Nat.left_eq_add, Nat.add_eq_left, Nat.add_left_cancel_iff, Nat.reduceEqDiff, Nat.add_assoc, Nat.succ_ne_zero]
  have h1 : ((w.alloc (cellsO a.cells 31)).alloc (cellsO b.cells 31)).heap[w.heap.size + 1]? = some (cellsO b.cells 31) := by simp only [push_cast, Nat.reduceAdd, Nat.reduceLeDiff, Nat.reduceLT, Int.reduceToNat, Nat.left_eq_add, Nat.add_eq_left, Nat.add_left_cancel_iff, Nat.reduceEqDiff, Nat.add_assoc, Nat.succ_ne_zero]
  simp only [push_cast, Nat.reduceAdd, Nat.reduceLeDiff, Nat.reduceLT, Int.reduceToNat, Nat.left_eq_add, Nat.add_eq_left, Nat.add_left_cancel_iff, Nat.reduceEqDiff, Nat.add_assoc, Nat.succ_ne_zero]
  generalize ((w.alloc (cellsO a.cells 31)).alloc (cellsO b.cells 31)) = W at *
  have hc : ∀ c : Int, cmpD a b = c → K (i64 c) W := fun c e => e ▸ h W hF
  refine br_dec (fun h2 => ?_) fun h2 => ?_
  · refine hc _ ?_
    unfold cmpD cmpI
    rw [if_pos h2, if_pos (by decide)]
  · refine br_dec (fun h3 => ?_) fun h3 => ?_
    · refine hc _ ?_
      unfold cmpD cmpI
      rw [if_neg h2, if_pos (show b.prio < a.prio from h3), if_pos (by decide)]
    · have e : cmpD a b = cmpM a.mac b.mac := by
        unfold cmpD
        rw [if_neg]
        unfold cmpI
        rw [if_neg h2, if_neg h3]
        simp
      rw [e] at h
      exact rcmp_spec ha.2 hb.2 fun w2 hF2 => h _ (hF.trans hF2)

/-! ### Ways -/

def cmpV (a b : Vec) : Int := orL [cmpD a.root b.root, cmpI a.cost b.cost, cmpD a.br b.br, cmpI a.port b.port, cmpI a.own b.own]

theorem vcmp_spec {a b : Vec} (ha : a.ok) (hb : b.ok) (h : ∀ w', Fr none_ w w' → K (i64 (cmpV a b)) w') : CallsR Try.prog 40 #[.agg a.cells.toArray, .agg b.cells.toArray] K w := by
  apply c40
  unfold p40
  have hF : Fr none_ w ((w.alloc (cellsO a.cells 36)).alloc (cellsO b.cells 36)) := (by repeat' first | with_reducible exact Fr.refl _ _ | with_reducible refine Fr.step_alloc ?_ ?_ | with_reducible refine Fr.step_drew ?_ | with_reducible refine Fr.step_wr ?_ ?_ _ _ | exact rfl | exact Or.inr (by omega) | exact Or.inl rfl | exact Or.inl (Or.inl rfl) | exact Or.inl (Or.inr rfl))
  have h0 : ((w.alloc (cellsO a.cells 36)).alloc (cellsO b.cells 36)).heap[w.heap.size]? = some (cellsO a.cells 36) := by simp only [push_cast, Nat.reduceAdd, Nat.reduceLeDiff, Nat.reduceLT, Int.reduceToNat, Nat.left_eq_add, Nat.add_eq_left, Nat.add_left_cancel_iff, Nat.reduceEqDiff, Nat.add_assoc, Nat.succ_ne_zero]
  have h1 : ((w.alloc (cellsO a.cells 36)).alloc (cellsO b.cells 36)).heap[w.heap.size + 1]? = some (cellsO b.cells 36) := by simp only [push_cast, Nat.reduceAdd, Nat.reduceLeDiff, Nat.reduceLT, Int.reduceToNat, Nat.left_eq_add, Nat.add_eq_left, Nat.add_left_cancel_iff, Nat.reduceEqDiff, Nat.add_assoc, Nat.succ_ne_zero]
  simp only [opS_box, cells_agg, alloc_cellsO, size_alloc]
  generalize ((w.alloc (cellsO a.cells 36)).alloc (cellsO b.cells 36)) = W at *
  rw [drw_eq]
  refine quietS_intro (Fr none_ W) (Fr.drew W) ?_
  obtain ⟨a0, a1, a2, a3, a4⟩ := ha
  obtain ⟨b0, b1, b2, b3, b4⟩ := hb
  have hd : ∀ {x y : Idn}, x.ok → y.ok → ∀ (R : Value → World → Prop) w', (∀ w'', Fr none_ w' w'' → R (i64 (cmpD x y)) w'') → CallsR Try.prog 51 [.agg x.cells.toArray, .agg y.cells.toArray].toArray R w' := fun hx hy R w' hR => dcmp_spec hx hy hR
  have hi : ∀ {x y : Int}, ∀ (R : Value → World → Prop) w', (∀ w'', Fr none_ w' w'' → R (i64 (cmpI x y)) w'') → CallsR Try.prog 52 [i64 x, i64 y].toArray R w' := fun R w' hR => ccmp_spec (hR _ (Fr.refl _ _))
  refine qt_pure (fun R w' _ => fa36_0 _ _) ?_
  refine qt_ldN (by decide) h0 (by simp only [push_cast, Nat.reduceAdd, Nat.reduceLeDiff, Nat.reduceLT, Int.reduceToNat, Nat.left_eq_add, Nat.add_eq_left, Nat.add_left_cancel_iff, Nat.reduceEqDiff, Nat.add_assoc, Nat.succ_ne_zero]; rfl) ?_
  refine qt_pure (fun R w' _ => fa36_0 _ _) ?_
  refine qt_ldN (by decide) h1 (by simp only [push_cast, Nat.reduceAdd, Nat.reduceLeDiff, Nat.reduceLT, Int.reduceToNat, Nat.left_eq_add, Nat.add_eq_left, Nat.add_left_cancel_iff, Nat.reduceEqDiff, Nat.add_assoc, Nat.succ_ne_zero]; rfl) ?_
  refine qt_cl _ (hd a0 b0) ?_
  refine qt_pure (fun R w' _ => fa36_1 _ _) ?_
  refine qt_ld1 h0 (by simp only [push_cast, Nat.reduceAdd, Nat.reduceLeDiff, Nat.reduceLT, Int.reduceToNat, Nat.left_eq_add, Nat.add_eq_left, Nat.add_left_cancel_iff, Nat.reduceEqDiff, Nat.add_assoc, Nat.succ_ne_zero]; rfl) ?_
  refine qt_pure (fun R w' _ => fa36_1 _ _) ?_
  refine qt_ld1 h1 (by simp only [push_cast, Nat.reduceAdd, Nat.reduceLeDiff, Nat.reduceLT, Int.reduceToNat, Nat.left_eq_add, Nat.add_eq_left, Nat.add_left_cancel_iff, Nat.reduceEqDiff, Nat.add_assoc, Nat.succ_ne_zero]; rfl) ?_
  refine qt_cl _ hi ?_
  refine qt_pure (fun R w' _ => fa36_2 _ _) ?_
  refine qt_ldN (by decide) h0 (by simp only [push_cast, Nat.reduceAdd, Nat.reduceLeDiff, Nat.reduceLT, Int.reduceToNat, Nat.left_eq_add, Nat.add_eq_left, Nat.add_left_cancel_iff, Nat.reduceEqDiff, Nat.add_assoc, Nat.succ_ne_zero]; rfl) ?_
  refine qt_pure (fun R w' _ => fa36_2 _ _) ?_
  refine qt_ldN (by decide) h1 (by simp only [push_cast, Nat.reduceAdd, Nat.reduceLeDiff, Nat.reduceLT, Int.reduceToNat, Nat.left_eq_add, Nat.add_eq_left, Nat.add_left_cancel_iff, Nat.reduceEqDiff, Nat.add_assoc, Nat.succ_ne_zero]; rfl) ?_
  refine qt_cl _ (hd a2 b2) ?_
  refine qt_pure (fun R w' _ => fa36_3 _ _) ?_
  refine qt_ld1 h0 (by simp only [push_cast, Nat.reduceAdd, Nat.reduceLeDiff, Nat.reduceLT, Int.reduceToNat, Nat.left_eq_add, Nat.add_eq_left, Nat.add_left_cancel_iff, Nat.reduceEqDiff, Nat.add_assoc, Nat.succ_ne_zero]; rfl) ?_
  refine qt_pure (fun R w' _ => fa36_3 _ _) ?_
  refine qt_ld1 h1 (by simp only [push_cast, Nat.reduceAdd, Nat.reduceLeDiff, Nat.reduceLT, Int.reduceToNat, Nat.left_eq_add, Nat.add_eq_left, Nat.add_left_cancel_iff, Nat.reduceEqDiff, Nat.add_assoc, Nat.succ_ne_zero]; rfl) ?_
  refine qt_cl _ hi ?_
  refine qt_pure (fun R w' _ => fa36_4 _ _) ?_
  refine qt_ld1 h0 (by simp only [push_cast, Nat.reduceAdd, Nat.reduceLeDiff, Nat.reduceLT, Int.reduceToNat, Nat.left_eq_add, Nat.add_eq_left, Nat.add_left_cancel_iff, Nat.reduceEqDiff, Nat.add_assoc, Nat.succ_ne_zero]; rfl) ?_
  refine qt_pure (fun R w' _ => fa36_4 _ _) ?_
  refine qt_ld1 h1 (by simp only [push_cast, Nat.reduceAdd, Nat.reduceLeDiff, Nat.reduceLT, Int.reduceToNat, Nat.left_eq_add, Nat.add_eq_left, Nat.add_left_cancel_iff, Nat.reduceEqDiff, Nat.add_assoc, Nat.succ_ne_zero]; rfl) ?_
  refine qendS_intro fun w2 hF2 => ?_
  simp only [push_cast, Nat.reduceAdd, Nat.reduceLeDiff, Nat.reduceLT, Int.reduceToNat, Nat.left_eq_add, Nat.add_eq_left, Nat.add_left_cancel_iff, Nat.reduceEqDiff, Nat.add_assoc, Nat.succ_ne_zero]
  refine ccmp_spec ?_
  refine s_bsN (z := .int .i64 0) [i64 (cmpD a.root b.root), i64 (cmpI a.cost b.cost), i64 (cmpD a.br b.br), i64 (cmpI a.port b.port), i64 (cmpI a.own b.own)] (by show 0 < 5; decide) (by decide) (by show 5 * 1 ≤ 2 ^ 24; decide) rfl (by simp [Value.cells]) fun v w3 hv hF3 _ => ?_
  simp only [push_cast, Nat.reduceAdd, Nat.reduceLeDiff, Nat.reduceLT, Int.reduceToNat, Nat.left_eq_add, Nat.add_eq_left, Nat.add_left_cancel_iff, Nat.reduceEqDiff, Nat.add_assoc, Nat.succ_ne_zero]
  refine cor_spec (l := [cmpD a.root b.root, cmpI a.cost b.cost, cmpD a.br b.br, cmpI a.port b.port, cmpI a.own b.own]) hv.rd (by show 5 < 2 ^ 62; decide) ?_
  exact h _ ((hF.trans hF2).trans hF3)

end Go.Gx.S
end

section
/- Ways that cost more, that are offered, and told. -/
set_option linter.unusedVariables false
set_option linter.unusedSimpArgs false
set_option maxRecDepth 100000
namespace Go.Gx.S
open Go Go.Gx Go.Proofs
variable {K : Value → World → Prop} {w : World}

def zId : Idn := ⟨0, ⟨0, 0, 0, 0, 0, 0⟩⟩
def zVec : Vec := ⟨zId, 0, zId, 0, 0⟩
theorem zVec_ok : zVec.ok := by simp [zVec, zId, Vec.ok, Idn.ok, Mac.ok, isB, isI_iff]
theorem zalloc_vec : opS Try.prog (S.alloc 36) K w = K (pt w.heap.size 0) (w.alloc (cellsO zVec.cells 36)) := by
  rw [opS_alloc]; rfl
theorem build_vec0 : opS Try.prog (S.build 36 []) K w = K (.agg zVec.cells.toArray) w := by
  rw [opS_build _ rfl]; rfl
theorem build_vec2 {a b : Idn} : opS Try.prog (S.build 36 [(0, .agg a.cells.toArray), (2, .agg b.cells.toArray)]) K w = K (.agg (Vec.cells ⟨a, 0, b, 0, 0⟩).toArray) w := by
  rw [opS_build _ rfl]; rfl
theorem build_vec4 {a b : Idn} {c p : Int} : opS Try.prog (S.build 36 [(0, .agg a.cells.toArray), (1, i64 c), (2, .agg b.cells.toArray), (3, i64 p)]) K w = K (.agg (Vec.cells ⟨a, c, b, p, 0⟩).toArray) w := by
  rw [opS_build _ rfl]; rfl
theorem build_vec5 {a b : Idn} {c p o : Int} : opS Try.prog (S.build 36 [(0, .agg a.cells.toArray), (1, i64 c), (2, .agg b.cells.toArray), (3, i64 p), (4, i64 o)]) K w = K (.agg (Vec.cells ⟨a, c, b, p, o⟩).toArray) w := by
  rw [opS_build _ rfl]; rfl

/-! ### A way that costs more -/

def costB (n : Int) : Bool := decide (0 ≤ n) && decide (n ≤ 4294967295)
def addV (v : Vec) (c : Int) : Vec := if costB v.cost && costB c then { v with cost := if v.cost + c ≤ 4294967295 then v.cost + c else 4294967295 } else v

theorem costB_iff {n : Int} : costB n = true ↔ 0 ≤ n ∧ n ≤ 4294967295 := by unfold costB; simp

theorem costs_spec {n : Int} (h : K (.bool (costB n)) w) : CallsR Try.prog 49 #[i64 n] K w := by
  apply c49
  unfold p49
  unfold costB at h
  simp only [push_cast, Nat.reduceAdd, Nat.reduceLeDiff, Nat.reduceLT, Int.reduceToNat, Nat.left_eq_add, Nat.add_eq_left, Nat.add_left_cancel_iff, Nat.reduceEqDiff, Nat.add_assoc, Nat.succ_ne_zero]
  refine br_dec (fun h1 => ?_) fun h1 => ?_
  · rw [decide_eq_true (show 0 ≤ n from h1), Bool.true_and] at h
    exact h
  · rw [decide_eq_false (show ¬ 0 ≤ n from h1), Bool.false_and] at h
    exact h

theorem add_spec {v : Vec} {c : Int} (hv : v.ok) (h : ∀ w', Fr none_ w w' → K (.agg (addV v c).cells.toArray) w') : CallsR Try.prog 39 #[.agg v.cells.toArray, i64 c] K w := by
  apply c39
  unfold p39
  simp only [opS_box, cells_agg, alloc_cellsO]
  rw [zalloc_vec]
  have hF : Fr none_ w ((w.alloc (cellsO v.cells 36)).alloc (cellsO zVec.cells 36)) := (by repeat' first | with_reducible exact Fr.refl _ _ | with_reducible refine Fr.step_alloc ?_ ?_ | with_reducible refine Fr.step_drew ?_ | with_reducible refine Fr.step_wr ?_ ?_ _ _ | exact rfl | exact Or.inr (by omega) | exact Or.inl rfl | exact Or.inl (Or.inl rfl) | exact Or.inl (Or.inr rfl))
  have h0 : ((w.alloc (cellsO v.cells 36)).alloc (cellsO zVec.cells 36)).heap[w.heap.size]? = some (cellsO v.cells 36) := by simp only [push_cast, Nat.reduceAdd, Nat.reduceLeDiff, Nat.reduceLT, Int.reduceToNat, Nat.left_eq_add, Nat.add_eq_left, Nat.add_left_cancel_iff, Nat.reduceEqDiff, Nat.add_assoc, Nat.succ_ne_zero]
  have h1 : ((w.alloc (cellsO v.cells 36)).alloc (cellsO zVec.cells 36)).heap[w.heap.size + 1]? = some (cellsO zVec.cells 36) := by simp only [push_cast, Nat.reduceAdd, Nat.reduceLeDiff, Nat.reduceLT, Int.reduceToNat, Nat.left_eq_add, Nat.add_eq_left, Nat.add_left_cancel_iff, Nat.reduceEqDiff, Nat.add_assoc, Nat.succ_ne_zero]
  simp only [size_alloc]
  generalize (w.alloc (cellsO v.cells 36)).alloc (cellsO zVec.cells 36) = W at *
  unfold addV at h
  simp only [push_cast, Nat.reduceAdd, Nat.reduceLeDiff, Nat.reduceLT, Int.reduceToNat, Nat.left_eq_add, Nat.add_eq_left, Nat.add_left_cancel_iff, Nat.reduceEqDiff, Nat.add_assoc, Nat.succ_ne_zero, h0]
  refine costs_spec ?_
  simp only [push_cast, Nat.reduceAdd, Nat.reduceLeDiff, Nat.reduceLT, Int.reduceToNat, Nat.left_eq_add, Nat.add_eq_left, Nat.add_left_cancel_iff, Nat.reduceEqDiff, Nat.add_assoc, Nat.succ_ne_zero]
  refine br_intro (fun e1 => ?_) fun e1 => ?_
  · refine costs_spec ?_
    rw [e1, Bool.true_and] at h
    simp only [push_cast, Nat.reduceAdd, Nat.reduceLeDiff, Nat.reduceLT, Int.reduceToNat, Nat.left_eq_add, Nat.add_eq_left, Nat.add_left_cancel_iff, Nat.reduceEqDiff, Nat.add_assoc, Nat.succ_ne_zero]
    refine br_intro (fun e2 => ?_) fun e2 => ?_
    · rw [e2, if_pos rfl] at h
      have c1 := costB_iff.1 e1
      have c2 := costB_iff.1 e2
      simp only [push_cast, Nat.reduceAdd, Nat.reduceLeDiff, Nat.reduceLT, Int.reduceToNat, Nat.left_eq_add, Nat.add_eq_left, Nat.add_left_cancel_iff, Nat.reduceEqDiff, Nat.add_assoc, Nat.succ_ne_zero, h0]
      rw [wrap_i64 (by omega)]
      have hne : w.heap.size ≠ w.heap.size + 1 := by omega
      simp only [push_cast, Nat.reduceAdd, Nat.reduceLeDiff, Nat.reduceLT, Int.reduceToNat, Nat.left_eq_add, Nat.add_eq_left, Nat.add_left_cancel_iff, Nat.reduceEqDiff, Nat.add_assoc, Nat.succ_ne_zero, h0, h1]
      exact h _ ((hF.step_wr (.inr (by omega)) _ _).step_wr (.inr (by omega)) _ _)
    · rw [e2, if_neg (by decide)] at h
      simp only [push_cast, Nat.reduceAdd, Nat.reduceLeDiff, Nat.reduceLT, Int.reduceToNat, Nat.left_eq_add, Nat.add_eq_left, Nat.add_left_cancel_iff, Nat.reduceEqDiff, Nat.add_assoc, Nat.succ_ne_zero, h0, h1]
      exact h _ (hF.step_wr (.inr (by omega)) _ _)
  · rw [e1, Bool.false_and, if_neg (by decide)] at h
    simp only [push_cast, Nat.reduceAdd, Nat.reduceLeDiff, Nat.reduceLT, Int.reduceToNat, Nat.left_eq_add, Nat.add_eq_left, Nat.add_left_cancel_iff, Nat.reduceEqDiff, Nat.add_assoc, Nat.succ_ne_zero, h0, h1]
    exact h _ (hF.step_wr (.inr (by omega)) _ _)

/-! ### A way that is offered -/

def offer (me : Idn) (best : Vec) (port : Int) : Vec := ⟨best.root, best.cost, me, port, 0⟩

theorem offer_spec {me : Idn} {best : Vec} {port : Int} (h : ∀ w', Fr none_ w w' → K (.agg (offer me best port).cells.toArray) w') : CallsR Try.prog 41 #[.agg me.cells.toArray, .agg best.cells.toArray, i64 port] K w := by
  apply c41
  unfold p41
  simp only [opS_box, cells_agg, alloc_cellsO]
  rw [zalloc_vec]
  simp only [push_cast, Nat.reduceAdd, Nat.reduceLeDiff, Nat.reduceLT, Int.reduceToNat, Nat.left_eq_add, Nat.add_eq_left, Nat.add_left_cancel_iff, Nat.reduceEqDiff, Nat.add_assoc, Nat.succ_ne_zero]
  rw [build_vec4]
  simp only [push_cast, Nat.reduceAdd, Nat.reduceLeDiff, Nat.reduceLT, Int.reduceToNat, Nat.left_eq_add, Nat.add_eq_left, Nat.add_left_cancel_iff, Nat.reduceEqDiff, Nat.add_assoc, Nat.succ_ne_zero]
  exact h _ (by repeat' first | with_reducible exact Fr.refl _ _ | with_reducible refine Fr.step_alloc ?_ ?_ | with_reducible refine Fr.step_drew ?_ | with_reducible refine Fr.step_wr ?_ ?_ _ _ | exact rfl | exact Or.inr (by omega) | exact Or.inl rfl | exact Or.inl (Or.inl rfl) | exact Or.inl (Or.inr rfl))
/-! ### What may be told -/

def inR (n m : Int) : Bool := decide (0 ≤ n) && decide (n < m)
def zBpd : Bpd := ⟨0, 0, zId, 0, zId, 0, 0, 0, 0, 0⟩
/-- of each field whether it may be -/
def oksB (x : Bpd) : List Bool := [inR x.flags 256, inR x.root.prio 65536, true, inR x.cost 4294967296, inR x.br.prio 65536, true, inR x.port 65536, inR x.age 65536, inR x.maxAge 65536, inR x.hello 65536, inR x.forward 65536]
def rightP (x : Bpd) : Bool := if x.kind = 128 then decide (x = { zBpd with kind := 128 }) else (decide (x.kind = 0) || decide (x.kind = 2)) && (oksB x).all id

theorem build_bpd1 {k : Int} : opS Try.prog (S.build 50 [(0, i64 k)]) K w = K (.agg (Bpd.cells { zBpd with kind := k }).toArray) w := by
  rw [opS_build _ rfl]; rfl

theorem isI_const {n : Int} (h0 : 0 ≤ n) (h1 : n ≤ 4294967296) : isI n := isI_iff.2 (by omega)
theorem zBpd_ok {k : Int} (hk : isI k) : ({ zBpd with kind := k } : Bpd).ok := by
  refine ⟨hk, ?_⟩
  simp [zBpd, zId, Idn.ok, Mac.ok, isB, isI_iff]

/-! ### What may be told: field by field -/

theorem build_fld {b o : Nat} {n : Int} : opS Try.prog (S.build 90 [(0, pt b o), (1, i64 n)]) K w = K (.agg #[pt b o, i64 n]) w := by
  rw [opS_build _ rfl]; rfl
theorem build_fld0 {n : Int} : opS Try.prog (S.build 90 [(0, .pointer none), (1, i64 n)]) K w = K (.agg #[.pointer none, i64 n]) w := by
  rw [opS_build _ rfl]; rfl

/-- the fields of a BPDU that lies in a block -/
def fldC (b : Nat) : List (List Value) := [[pt b 1, i64 1], [pt b 2, i64 2], [.pointer none, i64 0], [pt b 9, i64 4], [pt b 10, i64 2], [.pointer none, i64 1], [pt b 17, i64 2], [pt b 18, i64 2], [pt b 19, i64 2], [pt b 20, i64 2], [pt b 21, i64 2]]

theorem fields_spec {b : Nat} (h : ∀ v w', OwnE 90 2 w' v (fldC b) → Fr none_ w w' → New w v → K v w') : CallsR Try.prog 53 #[pt b 0] K w := by
  apply c53
  unfold p53
  have e : ∀ (R : Value → World → Prop) w n o, opS Try.prog (S.build 90 [(0, pt b o), (1, .int .i64 n)]) R w = R (.agg #[pt b o, i64 n]) w := fun R w n o => build_fld
  have e0 : ∀ (R : Value → World → Prop) w n, opS Try.prog (S.build 90 [(0, .pointer none), (1, .int .i64 n)]) R w = R (.agg #[.pointer none, i64 n]) w := fun R w n => build_fld0
  simp only [push_cast, Nat.reduceAdd, Nat.reduceLeDiff, Nat.reduceLT, Int.reduceToNat, Nat.left_eq_add, Nat.add_eq_left, Nat.add_left_cancel_iff, Nat.reduceEqDiff, Nat.add_assoc, Nat.succ_ne_zero, e, e0]
  refine s_bsN (z := .agg #[.pointer none, .int .i64 0]) [.agg #[pt b 1, i64 1], .agg #[pt b 2, i64 2], .agg #[.pointer none, i64 0], .agg #[pt b 9, i64 4], .agg #[pt b 10, i64 2], .agg #[.pointer none, i64 1], .agg #[pt b 17, i64 2], .agg #[pt b 18, i64 2], .agg #[pt b 19, i64 2], .agg #[pt b 20, i64 2], .agg #[pt b 21, i64 2]]
    (by show 0 < 11; decide) (by decide) (by show 11 * 2 ≤ 2 ^ 24; decide) rfl (by simp [Value.cells]) fun v w' h1 h2 h3 => ?_
  exact h v _ h1 (((Fr.refl none_ w).step_drew).trans h2) h3

/-- a slot that tells whether all fields so far may be -/
structure WI (w : World) (x : Bpd) (b f : Nat) (k : Nat) (w' : World) : Prop where
  hx : w'.heap[b]? = some (cellsO x.cells 50)
  hf : w'.heap[f]? = some (cellsO [.bool (((oksB x).take k).all id)] 4)
  hr : Fr (fun y => y = f) w w'

theorem WI.stay {x : Bpd} {b f k : Nat} {w' w'' : World} (h : WI w x b f k w') (hF : Fr none_ w' w'') : WI w x b f k w'' := ⟨hF.heap h.hx fun h => h, hF.heap h.hf fun h => h, h.hr.trans_new hF fun _ _ h => h.elim⟩

theorem oks_take {x : Bpd} {k : Nat} (hk : k < 11) {o : Bool} (ho : (oksB x)[k]? = some o) : (((oksB x).take (k + 1)).all id) = ((((oksB x).take k).all id) && o) := by
  rw [List.take_add_one, ho]
  simp [List.all_append]

theorem rone_spec {x : Bpd} {b f k o : Nat} {v n m : Int} {w' : World} (h : WI w x b f k w') (hbf : b ≠ f) (hk : k < 11) (hv : x.cells[o]? = some (i64 v)) (hn : 0 ≤ n) (hn8 : 8 * n ≤ 32) (hm : (2 : Int) ^ (8 * n).toNat = m) (ho : (oksB x)[k]? = some (inR v m))
    (hK : ∀ w'', WI w x b f (k + 1) w'' → Fr (fun y => y = f) w' w'' → K (.tuple #[]) w'') : CallsR Try.prog 45 #[.agg #[pt b o, i64 n], pt f 0] K w' := by
  apply c45
  unfold p45
  have hF : Fr none_ w' (w'.alloc (cellsO [pt b o, i64 n] 90)).drew := (by repeat' first | with_reducible exact Fr.refl _ _ | with_reducible refine Fr.step_alloc ?_ ?_ | with_reducible refine Fr.step_drew ?_ | with_reducible refine Fr.step_wr ?_ ?_ _ _ | exact rfl | exact Or.inr (by omega) | exact Or.inl rfl | exact Or.inl (Or.inl rfl) | exact Or.inl (Or.inr rfl))
  have hx0 : (w'.alloc (cellsO [pt b o, i64 n] 90)).drew.heap[w'.heap.size]? = some (cellsO [pt b o, i64 n] 90) := by simp only [push_cast, Nat.reduceAdd, Nat.reduceLeDiff, Nat.reduceLT, Int.reduceToNat, Nat.left_eq_add, Nat.add_eq_left, Nat.add_left_cancel_iff, Nat.reduceEqDiff, Nat.add_assoc, Nat.succ_ne_zero]
  have ea : (Value.agg #[pt b o, i64 n]) = .agg [pt b o, i64 n].toArray := rfl
  rw [ea]
  simp only [opS_box, cells_agg, alloc_cellsO, drw_eq]
  have h1 := h.stay hF
  generalize (w'.alloc (cellsO [pt b o, i64 n] 90)).drew = W at *
  generalize w'.heap.size = s at *
  have hW : ∀ c : Bool, ((((oksB x).take (k + 1)).all id) = c) → WI w x b f (k + 1) (wr W f 0 [.bool c]) := fun c e => by
    refine ⟨?_, ?_, h1.hr.step_wr (.inl rfl) _ _⟩
    · rw [heap_wr, if_neg hbf]; exact h1.hx
    · rw [heap_wr, if_pos rfl, h1.hf, putAt_cells, e]; rfl
  simp only [push_cast, Nat.reduceAdd, Nat.reduceLeDiff, Nat.reduceLT, Int.reduceToNat, Nat.left_eq_add, Nat.add_eq_left, Nat.add_left_cancel_iff, Nat.reduceEqDiff, Nat.add_assoc, Nat.succ_ne_zero, h1.hf]
  refine br_intro (fun e1 => ?_) fun e1 => ?_
  · simp only [push_cast, Nat.reduceAdd, Nat.reduceLeDiff, Nat.reduceLT, Int.reduceToNat, Nat.left_eq_add, Nat.add_eq_left, Nat.add_left_cancel_iff, Nat.reduceEqDiff, Nat.add_assoc, Nat.succ_ne_zero, hx0]
    simp only [push_cast, Nat.reduceAdd, Nat.reduceLeDiff, Nat.reduceLT, Int.reduceToNat, Nat.left_eq_add, Nat.add_eq_left, Nat.add_left_cancel_iff, Nat.reduceEqDiff, Nat.add_assoc, Nat.succ_ne_zero, h1.hx, hv]
    refine br_dec (fun e2 => ?_) fun e2 => ?_
    · simp only [push_cast, Nat.reduceAdd, Nat.reduceLeDiff, Nat.reduceLT, Int.reduceToNat, Nat.left_eq_add, Nat.add_eq_left, Nat.add_left_cancel_iff, Nat.reduceEqDiff, Nat.add_assoc, Nat.succ_ne_zero, hx0]
      simp only [push_cast, Nat.reduceAdd, Nat.reduceLeDiff, Nat.reduceLT, Int.reduceToNat, Nat.left_eq_add, Nat.add_eq_left, Nat.add_left_cancel_iff, Nat.reduceEqDiff, Nat.add_assoc, Nat.succ_ne_zero, h1.hx, hv]
      rw [wrap_i64 (by omega)]
      obtain ⟨q, hq⟩ := Int.eq_ofNat_of_zero_le (show 0 ≤ 8 * n by omega)
      have esh : ∀ (R : Value → World → Prop) W, opS Try.prog (S.binI .shl (.int .i64 1) (.int .i64 (8 * n))) R W = R (i64 m) W := fun R W => by
        rw [hq, opS_shl .i64 .i64 1 q (by show q ≤ 64; omega)]
        have e : (1 : Int) * 2 ^ q = m := by rw [← hm, hq, Int.toNat_natCast, Int.one_mul]
        have hle : (2 : Int) ^ q ≤ 2 ^ 32 := by
          have : (2 : Nat) ^ q ≤ 2 ^ 32 := Nat.pow_le_pow_right (by decide) (by omega)
          exact_mod_cast this
        have hge : (0 : Int) < 2 ^ q := Int.pow_pos (by decide)
        rw [wrap_i64 (by omega), e]
      rw [esh]
      simp only [push_cast, Nat.reduceAdd, Nat.reduceLeDiff, Nat.reduceLT, Int.reduceToNat, Nat.left_eq_add, Nat.add_eq_left, Nat.add_left_cancel_iff, Nat.reduceEqDiff, Nat.add_assoc, Nat.succ_ne_zero, h1.hf]
      refine hK _ (hW _ ?_) (Fr.step_wr (fp := fun y => y = f) (hF.mono fun _ _ h => h.elim) (.inl rfl) _ _)
      rw [oks_take hk ho, e1, Bool.true_and]
      unfold inR
      rw [decide_eq_true (show 0 ≤ v from e2), Bool.true_and]
    · simp only [push_cast, Nat.reduceAdd, Nat.reduceLeDiff, Nat.reduceLT, Int.reduceToNat, Nat.left_eq_add, Nat.add_eq_left, Nat.add_left_cancel_iff, Nat.reduceEqDiff, Nat.add_assoc, Nat.succ_ne_zero, h1.hf]
      refine hK _ (hW _ ?_) (Fr.step_wr (fp := fun y => y = f) (hF.mono fun _ _ h => h.elim) (.inl rfl) _ _)
      rw [oks_take hk ho, e1, Bool.true_and]
      unfold inR
      rw [decide_eq_false (show ¬ 0 ≤ v from e2), Bool.false_and]
  · refine hK _ (hW _ ?_) (Fr.step_wr (fp := fun y => y = f) (hF.mono fun _ _ h => h.elim) (.inl rfl) _ _)
    rw [oks_take hk ho, e1, Bool.false_and]

theorem rtwo_addr {v : Value} (h : K (.tuple #[]) w) : CallsR Try.prog 46 #[v] K w := by
  apply c46
  unfold p46
  exact h

theorem fld_at (x : Bpd) (b : Nat) {k : Nat} (hk : k < 11) : (∃ (o : Nat) (n v m : Int), (fldC b)[k]? = some [pt b o, i64 n] ∧ x.cells[o]? = some (i64 v) ∧ 0 ≤ n ∧ 8 * n ≤ 32 ∧ (2 : Int) ^ (8 * n).toNat = m ∧ (oksB x)[k]? = some (inR v m)) ∨
    (∃ j : Nat, j < 2 ∧ (fldC b)[k]? = some [.pointer none, i64 j] ∧ (oksB x)[k]? = some true) := by
  match k, hk with
  | 0, _ => exact .inl ⟨1, 1, x.flags, 256, rfl, rfl, by decide, by decide, by decide, rfl⟩
  | 1, _ => exact .inl ⟨2, 2, x.root.prio, 65536, rfl, rfl, by decide, by decide, by decide, rfl⟩
  | 2, _ => exact .inr ⟨0, by decide, rfl, rfl⟩
  | 3, _ => exact .inl ⟨9, 4, x.cost, 4294967296, rfl, rfl, by decide, by decide, by decide, rfl⟩
  | 4, _ => exact .inl ⟨10, 2, x.br.prio, 65536, rfl, rfl, by decide, by decide, by decide, rfl⟩
  | 5, _ => exact .inr ⟨1, by decide, rfl, rfl⟩
  | 6, _ => exact .inl ⟨17, 2, x.port, 65536, rfl, rfl, by decide, by decide, by decide, rfl⟩
  | 7, _ => exact .inl ⟨18, 2, x.age, 65536, rfl, rfl, by decide, by decide, by decide, rfl⟩
  | 8, _ => exact .inl ⟨19, 2, x.maxAge, 65536, rfl, rfl, by decide, by decide, by decide, rfl⟩
  | 9, _ => exact .inl ⟨20, 2, x.hello, 65536, rfl, rfl, by decide, by decide, by decide, rfl⟩
  | 10, _ => exact .inl ⟨21, 2, x.forward, 65536, rfl, rfl, by decide, by decide, by decide, rfl⟩

theorem build_two {b : Nat} : opS Try.prog (S.build 100 [(0, pt b 3), (1, pt b 11)]) K w = K (.agg #[pt b 3, pt b 11]) w := by
  rw [opS_build _ rfl]; rfl
theorem zalloc_fld : opS Try.prog (S.alloc 90) K w = K (pt w.heap.size 0) (w.alloc (cellsO [.pointer none, i64 0] 90)) := by
  rw [opS_alloc]; rfl

theorem walk_spec {x : Bpd} {b f : Nat} (h : WI w x b f 0 w) (hbf : b ≠ f) (hK : ∀ w', WI w x b f 11 w' → K (.tuple #[]) w') :
    CallsR Try.prog 44 #[pt b 0, .func (.func 45) #[] #[pt f 0], .func (.func 46) #[] #[]] K w := by
  apply c44
  unfold p44
  have e2 : ∀ (R : Value → World → Prop) w, opS Try.prog (S.build 100 [(0, pt b 3), (1, pt b 11)]) R w = R (.agg [pt b 3, pt b 11].toArray) w := fun R w => build_two
  have o2 : [pt b 3, pt b 11].all S.oneCell = true := rfl
  have flt := lt_of_heap h.hf
  have blt := lt_of_heap h.hx
  simp only [push_cast, Nat.reduceAdd, Nat.reduceLeDiff, Nat.reduceLT, Int.reduceToNat, Nat.left_eq_add, Nat.add_eq_left, Nat.add_left_cancel_iff, Nat.reduceEqDiff, Nat.add_assoc, Nat.succ_ne_zero, e2, o2]
  refine at_w (fun W => WI w x b f 0 W ∧ W.heap[w.heap.size]? = some (cellsO [pt b 3, pt b 11] 100)) ⟨?_, ?_⟩ ?_
  · have : Fr none_ w (wr (w.drew.alloc (cellsO [.pointer none, .pointer none] 100)) w.heap.size 0 [pt b 3, pt b 11]) := (by repeat' first | with_reducible exact Fr.refl _ _ | with_reducible refine Fr.step_alloc ?_ ?_ | with_reducible refine Fr.step_drew ?_ | with_reducible refine Fr.step_wr ?_ ?_ _ _ | exact rfl | exact Or.inr (by omega) | exact Or.inl rfl | exact Or.inl (Or.inl rfl) | exact Or.inl (Or.inr rfl))
    exact h.stay this
  · simp only [push_cast, Nat.reduceAdd, Nat.reduceLeDiff, Nat.reduceLT, Int.reduceToNat, Nat.left_eq_add, Nat.add_eq_left, Nat.add_left_cancel_iff, Nat.reduceEqDiff, Nat.add_assoc, Nat.succ_ne_zero]
  rintro W0 ⟨hI0, hm0⟩
  refine fields_spec fun v W1 hv hF1 hN1 => ?_
  have hI1 := hI0.stay hF1
  have hm1 := hF1.heap hm0 fun h => h
  obtain ⟨va, vc, hva⟩ := hv.rd.form
  have hlen : (fldC b).length = 11 := rfl
  rw [hlen] at hva
  have elen : ∀ (R : Value → World → Prop) W, opS Try.prog (S.len v) R W = R (i64 11) W := fun R W => by rw [hva]; rfl
  rw [elen]
  refine jn0 (WI w x b f 11) (fun w' hI => hK w' hI) fun j hj => ?_
  have hvb : ∀ y, blkS v = some y → y ≠ f := fun y hy e => by
    have := hN1 y hy
    have := hI0.hr.size
    omega
  refine loop1 (fun n u W => ∃ k : Nat, k ≤ 11 ∧ n = 11 - k ∧ u = i64 k ∧ WI w x b f k W ∧ W.heap[w.heap.size]? = some (cellsO [pt b 3, pt b 11] 100) ∧ OwnE 90 2 W v (fldC b)) ?_ 11 ⟨0, by omega, rfl, rfl, hI1, hm1, hv⟩
  rintro n u W X ⟨k, hk, rfl, rfl, hI, hm, ho⟩ hX
  simp only [push_cast, Nat.reduceAdd, Nat.reduceLeDiff, Nat.reduceLT, Int.reduceToNat, Nat.left_eq_add, Nat.add_eq_left, Nat.add_left_cancel_iff, Nat.reduceEqDiff, Nat.add_assoc, Nat.succ_ne_zero]
  refine br_dec (fun hlt => ?_) fun hge => ?_
  · refine s_iaE ho.rd (by omega) (by rw [hlen]; omega) fun b' o' c' hv' he => ?_
    have hkk : k < 11 := by omega
    obtain ⟨e, hee⟩ : ∃ e, (fldC b)[(k : Int).toNat]'(by rw [hlen]; omega) = e := ⟨_, rfl⟩
    rw [hee] at he
    have hel : (fldC b)[k]? = some e := by
      rw [← hee]
      exact List.getElem?_eq_getElem (l := fldC b) (i := k) (by rw [hlen]; omega)
    generalize o' + (k : Int).toNat * 2 = p' at *
    -- a round's own slot
    have round : ∀ (e : List Value) (R : Value → World → Prop), El W b' p' e → e.length = 2 → e.all S.oneCell = true → (∀ W', WI w x b f k W' → W'.heap[w.heap.size]? = some (cellsO [pt b 3, pt b 11] 100) → OwnE 90 2 W' v (fldC b) → W'.heap[W.heap.size]? = some (cellsO e 90) → R (pt W.heap.size 0) W') →
        opS Try.prog (S.ld 90 (pt b' p')) (fun x17 => opS Try.prog (S.alloc 90) fun x18 => opS Try.prog (S.st 90 x18 x17) fun _ => R x18) W := by
      intro e R he hl hone hR
      rw [s_ldN (by decide), he.agg0 hl, onS_some, zalloc_fld]
      have hFa : Fr none_ W (wr (W.alloc (cellsO [.pointer none, i64 0] 90)) W.heap.size 0 e) := (by repeat' first | with_reducible exact Fr.refl _ _ | with_reducible refine Fr.step_alloc ?_ ?_ | with_reducible refine Fr.step_drew ?_ | with_reducible refine Fr.step_wr ?_ ?_ _ _ | exact rfl | exact Or.inr (by omega) | exact Or.inl rfl | exact Or.inl (Or.inl rfl) | exact Or.inl (Or.inr rfl))
      rw [s_stA (n := 2) _ _ _ hl hone]
      have : okAt (W.alloc (cellsO [.pointer none, i64 0] 90)).heap[W.heap.size]? 0 2 = true := by rw [heap_alloc_new]; rfl
      rw [this, onB_true]
      refine hR _ (hI.stay hFa) (hFa.heap hm fun h => h) (ho.fr hFa fun _ _ h => h) ?_
      rw [heap_wr, if_pos rfl, heap_alloc_new, putAt_cells]
      match e, hl with
      | [a, c], _ => rfl
    have next : ∀ W', WI w x b f (k + 1) W' → W'.heap[w.heap.size]? = some (cellsO [pt b 3, pt b 11] 100) → OwnE 90 2 W' v (fldC b) → X (i64 (k + 1)) W' := fun W' h1 h2 h3 => hX (11 - (k + 1)) _ _ (by omega) ⟨k + 1, by omega, rfl, rfl, h1, h2, h3⟩
    rcases fld_at x b hkk with ⟨o, n, v', m, h1, h2, h3, h4, h5, h6⟩ | ⟨q, hq, h1, h6⟩
    · rw [hel] at h1
      cases h1
      refine round _ _ he rfl rfl fun W' hI' hm' ho' hs => ?_
      simp only [push_cast, Nat.reduceAdd, Nat.reduceLeDiff, Nat.reduceLT, Int.reduceToNat, Nat.left_eq_add, Nat.add_eq_left, Nat.add_left_cancel_iff, Nat.reduceEqDiff, Nat.add_assoc, Nat.succ_ne_zero, hs]
      refine rone_spec hI' hbf hkk h2 h3 h4 h5 h6 fun W2 hI2 hF2 => ?_
      simp only [push_cast, Nat.reduceAdd, Nat.reduceLeDiff, Nat.reduceLT, Int.reduceToNat, Nat.left_eq_add, Nat.add_eq_left, Nat.add_left_cancel_iff, Nat.reduceEqDiff, Nat.add_assoc, Nat.succ_ne_zero]
      rw [wrap_i64 (by omega)]
      exact next W2 hI2 (hF2.heap hm' (by omega)) (ho'.fr hF2 fun y hy e => hvb y hy e)
    · rw [hel] at h1
      cases h1
      refine round _ _ he rfl rfl fun W' hI' hm' ho' hs => ?_
      have hia : ∀ (R : Value → World → Prop) W, opS Try.prog (S.ia 100 (pt w.heap.size 0) (i64 q)) R W = R (pt w.heap.size q) W := fun R W => by
        rw [opS_iaA w.heap.size 0 .i64 (q : Int) (by omega), Int.toNat_natCast, Nat.mul_one, Nat.zero_add]
      have hI2 : WI w x b f (k + 1) W' := ⟨hI'.hx, by rw [oks_take hkk h6, Bool.and_true]; exact hI'.hf, hI'.hr⟩
      simp only [push_cast, Nat.reduceAdd, Nat.reduceLeDiff, Nat.reduceLT, Int.reduceToNat, Nat.left_eq_add, Nat.add_eq_left, Nat.add_left_cancel_iff, Nat.reduceEqDiff, Nat.add_assoc, Nat.succ_ne_zero, hs, hia, hm']
      have hq2 : ∃ y, [pt b 3, pt b 11][q]? = some y := by
        match q, hq with
        | 0, _ => exact ⟨_, rfl⟩
        | 1, _ => exact ⟨_, rfl⟩
      obtain ⟨y, hy⟩ := hq2
      rw [hy, onS_some]
      refine rtwo_addr ?_
      simp only [push_cast, Nat.reduceAdd, Nat.reduceLeDiff, Nat.reduceLT, Int.reduceToNat, Nat.left_eq_add, Nat.add_eq_left, Nat.add_left_cancel_iff, Nat.reduceEqDiff, Nat.add_assoc, Nat.succ_ne_zero]
      rw [wrap_i64 (by omega)]
      exact next W' hI2 hm' ho'
  · obtain rfl : k = 11 := by omega
    exact hj W hI

theorem zalloc_bool2 : opS Try.prog (S.alloc 4) K w = K (pt w.heap.size 0) (w.alloc (cellsO [.bool false] 4)) := by
  rw [opS_alloc]; rfl

theorem bright_spec {x : Bpd} (hx : x.ok) (h : ∀ w', Fr none_ w w' → K (.bool (rightP x)) w') : CallsR Try.prog 30 #[.agg x.cells.toArray] K w := by
  apply c30
  unfold p30
  have hF : Fr none_ w (w.alloc (cellsO x.cells 50)) := (by repeat' first | with_reducible exact Fr.refl _ _ | with_reducible refine Fr.step_alloc ?_ ?_ | with_reducible refine Fr.step_drew ?_ | with_reducible refine Fr.step_wr ?_ ?_ _ _ | exact rfl | exact Or.inr (by omega) | exact Or.inl rfl | exact Or.inl (Or.inl rfl) | exact Or.inl (Or.inr rfl))
  have h0 : (w.alloc (cellsO x.cells 50)).heap[w.heap.size]? = some (cellsO x.cells 50) := by simp only [push_cast, Nat.reduceAdd, Nat.reduceLeDiff, Nat.reduceLT, Int.reduceToNat, Nat.left_eq_add, Nat.add_eq_left, Nat.add_left_cancel_iff, Nat.reduceEqDiff, Nat.add_assoc, Nat.succ_ne_zero]
  have hsz : (w.alloc (cellsO x.cells 50)).heap.size = w.heap.size + 1 := size_alloc _ _
  simp only [opS_box, cells_agg, alloc_cellsO]
  generalize w.alloc (cellsO x.cells 50) = W at *
  have hc : ∀ W' (b : Bool), Fr none_ W W' → rightP x = b → K (.bool b) W' := fun W' b hF' e => e ▸ h W' (hF.trans hF')
  have walk : (x.kind = 0 ∨ x.kind = 2) → CallsR Try.prog 44 #[pt w.heap.size 0, .func (.func 45) #[] #[pt W.heap.size 0], .func (.func 46) #[] #[]] (fun _ => opS Try.prog (S.ld 4 (pt W.heap.size 0)) fun x => K x) (wr (W.alloc (cellsO [.bool false] 4)) W.heap.size 0 [.bool true]) := by
    intro hk
    have hFa : Fr none_ W (wr (W.alloc (cellsO [.bool false] 4)) W.heap.size 0 [.bool true]) := (by repeat' first | with_reducible exact Fr.refl _ _ | with_reducible refine Fr.step_alloc ?_ ?_ | with_reducible refine Fr.step_drew ?_ | with_reducible refine Fr.step_wr ?_ ?_ _ _ | exact rfl | exact Or.inr (by omega) | exact Or.inl rfl | exact Or.inl (Or.inl rfl) | exact Or.inl (Or.inr rfl))
    have hI : WI (wr (W.alloc (cellsO [.bool false] 4)) W.heap.size 0 [.bool true]) x w.heap.size W.heap.size 0 (wr (W.alloc (cellsO [.bool false] 4)) W.heap.size 0 [.bool true]) := ⟨hFa.heap h0 fun h => h, by rw [heap_wr, if_pos rfl, heap_alloc_new, putAt_cells]; rfl, Fr.refl _ _⟩
    refine walk_spec hI (by omega) fun W' hI' => ?_
    simp only [push_cast, Nat.reduceAdd, Nat.reduceLeDiff, Nat.reduceLT, Int.reduceToNat, Nat.left_eq_add, Nat.add_eq_left, Nat.add_left_cancel_iff, Nat.reduceEqDiff, Nat.add_assoc, Nat.succ_ne_zero, hI'.hf]
    have e11 : (oksB x).take 11 = oksB x := rfl
    rw [e11]
    refine hc _ _ (hFa.trans_new hI'.hr fun y hy e => by omega) ?_
    unfold rightP
    rw [if_neg (by omega)]
    rcases hk with h1 | h1 <;> rw [h1] <;> rfl
  simp only [push_cast, Nat.reduceAdd, Nat.reduceLeDiff, Nat.reduceLT, Int.reduceToNat, Nat.left_eq_add, Nat.add_eq_left, Nat.add_left_cancel_iff, Nat.reduceEqDiff, Nat.add_assoc, Nat.succ_ne_zero, h0]
  refine br_intro (fun e => ?_) fun e => ?_
  · have e : x.kind = 128 := by simpa using e
    rw [build_bpd1]
    refine s_eqBpd hx (zBpd_ok hx.1) (hc _ _ (Fr.refl _ _) ?_)
    unfold rightP
    rw [if_pos e, e]
  · have e : x.kind ≠ 128 := by simpa using e
    refine br_intro (fun e1 => ?_) fun e1 => ?_
    · exact walk (.inl (by simpa using e1))
    · refine br_intro (fun e2 => ?_) fun e2 => ?_
      · exact walk (.inr (by simpa using e2))
      · refine hc _ _ (Fr.refl _ _) ?_
        have e1 : x.kind ≠ 0 := by simpa using e1
        have e2 : x.kind ≠ 2 := by simpa using e2
        unfold rightP
        rw [if_neg e, decide_eq_false e1, decide_eq_false e2]
        rfl

/-! ### A way that is told -/

def ofV (x : Bpd) (own : Int) : Vec × Int := if rightP x = false ∨ x.kind = 128 then (zVec, 2) else if own < 1 ∨ own > 65535 then (zVec, 1) else (⟨x.root, x.cost, x.br, x.port, own⟩, 0)

theorem of_spec {x : Bpd} {own : Int} (hx : x.ok) (h : ∀ w', Fr none_ w w' → K (.tuple #[.agg (ofV x own).1.cells.toArray, i64 (ofV x own).2]) w') : CallsR Try.prog 47 #[.agg x.cells.toArray, i64 own] K w := by
  apply c47
  unfold p47
  have hc : ∀ W' (p : Vec × Int), Fr none_ w W' → ofV x own = p → K (.tuple #[.agg p.1.cells.toArray, i64 p.2]) W' := fun W' p hF' e => e ▸ h W' hF'
  have hF : Fr none_ w ((w.alloc (cellsO x.cells 50)).alloc (cellsO zVec.cells 36)) := (by repeat' first | with_reducible exact Fr.refl _ _ | with_reducible refine Fr.step_alloc ?_ ?_ | with_reducible refine Fr.step_drew ?_ | with_reducible refine Fr.step_wr ?_ ?_ _ _ | exact rfl | exact Or.inr (by omega) | exact Or.inl rfl | exact Or.inl (Or.inl rfl) | exact Or.inl (Or.inr rfl))
  have h0 : ((w.alloc (cellsO x.cells 50)).alloc (cellsO zVec.cells 36)).heap[w.heap.size]? = some (cellsO x.cells 50) := by simp only [push_cast, Nat.reduceAdd, Nat.reduceLeDiff, Nat.reduceLT, Int.reduceToNat, Nat.left_eq_add, Nat.add_eq_left, Nat.add_left_cancel_iff, Nat.reduceEqDiff, Nat.add_assoc, Nat.succ_ne_zero]
  have h1 : ((w.alloc (cellsO x.cells 50)).alloc (cellsO zVec.cells 36)).heap[w.heap.size + 1]? = some (cellsO zVec.cells 36) := by simp only [push_cast, Nat.reduceAdd, Nat.reduceLeDiff, Nat.reduceLT, Int.reduceToNat, Nat.left_eq_add, Nat.add_eq_left, Nat.add_left_cancel_iff, Nat.reduceEqDiff, Nat.add_assoc, Nat.succ_ne_zero]
  simp only [opS_box, cells_agg, alloc_cellsO]
  rw [zalloc_vec, size_alloc]
  generalize (w.alloc (cellsO x.cells 50)).alloc (cellsO zVec.cells 36) = W at *
  simp only [push_cast, Nat.reduceAdd, Nat.reduceLeDiff, Nat.reduceLT, Int.reduceToNat, Nat.left_eq_add, Nat.add_eq_left, Nat.add_left_cancel_iff, Nat.reduceEqDiff, Nat.add_assoc, Nat.succ_ne_zero, h0]
  refine bright_spec hx fun W2 hF2 => ?_
  replace hF := hF.trans hF2
  replace h0 := hF2.heap h0 fun h => h
  replace h1 := hF2.heap h1 fun h => h
  simp only [push_cast, Nat.reduceAdd, Nat.reduceLeDiff, Nat.reduceLT, Int.reduceToNat, Nat.left_eq_add, Nat.add_eq_left, Nat.add_left_cancel_iff, Nat.reduceEqDiff, Nat.add_assoc, Nat.succ_ne_zero]
  refine br_intro (fun e => ?_) fun e => ?_
  · rw [build_vec0]
    simp only [push_cast, Nat.reduceAdd, Nat.reduceLeDiff, Nat.reduceLT, Int.reduceToNat, Nat.left_eq_add, Nat.add_eq_left, Nat.add_left_cancel_iff, Nat.reduceEqDiff, Nat.add_assoc, Nat.succ_ne_zero, h1]
    exact hc _ (zVec, 2) (hF.step_wr (.inr (by omega)) _ _) (by unfold ofV; rw [if_pos (.inl (by simpa using e))])
  have e : rightP x = true := by simpa using e
  simp only [push_cast, Nat.reduceAdd, Nat.reduceLeDiff, Nat.reduceLT, Int.reduceToNat, Nat.left_eq_add, Nat.add_eq_left, Nat.add_left_cancel_iff, Nat.reduceEqDiff, Nat.add_assoc, Nat.succ_ne_zero, h0]
  refine br_intro (fun e2 => ?_) fun e2 => ?_
  · rw [build_vec0]
    simp only [push_cast, Nat.reduceAdd, Nat.reduceLeDiff, Nat.reduceLT, Int.reduceToNat, Nat.left_eq_add, Nat.add_eq_left, Nat.add_left_cancel_iff, Nat.reduceEqDiff, Nat.add_assoc, Nat.succ_ne_zero, h1]
    exact hc _ (zVec, 2) (hF.step_wr (.inr (by omega)) _ _) (by unfold ofV; rw [if_pos (.inr (by simpa using e2))])
  have e2 : x.kind ≠ 128 := by simpa using e2
  refine br_dec (fun e3 => ?_) fun e3 => ?_
  · rw [build_vec0]
    simp only [push_cast, Nat.reduceAdd, Nat.reduceLeDiff, Nat.reduceLT, Int.reduceToNat, Nat.left_eq_add, Nat.add_eq_left, Nat.add_left_cancel_iff, Nat.reduceEqDiff, Nat.add_assoc, Nat.succ_ne_zero, h1]
    exact hc _ (zVec, 1) (hF.step_wr (.inr (by omega)) _ _) (by unfold ofV; rw [if_neg (by rw [e]; simpa using e2), if_pos (.inl e3)])
  refine br_dec (fun e4 => ?_) fun e4 => ?_
  · rw [build_vec0]
    simp only [push_cast, Nat.reduceAdd, Nat.reduceLeDiff, Nat.reduceLT, Int.reduceToNat, Nat.left_eq_add, Nat.add_eq_left, Nat.add_left_cancel_iff, Nat.reduceEqDiff, Nat.add_assoc, Nat.succ_ne_zero, h1]
    exact hc _ (zVec, 1) (hF.step_wr (.inr (by omega)) _ _) (by unfold ofV; rw [if_neg (by rw [e]; simpa using e2), if_pos (.inr e4)])
  rw [build_vec5]
  simp only [push_cast, Nat.reduceAdd, Nat.reduceLeDiff, Nat.reduceLT, Int.reduceToNat, Nat.left_eq_add, Nat.add_eq_left, Nat.add_left_cancel_iff, Nat.reduceEqDiff, Nat.add_assoc, Nat.succ_ne_zero, h1]
  exact hc _ (⟨x.root, x.cost, x.br, x.port, own⟩, 0) (hF.step_wr (.inr (by omega)) _ _) (by unfold ofV; rw [if_neg (by rw [e]; simpa using e2), if_neg (by omega)])

end Go.Gx.S
end

section
/- Maps whose keys are whole numbers; how long a map is; maps that are cleared. -/
namespace Go.Gx
open Go
variable {P : Program} {K : Value → World → Prop} {w : World}

def kI (n : Int) : Value := .int .i64 n
theorem keyC_int {T : TypeId} (h : P.underlying T = some (.int .i64)) : KeyC P T Int kI isI where
  law := Maps.int_keyed h
  of := fun k hk => ⟨_, Maps.keyOf_int_mk h (by
    unfold Lit.wf
    simp only [Bool.and_eq_true, decide_eq_true_eq]
    exact hk)⟩
  inj := fun a b h => by unfold kI at h; cases h; rfl

section
variable {κ ν : Type} {kc : κ → Value} {vc : ν → Value} {kok : κ → Prop}

theorem s_mlen {T KT VT : TypeId} {ty : TypeId} [hT : MpT P T KT VT] {m : Nat} {l : List (κ × ν)} (h : MapR kc vc kok w m l) (hk : K (i64 l.length) w) : opS P (S.bi .len #[T] ty [.map (some m)]) K w := by
  obtain ⟨es, clock, hb, hh⟩ := h
  show opS P (do pure (Next.value (← Builtin.len_ #[T] ty #[.map (some m)]))) K w
  rw [opS_bind]
  have : (Builtin.len_ #[T] ty #[.map (some m)]).run P w = .ok (i64 l.length) w := by
    unfold Builtin.len_
    simp only [List.getElem?_toArray, List.getElem?_cons_zero]
    rw [Sem.run_bind, run_underlying_of hT.und, Result.andThen_ok]
    simp only []
    rw [Sem.run_bind, run_getMap hb, Result.andThen_ok]
    have := hh.len
    rw [Array.length_toList] at this
    show (pure (goInt es.size) : Sem Value).run P w = _
    rw [this]; rfl
  rw [this]; exact hk

theorem s_mclear {T KT VT : TypeId} {ty : TypeId} [hT : MpT P T KT VT] {m : Nat} {l : List (κ × ν)} (h : MapR kc vc kok w m l) (hk : ∀ w', MapR kc vc kok w' m ([] : List (κ × ν)) → Fr (fun b => b = m) w w' → K (.tuple #[]) w') : opS P (S.bi .clear #[T] ty [.map (some m)]) K w := by
  obtain ⟨es, clock, hb, hh⟩ := h
  show opS P (do pure (Next.value (← Builtin.clear_ #[T] ty #[.map (some m)]))) K w
  rw [opS_bind]
  have : (Builtin.clear_ #[T] ty #[.map (some m)]).run P w = .ok (.tuple #[]) (upd w m (.map #[] clock)) := by
    unfold Builtin.clear_
    simp only [List.getElem?_toArray, List.getElem?_cons_zero]
    rw [Sem.run_bind, run_underlying_of hT.und, Result.andThen_ok, Sem.run_bind]
    rw [run_getMap hb, Result.andThen_ok]
    simp only []
    rw [Sem.run_bind, run_setObj hb (by intro c T fz e; cases e), Result.andThen_ok]
    rfl
  rw [this]
  exact hk _ ⟨#[], clock, heap_upd_same (by rw [hb]; rfl), rfl, List.nodup_nil, by simp, List.nodup_nil, by simp⟩ (Fr.upd' hb rfl _ rfl rfl)
end
end Go.Gx
end

section
/- What each port is to the tree. -/
set_option linter.unusedVariables false
set_option linter.unusedSimpArgs false
set_option maxRecDepth 100000
namespace Go.Gx.S
open Go Go.Gx Go.Proofs
variable {K : Value → World → Prop} {w : World}

instance : KeyC Try.prog 3 Int kI isI := keyC_int uInt

/-! ### Plain -/

def cntB (h : Hrd) : Bool := h.up && h.has
def candV (h : Hrd) : Vec := { addV h.v h.cost with own := h.port }
def bare (h : Hrd) : Vec := { h.v with own := 0 }
def bestStep (me : Idn) (acc : Vec × Int) (i : Nat) (h : Hrd) : Vec × Int :=
  if cntB h = true ∧ h.v.br ≠ me ∧ cmpV (candV h) acc.1 < 0 then (candV h, (i : Int)) else acc
def bestK (me : Idn) (l : List Hrd) : Nat → Vec × Int
  | 0 => (⟨me, 0, me, 0, 0⟩, -1)
  | k + 1 => match l[k]? with
    | some h => bestStep me (bestK me l k) k h
    | none => bestK me l k
def roleOf (me : Idn) (best : Vec) (root : Int) (i : Nat) (h : Hrd) : Int :=
  if h.up = false then 0 else if (i : Int) = root then 1 else if cntB h = false ∨ ¬ cmpV (bare h) (offer me best h.port) < 0 then 2 else if h.v.br = me then 4 else 3
def bestL (me : Idn) (l : List Hrd) : Vec × Int := bestK me l l.length
def rolesL (me : Idn) (l : List Hrd) : List Int := l.mapIdx fun i h => roleOf me (bestL me l).1 (bestL me l).2 i h

def costH (h : Hrd) : Bool := decide (1 ≤ h.cost) && decide (h.cost ≤ 200000000)
def fairB (l : List Hrd) : Bool := decide (l.length ≤ 64) && l.all costH
/-- the ports of a bridge: numbered from 1 on -/
def numbered (l : List Hrd) : Prop := ∀ (i : Nat) (h : Hrd), l[i]? = some h → h.port = (i : Int) + 1

theorem isI0 : isI 0 := isI_iff.2 (by omega)
theorem addV_br (v : Vec) (c : Int) : (addV v c).br = v.br := by unfold addV; split <;> rfl
theorem addV_root (v : Vec) (c : Int) : (addV v c).root = v.root := by unfold addV; split <;> rfl
theorem addV_port (v : Vec) (c : Int) : (addV v c).port = v.port := by unfold addV; split <;> rfl
theorem addV_own (v : Vec) (c : Int) : (addV v c).own = v.own := by unfold addV; split <;> rfl
theorem addV_ok {v : Vec} {c : Int} (h : v.ok) : (addV v c).ok := by
  obtain ⟨h1, h2, h3, h4, h5⟩ := h
  refine ⟨by rw [addV_root]; exact h1, ?_, by rw [addV_br]; exact h3, by rw [addV_port]; exact h4, by rw [addV_own]; exact h5⟩
  unfold addV
  split
  · rename_i hc
    rw [Bool.and_eq_true, costB_iff, costB_iff] at hc
    have key : ∀ n : Int, 0 ≤ n → n ≤ 4294967295 → isI n := fun n h0 h1 => isI_iff.2 (by omega)
    show isI (if v.cost + c ≤ 4294967295 then v.cost + c else 4294967295)
    split
    · exact key _ (by omega) (by omega)
    · exact key _ (by omega) (by omega)
  · exact h2
theorem addV_with (v : Vec) (c o : Int) : addV { v with own := o } c = { addV v c with own := o } := by unfold addV; split <;> rfl
theorem candV_ok {h : Hrd} (hh : h.ok) : (candV h).ok := by
  obtain ⟨a, b, c, d, e⟩ := addV_ok (c := h.cost) hh.2.2
  exact ⟨a, b, c, d, hh.1⟩
theorem bare_ok {h : Hrd} (hh : h.ok) : (bare h).ok := by
  obtain ⟨a, b, c, d, e⟩ := hh.2.2
  exact ⟨a, b, c, d, isI0⟩
theorem bestK_ok {me : Idn} {l : List Hrd} (hm : me.ok) (hl : ∀ h ∈ l, h.ok) : ∀ k, (bestK me l k).1.ok
  | 0 => ⟨hm, isI0, hm, isI0, isI0⟩
  | k + 1 => by
    unfold bestK
    split
    · rename_i h hh
      unfold bestStep
      split
      · exact candV_ok (hl h (List.mem_of_getElem? hh))
      · exact bestK_ok hm hl k
    · exact bestK_ok hm hl k
theorem offer_ok {me : Idn} {b : Vec} {p : Int} (hm : me.ok) (hb : b.ok) (hp : isI p) : (offer me b p).ok := ⟨hb.1, hb.2.1, hm, hp, isI0⟩

/-! ### Whether ports may be -/

theorem El.heap0 {b p : Nat} {e : List Value} (h : El w b p e) : b < w.heap.size := by
  obtain ⟨cs, T, fz, hb, _⟩ := h
  exact lt_of_heap hb
theorem El.fr0 {b p : Nat} {e : List Value} {w' : World} (h : El w b p e) (hF : Fr none_ w w') : El w' b p e := by
  obtain ⟨cs, T, fz, hb, h2⟩ := h
  exact ⟨cs, T, fz, hF.heap hb fun h => h, h2⟩

theorem zalloc_hrd : opS Try.prog (S.alloc 60) K w = K (pt w.heap.size 0) (w.alloc (cellsO (Hrd.cells ⟨0, 0, false, false, zVec⟩) 60)) := by
  rw [opS_alloc]; rfl

theorem fair_spec {lv : Value} {l : List Hrd} (hl : RdE 21 w lv (l.map Hrd.cells)) (hn : numbered l) (hlen : l.length ≤ 2 ^ 20) (h : ∀ w', Fr none_ w w' → K (i64 (if fairB l then 0 else 1)) w') : CallsR Try.prog 37 #[lv] K w := by
  apply c37
  unfold p37
  obtain ⟨a, c, hv⟩ := hl.form
  rw [List.length_map] at hv
  have elen : ∀ (R : Value → World → Prop) W, opS Try.prog (S.len lv) R W = R (i64 l.length) W := fun R W => by rw [hv]; rfl
  refine s_mkm (kc := kI) (vc := Value.bool) (kok := isI) fun w1 hM hF1 hs1 => ?_
  simp only [elen]
  simp only [push_cast, Nat.reduceAdd, Nat.reduceLeDiff, Nat.reduceLT, Int.reduceToNat, Nat.left_eq_add, Nat.add_eq_left, Nat.add_left_cancel_iff, Nat.reduceEqDiff, Nat.add_assoc, Nat.succ_ne_zero]
  refine br_dec (fun h64 => ?_) fun h64 => ?_
  · have := h w1 hF1
    unfold fairB at this
    rw [decide_eq_false (by omega), Bool.false_and] at this
    exact this
  have hbad : ∀ {w' : World} {k : Nat} {x : Hrd}, l[k]? = some x → costH x = false → Fr none_ w w' → K (i64 1) w' := fun {w' k x} hk hc hF => by
    have := h w' hF
    unfold fairB at this
    have ha : l.all costH = false := by
      rw [List.all_eq_false]
      exact ⟨x, List.mem_of_getElem? hk, by rw [hc]; simp⟩
    rw [ha, Bool.and_false] at this
    exact this
  rw [elen]
  refine jn0 (fun w' => (∃ m : List (Int × Bool), MapR kI Value.bool isI w' w.heap.size m ∧ m.length = l.length) ∧ Fr none_ w w' ∧ l.all costH = true) ?_ fun j hj => ?_
  · rintro w' ⟨⟨m, hm, hml⟩, hF, hall⟩
    refine s_mlen hm ?_
    simp only [elen]
    simp only [push_cast, Nat.reduceAdd, Nat.reduceLeDiff, Nat.reduceLT, Int.reduceToNat, Nat.left_eq_add, Nat.add_eq_left, Nat.add_left_cancel_iff, Nat.reduceEqDiff, Nat.add_assoc, Nat.succ_ne_zero]
    rw [hml]
    have := h w' hF
    unfold fairB at this
    rw [hall, decide_eq_true (by omega)] at this
    refine br_dec (fun h => absurd h (by omega)) fun _ => this
  refine loop1 (fun n u W => ∃ k : Nat, k ≤ l.length ∧ n = l.length - k ∧ u = i64 k ∧ Fr none_ w W ∧ (∀ i x, i < k → l[i]? = some x → costH x = true) ∧ ∃ m : List (Int × Bool), MapR kI Value.bool isI W w.heap.size m ∧ m.map Prod.fst = (List.range k).map fun i : Nat => (i : Int) + 1) ?_ l.length ⟨0, by omega, rfl, rfl, hF1, fun i x hi => by omega, [], hM, rfl⟩
  rintro n u W X ⟨k, hk, rfl, rfl, hF, hc, m, hm, hkeys⟩ hX
  simp only [push_cast, Nat.reduceAdd, Nat.reduceLeDiff, Nat.reduceLT, Int.reduceToNat, Nat.left_eq_add, Nat.add_eq_left, Nat.add_left_cancel_iff, Nat.reduceEqDiff, Nat.add_assoc, Nat.succ_ne_zero]
  refine br_dec (fun hlt => ?_) fun hge => ?_
  · have hkl : k < l.length := by omega
    have hlk : l[k]? = some l[k] := List.getElem?_eq_getElem hkl
    refine s_iaE (hl.fr hF fun _ _ h => h) (by omega) (by simpa using hkl) fun b o c' _ he => ?_
    simp only [List.getElem_map, Int.toNat_natCast] at he
    have hlk' : ((l[k]).cells).length = 21 := rfl
    rw [s_ldN (by decide), Int.toNat_natCast, he.agg0 hlk', onS_some, zalloc_hrd]
    have hone := (l[k]).one
    have hFa : Fr none_ W (wr (W.alloc (cellsO (Hrd.cells ⟨0, 0, false, false, zVec⟩) 60)) W.heap.size 0 (l[k]).cells) := (by repeat' first | with_reducible exact Fr.refl _ _ | with_reducible refine Fr.step_alloc ?_ ?_ | with_reducible refine Fr.step_drew ?_ | with_reducible refine Fr.step_wr ?_ ?_ _ _ | exact rfl | exact Or.inr (by omega) | exact Or.inl rfl | exact Or.inl (Or.inl rfl) | exact Or.inl (Or.inr rfl))
    have hx : (wr (W.alloc (cellsO (Hrd.cells ⟨0, 0, false, false, zVec⟩) 60)) W.heap.size 0 (l[k]).cells).heap[W.heap.size]? = some (cellsO (l[k]).cells 60) := by simp only [push_cast, Nat.reduceAdd, Nat.reduceLeDiff, Nat.reduceLT, Int.reduceToNat, Nat.left_eq_add, Nat.add_eq_left, Nat.add_left_cancel_iff, Nat.reduceEqDiff, Nat.add_assoc, Nat.succ_ne_zero]
    simp only [push_cast, Nat.reduceAdd, Nat.reduceLeDiff, Nat.reduceLT, Int.reduceToNat, Nat.left_eq_add, Nat.add_eq_left, Nat.add_left_cancel_iff, Nat.reduceEqDiff, Nat.add_assoc, Nat.succ_ne_zero]
    have hm' : MapR kI Value.bool isI (wr (W.alloc (cellsO (Hrd.cells ⟨0, 0, false, false, zVec⟩) 60)) W.heap.size 0 (l[k]).cells) w.heap.size m := hm.fr hFa fun h => h
    have hF' := hF.trans hFa
    generalize wr (W.alloc (cellsO (Hrd.cells ⟨0, 0, false, false, zVec⟩) 60)) W.heap.size 0 (l[k]).cells = W2 at *
    have hp := hn k _ hlk
    have bad : costH l[k] = false → K (i64 1) W2 := fun hc => hbad hlk hc hF'
    refine br_dec (fun e => absurd e (by omega)) fun _ => ?_
    refine br_dec (fun e => absurd e (by omega)) fun _ => ?_
    refine br_dec (fun e => bad (by unfold costH; rw [decide_eq_false (by omega)]; rfl)) fun e1 => ?_
    refine br_dec (fun e => bad (by unfold costH; rw [decide_eq_false (show ¬ l[k].cost ≤ 200000000 by omega)]; simp)) fun e2 => ?_
    rw [hp]
    refine s_mu (kc := kI) (vc := Value.bool) (k := (k : Int) + 1) (v := true) hm' (isI_iff.2 (by omega)) fun W3 hm3 hF3 => ?_
    simp only [push_cast, Nat.reduceAdd, Nat.reduceLeDiff, Nat.reduceLT, Int.reduceToNat, Nat.left_eq_add, Nat.add_eq_left, Nat.add_left_cancel_iff, Nat.reduceEqDiff, Nat.add_assoc, Nat.succ_ne_zero]
    rw [wrap_i64 (by omega)]
    refine hX (l.length - (k + 1)) _ _ (by omega) ⟨k + 1, by omega, rfl, rfl, hF'.trans_new hF3 fun b hb e => by omega, ?_, _, hm3, ?_⟩
    · intro i x hi hx'
      by_cases e : i = k
      · subst e
        rw [hlk] at hx'; cases hx'
        unfold costH
        rw [decide_eq_true (show 1 ≤ l[i].cost by omega), decide_eq_true (show l[i].cost ≤ 200000000 by omega)]; rfl
      · exact hc i x (by omega) hx'
    · rw [setL_keys, hkeys]
      have hno : getL m ((k : Int) + 1) = none := by
        refine lookup_none fun p hp e => ?_
        have : p.1 ∈ m.map Prod.fst := List.mem_map.2 ⟨p, hp, rfl⟩
        rw [hkeys, List.mem_map] at this
        obtain ⟨i, hi, he⟩ := this
        rw [List.mem_range] at hi
        omega
      rw [hno, List.range_succ, List.map_append]
      rfl
  · obtain rfl : k = l.length := by omega
    refine hj W ⟨⟨m, hm, ?_⟩, hF, ?_⟩
    · rw [← List.length_map (f := Prod.fst), hkeys, List.length_map, List.length_range]
    · rw [List.all_eq_true]
      intro x hx
      obtain ⟨i, hi, rfl⟩ := List.getElem_of_mem hx
      exact hc i _ hi (List.getElem?_eq_getElem hi)

theorem counts_spec {lv : Value} {l : List Hrd} {xb k : Nat} (hx : w.heap[xb]? = some (cellsO [lv] 70)) (hl : RdE 21 w lv (l.map Hrd.cells)) (hk : k < l.length) (h : K (.bool (cntB l[k])) w) : CallsR Try.prog 38 #[i64 k, pt xb 0] K w := by
  apply c38
  unfold p38
  unfold cntB at h
  simp only [push_cast, Nat.reduceAdd, Nat.reduceLeDiff, Nat.reduceLT, Int.reduceToNat, Nat.left_eq_add, Nat.add_eq_left, Nat.add_left_cancel_iff, Nat.reduceEqDiff, Nat.add_assoc, Nat.succ_ne_zero, hx]
  refine s_iaE hl (by omega) (by simpa using hk) fun b o c' _ he => ?_
  simp only [List.getElem_map, Int.toNat_natCast] at he
  rw [Int.toNat_natCast]
  generalize o + k * 21 = q at *
  simp only [push_cast, Nat.reduceAdd, Nat.reduceLeDiff, Nat.reduceLT, Int.reduceToNat, Nat.left_eq_add, Nat.add_eq_left, Nat.add_left_cancel_iff, Nat.reduceEqDiff, Nat.add_assoc, Nat.succ_ne_zero]
  rw [he.cell 2 (by show 2 < 21; decide), Hrd.g_up]
  simp only [push_cast, Nat.reduceAdd, Nat.reduceLeDiff, Nat.reduceLT, Int.reduceToNat, Nat.left_eq_add, Nat.add_eq_left, Nat.add_left_cancel_iff, Nat.reduceEqDiff, Nat.add_assoc, Nat.succ_ne_zero]
  refine br_intro (fun e => ?_) fun e => ?_
  · rw [e, Bool.true_and] at h
    simp only [push_cast, Nat.reduceAdd, Nat.reduceLeDiff, Nat.reduceLT, Int.reduceToNat, Nat.left_eq_add, Nat.add_eq_left, Nat.add_left_cancel_iff, Nat.reduceEqDiff, Nat.add_assoc, Nat.succ_ne_zero, hx]
    refine s_iaE hl (by omega) (by simpa using hk) fun b o c' _ he => ?_
    simp only [List.getElem_map, Int.toNat_natCast] at he
    rw [Int.toNat_natCast]
    generalize o + k * 21 = q at *
    simp only [push_cast, Nat.reduceAdd, Nat.reduceLeDiff, Nat.reduceLT, Int.reduceToNat, Nat.left_eq_add, Nat.add_eq_left, Nat.add_left_cancel_iff, Nat.reduceEqDiff, Nat.add_assoc, Nat.succ_ne_zero]
    rw [he.cell 3 (by show 3 < 21; decide), Hrd.g_has]
    simp only [push_cast, Nat.reduceAdd, Nat.reduceLeDiff, Nat.reduceLT, Int.reduceToNat, Nat.left_eq_add, Nat.add_eq_left, Nat.add_left_cancel_iff, Nat.reduceEqDiff, Nat.add_assoc, Nat.succ_ne_zero]
    exact h
  · rw [e, Bool.false_and] at h
    exact h

end Go.Gx.S
end

section
/- What each port is to the tree: Select. -/
set_option linter.unusedVariables false
set_option linter.unusedSimpArgs false
set_option maxRecDepth 100000
namespace Go.Gx.S
open Go Go.Gx Go.Proofs
variable {K : Value → World → Prop} {w : World}

/-- the place of an element -/
theorem elem_at {lv : Value} {l : List Hrd} (hl : RdE 21 w lv (l.map Hrd.cells)) {k : Nat} (hk : k < l.length) : ∃ b p, (∀ (R : Value → World → Prop) W, opS Try.prog (S.ia 70 lv (.int .i64 k)) R W = R (pt b p) W) ∧ El w b p (l[k]).cells := by
  have h0 := hl
  obtain ⟨h1, h2⟩ := hl
  rcases h1 with ⟨_, h1, _⟩ | ⟨b, o, c, cs, T, fz, rfl, hb, hc, ho, hl⟩
  · rw [List.length_map] at h1; omega
  · refine ⟨b, o + k * 21, fun R W => ?_, ?_⟩
    · rw [List.length_map, opS_iaS, if_pos (by omega), Int.toNat_natCast]
    · have := s_iaE (P := Try.prog) (T := 70) (w := w) (K := fun v _ => ∃ b' p', v = pt b' p' ∧ El w b' p' (l[k]).cells) (k := .i64) (i := (k : Int)) h0 (by omega) (by simpa using hk) fun b' o' c' _ he => ⟨_, _, rfl, by simpa using he⟩
      rw [List.length_map, opS_iaS, if_pos (by omega), Int.toNat_natCast] at this
      obtain ⟨b', p', he, h⟩ := this
      simp only [pt, Value.pointer.injEq, Option.some.injEq, Addr.mk.injEq, and_true] at he
      rw [he.1, he.2]; exact h

/-- while Select is at work -/
structure SLr (w : World) (lv : Value) (me : Idn) (bb : Nat) (acc : Vec) (W : World) : Prop where
  m : W.heap[w.heap.size]? = some (cellsO me.cells 31)
  l : W.heap[w.heap.size + 1]? = some (cellsO [lv] 70)
  o : W.heap[w.heap.size + 2]? = some (cellsO zVec.cells 36)
  b : W.heap[bb]? = some (cellsO acc.cells 36)
  fr : Fr none_ w W
  ge : w.heap.size + 3 ≤ bb

section
variable {lv : Value} {me : Idn} {bb : Nat} {acc : Vec} {W : World}
theorem SLr.fr0 {W' : World} (h : SLr w lv me bb acc W) (hF : Fr none_ W W') : SLr w lv me bb acc W' := ⟨hF.heap h.m fun h => h, hF.heap h.l fun h => h, hF.heap h.o fun h => h, hF.heap h.b fun h => h, h.fr.trans hF, h.ge⟩
def VB (w : World) (bb vb : Nat) (c : Vec) (W : World) : Prop := W.heap[vb]? = some (cellsO c.cells 36) ∧ w.heap.size + 3 ≤ vb ∧ vb ≠ bb
theorem VB.fr0 {vb : Nat} {c : Vec} {W' : World} (h : VB w bb vb c W) (hF : Fr none_ W W') : VB w bb vb c W' := ⟨hF.heap h.1 fun h => h, h.2⟩
theorem SLr.wr {vb : Nat} {c c' : Vec} {o : Nat} {vs : List Value} (h : SLr w lv me bb acc W) (hv : VB w bb vb c W) (he : splice c.cells o vs = c'.cells) : SLr w lv me bb acc (wr W vb o vs) ∧ VB w bb vb c' (Gx.wr W vb o vs) := by
  obtain ⟨h1, h2, h3, h4, h5, h6⟩ := h
  obtain ⟨v1, v2, v3⟩ := hv
  refine ⟨⟨?_, ?_, ?_, ?_, h5.step_wr (.inr (by omega)) _ _, h6⟩, ?_, v2, v3⟩
  · rw [heap_wr, if_neg (by omega)]; exact h1
  · rw [heap_wr, if_neg (by omega)]; exact h2
  · rw [heap_wr, if_neg (by omega)]; exact h3
  · rw [heap_wr, if_neg (fun e => v3 e.symm)]; exact h4
  · rw [heap_wr, if_pos rfl, v1, putAt_cells, he]

theorem r_ld66 {R : Value → World → Prop} (hI : SLr w lv me bb acc W) (hk : R lv W) : opS Try.prog (S.ld 70 (pt (w.heap.size + 1) 0)) R W := by
  simp only [push_cast, Nat.reduceAdd, Nat.reduceLeDiff, Nat.reduceLT, Int.reduceToNat, Nat.left_eq_add, Nat.add_eq_left, Nat.add_left_cancel_iff, Nat.reduceEqDiff, Nat.add_assoc, Nat.succ_ne_zero, hI.l]; exact hk
theorem r_ldV {b p : Nat} {h : Hrd} {R : Value → World → Prop} (he : El w b p h.cells) (hI : SLr w lv me bb acc W) (hk : R (.agg h.v.cells.toArray) W) : opS Try.prog (S.ld 36 (pt b (p + 4))) R W := by
  rw [s_ldN (by decide), (El.fr0 he hI.fr).agg 4 17 (by show 4 + 17 ≤ 21; decide), Hrd.d_v, onS_some]; exact hk
theorem r_ldC {b p : Nat} {h : Hrd} {R : Value → World → Prop} (he : El w b p h.cells) (hI : SLr w lv me bb acc W) (hk : R (i64 h.cost) W) : opS Try.prog (S.ld 3 (pt b (p + 1))) R W := by
  rw [s_ld1, (El.fr0 he hI.fr).cell 1 (by show 1 < 21; decide), Hrd.g_cost, onS_some]; exact hk
theorem r_ldP {b p : Nat} {h : Hrd} {R : Value → World → Prop} (he : El w b p h.cells) (hI : SLr w lv me bb acc W) (hk : R (i64 h.port) W) : opS Try.prog (S.ld 3 (pt b p)) R W := by
  rw [s_ld1, (El.fr0 he hI.fr).cell0 (by show 0 < 21; decide), Hrd.g_port, onS_some]; exact hk
theorem r_ldU {b p : Nat} {h : Hrd} {R : Value → World → Prop} (he : El w b p h.cells) (hI : SLr w lv me bb acc W) (hk : R (.bool h.up) W) : opS Try.prog (S.ld 4 (pt b (p + 2))) R W := by
  rw [s_ld1, (El.fr0 he hI.fr).cell 2 (by show 2 < 21; decide), Hrd.g_up, onS_some]; exact hk
theorem r_al {R : Value → World → Prop} (hI : SLr w lv me bb acc W) (hk : ∀ W' vb, SLr w lv me bb acc W' → VB w bb vb zVec W' → Fr none_ W W' → W.heap.size ≤ vb → R (pt vb 0) W') : opS Try.prog (S.alloc 36) R W := by
  rw [zalloc_vec]
  have h1 := lt_of_heap hI.o
  have h2 := lt_of_heap hI.b
  exact hk _ _ (hI.fr0 (by repeat' first | with_reducible exact Fr.refl _ _ | with_reducible refine Fr.step_alloc ?_ ?_ | with_reducible refine Fr.step_drew ?_ | with_reducible refine Fr.step_wr ?_ ?_ _ _ | exact rfl | exact Or.inr (by omega) | exact Or.inl rfl | exact Or.inl (Or.inl rfl) | exact Or.inl (Or.inr rfl))) ⟨by simp only [push_cast, Nat.reduceAdd, Nat.reduceLeDiff, Nat.reduceLT, Int.reduceToNat, Nat.left_eq_add, Nat.add_eq_left, Nat.add_left_cancel_iff, Nat.reduceEqDiff, Nat.add_assoc, Nat.succ_ne_zero], by omega, by omega⟩ (by repeat' first | with_reducible exact Fr.refl _ _ | with_reducible refine Fr.step_alloc ?_ ?_ | with_reducible refine Fr.step_drew ?_ | with_reducible refine Fr.step_wr ?_ ?_ _ _ | exact rfl | exact Or.inr (by omega) | exact Or.inl rfl | exact Or.inl (Or.inl rfl) | exact Or.inl (Or.inr rfl)) (Nat.le_refl _)
theorem r_add {v : Vec} {c : Int} {R : Value → World → Prop} (hv : v.ok) (hI : SLr w lv me bb acc W) (hk : ∀ W', SLr w lv me bb acc W' → (∀ vb c, VB w bb vb c W → VB w bb vb c W') → R (.agg (addV v c).cells.toArray) W') : opS Try.prog (S.cl 39 [.agg v.cells.toArray, i64 c]) R W := by
  rw [opS_cl]
  exact add_spec hv fun W' hF => hk W' (hI.fr0 hF) fun vb c h => h.fr0 hF
theorem r_st {vb : Nat} {c v : Vec} {j : Value → World → Prop} (hI : SLr w lv me bb acc W) (hv : VB w bb vb c W) (hk : ∀ W', SLr w lv me bb acc W' → VB w bb vb v W' → j (pt vb 0) W') : opS Try.prog (S.st 36 (pt vb 0) (.agg v.cells.toArray)) (fun _ => j (pt vb 0)) W := by
  obtain ⟨h1, h2⟩ := hI.wr hv (Vec.sw c v)
  simp only [push_cast, Nat.reduceAdd, Nat.reduceLeDiff, Nat.reduceLT, Int.reduceToNat, Nat.left_eq_add, Nat.add_eq_left, Nat.add_left_cancel_iff, Nat.reduceEqDiff, Nat.add_assoc, Nat.succ_ne_zero, hv.1]
  exact hk _ h1 h2
theorem r_stv {vb : Nat} {c c' : Vec} {R : Value → World → Prop} (hI : SLr w lv me bb acc W) (hv : VB w bb vb c W) (hk : ∀ W', SLr w lv me bb acc W' → VB w bb vb c' W' → Fr (fun b => b = vb) W W' → R undef W') : opS Try.prog (S.st 36 (pt vb 0) (.agg c'.cells.toArray)) R W := by
  obtain ⟨h1, h2⟩ := hI.wr hv (Vec.sw c c')
  simp only [push_cast, Nat.reduceAdd, Nat.reduceLeDiff, Nat.reduceLT, Int.reduceToNat, Nat.left_eq_add, Nat.add_eq_left, Nat.add_left_cancel_iff, Nat.reduceEqDiff, Nat.add_assoc, Nat.succ_ne_zero, hv.1]
  exact hk _ h1 h2 (Fr.wr W _ _ _ rfl)
theorem r_sto {vb : Nat} {c : Vec} {z : Int} {R : Value → World → Prop} (hI : SLr w lv me bb acc W) (hv : VB w bb vb c W) (hk : ∀ W', SLr w lv me bb acc W' → VB w bb vb { c with own := z } W' → Fr (fun b => b = vb) W W' → R undef W') : opS Try.prog (S.st 3 (pt vb 16) (i64 z)) R W := by
  obtain ⟨h1, h2⟩ := hI.wr hv (Vec.s_own c z)
  simp only [push_cast, Nat.reduceAdd, Nat.reduceLeDiff, Nat.reduceLT, Int.reduceToNat, Nat.left_eq_add, Nat.add_eq_left, Nat.add_left_cancel_iff, Nat.reduceEqDiff, Nat.add_assoc, Nat.succ_ne_zero, hv.1]
  exact hk _ h1 h2 (Fr.wr W _ _ _ rfl)
theorem r_ldvb {vb : Nat} {c : Vec} {R : Value → World → Prop} (hv : VB w bb vb c W) (hk : R (.agg c.cells.toArray) W) : opS Try.prog (S.ld 36 (pt vb 0)) R W := by
  simp only [push_cast, Nat.reduceAdd, Nat.reduceLeDiff, Nat.reduceLT, Int.reduceToNat, Nat.left_eq_add, Nat.add_eq_left, Nat.add_left_cancel_iff, Nat.reduceEqDiff, Nat.add_assoc, Nat.succ_ne_zero, hv.1]; exact hk
theorem r_ldb {R : Value → World → Prop} (hI : SLr w lv me bb acc W) (hk : R (.agg acc.cells.toArray) W) : opS Try.prog (S.ld 36 (pt bb 0)) R W := by
  simp only [push_cast, Nat.reduceAdd, Nat.reduceLeDiff, Nat.reduceLT, Int.reduceToNat, Nat.left_eq_add, Nat.add_eq_left, Nat.add_left_cancel_iff, Nat.reduceEqDiff, Nat.add_assoc, Nat.succ_ne_zero, hI.b]; exact hk
theorem r_ldm {R : Value → World → Prop} (hI : SLr w lv me bb acc W) (hk : R (.agg me.cells.toArray) W) : opS Try.prog (S.ld 31 (pt w.heap.size 0)) R W := by
  simp only [push_cast, Nat.reduceAdd, Nat.reduceLeDiff, Nat.reduceLT, Int.reduceToNat, Nat.left_eq_add, Nat.add_eq_left, Nat.add_left_cancel_iff, Nat.reduceEqDiff, Nat.add_assoc, Nat.succ_ne_zero, hI.m]; exact hk
end

theorem vec_slot {g : Vec} {R : Value → Value → World → Prop} (h : ∀ u w', w'.heap[w.heap.size]? = some (cellsO g.cells 36) → Fr none_ w w' → R (pt w.heap.size 0) u w') :
    opS Try.prog (S.alloc 36) (fun x => opS Try.prog (S.st 36 x (.agg g.cells.toArray)) (R x)) w := by
  rw [zalloc_vec]
  simp only [push_cast, Nat.reduceAdd, Nat.reduceLeDiff, Nat.reduceLT, Int.reduceToNat, Nat.left_eq_add, Nat.add_eq_left, Nat.add_left_cancel_iff, Nat.reduceEqDiff, Nat.add_assoc, Nat.succ_ne_zero]
  refine h _ _ ?_ (Fr.step_wr (Fr.step_alloc (Fr.refl _ _) rfl) (.inr (Nat.le_refl _)) _ _)
  simp only [push_cast, Nat.reduceAdd, Nat.reduceLeDiff, Nat.reduceLT, Int.reduceToNat, Nat.left_eq_add, Nat.add_eq_left, Nat.add_left_cancel_iff, Nat.reduceEqDiff, Nat.add_assoc, Nat.succ_ne_zero]

theorem bestK_succ {me : Idn} {l : List Hrd} {k : Nat} (hk : k < l.length) : bestK me l (k + 1) = bestStep me (bestK me l k) k l[k] := by
  show (match l[k]? with | some h => bestStep me (bestK me l k) k h | none => bestK me l k) = _
  rw [List.getElem?_eq_getElem hk]

theorem select_spec {lv : Value} {l : List Hrd} {me : Idn} (hl : RdE 21 w lv (l.map Hrd.cells)) (hn : numbered l) (hok : ∀ h ∈ l, h.ok) (hm : me.ok) (hlen : l.length ≤ 2 ^ 20)
    (h0 : fairB l = false → ∀ w', Fr none_ w w' → K (.tuple #[.agg zVec.cells.toArray, .slice none 0 0, i64 1]) w')
    (h1 : fairB l = true → ∀ v w', OwnE 3 1 w' v ((rolesL me l).map cellI) → Fr none_ w w' → New w v → K (.tuple #[.agg (bestL me l).1.cells.toArray, v, i64 0]) w') : CallsR Try.prog 21 #[.agg me.cells.toArray, lv] K w := by
  apply c21
  unfold p21
  obtain ⟨a, c, hv⟩ := hl.form
  rw [List.length_map] at hv
  have elen : ∀ (R : Value → World → Prop) W, opS Try.prog (S.len lv) R W = R (i64 l.length) W := fun R W => by rw [hv]; rfl
  have olv : S.oneCell lv = true := hl.one
  have elv : lv.cells = [lv].toArray := by rw [hv]; rfl
  simp only [opS_box, cells_agg, alloc_cellsO, elv, size_alloc]
  rw [zalloc_vec]
  refine at_w (fun W => W.heap[w.heap.size]? = some (cellsO me.cells 31) ∧ W.heap[w.heap.size + 1]? = some (cellsO [lv] 70) ∧ W.heap[w.heap.size + 2]? = some (cellsO zVec.cells 36) ∧ Fr none_ w W) ⟨by simp only [push_cast, Nat.reduceAdd, Nat.reduceLeDiff, Nat.reduceLT, Int.reduceToNat, Nat.left_eq_add, Nat.add_eq_left, Nat.add_left_cancel_iff, Nat.reduceEqDiff, Nat.add_assoc, Nat.succ_ne_zero], by simp only [push_cast, Nat.reduceAdd, Nat.reduceLeDiff, Nat.reduceLT, Int.reduceToNat, Nat.left_eq_add, Nat.add_eq_left, Nat.add_left_cancel_iff, Nat.reduceEqDiff, Nat.add_assoc, Nat.succ_ne_zero], by simp only [push_cast, Nat.reduceAdd, Nat.reduceLeDiff, Nat.reduceLT, Int.reduceToNat, Nat.left_eq_add, Nat.add_eq_left, Nat.add_left_cancel_iff, Nat.reduceEqDiff, Nat.add_assoc, Nat.succ_ne_zero], (by repeat' first | with_reducible exact Fr.refl _ _ | with_reducible refine Fr.step_alloc ?_ ?_ | with_reducible refine Fr.step_drew ?_ | with_reducible refine Fr.step_wr ?_ ?_ _ _ | exact rfl | exact Or.inr (by omega) | exact Or.inl rfl | exact Or.inl (Or.inl rfl) | exact Or.inl (Or.inr rfl))⟩ ?_
  rintro W0 ⟨m0, l0, o0, f0⟩
  simp only [size_alloc]
  simp only [push_cast, Nat.reduceAdd, Nat.reduceLeDiff, Nat.reduceLT, Int.reduceToNat, Nat.left_eq_add, Nat.add_eq_left, Nat.add_left_cancel_iff, Nat.reduceEqDiff, Nat.add_assoc, Nat.succ_ne_zero, l0]
  refine fair_spec (hl.fr f0 fun _ _ h => h) hn hlen fun W1 hF1 => ?_
  replace m0 := hF1.heap m0 fun h => h
  replace l0 := hF1.heap l0 fun h => h
  replace o0 := hF1.heap o0 fun h => h
  replace f0 := f0.trans hF1
  simp only [push_cast, Nat.reduceAdd, Nat.reduceLeDiff, Nat.reduceLT, Int.reduceToNat, Nat.left_eq_add, Nat.add_eq_left, Nat.add_left_cancel_iff, Nat.reduceEqDiff, Nat.add_assoc, Nat.succ_ne_zero]
  cases hfair : fairB l with
  | false =>
    refine br_intro (fun _ => ?_) fun e => absurd e (by decide)
    rw [build_vec0]
    simp only [push_cast, Nat.reduceAdd, Nat.reduceLeDiff, Nat.reduceLT, Int.reduceToNat, Nat.left_eq_add, Nat.add_eq_left, Nat.add_left_cancel_iff, Nat.reduceEqDiff, Nat.add_assoc, Nat.succ_ne_zero, o0]
    exact h0 hfair _ (f0.step_wr (.inr (by omega)) _ _)
  | true =>
  refine br_intro (fun e => absurd e (by decide)) fun _ => ?_
  simp only [push_cast, Nat.reduceAdd, Nat.reduceLeDiff, Nat.reduceLT, Int.reduceToNat, Nat.left_eq_add, Nat.add_eq_left, Nat.add_left_cancel_iff, Nat.reduceEqDiff, Nat.add_assoc, Nat.succ_ne_zero, m0]
  rw [build_vec2]
  have osz := lt_of_heap o0
  refine vec_slot fun _ W2 hb2 hF2 => ?_
  have hI0 : SLr w lv me W1.heap.size ⟨me, 0, me, 0, 0⟩ W2 := ⟨hF2.heap m0 fun h => h, hF2.heap l0 fun h => h, hF2.heap o0 fun h => h, hb2, f0.trans hF2, by omega⟩
  generalize W1.heap.size = bb at *
  simp only [push_cast, Nat.reduceAdd, Nat.reduceLeDiff, Nat.reduceLT, Int.reduceToNat, Nat.left_eq_add, Nat.add_eq_left, Nat.add_left_cancel_iff, Nat.reduceEqDiff, Nat.add_assoc, Nat.succ_ne_zero, hI0.l]
  rw [elen]
  refine jn1 (fun v W => v = i64 (bestL me l).2 ∧ SLr w lv me bb (bestL me l).1 W) ?_ fun j hj => ?_
  · rintro v W ⟨rfl, hI⟩
    simp only [push_cast, Nat.reduceAdd, Nat.reduceLeDiff, Nat.reduceLT, Int.reduceToNat, Nat.left_eq_add, Nat.add_eq_left, Nat.add_left_cancel_iff, Nat.reduceEqDiff, Nat.add_assoc, Nat.succ_ne_zero, hI.l]
    rw [elen]
    rw [opS_mks (z := .int .i64 0) .i64 .i64 (l.length : Int) (by omega) (by omega) (by omega) rfl (by decide)]
    rw [Int.toNat_natCast]
    have hrl : (rolesL me l).length = l.length := by unfold rolesL; simp
    have hlt := lt_of_heap hI.b
    have hFz : Fr none_ W (W.alloc (.cells (zeros l.length (Value.int .i64 0).cells.toList).toArray 3)) := (by repeat' first | with_reducible exact Fr.refl _ _ | with_reducible refine Fr.step_alloc ?_ ?_ | with_reducible refine Fr.step_drew ?_ | with_reducible refine Fr.step_wr ?_ ?_ _ _ | exact rfl | exact Or.inr (by omega) | exact Or.inl rfl | exact Or.inl (Or.inl rfl) | exact Or.inl (Or.inr rfl))
    have hO : OwnE 3 1 (W.alloc (.cells (zeros l.length (Value.int .i64 0).cells.toList).toArray 3)) (.slice (some ⟨W.heap.size, 0, none⟩) l.length l.length) (((rolesL me l).take 0 ++ List.replicate (l.length - 0) 0).map cellI) := by
      have e1 : ((rolesL me l).take 0 ++ List.replicate (l.length - 0) 0).map cellI = List.replicate l.length [i64 0] := by simp [cellI]
      rw [e1]
      refine ⟨.inr ⟨W.heap.size, 0, l.length, _, by rw [List.length_replicate], heap_alloc_new _ _, by rw [List.length_replicate]; exact Nat.le_refl _, ?_, ?_⟩, ?_⟩
      · rw [List.size_toArray, zeros_length]; simp [Value.cells]
      · show _ = List.take _ (List.drop 0 (zeros l.length [i64 0]))
        rw [List.drop_zero, List.length_replicate, List.take_of_length_le (by rw [zeros_length]; simp)]
        rfl
      · intro x hx
        rw [(List.mem_replicate.1 hx).2]; rfl
    have hI2 := hI.fr0 hFz
    have hob : w.heap.size + 3 ≤ W.heap.size ∧ W.heap.size ≠ bb := ⟨by have := hI.ge; omega, by omega⟩
    generalize W.alloc (.cells (zeros l.length (Value.int .i64 0).cells.toList).toArray 3) = W2 at *
    generalize W.heap.size = ob at *
    simp only [push_cast, Nat.reduceAdd, Nat.reduceLeDiff, Nat.reduceLT, Int.reduceToNat, Nat.left_eq_add, Nat.add_eq_left, Nat.add_left_cancel_iff, Nat.reduceEqDiff, Nat.add_assoc, Nat.succ_ne_zero, hI2.l]
    rw [elen]
    refine jn0 (fun W => SLr w lv me bb (bestL me l).1 W ∧ OwnE 3 1 W (.slice (some ⟨ob, 0, none⟩) l.length l.length) ((rolesL me l).map cellI)) ?_ fun j hj => ?_
    · rintro W3 ⟨hI3, hO3⟩
      simp only [push_cast, Nat.reduceAdd, Nat.reduceLeDiff, Nat.reduceLT, Int.reduceToNat, Nat.left_eq_add, Nat.add_eq_left, Nat.add_left_cancel_iff, Nat.reduceEqDiff, Nat.add_assoc, Nat.succ_ne_zero, hI3.b, hI3.o]
      have hF3 : Fr (fun b => b = w.heap.size + 2) W3 (wr W3 (w.heap.size + 2) 0 (bestL me l).1.cells) := Fr.wr W3 _ _ _ rfl
      refine h1 hfair _ _ (hO3.fr hF3 fun b hb e => ?_) (hI3.fr.step_wr (.inr (by omega)) _ _) fun b hb => ?_
      · simp only [blkS, Option.some.injEq] at hb; omega
      · simp only [blkS, Option.some.injEq] at hb; omega
    · refine loop1 (fun n u W => ∃ k : Nat, k ≤ l.length ∧ n = l.length - k ∧ u = i64 k ∧ SLr w lv me bb (bestL me l).1 W ∧ OwnE 3 1 W (.slice (some ⟨ob, 0, none⟩) l.length l.length) (((rolesL me l).take k ++ List.replicate (l.length - k) 0).map cellI)) ?_ l.length ⟨0, by omega, rfl, rfl, hI2, hO⟩
      rintro n u W X ⟨k, hk, rfl, rfl, hI, hO⟩ hX
      simp only [push_cast, Nat.reduceAdd, Nat.reduceLeDiff, Nat.reduceLT, Int.reduceToNat, Nat.left_eq_add, Nat.add_eq_left, Nat.add_left_cancel_iff, Nat.reduceEqDiff, Nat.add_assoc, Nat.succ_ne_zero]
      refine br_dec (fun hlt => ?_) fun hge => ?_
      · have hkl : k < l.length := by omega
        obtain ⟨b, p, hia, he⟩ := elem_at hl hkl
        have hhok := hok _ (List.getElem_mem hkl)
        have hbok : (bestL me l).1.ok := bestK_ok hm hok _
        have hrk : (rolesL me l)[k]? = some (roleOf me (bestL me l).1 (bestL me l).2 k l[k]) := by
          unfold rolesL
          rw [List.getElem?_mapIdx, List.getElem?_eq_getElem hkl]; rfl
        have hlk : ((((rolesL me l).take k ++ List.replicate (l.length - k) 0).map cellI)).length = l.length := by
          rw [List.length_map, List.length_append, List.length_take, List.length_replicate, hrl]; omega
        have fin : ∀ {r : Int} {W : World}, roleOf me (bestL me l).1 (bestL me l).2 k l[k] = r → SLr w lv me bb (bestL me l).1 W → OwnE 3 1 W (.slice (some ⟨ob, 0, none⟩) l.length l.length) (((rolesL me l).take k ++ List.replicate (l.length - k) 0).map cellI) →
            opS Try.prog (S.ia 23 (.slice (some ⟨ob, 0, none⟩) l.length l.length) (i64 k)) (fun x => opS Try.prog (S.st 3 x (.int .i64 r)) fun _ => opS Try.prog (S.binI .add (i64 k) (.int .i64 1)) fun y => X y) W := by
          intro r W hr hI hO
          rw [opS_iaS, if_pos (by omega), Int.toNat_natCast]
          have hO' : OwnE 3 1 W (.slice (some ⟨ob, 0, none⟩) (((rolesL me l).take k ++ List.replicate (l.length - k) 0).map cellI).length l.length) (((rolesL me l).take k ++ List.replicate (l.length - k) 0).map cellI) := by rw [hlk]; exact hO
          obtain ⟨hok', hput⟩ := hO'.put (e := [i64 r]) (i := k) rfl (by rw [hlk]; exact hkl)
          rw [s_st1 _ _ _ rfl, hok', onB_true]
          simp only [push_cast, Nat.reduceAdd, Nat.reduceLeDiff, Nat.reduceLT, Int.reduceToNat, Nat.left_eq_add, Nat.add_eq_left, Nat.add_left_cancel_iff, Nat.reduceEqDiff, Nat.add_assoc, Nat.succ_ne_zero]
          rw [wrap_i64 (by omega)]
          refine hX (l.length - (k + 1)) _ _ (by omega) ⟨k + 1, by omega, rfl, rfl, ?_, ?_⟩
          · obtain ⟨g1, g2, g3, g4, g5, g6⟩ := hI
            refine ⟨?_, ?_, ?_, ?_, g5.step_wr (.inr (by omega)) _ _, g6⟩
            · rw [heap_wr, if_neg (by omega)]; exact g1
            · rw [heap_wr, if_neg (by omega)]; exact g2
            · rw [heap_wr, if_neg (by omega)]; exact g3
            · rw [heap_wr, if_neg (fun e => hob.2 e.symm)]; exact g4
          · have e2 : (((rolesL me l).take k ++ List.replicate (l.length - k) 0).map cellI).set k [i64 r] = ((rolesL me l).take (k + 1) ++ List.replicate (l.length - (k + 1)) 0).map cellI := by
              have es : ∀ L : List Int, (L.map cellI).set k [i64 r] = (L.set k r).map cellI := fun L => (List.map_set ..).symm
              rw [es]
              congr 1
              have hkt : ((rolesL me l).take k).length = k := by rw [List.length_take, hrl]; omega
              rw [List.set_append_right _ _ (by rw [hkt]; exact Nat.le_refl _), hkt, Nat.sub_self, show l.length - k = (l.length - (k + 1)) + 1 by omega, List.replicate_succ, List.set_cons_zero, List.take_add_one, hrk, hr]
              simp
            rw [e2, hlk, Nat.zero_add] at hput
            exact hput
        -- the way that was heard
        simp only [push_cast, Nat.reduceAdd, Nat.reduceLeDiff, Nat.reduceLT, Int.reduceToNat, Nat.left_eq_add, Nat.add_eq_left, Nat.add_left_cancel_iff, Nat.reduceEqDiff, Nat.add_assoc, Nat.succ_ne_zero, hI.l]
        rw [hia]
        simp only [fa60_4]
        refine r_ldV he hI ?_
        have hob' : ob < W.heap.size := hO.lt rfl
        refine r_al hI fun W3 vb hI3 hvb3 hF3 hsz => ?_
        have hO3 := hO.fr hF3 fun _ _ h => h
        have hne : ∀ y, blkS (.slice (some ⟨ob, 0, none⟩) l.length l.length) = some y → ¬ y = vb := fun y hy e => by
          simp only [blkS, Option.some.injEq] at hy; omega
        refine r_stv hI3 hvb3 (c' := l[k].v) fun W4 hI4 hvb4 hF4 => ?_
        have hO4 := hO3.fr hF4 hne
        simp only [fa36_4, Nat.zero_add]
        refine r_sto hI4 hvb4 fun W5 hI5 hvb5 hF5 => ?_
        have hO5 := hO4.fr hF5 hne
        refine r_ld66 hI5 ?_
        rw [hia]
        simp only [fa60_2]
        refine r_ldU he hI5 ?_
        clear hI hO hI3 hO3 hvb3 hI4 hO4 hvb4
        change VB w bb vb (bare l[k]) W5 at hvb5
        simp only [push_cast, Nat.reduceAdd, Nat.reduceLeDiff, Nat.reduceLT, Int.reduceToNat, Nat.left_eq_add, Nat.add_eq_left, Nat.add_left_cancel_iff, Nat.reduceEqDiff, Nat.add_assoc, Nat.succ_ne_zero]
        refine br_intro (fun e1 => ?_) fun e1 => ?_
        · have e1 : l[k].up = false := by simpa using e1
          exact fin (by unfold roleOf; rw [if_pos e1]) hI5 hO5
        have e1 : ¬ l[k].up = false := by simpa using e1
        refine br_dec (fun e2 => ?_) fun e2 => ?_
        · exact fin (by unfold roleOf; rw [if_neg e1, if_pos e2]) hI5 hO5
        refine jn0 (fun W => (¬ (cntB l[k] = false ∨ ¬ cmpV (bare l[k]) (offer me (bestL me l).1 l[k].port) < 0)) ∧ SLr w lv me bb (bestL me l).1 W ∧ VB w bb vb (bare l[k]) W ∧ OwnE 3 1 W (.slice (some ⟨ob, 0, none⟩) l.length l.length) (((rolesL me l).take k ++ List.replicate (l.length - k) 0).map cellI)) ?_ fun j2 hj2 => ?_
        · rintro W6 ⟨e3, hI6, hvb6, hO6⟩
          simp only [fa36_2, Nat.zero_add]
          have ebr : (bare l[k]).br = l[k].v.br := rfl
          simp only [push_cast, Nat.reduceAdd, Nat.reduceLeDiff, Nat.reduceLT, Int.reduceToNat, Nat.left_eq_add, Nat.add_eq_left, Nat.add_left_cancel_iff, Nat.reduceEqDiff, Nat.add_assoc, Nat.succ_ne_zero, hvb6.1, hI6.m]
          rw [ebr]
          refine s_eqId hhok.2.2.2.2.1 hm ?_
          simp only [push_cast, Nat.reduceAdd, Nat.reduceLeDiff, Nat.reduceLT, Int.reduceToNat, Nat.left_eq_add, Nat.add_eq_left, Nat.add_left_cancel_iff, Nat.reduceEqDiff, Nat.add_assoc, Nat.succ_ne_zero]
          refine br_dec (fun e4 => ?_) fun e4 => ?_
          · exact fin (by unfold roleOf; rw [if_neg e1, if_neg e2, if_neg e3, if_pos e4]) hI6 hO6
          · exact fin (by unfold roleOf; rw [if_neg e1, if_neg e2, if_neg e3, if_neg e4]) hI6 hO6
        · simp only [drw_eq]
          have hI6 := hI5.fr0 (Fr.drew W5)
          have hvb6 := hvb5.fr0 (Fr.drew W5)
          have hO6 := hO5.fr (Fr.drew (fp := none_) W5) fun _ _ h => h
          generalize W5.drew = W6 at *
          refine counts_spec hI6.l (hl.fr hI6.fr fun _ _ h => h) hkl ?_
          simp only [push_cast, Nat.reduceAdd, Nat.reduceLeDiff, Nat.reduceLT, Int.reduceToNat, Nat.left_eq_add, Nat.add_eq_left, Nat.add_left_cancel_iff, Nat.reduceEqDiff, Nat.add_assoc, Nat.succ_ne_zero]
          refine br_intro (fun e3 => ?_) fun e3 => ?_
          · have e3 : cntB l[k] = false := by simpa using e3
            have := fin (r := 2) (by unfold roleOf; rw [if_neg e1, if_neg e2, if_pos (.inl e3)]) hI6 hO6
            exact allW_intro this this
          have e3 : ¬ cntB l[k] = false := by simpa using e3
          simp only [push_cast, Nat.reduceAdd, Nat.reduceLeDiff, Nat.reduceLT, Int.reduceToNat, Nat.left_eq_add, Nat.add_eq_left, Nat.add_left_cancel_iff, Nat.reduceEqDiff, Nat.add_assoc, Nat.succ_ne_zero, hI6.m, hI6.b, hI6.l, hia, fa60_0, hvb6.1]
          rw [(El.fr0 he hI6.fr).cell0 (by show 0 < 21; decide), Hrd.g_port, onS_some]
          have hofok : (offer me (bestL me l).1 l[k].port).ok := ⟨hbok.1, hbok.2.1, hm, hhok.1, isI0⟩
          have hbaok : (bare l[k]).ok := ⟨hhok.2.2.1, hhok.2.2.2.1, hhok.2.2.2.2.1, hhok.2.2.2.2.2.1, isI0⟩
          refine allW_intro ?_ ?_
          · simp only [push_cast, Nat.reduceAdd, Nat.reduceLeDiff, Nat.reduceLT, Int.reduceToNat, Nat.left_eq_add, Nat.add_eq_left, Nat.add_left_cancel_iff, Nat.reduceEqDiff, Nat.add_assoc, Nat.succ_ne_zero, hvb6.1]
            refine offer_spec fun W7 hF7 => ?_
            have hI7 := hI6.fr0 hF7
            have hvb7 := hvb6.fr0 hF7
            have hO7 := hO6.fr hF7 fun _ _ h => h
            simp only [push_cast, Nat.reduceAdd, Nat.reduceLeDiff, Nat.reduceLT, Int.reduceToNat, Nat.left_eq_add, Nat.add_eq_left, Nat.add_left_cancel_iff, Nat.reduceEqDiff, Nat.add_assoc, Nat.succ_ne_zero]
            refine vcmp_spec hbaok hofok fun W8 hF8 => ?_
            have hI8 := hI7.fr0 hF8
            have hvb8 := hvb7.fr0 hF8
            have hO8 := hO7.fr hF8 fun _ _ h => h
            simp only [push_cast, Nat.reduceAdd, Nat.reduceLeDiff, Nat.reduceLT, Int.reduceToNat, Nat.left_eq_add, Nat.add_eq_left, Nat.add_left_cancel_iff, Nat.reduceEqDiff, Nat.add_assoc, Nat.succ_ne_zero]
            refine br_dec (fun e4 => ?_) fun e4 => ?_
            · exact fin (by unfold roleOf; rw [if_neg e1, if_neg e2, if_pos (.inr (by omega))]) hI8 hO8
            · exact hj2 _ ⟨fun h => h.elim e3 fun h => h (by omega), hI8, hvb8, hO8⟩
          · simp only [push_cast, Nat.reduceAdd, Nat.reduceLeDiff, Nat.reduceLT, Int.reduceToNat, Nat.left_eq_add, Nat.add_eq_left, Nat.add_left_cancel_iff, Nat.reduceEqDiff, Nat.add_assoc, Nat.succ_ne_zero, hvb6.1]
            refine offer_spec fun W7 hF7 => ?_
            have hI7 := hI6.fr0 hF7
            have hvb7 := hvb6.fr0 hF7
            have hO7 := hO6.fr hF7 fun _ _ h => h
            simp only [push_cast, Nat.reduceAdd, Nat.reduceLeDiff, Nat.reduceLT, Int.reduceToNat, Nat.left_eq_add, Nat.add_eq_left, Nat.add_left_cancel_iff, Nat.reduceEqDiff, Nat.add_assoc, Nat.succ_ne_zero, hvb7.1]
            refine vcmp_spec hbaok hofok fun W8 hF8 => ?_
            have hI8 := hI7.fr0 hF8
            have hvb8 := hvb7.fr0 hF8
            have hO8 := hO7.fr hF8 fun _ _ h => h
            simp only [push_cast, Nat.reduceAdd, Nat.reduceLeDiff, Nat.reduceLT, Int.reduceToNat, Nat.left_eq_add, Nat.add_eq_left, Nat.add_left_cancel_iff, Nat.reduceEqDiff, Nat.add_assoc, Nat.succ_ne_zero]
            refine br_dec (fun e4 => ?_) fun e4 => ?_
            · exact fin (by unfold roleOf; rw [if_neg e1, if_neg e2, if_pos (.inr (by omega))]) hI8 hO8
            · exact hj2 _ ⟨fun h => h.elim e3 fun h => h (by omega), hI8, hvb8, hO8⟩
      · obtain rfl : k = l.length := by omega
        rw [Nat.sub_self, List.replicate_zero, List.append_nil, List.take_of_length_le (by omega)] at hO
        exact hj W ⟨hI, hO⟩
  · refine loop2 (fun n x y W => ∃ k : Nat, k ≤ l.length ∧ n = l.length - k ∧ x = i64 (bestK me l k).2 ∧ y = i64 k ∧ SLr w lv me bb (bestK me l k).1 W) ?_ l.length ⟨0, by omega, rfl, rfl, rfl, hI0⟩
    rintro n x y W X ⟨k, hk, rfl, rfl, rfl, hI⟩ hX
    simp only [push_cast, Nat.reduceAdd, Nat.reduceLeDiff, Nat.reduceLT, Int.reduceToNat, Nat.left_eq_add, Nat.add_eq_left, Nat.add_left_cancel_iff, Nat.reduceEqDiff, Nat.add_assoc, Nat.succ_ne_zero]
    refine br_dec (fun hlt => ?_) fun hge => ?_
    · have hkl : k < l.length := by omega
      obtain ⟨b, p, hia, he⟩ := elem_at hl hkl
      have hhok := hok _ (List.getElem_mem hkl)
      have hvok : (l[k]).v.ok := hhok.2.2
      have hbok := bestK_ok hm hok k
      have hsucc := bestK_succ (me := me) hkl
      generalize hacc : bestK me l k = acc at *
      refine jn1 (fun v W => ∃ vb, v = pt vb 0 ∧ VB w bb vb (addV l[k].v l[k].cost) W ∧ SLr w lv me bb acc.1 W) ?_ fun j2 hj2 => ?_
      case refine_2 =>
        simp only [drw_eq]
        have hId := hI.fr0 (Fr.drew W)
        generalize W.drew = W' at *
        repeat' first
          | with_reducible refine allW_intro ?_ ?_
          | with_reducible refine r_ld66 (by assumption) ?_
          | with_reducible refine r_ldV he (by assumption) ?_
          | with_reducible refine r_ldC he (by assumption) ?_
          | with_reducible refine r_al (by assumption) fun _ _ _ _ _ _ => ?_
          | with_reducible refine r_add hvok (by assumption) fun _ _ _ => ?_
          | (with_reducible refine r_st (by assumption) (by first | assumption | exact (by assumption : ∀ vb c, VB w bb vb c _ → VB w bb vb c _) _ _ (by assumption)) fun _ hI' hv' => ?_; exact hj2 _ _ ⟨_, rfl, hv', hI'⟩)
          | simp only [hia, fa60_4, fa60_1]
      rintro v W' ⟨vb, rfl, hvb, hI⟩
      have hpi : isI l[k].port := hhok.1
      refine r_ld66 hI ?_
      rw [hia]
      simp only [fa60_0, Nat.add_zero]
      refine r_ldP he hI ?_
      obtain ⟨hI2, hvb2⟩ := hI.wr hvb (Vec.s_own (addV l[k].v l[k].cost) l[k].port)
      simp only [push_cast, Nat.reduceAdd, Nat.reduceLeDiff, Nat.reduceLT, Int.reduceToNat, Nat.left_eq_add, Nat.add_eq_left, Nat.add_left_cancel_iff, Nat.reduceEqDiff, Nat.add_assoc, Nat.succ_ne_zero, hvb.1]
      generalize wr W' vb 16 [i64 l[k].port] = W2 at *
      have hcv : ({ addV l[k].v l[k].cost with own := l[k].port } : Vec) = candV l[k] := rfl
      rw [hcv] at hvb2
      have hcok := candV_ok hhok
      refine counts_spec hI2.l (hl.fr hI2.fr fun _ _ h => h) hkl ?_
      have stay : bestStep me acc k l[k] = acc → X (i64 acc.2) (i64 (k + 1)) W2 := fun e => by
        refine hX (l.length - (k + 1)) _ _ _ (by omega) ⟨k + 1, by omega, rfl, by rw [hsucc, e], rfl, by rw [hsucc, e]; exact hI2⟩
      simp only [push_cast, Nat.reduceAdd, Nat.reduceLeDiff, Nat.reduceLT, Int.reduceToNat, Nat.left_eq_add, Nat.add_eq_left, Nat.add_left_cancel_iff, Nat.reduceEqDiff, Nat.add_assoc, Nat.succ_ne_zero]
      refine br_intro (fun e1 => ?_) fun e1 => ?_
      · have ebr : (candV l[k]).br = l[k].v.br := addV_br _ _
        simp only [push_cast, Nat.reduceAdd, Nat.reduceLeDiff, Nat.reduceLT, Int.reduceToNat, Nat.left_eq_add, Nat.add_eq_left, Nat.add_left_cancel_iff, Nat.reduceEqDiff, Nat.add_assoc, Nat.succ_ne_zero, hvb2.1, hI2.m]
        rw [ebr]
        refine s_neId hvok.2.2.1 hm ?_
        simp only [push_cast, Nat.reduceAdd, Nat.reduceLeDiff, Nat.reduceLT, Int.reduceToNat, Nat.left_eq_add, Nat.add_eq_left, Nat.add_left_cancel_iff, Nat.reduceEqDiff, Nat.add_assoc, Nat.succ_ne_zero]
        refine br_intro (fun e2 => ?_) fun e2 => ?_
        · have e2 : l[k].v.br ≠ me := by simpa using e2
          simp only [push_cast, Nat.reduceAdd, Nat.reduceLeDiff, Nat.reduceLT, Int.reduceToNat, Nat.left_eq_add, Nat.add_eq_left, Nat.add_left_cancel_iff, Nat.reduceEqDiff, Nat.add_assoc, Nat.succ_ne_zero, hvb2.1, hI2.b]
          refine vcmp_spec hcok hbok fun W3 hF3 => ?_
          have hI3 := hI2.fr0 hF3
          have hvb3 := hvb2.fr0 hF3
          simp only [push_cast, Nat.reduceAdd, Nat.reduceLeDiff, Nat.reduceLT, Int.reduceToNat, Nat.left_eq_add, Nat.add_eq_left, Nat.add_left_cancel_iff, Nat.reduceEqDiff, Nat.add_assoc, Nat.succ_ne_zero]
          refine br_dec (fun e3 => ?_) fun e3 => ?_
          · have hst : bestStep me acc k l[k] = (candV l[k], (k : Int)) := by unfold bestStep; rw [if_pos ⟨e1, e2, e3⟩]
            simp only [push_cast, Nat.reduceAdd, Nat.reduceLeDiff, Nat.reduceLT, Int.reduceToNat, Nat.left_eq_add, Nat.add_eq_left, Nat.add_left_cancel_iff, Nat.reduceEqDiff, Nat.add_assoc, Nat.succ_ne_zero, hvb3.1, hI3.b]
            rw [wrap_i64 (by omega)]
            refine hX (l.length - (k + 1)) _ _ _ (by omega) ⟨k + 1, by omega, rfl, by rw [hsucc, hst], rfl, ?_⟩
            rw [hsucc, hst]
            obtain ⟨g1, g2, g3, g4, g5, g6⟩ := hI3
            refine ⟨?_, ?_, ?_, ?_, g5.step_wr (.inr (by omega)) _ _, g6⟩
            · rw [heap_wr, if_neg (by omega)]; exact g1
            · rw [heap_wr, if_neg (by omega)]; exact g2
            · rw [heap_wr, if_neg (by omega)]; exact g3
            · rw [heap_wr, if_pos rfl, g4, putAt_cells, Vec.sw]
          · have hst : bestStep me acc k l[k] = acc := by unfold bestStep; rw [if_neg (fun h => e3 h.2.2)]
            rw [wrap_i64 (by omega)]
            exact hX (l.length - (k + 1)) _ _ _ (by omega) ⟨k + 1, by omega, rfl, by rw [hsucc, hst], rfl, by rw [hsucc, hst]; exact hI3⟩
        · have e2 : l[k].v.br = me := by simpa using e2
          rw [wrap_i64 (by omega)]
          exact stay (by unfold bestStep; rw [if_neg (fun h => h.2.1 e2)])
      · rw [wrap_i64 (by omega)]
        exact stay (by unfold bestStep; rw [if_neg (fun h => by rw [e1] at h; exact absurd h.1 (by decide))])
    · obtain rfl : k = l.length := by omega
      exact hj _ _ ⟨rfl, hI⟩

end Go.Gx.S
end

section
/- What each port is to the tree, by the reference. -/
set_option linter.unusedVariables false
set_option linter.unusedSimpArgs false
set_option maxRecDepth 100000
namespace Go.Gx.S
open Go Go.Gx Go.Proofs
variable {K : Value → World → Prop} {w : World}

/-- while the reference's Select is at work -/
structure SQr (w : World) (me : Idn) (bb : Nat) (acc : Vec) (W : World) : Prop where
  m : W.heap[w.heap.size]? = some (cellsO me.cells 31)
  o : W.heap[w.heap.size + 1]? = some (cellsO zVec.cells 36)
  b : W.heap[bb]? = some (cellsO acc.cells 36)
  fr : Fr none_ w W
  ge : w.heap.size + 2 ≤ bb

section
variable {me : Idn} {bb : Nat} {acc : Vec} {W : World}
theorem SQr.fr0 {W' : World} (h : SQr w me bb acc W) (hF : Fr none_ W W') : SQr w me bb acc W' := ⟨hF.heap h.m fun h => h, hF.heap h.o fun h => h, hF.heap h.b fun h => h, h.fr.trans hF, h.ge⟩
theorem SQr.new {W' : World} {fp : Nat → Prop} (h : SQr w me bb acc W) (hF : Fr fp W W') (hn : ∀ b, fp b → bb < b) : SQr w me bb acc W' := by
  have h1 := h.ge
  exact ⟨hF.heap h.m fun h => by have := hn _ h; omega, hF.heap h.o fun h => by have := hn _ h; omega, hF.heap h.b fun h => by have := hn _ h; omega, h.fr.trans_new hF fun b hb h => by have := hn _ h; omega, h.ge⟩
def VQ (bb vb : Nat) (c : Vec) (W : World) : Prop := W.heap[vb]? = some (cellsO c.cells 36) ∧ bb < vb
theorem VQ.fr0 {vb : Nat} {c : Vec} {W' : World} (h : VQ bb vb c W) (hF : Fr none_ W W') : VQ bb vb c W' := ⟨hF.heap h.1 fun h => h, h.2⟩
theorem SQr.wr {vb : Nat} {c c' : Vec} {o : Nat} {vs : List Value} (h : SQr w me bb acc W) (hv : VQ bb vb c W) (he : splice c.cells o vs = c'.cells) : SQr w me bb acc (wr W vb o vs) ∧ VQ bb vb c' (Gx.wr W vb o vs) := by
  refine ⟨h.new (Fr.wr (fp := fun b => b = vb) W vb o vs rfl) fun b e => e ▸ hv.2, ?_, hv.2⟩
  rw [heap_wr, if_pos rfl, hv.1, putAt_cells, he]
theorem SQr.wrb {acc' : Vec} (h : SQr w me bb acc W) : SQr w me bb acc' (Gx.wr W bb 0 acc'.cells) := by
  obtain ⟨g1, g2, g4, g5, g6⟩ := h
  refine ⟨?_, ?_, ?_, g5.step_wr (.inr (by omega)) _ _, g6⟩
  · rw [heap_wr, if_neg (by omega)]; exact g1
  · rw [heap_wr, if_neg (by omega)]; exact g2
  · rw [heap_wr, if_pos rfl, g4, putAt_cells, Vec.sw]

theorem q_al {R : Value → World → Prop} (hI : SQr w me bb acc W) (hk : ∀ W' vb, SQr w me bb acc W' → VQ bb vb zVec W' → Fr none_ W W' → W.heap.size ≤ vb → R (pt vb 0) W') : opS Try.prog (S.alloc 36) R W := by
  rw [zalloc_vec]
  have h2 := lt_of_heap hI.b
  exact hk _ _ (hI.fr0 (by repeat' first | with_reducible exact Fr.refl _ _ | with_reducible refine Fr.step_alloc ?_ ?_ | with_reducible refine Fr.step_drew ?_ | with_reducible refine Fr.step_wr ?_ ?_ _ _ | exact rfl | exact Or.inr (by omega) | exact Or.inl rfl | exact Or.inl (Or.inl rfl) | exact Or.inl (Or.inr rfl))) ⟨by simp only [push_cast, Nat.reduceAdd, Nat.reduceLeDiff, Nat.reduceLT, Int.reduceToNat, Nat.left_eq_add, Nat.add_eq_left, Nat.add_left_cancel_iff, Nat.reduceEqDiff, Nat.add_assoc, Nat.succ_ne_zero], by omega⟩ (by repeat' first | with_reducible exact Fr.refl _ _ | with_reducible refine Fr.step_alloc ?_ ?_ | with_reducible refine Fr.step_drew ?_ | with_reducible refine Fr.step_wr ?_ ?_ _ _ | exact rfl | exact Or.inr (by omega) | exact Or.inl rfl | exact Or.inl (Or.inl rfl) | exact Or.inl (Or.inr rfl)) (Nat.le_refl _)
theorem q_stv {vb : Nat} {c c' : Vec} {R : Value → World → Prop} (hI : SQr w me bb acc W) (hv : VQ bb vb c W) (hk : ∀ W', SQr w me bb acc W' → VQ bb vb c' W' → Fr (fun b => b = vb) W W' → R undef W') : opS Try.prog (S.st 36 (pt vb 0) (.agg c'.cells.toArray)) R W := by
  obtain ⟨h1, h2⟩ := hI.wr hv (Vec.sw c c')
  simp only [push_cast, Nat.reduceAdd, Nat.reduceLeDiff, Nat.reduceLT, Int.reduceToNat, Nat.left_eq_add, Nat.add_eq_left, Nat.add_left_cancel_iff, Nat.reduceEqDiff, Nat.add_assoc, Nat.succ_ne_zero, hv.1]
  exact hk _ h1 h2 (Fr.wr W _ _ _ rfl)
theorem q_sto {vb : Nat} {c : Vec} {z : Int} {R : Value → World → Prop} (hI : SQr w me bb acc W) (hv : VQ bb vb c W) (hk : ∀ W', SQr w me bb acc W' → VQ bb vb { c with own := z } W' → Fr (fun b => b = vb) W W' → R undef W') : opS Try.prog (S.st 3 (pt vb 16) (i64 z)) R W := by
  obtain ⟨h1, h2⟩ := hI.wr hv (Vec.s_own c z)
  simp only [push_cast, Nat.reduceAdd, Nat.reduceLeDiff, Nat.reduceLT, Int.reduceToNat, Nat.left_eq_add, Nat.add_eq_left, Nat.add_left_cancel_iff, Nat.reduceEqDiff, Nat.add_assoc, Nat.succ_ne_zero, hv.1]
  exact hk _ h1 h2 (Fr.wr W _ _ _ rfl)
theorem q_ldV {b p : Nat} {h : Hrd} {R : Value → World → Prop} (he : El w b p h.cells) (hI : SQr w me bb acc W) (hk : R (.agg h.v.cells.toArray) W) : opS Try.prog (S.ld 36 (pt b (p + 4))) R W := by
  rw [s_ldN (by decide), (El.fr0 he hI.fr).agg 4 17 (by show 4 + 17 ≤ 21; decide), Hrd.d_v, onS_some]; exact hk
theorem q_ldH {b p : Nat} {h : Hrd} {R : Value → World → Prop} (he : El w b p h.cells) (hI : SQr w me bb acc W) (hk : R (.agg h.cells.toArray) W) : opS Try.prog (S.ld 60 (pt b p)) R W := by
  rw [s_ldN (by decide), (El.fr0 he hI.fr).agg0 h.len, onS_some]; exact hk
theorem q_ldR {b p : Nat} {h : Hrd} {R : Value → World → Prop} (he : El w b p h.cells) (hI : SQr w me bb acc W) (hk : R (.agg h.v.br.cells.toArray) W) : opS Try.prog (S.ld 31 (pt b (p + 12))) R W := by
  rw [s_ldN (by decide), (El.fr0 he hI.fr).agg 12 7 (by show 12 + 7 ≤ 21; decide), Hrd.d_v_br, onS_some]; exact hk
theorem q_ldC {b p : Nat} {h : Hrd} {R : Value → World → Prop} (he : El w b p h.cells) (hF : Fr none_ w W) (hk : R (i64 h.cost) W) : opS Try.prog (S.ld 3 (pt b (p + 1))) R W := by
  rw [s_ld1, (El.fr0 he hF).cell 1 (by show 1 < 21; decide), Hrd.g_cost, onS_some]; exact hk
theorem q_ldP {b p : Nat} {h : Hrd} {R : Value → World → Prop} (he : El w b p h.cells) (hF : Fr none_ w W) (hk : R (i64 h.port) W) : opS Try.prog (S.ld 3 (pt b p)) R W := by
  rw [s_ld1, (El.fr0 he hF).cell0 (by show 0 < 21; decide), Hrd.g_port, onS_some]; exact hk
theorem q_ldU {b p : Nat} {h : Hrd} {R : Value → World → Prop} (he : El w b p h.cells) (hI : SQr w me bb acc W) (hk : R (.bool h.up) W) : opS Try.prog (S.ld 4 (pt b (p + 2))) R W := by
  rw [s_ld1, (El.fr0 he hI.fr).cell 2 (by show 2 < 21; decide), Hrd.g_up, onS_some]; exact hk
theorem q_ldvb {vb : Nat} {c : Vec} {R : Value → World → Prop} (hv : VQ bb vb c W) (hk : R (.agg c.cells.toArray) W) : opS Try.prog (S.ld 36 (pt vb 0)) R W := by
  simp only [push_cast, Nat.reduceAdd, Nat.reduceLeDiff, Nat.reduceLT, Int.reduceToNat, Nat.left_eq_add, Nat.add_eq_left, Nat.add_left_cancel_iff, Nat.reduceEqDiff, Nat.add_assoc, Nat.succ_ne_zero, hv.1]; exact hk
theorem q_ldvr {vb : Nat} {c : Vec} {R : Value → World → Prop} (hv : VQ bb vb c W) (hk : R (.agg c.br.cells.toArray) W) : opS Try.prog (S.ld 31 (pt vb 8)) R W := by
  simp only [push_cast, Nat.reduceAdd, Nat.reduceLeDiff, Nat.reduceLT, Int.reduceToNat, Nat.left_eq_add, Nat.add_eq_left, Nat.add_left_cancel_iff, Nat.reduceEqDiff, Nat.add_assoc, Nat.succ_ne_zero, hv.1]; exact hk
theorem q_ldb {R : Value → World → Prop} (hI : SQr w me bb acc W) (hk : R (.agg acc.cells.toArray) W) : opS Try.prog (S.ld 36 (pt bb 0)) R W := by
  simp only [push_cast, Nat.reduceAdd, Nat.reduceLeDiff, Nat.reduceLT, Int.reduceToNat, Nat.left_eq_add, Nat.add_eq_left, Nat.add_left_cancel_iff, Nat.reduceEqDiff, Nat.add_assoc, Nat.succ_ne_zero, hI.b]; exact hk
theorem q_ldm {R : Value → World → Prop} (hI : SQr w me bb acc W) (hk : R (.agg me.cells.toArray) W) : opS Try.prog (S.ld 31 (pt w.heap.size 0)) R W := by
  simp only [push_cast, Nat.reduceAdd, Nat.reduceLeDiff, Nat.reduceLT, Int.reduceToNat, Nat.left_eq_add, Nat.add_eq_left, Nat.add_left_cancel_iff, Nat.reduceEqDiff, Nat.add_assoc, Nat.succ_ne_zero, hI.m]; exact hk
end

end Go.Gx.S
end

section
/- Pointers that are compared. -/
namespace Go.Gx
open Go
variable {P : Program} {K : Value → World → Prop} {w : World}

/-- a type of pointers to what has cells -/
class PtT (P : Program) (T : TypeId) : Prop where
  und : ∃ E j, P.underlying T = some (.pointer E) ∧ P.info? E = some j ∧ j.size ≠ 0

theorem run_equal_ptr {T : TypeId} [hT : PtT P T] {a b : Nat} {x y : List Value} {TX TY : TypeId} (ha : w.heap[a]? = some (cellsO x TX)) (hb : w.heap[b]? = some (cellsO y TY)) :
    (Op.equal T (pt a 0) (pt b 0)).run P w = .ok (decide (a = b)) w := by
  obtain ⟨E, j, hp, hte, hsz⟩ := hT.und
  by_cases e : a = b
  · subst e
    have h : ∀ d : Nat, (Op.equalIn (d + 1) T (.pointer (some ⟨a, 0, none⟩)) (.pointer (some ⟨a, 0, none⟩))).run P w = .ok true w := fun d => by
      simp [Op.equalIn, run_underlying hp, sizeOf, typeInfo, hte, run_sameAddr_same]
    rw [decide_eq_true rfl]
    simp [Op.equal, Op.maxDepth, pt, h 9999]
  · have hne : (⟨a, 0, none⟩ : Addr) ≠ ⟨b, 0, none⟩ := fun h => e (by cases h; rfl)
    have h : ∀ d : Nat, (Op.equalIn (d + 1) T (.pointer (some ⟨a, 0, none⟩)) (.pointer (some ⟨b, 0, none⟩))).run P w = .ok false w := fun d => by
      simp [Op.equalIn, run_underlying hp, sizeOf, typeInfo, hte, hsz, run_sameAddr_other w hne ha hb]
    rw [decide_eq_false e]
    simp [Op.equal, Op.maxDepth, pt, h 9999]

theorem s_eqP {T : TypeId} [hT : PtT P T] {a b : Nat} {x y : List Value} {TX TY : TypeId} (ha : w.heap[a]? = some (cellsO x TX)) (hb : w.heap[b]? = some (cellsO y TY))
    (h : K (.bool (decide (a = b))) w) : opS P (S.binG .eql T (pt a 0) (pt b 0)) K w := by
  have hr := run_equal_ptr (P := P) (T := T) ha hb
  unfold opS S.binG pt
  simp only []
  have hg : ∀ op, (eqGuard op T (.tmp 0) (.tmp 0) (.pointer (some ⟨a, 0, none⟩)) (.pointer (some ⟨b, 0, none⟩))).run P w = .ok () w := fun op => by cases op <;> rfl
  rw [Sem.run_bind, hg, Result.andThen_ok, Sem.run_bind]
  simp only [binOp]
  rw [Sem.run_bind]
  unfold pt at hr
  rw [hr, Result.andThen_ok]
  exact h

theorem s_neP {T : TypeId} [hT : PtT P T] {a b : Nat} {x y : List Value} {TX TY : TypeId} (ha : w.heap[a]? = some (cellsO x TX)) (hb : w.heap[b]? = some (cellsO y TY))
    (h : K (.bool (!decide (a = b))) w) : opS P (S.binG .neq T (pt a 0) (pt b 0)) K w := by
  have hr := run_equal_ptr (P := P) (T := T) ha hb
  unfold opS S.binG pt
  simp only []
  have hg : ∀ op, (eqGuard op T (.tmp 0) (.tmp 0) (.pointer (some ⟨a, 0, none⟩)) (.pointer (some ⟨b, 0, none⟩))).run P w = .ok () w := fun op => by cases op <;> rfl
  rw [Sem.run_bind, hg, Result.andThen_ok, Sem.run_bind]
  simp only [binOp]
  rw [Sem.run_bind]
  unfold pt at hr
  rw [hr, Result.andThen_ok]
  exact h

end Go.Gx
end
