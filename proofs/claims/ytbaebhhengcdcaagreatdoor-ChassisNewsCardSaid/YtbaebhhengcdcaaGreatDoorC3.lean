/- Own texts, put together. -/
import Derived.Test.YtbaebhhengcdcaaGreatDoorC2
import Derived.Test.YtbaebhhengcdcaaGreatDoorC1
import Derived.Test.YtbaebhhengcdcaaGreatDoorProg
import Derived.Ground.SlsfProg
import Derived.Shelf.SlSortCmp.WholeK
import Derived.Shelf.SlGeneric
section
/- Entries in order; what changes make of them: plain. -/
namespace Go.Gx
open Go Go.Sort Go.Proofs

theorem Ent.g0 (e : Ent) : e.cells[0]? = some (i64 e.vlan) := id rfl
theorem Ent.g7 (e : Ent) : e.cells[7]? = some (i64 e.port) := id rfl
theorem Ent.g8 (e : Ent) : e.cells[8]? = some (i64 e.at_) := id rfl
theorem Ent.g9 (e : Ent) : e.cells[9]? = some (.bool e.static) := id rfl
theorem Ent.d1 (e : Ent) : (e.cells.drop 1).take 6 = e.mac.cells := id rfl
theorem Ent.dw (e : Ent) : (e.cells.drop 0).take 10 = e.cells := id rfl
theorem Ent.sw (e f : Ent) : splice e.cells 0 f.cells = f.cells := id rfl
attribute [push_cast] Ent.g0 Ent.g7 Ent.g8 Ent.g9 Ent.d1 Ent.dw Ent.sw Ent.cells_length Ent.cells_one

def eKey (e : Ent) : Int × Mac := (e.vlan, e.mac)
def cmpE (a b : Ent) : Int := if cmpI a.vlan b.vlan ≠ 0 then cmpI a.vlan b.vlan else cmpM a.mac b.mac
def ltE (a b : Ent) : Prop := a.vlan < b.vlan ∨ (a.vlan = b.vlan ∧ macN a.mac < macN b.mac)
instance (a b : Ent) : Decidable (ltE a b) := by unfold ltE; infer_instance

theorem cmpI_lt {a b : Int} : cmpI a b < 0 ↔ a < b := by
  unfold cmpI
  by_cases h1 : a < b
  · rw [if_pos h1]; simp [h1]
  · rw [if_neg h1]
    by_cases h2 : b < a
    · rw [if_pos h2]; constructor <;> intro h <;> omega
    · rw [if_neg h2]; constructor <;> intro h <;> omega
theorem cmpI_zero {a b : Int} : cmpI a b = 0 ↔ a = b := by
  unfold cmpI
  by_cases h1 : a < b
  · rw [if_pos h1]; constructor <;> intro h <;> omega
  · rw [if_neg h1]
    by_cases h2 : b < a
    · rw [if_pos h2]; constructor <;> intro h <;> omega
    · rw [if_neg h2]; constructor <;> intro h <;> omega
theorem cmpE_lt {a b : Ent} : cmpE a b < 0 ↔ ltE a b := by
  unfold cmpE ltE cmpM
  by_cases h : a.vlan = b.vlan
  · rw [if_neg (fun h2 => h2 (cmpI_zero.2 h)), cmpI_lt]
    constructor
    · intro h2; exact .inr ⟨h, h2⟩
    · rintro (h2 | h2)
      · omega
      · exact h2.2
  · rw [if_pos (fun h2 => h (cmpI_zero.1 h2)), cmpI_lt]
    constructor
    · intro h2; exact .inl h2
    · rintro (h2 | h2)
      · exact h2
      · exact absurd h2.1 h

theorem ltE_irr (a : Ent) : ¬ ltE a a := by unfold ltE; omega
theorem ltE_asym (a b : Ent) (h : ltE a b) : ¬ ltE b a := by unfold ltE at *; omega
theorem ltE_trans {a b c : Ent} (h : ltE a b) (h' : ltE b c) : ltE a c := by unfold ltE at *; omega
theorem ltE_total {a b : Ent} (ha : a.ok) (hb : b.ok) (h : eKey a ≠ eKey b) : ltE a b ∨ ltE b a := by
  unfold ltE
  by_cases h1 : a.vlan = b.vlan
  · have : macN a.mac ≠ macN b.mac := fun h2 => h (by unfold eKey; rw [h1, macN_inj ha.2.1 hb.2.1 h2])
    omega
  · omega
theorem ltE_key {a b : Ent} (h : ltE a b) : eKey a ≠ eKey b := by
  intro e
  unfold eKey at e
  simp only [Prod.mk.injEq] at e
  unfold ltE at h
  rw [e.1, e.2] at h
  omega

/-- entries, in order, each key once -/
def Srt (r : List Ent) : Prop := r.Pairwise ltE ∧ ∀ e ∈ r, e.ok

theorem Srt.nil : Srt [] := ⟨List.Pairwise.nil, by simp⟩
theorem Srt.key {r : List Ent} (h : Srt r) {e f : Ent} (he : e ∈ r) (hf : f ∈ r) (hk : eKey e = eKey f) : e = f := by
  obtain ⟨i, hi, rfl⟩ := List.getElem_of_mem he
  obtain ⟨j, hj, rfl⟩ := List.getElem_of_mem hf
  have hp := List.pairwise_iff_getElem.1 h.1
  rcases Nat.lt_trichotomy i j with hij | rfl | hij
  · exact absurd hk (ltE_key (hp i j hi hj hij))
  · rfl
  · exact absurd hk.symm (ltE_key (hp j i hj hi hij))
theorem Srt.eq {r s : List Ent} (h : Srt r) (h' : Srt s) (he : ∀ e, e ∈ r ↔ e ∈ s) : r = s := eq_of_rising ltE_irr ltE_asym h.1 h'.1 he

def withoutL (l : List Ent) (x : Ent) : List Ent := l.filter fun e => decide (eKey e ≠ eKey x)
def insL (l : List Ent) (x : Ent) : List Ent := l.takeWhile (fun e => decide (ltE e x)) ++ x :: l.dropWhile (fun e => decide (ltE e x))
def withL (l : List Ent) (x : Ent) : List Ent := insL (withoutL l x) x

theorem mem_without {l : List Ent} {x e : Ent} : e ∈ withoutL l x ↔ e ∈ l ∧ eKey e ≠ eKey x := by
  unfold withoutL
  rw [List.mem_filter, decide_eq_true_iff]
theorem mem_ins {l : List Ent} {x e : Ent} : e ∈ insL l x ↔ e = x ∨ e ∈ l := by
  unfold insL
  conv => rhs; rw [← List.takeWhile_append_dropWhile (p := fun e => decide (ltE e x)) (l := l)]
  simp only [List.mem_append, List.mem_cons]
  constructor
  · rintro (h | h | h)
    · exact .inr (.inl h)
    · exact .inl h
    · exact .inr (.inr h)
  · rintro (h | h | h)
    · exact .inr (.inl h)
    · exact .inl h
    · exact .inr (.inr h)
theorem mem_with {l : List Ent} {x e : Ent} : e ∈ withL l x ↔ e = x ∨ (e ∈ l ∧ eKey e ≠ eKey x) := by
  unfold withL
  rw [mem_ins, mem_without]

theorem Srt.without {r : List Ent} (h : Srt r) (x : Ent) : Srt (withoutL r x) := ⟨h.1.filter _, fun e he => h.2 e (mem_without.1 he).1⟩
theorem Srt.with {r : List Ent} (h : Srt r) {x : Ent} (hx : x.ok) : Srt (withL r x) := by
  have hw := h.without x
  have hk : ∀ e ∈ withoutL r x, eKey e ≠ eKey x := fun e he => (mem_without.1 he).2
  refine ⟨?_, fun e he => ?_⟩
  · unfold withL
    generalize withoutL r x = l at *
    clear h
    unfold insL
    have hcut : ∀ e ∈ l.dropWhile (fun e => decide (ltE e x)), ltE x e := by
      have hs : (l.dropWhile (fun e => decide (ltE e x))).Pairwise ltE := hw.1.sublist (List.dropWhile_sublist _)
      cases hd : l.dropWhile (fun e => decide (ltE e x)) with
      | nil => simp
      | cons f k =>
        rw [hd] at hs
        have hf : ¬ ltE f x := by
          have := List.head_dropWhile_not (fun e => decide (ltE e x)) (l := l) (by rw [hd]; simp)
          simp only [hd, List.head_cons] at this
          simpa using this
        have hfl : f ∈ l := (List.dropWhile_sublist _).subset (by rw [hd]; exact List.mem_cons_self ..)
        have hxf : ltE x f := (ltE_total (hw.2 f hfl) hx (hk f hfl)).resolve_left hf
        intro e he
        rcases List.mem_cons.1 he with rfl | he
        · exact hxf
        · exact ltE_trans hxf ((List.pairwise_cons.1 hs).1 e he)
    have htk : ∀ e ∈ l.takeWhile (fun e => decide (ltE e x)), ltE e x := fun e he => by
      have := List.all_eq_true.1 (List.all_takeWhile (p := fun e => decide (ltE e x)) (l := l)) e he
      simpa using this
    rw [List.pairwise_append]
    refine ⟨hw.1.sublist (List.takeWhile_sublist _), List.pairwise_cons.2 ⟨hcut, hw.1.sublist (List.dropWhile_sublist _)⟩, fun a ha b hb => ?_⟩
    rcases List.mem_cons.1 hb with rfl | hb
    · exact htk a ha
    · exact ltE_trans (htk a ha) (hcut b hb)
  · rcases mem_with.1 he with rfl | he
    · exact hx
    · exact h.2 e he.1

def chL (r : List Ent) (c : Ent × Bool) : List Ent := if c.2 then withoutL r c.1 else withL r c.1
theorem Srt.ch {r : List Ent} (h : Srt r) {c : Ent × Bool} (hc : c.1.ok) : Srt (chL r c) := by
  unfold chL
  split
  · exact h.without _
  · exact h.with hc
theorem without_len (l : List Ent) (x : Ent) : (withoutL l x).length ≤ l.length := List.length_filter_le _ _
theorem ins_len (l : List Ent) (x : Ent) : (insL l x).length = l.length + 1 := by
  have h := congrArg List.length (List.takeWhile_append_dropWhile (p := fun e => decide (ltE e x)) (l := l))
  unfold insL
  rw [List.length_append] at h ⊢
  rw [List.length_cons]
  omega
theorem with_len (l : List Ent) (x : Ent) : (withL l x).length ≤ l.length + 1 := by
  unfold withL
  rw [ins_len]
  have := without_len l x
  omega
/-! ### A map of entries -/

structure RM (m : List ((Int × Mac) × Ent)) (r : List Ent) : Prop where
  srt : Srt r
  mem : ∀ e, e ∈ r ↔ (eKey e, e) ∈ m
  key : ∀ p ∈ m, p.1 = eKey p.2
  nd : (m.map Prod.fst).Nodup

theorem RM.nil : RM [] [] := ⟨Srt.nil, by simp, by simp, by simp⟩
theorem setL_mem_iff {κ ν : Type} [DecidableEq κ] {l : List (κ × ν)} (hn : (l.map Prod.fst).Nodup) {k : κ} {v : ν} {x : κ × ν} : x ∈ setL l k v ↔ x = (k, v) ∨ (x ∈ l ∧ x.1 ≠ k) := by
  have hns := VT.setL_nodup (k := k) (v := v) hn
  have key : ∀ (q : List (κ × ν)), (q.map Prod.fst).Nodup → ∀ y, y ∈ q ↔ getL q y.1 = some y.2 := fun q hq y => ⟨fun h => lookup_of_mem hq h, fun h => lookup_some_mem h⟩
  rw [key _ hns, lookup_setL]
  by_cases e : x.1 = k
  · rw [if_pos e]
    constructor
    · intro h
      left
      simp only [Option.some.injEq] at h
      exact Prod.ext e h.symm
    · rintro (h | h)
      · rw [h]
      · exact absurd e h.2
  · rw [if_neg e]
    constructor
    · intro h; exact .inr ⟨lookup_some_mem h, e⟩
    · rintro (h | h)
      · rw [h] at e; exact absurd rfl e
      · exact lookup_of_mem hn h.1
theorem RM.set {m : List ((Int × Mac) × Ent)} {r : List Ent} (h : RM m r) {e : Ent} (he : e.ok) : RM (setL m (eKey e) e) (withL r e) := by
  refine ⟨h.srt.with he, fun f => ?_, fun p hp => ?_, VT.setL_nodup h.nd⟩
  · rw [mem_with, setL_mem_iff h.nd, h.mem]
    constructor
    · rintro (rfl | ⟨h1, h2⟩)
      · exact .inl rfl
      · exact .inr ⟨h1, h2⟩
    · rintro (h1 | ⟨h1, h2⟩)
      · exact .inl (Prod.ext_iff.1 h1).2
      · exact .inr ⟨h1, h2⟩
  · rcases (setL_mem_iff h.nd).1 hp with rfl | ⟨h1, _⟩
    · rfl
    · exact h.key p h1
/-- what comes out of the map, sorted -/
theorem RM.out {m d : List ((Int × Mac) × Ent)} {r ys : List Ent} (h : RM m r) (hd : d.Perm m) (hy : ys.Perm (d.map Prod.snd)) (hs : ys.Pairwise fun x y => ¬ cmpE y x < 0) : ys = r := by
  have hm : ∀ e, e ∈ ys ↔ e ∈ r := fun e => by
    rw [hy.mem_iff, (hd.map _).mem_iff, h.mem, List.mem_map]
    constructor
    · rintro ⟨p, hp, rfl⟩
      have := h.key p hp
      rw [← this]; exact hp
    · intro hp; exact ⟨_, hp, rfl⟩
  have hnd : ys.Nodup := by
    rw [hy.nodup_iff, (hd.map _).nodup_iff]
    have : (m.map Prod.snd).map eKey = m.map Prod.fst := by
      rw [List.map_map]
      exact List.map_congr_left fun p hp => (h.key p hp).symm
    have hn := h.nd
    rw [← this] at hn
    exact List.Pairwise.of_map eKey (fun a b h e => h (congrArg eKey e)) hn
  refine Srt.eq ⟨?_, fun e he => h.srt.2 e ((hm e).1 he)⟩ h.srt hm
  rw [List.pairwise_iff_getElem] at hs ⊢
  intro i j hi hj hij
  have h1 := hs i j hi hj hij
  rw [cmpE_lt] at h1
  have hne : ys[i] ≠ ys[j] := List.pairwise_iff_getElem.1 hnd i j hi hj hij
  have hmi := (hm _).1 (List.getElem_mem hi)
  have hmj := (hm _).1 (List.getElem_mem hj)
  have hk : eKey ys[i] ≠ eKey ys[j] := fun e => hne (h.srt.key hmi hmj e)
  exact (ltE_total (h.srt.2 _ hmi) (h.srt.2 _ hmj) hk).resolve_right h1

end Go.Gx
end

section
/- Bytes that are copied, cut out, made; shifts and bits. -/
namespace Go.Gx
open Go
variable {P : Program} {K : Value → World → Prop} {w : World}

/-! ### Numbers -/

theorem wrap_u8 (x : Int) : IntKind.u8.wrap x = x % 256 := by
  unfold IntKind.wrap
  have e1 : (2 : Int) ^ IntKind.u8.bits = 256 := rfl
  have e3 : IntKind.u8.signed = false := rfl
  simp only [e1, e3, Bool.false_and, Bool.false_eq_true, if_false]

theorem opS_shr (k k' : IntKind) (x : Int) (n : Nat) (hn : n ≤ k.bits) : opS P (S.binI .shr (.int k x) (.int k' n)) K w = K (.int k (x / 2 ^ n)) w := by
  have h : ¬ ((n : Int) < 0) := by omega
  have e : x.fdiv (2 ^ n) = x / 2 ^ n := Int.fdiv_eq_ediv_of_nonneg x (Int.le_of_lt (Int.pow_pos (by decide)))
  simp [S.binI, binOp, Op.shift, opS, uponR, Nat.min_eq_left hn, h, e]
theorem opS_shl (k k' : IntKind) (x : Int) (n : Nat) (hn : n ≤ k.bits) : opS P (S.binI .shl (.int k x) (.int k' n)) K w = K (.int k (k.wrap (x * 2 ^ n))) w := by
  have h : ¬ ((n : Int) < 0) := by omega
  simp [S.binI, binOp, Op.shift, opS, uponR, Nat.min_eq_left hn, h]

theorem ofInt_nat {n : Nat} {x : Int} (h0 : 0 ≤ x) : BitVec.ofInt n x = BitVec.ofNat n x.toNat := by
  obtain ⟨k, rfl⟩ := Int.eq_ofNat_of_zero_le h0
  simp

/-! ### Parts of arrays; room -/

theorem RdE.cap {sz : Nat} {v : Value} {es : List (List Value)} (h : RdE sz w v es) : ∃ a c, v = .slice a es.length c ∧ es.length ≤ c := by
  rcases h.1 with ⟨⟨a, c, rfl⟩, h2, _⟩ | ⟨b, o, c, cs, T, fz, rfl, _, hc, _⟩
  · exact ⟨a, c, by rw [h2], by omega⟩
  · exact ⟨_, c, rfl, hc⟩

/-! ### What one holds, by cells -/

/-- a part of what one holds is written -/
theorem Own.copy {E b o c n m : Nat} {l js k : List Value} (h : Own E 1 w (.slice (some ⟨b, o, none⟩) (n + m) c) (n + m) (l ++ js)) (hl : l.length = n) (hk : k.length = m) :
    Own E 1 (wr w b (o + n) k) (.slice (some ⟨b, o, none⟩) (n + m) c) (n + m) (l ++ k) := by
  rcases h with ⟨h, _⟩ | ⟨b', o', c', cs, hv, hb, hc, ho, he⟩
  · cases h
  · simp only [Value.slice.injEq, Option.some.injEq, Addr.mk.injEq, and_true, true_and] at hv
    obtain ⟨⟨rfl, rfl⟩, rfl⟩ := hv
    have hsz : cs.toList.length = cs.size := Array.length_toList
    refine .inr ⟨b, o, c, (splice cs.toList (o + n) k).toArray, rfl, ?_, hc, ?_, ?_⟩
    · rw [heap_wr, if_pos rfl, hb]; rfl
    · rw [List.size_toArray, splice_length (by omega)]; simpa using ho
    · have := splice_window (l := cs.toList) (k := k) (o := o) (a := n) (by omega)
      show l ++ k = List.take _ (List.drop o (splice cs.toList (o + n) k))
      rw [Nat.mul_one, ← hk, this]
      congr 1
      have := congrArg (List.take n) he
      rw [← hl, List.take_left, List.take_take] at this
      rw [hl, Nat.mul_one, Nat.min_eq_left (by omega)] at this
      exact this

theorem Own.splice {E b o c n a : Nat} {l k : List Value} (h : Own E 1 w (.slice (some ⟨b, o, none⟩) n c) n l) (ha : a + k.length ≤ n) :
    Own E 1 (wr w b (o + a) k) (.slice (some ⟨b, o, none⟩) n c) n (Gx.splice l a k) := by
  rcases h with ⟨h, _⟩ | ⟨b', o', c', cs, hv, hb, hc, ho, rfl⟩
  · cases h
  · simp only [Value.slice.injEq, Option.some.injEq, Addr.mk.injEq, and_true, true_and] at hv
    obtain ⟨⟨rfl, rfl⟩, rfl⟩ := hv
    have hsz : cs.toList.length = cs.size := Array.length_toList
    refine .inr ⟨b, o, c, (Gx.splice cs.toList (o + a) k).toArray, rfl, ?_, hc, ?_, ?_⟩
    · rw [heap_wr, if_pos rfl, hb]; rfl
    · rw [List.size_toArray, splice_length (by omega)]; simpa using ho
    · rw [Nat.mul_one, splice_sub (by omega) ha]

/-- more of what one holds, as far as there is room -/
theorem Own.more {E b o c n : Nat} {l : List Value} (h : Own E 1 w (.slice (some ⟨b, o, none⟩) n c) n l) {m : Nat} (hm : n + m ≤ c) :
    ∃ js : List Value, js.length = m ∧ Own E 1 w (.slice (some ⟨b, o, none⟩) (n + m) c) (n + m) (l ++ js) := by
  have hl := h.rd.len
  rcases h with ⟨h, _⟩ | ⟨b', o', c', cs, hv, hb, hc, ho, rfl⟩
  · cases h
  · simp only [Value.slice.injEq, Option.some.injEq, Addr.mk.injEq, and_true, true_and] at hv
    obtain ⟨⟨rfl, rfl⟩, rfl⟩ := hv
    have hsz : cs.toList.length = cs.size := Array.length_toList
    refine ⟨(cs.toList.drop (o + n)).take m, by rw [List.length_take, List.length_drop]; omega, .inr ⟨b, o, c, cs, rfl, hb, hm, ho, ?_⟩⟩
    rw [Nat.mul_one, Nat.mul_one, List.take_add, List.drop_drop]

theorem Own.less {E b o c n m : Nat} {l : List Value} (h : Own E 1 w (.slice (some ⟨b, o, none⟩) n c) n l) (hm : m ≤ n) : Own E 1 w (.slice (some ⟨b, o, none⟩) m c) m (l.take m) := by
  rcases h with ⟨h, _⟩ | ⟨b', o', c', cs, hv, hb, hc, ho, rfl⟩
  · cases h
  · simp only [Value.slice.injEq, Option.some.injEq, Addr.mk.injEq, and_true, true_and] at hv
    obtain ⟨⟨rfl, rfl⟩, rfl⟩ := hv
    refine .inr ⟨b, o, c, cs, rfl, hb, by omega, ho, ?_⟩
    rw [List.take_take, Nat.mul_one, Nat.mul_one, Nat.min_eq_left hm]

theorem Own.cells {E b o c n : Nat} {l : List Value} (h : Own E 1 w (.slice (some ⟨b, o, none⟩) n c) n l) : ∃ cs : Array Value, w.heap[b]? = some (.cells cs E (0, 0)) ∧ n ≤ c ∧ o + c ≤ cs.size := by
  rcases h with ⟨h, _⟩ | ⟨b', o', c', cs, hv, hb, hc, ho, _⟩
  · cases h
  · simp only [Value.slice.injEq, Option.some.injEq, Addr.mk.injEq, and_true, true_and] at hv
    obtain ⟨⟨rfl, rfl⟩, rfl⟩ := hv
    exact ⟨cs, hb, hc, by omega⟩

end Go.Gx
end

section
/- What the functions of this program ask. -/
set_option linter.unusedVariables false
set_option maxRecDepth 100000
namespace Go.Gx.S
open Go Go.Gx Go.Proofs
-- (*gemel/fdb.Table).Look
def p29 (P : Program) (K : Value → World → Prop) (x0 : Value) (x1 : Value) (x2 : Value) : World → Prop :=
  opS P (S.box 53 x2) fun x3 =>
  opS P (S.alloc 80) fun x4 =>
  opS P (S.ld 53 x3) fun x5 =>
  opS P (S.cl 81 [x0, x1, x5]) fun x6 =>
  opS P (S.ext x6 0) fun x7 =>
  opS P (S.ext x6 1) fun x8 =>
  opS P (S.nc x0) fun x9 =>
  opS P (S.fa 149 x9 0) fun x10 =>
  opS P (S.ld 147 x10) fun x11 =>
  opS P (S.ia 147 x11 x7) fun x12 =>
  opS P (S.ld 80 x12) fun x13 =>
  opS P (S.st 80 x4 x13) fun x14 =>
  opS P (S.ld 80 x4) fun x15 =>
  K (.tuple #[x15, x8])
instance fnb29 : FnB Tryz.prog 29 := ⟨Tryz.call29⟩
theorem e29 : p29 Tryz.prog = fun K x0 x1 x2 => denF Tryz.prog Tryz.f29 [x0, x1, x2] K := by kernel_rfl
theorem c29 {K : Value → World → Prop} {x0 x1 x2 : Value} {w : World} (h : p29 Tryz.prog K x0 x1 x2 w) : CallsR Tryz.prog 29 #[x0, x1, x2] K w := by
  rw [e29] at h
  exact denF_sound mixed Tryz.func29 h

-- (*gemel/fdb.Table).find
def p81 (P : Program) (K : Value → World → Prop) (x0 : Value) (x1 : Value) (x2 : Value) : World → Prop :=
  opS P (S.box 53 x2) fun x3 =>
  opS P (S.ld 53 x3) fun x4 =>
  opS P (S.cl 162 [x0, x1, x4]) fun x5 =>
  jnJ 2 (fun x6 x7 =>
    K (.tuple #[x6, x7])
  ) fun j0 =>
  loopJ 2 (fun j1 x6 x7 =>
    opS P (S.nc x0) fun x8 =>
    opS P (S.fa 149 x8 0) fun x9 =>
    opS P (S.ld 147 x9) fun x10 =>
    opS P (S.ia 147 x10 x6) fun x11 =>
    opS P (S.ld 80 x11) fun x12 =>
    opS P (S.build 80 []) fun x13 =>
    opS P (S.binG .neq 80 x12 x13) fun x14 =>
    brn x14 (
      drw <|
      opS P (S.nc x0) fun x15 =>
      opS P (S.fa 149 x15 0) fun x16 =>
      opS P (S.ld 147 x16) fun x17 =>
      opS P (S.ia 147 x17 x6) fun x18 =>
      opS P (S.fa 80 x18 0) fun x19 =>
      opS P (S.ld 3 x19) fun x20 =>
      opS P (S.binI .eql x20 x1) fun x21 =>
      brn x21 (
        opS P (S.nc x0) fun x22 =>
        opS P (S.fa 149 x22 0) fun x23 =>
        opS P (S.ld 147 x23) fun x24 =>
        opS P (S.ia 147 x24 x6) fun x25 =>
        opS P (S.fa 80 x25 1) fun x26 =>
        opS P (S.ld 53 x26) fun x27 =>
        opS P (S.ld 53 x3) fun x28 =>
        opS P (S.binG .eql 53 x27 x28) fun x29 =>
        brn x29 (
          j0 x6 x29
        ) (
          opS P (S.cl 163 [x0, x6]) fun x30 =>
          j1 x30 x29
        )
      ) (
        opS P (S.cl 163 [x0, x6]) fun x22 =>
        j1 x22 (.bool false)
      )
    ) (
      j0 x6 x7
    )
  ) x5 (.bool false)
instance fnb81 : FnB Tryz.prog 81 := ⟨Tryz.call81⟩
theorem e81 : p81 Tryz.prog = fun K x0 x1 x2 => denF Tryz.prog Tryz.f81 [x0, x1, x2] K := by kernel_rfl
theorem c81 {K : Value → World → Prop} {x0 x1 x2 : Value} {w : World} (h : p81 Tryz.prog K x0 x1 x2 w) : CallsR Tryz.prog 81 #[x0, x1, x2] K w := by
  rw [e81] at h
  exact denF_sound mixed Tryz.func81 h

-- gemel/fdb.New
def p99 (P : Program) (K : Value → World → Prop) (x0 : Value) : World → Prop :=
  opS P (S.binI .lss x0 (.int .i64 1)) fun x1 =>
  brn x1 (
    K (.tuple #[(.pointer none), (.int .i64 1)])
  ) (
    opS P (S.binI .gtr x0 (.int .i64 1024)) fun x2 =>
    brn x2 (
      K (.tuple #[(.pointer none), (.int .i64 1)])
    ) (
      opS P (S.binI .mul (.int .i64 2) x0) fun x3 =>
      opS P (S.mks 147 x3 x3) fun x4 =>
      opS P (S.build 149 [(0, x4)]) fun x5 =>
      opS P (S.box 149 x5) fun x6 =>
      K (.tuple #[x6, (.int .i64 0)])
    )
  )
instance fnb99 : FnB Tryz.prog 99 := ⟨Tryz.call99⟩
theorem e99 : p99 Tryz.prog = fun K x0 => denF Tryz.prog Tryz.f99 [x0] K := by kernel_rfl
theorem c99 {K : Value → World → Prop} {x0 : Value} {w : World} (h : p99 Tryz.prog K x0 w) : CallsR Tryz.prog 99 #[x0] K w := by
  rw [e99] at h
  exact denF_sound mixed Tryz.func99 h

-- (*gemel/fdb.Table).Learn
def p133 (P : Program) (K : Value → World → Prop) (x0 : Value) (x1 : Value) (x2 : Value) (x3 : Value) (x4 : Value) : World → Prop :=
  opS P (S.box 53 x2) fun x5 =>
  opS P (S.ld 53 x5) fun x6 =>
  opS P (S.cl 198 [x1, x6, x3]) fun x7 =>
  opS P (S.un .not x7) fun x8 =>
  brn x8 (
    K (.tuple #[(.int .i64 0), (.int .i64 1)])
  ) (
    opS P (S.cl 199 [x4]) fun x9 =>
    opS P (S.un .not x9) fun x10 =>
    brn x10 (
      K (.tuple #[(.int .i64 0), (.int .i64 1)])
    ) (
      opS P (S.ld 53 x5) fun x11 =>
      opS P (S.cl 81 [x0, x1, x11]) fun x12 =>
      opS P (S.ext x12 0) fun x13 =>
      opS P (S.ext x12 1) fun x14 =>
      opS P (S.nc x0) fun x15 =>
      opS P (S.fa 149 x15 0) fun x16 =>
      opS P (S.ld 147 x16) fun x17 =>
      opS P (S.ia 147 x17 x13) fun x18 =>
      opS P (S.ld 80 x18) fun x19 =>
      opS P (S.alloc 80) fun x20 =>
      opS P (S.st 80 x20 x19) fun x21 =>
      jnJ 0 (
        jnJ 0 (
          drw <|
          opS P (S.nc x0) fun x22 =>
          opS P (S.fa 149 x22 0) fun x23 =>
          opS P (S.ld 147 x23) fun x24 =>
          opS P (S.ld 53 x5) fun x25 =>
          opS P (S.build 80 [(0, x1), (1, x25), (2, x3), (3, x4)]) fun x26 =>
          opS P (S.ia 147 x24 x13) fun x27 =>
          opS P (S.st 80 x27 x26) fun x28 =>
          opS P (S.un .not x14) fun x29 =>
          brn x29 (
            opS P (S.nc x0) fun x30 =>
            opS P (S.fa 149 x30 1) fun x31 =>
            opS P (S.ld 3 x31) fun x32 =>
            opS P (S.binI .add x32 (.int .i64 1)) fun x33 =>
            opS P (S.nc x0) fun x34 =>
            opS P (S.fa 149 x34 1) fun x35 =>
            opS P (S.st 3 x35 x33) fun x36 =>
            K (.tuple #[(.int .i64 1), (.int .i64 0)])
          ) (
            opS P (S.fa 80 x20 2) fun x30 =>
            opS P (S.ld 3 x30) fun x31 =>
            opS P (S.binI .neq x31 x3) fun x32 =>
            brn x32 (
              K (.tuple #[(.int .i64 2), (.int .i64 0)])
            ) (
              K (.tuple #[(.int .i64 0), (.int .i64 0)])
            )
          )
        ) fun j0 =>
        opS P (S.un .not x14) fun x22 =>
        brn x22 (
          opS P (S.cl 200 [x0]) fun x23 =>
          brn x23 (
            K (.tuple #[(.int .i64 0), (.int .i64 3)])
          ) (
            j0
          )
        ) (
          j0
        )
      ) fun j0 =>
      brn x14 (
        opS P (S.fa 80 x20 4) fun x22 =>
        opS P (S.ld 4 x22) fun x23 =>
        brn x23 (
          K (.tuple #[(.int .i64 0), (.int .i64 0)])
        ) (
          j0
        )
      ) (
        j0
      )
    )
  )
instance fnb133 : FnB Tryz.prog 133 := ⟨Tryz.call133⟩
theorem e133 : p133 Tryz.prog = fun K x0 x1 x2 x3 x4 => denF Tryz.prog Tryz.f133 [x0, x1, x2, x3, x4] K := by kernel_rfl
theorem c133 {K : Value → World → Prop} {x0 x1 x2 x3 x4 : Value} {w : World} (h : p133 Tryz.prog K x0 x1 x2 x3 x4 w) : CallsR Tryz.prog 133 #[x0, x1, x2, x3, x4] K w := by
  rw [e133] at h
  exact denF_sound mixed Tryz.func133 h

-- (*gemel/fdb.Table).Remove
instance fnb134 : FnB Tryz.prog 134 := ⟨Tryz.call134⟩
def p162 (P : Program) (K : Value → World → Prop) (x0 : Value) (x1 : Value) (x2 : Value) : World → Prop :=
  opS P (S.box 53 x2) fun x3 =>
  opS P (S.ld 53 x3) fun x4 =>
  opS P (S.cl 216 [x4]) fun x5 =>
  opS P (S.convI .u64 x1) fun x6 =>
  opS P (S.binI .shl x6 (.int .u64 48)) fun x7 =>
  opS P (S.binI .xor x5 x7) fun x8 =>
  opS P (S.binI .mul x8 (.int .u64 11400714819323198485)) fun x9 =>
  opS P (S.binI .shr x9 (.int .u64 33)) fun x10 =>
  opS P (S.convI .i64 x10) fun x11 =>
  opS P (S.nc x0) fun x12 =>
  opS P (S.fa 149 x12 0) fun x13 =>
  opS P (S.ld 147 x13) fun x14 =>
  opS P (S.len x14) fun x15 =>
  opS P (S.binI .rem x11 x15) fun x16 =>
  K x16
instance fnb162 : FnB Tryz.prog 162 := ⟨Tryz.call162⟩
theorem e162 : p162 Tryz.prog = fun K x0 x1 x2 => denF Tryz.prog Tryz.f162 [x0, x1, x2] K := by kernel_rfl
theorem c162 {K : Value → World → Prop} {x0 x1 x2 : Value} {w : World} (h : p162 Tryz.prog K x0 x1 x2 w) : CallsR Tryz.prog 162 #[x0, x1, x2] K w := by
  rw [e162] at h
  exact denF_sound mixed Tryz.func162 h

-- (*gemel/fdb.Table).next
def p163 (P : Program) (K : Value → World → Prop) (x0 : Value) (x1 : Value) : World → Prop :=
  opS P (S.binI .add x1 (.int .i64 1)) fun x2 =>
  opS P (S.nc x0) fun x3 =>
  opS P (S.fa 149 x3 0) fun x4 =>
  opS P (S.ld 147 x4) fun x5 =>
  opS P (S.len x5) fun x6 =>
  opS P (S.binI .rem x2 x6) fun x7 =>
  K x7
instance fnb163 : FnB Tryz.prog 163 := ⟨Tryz.call163⟩
theorem e163 : p163 Tryz.prog = fun K x0 x1 => denF Tryz.prog Tryz.f163 [x0, x1] K := by kernel_rfl
theorem c163 {K : Value → World → Prop} {x0 x1 : Value} {w : World} (h : p163 Tryz.prog K x0 x1 w) : CallsR Tryz.prog 163 #[x0, x1] K w := by
  rw [e163] at h
  exact denF_sound mixed Tryz.func163 h

-- gemel/fdb.right
def p198 (P : Program) (K : Value → World → Prop) (x0 : Value) (x1 : Value) (x2 : Value) : World → Prop :=
  opS P (S.box 53 x1) fun x3 =>
  opS P (S.binI .geq x0 (.int .i64 1)) fun x4 =>
  brn x4 (
    opS P (S.binI .leq x0 (.int .i64 4094)) fun x5 =>
    brn x5 (
      opS P (S.binI .geq x2 (.int .i64 0)) fun x6 =>
      brn x6 (
        opS P (S.binI .leq x2 (.int .i64 1000)) fun x7 =>
        brn x7 (
          opS P (S.ld 53 x3) fun x8 =>
          opS P (S.cl 213 [x8]) fun x9 =>
          opS P (S.un .not x9) fun x10 =>
          K x10
        ) (
          K (.bool false)
        )
      ) (
        K (.bool false)
      )
    ) (
      K (.bool false)
    )
  ) (
    K (.bool false)
  )
instance fnb198 : FnB Tryz.prog 198 := ⟨Tryz.call198⟩
theorem e198 : p198 Tryz.prog = fun K x0 x1 x2 => denF Tryz.prog Tryz.f198 [x0, x1, x2] K := by kernel_rfl
theorem c198 {K : Value → World → Prop} {x0 x1 x2 : Value} {w : World} (h : p198 Tryz.prog K x0 x1 x2 w) : CallsR Tryz.prog 198 #[x0, x1, x2] K w := by
  rw [e198] at h
  exact denF_sound mixed Tryz.func198 h

-- gemel/fdb.timed
def p199 (P : Program) (K : Value → World → Prop) (x0 : Value) : World → Prop :=
  opS P (S.binI .geq x0 (.int .i64 0)) fun x1 =>
  brn x1 (
    opS P (S.binI .leq x0 (.int .i64 1099511627776)) fun x2 =>
    K x2
  ) (
    K (.bool false)
  )
instance fnb199 : FnB Tryz.prog 199 := ⟨Tryz.call199⟩
theorem e199 : p199 Tryz.prog = fun K x0 => denF Tryz.prog Tryz.f199 [x0] K := by kernel_rfl
theorem c199 {K : Value → World → Prop} {x0 : Value} {w : World} (h : p199 Tryz.prog K x0 w) : CallsR Tryz.prog 199 #[x0] K w := by
  rw [e199] at h
  exact denF_sound mixed Tryz.func199 h

-- (*gemel/fdb.Table).full
def p200 (P : Program) (K : Value → World → Prop) (x0 : Value) : World → Prop :=
  drw <|
  opS P (S.nc x0) fun x1 =>
  opS P (S.fa 149 x1 1) fun x2 =>
  opS P (S.ld 3 x2) fun x3 =>
  opS P (S.binI .mul (.int .i64 2) x3) fun x4 =>
  opS P (S.nc x0) fun x5 =>
  opS P (S.fa 149 x5 0) fun x6 =>
  opS P (S.ld 147 x6) fun x7 =>
  opS P (S.len x7) fun x8 =>
  opS P (S.binI .geq x4 x8) fun x9 =>
  K x9
instance fnb200 : FnB Tryz.prog 200 := ⟨Tryz.call200⟩
theorem e200 : p200 Tryz.prog = fun K x0 => denF Tryz.prog Tryz.f200 [x0] K := by kernel_rfl
theorem c200 {K : Value → World → Prop} {x0 : Value} {w : World} (h : p200 Tryz.prog K x0 w) : CallsR Tryz.prog 200 #[x0] K w := by
  rw [e200] at h
  exact denF_sound mixed Tryz.func200 h

-- (*gemel/fdb.Table).take
instance fnb201 : FnB Tryz.prog 201 := ⟨Tryz.call201⟩
def p213 (P : Program) (K : Value → World → Prop) (x0 : Value) : World → Prop :=
  opS P (S.box 53 x0) fun x1 =>
  opS P (S.ia 53 x1 (.int .i64 0)) fun x2 =>
  opS P (S.ld 5 x2) fun x3 =>
  opS P (S.binI .and x3 (.int .u8 1)) fun x4 =>
  opS P (S.binI .eql x4 (.int .u8 1)) fun x5 =>
  K x5
instance fnb213 : FnB Tryz.prog 213 := ⟨Tryz.call213⟩
theorem e213 : p213 Tryz.prog = fun K x0 => denF Tryz.prog Tryz.f213 [x0] K := by kernel_rfl
theorem c213 {K : Value → World → Prop} {x0 : Value} {w : World} (h : p213 Tryz.prog K x0 w) : CallsR Tryz.prog 213 #[x0] K w := by
  rw [e213] at h
  exact denF_sound mixed Tryz.func213 h

-- gemel/mac.Number
def p216 (P : Program) (K : Value → World → Prop) (x0 : Value) : World → Prop :=
  opS P (S.box 53 x0) fun x1 =>
  jnJ 1 (fun x2 =>
    K x2
  ) fun j0 =>
  loopJ 2 (fun j1 x2 x3 =>
    opS P (S.binI .lss x3 (.int .i64 6)) fun x4 =>
    brn x4 (
      opS P (S.binI .shl x2 (.int .u64 8)) fun x5 =>
      opS P (S.ia 53 x1 x3) fun x6 =>
      opS P (S.ld 5 x6) fun x7 =>
      opS P (S.convI .u64 x7) fun x8 =>
      opS P (S.binI .or x5 x8) fun x9 =>
      opS P (S.binI .add x3 (.int .i64 1)) fun x10 =>
      j1 x9 x10
    ) (
      j0 x2
    )
  ) (.int .u64 0) (.int .i64 0)
instance fnb216 : FnB Tryz.prog 216 := ⟨Tryz.call216⟩
theorem e216 : p216 Tryz.prog = fun K x0 => denF Tryz.prog Tryz.f216 [x0] K := by kernel_rfl
theorem c216 {K : Value → World → Prop} {x0 : Value} {w : World} (h : p216 Tryz.prog K x0 w) : CallsR Tryz.prog 216 #[x0] K w := by
  rw [e216] at h
  exact denF_sound mixed Tryz.func216 h

end Go.Gx.S
-- 99 162 216 163 81 200 198 199 213 133 29 201 134
end

section
/- Entries among the program's types. -/
set_option maxRecDepth 100000
namespace Go.Gx.S
open Go Go.Gx Go.Proofs
theorem ctEnt : Tryz.prog.cellsOf 80 = 10 := by kernel_rfl
instance : EntT Tryz.prog 80 3 53 4 := ⟨⟨_, _, _, _, _, _, _, _, _, _, _, _, _, _, _, Tryz.underlying80, by decide, by decide, by decide, by decide, by decide⟩, uInt, uBool, ctInt, ctBool, ctEnt⟩
end Go.Gx.S
end

section
/- Places found by a hash: plain. -/
set_option linter.unusedVariables false
namespace Go.Gx
open Go

abbrev Key := Int × Mac
def zE : Ent := ⟨0, zMac, 0, 0, false⟩

/-- what is at a place -/
def pAt (ps : List Ent) (i : Nat) : Ent := ps.getD i zE
theorem pAt_eq {ps : List Ent} {i : Nat} (h : i < ps.length) : pAt ps i = ps[i] := by
  unfold pAt
  rw [List.getD_eq_getElem?_getD, List.getElem?_eq_getElem h]; rfl
theorem pAt_ge {ps : List Ent} {i : Nat} (h : ps.length ≤ i) : pAt ps i = zE := by
  unfold pAt
  rw [List.getD_eq_getElem?_getD, List.getElem?_eq_none h]; rfl
theorem pAt_set {ps : List Ent} {i : Nat} (h : i < ps.length) (x : Ent) (j : Nat) : pAt (ps.set i x) j = if j = i then x else pAt ps j := by
  unfold pAt
  rw [List.getD_eq_getElem?_getD, List.getD_eq_getElem?_getD, List.getElem?_set]
  by_cases e : i = j
  · subst e
    rw [if_pos rfl, if_pos h, if_pos rfl]; rfl
  · rw [if_neg e, if_neg (fun e2 => e e2.symm)]

/-- the walk from a place -/
def wk (n h s : Nat) : Nat := (h + s) % n

theorem wk_hits {n h e : Nat} (hh : h < n) (he : e < n) : ∃ s, s < n ∧ wk n h s = e := by
  refine ⟨(e + n - h) % n, Nat.mod_lt _ (by omega), ?_⟩
  unfold wk
  rw [Nat.add_mod_mod]
  have : h + (e + n - h) = e + n := by omega
  rw [this, Nat.add_mod_right, Nat.mod_eq_of_lt he]
theorem wk_wk (n h s t : Nat) : wk n (wk n h s) t = wk n h (s + t) := by
  unfold wk
  rw [Nat.mod_add_mod, Nat.add_assoc]
theorem wk_lt {n : Nat} (hn : 0 < n) (h s : Nat) : wk n h s < n := Nat.mod_lt _ hn
theorem wk_inj {n h s t : Nat} (hs : s < n) (ht : t < n) (e : wk n h s = wk n h t) : s = t := by
  unfold wk at e
  have key : ∀ a b, a ≤ b → b < n → (h + a) % n = (h + b) % n → a = b := by
    intro a b hab hb e
    have h1 : (h + b - (h + a)) % n = 0 := Nat.sub_mod_eq_zero_of_mod_eq e.symm
    have h2 : h + b - (h + a) = b - a := by omega
    rw [h2, Nat.mod_eq_of_lt (by omega)] at h1
    omega
  rcases Nat.le_total s t with h1 | h1
  · exact key s t h1 ht e
  · exact (key t s h1 hs e.symm).symm

section
variable {n : Nat} {hm : Key → Nat}

/-- from an entry's home on, up to it, no place is free -/
def PathOk (n : Nat) (hm : Key → Nat) (ps : List Ent) (p : Nat) : Prop :=
  ∀ t, (∀ s, s ≤ t → wk n (hm (eKey (pAt ps p))) s ≠ p) → pAt ps (wk n (hm (eKey (pAt ps p))) t) ≠ zE

structure PT (n : Nat) (hm : Key → Nat) (ps : List Ent) : Prop where
  len : ps.length = n
  pos : 0 < n
  home : ∀ k, hm k < n
  path : ∀ p, p < n → pAt ps p ≠ zE → PathOk n hm ps p
  inj : ∀ p q, p < n → q < n → pAt ps p ≠ zE → pAt ps q ≠ zE → eKey (pAt ps p) = eKey (pAt ps q) → p = q

/-- how far the walk of a key has come: no free place, and not the key -/
def Seen (n : Nat) (ps : List Ent) (h : Nat) (k : Key) (d : Nat) : Prop := ∀ s, s < d → pAt ps (wk n h s) ≠ zE ∧ eKey (pAt ps (wk n h s)) ≠ k

theorem Seen.lt {ps : List Ent} {h : Nat} {k : Key} {d : Nat} (hs : Seen n ps h k d) (hh : h < n) (he : ∃ e, e < n ∧ pAt ps e = zE) : d < n := by
  obtain ⟨e, he, hz⟩ := he
  obtain ⟨s, hs1, hs2⟩ := wk_hits hh he
  rcases Nat.lt_or_ge d n with h1 | h1
  · exact h1
  · have := (hs s (by omega)).1
    rw [hs2] at this
    exact absurd hz this
theorem Seen.step {ps : List Ent} {h : Nat} {k : Key} {d : Nat} (hs : Seen n ps h k d) (h1 : pAt ps (wk n h d) ≠ zE) (h2 : eKey (pAt ps (wk n h d)) ≠ k) : Seen n ps h k (d + 1) := by
  intro s hlt
  rcases Nat.lt_or_ge s d with h3 | h3
  · exact hs s h3
  · have : s = d := by omega
    subst this
    exact ⟨h1, h2⟩

/-- the walk ends at a free place: the key is nowhere -/
theorem PT.absent {ps : List Ent} (hp : PT n hm ps) {k : Key} {d : Nat} (hs : Seen n ps (hm k) k d) (hz : pAt ps (wk n (hm k) d) = zE) : ∀ p, p < n → pAt ps p ≠ zE → eKey (pAt ps p) ≠ k := by
  intro p hpn hpz hk
  have h1 := hp.path p hpn hpz
  unfold PathOk at h1
  rw [hk] at h1
  by_cases hq : ∀ s, s ≤ d → wk n (hm k) s ≠ p
  · exact h1 d hq hz
  · obtain ⟨s, hq1⟩ := Classical.not_forall.1 hq
    obtain ⟨hsd, hq2⟩ := Classical.not_imp.1 hq1
    have hq3 : wk n (hm k) s = p := Classical.not_not.1 hq2
    rcases Nat.lt_or_ge s d with h3 | h3
    · have := (hs s h3).2
      rw [hq3] at this
      exact this hk
    · have : s = d := by omega
      subst this
      rw [hq3] at hz
      exact hpz hz

/-- one entry more, at the free place where the walk of its key ends -/
theorem PT.insert {ps : List Ent} (hp : PT n hm ps) {x : Ent} {d : Nat} (hx : x ≠ zE) (hs : Seen n ps (hm (eKey x)) (eKey x) d) (hz : pAt ps (wk n (hm (eKey x)) d) = zE) : PT n hm (ps.set (wk n (hm (eKey x)) d) x) := by
  have hf : wk n (hm (eKey x)) d < ps.length := by rw [hp.len]; exact wk_lt hp.pos _ _
  have hab := hp.absent hs hz
  generalize hfd : wk n (hm (eKey x)) d = f at *
  refine ⟨by rw [List.length_set]; exact hp.len, hp.pos, hp.home, fun p hpn hpz => ?_, fun p q hpn hqn hpz hqz hk => ?_⟩
  · intro t ht
    rw [pAt_set hf] at hpz ht ⊢
    rw [pAt_set hf]
    split at hpz
    · rename_i e
      subst e
      rw [if_pos rfl] at ht
      have htd : t < d := Nat.lt_of_not_le fun h => ht d h hfd
      rw [if_pos rfl, if_neg (ht t (Nat.le_refl _))]
      exact (hs t htd).1
    · rename_i e
      rw [if_neg e] at ht ⊢
      have := hp.path p hpn hpz t ht
      split
      · exact hx
      · exact this
  · rw [pAt_set hf] at hpz hk
    rw [pAt_set hf] at hqz hk
    split at hpz <;> split at hqz
    · rename_i e1 e2; rw [e1, e2]
    · rename_i e1 e2
      rw [if_pos e1, if_neg e2] at hk
      exact absurd hk.symm (hab q hqn hqz)
    · rename_i e1 e2
      rw [if_neg e1, if_pos e2] at hk
      exact absurd hk (hab p hpn hpz)
    · rename_i e1 e2
      rw [if_neg e1, if_neg e2] at hk
      exact hp.inj p q hpn hqn hpz hqz hk

/-- another entry of the same key in its place -/
theorem PT.update {ps : List Ent} (hp : PT n hm ps) {x : Ent} {f : Nat} (hf : f < n) (hx : x ≠ zE) (hz : pAt ps f ≠ zE) (hk : eKey (pAt ps f) = eKey x) : PT n hm (ps.set f x) := by
  have hf' : f < ps.length := by rw [hp.len]; exact hf
  have hkey : ∀ p, eKey (pAt (ps.set f x) p) = eKey (pAt ps p) := fun p => by
    rw [pAt_set hf']
    split
    · rename_i e; rw [e, hk]
    · rfl
  have hocc : ∀ p, pAt (ps.set f x) p ≠ zE ↔ pAt ps p ≠ zE := fun p => by
    rw [pAt_set hf']
    split
    · rename_i e; rw [e]; exact ⟨fun _ => hz, fun _ => hx⟩
    · rfl
  refine ⟨by rw [List.length_set]; exact hp.len, hp.pos, hp.home, fun p hpn hpz => ?_, fun p q hpn hqn hpz hqz hk => ?_⟩
  · have := hp.path p hpn ((hocc p).1 hpz)
    unfold PathOk at this ⊢
    rw [hkey p]
    intro t ht
    exact (hocc _).2 (this t ht)
  · rw [hkey, hkey] at hk
    exact hp.inj p q hpn hqn ((hocc p).1 hpz) ((hocc q).1 hqz) hk

/-! ### An entry is taken out; those behind it are put in anew -/

structure Tk (n : Nat) (hm : Key → Nat) (i M m : Nat) (ps : List Ent) : Prop where
  len : ps.length = n
  pos : 0 < n
  home : ∀ k, hm k < n
  lt : M < n
  seg : ∀ s, m ≤ s → s < M → pAt ps (wk n i s) ≠ zE
  free : pAt ps (wk n i M) = zE
  path : ∀ p, p < n → pAt ps p ≠ zE → (∀ s, m ≤ s → s < M → wk n i s ≠ p) → PathOk n hm ps p
  noE : ∀ p, p < n → pAt ps p ≠ zE → ∀ t, (∀ s, s ≤ t → wk n (hm (eKey (pAt ps p))) s ≠ p) → wk n (hm (eKey (pAt ps p))) t ≠ wk n i M
  inj : ∀ p q, p < n → q < n → pAt ps p ≠ zE → pAt ps q ≠ zE → eKey (pAt ps p) = eKey (pAt ps q) → p = q

theorem Tk.pt {i M : Nat} {ps : List Ent} (h : Tk n hm i M M ps) : PT n hm ps :=
  ⟨h.len, h.pos, h.home, fun p hpn hpz => h.path p hpn hpz fun s h1 h2 => by omega, h.inj⟩

theorem Tk.remove {i M m : Nat} {ps : List Ent} (h : Tk n hm i M m ps) (hm' : m < M) : Tk n hm i M (m + 1) (ps.set (wk n i m) zE) := by
  have hj : wk n i m < ps.length := by rw [h.len]; exact wk_lt h.pos _ _
  have hne : ∀ s, s ≤ M → s ≠ m → wk n i s ≠ wk n i m := fun s hs hn e => hn (wk_inj (by have := h.lt; omega) (by have := h.lt; omega) e)
  have hocc : ∀ p, pAt (ps.set (wk n i m) zE) p ≠ zE → p ≠ wk n i m ∧ pAt (ps.set (wk n i m) zE) p = pAt ps p := fun p hp => by
    rw [pAt_set hj] at hp ⊢
    split at hp
    · exact absurd rfl hp
    · rename_i e; exact ⟨e, if_neg e⟩
  refine ⟨by rw [List.length_set]; exact h.len, h.pos, h.home, h.lt, fun s h1 h2 => ?_, ?_, fun p hpn hpz hout => ?_, fun p hpn hpz => ?_, fun p q hpn hqn hpz hqz hk => ?_⟩
  · rw [pAt_set hj, if_neg (hne s (by omega) (by omega))]
    exact h.seg s (by omega) h2
  · rw [pAt_set hj, if_neg (hne M (Nat.le_refl _) (by omega))]
    exact h.free
  · obtain ⟨e1, e2⟩ := hocc p hpz
    have hpz' : pAt ps p ≠ zE := e2 ▸ hpz
    have hpath := h.path p hpn hpz' fun s h1 h2 e => by
      rcases Nat.lt_or_ge m s with h3 | h3
      · exact hout s h3 h2 e
      · have : s = m := by omega
        subst this
        exact e1 e.symm
    intro t ht
    rw [e2] at ht ⊢
    have hocct := hpath t ht
    rw [pAt_set hj]
    split
    · rename_i ej
      exfalso
      refine hpath (t + (M - m)) (fun s hs e => ?_) ?_
      · rcases Nat.lt_or_ge t s with h3 | h3
        · have h4 : wk n (hm (eKey (pAt ps p))) s = wk n i (m + (s - t)) := by
            have : s = t + (s - t) := by omega
            rw [this, ← wk_wk, ej, wk_wk]
            congr 1; omega
          rw [h4] at e
          rcases Nat.lt_or_ge (m + (s - t)) M with h5 | h5
          · exact hout _ (by omega) h5 e
          · have : m + (s - t) = M := by omega
            rw [this] at e
            rw [← e] at hpz'
            exact hpz' h.free
        · exact ht s h3 e
      · rw [← wk_wk, ej, wk_wk]
        have : m + (M - m) = M := by omega
        rw [this]
        exact h.free
    · exact hocct
  · obtain ⟨e1, e2⟩ := hocc p hpz
    rw [e2]
    exact h.noE p hpn (e2 ▸ hpz)
  · obtain ⟨e1, e2⟩ := hocc p hpz
    obtain ⟨e3, e4⟩ := hocc q hqz
    rw [e2, e4] at hk
    exact h.inj p q hpn hqn (e2 ▸ hpz) (e4 ▸ hqz) hk

theorem Tk.insert {i M m : Nat} {ps : List Ent} (h : Tk n hm i M m ps) {x : Ent} {d : Nat} (hx : x ≠ zE) (hab : ∀ p, p < n → pAt ps p ≠ zE → eKey (pAt ps p) ≠ eKey x)
    (hs : ∀ s, s < d → pAt ps (wk n (hm (eKey x)) s) ≠ zE) (hz : pAt ps (wk n (hm (eKey x)) d) = zE) (hE : wk n (hm (eKey x)) d ≠ wk n i M) : Tk n hm i M m (ps.set (wk n (hm (eKey x)) d) x) := by
  have hf : wk n (hm (eKey x)) d < ps.length := by rw [h.len]; exact wk_lt h.pos _ _
  generalize hfd : wk n (hm (eKey x)) d = f at *
  have hmono : ∀ p, pAt ps p ≠ zE → pAt (ps.set f x) p ≠ zE := fun p hp => by
    rw [pAt_set hf]
    split
    · exact hx
    · exact hp
  refine ⟨by rw [List.length_set]; exact h.len, h.pos, h.home, h.lt, fun s h1 h2 => hmono _ (h.seg s h1 h2), ?_, fun p hpn hpz hout => ?_, fun p hpn hpz => ?_, fun p q hpn hqn hpz hqz hk => ?_⟩
  · rw [pAt_set hf, if_neg (fun e => hE e.symm)]
    exact h.free
  · by_cases e : p = f
    · subst e
      intro t ht
      have hpx : pAt (ps.set p x) p = x := by rw [pAt_set hf, if_pos rfl]
      rw [hpx] at ht ⊢
      have htd : t < d := Nat.lt_of_not_le fun h => ht d h hfd
      exact hmono _ (hs t htd)
    · have e2 : pAt (ps.set f x) p = pAt ps p := by rw [pAt_set hf, if_neg e]
      have hpz' : pAt ps p ≠ zE := e2 ▸ hpz
      intro t ht
      rw [e2] at ht ⊢
      exact hmono _ (h.path p hpn hpz' hout t ht)
  · by_cases e : p = f
    · subst e
      intro t ht
      rw [pAt_set hf, if_pos rfl] at ht ⊢
      have htd : t < d := Nat.lt_of_not_le fun h => ht d h hfd
      intro e
      have := hs t htd
      rw [e] at this
      exact this h.free
    · have e2 : pAt (ps.set f x) p = pAt ps p := by rw [pAt_set hf, if_neg e]
      rw [e2]
      exact h.noE p hpn (e2 ▸ hpz)
  · rw [pAt_set hf] at hpz hk
    rw [pAt_set hf] at hqz hk
    split at hpz <;> split at hqz
    · rename_i e1 e2; rw [e1, e2]
    · rename_i e1 e2
      rw [if_pos e1, if_neg e2] at hk
      exact absurd hk.symm (hab q hqn hqz)
    · rename_i e1 e2
      rw [if_neg e1, if_pos e2] at hk
      exact absurd hk (hab p hpn hpz)
    · rename_i e1 e2
      rw [if_neg e1, if_neg e2] at hk
      exact h.inj p q hpn hqn hpz hqz hk

/-! ### What is in the places -/

/-- the places hold the entries of a list in order -/
structure CT (ps : List Ent) (r : List Ent) : Prop where
  srt : Srt r
  nz : ∀ e ∈ r, e ≠ zE
  mem : ∀ e, e ∈ r ↔ e ≠ zE ∧ ∃ p, p < ps.length ∧ pAt ps p = e
  inj : ∀ p q, p < ps.length → q < ps.length → pAt ps p ≠ zE → pAt ps q ≠ zE → eKey (pAt ps p) = eKey (pAt ps q) → p = q

theorem CT.put {ps r : List Ent} (h : CT ps r) {x : Ent} {f : Nat} (hx : x ≠ zE) (hok : x.ok) (hf : f < ps.length) (hk : ∀ p, p < ps.length → p ≠ f → pAt ps p ≠ zE → eKey (pAt ps p) ≠ eKey x) (hfk : pAt ps f ≠ zE → eKey (pAt ps f) = eKey x) : CT (ps.set f x) (withL r x) := by
  refine ⟨h.srt.with hok, fun e he => ?_, fun e => ?_, fun p q hp hq hpz hqz hkk => ?_⟩
  · rcases mem_with.1 he with rfl | he
    · exact hx
    · exact h.nz e he.1
  · rw [mem_with, h.mem, List.length_set]
    constructor
    · rintro (rfl | ⟨⟨h1, p, hp, rfl⟩, h2⟩)
      · exact ⟨hx, f, hf, by rw [pAt_set hf, if_pos rfl]⟩
      · refine ⟨h1, p, hp, ?_⟩
        rw [pAt_set hf, if_neg]
        intro e
        subst e
        exact h2 (hfk h1)
    · rintro ⟨h1, p, hp, rfl⟩
      rw [pAt_set hf] at h1 ⊢
      split at h1
      · rename_i e; exact .inl (if_pos e)
      · rename_i e
        rw [if_neg e]
        exact .inr ⟨⟨h1, p, hp, rfl⟩, hk p hp e h1⟩
  · rw [List.length_set] at hp hq
    rw [pAt_set hf] at hpz hkk
    rw [pAt_set hf] at hqz hkk
    split at hpz <;> split at hqz
    · rename_i e1 e2; rw [e1, e2]
    · rename_i e1 e2
      rw [if_pos e1, if_neg e2] at hkk
      exact absurd hkk.symm (hk q hq e2 hqz)
    · rename_i e1 e2
      rw [if_neg e1, if_pos e2] at hkk
      exact absurd hkk (hk p hp e1 hpz)
    · rename_i e1 e2
      rw [if_neg e1, if_neg e2] at hkk
      exact h.inj p q hp hq hpz hqz hkk

theorem CT.take {ps r : List Ent} (h : CT ps r) {f : Nat} (hf : f < ps.length) (hz : pAt ps f ≠ zE) : CT (ps.set f zE) (withoutL r (pAt ps f)) := by
  refine ⟨h.srt.without _, fun e he => h.nz e (mem_without.1 he).1, fun e => ?_, fun p q hp hq hpz hqz hkk => ?_⟩
  · rw [mem_without, h.mem, List.length_set]
    constructor
    · rintro ⟨⟨h1, p, hp, rfl⟩, h2⟩
      refine ⟨h1, p, hp, ?_⟩
      rw [pAt_set hf, if_neg]
      intro e
      subst e
      exact h2 rfl
    · rintro ⟨h1, p, hp, rfl⟩
      rw [pAt_set hf] at h1 ⊢
      split at h1
      · exact absurd rfl h1
      · rename_i e
        rw [if_neg e]
        exact ⟨⟨h1, p, hp, rfl⟩, fun hk => e (h.inj p f hp hf h1 hz hk)⟩
  · rw [List.length_set] at hp hq
    rw [pAt_set hf] at hpz hkk
    rw [pAt_set hf] at hqz hkk
    split at hpz <;> split at hqz
    · exact absurd rfl hpz
    · exact absurd rfl hpz
    · exact absurd rfl hqz
    · rename_i e1 e2
      rw [if_neg e1, if_neg e2] at hkk
      exact h.inj p q hp hq hpz hqz hkk

theorem with_without {r : List Ent} (h : Srt r) {x : Ent} (hx : x ∈ r) : withL (withoutL r x) x = r := by
  refine ((h.without x).with (h.2 x hx)).eq h fun e => ?_
  rw [mem_with, mem_without]
  constructor
  · rintro (rfl | h1)
    · exact hx
    · exact h1.1.1
  · intro he
    by_cases hk : eKey e = eKey x
    · exact .inl (h.key he hx hk)
    · exact .inr ⟨⟨he, hk⟩, hk⟩
theorem without_none {r : List Ent} {x : Ent} (h : ∀ e ∈ r, eKey e ≠ eKey x) : withoutL r x = r := by
  unfold withoutL
  rw [List.filter_eq_self]
  exact fun e he => decide_eq_true (h e he)
theorem without_key {r : List Ent} {x y : Ent} (h : eKey x = eKey y) : withoutL r x = withoutL r y := by
  unfold withoutL
  rw [h]
theorem with_len_new {r : List Ent} {x : Ent} (h : ∀ e ∈ r, eKey e ≠ eKey x) : (withL r x).length = r.length + 1 := by
  unfold withL
  rw [ins_len, without_none h]
theorem without_len_old {r : List Ent} (h : Srt r) {x : Ent} (hx : x ∈ r) : (withoutL r x).length + 1 = r.length := by
  have h1 := congrArg List.length (with_without h hx)
  unfold withL at h1
  rw [ins_len, without_none (fun e he => (mem_without.1 he).2)] at h1
  exact h1
theorem with_len_old {r : List Ent} (h : Srt r) {x y : Ent} (hy : y ∈ r) (hk : eKey y = eKey x) : (withL r x).length = r.length := by
  have h1 := without_len_old h hy
  unfold withL
  rw [ins_len, ← without_key hk]
  exact h1

/-- the entries, one behind the other -/
theorem CT.perm {ps r : List Ent} (h : CT ps r) : (ps.filter fun e => decide (e ≠ zE)).Perm r := by
  refine (List.perm_ext_iff_of_nodup ?_ ?_).2 fun e => ?_
  · have : (ps.filter fun e => decide (e ≠ zE)).Pairwise (· ≠ ·) := by
      rw [List.pairwise_filter, List.pairwise_iff_getElem]
      intro i j hi hj hij h1 h2 e
      have h1 : ps[i] ≠ zE := by simpa using h1
      have h2 : ps[j] ≠ zE := by simpa using h2
      have := h.inj i j hi hj (by rw [pAt_eq hi]; exact h1) (by rw [pAt_eq hj]; exact h2) (by rw [pAt_eq hi, pAt_eq hj, e])
      omega
    exact this
  · exact List.Pairwise.imp (fun {a b} (hab : ltE a b) (e : a = b) => ltE_irr b (e ▸ hab)) h.srt.1
  · rw [h.mem, List.mem_filter, decide_eq_true_iff]
    constructor
    · rintro ⟨h1, h2⟩
      obtain ⟨i, hi, rfl⟩ := List.getElem_of_mem h1
      exact ⟨h2, i, hi, pAt_eq hi⟩
    · rintro ⟨h1, p, hp, rfl⟩
      rw [pAt_eq hp] at h1 ⊢
      exact ⟨List.getElem_mem hp, h1⟩
theorem CT.free {ps r : List Ent} (h : CT ps r) (hl : r.length < ps.length) : ∃ e, e < ps.length ∧ pAt ps e = zE := by
  refine Classical.byContradiction fun hn => ?_
  have hall : ∀ e ∈ ps, decide (e ≠ zE) = true := fun e he => by
    obtain ⟨i, hi, rfl⟩ := List.getElem_of_mem he
    refine decide_eq_true fun e => hn ⟨i, hi, ?_⟩
    rw [pAt_eq hi, e]
  have h1 := h.perm.length_eq
  rw [List.filter_eq_self.2 hall] at h1
  omega

end

end Go.Gx
end

section
/- A table of stations: its places. -/
set_option linter.unusedVariables false
set_option linter.unusedSimpArgs false
set_option maxRecDepth 100000
namespace Go.Gx.S
open Go Go.Gx Go.Proofs
variable {K : Value → World → Prop} {w : World}

/-! ### Bits -/

def orU (a b : Int) : Int := IntKind.u64.wrap ((BitVec.ofInt 64 a ||| BitVec.ofInt 64 b).toNat : Int)
def xorU (a b : Int) : Int := IntKind.u64.wrap ((BitVec.ofInt 64 a ^^^ BitVec.ofInt 64 b).toNat : Int)
theorem s_orU (a b : Int) : opS Tryz.prog (S.binI .or (.int .u64 a) (.int .u64 b)) K w = K (.int .u64 (orU a b)) w := by
  unfold S.binI
  simp only []
  have : (binOp .or 0 (.int .u64 a) (.int .u64 b)).run Tryz.prog w = .ok (.int .u64 (orU a b)) w := id rfl
  rw [opS_bind, this]
theorem s_xorU (a b : Int) : opS Tryz.prog (S.binI .xor (.int .u64 a) (.int .u64 b)) K w = K (.int .u64 (xorU a b)) w := by
  unfold S.binI
  simp only []
  have : (binOp .xor 0 (.int .u64 a) (.int .u64 b)).run Tryz.prog w = .ok (.int .u64 (xorU a b)) w := id rfl
  rw [opS_bind, this]
theorem s_and1 {x : Int} (h : isB x) : opS Tryz.prog (S.binI .and (.int .u8 x) (.int .u8 1)) K w = K (.int .u8 (x % 2)) w := by
  unfold isB at h
  obtain ⟨a, rfl⟩ := Int.eq_ofNat_of_zero_le (show 0 ≤ x by omega)
  unfold S.binI
  simp only []
  have e : (BitVec.ofInt 8 (a : Int) &&& BitVec.ofInt 8 1).toNat = a % 2 := by
    rw [ofInt_nat (by omega), ofInt_nat (by omega), BitVec.toNat_and]
    simp only [Int.toNat_natCast, BitVec.toNat_ofNat]
    rw [Nat.mod_eq_of_lt (by omega)]
    exact Nat.and_one_is_mod a
  have : (binOp .and 0 (.int .u8 (a : Int)) (.int .u8 1)).run Tryz.prog w = .ok (.int .u8 ((a : Int) % 2)) w := by
    show (Op.intBits .and .u8 (a : Int) 1).run Tryz.prog w = _
    unfold Op.intBits
    show Result.ok (Value.int .u8 (IntKind.u8.wrap ((BitVec.ofInt 8 (a : Int) &&& BitVec.ofInt 8 1).toNat : Int))) w = _
    rw [e, wrap_u8]
    congr 2
    omega
  rw [opS_bind, this]

/-! ### The hash -/

def numP (l : List Int) : Int := l.foldl (fun n x => orU (IntKind.u64.wrap (n * 2 ^ 8)) (IntKind.u64.wrap x)) 0
theorem numP_snoc (l : List Int) (x : Int) : numP (l ++ [x]) = orU (IntKind.u64.wrap (numP l * 2 ^ 8)) (IntKind.u64.wrap x) := by unfold numP; rw [List.foldl_append]; rfl
theorem macL_get' (m : Mac) {k : Nat} (hk : k < 6) : m.cells[k]? = some (u8 ((macL m).getD k 0)) := by
  match k, hk with
  | 0, _ | 1, _ | 2, _ | 3, _ | 4, _ | 5, _ => rfl
theorem macL_take' {m : Mac} {k : Nat} (hk : k < 6) : (macL m).take (k + 1) = (macL m).take k ++ [(macL m).getD k 0] := by
  match k, hk with
  | 0, _ | 1, _ | 2, _ | 3, _ | 4, _ | 5, _ => rfl
theorem shl8 (x : Int) : opS Tryz.prog (S.binI .shl (.int .u64 x) (.int .u64 8)) K w = K (.int .u64 (IntKind.u64.wrap (x * 2 ^ 8))) w := opS_shl .u64 .u64 x 8 (by decide)
theorem shl48 (x : Int) : opS Tryz.prog (S.binI .shl (.int .u64 x) (.int .u64 48)) K w = K (.int .u64 (IntKind.u64.wrap (x * 2 ^ 48))) w := opS_shl .u64 .u64 x 48 (by decide)
theorem shr33 (x : Int) : opS Tryz.prog (S.binI .shr (.int .u64 x) (.int .u64 33)) K w = K (.int .u64 (x / 2 ^ 33)) w := opS_shr .u64 .u64 x 33 (by decide)

theorem pnum_spec {m : Mac} (h : ∀ w', Fr none_ w w' → K (.int .u64 (numP (macL m))) w') : CallsR Tryz.prog 216 #[.agg m.cells.toArray] K w := by
  apply c216
  unfold p216
  simp only [push_cast, Nat.reduceAdd, Nat.reduceLeDiff, Nat.reduceLT, Int.reduceToNat, Nat.left_eq_add, Nat.add_eq_left, Nat.add_left_cancel_iff, Nat.reduceEqDiff, Nat.add_assoc, Nat.succ_ne_zero]
  have h0 : (w.alloc (cellsO m.cells 53)).heap[w.heap.size]? = some (cellsO m.cells 53) := by simp only [push_cast, Nat.reduceAdd, Nat.reduceLeDiff, Nat.reduceLT, Int.reduceToNat, Nat.left_eq_add, Nat.add_eq_left, Nat.add_left_cancel_iff, Nat.reduceEqDiff, Nat.add_assoc, Nat.succ_ne_zero]
  have hF : Fr none_ w (w.alloc (cellsO m.cells 53)) := (by repeat' first | with_reducible exact Fr.refl _ _ | with_reducible refine Fr.step_alloc ?_ ?_ | with_reducible refine Fr.step_drew ?_ | with_reducible refine Fr.step_wr ?_ ?_ _ _ | exact rfl | exact Or.inr (by omega) | exact Or.inl rfl | exact Or.inl (Or.inl rfl) | exact Or.inl (Or.inr rfl))
  generalize w.alloc (cellsO m.cells 53) = W at *
  refine jn1 (fun v w' => v = .int .u64 (numP (macL m)) ∧ w' = W) (fun v w' ⟨e1, e2⟩ => by rw [e1, e2]; exact h _ hF) fun j hj => ?_
  refine loop2 (fun n x y w' => ∃ k : Nat, k ≤ 6 ∧ n = 6 - k ∧ y = i64 k ∧ x = .int .u64 (numP ((macL m).take k)) ∧ w' = W) ?_ 6 ⟨0, by omega, rfl, rfl, rfl, rfl⟩
  rintro n x y w' X ⟨k, hk, rfl, rfl, rfl, rfl⟩ hX
  simp only [push_cast, Nat.reduceAdd, Nat.reduceLeDiff, Nat.reduceLT, Int.reduceToNat, Nat.left_eq_add, Nat.add_eq_left, Nat.add_left_cancel_iff, Nat.reduceEqDiff, Nat.add_assoc, Nat.succ_ne_zero]
  refine br_dec (fun hlt => ?_) fun hge => ?_
  · have hk6 : k < 6 := by omega
    rw [shl8, opS_iaA w.heap.size 0 .i64 (k : Int) (by omega)]
    simp only [push_cast, Nat.reduceAdd, Nat.reduceLeDiff, Nat.reduceLT, Int.reduceToNat, Nat.left_eq_add, Nat.add_eq_left, Nat.add_left_cancel_iff, Nat.reduceEqDiff, Nat.add_assoc, Nat.succ_ne_zero, h0, Int.toNat_natCast, Nat.mul_one]
    rw [macL_get' m hk6]
    simp only [push_cast, Nat.reduceAdd, Nat.reduceLeDiff, Nat.reduceLT, Int.reduceToNat, Nat.left_eq_add, Nat.add_eq_left, Nat.add_left_cancel_iff, Nat.reduceEqDiff, Nat.add_assoc, Nat.succ_ne_zero]
    rw [s_orU]
    simp only [push_cast, Nat.reduceAdd, Nat.reduceLeDiff, Nat.reduceLT, Int.reduceToNat, Nat.left_eq_add, Nat.add_eq_left, Nat.add_left_cancel_iff, Nat.reduceEqDiff, Nat.add_assoc, Nat.succ_ne_zero]
    rw [wrap_i64 (by omega)]
    refine hX (6 - (k + 1)) _ _ _ (by omega) ⟨k + 1, by omega, rfl, by simp, ?_, rfl⟩
    rw [macL_take' hk6, numP_snoc]
  · have : k = 6 := by omega
    subst this
    exact hj _ _ ⟨rfl, rfl⟩

def hashI (k : Key) : Int := IntKind.u64.wrap (xorU (numP (macL k.2)) (IntKind.u64.wrap (IntKind.u64.wrap k.1 * 2 ^ 48)) * 11400714819323198485) / 2 ^ 33
theorem wrapU_range (x : Int) : 0 ≤ IntKind.u64.wrap x ∧ IntKind.u64.wrap x < 18446744073709551616 := by
  unfold IntKind.wrap
  have e1 : (2 : Int) ^ IntKind.u64.bits = 18446744073709551616 := rfl
  have e3 : IntKind.u64.signed = false := rfl
  simp only [e1, e3, Bool.false_and, Bool.false_eq_true, if_false]
  omega
theorem hashI_range (k : Key) : 0 ≤ hashI k ∧ hashI k < 2147483648 := by
  have h := wrapU_range (xorU (numP (macL k.2)) (IntKind.u64.wrap (IntKind.u64.wrap k.1 * 2 ^ 48)) * 11400714819323198485)
  unfold hashI
  generalize IntKind.u64.wrap _ = y at *
  omega
def hmF (n : Nat) (k : Key) : Nat := (hashI k).toNat % n

/-! ### The table -/

/-- a table's blocks: so many entries are said to be in these places -/
structure FB (w : World) (p pb o c : Nat) (ps : List Ent) (m : Nat) : Prop where
  blk : w.heap[p]? = some (cellsO [.slice (some ⟨pb, o, none⟩) ps.length c, i64 m] 149)
  own : OwnE 80 10 w (.slice (some ⟨pb, o, none⟩) ps.length c) (ps.map Ent.cells)
  ne : p ≠ pb
  ok : ∀ e ∈ ps, e.ok

theorem FB.fr {fp : Nat → Prop} {w w' : World} {p pb o c : Nat} {ps : List Ent} {m : Nat} (h : FB w p pb o c ps m) (hf : Fr fp w w') (h1 : ¬ fp p) (h2 : ¬ fp pb) : FB w' p pb o c ps m :=
  ⟨hf.heap h.blk h1, h.own.fr hf (fun b hb => by cases hb; exact h2), h.ne, h.ok⟩
theorem FB.fr0 {w w' : World} {p pb o c : Nat} {ps : List Ent} {m : Nat} (h : FB w p pb o c ps m) (hf : Fr none_ w w') : FB w' p pb o c ps m := h.fr hf (fun h => h) fun h => h
theorem FB.lt {w : World} {p pb o c : Nat} {ps : List Ent} {m : Nat} (h : FB w p pb o c ps m) : p < w.heap.size ∧ pb < w.heap.size := ⟨lt_of_heap h.blk, h.own.lt (b := pb) rfl⟩
theorem FB.rd {w : World} {p pb o c : Nat} {ps : List Ent} {m : Nat} (h : FB w p pb o c ps m) : RdE 10 w (.slice (some ⟨pb, o, none⟩) ps.length c) (ps.map Ent.cells) := h.own.rd

theorem home_spec {p pb o c : Nat} {ps : List Ent} {m : Nat} {k : Key} (hb : FB w p pb o c ps m) (hn : 0 < ps.length) (h : ∀ w', Fr none_ w w' → K (i64 (hmF ps.length k)) w') :
    CallsR Tryz.prog 162 #[pt p 0, i64 k.1, .agg k.2.cells.toArray] K w := by
  apply c162
  unfold p162
  simp only [push_cast, Nat.reduceAdd, Nat.reduceLeDiff, Nat.reduceLT, Int.reduceToNat, Nat.left_eq_add, Nat.add_eq_left, Nat.add_left_cancel_iff, Nat.reduceEqDiff, Nat.add_assoc, Nat.succ_ne_zero]
  have hF : Fr none_ w (w.alloc (cellsO k.2.cells 53)) := (by repeat' first | with_reducible exact Fr.refl _ _ | with_reducible refine Fr.step_alloc ?_ ?_ | with_reducible refine Fr.step_drew ?_ | with_reducible refine Fr.step_wr ?_ ?_ _ _ | exact rfl | exact Or.inr (by omega) | exact Or.inl rfl | exact Or.inl (Or.inl rfl) | exact Or.inl (Or.inr rfl))
  replace hb := hb.fr0 hF
  generalize w.alloc (cellsO k.2.cells 53) = W at *
  refine pnum_spec fun w2 hF2 => ?_
  replace hb := hb.fr0 hF2
  simp only [push_cast, Nat.reduceAdd, Nat.reduceLeDiff, Nat.reduceLT, Int.reduceToNat, Nat.left_eq_add, Nat.add_eq_left, Nat.add_left_cancel_iff, Nat.reduceEqDiff, Nat.add_assoc, Nat.succ_ne_zero]
  rw [shl48, s_xorU]
  simp only [push_cast, Nat.reduceAdd, Nat.reduceLeDiff, Nat.reduceLT, Int.reduceToNat, Nat.left_eq_add, Nat.add_eq_left, Nat.add_left_cancel_iff, Nat.reduceEqDiff, Nat.add_assoc, Nat.succ_ne_zero]
  rw [shr33]
  simp only [push_cast, Nat.reduceAdd, Nat.reduceLeDiff, Nat.reduceLT, Int.reduceToNat, Nat.left_eq_add, Nat.add_eq_left, Nat.add_left_cancel_iff, Nat.reduceEqDiff, Nat.add_assoc, Nat.succ_ne_zero, hb.blk]
  have hr := hashI_range k
  have he : hashI k = IntKind.u64.wrap (xorU (numP (macL k.2)) (IntKind.u64.wrap (IntKind.u64.wrap k.1 * 2 ^ 48)) * 11400714819323198485) / 2 ^ 33 := rfl
  rw [← he, wrap_i64 (by omega), opS_rem _ _ _ (by omega)]
  have hh : (hashI k).tmod (ps.length : Int) = (hmF ps.length k : Nat) := by
    obtain ⟨a, ha⟩ := Int.eq_ofNat_of_zero_le hr.1
    unfold hmF
    rw [ha]
    simp only [Int.toNat_natCast]
    rfl
  rw [hh]
  exact h _ (hF.trans hF2)

theorem next_spec {p pb o c : Nat} {ps : List Ent} {m i : Nat} (hb : FB w p pb o c ps m) (hn : 0 < ps.length) (hi : i < 2 ^ 30) (h : K (i64 ((i + 1) % ps.length : Nat)) w) :
    CallsR Tryz.prog 163 #[pt p 0, i64 i] K w := by
  apply c163
  unfold p163
  simp only [push_cast, Nat.reduceAdd, Nat.reduceLeDiff, Nat.reduceLT, Int.reduceToNat, Nat.left_eq_add, Nat.add_eq_left, Nat.add_left_cancel_iff, Nat.reduceEqDiff, Nat.add_assoc, Nat.succ_ne_zero, hb.blk]
  rw [wrap_i64 (by omega), opS_rem _ _ _ (by omega)]
  exact h

theorem full_spec {p pb o c : Nat} {ps : List Ent} {m : Nat} (hb : FB w p pb o c ps m) (hm : m < 2 ^ 30) (h : ∀ w', Fr none_ w w' → K (.bool (decide ((2 * m : Nat) ≥ ps.length))) w') :
    CallsR Tryz.prog 200 #[pt p 0] K w := by
  apply c200
  unfold p200
  simp only [push_cast, Nat.reduceAdd, Nat.reduceLeDiff, Nat.reduceLT, Int.reduceToNat, Nat.left_eq_add, Nat.add_eq_left, Nat.add_left_cancel_iff, Nat.reduceEqDiff, Nat.add_assoc, Nat.succ_ne_zero, hb.blk]
  rw [wrap_i64 (by omega)]
  have : decide ((2 : Int) * m ≥ ps.length) = decide ((2 * m : Nat) ≥ ps.length) := decide_eq_decide.2 (by omega)
  rw [this]
  exact h _ (Fr.drew _)

/-! ### What may be -/

def grp (m : Mac) : Bool := (macL m).getD 0 0 % 2 == 1
theorem pgroup_spec {m : Mac} (hm : m.ok) (h : ∀ w', Fr none_ w w' → K (.bool (grp m)) w') : CallsR Tryz.prog 213 #[.agg m.cells.toArray] K w := by
  apply c213
  unfold p213
  simp only [push_cast, Nat.reduceAdd, Nat.reduceLeDiff, Nat.reduceLT, Int.reduceToNat, Nat.left_eq_add, Nat.add_eq_left, Nat.add_left_cancel_iff, Nat.reduceEqDiff, Nat.add_assoc, Nat.succ_ne_zero]
  have h0 : (w.alloc (cellsO m.cells 53)).heap[w.heap.size]? = some (cellsO m.cells 53) := by simp only [push_cast, Nat.reduceAdd, Nat.reduceLeDiff, Nat.reduceLT, Int.reduceToNat, Nat.left_eq_add, Nat.add_eq_left, Nat.add_left_cancel_iff, Nat.reduceEqDiff, Nat.add_assoc, Nat.succ_ne_zero]
  rw [opS_iaA w.heap.size 0 .i64 0 (by decide)]
  simp only [push_cast, Nat.reduceAdd, Nat.reduceLeDiff, Nat.reduceLT, Int.reduceToNat, Nat.left_eq_add, Nat.add_eq_left, Nat.add_left_cancel_iff, Nat.reduceEqDiff, Nat.add_assoc, Nat.succ_ne_zero, h0, Int.toNat_zero, Nat.zero_mul]
  rw [macL_get' m (by decide)]
  simp only [push_cast, Nat.reduceAdd, Nat.reduceLeDiff, Nat.reduceLT, Int.reduceToNat, Nat.left_eq_add, Nat.add_eq_left, Nat.add_left_cancel_iff, Nat.reduceEqDiff, Nat.add_assoc, Nat.succ_ne_zero]
  rw [s_and1 (macL_ok hm _ (by simp [macL]))]
  simp only [push_cast, Nat.reduceAdd, Nat.reduceLeDiff, Nat.reduceLT, Int.reduceToNat, Nat.left_eq_add, Nat.add_eq_left, Nat.add_left_cancel_iff, Nat.reduceEqDiff, Nat.add_assoc, Nat.succ_ne_zero]
  exact h _ (by repeat' first | with_reducible exact Fr.refl _ _ | with_reducible refine Fr.step_alloc ?_ ?_ | with_reducible refine Fr.step_drew ?_ | with_reducible refine Fr.step_wr ?_ ?_ _ _ | exact rfl | exact Or.inr (by omega) | exact Or.inl rfl | exact Or.inl (Or.inl rfl) | exact Or.inl (Or.inr rfl))
def rightB (v : Int) (m : Mac) (p : Int) : Bool := decide (1 ≤ v) && (decide (v ≤ 4094) && (decide (0 ≤ p) && (decide (p ≤ 1000) && !(grp m))))
theorem right_spec {v p : Int} {m : Mac} (hm : m.ok) (h : ∀ w', Fr none_ w w' → K (.bool (rightB v m p)) w') : CallsR Tryz.prog 198 #[i64 v, .agg m.cells.toArray, i64 p] K w := by
  apply c198
  unfold p198
  have hF : Fr none_ w (w.alloc (cellsO m.cells 53)) := (by repeat' first | with_reducible exact Fr.refl _ _ | with_reducible refine Fr.step_alloc ?_ ?_ | with_reducible refine Fr.step_drew ?_ | with_reducible refine Fr.step_wr ?_ ?_ _ _ | exact rfl | exact Or.inr (by omega) | exact Or.inl rfl | exact Or.inl (Or.inl rfl) | exact Or.inl (Or.inr rfl))
  have h' := h _ hF
  simp only [push_cast, Nat.reduceAdd, Nat.reduceLeDiff, Nat.reduceLT, Int.reduceToNat, Nat.left_eq_add, Nat.add_eq_left, Nat.add_left_cancel_iff, Nat.reduceEqDiff, Nat.add_assoc, Nat.succ_ne_zero]
  unfold rightB at h'
  refine br_dec (fun h1 => ?_) fun h1 => ?_
  case refine_2 => rw [decide_eq_false (show ¬ 1 ≤ v from h1)] at h'; exact h'
  refine br_dec (fun h2 => ?_) fun h2 => ?_
  case refine_2 => rw [decide_eq_false (show ¬ v ≤ 4094 from h2), Bool.false_and, Bool.and_false] at h'; exact h'
  refine br_dec (fun h3 => ?_) fun h3 => ?_
  case refine_2 => rw [decide_eq_false (show ¬ 0 ≤ p from h3), Bool.false_and, Bool.and_false, Bool.and_false] at h'; exact h'
  refine br_dec (fun h4 => ?_) fun h4 => ?_
  case refine_2 => rw [decide_eq_false (show ¬ p ≤ 1000 from h4), Bool.false_and, Bool.and_false, Bool.and_false, Bool.and_false] at h'; exact h'
  refine pgroup_spec hm fun w2 hF2 => ?_
  simp only [push_cast, Nat.reduceAdd, Nat.reduceLeDiff, Nat.reduceLT, Int.reduceToNat, Nat.left_eq_add, Nat.add_eq_left, Nat.add_left_cancel_iff, Nat.reduceEqDiff, Nat.add_assoc, Nat.succ_ne_zero]
  have h2' := h _ (hF.trans hF2)
  unfold rightB at h2'
  rw [decide_eq_true (show 1 ≤ v from h1), decide_eq_true (show v ≤ 4094 from h2), decide_eq_true (show 0 ≤ p from h3), decide_eq_true (show p ≤ 1000 from h4), Bool.true_and, Bool.true_and, Bool.true_and, Bool.true_and] at h2'
  exact h2'
def timedB (t : Int) : Bool := decide (0 ≤ t) && decide (t ≤ 1099511627776)
theorem timed_spec {t : Int} (h : K (.bool (timedB t)) w) : CallsR Tryz.prog 199 #[i64 t] K w := by
  apply c199
  unfold p199
  unfold timedB at h
  simp only [push_cast, Nat.reduceAdd, Nat.reduceLeDiff, Nat.reduceLT, Int.reduceToNat, Nat.left_eq_add, Nat.add_eq_left, Nat.add_left_cancel_iff, Nat.reduceEqDiff, Nat.add_assoc, Nat.succ_ne_zero]
  refine br_dec (fun h1 => ?_) fun h1 => ?_
  · rw [decide_eq_true (show 0 ≤ t from h1), Bool.true_and] at h; exact h
  · rw [decide_eq_false (show ¬ 0 ≤ t from h1), Bool.false_and] at h; exact h

/-- what an entry of a table is like -/
def RngE (e : Ent) : Prop := rightB e.vlan e.mac e.port = true ∧ timedB e.at_ = true ∧ (e.static = true → e.at_ = 0)

end Go.Gx.S

namespace Go.Gx.S
open Go Go.Gx Go.Proofs
variable {K : Value → World → Prop} {w : World}

theorem zE_ok : zE.ok := ⟨isI_iff.2 (by decide), by simp [zE, zMac, Mac.ok, isB], isI_iff.2 (by decide), isI_iff.2 (by decide)⟩
theorem build_zE : opS Tryz.prog (S.build 80 []) K w = K (.agg zE.cells.toArray) w := by
  rw [opS_build _ rfl]; rfl
theorem build_lrn (v p t : Int) (m : Mac) : opS Tryz.prog (S.build 80 [(0, i64 v), (1, .agg m.cells.toArray), (2, i64 p), (3, i64 t)]) K w = K (.agg (Ent.cells ⟨v, m, p, t, false⟩).toArray) w := by
  rw [opS_build _ rfl]; rfl
theorem zalloc_ent : opS Tryz.prog (S.alloc 80) K w = K (pt w.heap.size 0) (w.alloc (cellsO zE.cells 80)) := by
  rw [opS_alloc]; rfl
theorem ent_slot {g : Ent} {R : Value → Value → World → Prop} (h : ∀ u w', w'.heap[w.heap.size]? = some (cellsO g.cells 80) → Fr none_ w w' → R (pt w.heap.size 0) u w') :
    opS Tryz.prog (S.alloc 80) (fun x => opS Tryz.prog (S.st 80 x (.agg g.cells.toArray)) (R x)) w := by
  rw [zalloc_ent, s_stA _ _ _ (Ent.cells_length g) (Ent.cells_one g)]
  simp only [push_cast, Nat.reduceAdd, Nat.reduceLeDiff, Nat.reduceLT, Int.reduceToNat, Nat.left_eq_add, Nat.add_eq_left, Nat.add_left_cancel_iff, Nat.reduceEqDiff, Nat.add_assoc, Nat.succ_ne_zero]
  refine h _ _ ?_ (Fr.step_wr (Fr.step_alloc (Fr.refl _ _) rfl) (.inr (Nat.le_refl _)) _ _)
  simp only [push_cast, Nat.reduceAdd, Nat.reduceLeDiff, Nat.reduceLT, Int.reduceToNat, Nat.left_eq_add, Nat.add_eq_left, Nat.add_left_cancel_iff, Nat.reduceEqDiff, Nat.add_assoc, Nat.succ_ne_zero]

theorem FB.at {p pb o c : Nat} {ps : List Ent} {m i : Nat} (hb : FB w p pb o c ps m) (hi : i < ps.length) {R : Value → World → Prop} (h : ∀ b' o', El w b' o' (pAt ps i).cells → R (pt b' o') w) :
    opS Tryz.prog (S.ia 147 (.slice (some ⟨pb, o, none⟩) ps.length c) (i64 i)) R w := by
  have hl : (ps.map Ent.cells).length = ps.length := List.length_map _
  have hr := hb.rd
  refine s_iaE hr (by omega) (by rw [hl]; simpa using hi) fun b' o' c' _ he => ?_
  simp only [Int.toNat_natCast, List.getElem_map] at he ⊢
  rw [← pAt_eq hi] at he
  exact h _ _ he
theorem FB.okA {p pb o c : Nat} {ps : List Ent} {m : Nat} (hb : FB w p pb o c ps m) (i : Nat) : (pAt ps i).ok := by
  by_cases h : i < ps.length
  · rw [pAt_eq h]; exact hb.ok _ (List.getElem_mem h)
  · rw [pAt_ge (by omega)]; exact zE_ok

theorem s_put {p pb o c : Nat} {ps : List Ent} {m i : Nat} {x : Ent} {R : Value → World → Prop} (hb : FB w p pb o c ps m) (hi : i < ps.length) (hx : x.ok) (h : ∀ w', FB w' p pb o c (ps.set i x) m → Fr (fun b => b = pb) w w' → R undef w') :
    opS Tryz.prog (S.ia 147 (.slice (some ⟨pb, o, none⟩) ps.length c) (i64 i)) (fun y => opS Tryz.prog (S.st 80 y (.agg x.cells.toArray)) R) w := by
  have hl : (ps.map Ent.cells).length = ps.length := List.length_map _
  have ho := hb.own
  rw [← hl] at ho ⊢
  refine s_iaE ho.rd (by omega) (by rw [hl]; simpa using hi) fun b' o' c' hv _ => ?_
  simp only [Value.slice.injEq, Option.some.injEq, Addr.mk.injEq] at hv
  obtain ⟨⟨rfl, rfl, _⟩, _, rfl⟩ := hv
  rw [Int.toNat_natCast]
  obtain ⟨hok, hput⟩ := ho.put (Ent.cells_length x) (by rw [hl]; exact hi)
  rw [s_stA _ _ _ (Ent.cells_length x) (Ent.cells_one x), hok, onB_true]
  refine h _ ⟨?_, ?_, hb.ne, fun e he => ?_⟩ (Fr.step_wr (fp := fun b => b = pb) (Fr.refl _ _) (.inl rfl) _ _)
  · have hne := hb.ne
    rw [List.length_set]
    simp only [push_cast, Nat.reduceAdd, Nat.reduceLeDiff, Nat.reduceLT, Int.reduceToNat, Nat.left_eq_add, Nat.add_eq_left, Nat.add_left_cancel_iff, Nat.reduceEqDiff, Nat.add_assoc, Nat.succ_ne_zero, hne, hb.blk]
  · rw [List.length_set, List.map_set, ← hl]
    exact hput
  · rcases List.mem_or_eq_of_mem_set he with h1 | h1
    · exact hb.ok e h1
    · rw [h1]; exact hx

theorem FB.many {p pb o c : Nat} {ps : List Ent} {m m' : Nat} (hb : FB w p pb o c ps m) : FB (wr w p 1 [i64 m']) p pb o c ps m' := by
  have hne : ¬ pb = p := fun e => hb.ne e.symm
  refine ⟨?_, hb.own.frame fun b hb' => ?_, hb.ne, hb.ok⟩
  · simp only [push_cast, Nat.reduceAdd, Nat.reduceLeDiff, Nat.reduceLT, Int.reduceToNat, Nat.left_eq_add, Nat.add_eq_left, Nat.add_left_cancel_iff, Nat.reduceEqDiff, Nat.add_assoc, Nat.succ_ne_zero, hb.blk]
  · cases hb'
    simp only [push_cast, Nat.reduceAdd, Nat.reduceLeDiff, Nat.reduceLT, Int.reduceToNat, Nat.left_eq_add, Nat.add_eq_left, Nat.add_left_cancel_iff, Nat.reduceEqDiff, Nat.add_assoc, Nat.succ_ne_zero, hne]

theorem wk_zero {n h : Nat} (hh : h < n) : wk n h 0 = h := by
  unfold wk
  rw [Nat.add_zero]
  exact Nat.mod_eq_of_lt hh
theorem wk_succ (n h d : Nat) : wk n h (d + 1) = (wk n h d + 1) % n := by
  rw [← wk_wk]
  unfold wk
  rfl
theorem hmF_lt {n : Nat} (hn : 0 < n) (k : Key) : hmF n k < n := by
  unfold hmF
  exact Nat.mod_lt _ hn

theorem pfind_spec {p pb o c : Nat} {ps : List Ent} {m : Nat} {k : Key} (hb : FB w p pb o c ps m) (hn : 0 < ps.length) (hl : ps.length ≤ 4096) (hk : isI k.1 ∧ k.2.ok) (hfree : ∃ e, e < ps.length ∧ pAt ps e = zE)
    (h1 : ∀ d w', pAt ps (wk ps.length (hmF ps.length k) d) ≠ zE → eKey (pAt ps (wk ps.length (hmF ps.length k) d)) = k → Fr none_ w w' → K (.tuple #[i64 (wk ps.length (hmF ps.length k) d : Nat), .bool true]) w')
    (h0 : ∀ d w', Seen ps.length ps (hmF ps.length k) k d → pAt ps (wk ps.length (hmF ps.length k) d) = zE → Fr none_ w w' → K (.tuple #[i64 (wk ps.length (hmF ps.length k) d : Nat), .bool false]) w') :
    CallsR Tryz.prog 81 #[pt p 0, i64 k.1, .agg k.2.cells.toArray] K w := by
  apply c81
  unfold p81
  simp only [push_cast, Nat.reduceAdd, Nat.reduceLeDiff, Nat.reduceLT, Int.reduceToNat, Nat.left_eq_add, Nat.add_eq_left, Nat.add_left_cancel_iff, Nat.reduceEqDiff, Nat.add_assoc, Nat.succ_ne_zero]
  have hF : Fr none_ w (w.alloc (cellsO k.2.cells 53)) := (by repeat' first | with_reducible exact Fr.refl _ _ | with_reducible refine Fr.step_alloc ?_ ?_ | with_reducible refine Fr.step_drew ?_ | with_reducible refine Fr.step_wr ?_ ?_ _ _ | exact rfl | exact Or.inr (by omega) | exact Or.inl rfl | exact Or.inl (Or.inl rfl) | exact Or.inl (Or.inr rfl))
  have hx0 : (w.alloc (cellsO k.2.cells 53)).heap[w.heap.size]? = some (cellsO k.2.cells 53) := by simp only [push_cast, Nat.reduceAdd, Nat.reduceLeDiff, Nat.reduceLT, Int.reduceToNat, Nat.left_eq_add, Nat.add_eq_left, Nat.add_left_cancel_iff, Nat.reduceEqDiff, Nat.add_assoc, Nat.succ_ne_zero]
  replace hb := hb.fr0 hF
  generalize w.alloc (cellsO k.2.cells 53) = W at *
  refine home_spec (k := k) hb hn fun w2 hF2 => ?_
  replace hb := hb.fr0 hF2
  replace hx0 := hF2.heap hx0 fun h => h
  replace hF := hF.trans hF2
  have hhl : hmF ps.length k < ps.length := hmF_lt hn k
  generalize hmF ps.length k = hh at *
  refine jn2 (fun x y w' => ∃ d, x = i64 (wk ps.length hh d : Nat) ∧ Fr none_ w w' ∧ ((y = .bool true ∧ pAt ps (wk ps.length hh d) ≠ zE ∧ eKey (pAt ps (wk ps.length hh d)) = k) ∨ (y = .bool false ∧ Seen ps.length ps hh k d ∧ pAt ps (wk ps.length hh d) = zE))) ?_ fun j hj => ?_
  · rintro x y w' ⟨d, rfl, hF', ⟨rfl, g1, g2⟩ | ⟨rfl, g1, g2⟩⟩
    · exact h1 d w' g1 g2 hF'
    · exact h0 d w' g1 g2 hF'
  refine loop2 (fun n x y w' => ∃ d, x = i64 (wk ps.length hh d : Nat) ∧ y = .bool false ∧ n = ps.length - d ∧ Seen ps.length ps hh k d ∧ Fr none_ w2 w') ?_ ps.length ⟨0, ?_, rfl, rfl, fun s hs => by omega, Fr.refl _ _⟩
  case refine_2 =>
    rw [wk_zero hhl]
  rintro n x y w3 X ⟨d, rfl, rfl, rfl, hs, hF3⟩ hX
  have hb3 := hb.fr0 hF3
  have hx3 := hF3.heap hx0 fun h => h
  have hi : wk ps.length hh d < ps.length := wk_lt hn _ _
  have hdn := hs.lt hhl hfree
  have hnx := wk_succ ps.length hh d
  simp only [push_cast, Nat.reduceAdd, Nat.reduceLeDiff, Nat.reduceLT, Int.reduceToNat, Nat.left_eq_add, Nat.add_eq_left, Nat.add_left_cancel_iff, Nat.reduceEqDiff, Nat.add_assoc, Nat.succ_ne_zero, hb3.blk]
  refine hb3.at hi fun b1 o1 he => ?_
  rw [s_ldN (by decide), he.agg0 (Ent.cells_length _), onS_some, build_zE]
  have hok := hb3.okA (wk ps.length hh d)
  refine s_neqG (EntT.enc (d := 5) hok) (EntT.enc (d := 5) zE_ok) fun q hq => ?_
  rw [Ent.lits_inj] at hq
  simp only [push_cast, Nat.reduceAdd, Nat.reduceLeDiff, Nat.reduceLT, Int.reduceToNat, Nat.left_eq_add, Nat.add_eq_left, Nat.add_left_cancel_iff, Nat.reduceEqDiff, Nat.add_assoc, Nat.succ_ne_zero]
  refine br_intro (fun hd => ?_) fun hd => hj _ _ _ ⟨d, rfl, hF.trans hF3, .inr ⟨rfl, hs, hq.1 (by simpa using hd)⟩⟩
  have hocc : pAt ps (wk ps.length hh d) ≠ zE := fun e => by rw [hq.2 e] at hd; cases hd
  have hb4 := hb3.fr0 (Fr.drew w3)
  have hx4 := (Fr.drew (fp := none_) w3).heap hx3 fun h => h
  have hF4 : Fr none_ w2 w3.drew := hF3.step_drew
  simp only [push_cast, Nat.reduceAdd, Nat.reduceLeDiff, Nat.reduceLT, Int.reduceToNat, Nat.left_eq_add, Nat.add_eq_left, Nat.add_left_cancel_iff, Nat.reduceEqDiff, Nat.add_assoc, Nat.succ_ne_zero, hb3.blk]
  generalize w3.drew = w4 at *
  refine hb4.at hi fun b1 o1 he => ?_
  have hv := he.cell 0 (by simp [Ent.cells])
  rw [Nat.add_zero] at hv
  simp only [push_cast, Nat.reduceAdd, Nat.reduceLeDiff, Nat.reduceLT, Int.reduceToNat, Nat.left_eq_add, Nat.add_eq_left, Nat.add_left_cancel_iff, Nat.reduceEqDiff, Nat.add_assoc, Nat.succ_ne_zero, hv]
  refine br_intro (fun h2 => ?_) fun h2 => ?_
  case refine_2 =>
    have hne : eKey (pAt ps (wk ps.length hh d)) ≠ k := fun e => by
      rw [← e] at h2
      simp [eKey] at h2
    refine next_spec hb4 hn (by omega) ?_
    rw [← hnx]
    exact hX (ps.length - (d + 1)) _ _ _ (by omega) ⟨d + 1, rfl, rfl, rfl, hs.step hocc hne, hF4⟩
  have h2 : (pAt ps (wk ps.length hh d)).vlan = k.1 := by simpa using h2
  simp only [push_cast, Nat.reduceAdd, Nat.reduceLeDiff, Nat.reduceLT, Int.reduceToNat, Nat.left_eq_add, Nat.add_eq_left, Nat.add_left_cancel_iff, Nat.reduceEqDiff, Nat.add_assoc, Nat.succ_ne_zero, hb4.blk]
  refine hb4.at hi fun b1 o1 he => ?_
  have hm := he.agg 1 6 (by simp [Ent.cells])
  simp only [push_cast, Nat.reduceAdd, Nat.reduceLeDiff, Nat.reduceLT, Int.reduceToNat, Nat.left_eq_add, Nat.add_eq_left, Nat.add_left_cancel_iff, Nat.reduceEqDiff, Nat.add_assoc, Nat.succ_ne_zero, hm, hx4]
  refine s_eqG (MacT.enc (P := Tryz.prog) (T := 53) (d := 6) hok.2.1) (MacT.enc (P := Tryz.prog) (T := 53) (d := 6) hk.2) fun r hr => ?_
  rw [Mac.lits_inj] at hr
  simp only [push_cast, Nat.reduceAdd, Nat.reduceLeDiff, Nat.reduceLT, Int.reduceToNat, Nat.left_eq_add, Nat.add_eq_left, Nat.add_left_cancel_iff, Nat.reduceEqDiff, Nat.add_assoc, Nat.succ_ne_zero]
  refine br_intro (fun h3 => ?_) fun h3 => ?_
  · have h3' : (pAt ps (wk ps.length hh d)).mac = k.2 := hr.1 h3
    subst h3
    exact hj _ _ _ ⟨d, rfl, hF.trans hF4, .inl ⟨rfl, hocc, Prod.ext h2 h3'⟩⟩
  · have hne : eKey (pAt ps (wk ps.length hh d)) ≠ k := fun e => by
      have := hr.2 (congrArg Prod.snd e)
      rw [this] at h3
      cases h3
    subst h3
    refine next_spec hb4 hn (by omega) ?_
    rw [← hnx]
    exact hX (ps.length - (d + 1)) _ _ _ (by omega) ⟨d + 1, rfl, rfl, rfl, hs.step hocc hne, hF4⟩

end Go.Gx.S

namespace Go.Gx.S
open Go Go.Gx Go.Proofs
variable {K : Value → World → Prop} {w : World}

/-- a table: room, what it holds -/
structure FT (w : World) (p pb o c room : Nat) (ps r : List Ent) : Prop where
  fb : FB w p pb o c ps r.length
  len : ps.length = 2 * room
  pt : PT (2 * room) (hmF (2 * room)) ps
  ct : CT ps r
  cap : r.length ≤ room
  lo : 1 ≤ room
  hi : room ≤ 1024
  rng : ∀ e ∈ r, RngE e

theorem FT.fr {fp : Nat → Prop} {w w' : World} {p pb o c room : Nat} {ps r : List Ent} (h : FT w p pb o c room ps r) (hf : Fr fp w w') (h1 : ¬ fp p) (h2 : ¬ fp pb) : FT w' p pb o c room ps r :=
  ⟨h.fb.fr hf h1 h2, h.len, h.pt, h.ct, h.cap, h.lo, h.hi, h.rng⟩
theorem FT.fr0 {w w' : World} {p pb o c room : Nat} {ps r : List Ent} (h : FT w p pb o c room ps r) (hf : Fr none_ w w') : FT w' p pb o c room ps r := h.fr hf (fun h => h) fun h => h
theorem FT.free {p pb o c room : Nat} {ps r : List Ent} (h : FT w p pb o c room ps r) : ∃ e, e < 2 * room ∧ pAt ps e = zE := by
  have := h.ct.free (by have := h.cap; have := h.lo; have := h.len; omega)
  rw [h.len] at this
  exact this

theorem pfind' {n p pb o c : Nat} {ps : List Ent} {m : Nat} {k : Key} (hb : FB w p pb o c ps m) (hln : ps.length = n) (hn : 0 < n) (hl : n ≤ 4096) (hk : isI k.1 ∧ k.2.ok) (hfree : ∃ e, e < n ∧ pAt ps e = zE)
    (h1 : ∀ d w', pAt ps (wk n (hmF n k) d) ≠ zE → eKey (pAt ps (wk n (hmF n k) d)) = k → Fr none_ w w' → K (.tuple #[i64 (wk n (hmF n k) d : Nat), .bool true]) w')
    (h0 : ∀ d w', Seen n ps (hmF n k) k d → pAt ps (wk n (hmF n k) d) = zE → Fr none_ w w' → K (.tuple #[i64 (wk n (hmF n k) d : Nat), .bool false]) w') :
    CallsR Tryz.prog 81 #[pt p 0, i64 k.1, .agg k.2.cells.toArray] K w := by
  subst hln
  exact pfind_spec hb hn hl hk hfree h1 h0
/-- an entry is found, or the place where it would be -/
theorem ft_find {p pb o c room : Nat} {ps r : List Ent} {k : Key} (ht : FT w p pb o c room ps r) (hk : isI k.1 ∧ k.2.ok)
    (h1 : ∀ i w', i < ps.length → pAt ps i ≠ zE → pAt ps i ∈ r → eKey (pAt ps i) = k → Fr none_ w w' → K (.tuple #[i64 (i : Nat), .bool true]) w')
    (h0 : ∀ i d w', i < ps.length → i = wk (2 * room) (hmF (2 * room) k) d → Seen (2 * room) ps (hmF (2 * room) k) k d → pAt ps i = zE → (∀ e ∈ r, eKey e ≠ k) → Fr none_ w w' → K (.tuple #[i64 (i : Nat), .bool false]) w') :
    CallsR Tryz.prog 81 #[pt p 0, i64 k.1, .agg k.2.cells.toArray] K w := by
  have hlo := ht.lo
  have hlt : ∀ d, wk (2 * room) (hmF (2 * room) k) d < ps.length := fun d => by rw [ht.len]; exact wk_lt (by omega) _ _
  refine pfind' ht.fb ht.len (by omega) (by have := ht.hi; omega) hk ht.free (fun d w' g1 g2 hF => h1 _ w' (hlt d) g1 ((ht.ct.mem _).2 ⟨g1, _, hlt d, rfl⟩) g2 hF) fun d w' g1 g2 hF => h0 _ d w' (hlt d) rfl g1 g2 (fun e he hk => ?_) hF
  obtain ⟨g3, q, g4, rfl⟩ := (ht.ct.mem e).1 he
  rw [ht.len] at g4
  exact ht.pt.absent g1 g2 q g4 g3 hk

end Go.Gx.S

namespace Go.Gx.S
open Go Go.Gx Go.Proofs
variable {K : Value → World → Prop} {w : World}

theorem mac_dw (m : Mac) : (m.cells.drop 0).take 6 = m.cells := id rfl
attribute [push_cast] mac_dw

/-! ### The steps, plain -/

def atK (r : List Ent) (k : Key) : Option Ent := r.find? fun e => decide (eKey e = k)
theorem atK_some {r : List Ent} {k : Key} {e : Ent} (h : Srt r) (he : e ∈ r) (hk : eKey e = k) : atK r k = some e := by
  unfold atK
  cases hf : r.find? (fun e => decide (eKey e = k)) with
  | none =>
    have := List.find?_eq_none.1 hf e he
    simp [hk] at this
  | some f =>
    have h1 := List.mem_of_find?_eq_some hf
    have h2 := List.find?_some hf
    simp only [decide_eq_true_eq] at h2
    rw [h.key h1 he (h2.trans hk.symm)]
theorem atK_none {r : List Ent} {k : Key} (h : ∀ e ∈ r, eKey e ≠ k) : atK r k = none := by
  unfold atK
  exact List.find?_eq_none.2 fun e he => by simpa using h e he
def learnL (room : Nat) (r : List Ent) (v : Int) (m : Mac) (p t : Int) : List Ent × Int × Int :=
  if rightB v m p && timedB t then
    match atK r (v, m) with
    | some e => if e.static then (r, 0, 0) else (withL r ⟨v, m, p, t, false⟩, if e.port = p then 0 else 2, 0)
    | none => if room ≤ r.length then (r, 0, 3) else (withL r ⟨v, m, p, t, false⟩, 1, 0)
  else (r, 0, 1)
def putL (room : Nat) (r : List Ent) (v : Int) (m : Mac) (p : Int) : List Ent × Int :=
  if rightB v m p then
    match atK r (v, m) with
    | some _ => (withL r ⟨v, m, p, 0, true⟩, 0)
    | none => if room ≤ r.length then (r, 3) else (withL r ⟨v, m, p, 0, true⟩, 0)
  else (r, 1)
def lookL (r : List Ent) (k : Key) : Ent × Bool := match atK r k with | some e => (e, true) | none => (zE, false)
theorem right_nz {v p t : Int} {m : Mac} {g : Bool} (h : rightB v m p = true) : (⟨v, m, p, t, g⟩ : Ent) ≠ zE := fun e => by
  have h1 : v = 0 := congrArg Ent.vlan e
  unfold rightB at h
  rw [h1] at h
  simp at h

theorem rng_with {r : List Ent} {x : Ent} (h : ∀ e ∈ r, RngE e) (hx : RngE x) : ∀ e ∈ withL r x, RngE e := fun e he => by
  rcases mem_with.1 he with rfl | he
  · exact hx
  · exact h e he.1

theorem FT.upd {w' : World} {p pb o c room i : Nat} {ps r : List Ent} {x : Ent} (ht : FT w p pb o c room ps r) (hi : i < ps.length) (hz : pAt ps i ≠ zE) (hk : eKey (pAt ps i) = eKey x) (hx : x ≠ zE) (hok : x.ok) (hrg : RngE x) (hb : FB w' p pb o c (ps.set i x) r.length) :
    FT w' p pb o c room (ps.set i x) (withL r x) := by
  have hmem : pAt ps i ∈ r := (ht.ct.mem _).2 ⟨hz, i, hi, rfl⟩
  have hl := with_len_old ht.ct.srt hmem hk
  refine ⟨by rw [hl]; exact hb, by rw [List.length_set]; exact ht.len, ht.pt.update (by rw [← ht.len]; exact hi) hx hz hk, ht.ct.put hx hok hi (fun q hq hqi hqz hkk => hqi (ht.ct.inj q i hq hi hqz hz (hkk.trans hk.symm))) (fun _ => hk), by rw [hl]; exact ht.cap, ht.lo, ht.hi, rng_with ht.rng hrg⟩
theorem FT.ins {w' : World} {p pb o c room i d : Nat} {ps r : List Ent} {x : Ent} (ht : FT w p pb o c room ps r) (hi : i < ps.length) (hid : i = wk (2 * room) (hmF (2 * room) (eKey x)) d) (hs : Seen (2 * room) ps (hmF (2 * room) (eKey x)) (eKey x) d)
    (hz : pAt ps i = zE) (hno : ∀ e ∈ r, eKey e ≠ eKey x) (hx : x ≠ zE) (hok : x.ok) (hrg : RngE x) (hcap : r.length < room) (hb : FB w' p pb o c (ps.set i x) (r.length + 1)) : FT w' p pb o c room (ps.set i x) (withL r x) := by
  have hl := with_len_new hno
  have hpt : PT (2 * room) (hmF (2 * room)) (ps.set i x) := by
    subst hid
    exact ht.pt.insert hx hs hz
  exact ⟨by rw [hl]; exact hb, by rw [List.length_set]; exact ht.len, hpt, ht.ct.put hx hok hi (fun q hq _ hqz => hno _ ((ht.ct.mem _).2 ⟨hqz, q, hq, rfl⟩)) (fun hne => absurd hz hne), by rw [hl]; omega, ht.lo, ht.hi, rng_with ht.rng hrg⟩

def pp (p pb : Nat) : Nat → Prop := fun b => b = p ∨ b = pb

theorem learn_spec {p pb o c room : Nat} {ps r : List Ent} {v q t : Int} {m : Mac} (ht : FT w p pb o c room ps r) (hv : isI v) (hm : m.ok) (hq : isI q) (htt : isI t)
    (h : ∀ w' ps', FT w' p pb o c room ps' (learnL room r v m q t).1 → Fr (pp p pb) w w' → K (.tuple #[i64 (learnL room r v m q t).2.1, i64 (learnL room r v m q t).2.2]) w') :
    CallsR Tryz.prog 133 #[pt p 0, i64 v, .agg m.cells.toArray, i64 q, i64 t] K w := by
  apply c133
  unfold p133
  simp only [push_cast, Nat.reduceAdd, Nat.reduceLeDiff, Nat.reduceLT, Int.reduceToNat, Nat.left_eq_add, Nat.add_eq_left, Nat.add_left_cancel_iff, Nat.reduceEqDiff, Nat.add_assoc, Nat.succ_ne_zero]
  have hF : Fr none_ w (w.alloc (cellsO m.cells 53)) := (by repeat' first | with_reducible exact Fr.refl _ _ | with_reducible refine Fr.step_alloc ?_ ?_ | with_reducible refine Fr.step_drew ?_ | with_reducible refine Fr.step_wr ?_ ?_ _ _ | exact rfl | exact Or.inr (by omega) | exact Or.inl rfl | exact Or.inl (Or.inl rfl) | exact Or.inl (Or.inr rfl))
  have hm0 : (w.alloc (cellsO m.cells 53)).heap[w.heap.size]? = some (cellsO m.cells 53) := by simp only [push_cast, Nat.reduceAdd, Nat.reduceLeDiff, Nat.reduceLT, Int.reduceToNat, Nat.left_eq_add, Nat.add_eq_left, Nat.add_left_cancel_iff, Nat.reduceEqDiff, Nat.add_assoc, Nat.succ_ne_zero]
  have hlt := ht.fb.lt
  have hmp : w.heap.size ≠ p ∧ w.heap.size ≠ pb := by omega
  replace ht := ht.fr0 hF
  generalize w.alloc (cellsO m.cells 53) = W at *
  generalize w.heap.size = ms at *
  refine right_spec hm fun w2 hF2 => ?_
  replace ht := ht.fr0 hF2
  replace hm0 := hF2.heap hm0 fun h => h
  replace hF := hF.trans hF2
  unfold learnL at h
  simp only [push_cast, Nat.reduceAdd, Nat.reduceLeDiff, Nat.reduceLT, Int.reduceToNat, Nat.left_eq_add, Nat.add_eq_left, Nat.add_left_cancel_iff, Nat.reduceEqDiff, Nat.add_assoc, Nat.succ_ne_zero]
  cases hr : rightB v m q with
  | false =>
    rw [hr, Bool.false_and] at h
    simp only [push_cast, Nat.reduceAdd, Nat.reduceLeDiff, Nat.reduceLT, Int.reduceToNat, Nat.left_eq_add, Nat.add_eq_left, Nat.add_left_cancel_iff, Nat.reduceEqDiff, Nat.add_assoc, Nat.succ_ne_zero, Bool.not_false]
    exact h _ ps ht (hF.mono fun _ _ e => e.elim)
  | true =>
  rw [hr, Bool.true_and] at h
  simp only [push_cast, Nat.reduceAdd, Nat.reduceLeDiff, Nat.reduceLT, Int.reduceToNat, Nat.left_eq_add, Nat.add_eq_left, Nat.add_left_cancel_iff, Nat.reduceEqDiff, Nat.add_assoc, Nat.succ_ne_zero, Bool.not_true]
  refine timed_spec ?_
  simp only [push_cast, Nat.reduceAdd, Nat.reduceLeDiff, Nat.reduceLT, Int.reduceToNat, Nat.left_eq_add, Nat.add_eq_left, Nat.add_left_cancel_iff, Nat.reduceEqDiff, Nat.add_assoc, Nat.succ_ne_zero]
  cases htm : timedB t with
  | false =>
    rw [htm] at h
    simp only [push_cast, Nat.reduceAdd, Nat.reduceLeDiff, Nat.reduceLT, Int.reduceToNat, Nat.left_eq_add, Nat.add_eq_left, Nat.add_left_cancel_iff, Nat.reduceEqDiff, Nat.add_assoc, Nat.succ_ne_zero, Bool.not_false]
    exact h _ ps ht (hF.mono fun _ _ e => e.elim)
  | true =>
  rw [htm, if_pos rfl] at h
  simp only [push_cast, Nat.reduceAdd, Nat.reduceLeDiff, Nat.reduceLT, Int.reduceToNat, Nat.left_eq_add, Nat.add_eq_left, Nat.add_left_cancel_iff, Nat.reduceEqDiff, Nat.add_assoc, Nat.succ_ne_zero, Bool.not_true, hm0]
  have hx : (⟨v, m, q, t, false⟩ : Ent) ≠ zE := right_nz hr
  have hok : (⟨v, m, q, t, false⟩ : Ent).ok := ⟨hv, hm, hq, htt⟩
  have hrg : RngE ⟨v, m, q, t, false⟩ := ⟨hr, htm, fun e => by cases e⟩
  refine ft_find (k := (v, m)) ht ⟨hv, hm⟩ (fun i w3 hi hz hmem hk hF3 => ?_) fun i d w3 hi hid hs hz hno hF3 => ?_
  · rw [atK_some ht.ct.srt hmem hk] at h
    replace ht := ht.fr0 hF3
    replace hm0 := hF3.heap hm0 fun h => h
    replace hF := hF.trans hF3
    simp only [push_cast, Nat.reduceAdd, Nat.reduceLeDiff, Nat.reduceLT, Int.reduceToNat, Nat.left_eq_add, Nat.add_eq_left, Nat.add_left_cancel_iff, Nat.reduceEqDiff, Nat.add_assoc, Nat.succ_ne_zero, ht.fb.blk]
    refine ht.fb.at hi fun b1 o1 he => ?_
    rw [s_ldN (by decide), he.agg0 (Ent.cells_length _), onS_some]
    have hlt3 := ht.fb.lt
    refine ent_slot fun _ w4 hw4 hF4 => ?_
    have hsl : w3.heap.size ≠ pb := by omega
    generalize w3.heap.size = sl at *
    replace ht := ht.fr0 hF4
    replace hm0 := hF4.heap hm0 fun h => h
    replace hF := hF.trans hF4
    simp only [jn_0, push_cast, Nat.reduceAdd, Nat.reduceLeDiff, Nat.reduceLT, Int.reduceToNat, Nat.left_eq_add, Nat.add_eq_left, Nat.add_left_cancel_iff, Nat.reduceEqDiff, Nat.add_assoc, Nat.succ_ne_zero, hw4, ht.fb.blk, hm0]
    refine br_intro (fun hst => ?_) fun hst => ?_
    · simp only [hst, if_true] at h
      exact h _ ps ht (hF.mono fun _ _ e => e.elim)
    simp only [hst, Bool.false_eq_true, if_false] at h
    rw [build_lrn]
    refine s_put (ht.fb.fr0 (Fr.drew w4)) hi hok fun w5 hb5 hF5 => ?_
    have hw5 := hF5.heap ((Fr.drew (fp := none_) w4).heap hw4 fun h => h) hsl
    simp only [push_cast, Nat.reduceAdd, Nat.reduceLeDiff, Nat.reduceLT, Int.reduceToNat, Nat.left_eq_add, Nat.add_eq_left, Nat.add_left_cancel_iff, Nat.reduceEqDiff, Nat.add_assoc, Nat.succ_ne_zero, hw5]
    have ht5 := (ht.fr0 (Fr.drew w4)).upd hi hz (x := ⟨v, m, q, t, false⟩) hk hx hok hrg hb5
    have hF5' : Fr (pp p pb) w w5 := (hF.trans (Fr.drew w4)).mono (fun _ _ e => e.elim) |>.trans_new hF5 fun b _ e => .inr e
    have h' := h w5 _ ht5 hF5'
    refine br_intro (fun hne => ?_) fun hne => ?_
    · rw [if_neg (by simpa using hne)] at h'
      exact h'
    · rw [if_pos (by simpa using hne)] at h'
      exact h'
  · rw [atK_none hno] at h
    replace ht := ht.fr0 hF3
    replace hm0 := hF3.heap hm0 fun h => h
    replace hF := hF.trans hF3
    simp only [push_cast, Nat.reduceAdd, Nat.reduceLeDiff, Nat.reduceLT, Int.reduceToNat, Nat.left_eq_add, Nat.add_eq_left, Nat.add_left_cancel_iff, Nat.reduceEqDiff, Nat.add_assoc, Nat.succ_ne_zero, ht.fb.blk]
    refine ht.fb.at hi fun b1 o1 he => ?_
    rw [s_ldN (by decide), he.agg0 (Ent.cells_length _), onS_some]
    refine ent_slot fun _ w4 hw4 hF4 => ?_
    replace ht := ht.fr0 hF4
    replace hm0 := hF4.heap hm0 fun h => h
    replace hF := hF.trans hF4
    simp only [jn_0, push_cast, Nat.reduceAdd, Nat.reduceLeDiff, Nat.reduceLT, Int.reduceToNat, Nat.left_eq_add, Nat.add_eq_left, Nat.add_left_cancel_iff, Nat.reduceEqDiff, Nat.add_assoc, Nat.succ_ne_zero]
    refine full_spec ht.fb (by have := ht.cap; have := ht.hi; omega) fun w5 hF5 => ?_
    replace ht := ht.fr0 hF5
    replace hm0 := hF5.heap hm0 fun h => h
    replace hF := hF.trans hF5
    simp only [push_cast, Nat.reduceAdd, Nat.reduceLeDiff, Nat.reduceLT, Int.reduceToNat, Nat.left_eq_add, Nat.add_eq_left, Nat.add_left_cancel_iff, Nat.reduceEqDiff, Nat.add_assoc, Nat.succ_ne_zero]
    have hln := ht.len
    refine br_dec (fun hfull => ?_) fun hfull => ?_
    · simp only [if_pos (show room ≤ r.length by omega)] at h
      exact h _ ps ht (hF.mono fun _ _ e => e.elim)
    simp only [if_neg (show ¬ room ≤ r.length by omega)] at h
    simp only [push_cast, Nat.reduceAdd, Nat.reduceLeDiff, Nat.reduceLT, Int.reduceToNat, Nat.left_eq_add, Nat.add_eq_left, Nat.add_left_cancel_iff, Nat.reduceEqDiff, Nat.add_assoc, Nat.succ_ne_zero, ht.fb.blk, hm0]
    rw [build_lrn]
    refine s_put (ht.fb.fr0 (Fr.drew w5)) hi hok fun w6 hb6 hF6 => ?_
    simp only [push_cast, Nat.reduceAdd, Nat.reduceLeDiff, Nat.reduceLT, Int.reduceToNat, Nat.left_eq_add, Nat.add_eq_left, Nat.add_left_cancel_iff, Nat.reduceEqDiff, Nat.add_assoc, Nat.succ_ne_zero, hb6.blk]
    have hcap := ht.cap
    have hhi := ht.hi
    have hrw : IntKind.i64.wrap ((r.length : Int) + 1) = ((r.length + 1 : Nat) : Int) := by
      rw [wrap_i64 (by omega)]; simp
    rw [hrw]
    have ht7 := (ht.fr0 (Fr.drew w5)).ins hi (x := ⟨v, m, q, t, false⟩) hid hs hz hno hx hok hrg (by omega) (hb6.many (m' := r.length + 1))
    exact h _ _ ht7 (((hF.trans (Fr.drew w5)).mono (fun _ _ e => e.elim) |>.trans_new hF6 fun b _ e => .inr e).step_wr (.inl (.inl rfl)) _ _)

theorem look_spec {p pb o c room : Nat} {ps r : List Ent} {v : Int} {m : Mac} (ht : FT w p pb o c room ps r) (hv : isI v) (hm : m.ok)
    (h : ∀ w', Fr none_ w w' → K (.tuple #[.agg (lookL r (v, m)).1.cells.toArray, .bool (lookL r (v, m)).2]) w') :
    CallsR Tryz.prog 29 #[pt p 0, i64 v, .agg m.cells.toArray] K w := by
  apply c29
  unfold p29
  rw [opS_box]
  show opS Tryz.prog (S.alloc 80) _ (w.alloc (cellsO m.cells 53))
  have hF1 : Fr none_ w (w.alloc (cellsO m.cells 53)) := (by repeat' first | with_reducible exact Fr.refl _ _ | with_reducible refine Fr.step_alloc ?_ ?_ | with_reducible refine Fr.step_drew ?_ | with_reducible refine Fr.step_wr ?_ ?_ _ _ | exact rfl | exact Or.inr (by omega) | exact Or.inl rfl | exact Or.inl (Or.inl rfl) | exact Or.inl (Or.inr rfl))
  have hm0 : (w.alloc (cellsO m.cells 53)).heap[w.heap.size]? = some (cellsO m.cells 53) := by simp only [push_cast, Nat.reduceAdd, Nat.reduceLeDiff, Nat.reduceLT, Int.reduceToNat, Nat.left_eq_add, Nat.add_eq_left, Nat.add_left_cancel_iff, Nat.reduceEqDiff, Nat.add_assoc, Nat.succ_ne_zero]
  have hsz : w.heap.size < (w.alloc (cellsO m.cells 53)).heap.size := lt_of_heap hm0
  replace ht := ht.fr0 hF1
  generalize w.alloc (cellsO m.cells 53) = W at *
  rw [zalloc_ent]
  have hF2 : Fr none_ W (W.alloc (cellsO zE.cells 80)) := (by repeat' first | with_reducible exact Fr.refl _ _ | with_reducible refine Fr.step_alloc ?_ ?_ | with_reducible refine Fr.step_drew ?_ | with_reducible refine Fr.step_wr ?_ ?_ _ _ | exact rfl | exact Or.inr (by omega) | exact Or.inl rfl | exact Or.inl (Or.inl rfl) | exact Or.inl (Or.inr rfl))
  have hz0 : (W.alloc (cellsO zE.cells 80)).heap[W.heap.size]? = some (cellsO zE.cells 80) := by simp only [push_cast, Nat.reduceAdd, Nat.reduceLeDiff, Nat.reduceLT, Int.reduceToNat, Nat.left_eq_add, Nat.add_eq_left, Nat.add_left_cancel_iff, Nat.reduceEqDiff, Nat.add_assoc, Nat.succ_ne_zero]
  replace hm0 := hF2.heap hm0 fun h => h
  replace ht := ht.fr0 hF2
  have hF := hF1.trans hF2
  generalize W.alloc (cellsO zE.cells 80) = w1 at *
  have hwW := hF1.size
  generalize W.heap.size = sl at *
  simp only [push_cast, Nat.reduceAdd, Nat.reduceLeDiff, Nat.reduceLT, Int.reduceToNat, Nat.left_eq_add, Nat.add_eq_left, Nat.add_left_cancel_iff, Nat.reduceEqDiff, Nat.add_assoc, Nat.succ_ne_zero, hm0]
  unfold lookL at h
  have fin : ∀ {i : Nat} {w3 : World} {b : Bool}, i < ps.length → Fr none_ w1 w3 → (∀ w', Fr none_ w w' → K (.tuple #[.agg (pAt ps i).cells.toArray, .bool b]) w') → opS Tryz.prog (S.nc (pt p 0)) (fun x9 => opS Tryz.prog (S.fa 149 x9 0) fun x10 => opS Tryz.prog (S.ld 147 x10) fun x11 => opS Tryz.prog (S.ia 147 x11 (i64 (i : Nat))) fun x12 => opS Tryz.prog (S.ld 80 x12) fun x13 => opS Tryz.prog (S.st 80 (pt sl 0) x13) fun _ => opS Tryz.prog (S.ld 80 (pt sl 0)) fun x15 => K (.tuple #[x15, .bool b])) w3 := by
    intro i w3 b hi hF3 hk
    have ht3 := ht.fr0 hF3
    have hz3 := hF3.heap hz0 fun h => h
    simp only [push_cast, Nat.reduceAdd, Nat.reduceLeDiff, Nat.reduceLT, Int.reduceToNat, Nat.left_eq_add, Nat.add_eq_left, Nat.add_left_cancel_iff, Nat.reduceEqDiff, Nat.add_assoc, Nat.succ_ne_zero, ht3.fb.blk]
    refine ht3.fb.at hi fun b1 o1 he => ?_
    rw [s_ldN (by decide), he.agg0 (Ent.cells_length _), onS_some, s_stA _ _ _ (Ent.cells_length _) (Ent.cells_one _)]
    simp only [push_cast, Nat.reduceAdd, Nat.reduceLeDiff, Nat.reduceLT, Int.reduceToNat, Nat.left_eq_add, Nat.add_eq_left, Nat.add_left_cancel_iff, Nat.reduceEqDiff, Nat.add_assoc, Nat.succ_ne_zero, hz3]
    exact hk _ ((hF.trans hF3).step_wr (.inr (by omega)) _ _)
  refine ft_find (k := (v, m)) ht ⟨hv, hm⟩ (fun i w3 hi hz hmem hk hF3 => ?_) fun i d w3 hi hid hs hz hno hF3 => ?_
  · rw [atK_some ht.ct.srt hmem hk] at h
    simp only [s_ext, List.getElem?_toArray, List.getElem?_cons_zero, List.getElem?_cons_succ, onS_some]
    exact fin hi hF3 h
  · rw [atK_none hno] at h
    simp only [s_ext, List.getElem?_toArray, List.getElem?_cons_zero, List.getElem?_cons_succ, onS_some]
    rw [← hz] at h
    exact fin hi hF3 h

theorem pAt_rep (n i : Nat) : pAt (List.replicate n zE) i = zE := by
  by_cases h : i < n
  · rw [pAt_eq (by simpa using h), List.getElem_replicate]
  · rw [pAt_ge (by simpa using h)]

theorem pnew_spec (room : Int) (h0 : room < 1 ∨ 1024 < room → K (.tuple #[.pointer none, i64 1]) w)
    (h1 : 1 ≤ room → room ≤ 1024 → ∀ (p pb o c : Nat) (ps : List Ent) (w' : World), FT w' p pb o c room.toNat ps [] → Fr none_ w w' → w.heap.size ≤ p → w.heap.size ≤ pb → K (.tuple #[pt p 0, i64 0]) w') :
    CallsR Tryz.prog 99 #[i64 room] K w := by
  apply c99
  unfold p99
  simp only [push_cast, Nat.reduceAdd, Nat.reduceLeDiff, Nat.reduceLT, Int.reduceToNat, Nat.left_eq_add, Nat.add_eq_left, Nat.add_left_cancel_iff, Nat.reduceEqDiff, Nat.add_assoc, Nat.succ_ne_zero]
  refine br_dec (fun ha => h0 (.inl ha)) fun ha => ?_
  refine br_dec (fun hb => h0 (.inr hb)) fun hb => ?_
  obtain ⟨n, rfl⟩ : ∃ n : Nat, room = n := ⟨room.toNat, by omega⟩
  simp only [Int.toNat_natCast] at h1
  rw [wrap_i64 (by omega)]
  rw [opS_mks _ _ _ (by omega) (by omega) (by omega) (by rfl) (by decide)]
  have e2 : (2 * (n : Int)).toNat = 2 * n := by omega
  rw [e2]
  simp only [push_cast, Nat.reduceAdd, Nat.reduceLeDiff, Nat.reduceLT, Int.reduceToNat, Nat.left_eq_add, Nat.add_eq_left, Nat.add_left_cancel_iff, Nat.reduceEqDiff, Nat.add_assoc, Nat.succ_ne_zero]
  rw [opS_build _ rfl]
  simp only [push_cast, Nat.reduceAdd, Nat.reduceLeDiff, Nat.reduceLT, Int.reduceToNat, Nat.left_eq_add, Nat.add_eq_left, Nat.add_left_cancel_iff, Nat.reduceEqDiff, Nat.add_assoc, Nat.succ_ne_zero]
  refine h1 (by omega) (by omega) (w.heap.size + 1) w.heap.size 0 (2 * n) (List.replicate (2 * n) zE) ((w.alloc _).alloc _) ⟨⟨?_, ?_, by omega, fun e he => ?_⟩, List.length_replicate, ⟨List.length_replicate, by omega, fun k => hmF_lt (by omega) k, fun p _ hz => absurd (pAt_rep _ _) hz, fun p _ _ _ hz => absurd (pAt_rep _ _) hz⟩, ⟨Srt.nil, fun _ h => (by cases h), fun e => ⟨fun h => (by cases h), fun ⟨h1, p, _, h2⟩ => absurd ((pAt_rep (2 * n) p).symm.trans h2).symm h1⟩, fun p _ _ _ hz => absurd (pAt_rep _ _) hz⟩, Nat.zero_le _, by omega, by omega, fun _ h => by cases h⟩ ?_ (by omega) (by omega)
  · simp only [push_cast, Nat.reduceAdd, Nat.reduceLeDiff, Nat.reduceLT, Int.reduceToNat, Nat.left_eq_add, Nat.add_eq_left, Nat.add_left_cancel_iff, Nat.reduceEqDiff, Nat.add_assoc, Nat.succ_ne_zero, List.length_replicate]; rfl
  · have hzl : (zeros (2 * n) zE.cells).length = 2 * n * 10 := by rw [zeros_length]; rfl
    rw [List.length_replicate, List.map_replicate]
    refine ⟨.inr ⟨w.heap.size, 0, 2 * n, (zeros (2 * n) zE.cells).toArray, by rw [List.length_replicate], ?_, by rw [List.length_replicate]; exact Nat.le_refl _, ?_, ?_⟩, fun e he => ?_⟩
    · simp only [push_cast, Nat.reduceAdd, Nat.reduceLeDiff, Nat.reduceLT, Int.reduceToNat, Nat.left_eq_add, Nat.add_eq_left, Nat.add_left_cancel_iff, Nat.reduceEqDiff, Nat.add_assoc, Nat.succ_ne_zero]
      rfl
    · rw [List.size_toArray, hzl]; omega
    · rw [List.length_replicate, List.drop_zero, List.take_of_length_le (by rw [hzl]; exact Nat.le_refl _)]; rfl
    · rw [List.eq_of_mem_replicate he]; rfl
  · rw [List.eq_of_mem_replicate he]; exact zE_ok
  · exact ((Fr.refl _ _).step_alloc rfl).step_alloc rfl

end Go.Gx.S
end

section
/- A part of a slice is cleared; less of what one holds. -/
namespace Go.Gx
open Go
section
variable {P : Program} {K : Value → World → Prop} {w : World}

theorem OwnE.less {E sz b o c : Nat} {es : List (List Value)} (h : OwnE E sz w (.slice (some ⟨b, o, none⟩) es.length c) es) {m : Nat} (hm : m ≤ es.length) : OwnE E sz w (.slice (some ⟨b, o, none⟩) m c) (es.take m) := by
  obtain ⟨h1, h2⟩ := h
  have hlen : (es.take m).length = m := by rw [List.length_take]; omega
  refine ⟨?_, fun e he => h2 e (List.mem_of_mem_take he)⟩
  rcases h1 with ⟨h1, _⟩ | ⟨b', o', c', cs, hv, hb, hc, ho, hl⟩
  · cases h1
  · simp only [Value.slice.injEq, Option.some.injEq, Addr.mk.injEq, and_true, true_and] at hv
    obtain ⟨⟨rfl, rfl⟩, rfl⟩ := hv
    refine .inr ⟨b, o, c, cs, by rw [hlen], hb, by rw [hlen]; omega, ho, ?_⟩
    rw [hlen, ← flatten_take m h2, hl, List.take_take, Nat.min_eq_left (Nat.mul_le_mul_right _ hm)]

end
end Go.Gx
end

section
/- Contracts of the library's functions, laid at this program. -/
namespace Go.Proofs
open Go.Shelf
end Go.Proofs
-- 7f4afa43453398f893b16452092e7b549d7e72fdc56187cb8ba2dcc71f5a4eac
end

section
/- Entries that are compared (the table's). -/
set_option linter.unusedVariables false
set_option linter.unusedSimpArgs false
set_option maxRecDepth 100000
namespace Go.Gx.S
open Go Go.Gx Go.Proofs
variable {K : Value → World → Prop} {w : World}

/-! ### The document's -/

end Go.Gx.S

namespace Go.Gx.S
open Go Go.Gx Go.Proofs
variable {K : Value → World → Prop} {w : World}

end Go.Gx.S

namespace Go.Gx.S
open Go Go.Gx Go.Proofs
variable {K : Value → World → Prop} {w : World}

abbrev OkE := { e : Ent // e.ok }
instance : Inhabited OkE := ⟨⟨zE, zE_ok⟩⟩
/-! ### What is forgotten -/

instance : Sz Tryz.prog 232 1 false := ⟨Tryz.sizeOf232, Tryz.isAgg232⟩

def ageA (now lim : Int) (e : Ent) : Bool := decide (lim ≤ now - e.at_)
theorem timedB_iff {t : Int} : timedB t = true ↔ 0 ≤ t ∧ t ≤ 1099511627776 := by unfold timedB; simp

def FTx (N : Nat) (w : World) (p room : Nat) (r : List Ent) : Prop := ∃ pb o c ps, FT w p pb o c room ps r ∧ N ≤ p ∧ N ≤ pb
def ge (N : Nat) : Nat → Prop := fun b => N ≤ b
theorem FTx.fr0 {N : Nat} {w w' : World} {p room : Nat} {r : List Ent} (h : FTx N w p room r) (hF : Fr none_ w w') : FTx N w' p room r := by
  obtain ⟨pb, o, c, ps, h, h1, h2⟩ := h
  exact ⟨pb, o, c, ps, h.fr0 hF, h1, h2⟩
theorem FTx.srt {N p room : Nat} {r : List Ent} (h : FTx N w p room r) : Srt r := by obtain ⟨pb, o, c, ps, h, _⟩ := h; exact h.ct.srt
theorem FTx.cap {N p room : Nat} {r : List Ent} (h : FTx N w p room r) : r.length ≤ room := by obtain ⟨pb, o, c, ps, h, _⟩ := h; exact h.cap
theorem FTx.hi {N p room : Nat} {r : List Ent} (h : FTx N w p room r) : room ≤ 1024 := by obtain ⟨pb, o, c, ps, h, _⟩ := h; exact h.hi
theorem FTx.rng {N p room : Nat} {r : List Ent} (h : FTx N w p room r) : ∀ e ∈ r, RngE e := by obtain ⟨pb, o, c, ps, h, _⟩ := h; exact h.rng
theorem FTx.lt {N p room : Nat} {r : List Ent} (h : FTx N w p room r) : p < w.heap.size := by obtain ⟨pb, o, c, ps, h, _⟩ := h; exact h.fb.lt.1
end Go.Gx.S
end

section
/- The document's table. -/
set_option linter.unusedVariables false
set_option linter.unusedSimpArgs false
set_option maxRecDepth 100000
namespace Go.Gx.S
open Go Go.Gx Go.Proofs
variable {K : Value → World → Prop} {w : World}

structure RT (w : World) (q room : Nat) (L : Value) (r : List Ent) : Prop where
  blk : w.heap[q]? = some (cellsO [i64 room, L] 154)
  own : OwnE 80 10 w L (r.map Ent.cells)
  ne : ∀ b, blkS L = some b → b ≠ q

theorem RT.fr {fp : Nat → Prop} {w w' : World} {q room : Nat} {L : Value} {r : List Ent} (h : RT w q room L r) (hf : Fr fp w w') (h1 : ¬ fp q) (h2 : ∀ b, blkS L = some b → ¬ fp b) : RT w' q room L r :=
  ⟨hf.heap h.blk h1, h.own.fr hf h2, h.ne⟩
theorem RT.fr0 {w w' : World} {q room : Nat} {L : Value} {r : List Ent} (h : RT w q room L r) (hf : Fr none_ w w') : RT w' q room L r := h.fr hf (fun h => h) fun _ _ h => h
/-- what a step may write -/
def rp (q : Nat) (L : Value) : Nat → Prop := fun b => b = q ∨ blkS L = some b
/-- the new list's block -/
def NewOr (w : World) (L L' : Value) : Prop := ∀ b, blkS L' = some b → blkS L = some b ∨ w.heap.size ≤ b

theorem rfind_spec {q room : Nat} {L : Value} {r : List Ent} {k : Key} (ht : RT w q room L r) (hro : ∀ e ∈ r, e.ok) (hk : isI k.1 ∧ k.2.ok) (hn : r.length < 2 ^ 30)
    (h0 : (∀ e ∈ r, eKey e ≠ k) → ∀ w', Fr none_ w w' → K (i64 (-1)) w')
    (h1 : ∀ i (hi : i < r.length), eKey r[i] = k → ∀ w', Fr none_ w w' → K (i64 i) w') :
    CallsR Tryz.prog 208 #[pt q 0, i64 k.1, .agg k.2.cells.toArray] K w := by
  apply c208
  unfold p208
  simp only [push_cast, Nat.reduceAdd, Nat.reduceLeDiff, Nat.reduceLT, Int.reduceToNat, Nat.left_eq_add, Nat.add_eq_left, Nat.add_left_cancel_iff, Nat.reduceEqDiff, Nat.add_assoc, Nat.succ_ne_zero]
  have hF1 : Fr none_ w (w.alloc (cellsO k.2.cells 53)) := (by repeat' first | with_reducible exact Fr.refl _ _ | with_reducible refine Fr.step_alloc ?_ ?_ | with_reducible refine Fr.step_drew ?_ | with_reducible refine Fr.step_wr ?_ ?_ _ _ | exact rfl | exact Or.inr (by omega) | exact Or.inl rfl | exact Or.inl (Or.inl rfl) | exact Or.inl (Or.inr rfl))
  have hx1 : (w.alloc (cellsO k.2.cells 53)).heap[w.heap.size]? = some (cellsO k.2.cells 53) := by simp only [push_cast, Nat.reduceAdd, Nat.reduceLeDiff, Nat.reduceLT, Int.reduceToNat, Nat.left_eq_add, Nat.add_eq_left, Nat.add_left_cancel_iff, Nat.reduceEqDiff, Nat.add_assoc, Nat.succ_ne_zero]
  replace ht := ht.fr0 hF1
  generalize w.alloc (cellsO k.2.cells 53) = w1 at *
  obtain ⟨la, lc, hL⟩ := ht.own.rd.form
  rw [List.length_map] at hL
  subst hL
  refine jn0 (fun w' => Fr none_ w1 w' ∧ ∀ e ∈ r, eKey e ≠ k) (fun w' ⟨hF, hd⟩ => h0 hd w' (hF1.trans hF)) fun j hj => ?_
  refine loop1 (fun n y w' => ∃ i : Nat, y = i64 i ∧ n + i = r.length ∧ Fr none_ w1 w' ∧ ∀ k' (h : k' < r.length), k' < i → eKey r[k'] ≠ k) ?_ r.length ⟨0, rfl, rfl, Fr.refl _ _, fun _ _ h => by omega⟩
  rintro n y w2 X ⟨i, rfl, hi, hF2, hno⟩ hX
  have ht2 := ht.fr0 hF2
  have hx2 := hF2.heap hx1 fun h => h
  simp only [push_cast, Nat.reduceAdd, Nat.reduceLeDiff, Nat.reduceLT, Int.reduceToNat, Nat.left_eq_add, Nat.add_eq_left, Nat.add_left_cancel_iff, Nat.reduceEqDiff, Nat.add_assoc, Nat.succ_ne_zero, ht2.blk]
  refine br_dec (fun hlt => ?_) fun hge => hj _ ⟨hF2, fun e he => ?_⟩
  case refine_2 =>
    obtain ⟨k', hk', rfl⟩ := List.getElem_of_mem he
    exact hno k' hk' (by omega)
  have hil : i < r.length := by omega
  have hok := hro _ (List.getElem_mem hil)
  have hFd : Fr none_ w1 w2.drew := hF2.step_drew
  have htd := ht2.fr0 (Fr.drew w2)
  have hxd := (Fr.drew (fp := none_) w2).heap hx2 fun h => h
  generalize w2.drew = wd at *
  have hgo : eKey r[i] ≠ k → X (i64 ((i : Int) + 1)) wd := fun hp => hX (n - 1) _ _ (by omega) ⟨i + 1, by simp, by omega, hFd, fun k' h hk' => by
    rcases Nat.lt_or_ge k' i with h1 | h1
    · exact hno k' h h1
    · have : k' = i := by omega
      subst this
      exact hp⟩
  have hrd := htd.own.rd
  refine s_iaE hrd (by omega) (by simpa using hil) fun b o c _ he => ?_
  simp only [Int.toNat_natCast, List.getElem_map] at he ⊢
  have hv := he.cell 0 (by simp [Ent.cells])
  rw [Nat.add_zero] at hv
  simp only [push_cast, Nat.reduceAdd, Nat.reduceLeDiff, Nat.reduceLT, Int.reduceToNat, Nat.left_eq_add, Nat.add_eq_left, Nat.add_left_cancel_iff, Nat.reduceEqDiff, Nat.add_assoc, Nat.succ_ne_zero, hv]
  refine br_intro (fun h2 => ?_) fun h2 => ?_
  case refine_2 =>
    rw [wrap_i64 (by omega)]
    refine hgo fun e => ?_
    rw [← e] at h2
    simp [eKey] at h2
  have h2 : r[i].vlan = k.1 := by simpa using h2
  simp only [push_cast, Nat.reduceAdd, Nat.reduceLeDiff, Nat.reduceLT, Int.reduceToNat, Nat.left_eq_add, Nat.add_eq_left, Nat.add_left_cancel_iff, Nat.reduceEqDiff, Nat.add_assoc, Nat.succ_ne_zero, htd.blk]
  refine s_iaE hrd (by omega) (by simpa using hil) fun b o c _ he => ?_
  simp only [Int.toNat_natCast, List.getElem_map] at he ⊢
  have hm := he.agg 1 6 (by simp [Ent.cells])
  rw [Nat.add_assoc] at hm
  simp only [push_cast, Nat.reduceAdd, Nat.reduceLeDiff, Nat.reduceLT, Int.reduceToNat, Nat.left_eq_add, Nat.add_eq_left, Nat.add_left_cancel_iff, Nat.reduceEqDiff, Nat.add_assoc, Nat.succ_ne_zero, hm, hxd]
  refine s_eqG (MacT.enc (P := Tryz.prog) (T := 53) (d := 6) hok.2.1) (MacT.enc (P := Tryz.prog) (T := 53) (d := 6) hk.2) fun y hy => ?_
  rw [Mac.lits_inj] at hy
  simp only [push_cast, Nat.reduceAdd, Nat.reduceLeDiff, Nat.reduceLT, Int.reduceToNat, Nat.left_eq_add, Nat.add_eq_left, Nat.add_left_cancel_iff, Nat.reduceEqDiff, Nat.add_assoc, Nat.succ_ne_zero]
  refine br_intro (fun h3 => ?_) fun h3 => ?_
  · exact h1 i hil (Prod.ext h2 (hy.1 h3)) _ (hF1.trans hFd)
  · rw [wrap_i64 (by omega)]
    refine hgo fun e => ?_
    rw [hy.2 (congrArg Prod.snd e)] at h3
    cases h3

end Go.Gx.S

namespace Go.Gx.S
open Go Go.Gx Go.Proofs
variable {K : Value → World → Prop} {w : World}

end Go.Gx.S

namespace Go.Gx.S
open Go Go.Gx Go.Proofs
variable {K : Value → World → Prop} {w : World}

theorem RT.none {fp : Nat → Prop} {w w' : World} (h : Fr none_ w w') : Fr fp w w' := h.mono fun _ _ e => e.elim

/-! ### Remove: in any order -/

section
variable {w0 : World} {q room : Nat} {L : Value} {r : List Ent}
end

end Go.Gx.S

namespace Go.Gx.S
open Go Go.Gx Go.Proofs
variable {K : Value → World → Prop} {w : World}

theorem timedB_no {t : Int} (hn : ¬ (0 ≤ t ∧ t ≤ 1099511627776)) : timedB t = false := by
  cases e : timedB t with
  | false => rfl
  | true => exact absurd (timedB_iff.1 e) hn

/-! ### New -/

theorem rnew_spec (room : Int) (h0 : room < 1 ∨ 1024 < room → K (.tuple #[.pointer none, i64 1]) w)
    (h1 : 1 ≤ room → room ≤ 1024 → ∀ (q : Nat) (L : Value) (w' : World), RT w' q room.toNat L [] → Fr none_ w w' → w.heap.size ≤ q → New w L → K (.tuple #[pt q 0, i64 0]) w') :
    CallsR Tryz.prog 100 #[i64 room] K w := by
  apply c100
  unfold p100
  simp only [push_cast, Nat.reduceAdd, Nat.reduceLeDiff, Nat.reduceLT, Int.reduceToNat, Nat.left_eq_add, Nat.add_eq_left, Nat.add_left_cancel_iff, Nat.reduceEqDiff, Nat.add_assoc, Nat.succ_ne_zero]
  refine br_dec (fun ha => h0 (.inl ha)) fun ha => ?_
  refine br_dec (fun hb => h0 (.inr hb)) fun hb => ?_
  rw [opS_build _ rfl]
  simp only [push_cast, Nat.reduceAdd, Nat.reduceLeDiff, Nat.reduceLT, Int.reduceToNat, Nat.left_eq_add, Nat.add_eq_left, Nat.add_left_cancel_iff, Nat.reduceEqDiff, Nat.add_assoc, Nat.succ_ne_zero]
  obtain ⟨n, rfl⟩ : ∃ n : Nat, room = n := ⟨room.toNat, by omega⟩
  refine h1 (by omega) (by omega) w.heap.size (.slice none 0 0) (w.alloc _) ⟨?_, own_nil _ _ _, fun b hb => (by cases hb)⟩ ?_ (Nat.le_refl _) fun b hb => by cases hb
  · simp only [push_cast, Nat.reduceAdd, Nat.reduceLeDiff, Nat.reduceLT, Int.reduceToNat, Nat.left_eq_add, Nat.add_eq_left, Nat.add_left_cancel_iff, Nat.reduceEqDiff, Nat.add_assoc, Nat.succ_ne_zero, Int.toNat_natCast]; rfl
  · exact (Fr.refl _ _).step_alloc rfl

end Go.Gx.S
end

section
/- What a loop over a function collects. -/
namespace Go.Gx
open Go
variable {P : Program} {K : Value → World → Prop} {w : World}

theorem upd_own {E sz b0 : Nat} {v : Value} {es : List (List Value)} {o : Obj} (h : OwnE E sz w v es) (hn : ∀ b, blkS v = some b → b0 ≠ b) : OwnE E sz (upd w b0 o) v es :=
  h.frame fun b hb => heap_upd_ne (hn b hb)

/-- while a loop collects into the slot q: its marks lie at s, its own block behind; 'it' is another's -/
structure CI (E sz : Nat) (T : TypeId) (w0 : World) (q s : Nat) (L : Loop) (it : Nat) (es : List (List Value)) (w : World) : Prop where
  slot : ∃ v, w.heap[q]? = some (cellsO [v] T) ∧ OwnE E sz w v es ∧ ∀ b, blkS v = some b → s + 1 < b ∧ b ≠ it
  loop : ∃ L', w.heap[s + 1]? = some (.loop L') ∧ LoopSame L' L ∧ L'.state = .ready ∧ L'.pending = none
  dfr : w.heap[s]? = some (.deferred (some []))
  fr : Fr none_ w0 w
  q0 : w0.heap.size ≤ q
  qs : q < s
  its : s + 1 < it

theorem CI.stay {E sz : Nat} {T : TypeId} {w0 w' : World} {q s it : Nat} {L : Loop} {es : List (List Value)} (h : CI E sz T w0 q s L it es w) (hF : Fr (fun b => b = it) w w') : CI E sz T w0 q s L it es w' := by
  obtain ⟨⟨v, h1, h2, h3⟩, ⟨L', h4, h5⟩, h6, h7, h8, h9, h10⟩ := h
  refine ⟨⟨v, hF.heap h1 (by omega), h2.fr hF (fun b hb => (h3 b hb).2), h3⟩, ⟨L', hF.heap h4 (by omega), h5⟩, hF.heap h6 (by omega), h7.trans_new hF fun b hb e => ?_, h8, h9, h10⟩
  omega

/-- at its start -/
theorem CI.start {E sz : Nat} {T : TypeId} {w0 w' : World} {q it : Nat} {L : Loop} {v : Value} {es : List (List Value)} (hL1 : L.state = .ready) (hL2 : L.pending.isNone = true) (hs : w.heap[q]? = some (cellsO [v] T)) (hv : OwnE E sz w v es) (hvn : blkS v = none)
    (hF : Fr none_ w0 w) (hq : w0.heap.size ≤ q) (hF' : Fr none_ ((w.alloc (.deferred (some []))).alloc (.loop L)) w') (hit : w.heap.size + 2 ≤ it) : CI E sz T w0 q w.heap.size L it es w' := by
  have hlt := lt_of_heap hs
  have hF2 : Fr none_ w ((w.alloc (.deferred (some []))).alloc (.loop L)) := ((Fr.refl _ _).step_alloc rfl).step_alloc rfl
  refine ⟨⟨v, hF'.heap (hF2.heap hs fun h => h) fun h => h, hv.fr (hF2.trans hF') (fun _ _ h => h), fun b hb => by rw [hvn] at hb; cases hb⟩, ⟨L, hF'.heap ?_ fun h => h, ⟨rfl, rfl, rfl, rfl, rfl⟩, hL1, by simpa using hL2⟩, hF'.heap ?_ fun h => h, (hF.trans hF2).trans hF', hq, hlt, by omega⟩
  · have := heap_alloc_new (w.alloc (.deferred (some []))) (.loop L)
    rwa [size_alloc] at this
  · rw [heap_alloc_lt (by rw [size_alloc]; omega)]
    exact heap_alloc_new _ _

end Go.Gx
end

section
/- What a loop over a function collects, where some rounds collect nothing. -/
namespace Go.Gx
open Go
variable {P : Program} {K : Value → World → Prop} {w : World}

/-- while a loop collects into the slot q: its marks lie at s, its own block behind -/
structure CJ (E sz : Nat) (T : TypeId) (w0 : World) (q s : Nat) (L : Loop) (busy : Bool) (es : List (List Value)) (w : World) : Prop where
  slot : ∃ v, w.heap[q]? = some (cellsO [v] T) ∧ OwnE E sz w v es ∧ ∀ b, blkS v = some b → s + 1 < b
  loop : ∃ L', w.heap[s + 1]? = some (.loop L') ∧ LoopSame L' L ∧ L'.state = (if busy then .busy else .ready) ∧ L'.pending = none
  dfr : w.heap[s]? = some (.deferred (some []))
  fr : Fr none_ w0 w
  q0 : w0.heap.size ≤ q
  qs : q < s

theorem CJ.stay {E sz : Nat} {T : TypeId} {w0 w' : World} {q s : Nat} {L : Loop} {busy : Bool} {es : List (List Value)} (h : CJ E sz T w0 q s L busy es w) (hF : Fr none_ w w') : CJ E sz T w0 q s L busy es w' := by
  obtain ⟨⟨v, h1, h2, h3⟩, ⟨L', h4, h5⟩, h6, h7, h8, h9⟩ := h
  exact ⟨⟨v, hF.heap h1 (fun h => h), h2.fr hF (fun _ _ h => h), h3⟩, ⟨L', hF.heap h4 (fun h => h), h5⟩, hF.heap h6 (fun h => h), h7.trans hF, h8, h9⟩

theorem CJ.start {E sz : Nat} {T : TypeId} {w0 : World} {q : Nat} {L : Loop} {v : Value} {es : List (List Value)} (hL1 : L.state = .ready) (hL2 : L.pending.isNone = true) (hs : w.heap[q]? = some (cellsO [v] T)) (hv : OwnE E sz w v es) (hvn : blkS v = none)
    (hF : Fr none_ w0 w) (hq : w0.heap.size ≤ q) : CJ E sz T w0 q w.heap.size L false es ((w.alloc (.deferred (some []))).alloc (.loop L)) := by
  have hlt := lt_of_heap hs
  have hF2 : Fr none_ w ((w.alloc (.deferred (some []))).alloc (.loop L)) := ((Fr.refl _ _).step_alloc rfl).step_alloc rfl
  refine ⟨⟨v, hF2.heap hs fun h => h, hv.fr hF2 (fun _ _ h => h), fun b hb => by rw [hvn] at hb; cases hb⟩, ⟨L, ?_, ⟨rfl, rfl, rfl, rfl, rfl⟩, hL1, by simpa using hL2⟩, ?_, hF.trans hF2, hq, hlt⟩
  · have := heap_alloc_new (w.alloc (.deferred (some []))) (.loop L)
    rwa [size_alloc] at this
  · rw [heap_alloc_lt (by rw [size_alloc]; omega)]
    exact heap_alloc_new _ _

theorem cj_begin {E sz : Nat} {T : TypeId} {w0 : World} {q s : Nat} {L : Loop} {es : List (List Value)} (h : CJ E sz T w0 q s L false es w) (hK : ∀ w', CJ E sz T w0 q s L true es w' → Fr (fun b => b = s + 1) w w' → K undef w') : opS P (S.beginR (pt (s + 1) 0)) K w := by
  obtain ⟨⟨v, hv, hvO, hvb⟩, ⟨L', hlb, hsame, hst, hpd⟩, hd, hfr, hq, hqs⟩ := h
  rw [opS_beginR hlb hst]
  have f2 : Fr (fun b => b = s + 1) w (upd w (s + 1) (.loop { L' with state := .busy })) := Fr.upd' hlb rfl _ rfl rfl
  have l2 : (upd w (s + 1) (.loop { L' with state := .busy })).heap[s + 1]? = some (.loop { L' with state := .busy }) := heap_upd_same (by rw [hlb]; rfl)
  exact hK _ ⟨⟨v, f2.heap hv (by omega), upd_own hvO fun b hb => by have := hvb b hb; omega, hvb⟩, ⟨_, l2, hsame, rfl, hpd⟩, f2.heap hd (by omega), hfr.trans_new f2 fun b hb e => by omega, hq, hqs⟩ f2

theorem cj_endR {E sz : Nat} {T : TypeId} {w0 : World} {q s : Nat} {L : Loop} {es : List (List Value)} (h : CJ E sz T w0 q s L true es w) (hK : ∀ w', CJ E sz T w0 q s L false es w' → Fr (fun b => b = s + 1) w w' → K (.bool true) w') : opS P (S.endR (pt (s + 1) 0) none) K w := by
  obtain ⟨⟨v, hv, hvO, hvb⟩, ⟨L', hlb, hsame, hst, hpd⟩, hd, hfr, hq, hqs⟩ := h
  rw [opS_endR hlb]
  have f2 : Fr (fun b => b = s + 1) w (upd w (s + 1) (.loop { L' with state := .ready, pending := none })) := Fr.upd' hlb rfl _ rfl rfl
  have l2 : (upd w (s + 1) (.loop { L' with state := .ready, pending := none })).heap[s + 1]? = some (.loop { L' with state := .ready, pending := none }) := heap_upd_same (by rw [hlb]; rfl)
  exact hK _ ⟨⟨v, f2.heap hv (by omega), upd_own hvO fun b hb => by have := hvb b hb; omega, hvb⟩, ⟨_, l2, hsame, rfl, rfl⟩, f2.heap hd (by omega), hfr.trans_new f2 fun b hb e => by omega, hq, hqs⟩ f2

theorem cj_append {T E sz by_ : Nat} {ag : Bool} {z : Value} {ty : TypeId} [hT : SlT P T E] [hs : Sz P E sz ag] [hsT : Sz P T 1 false] [hb : By P E by_] [hz : ZV P E z] {w0 : World} {q s : Nat} {L : Loop} {es : List (List Value)} {x : List Value} {mid : (Value → World → Prop) → World → Prop}
    (hx : ∀ (K : Value → World → Prop), (∀ v' w', OwnE E sz w' v' [x] → Fr none_ w w' → New w v' → K v' w') → mid K w) (hone : x.all S.oneCell = true) (hzn : z.cells.size = sz) (hby : 0 < by_) (hroom : (2 * (es.length + 1) + 192) * by_ ≤ 2 ^ 48)
    (h : CJ E sz T w0 q s L true es w) (hK : ∀ w', CJ E sz T w0 q s L true (es ++ [x]) w' → Fr (fun b => b = q ∨ s + 1 < b) w w' → K undef w') :
    opS P (S.ld T (pt q 0)) (fun x6 => mid fun x7 => opS P (S.bi .append #[T, T] ty [x6, x7]) fun x8 => opS P (S.st T (pt q 0) x8) K) w := by
  obtain ⟨⟨v, hv, hvO, hvb⟩, ⟨L', hlb, hsame, hst, hpd⟩, hd, hfr, hq, hqs⟩ := h
  have hlt1 := lt_of_heap hlb
  have hsz := hfr.size
  rw [s_ld1, hv, cellAt_cells, List.getElem?_cons_zero, onS_some]
  refine hx _ fun vG W3 hG f3 nG => ?_
  have o3 : OwnE E sz W3 v es := hvO.fr f3 (fun _ _ h => h)
  have hs3 := f3.size
  refine s_app (T := T) (T2 := T) (sz := sz) (by_ := by_) hzn hby o3 hG.rd (by simpa using hone) (by simpa using hroom) fun vH W4 hH bH f4 => ?_
  have hvH : ∀ b, blkS vH = some b → s + 1 < b := fun b hb => by
    rcases bH with bH | bH
    · exact hvb b (bH ▸ hb)
    · have := bH b hb; omega
  have v4 : W4.heap[q]? = some (cellsO [v] T) := f4.heap (f3.heap hv (fun h => h)) (fun h => by have := hvb _ h; omega)
  have l4 : W4.heap[s + 1]? = some (.loop L') := f4.heap (f3.heap hlb (fun h => h)) (fun h => by have := hvb _ h; omega)
  have f5 : Fr (fun b => b = q ∨ s + 1 < b) w (wr W4 q 0 [vH]) := by
    refine Fr.step_wr (fp := fun b => b = q ∨ s + 1 < b) ?_ (.inl (.inl rfl)) _ _
    exact (f3.mono (fun _ _ h => h.elim)).trans_new f4 (fun b _ h => .inr (hvb b h))
  rw [s_st1 _ _ _ hH.one, v4, okAt_cells]
  have ok : decide (0 + 1 ≤ [v].length) = true := rfl
  rw [ok, onB_true]
  have v5 : (wr W4 q 0 [vH]).heap[q]? = some (cellsO [vH] T) := by rw [heap_wr, if_pos rfl, v4, putAt_cells]; rfl
  have l5 : (wr W4 q 0 [vH]).heap[s + 1]? = some (.loop L') := by
    rw [heap_wr, if_neg (by omega)]; exact l4
  have o5 : OwnE E sz (wr W4 q 0 [vH]) vH (es ++ [x]) := hH.fr (Fr.wr (fp := fun b => b = q) W4 _ 0 [vH] rfl) (fun b hb e => by have := hvH b hb; omega)
  exact hK _ ⟨⟨vH, v5, o5, hvH⟩, ⟨L', l5, hsame, hst, hpd⟩, f5.heap hd (by omega), hfr.trans_new f5 fun b hb e => by omega, hq, hqs⟩ f5

theorem cj_end (P : Program) {E sz : Nat} {T : TypeId} {w0 : World} {q s : Nat} {L : Loop} {es : List (List Value)} (h : CJ E sz T w0 q s L false es w) :
    ∃ v w', (Instr.endLoop (s + 1)).run P w = .ok none w' ∧ w'.heap[q]? = some (cellsO [v] T) ∧ OwnE E sz w' v es ∧ (∀ b, blkS v = some b → s + 1 < b) ∧ w'.heap[s]? = some (.deferred (some [])) ∧ Fr none_ w0 w' ∧ Fr (fun b => b = s + 1) w w' := by
  obtain ⟨⟨v, hv, hvO, hvb⟩, ⟨L', hlb, hsame, hst, hpd⟩, hd, hfr, hq, hqs⟩ := h
  have hst : L'.state = .ready := hst
  refine ⟨v, _, by rw [run_endLoop hlb (by rw [hst]; decide), hpd], ?_, upd_own hvO fun b hb => by have := hvb b hb; omega, hvb, ?_, hfr.step_upd hlb rfl _ rfl (.inr (by omega)), Fr.upd' hlb rfl _ rfl rfl⟩
  · rw [heap_upd_ne (by omega)]; exact hv
  · rw [heap_upd_ne (by omega)]; exact hd

end Go.Gx
end

section
/- A bridge: its ports. -/
set_option linter.unusedVariables false
set_option linter.unusedSimpArgs false
set_option maxRecDepth 100000
namespace Go.Gx.S
open Go Go.Gx Go.Proofs
variable {K : Value → World → Prop} {w : World}

/-! ### Plain -/

structure FS where
  t : VT
  r : List Ent
  S : List Int
  N : List Int
  Ln : List Int

def incr (l : List Int) (k : Nat) : List Int := l.set k (IntKind.i64.wrap (l.getD k 0 + 1))
def hasB (S : List Int) (port : Int) : Bool := decide (1 ≤ port) && decide (port < S.length)
def stateL (S : List Int) (port : Int) : Int := if hasB S port then S.getD port.toNat 0 else 0
def setL' (S : List Int) (port st : Int) : List Int × Int := if hasB S port && (decide (0 ≤ st) && decide (st ≤ 2)) then (S.set port.toNat st, 0) else (S, 1)
def reservedM (m : Mac) : Bool := decide (m.b0 = 1 ∧ m.b1 = 128 ∧ m.b2 = 194 ∧ m.b3 = 0 ∧ m.b4 = 0 ∧ m.b5 < 16)
def learnF (room : Nat) (fs : FS) (v : Int) (m : Mac) (port now : Int) : FS :=
  { fs with r := (learnL room fs.r v m port now).1, Ln := if (learnL room fs.r v m port now).2.2 ≠ 0 then incr fs.Ln 2 else if (learnL room fs.r v m port now).2.1 = 1 then incr fs.Ln 0 else if (learnL room fs.r v m port now).2.1 = 2 then incr fs.Ln 1 else fs.Ln }
def refusedL (fs : FS) (port : Int) (f : Frm) (n : Nat) (now : Int) : Int × Int :=
  if !(hasB fs.S port) || (!(f.right n) || !(timedB now)) then (1, 0)
  else if reservedM f.dst then (2, 0)
  else if fs.S.getD port.toNat 0 = 0 then (3, 0)
  else if (fs.t.inn port f n).2 ≠ 0 then (4, 0)
  else if grp f.src then (5, (fs.t.inn port f n).1)
  else (0, (fs.t.inn port f n).1)

/-! ### A bridge's blocks -/

def brC (vp p : Nat) (sl : Value) (N Ln : List Int) : List Value := pt vp 0 :: pt p 0 :: sl :: (N.map i64 ++ Ln.map i64)

structure BR (N0 : Nat) (w : World) (bp vp vm vnb p pb o c sb so sc room : Nat) (ps : List Ent) (fs : FS) : Prop where
  blk : w.heap[bp]? = some (cellsO (brC vp p (.slice (some ⟨sb, so, none⟩) fs.S.length sc) fs.N fs.Ln) 116)
  v : Vl.VRep w vp vm vnb fs.t
  f : FT w p pb o c room ps fs.r
  s : OwnE 3 1 w (.slice (some ⟨sb, so, none⟩) fs.S.length sc) (fs.S.map cellI)
  nl : fs.N.length = 9
  ll : fs.Ln.length = 3
  sl : fs.S.length ≤ 64
  d1 : bp ≠ vp ∧ bp ≠ vm ∧ bp ≠ vnb ∧ bp ≠ p ∧ bp ≠ pb ∧ bp ≠ sb
  d2 : sb ≠ vp ∧ sb ≠ vm ∧ sb ≠ vnb ∧ sb ≠ p ∧ sb ≠ pb
  d3 : p ≠ vp ∧ p ≠ vm ∧ p ≠ vnb ∧ pb ≠ vp ∧ pb ≠ vm ∧ pb ≠ vnb
  ge : N0 ≤ bp ∧ N0 ≤ vp ∧ N0 ≤ vm ∧ N0 ≤ vnb ∧ N0 ≤ p ∧ N0 ≤ pb ∧ N0 ≤ sb

section
variable {N0 bp vp vm vnb p pb o c sb so sc room : Nat} {ps : List Ent} {fs : FS}
theorem BR.fr0 {w' : World} (h : BR N0 w bp vp vm vnb p pb o c sb so sc room ps fs) (hF : Fr none_ w w') : BR N0 w' bp vp vm vnb p pb o c sb so sc room ps fs :=
  ⟨hF.heap h.blk (fun h => h), h.v.fr0 hF, h.f.fr0 hF, h.s.fr hF (fun _ _ h => h), h.nl, h.ll, h.sl, h.d1, h.d2, h.d3, h.ge⟩
theorem BR.lt (h : BR N0 w bp vp vm vnb p pb o c sb so sc room ps fs) : bp < w.heap.size ∧ vp < w.heap.size ∧ vm < w.heap.size ∧ vnb < w.heap.size ∧ p < w.heap.size ∧ pb < w.heap.size ∧ sb < w.heap.size := by
  have h1 := h.v.lt
  have h2 := h.f.fb.lt
  exact ⟨lt_of_heap h.blk, h1.1, h1.2.1, h1.2.2, h2.1, h2.2, h.s.lt (b := sb) rfl⟩
theorem BR.len (h : BR N0 w bp vp vm vnb p pb o c sb so sc room ps fs) : (brC vp p (.slice (some ⟨sb, so, none⟩) fs.S.length sc) fs.N fs.Ln).length = 15 := by
  simp [brC, h.nl, h.ll]
/-- the bridge's own cells are written -/
theorem BR.own {w' : World} {N' Ln' : List Int} (h : BR N0 w bp vp vm vnb p pb o c sb so sc room ps fs) (hF : Fr (fun b => b = bp) w w') (hb : w'.heap[bp]? = some (cellsO (brC vp p (.slice (some ⟨sb, so, none⟩) fs.S.length sc) N' Ln') 116)) (hn : N'.length = 9) (hl : Ln'.length = 3) :
    BR N0 w' bp vp vm vnb p pb o c sb so sc room ps { fs with N := N', Ln := Ln' } := by
  have d1 := h.d1
  exact ⟨hb, h.v.fr hF (by omega) (by omega) (by omega), h.f.fr hF (by omega) (by omega), h.s.fr hF (fun b hb e => by simp only [blkS, Option.some.injEq] at hb; omega), hn, hl, h.sl, h.d1, h.d2, h.d3, h.ge⟩
/-- its table of stations is -/
theorem BR.tab {w' : World} {ps' r' : List Ent} (h : BR N0 w bp vp vm vnb p pb o c sb so sc room ps fs) (hF : Fr (pp p pb) w w') (ht : FT w' p pb o c room ps' r') : BR N0 w' bp vp vm vnb p pb o c sb so sc room ps' { fs with r := r' } := by
  have d1 := h.d1
  have d2 := h.d2
  have d3 := h.d3
  have hp : ∀ b, pp p pb b → b = p ∨ b = pb := fun b e => e
  exact ⟨hF.heap h.blk fun e => by have := hp _ e; omega, h.v.fr hF (fun e => by have := hp _ e; omega) (fun e => by have := hp _ e; omega) (fun e => by have := hp _ e; omega), ht, h.s.fr hF (fun b hb e => by simp only [blkS, Option.some.injEq] at hb; have := hp _ e; omega), h.nl, h.ll, h.sl, h.d1, h.d2, h.d3, h.ge⟩
/-- its VLANs are -/
theorem BR.vl {w' : World} {t' : VT} (h : BR N0 w bp vp vm vnb p pb o c sb so sc room ps fs) (hF : Fr (Vl.vfp vp vm vnb) w w') (ht : Vl.VRep w' vp vm vnb t') : BR N0 w' bp vp vm vnb p pb o c sb so sc room ps { fs with t := t' } := by
  have d1 := h.d1
  have d2 := h.d2
  have d3 := h.d3
  have hp : ∀ b, Vl.vfp vp vm vnb b → b = vp ∨ b = vm ∨ b = vnb := fun b e => e
  exact ⟨hF.heap h.blk fun e => by have := hp _ e; omega, ht, h.f.fr hF (fun e => by have := hp _ e; omega) (fun e => by have := hp _ e; omega), h.s.fr hF (fun b hb e => by simp only [blkS, Option.some.injEq] at hb; have := hp _ e; omega), h.nl, h.ll, h.sl, h.d1, h.d2, h.d3, h.ge⟩
/-- its states are -/
theorem BR.st {w' : World} {S' : List Int} (h : BR N0 w bp vp vm vnb p pb o c sb so sc room ps fs) (hF : Fr (fun b => b = sb) w w') (hl : S'.length = fs.S.length) (hs : OwnE 3 1 w' (.slice (some ⟨sb, so, none⟩) fs.S.length sc) (S'.map cellI)) : BR N0 w' bp vp vm vnb p pb o c sb so sc room ps { fs with S := S' } := by
  have d1 := h.d1
  have d2 := h.d2
  refine ⟨?_, h.v.fr hF (by omega) (by omega) (by omega), h.f.fr hF (by omega) (by omega), ?_, h.nl, h.ll, ?_, h.d1, h.d2, h.d3, h.ge⟩
  · rw [hl]; exact hF.heap h.blk (by omega)
  · rw [hl]; exact hs
  · rw [hl]; exact h.sl
theorem BR.of {w' : World} {fp : Nat → Prop} (h : BR N0 w bp vp vm vnb p pb o c sb so sc room ps fs) (hF : Fr fp w w') (hfp : ∀ b, fp b → b = bp ∨ b = vp ∨ b = vm ∨ b = vnb ∨ b = p ∨ b = pb ∨ b = sb) : Fr (fun b => N0 ≤ b) w w' := hF.mono fun b _ e => by
  have h2 := h.ge
  have := hfp b e
  omega

theorem brC_0 (sl : Value) (N Ln : List Int) : (brC vp p sl N Ln)[0]? = some (pt vp 0) := id rfl
theorem brC_1 (sl : Value) (N Ln : List Int) : (brC vp p sl N Ln)[1]? = some (pt p 0) := id rfl
theorem brC_2 (sl : Value) (N Ln : List Int) : (brC vp p sl N Ln)[2]? = some sl := id rfl
attribute [push_cast] brC_0 brC_1 brC_2
theorem brC_n {sl : Value} {N Ln : List Int} {k : Nat} (hN : N.length = 9) (hk : k < 9) : (brC vp p sl N Ln)[k + 3]? = some (i64 (N.getD k 0)) := by
  show (N.map i64 ++ Ln.map i64)[k]? = _
  rw [List.getElem?_append_left (by rw [List.length_map]; omega), List.getElem?_map, List.getElem?_eq_getElem (by omega), List.getD_eq_getElem?_getD, List.getElem?_eq_getElem (by omega)]
  rfl
theorem brC_l {sl : Value} {N Ln : List Int} {k : Nat} (hN : N.length = 9) (hL : Ln.length = 3) (hk : k < 3) : (brC vp p sl N Ln)[k + 12]? = some (i64 (Ln.getD k 0)) := by
  show (N.map i64 ++ Ln.map i64)[k + 9]? = _
  rw [List.getElem?_append_right (by rw [List.length_map]; omega), List.length_map, hN, Nat.add_sub_cancel, List.getElem?_map, List.getElem?_eq_getElem (by omega), List.getD_eq_getElem?_getD, List.getElem?_eq_getElem (by omega)]
  rfl
theorem splice_one {l : List Value} {i : Nat} (h : i < l.length) (v : Value) : splice l i [v] = l.set i v := by
  refine List.ext_getElem? fun j => ?_
  rw [splice_get (by simp; omega), List.getElem?_set]
  by_cases h1 : j < i
  · rw [if_pos h1, if_neg (by omega)]
  · rw [if_neg h1]
    by_cases h2 : i = j
    · subst h2
      rw [if_pos (by simp), if_pos rfl, if_pos h]
      simp
    · rw [if_neg (by simp; omega), if_neg h2]
theorem brC_setn {sl : Value} {N Ln : List Int} {k : Nat} (hN : N.length = 9) (hL : Ln.length = 3) (hk : k < 9) (v : Int) : splice (brC vp p sl N Ln) (k + 3) [i64 v] = brC vp p sl (N.set k v) Ln := by
  rw [splice_one (by simp [brC]; omega)]
  show pt vp 0 :: pt p 0 :: sl :: (N.map i64 ++ Ln.map i64).set k (i64 v) = _
  rw [List.set_append_left _ _ (by rw [List.length_map]; omega), ← List.map_set]
  rfl
theorem brC_setl {sl : Value} {N Ln : List Int} {k : Nat} (hN : N.length = 9) (hL : Ln.length = 3) (hk : k < 3) (v : Int) : splice (brC vp p sl N Ln) (k + 12) [i64 v] = brC vp p sl N (Ln.set k v) := by
  rw [splice_one (by simp [brC]; omega)]
  show pt vp 0 :: pt p 0 :: sl :: (N.map i64 ++ Ln.map i64).set (k + 9) (i64 v) = _
  rw [List.set_append_right _ _ (by rw [List.length_map]; omega), List.length_map, hN, Nat.add_sub_cancel, ← List.map_set]
  rfl

theorem vlans_spec (h : BR N0 w bp vp vm vnb p pb o c sb so sc room ps fs) (hk : K (pt vp 0) w) : CallsR Tryz.prog 47 #[pt bp 0] K w := by
  apply c47
  unfold p47
  simp only [push_cast, Nat.reduceAdd, Nat.reduceLeDiff, Nat.reduceLT, Int.reduceToNat, Nat.left_eq_add, Nat.add_eq_left, Nat.add_left_cancel_iff, Nat.reduceEqDiff, Nat.add_assoc, Nat.succ_ne_zero, h.blk]
  exact hk
theorem has_spec {port : Int} (h : BR N0 w bp vp vm vnb p pb o c sb so sc room ps fs) (hk : K (.bool (hasB fs.S port)) w) : CallsR Tryz.prog 42 #[pt bp 0, i64 port] K w := by
  apply c42
  unfold p42
  unfold hasB at hk
  simp only [push_cast, Nat.reduceAdd, Nat.reduceLeDiff, Nat.reduceLT, Int.reduceToNat, Nat.left_eq_add, Nat.add_eq_left, Nat.add_left_cancel_iff, Nat.reduceEqDiff, Nat.add_assoc, Nat.succ_ne_zero]
  refine br_dec (fun h1 => ?_) fun h1 => ?_
  · rw [decide_eq_true (show 1 ≤ port from h1), Bool.true_and] at hk
    simp only [push_cast, Nat.reduceAdd, Nat.reduceLeDiff, Nat.reduceLT, Int.reduceToNat, Nat.left_eq_add, Nat.add_eq_left, Nat.add_left_cancel_iff, Nat.reduceEqDiff, Nat.add_assoc, Nat.succ_ne_zero, h.blk]
    exact hk
  · rw [decide_eq_false (show ¬ 1 ≤ port from h1), Bool.false_and] at hk
    exact hk

/-- a state is read -/
theorem st_get {i : Int} {R : Value → World → Prop} (h : BR N0 w bp vp vm vnb p pb o c sb so sc room ps fs) (h0 : 0 ≤ i) (hi : i.toNat < fs.S.length) (hk : R (i64 (fs.S.getD i.toNat 0)) w) :
    opS Tryz.prog (S.ia 22 (.slice (some ⟨sb, so, none⟩) fs.S.length sc) (i64 i)) (fun x => opS Tryz.prog (S.ld 3 x) R) w := by
  refine s_iaE h.s.rd h0 (by rw [List.length_map]; exact hi) fun b o _ _ he => ?_
  rw [s_ld1, he.cell0 (by simp [cellI])]
  simp only [List.getElem_map, cellI]
  rw [List.getD_eq_getElem?_getD, List.getElem?_eq_getElem hi] at hk
  exact hk

theorem hasB_iff {S : List Int} {port : Int} : hasB S port = true ↔ 1 ≤ port ∧ port < S.length := by unfold hasB; simp

theorem set_spec {port st : Int} (h : BR N0 w bp vp vm vnb p pb o c sb so sc room ps fs) (hk : ∀ w', BR N0 w' bp vp vm vnb p pb o c sb so sc room ps { fs with S := (setL' fs.S port st).1 } → Fr (fun b => b = sb) w w' → K (i64 (setL' fs.S port st).2) w') :
    CallsR Tryz.prog 52 #[pt bp 0, i64 port, i64 st] K w := by
  apply c52
  unfold p52
  unfold setL' at hk
  simp only [push_cast, Nat.reduceAdd, Nat.reduceLeDiff, Nat.reduceLT, Int.reduceToNat, Nat.left_eq_add, Nat.add_eq_left, Nat.add_left_cancel_iff, Nat.reduceEqDiff, Nat.add_assoc, Nat.succ_ne_zero]
  refine has_spec h ?_
  simp only [push_cast, Nat.reduceAdd, Nat.reduceLeDiff, Nat.reduceLT, Int.reduceToNat, Nat.left_eq_add, Nat.add_eq_left, Nat.add_left_cancel_iff, Nat.reduceEqDiff, Nat.add_assoc, Nat.succ_ne_zero]
  cases hh : hasB fs.S port with
  | false =>
    rw [hh, Bool.false_and] at hk
    simp only [push_cast, Nat.reduceAdd, Nat.reduceLeDiff, Nat.reduceLT, Int.reduceToNat, Nat.left_eq_add, Nat.add_eq_left, Nat.add_left_cancel_iff, Nat.reduceEqDiff, Nat.add_assoc, Nat.succ_ne_zero, Bool.not_false]
    exact hk _ h (Fr.refl _ _)
  | true =>
  rw [hh, Bool.true_and] at hk
  obtain ⟨hp1, hp2⟩ := hasB_iff.1 hh
  simp only [push_cast, Nat.reduceAdd, Nat.reduceLeDiff, Nat.reduceLT, Int.reduceToNat, Nat.left_eq_add, Nat.add_eq_left, Nat.add_left_cancel_iff, Nat.reduceEqDiff, Nat.add_assoc, Nat.succ_ne_zero, Bool.not_true]
  refine br_dec (fun h1 => ?_) fun h1 => ?_
  · rw [decide_eq_false (by omega), Bool.false_and] at hk
    exact hk _ h (Fr.refl _ _)
  refine br_dec (fun h2 => ?_) fun h2 => ?_
  · rw [decide_eq_true (by omega), decide_eq_false (by omega), Bool.true_and] at hk
    exact hk _ h (Fr.refl _ _)
  rw [decide_eq_true (show 0 ≤ st by omega), decide_eq_true (show st ≤ 2 by omega), Bool.true_and, if_pos rfl] at hk
  simp only [push_cast, Nat.reduceAdd, Nat.reduceLeDiff, Nat.reduceLT, Int.reduceToNat, Nat.left_eq_add, Nat.add_eq_left, Nat.add_left_cancel_iff, Nat.reduceEqDiff, Nat.add_assoc, Nat.succ_ne_zero, h.blk]
  have hml : (fs.S.map cellI).length = fs.S.length := List.length_map _
  have ho := h.s
  rw [← hml] at ho ⊢
  refine s_iaE ho.rd (by omega) (by rw [hml]; omega) fun b' o' c' hv _ => ?_
  simp only [Value.slice.injEq, Option.some.injEq, Addr.mk.injEq] at hv
  obtain ⟨⟨rfl, rfl, _⟩, _, rfl⟩ := hv
  obtain ⟨hok, hput⟩ := ho.put (e := [i64 st]) rfl (show port.toNat < _ by rw [hml]; omega)
  simp only [push_cast, Nat.reduceAdd, Nat.reduceLeDiff, Nat.reduceLT, Int.reduceToNat, Nat.left_eq_add, Nat.add_eq_left, Nat.add_left_cancel_iff, Nat.reduceEqDiff, Nat.add_assoc, Nat.succ_ne_zero, hok]
  refine hk _ (h.st (Fr.step_wr (fp := fun b => b = sb) (Fr.refl _ _) (.inl rfl) _ _) (List.length_set ..) ?_) (Fr.step_wr (fp := fun b => b = sb) (Fr.refl _ _) (.inl rfl) _ _)
  rw [List.map_set, ← hml]
  exact hput

theorem state_spec {port : Int} (h : BR N0 w bp vp vm vnb p pb o c sb so sc room ps fs) (hk : K (i64 (stateL fs.S port)) w) : CallsR Tryz.prog 15 #[pt bp 0, i64 port] K w := by
  apply c15
  unfold p15
  unfold stateL at hk
  simp only [push_cast, Nat.reduceAdd, Nat.reduceLeDiff, Nat.reduceLT, Int.reduceToNat, Nat.left_eq_add, Nat.add_eq_left, Nat.add_left_cancel_iff, Nat.reduceEqDiff, Nat.add_assoc, Nat.succ_ne_zero]
  refine has_spec h ?_
  simp only [push_cast, Nat.reduceAdd, Nat.reduceLeDiff, Nat.reduceLT, Int.reduceToNat, Nat.left_eq_add, Nat.add_eq_left, Nat.add_left_cancel_iff, Nat.reduceEqDiff, Nat.add_assoc, Nat.succ_ne_zero]
  cases hh : hasB fs.S port with
  | false =>
    rw [hh] at hk
    simp only [push_cast, Nat.reduceAdd, Nat.reduceLeDiff, Nat.reduceLT, Int.reduceToNat, Nat.left_eq_add, Nat.add_eq_left, Nat.add_left_cancel_iff, Nat.reduceEqDiff, Nat.add_assoc, Nat.succ_ne_zero, Bool.not_false]
    exact hk
  | true =>
    rw [hh, if_pos rfl] at hk
    obtain ⟨hp1, hp2⟩ := hasB_iff.1 hh
    simp only [push_cast, Nat.reduceAdd, Nat.reduceLeDiff, Nat.reduceLT, Int.reduceToNat, Nat.left_eq_add, Nat.add_eq_left, Nat.add_left_cancel_iff, Nat.reduceEqDiff, Nat.add_assoc, Nat.succ_ne_zero, Bool.not_true, h.blk]
    exact st_get h (by omega) (by omega) hk

end
end Go.Gx.S
end

section
/- A bridge: what it learns, and refuses. -/
set_option linter.unusedVariables false
set_option linter.unusedSimpArgs false
set_option maxRecDepth 100000
namespace Go.Gx.S
open Go Go.Gx Go.Proofs
variable {K : Value → World → Prop} {w : World}

theorem andn15 : ∀ a : Fin 256, (BitVec.ofNat 8 a.val &&& ~~~ (BitVec.ofNat 8 15)).toNat = a.val / 16 * 16 := by decide +kernel
theorem s_andn15 {x : Int} (h : isB x) : opS Tryz.prog (S.binI .andNot (.int .u8 x) (.int .u8 15)) K w = K (.int .u8 (x / 16 * 16)) w := by
  unfold isB at h
  obtain ⟨a, rfl⟩ := Int.eq_ofNat_of_zero_le (show 0 ≤ x by omega)
  unfold S.binI
  simp only []
  have e : (BitVec.ofInt 8 (a : Int) &&& ~~~ BitVec.ofInt 8 15).toNat = a / 16 * 16 := by
    rw [ofInt_nat (by omega), ofInt_nat (by omega)]
    exact andn15 ⟨a, by omega⟩
  have : (binOp .andNot 0 (.int .u8 (a : Int)) (.int .u8 15)).run Tryz.prog w = .ok (.int .u8 ((a : Int) / 16 * 16)) w := by
    show (Op.intBits .andNot .u8 (a : Int) 15).run Tryz.prog w = _
    unfold Op.intBits
    show Result.ok (Value.int .u8 (IntKind.u8.wrap ((BitVec.ofInt 8 (a : Int) &&& ~~~ BitVec.ofInt 8 15).toNat : Int))) w = _
    rw [e, wrap_u8]
    congr 2
    omega
  rw [opS_bind, this]

theorem preserved_spec {m : Mac} (hm : m.ok) (h : ∀ w', Fr none_ w w' → K (.bool (reservedM m)) w') : CallsR Tryz.prog 211 #[.agg m.cells.toArray] K w := by
  apply c211
  unfold p211
  simp only [push_cast, Nat.reduceAdd, Nat.reduceLeDiff, Nat.reduceLT, Int.reduceToNat, Nat.left_eq_add, Nat.add_eq_left, Nat.add_left_cancel_iff, Nat.reduceEqDiff, Nat.add_assoc, Nat.succ_ne_zero]
  have h0 : (w.alloc (cellsO m.cells 53)).heap[w.heap.size]? = some (cellsO m.cells 53) := by simp only [push_cast, Nat.reduceAdd, Nat.reduceLeDiff, Nat.reduceLT, Int.reduceToNat, Nat.left_eq_add, Nat.add_eq_left, Nat.add_left_cancel_iff, Nat.reduceEqDiff, Nat.add_assoc, Nat.succ_ne_zero]
  have hF : Fr none_ w (w.alloc (cellsO m.cells 53)) := (by repeat' first | with_reducible exact Fr.refl _ _ | with_reducible refine Fr.step_alloc ?_ ?_ | with_reducible refine Fr.step_drew ?_ | with_reducible refine Fr.step_wr ?_ ?_ _ _ | exact rfl | exact Or.inr (by omega) | exact Or.inl rfl | exact Or.inl (Or.inl rfl) | exact Or.inl (Or.inr rfl))
  generalize w.alloc (cellsO m.cells 53) = W at *
  rw [opS_iaA w.heap.size 0 .i64 5 (by decide)]
  simp only [push_cast, Nat.reduceAdd, Nat.reduceLeDiff, Nat.reduceLT, Int.reduceToNat, Nat.left_eq_add, Nat.add_eq_left, Nat.add_left_cancel_iff, Nat.reduceEqDiff, Nat.add_assoc, Nat.succ_ne_zero, h0]
  have e5 : m.cells[5]? = some (u8 m.b5) := rfl
  simp only [e5, push_cast, Nat.reduceAdd, Nat.reduceLeDiff, Nat.reduceLT, Int.reduceToNat, Nat.left_eq_add, Nat.add_eq_left, Nat.add_left_cancel_iff, Nat.reduceEqDiff, Nat.add_assoc, Nat.succ_ne_zero]
  obtain ⟨a0, a1, a2, a3, a4, a5⟩ := hm
  rw [s_andn15 a5, opS_iaA w.heap.size 0 .i64 5 (by decide)]
  have e6 : splice m.cells 5 [Value.int .u8 (m.b5 / 16 * 16)] = Mac.cells ⟨m.b0, m.b1, m.b2, m.b3, m.b4, m.b5 / 16 * 16⟩ := rfl
  have e7 : m.cells.length = 6 := rfl
  have e8 : ∀ m : Mac, (m.cells.drop 0).take 6 = m.cells := fun m => rfl
  have e9 : ∀ m : Mac, m.cells.length = 6 := fun m => rfl
  simp only [push_cast, Nat.reduceAdd, Nat.reduceLeDiff, Nat.reduceLT, Int.reduceToNat, Nat.left_eq_add, Nat.add_eq_left, Nat.add_left_cancel_iff, Nat.reduceEqDiff, Nat.add_assoc, Nat.succ_ne_zero, h0, e6, e9, e8]
  have eb : opS Tryz.prog (S.build 53 [(0, .int .u8 1), (1, .int .u8 128), (2, .int .u8 194)]) = fun (K : Value → World → Prop) w => K (.agg (Mac.cells ⟨1, 128, 194, 0, 0, 0⟩).toArray) w := by
    funext K w
    rw [opS_build _ rfl]; rfl
  rw [eb]
  unfold isB at a5
  refine s_eqG (MacT.enc (P := Tryz.prog) (T := 53) (d := 6) (m := ⟨m.b0, m.b1, m.b2, m.b3, m.b4, m.b5 / 16 * 16⟩) ⟨a0, a1, a2, a3, a4, show isB (m.b5 / 16 * 16) by unfold isB; omega⟩) (MacT.enc (P := Tryz.prog) (T := 53) (d := 6) (m := ⟨1, 128, 194, 0, 0, 0⟩) (by simp [Mac.ok, isB])) fun q hq => ?_
  rw [Mac.lits_inj] at hq
  have : q = reservedM m := by
    unfold reservedM
    cases q with
    | false =>
      refine (decide_eq_false fun ⟨h0, h1, h2, h3, h4, h5⟩ => ?_).symm
      have := hq.2 (Mac.ext h0 h1 h2 h3 h4 (by show m.b5 / 16 * 16 = 0; omega))
      cases this
    | true =>
      have := hq.1 rfl
      simp only [Mac.mk.injEq] at this
      exact (decide_eq_true ⟨this.1, this.2.1, this.2.2.1, this.2.2.2.1, this.2.2.2.2.1, by omega⟩).symm
  rw [this]
  exact h _ (hF.step_wr (.inr (Nat.le_refl _)) _ _)

section
variable {N0 bp vp vm vnb p pb o c sb so sc room : Nat} {ps : List Ent} {fs : FS}

theorem cnt_l {k : Nat} {x : Int} {R : Value → World → Prop} (hx : x = k) (hk : k < 3) (h : BR N0 w bp vp vm vnb p pb o c sb so sc room ps fs) (hK : ∀ w', BR N0 w' bp vp vm vnb p pb o c sb so sc room ps { fs with Ln := incr fs.Ln k } → Fr (fun b => b = bp) w w' → R undef w') :
    opS Tryz.prog (S.nc (pt bp 0)) (fun x14 => opS Tryz.prog (S.fa 116 x14 4) fun x15 => opS Tryz.prog (S.ia 43 x15 (.int .i64 x)) fun x16 => opS Tryz.prog (S.ld 3 x16) fun x17 => opS Tryz.prog (S.binI .add x17 (.int .i64 1)) fun x18 =>
      opS Tryz.prog (S.nc (pt bp 0)) fun x19 => opS Tryz.prog (S.fa 116 x19 4) fun x20 => opS Tryz.prog (S.ia 43 x20 (.int .i64 x)) fun x21 => opS Tryz.prog (S.st 3 x21 x18) R) w := by
  subst hx
  have hia : ∀ (R : Value → World → Prop) w, opS Tryz.prog (S.ia 43 (pt bp 12) (.int .i64 (k : Nat))) R w = R (pt bp (k + 12)) w := fun R w => by
    rw [opS_iaA bp 12 .i64 (k : Int) (by omega)]
    rw [Int.toNat_natCast, Nat.mul_one, Nat.add_comm]
  have hg := brC_l (vp := vp) (p := p) (sl := .slice (some ⟨sb, so, none⟩) fs.S.length sc) h.nl h.ll hk
  have hs := brC_setl (vp := vp) (p := p) (sl := .slice (some ⟨sb, so, none⟩) fs.S.length sc) h.nl h.ll hk (IntKind.i64.wrap (fs.Ln.getD k 0 + 1))
  have hl := h.len
  simp only [push_cast, Nat.reduceAdd, Nat.reduceLeDiff, Nat.reduceLT, Int.reduceToNat, Nat.left_eq_add, Nat.add_eq_left, Nat.add_left_cancel_iff, Nat.reduceEqDiff, Nat.add_assoc, Nat.succ_ne_zero, h.blk, hia, hg]
  rw [hl, decide_eq_true (show k + (12 + 1) ≤ 15 by omega)]
  simp only [push_cast, Nat.reduceAdd, Nat.reduceLeDiff, Nat.reduceLT, Int.reduceToNat, Nat.left_eq_add, Nat.add_eq_left, Nat.add_left_cancel_iff, Nat.reduceEqDiff, Nat.add_assoc, Nat.succ_ne_zero]
  refine hK _ (h.own (N' := fs.N) (Ln' := incr fs.Ln k) (Fr.step_wr (fp := fun b => b = bp) (Fr.refl _ _) (.inl rfl) _ _) ?_ h.nl (by unfold incr; rw [List.length_set]; exact h.ll)) (Fr.step_wr (fp := fun b => b = bp) (Fr.refl _ _) (.inl rfl) _ _)
  simp only [push_cast, Nat.reduceAdd, Nat.reduceLeDiff, Nat.reduceLT, Int.reduceToNat, Nat.left_eq_add, Nat.add_eq_left, Nat.add_left_cancel_iff, Nat.reduceEqDiff, Nat.add_assoc, Nat.succ_ne_zero, h.blk, hs]
  rfl

theorem cnt_n {k : Nat} {x : Int} {R : Value → World → Prop} (hx : x = k) (hk : k < 9) (h : BR N0 w bp vp vm vnb p pb o c sb so sc room ps fs) (hK : ∀ w', BR N0 w' bp vp vm vnb p pb o c sb so sc room ps { fs with N := incr fs.N k } → Fr (fun b => b = bp) w w' → R undef w') :
    opS Tryz.prog (S.nc (pt bp 0)) (fun x14 => opS Tryz.prog (S.fa 116 x14 3) fun x15 => opS Tryz.prog (S.ia 114 x15 (.int .i64 x)) fun x16 => opS Tryz.prog (S.ld 3 x16) fun x17 => opS Tryz.prog (S.binI .add x17 (.int .i64 1)) fun x18 =>
      opS Tryz.prog (S.nc (pt bp 0)) fun x19 => opS Tryz.prog (S.fa 116 x19 3) fun x20 => opS Tryz.prog (S.ia 114 x20 (.int .i64 x)) fun x21 => opS Tryz.prog (S.st 3 x21 x18) R) w := by
  subst hx
  have hia : ∀ (R : Value → World → Prop) w, opS Tryz.prog (S.ia 114 (pt bp 3) (.int .i64 (k : Nat))) R w = R (pt bp (k + 3)) w := fun R w => by
    rw [opS_iaA bp 3 .i64 (k : Int) (by omega)]
    rw [Int.toNat_natCast, Nat.mul_one, Nat.add_comm]
  have hg := brC_n (vp := vp) (p := p) (sl := .slice (some ⟨sb, so, none⟩) fs.S.length sc) (Ln := fs.Ln) h.nl hk
  have hs := brC_setn (vp := vp) (p := p) (sl := .slice (some ⟨sb, so, none⟩) fs.S.length sc) h.nl h.ll hk (IntKind.i64.wrap (fs.N.getD k 0 + 1))
  have hl := h.len
  simp only [push_cast, Nat.reduceAdd, Nat.reduceLeDiff, Nat.reduceLT, Int.reduceToNat, Nat.left_eq_add, Nat.add_eq_left, Nat.add_left_cancel_iff, Nat.reduceEqDiff, Nat.add_assoc, Nat.succ_ne_zero, h.blk, hia, hg]
  rw [hl, decide_eq_true (show k + (3 + 1) ≤ 15 by omega)]
  simp only [push_cast, Nat.reduceAdd, Nat.reduceLeDiff, Nat.reduceLT, Int.reduceToNat, Nat.left_eq_add, Nat.add_eq_left, Nat.add_left_cancel_iff, Nat.reduceEqDiff, Nat.add_assoc, Nat.succ_ne_zero]
  refine hK _ (h.own (N' := incr fs.N k) (Ln' := fs.Ln) (Fr.step_wr (fp := fun b => b = bp) (Fr.refl _ _) (.inl rfl) _ _) ?_ (by unfold incr; rw [List.length_set]; exact h.nl) h.ll) (Fr.step_wr (fp := fun b => b = bp) (Fr.refl _ _) (.inl rfl) _ _)
  simp only [push_cast, Nat.reduceAdd, Nat.reduceLeDiff, Nat.reduceLT, Int.reduceToNat, Nat.left_eq_add, Nat.add_eq_left, Nat.add_left_cancel_iff, Nat.reduceEqDiff, Nat.add_assoc, Nat.succ_ne_zero, h.blk, hs]
  rfl

def lfp (bp p pb : Nat) : Nat → Prop := fun b => b = bp ∨ b = p ∨ b = pb

theorem blearn_spec {v port now : Int} {m : Mac} (h : BR N0 w bp vp vm vnb p pb o c sb so sc room ps fs) (hv : isI v) (hm : m.ok) (hp : isI port) (ht : isI now)
    (hk : ∀ w' ps', BR N0 w' bp vp vm vnb p pb o c sb so sc room ps' (learnF room fs v m port now) → Fr (lfp bp p pb) w w' → K (.tuple #[]) w') :
    CallsR Tryz.prog 156 #[pt bp 0, i64 v, .agg m.cells.toArray, i64 port, i64 now] K w := by
  apply c156
  unfold p156
  have hF : Fr none_ w (w.alloc (cellsO m.cells 53)) := (by repeat' first | with_reducible exact Fr.refl _ _ | with_reducible refine Fr.step_alloc ?_ ?_ | with_reducible refine Fr.step_drew ?_ | with_reducible refine Fr.step_wr ?_ ?_ _ _ | exact rfl | exact Or.inr (by omega) | exact Or.inl rfl | exact Or.inl (Or.inl rfl) | exact Or.inl (Or.inr rfl))
  have hm0 : (w.alloc (cellsO m.cells 53)).heap[w.heap.size]? = some (cellsO m.cells 53) := by simp only [push_cast, Nat.reduceAdd, Nat.reduceLeDiff, Nat.reduceLT, Int.reduceToNat, Nat.left_eq_add, Nat.add_eq_left, Nat.add_left_cancel_iff, Nat.reduceEqDiff, Nat.add_assoc, Nat.succ_ne_zero]
  simp only [opS_box, cells_agg, alloc_cellsO]
  replace h := h.fr0 hF
  generalize w.alloc (cellsO m.cells 53) = W at *
  simp only [push_cast, Nat.reduceAdd, Nat.reduceLeDiff, Nat.reduceLT, Int.reduceToNat, Nat.left_eq_add, Nat.add_eq_left, Nat.add_left_cancel_iff, Nat.reduceEqDiff, Nat.add_assoc, Nat.succ_ne_zero, h.blk, hm0]
  have hFd : Fr none_ w W.drew := hF.step_drew
  replace h := h.fr0 (Fr.drew W)
  generalize W.drew = W2 at *
  refine learn_spec h.f hv hm hp ht fun w2 ps2 ht2 hF2 => ?_
  have h2 := h.tab hF2 ht2
  have hF02 : Fr (lfp bp p pb) w w2 := (hFd.mono fun _ _ e => e.elim).trans_new hF2 fun b _ e => .inr e
  unfold learnF at hk
  have done : ∀ {w' : World} {Ln' : List Int}, BR N0 w' bp vp vm vnb p pb o c sb so sc room ps2 { fs with r := (learnL room fs.r v m port now).1, Ln := Ln' } → Fr (fun b => b = bp) w2 w' → Fr (lfp bp p pb) w w' := fun _ hF => hF02.trans_new hF fun b _ e => .inl e
  simp only [push_cast, Nat.reduceAdd, Nat.reduceLeDiff, Nat.reduceLT, Int.reduceToNat, Nat.left_eq_add, Nat.add_eq_left, Nat.add_left_cancel_iff, Nat.reduceEqDiff, Nat.add_assoc, Nat.succ_ne_zero]
  refine br_intro (fun he => ?_) fun he => ?_
  · have he : (learnL room fs.r v m port now).2.2 ≠ 0 := by simpa using he
    rw [if_pos he] at hk
    refine cnt_l (k := 2) rfl (by decide) (h2.fr0 (Fr.drew w2)) fun w3 h3 hF3 => ?_
    exact hk _ ps2 h3 (hF02.step_drew.trans_new hF3 fun b _ e => .inl e)
  have he : (learnL room fs.r v m port now).2.2 = 0 := by simpa using he
  rw [if_neg (fun e => e he)] at hk
  refine br_intro (fun h1 => ?_) fun h1 => ?_
  · have h1 : (learnL room fs.r v m port now).2.1 = 1 := by simpa using h1
    rw [if_pos h1] at hk
    refine cnt_l (k := 0) rfl (by decide) (h2.fr0 (Fr.drew w2)) fun w3 h3 hF3 => ?_
    exact hk _ ps2 h3 (hF02.step_drew.trans_new hF3 fun b _ e => .inl e)
  have h1 : (learnL room fs.r v m port now).2.1 ≠ 1 := by simpa using h1
  rw [if_neg h1] at hk
  refine br_intro (fun h3 => ?_) fun h3 => ?_
  · have h3 : (learnL room fs.r v m port now).2.1 = 2 := by simpa using h3
    rw [if_pos h3] at hk
    refine cnt_l (k := 1) rfl (by decide) (h2.fr0 (Fr.drew w2)) fun w3 h3 hF3 => ?_
    exact hk _ ps2 h3 (hF02.step_drew.trans_new hF3 fun b _ e => .inl e)
  · have h3 : (learnL room fs.r v m port now).2.1 ≠ 2 := by simpa using h3
    rw [if_neg h3] at hk
    exact hk _ ps2 h2 hF02

theorem refused_spec {port now : Int} {f : Frm} {bs : List Int} (h : BR N0 w bp vp vm vnb p pb o c sb so sc room ps fs) (hf : FrmR w f bs)
    (hk : ∀ w', Fr none_ w w' → K (.tuple #[i64 (refusedL fs port f bs.length now).1, i64 (refusedL fs port f bs.length now).2]) w') :
    CallsR Tryz.prog 155 #[pt bp 0, i64 port, .agg f.cells.toArray, i64 now] K w := by
  apply c155
  unfold p155
  obtain ⟨ba, bc, hbd⟩ := hf.2.form
  have hF : Fr none_ w (w.alloc (cellsO f.cells 61)) := (by repeat' first | with_reducible exact Fr.refl _ _ | with_reducible refine Fr.step_alloc ?_ ?_ | with_reducible refine Fr.step_drew ?_ | with_reducible refine Fr.step_wr ?_ ?_ _ _ | exact rfl | exact Or.inr (by omega) | exact Or.inl rfl | exact Or.inl (Or.inl rfl) | exact Or.inl (Or.inr rfl))
  have hx0 : (w.alloc (cellsO f.cells 61)).heap[w.heap.size]? = some (cellsO f.cells 61) := by simp only [push_cast, Nat.reduceAdd, Nat.reduceLeDiff, Nat.reduceLT, Int.reduceToNat, Nat.left_eq_add, Nat.add_eq_left, Nat.add_left_cancel_iff, Nat.reduceEqDiff, Nat.add_assoc, Nat.succ_ne_zero]
  simp only [opS_box, cells_agg, alloc_cellsO]
  replace h := h.fr0 hF
  replace hf := hf.fr0 hF
  generalize w.alloc (cellsO f.cells 61) = W at *
  generalize w.heap.size = fb at *
  unfold refusedL at hk
  simp only [push_cast, Nat.reduceAdd, Nat.reduceLeDiff, Nat.reduceLT, Int.reduceToNat, Nat.left_eq_add, Nat.add_eq_left, Nat.add_left_cancel_iff, Nat.reduceEqDiff, Nat.add_assoc, Nat.succ_ne_zero]
  refine has_spec h ?_
  simp only [push_cast, Nat.reduceAdd, Nat.reduceLeDiff, Nat.reduceLT, Int.reduceToNat, Nat.left_eq_add, Nat.add_eq_left, Nat.add_left_cancel_iff, Nat.reduceEqDiff, Nat.add_assoc, Nat.succ_ne_zero]
  cases hh : hasB fs.S port with
  | false =>
    rw [hh] at hk
    simp only [push_cast, Nat.reduceAdd, Nat.reduceLeDiff, Nat.reduceLT, Int.reduceToNat, Nat.left_eq_add, Nat.add_eq_left, Nat.add_left_cancel_iff, Nat.reduceEqDiff, Nat.add_assoc, Nat.succ_ne_zero, Bool.not_false]
    exact hk _ hF
  | true =>
  rw [hh] at hk
  obtain ⟨hp1, hp2⟩ := hasB_iff.1 hh
  simp only [push_cast, Nat.reduceAdd, Nat.reduceLeDiff, Nat.reduceLT, Int.reduceToNat, Nat.left_eq_add, Nat.add_eq_left, Nat.add_left_cancel_iff, Nat.reduceEqDiff, Nat.add_assoc, Nat.succ_ne_zero, Bool.not_true, hx0]
  refine Vl.right_spec hbd fun w2 hF2 => ?_
  replace h := h.fr0 hF2
  replace hf := hf.fr0 hF2
  replace hx0 := hF2.heap hx0 fun h => h
  replace hF := hF.trans hF2
  simp only [push_cast, Nat.reduceAdd, Nat.reduceLeDiff, Nat.reduceLT, Int.reduceToNat, Nat.left_eq_add, Nat.add_eq_left, Nat.add_left_cancel_iff, Nat.reduceEqDiff, Nat.add_assoc, Nat.succ_ne_zero]
  cases hr : f.right bs.length with
  | false =>
    rw [hr] at hk
    simp only [push_cast, Nat.reduceAdd, Nat.reduceLeDiff, Nat.reduceLT, Int.reduceToNat, Nat.left_eq_add, Nat.add_eq_left, Nat.add_left_cancel_iff, Nat.reduceEqDiff, Nat.add_assoc, Nat.succ_ne_zero, Bool.not_false]
    exact hk _ hF
  | true =>
  rw [hr] at hk
  simp only [push_cast, Nat.reduceAdd, Nat.reduceLeDiff, Nat.reduceLT, Int.reduceToNat, Nat.left_eq_add, Nat.add_eq_left, Nat.add_left_cancel_iff, Nat.reduceEqDiff, Nat.add_assoc, Nat.succ_ne_zero, Bool.not_true]
  refine br_dec (fun h1 => ?_) fun h1 => ?_
  · rw [timedB_no (t := now) (by omega)] at hk
    exact hk _ hF
  refine br_dec (fun h2 => ?_) fun h2 => ?_
  · rw [timedB_no (t := now) (by omega)] at hk
    exact hk _ hF
  rw [timedB_iff.2 ⟨by omega, by omega⟩] at hk
  rw [if_neg (by decide)] at hk
  simp only [push_cast, Nat.reduceAdd, Nat.reduceLeDiff, Nat.reduceLT, Int.reduceToNat, Nat.left_eq_add, Nat.add_eq_left, Nat.add_left_cancel_iff, Nat.reduceEqDiff, Nat.add_assoc, Nat.succ_ne_zero, hx0]
  refine preserved_spec hf.1.1 fun w3 hF3 => ?_
  replace h := h.fr0 hF3
  replace hf := hf.fr0 hF3
  replace hx0 := hF3.heap hx0 fun h => h
  replace hF := hF.trans hF3
  simp only [push_cast, Nat.reduceAdd, Nat.reduceLeDiff, Nat.reduceLT, Int.reduceToNat, Nat.left_eq_add, Nat.add_eq_left, Nat.add_left_cancel_iff, Nat.reduceEqDiff, Nat.add_assoc, Nat.succ_ne_zero]
  refine br_intro (fun hrs => ?_) fun hrs => ?_
  · rw [if_pos hrs] at hk
    exact hk _ hF
  rw [if_neg (by rw [hrs]; simp)] at hk
  simp only [push_cast, Nat.reduceAdd, Nat.reduceLeDiff, Nat.reduceLT, Int.reduceToNat, Nat.left_eq_add, Nat.add_eq_left, Nat.add_left_cancel_iff, Nat.reduceEqDiff, Nat.add_assoc, Nat.succ_ne_zero, h.blk]
  refine st_get h (by omega) (by omega) ?_
  simp only [push_cast, Nat.reduceAdd, Nat.reduceLeDiff, Nat.reduceLT, Int.reduceToNat, Nat.left_eq_add, Nat.add_eq_left, Nat.add_left_cancel_iff, Nat.reduceEqDiff, Nat.add_assoc, Nat.succ_ne_zero]
  refine br_intro (fun h0 => ?_) fun h0 => ?_
  · rw [if_pos (by simpa using h0)] at hk
    exact hk _ hF
  rw [if_neg (by simpa using h0)] at hk
  simp only [push_cast, Nat.reduceAdd, Nat.reduceLeDiff, Nat.reduceLT, Int.reduceToNat, Nat.left_eq_add, Nat.add_eq_left, Nat.add_left_cancel_iff, Nat.reduceEqDiff, Nat.add_assoc, Nat.succ_ne_zero, h.blk, hx0]
  have hFd := hF.step_drew
  replace h := h.fr0 (Fr.drew w3)
  replace hf := hf.fr0 (Fr.drew w3)
  replace hx0 := (Fr.drew (fp := none_) w3).heap hx0 fun h => h
  generalize w3.drew = w4 at *
  refine Vl.vin_spec h.v hf fun w5 hF5 => ?_
  replace hf := hf.fr0 hF5
  replace hx0 := hF5.heap hx0 fun h => h
  simp only [push_cast, Nat.reduceAdd, Nat.reduceLeDiff, Nat.reduceLT, Int.reduceToNat, Nat.left_eq_add, Nat.add_eq_left, Nat.add_left_cancel_iff, Nat.reduceEqDiff, Nat.add_assoc, Nat.succ_ne_zero]
  refine br_intro (fun he => ?_) fun he => ?_
  · rw [if_pos (by simpa using he)] at hk
    exact hk _ (hFd.trans hF5)
  rw [if_neg (by simpa using he)] at hk
  simp only [push_cast, Nat.reduceAdd, Nat.reduceLeDiff, Nat.reduceLT, Int.reduceToNat, Nat.left_eq_add, Nat.add_eq_left, Nat.add_left_cancel_iff, Nat.reduceEqDiff, Nat.add_assoc, Nat.succ_ne_zero, hx0]
  refine pgroup_spec hf.1.2.1 fun w6 hF6 => ?_
  simp only [push_cast, Nat.reduceAdd, Nat.reduceLeDiff, Nat.reduceLT, Int.reduceToNat, Nat.left_eq_add, Nat.add_eq_left, Nat.add_left_cancel_iff, Nat.reduceEqDiff, Nat.add_assoc, Nat.succ_ne_zero]
  refine br_intro (fun hg => ?_) fun hg => ?_
  · rw [if_pos hg] at hk
    exact hk _ ((hFd.trans hF5).trans hF6)
  · rw [if_neg (by rw [hg]; simp)] at hk
    exact hk _ ((hFd.trans hF5).trans hF6)

end
end Go.Gx.S
end

section
/- A bridge: to which ports frames go. -/
set_option linter.unusedVariables false
set_option linter.unusedSimpArgs false
set_option maxRecDepth 100000
namespace Go.Gx.S
open Go Go.Gx Go.Proofs
variable {K : Value → World → Prop} {w : World}

/-! ### Plain -/

def outAt (t : VT) (S : List Int) (v frm : Int) (f : Frm) (n : Nat) (i : Nat) : Option (Int × Frm) :=
  if (i : Int) = frm then none else if S.getD i 0 ≠ 2 then none else if (t.out v i f n).2 = 0 then some ((i : Int), (t.out v i f n).1) else none
def sendN (t : VT) (S : List Int) (v frm : Int) (f : Frm) (n : Nat) : Nat → List (Int × Frm)
  | 0 => []
  | k + 1 => sendN t S v frm f n k ++ (outAt t S v frm f n k).toList
def tgt (target : Int) (o : Int × Frm) : Bool := decide (target = 0 ∨ o.1 = target)
def relayL (t : VT) (S : List Int) (v frm target : Int) (f : Frm) (n : Nat) : List (Int × Frm) := (sendN t S v frm f n S.length).filter (tgt target)
def outC (o : Int × Frm) : List Value := i64 o.1 :: o.2.cells
theorem outC.len (o : Int × Frm) : (outC o).length = 18 := id rfl
theorem outC.g0 (o : Int × Frm) : (outC o)[0]? = some (i64 o.1) := id rfl
theorem outC.d1 (o : Int × Frm) : ((outC o).drop 1).take 17 = o.2.cells := id rfl
attribute [push_cast] outC.len outC.g0 outC.d1
theorem frm_len (f : Frm) : f.cells.length = 17 := id rfl
theorem frm_dw (f : Frm) : (f.cells.drop 0).take 17 = f.cells := id rfl

theorem sendN_len {t : VT} {S : List Int} {v frm : Int} {f : Frm} {n : Nat} : ∀ k, (sendN t S v frm f n k).length ≤ k
  | 0 => Nat.le_refl _
  | k + 1 => by
    have := sendN_len (t := t) (S := S) (v := v) (frm := frm) (f := f) (n := n) k
    unfold sendN
    rw [List.length_append]
    cases outAt t S v frm f n k <;> simp <;> omega

/-- a frame's cells but for its body are of one cell each; so is its body where it is a slice -/
theorem frm_one {f : Frm} (h : S.oneCell f.body = true) : f.cells.all S.oneCell = true := by
  simp only [Frm.cells, List.all_cons, List.all_nil, h]
  rfl
theorem out_one {t : VT} {v n : Int} {f : Frm} {m : Nat} (h : S.oneCell f.body = true) : (t.out v n f m).1.cells.all S.oneCell = true := by
  unfold VT.out
  split
  · split
    · rfl
    · exact frm_one h
    · exact frm_one h
  · rfl
theorem outC_one {o : Int × Frm} (h : o.2.cells.all S.oneCell = true) : (outC o).all S.oneCell = true := by
  unfold outC
  rw [List.all_cons, h]
  rfl

theorem zalloc_frm : opS Tryz.prog (S.alloc 61) K w = K (pt w.heap.size 0) (w.alloc (cellsO zFrm.cells 61)) := by
  rw [opS_alloc]; rfl
theorem build_out (i : Int) (f : Frm) : opS Tryz.prog (S.build 86 [(0, i64 i), (1, .agg f.cells.toArray)]) K w = K (.agg (outC (i, f)).toArray) w := by
  rw [opS_build _ rfl]; rfl
theorem out_slot {g : Int × Frm} (hg : g.2.cells.all S.oneCell = true) {R : Value → Value → World → Prop} (h : ∀ u w', w'.heap[w.heap.size]? = some (cellsO (outC g) 86) → Fr none_ w w' → R (pt w.heap.size 0) u w') :
    opS Tryz.prog (S.alloc 86) (fun x => opS Tryz.prog (S.st 86 x (.agg (outC g).toArray)) (R x)) w := by
  have hz : opS Tryz.prog (S.alloc 86) (fun x => opS Tryz.prog (S.st 86 x (.agg (outC g).toArray)) (R x)) w = opS Tryz.prog (S.st 86 (pt w.heap.size 0) (.agg (outC g).toArray)) (R (pt w.heap.size 0)) (w.alloc (cellsO (outC (0, zFrm)) 86)) := by
    rw [opS_alloc]; rfl
  rw [hz, s_stA _ _ (outC g) rfl (outC_one hg), heap_alloc_new, okAt_cells]
  have e : splice (outC (0, zFrm)) 0 (outC g) = outC g := rfl
  rw [show decide (0 + (outC g).length ≤ (outC (0, zFrm)).length) = true from rfl, onB_true]
  refine h _ _ ?_ (Fr.step_wr (Fr.step_alloc (Fr.refl _ _) rfl) (.inr (Nat.le_refl _)) _ _)
  rw [heap_wr, if_pos rfl, heap_alloc_new, putAt_cells, e]

section
variable {N0 bp vp vm vnb p pb o c sb so sc room : Nat} {ps : List Ent} {fs : FS}

/-! ### In any order -/

section
variable {w0 : World} {f : Frm} {bs : List Int} {b1 b3 b4 : Nat} {v : Int}
theorem so_ldB (h : BR N0 w0 bp vp vm vnb p pb o c sb so sc room ps fs) (hb : w0.heap[b1]? = some (cellsO [pt bp 0] 46)) (hF : Fr none_ w0 w) {R : Value → World → Prop} (hk : R (pt bp 0) w) :
    opS Tryz.prog (S.ld 46 (pt b1 0)) (fun x => opS Tryz.prog (S.nc x) fun y => opS Tryz.prog (S.fa 116 y 0) R) w := by
  have := hF.heap hb fun h => h
  simp only [push_cast, Nat.reduceAdd, Nat.reduceLeDiff, Nat.reduceLT, Int.reduceToNat, Nat.left_eq_add, Nat.add_eq_left, Nat.add_left_cancel_iff, Nat.reduceEqDiff, Nat.add_assoc, Nat.succ_ne_zero, this]
  exact hk
theorem so_ldV (h : BR N0 w0 bp vp vm vnb p pb o c sb so sc room ps fs) (hF : Fr none_ w0 w) {R : Value → World → Prop} (hk : R (pt vp 0) w) : opS Tryz.prog (S.ld 113 (pt bp 0)) R w := by
  have := hF.heap h.blk fun h => h
  simp only [push_cast, Nat.reduceAdd, Nat.reduceLeDiff, Nat.reduceLT, Int.reduceToNat, Nat.left_eq_add, Nat.add_eq_left, Nat.add_left_cancel_iff, Nat.reduceEqDiff, Nat.add_assoc, Nat.succ_ne_zero, this]
  exact hk
theorem so_ldI (hb : w0.heap[b3]? = some (cellsO [i64 v] 3)) (hF : Fr none_ w0 w) {R : Value → World → Prop} (hk : R (i64 v) w) : opS Tryz.prog (S.ld 3 (pt b3 0)) R w := by
  have := hF.heap hb fun h => h
  simp only [push_cast, Nat.reduceAdd, Nat.reduceLeDiff, Nat.reduceLT, Int.reduceToNat, Nat.left_eq_add, Nat.add_eq_left, Nat.add_left_cancel_iff, Nat.reduceEqDiff, Nat.add_assoc, Nat.succ_ne_zero, this]
  exact hk
theorem so_ldF (hb : w0.heap[b4]? = some (cellsO f.cells 61)) (hF : Fr none_ w0 w) {R : Value → World → Prop} (hk : R (.agg f.cells.toArray) w) : opS Tryz.prog (S.ld 61 (pt b4 0)) R w := by
  have := hF.heap hb fun h => h
  simp only [push_cast, Nat.reduceAdd, Nat.reduceLeDiff, Nat.reduceLT, Int.reduceToNat, Nat.left_eq_add, Nat.add_eq_left, Nat.add_left_cancel_iff, Nat.reduceEqDiff, Nat.add_assoc, Nat.succ_ne_zero, this, frm_len, frm_dw]
  exact hk
theorem so_alloc (hF : Fr none_ w0 w) {R : Value → World → Prop} (hk : ∀ sl w', w'.heap[sl]? = some (cellsO zFrm.cells 61) → w0.heap.size ≤ sl → Fr none_ w0 w' → R (pt sl 0) w') : opS Tryz.prog (S.alloc 61) R w := by
  rw [zalloc_frm]
  refine hk _ _ ?_ hF.size (hF.trans ((Fr.refl _ _).step_alloc rfl))
  simp only [push_cast, Nat.reduceAdd, Nat.reduceLeDiff, Nat.reduceLT, Int.reduceToNat, Nat.left_eq_add, Nat.add_eq_left, Nat.add_left_cancel_iff, Nat.reduceEqDiff, Nat.add_assoc, Nat.succ_ne_zero]
theorem so_out {i : Int} (h : BR N0 w0 bp vp vm vnb p pb o c sb so sc room ps fs) (hf : FrmR w0 f bs) (hF : Fr none_ w0 w) {R : Value → Value → World → Prop} (hk : ∀ w', Fr none_ w0 w' → Fr none_ w w' → R (.agg (fs.t.out v i f bs.length).1.cells.toArray) (i64 (fs.t.out v i f bs.length).2) w') :
    opS Tryz.prog (S.cl 234 [pt vp 0, i64 v, i64 i, .agg f.cells.toArray]) (fun x => opS Tryz.prog (S.ext x 0) fun a => opS Tryz.prog (S.ext x 1) fun b => R a b) w := by
  simp only [push_cast, Nat.reduceAdd, Nat.reduceLeDiff, Nat.reduceLT, Int.reduceToNat, Nat.left_eq_add, Nat.add_eq_left, Nat.add_left_cancel_iff, Nat.reduceEqDiff, Nat.add_assoc, Nat.succ_ne_zero]
  refine Vl.vout_spec (h.v.fr0 hF) (hf.fr0 hF) fun w' hF' => ?_
  simp only [s_ext, List.getElem?_toArray, List.getElem?_cons_zero, List.getElem?_cons_succ, onS_some]
  exact hk w' (hF.trans hF') hF'
theorem so_st1 {g : Frm} {sl : Nat} {w1 : World} (hg : g.cells.all S.oneCell = true) (hs : w1.heap[sl]? = some (cellsO zFrm.cells 61)) (hl : w0.heap.size ≤ sl) (hF1 : Fr none_ w1 w) (hF : Fr none_ w0 w) {R : Value → World → Prop} (hk : ∀ u w', w'.heap[sl]? = some (cellsO g.cells 61) → Fr none_ w0 w' → R u w') :
    opS Tryz.prog (S.st 61 (pt sl 0) (.agg g.cells.toArray)) R w := by
  have hs' := hF1.heap hs fun h => h
  rw [s_stA _ _ _ (frm_len g) hg, hs', okAt_cells]
  have e : splice zFrm.cells 0 g.cells = g.cells := rfl
  rw [show decide (0 + 17 ≤ zFrm.cells.length) = true from rfl, onB_true]
  refine hk _ _ ?_ (hF.step_wr (.inr hl) _ _)
  rw [heap_wr, if_pos rfl, hs', putAt_cells, e]
end

theorem senders_spec {v frm : Int} {f : Frm} {bs : List Int} (hf : FrmR w f bs)
    (hk : ∀ w', w'.heap[w.heap.size]? = some (cellsO [pt bp 0] 46) → w'.heap[w.heap.size + 2]? = some (cellsO [i64 frm] 3) → w'.heap[w.heap.size + 1]? = some (cellsO [i64 v] 3) → w'.heap[w.heap.size + 3]? = some (cellsO f.cells 61) → Fr none_ w w' →
      K (.func (.func 233) #[] #[pt w.heap.size 0, pt (w.heap.size + 2) 0, pt (w.heap.size + 1) 0, pt (w.heap.size + 3) 0]) w') :
    CallsR Tryz.prog 195 #[pt bp 0, i64 v, i64 frm, .agg f.cells.toArray] K w := by
  apply c195
  unfold p195
  simp only [push_cast, Nat.reduceAdd, Nat.reduceLeDiff, Nat.reduceLT, Int.reduceToNat, Nat.left_eq_add, Nat.add_eq_left, Nat.add_left_cancel_iff, Nat.reduceEqDiff, Nat.add_assoc, Nat.succ_ne_zero]
  refine hk _ ?_ ?_ ?_ ?_ (by repeat' first | with_reducible exact Fr.refl _ _ | with_reducible refine Fr.step_alloc ?_ ?_ | with_reducible refine Fr.step_drew ?_ | with_reducible refine Fr.step_wr ?_ ?_ _ _ | exact rfl | exact Or.inr (by omega) | exact Or.inl rfl | exact Or.inl (Or.inl rfl) | exact Or.inl (Or.inr rfl)) <;> simp only [push_cast, Nat.reduceAdd, Nat.reduceLeDiff, Nat.reduceLT, Int.reduceToNat, Nat.left_eq_add, Nat.add_eq_left, Nat.add_left_cancel_iff, Nat.reduceEqDiff, Nat.add_assoc, Nat.succ_ne_zero]

theorem senders1_spec {y : Value} {v frm : Int} {f : Frm} {bs : List Int} {b1 b2 b3 b4 : Nat} (fpY : Nat → Prop) (A : World → Prop) (I : List (Int × Frm) → World → Prop)
    (hA0 : ∀ w1, A w1 → BR N0 w1 bp vp vm vnb p pb o c sb so sc room ps fs ∧ FrmR w1 f bs ∧ w1.heap[b1]? = some (cellsO [pt bp 0] 46) ∧ w1.heap[b2]? = some (cellsO [i64 frm] 3) ∧ w1.heap[b3]? = some (cellsO [i64 v] 3) ∧ w1.heap[b4]? = some (cellsO f.cells 61))
    (hAN : ∀ w1 w2, A w1 → Fr none_ w1 w2 → A w2) (hAY : ∀ w1 w2, A w1 → Fr fpY w1 w2 → A w2) (hIN : ∀ d w1 w2, I d w1 → Fr none_ w1 w2 → I d w2) (hA : A w) (hI : I [] w)
    (hy : ∀ d x w1 KY, I d w1 → A w1 → d.length ≤ 64 → (outC x).all S.oneCell = true → (∀ w2, I (d ++ [x]) w2 → Fr fpY w1 w2 → KY (.bool true) w2) → opS Tryz.prog (S.call y [.agg (outC x).toArray]) KY w1)
    (h : ∀ w', I (sendN fs.t fs.S v frm f bs.length fs.S.length) w' → A w' → K (.tuple #[]) w') :
    CallsR Tryz.prog 233 #[y, pt b1 0, pt b2 0, pt b3 0, pt b4 0] K w := by
  apply c233
  unfold p233
  obtain ⟨hB, hf, h1, h2, h3, h4⟩ := hA0 w hA
  have hsl := hB.sl
  obtain ⟨ba, bc, hbd⟩ := hf.2.form
  have hbo : S.oneCell f.body = true := by rw [hbd]; rfl
  simp only [push_cast, Nat.reduceAdd, Nat.reduceLeDiff, Nat.reduceLT, Int.reduceToNat, Nat.left_eq_add, Nat.add_eq_left, Nat.add_left_cancel_iff, Nat.reduceEqDiff, Nat.add_assoc, Nat.succ_ne_zero, h1, hB.blk]
  refine jn0 (fun w' => I (sendN fs.t fs.S v frm f bs.length fs.S.length) w' ∧ A w') (fun w' ⟨a, b⟩ => h w' a b) fun j hj => ?_
  refine loop1 (fun n x w' => ∃ i : Nat, x = i64 i ∧ n + i = fs.S.length ∧ I (sendN fs.t fs.S v frm f bs.length i) w' ∧ A w') ?_ fs.S.length ⟨0, rfl, rfl, hI, hA⟩
  rintro n x w1 X ⟨i, rfl, hi, hI1, hA1⟩ hX
  simp only [push_cast, Nat.reduceAdd, Nat.reduceLeDiff, Nat.reduceLT, Int.reduceToNat, Nat.left_eq_add, Nat.add_eq_left, Nat.add_left_cancel_iff, Nat.reduceEqDiff, Nat.add_assoc, Nat.succ_ne_zero]
  refine br_dec (fun hlt => ?_) fun hge => ?_
  case refine_2 =>
    have : i = fs.S.length := by omega
    subst this
    exact hj _ ⟨hI1, hA1⟩
  have hil : i < fs.S.length := by omega
  have hdl := sendN_len (t := fs.t) (S := fs.S) (v := v) (frm := frm) (f := f) (n := bs.length) i
  obtain ⟨hB1, hf1, g1, g2, g3, g4⟩ := hA0 w1 hA1
  have hnone : outAt fs.t fs.S v frm f bs.length i = none → ∀ w', Fr none_ w1 w' → X (i64 (IntKind.i64.wrap ((i : Int) + 1))) w' := fun he w' hF => by
    rw [wrap_i64 (by omega)]
    refine hX (n - 1) _ _ (by omega) ⟨i + 1, by simp, by omega, ?_, hAN _ _ hA1 hF⟩
    unfold sendN
    rw [he]
    simpa using hIN _ _ _ hI1 hF
  refine st_get hB1 (by omega) (by omega) ?_
  rw [Int.toNat_natCast]
  simp only [push_cast, Nat.reduceAdd, Nat.reduceLeDiff, Nat.reduceLT, Int.reduceToNat, Nat.left_eq_add, Nat.add_eq_left, Nat.add_left_cancel_iff, Nat.reduceEqDiff, Nat.add_assoc, Nat.succ_ne_zero, g2]
  refine br_intro (fun hfr => hnone ?_ _ (Fr.refl _ _)) fun hfr => ?_
  · unfold outAt; rw [if_pos (by simpa using hfr)]
  have hfr : ¬ (i : Int) = frm := by simpa using hfr
  refine br_intro (fun hst => hnone ?_ _ (Fr.refl _ _)) fun hst => ?_
  · unfold outAt; rw [if_neg hfr, if_pos (by simpa using hst)]
  have hst : fs.S.getD i 0 = 2 := by simpa using hst
  have hoa : outAt fs.t fs.S v frm f bs.length i = if (fs.t.out v i f bs.length).2 = 0 then some ((i : Int), (fs.t.out v i f bs.length).1) else none := by
    unfold outAt
    rw [if_neg hfr, if_neg (by rw [hst]; simp)]
  have hgo := out_one (t := fs.t) (v := v) (n := (i : Int)) (m := bs.length) hbo
  refine jn2 (fun a b w' => ∃ sl, a = pt sl 0 ∧ b = i64 (fs.t.out v i f bs.length).2 ∧ w'.heap[sl]? = some (cellsO (fs.t.out v i f bs.length).1.cells 61) ∧ Fr none_ w1 w') ?_ fun j2 hj2 => ?_
  · rintro a b w2 ⟨sl, rfl, rfl, hs, hF2⟩
    simp only [push_cast, Nat.reduceAdd, Nat.reduceLeDiff, Nat.reduceLT, Int.reduceToNat, Nat.left_eq_add, Nat.add_eq_left, Nat.add_left_cancel_iff, Nat.reduceEqDiff, Nat.add_assoc, Nat.succ_ne_zero, hs, frm_len, frm_dw]
    refine br_intro (fun he => ?_) fun he => ?_
    · rw [if_pos (by simpa using he)] at hoa
      rw [build_out]
      refine hy _ (_, _) w2 _ (hIN _ _ _ hI1 hF2) (hAN _ _ hA1 hF2) (by omega) (outC_one hgo) fun w3 hI3 hF3 => ?_
      simp only [push_cast, Nat.reduceAdd, Nat.reduceLeDiff, Nat.reduceLT, Int.reduceToNat, Nat.left_eq_add, Nat.add_eq_left, Nat.add_left_cancel_iff, Nat.reduceEqDiff, Nat.add_assoc, Nat.succ_ne_zero, Bool.not_true]
      rw [wrap_i64 (by omega)]
      refine hX (n - 1) _ _ (by omega) ⟨i + 1, by simp, by omega, ?_, hAY _ _ (hAN _ _ hA1 hF2) hF3⟩
      unfold sendN
      rw [hoa]
      exact hI3
    · rw [if_neg (by simpa using he)] at hoa
      exact hnone hoa _ hF2
  · simp only [drw_eq]
    have hB2 := hB1.fr0 (Fr.drew w1)
    have hf2 := hf1.fr0 (Fr.drew w1)
    have k1 := (Fr.drew (fp := none_) w1).heap g1 fun h => h
    have k3 := (Fr.drew (fp := none_) w1).heap g3 fun h => h
    have k4 := (Fr.drew (fp := none_) w1).heap g4 fun h => h
    have hFd : Fr none_ w1 w1.drew := Fr.drew w1
    generalize w1.drew = wd at *
    have hself : Fr none_ wd wd := Fr.refl _ _
    have fin : ∀ sl w', w'.heap[sl]? = some (cellsO (fs.t.out v i f bs.length).1.cells 61) → Fr none_ wd w' → j2 (pt sl 0) (i64 (fs.t.out v i f bs.length).2) w' := fun sl w' hs hF => hj2 _ _ _ ⟨sl, rfl, rfl, hs, hFd.trans hF⟩
    clear hnone hX hj hI hA hy h hA0 hAN hAY hIN
    repeat' first
      | with_reducible refine allW_intro ?_ ?_
      | with_reducible refine so_ldB hB2 k1 (by assumption) ?_
      | with_reducible refine so_ldV hB2 (by assumption) ?_
      | with_reducible refine so_ldI k3 (by assumption) ?_
      | with_reducible refine so_ldF k4 (by assumption) ?_
      | with_reducible refine so_alloc (w0 := wd) (by assumption) fun _ _ _ _ _ => ?_
      | with_reducible refine so_out hB2 hf2 (by assumption) fun _ _ _ => ?_
      | (with_reducible refine so_st1 (w0 := wd) hgo (by assumption) (by assumption) (by first | assumption | exact Fr.refl _ _) (by assumption) fun _ _ _ _ => ?_; exact fin _ _ (by assumption) (by assumption))

end
end Go.Gx.S
end

section
/- A bridge: what it relays. -/
set_option linter.unusedVariables false
set_option linter.unusedSimpArgs false
set_option maxRecDepth 100000
namespace Go.Gx.S
open Go Go.Gx Go.Proofs
variable {K : Value → World → Prop} {w : World}

theorem frm_keep {fp : Nat → Prop} {w0 w1 w2 : World} {f : Frm} {bs : List Int} (h0 : FrmR w0 f bs) (h : FrmR w1 f bs) (hF : Fr fp w1 w2) (hn : ∀ b, b < w0.heap.size → ¬ fp b) : FrmR w2 f bs := by
  obtain ⟨hok, h1, h2⟩ := h
  refine ⟨hok, ?_, h2⟩
  obtain ⟨h3, h4⟩ := h1
  refine ⟨?_, h4⟩
  rcases h3 with h3 | ⟨b, o, c, cs, T, fz, hv, hb, hc, ho, hl⟩
  · exact .inl h3
  · rcases h0.2.1.1 with ⟨⟨a', c', hv'⟩, hn', hl'⟩ | ⟨b', o', c', cs', T', fz', hv', hb', _⟩
    · refine .inl ⟨⟨a', c', hv'⟩, hn', hl'⟩
    · rw [hv] at hv'
      simp only [Value.slice.injEq, Option.some.injEq, Addr.mk.injEq] at hv'
      obtain ⟨⟨rfl, rfl, _⟩, _, rfl⟩ := hv'
      exact .inr ⟨b, o, c, cs, T, fz, hv, hF.heap hb (hn b (lt_of_heap hb')), hc, ho, hl⟩

theorem run_bounds3 {n c : Nat} (h : n ≤ c) : (Instr.sliceBounds true n c none (some (.int .i64 (n : Nat))) (some (.int .i64 (n : Nat)))).run Tryz.prog w = .ok (0, n, n) w := by
  unfold Instr.sliceBounds
  simp only [pure_bind]
  rw [Sem.run_bind, run_sliceBound (by omega), Result.andThen_ok, Sem.run_bind, run_sliceBound (by omega), Result.andThen_ok]
  rfl
theorem clip_spec {v : Value} {es : List (List Value)} (hv : RdE 18 w v es) (hk : ∀ v', RdE 18 w v' es → (∀ b, blkS v' = some b → blkS v = some b) → K v' w) : CallsR Tryz.prog 196 #[v] K w := by
  apply c196
  unfold p196
  obtain ⟨a, c, rfl, hc⟩ := hv.cap
  simp only [push_cast, Nat.reduceAdd, Nat.reduceLeDiff, Nat.reduceLT, Int.reduceToNat, Nat.left_eq_add, Nat.add_eq_left, Nat.add_left_cancel_iff, Nat.reduceEqDiff, Nat.add_assoc, Nat.succ_ne_zero]
  unfold S.slc
  rw [opS_bind]
  unfold Instr.sliceAt
  rw [Sem.run_bind, run_underlying_of (SlT.und (P := Tryz.prog) (T := 67)), Result.andThen_ok]
  simp only []
  unfold Instr.slice
  rw [Sem.run_bind, run_underlying_of (SlT.und (P := Tryz.prog) (T := 67)), Result.andThen_ok]
  simp only []
  rw [Sem.run_bind, run_bounds3 hc, Result.andThen_ok]
  simp only []
  rw [Sem.run_bind, Sz.size (P := Tryz.prog) (T := 86) w, Result.andThen_ok]
  have e : (if es.length = 0 then a else Option.map (fun x : Addr => x.add (0 * 18)) a) = a := by
    split
    · rfl
    · cases a with
      | none => rfl
      | some x =>
        obtain ⟨b, o, f⟩ := x
        rcases hv.1 with ⟨_, hn, _⟩ | ⟨b', o', c', cs, T, fz, h1, _⟩
        · omega
        · simp only [Value.slice.injEq, Option.some.injEq, Addr.mk.injEq] at h1
          obtain ⟨⟨rfl, rfl, rfl⟩, _, _⟩ := h1
          show some (Addr.add _ _) = _
          rw [add_none, Nat.zero_mul, Nat.add_zero]
  show K (.slice (if es.length = 0 then a else Option.map (fun x : Addr => x.add (0 * 18)) a) (es.length - 0) (es.length - 0)) w
  rw [e]
  refine hk _ ⟨?_, hv.2⟩ fun b hb => by cases a <;> exact hb
  rcases hv.1 with ⟨⟨a', c', h1⟩, hn, hl⟩ | ⟨b', o', c', cs, T, fz, h1, hb, hc', ho, hl⟩
  · simp only [Value.slice.injEq] at h1
    exact .inl ⟨⟨a, es.length - 0, by rw [hn]⟩, hn, hl⟩
  · simp only [Value.slice.injEq] at h1
    obtain ⟨rfl, _, rfl⟩ := h1
    exact .inr ⟨b', o', es.length, cs, T, fz, rfl, hb, Nat.le_refl _, ho, hl⟩

section
variable {N0 bp vp vm vnb p pb o c sb so sc room : Nat} {ps : List Ent} {fs : FS}

/-- the bridge's blocks are not among those -/
theorem BR.fr {fp : Nat → Prop} {w' : World} (h : BR N0 w bp vp vm vnb p pb o c sb so sc room ps fs) (hF : Fr fp w w') (hn : ∀ b, (b = bp ∨ b = vp ∨ b = vm ∨ b = vnb ∨ b = p ∨ b = pb ∨ b = sb) → ¬ fp b) : BR N0 w' bp vp vm vnb p pb o c sb so sc room ps fs :=
  ⟨hF.heap h.blk (hn _ (by simp)), h.v.fr hF (hn _ (by simp)) (hn _ (by simp)) (hn _ (by simp)), h.f.fr hF (hn _ (by simp)) (hn _ (by simp)), h.s.fr hF (fun b hb => by simp only [blkS, Option.some.injEq] at hb; exact hn _ (by simp [hb.symm])), h.nl, h.ll, h.sl, h.d1, h.d2, h.d3, h.ge⟩

theorem relay_spec {v frm target : Int} {f : Frm} {bs : List Int} (h : BR N0 w bp vp vm vnb p pb o c sb so sc room ps fs) (hf : FrmR w f bs)
    (hk : ∀ x w', RdE 18 w' x ((relayL fs.t fs.S v frm target f bs.length).map outC) → New w x → Fr none_ w w' → K x w') :
    CallsR Tryz.prog 131 #[pt bp 0, i64 v, i64 frm, i64 target, .agg f.cells.toArray] K w := by
  apply c131
  unfold p131
  have hf0 := hf
  have hlt := h.lt
  have hF : Fr none_ w (((w.alloc (cellsO [i64 target] 3)).alloc (cellsO f.cells 61)).alloc (cellsO [.slice none 0 0] 67)) := (by repeat' first | with_reducible exact Fr.refl _ _ | with_reducible refine Fr.step_alloc ?_ ?_ | with_reducible refine Fr.step_drew ?_ | with_reducible refine Fr.step_wr ?_ ?_ _ _ | exact rfl | exact Or.inr (by omega) | exact Or.inl rfl | exact Or.inl (Or.inl rfl) | exact Or.inl (Or.inr rfl))
  have ht0 : (((w.alloc (cellsO [i64 target] 3)).alloc (cellsO f.cells 61)).alloc (cellsO [.slice none 0 0] 67)).heap[w.heap.size]? = some (cellsO [i64 target] 3) := by simp only [push_cast, Nat.reduceAdd, Nat.reduceLeDiff, Nat.reduceLT, Int.reduceToNat, Nat.left_eq_add, Nat.add_eq_left, Nat.add_left_cancel_iff, Nat.reduceEqDiff, Nat.add_assoc, Nat.succ_ne_zero]
  have hf1 : (((w.alloc (cellsO [i64 target] 3)).alloc (cellsO f.cells 61)).alloc (cellsO [.slice none 0 0] 67)).heap[w.heap.size + 1]? = some (cellsO f.cells 61) := by simp only [push_cast, Nat.reduceAdd, Nat.reduceLeDiff, Nat.reduceLT, Int.reduceToNat, Nat.left_eq_add, Nat.add_eq_left, Nat.add_left_cancel_iff, Nat.reduceEqDiff, Nat.add_assoc, Nat.succ_ne_zero]
  have hq0 : (((w.alloc (cellsO [i64 target] 3)).alloc (cellsO f.cells 61)).alloc (cellsO [.slice none 0 0] 67)).heap[w.heap.size + 2]? = some (cellsO [.slice none 0 0] 67) := by simp only [push_cast, Nat.reduceAdd, Nat.reduceLeDiff, Nat.reduceLT, Int.reduceToNat, Nat.left_eq_add, Nat.add_eq_left, Nat.add_left_cancel_iff, Nat.reduceEqDiff, Nat.add_assoc, Nat.succ_ne_zero]
  have hWs : (((w.alloc (cellsO [i64 target] 3)).alloc (cellsO f.cells 61)).alloc (cellsO [.slice none 0 0] 67)).heap.size = w.heap.size + 3 := by rw [size_alloc, size_alloc, size_alloc]
  simp only [push_cast, Nat.reduceAdd, Nat.reduceLeDiff, Nat.reduceLT, Int.reduceToNat, Nat.left_eq_add, Nat.add_eq_left, Nat.add_left_cancel_iff, Nat.reduceEqDiff, Nat.add_assoc, Nat.succ_ne_zero, frm_len, frm_dw]
  replace h := h.fr0 hF
  replace hf := hf.fr0 hF
  generalize ((w.alloc (cellsO [i64 target] 3)).alloc (cellsO f.cells 61)).alloc (cellsO [.slice none 0 0] 67) = W at *
  refine senders_spec (bp := bp) hf fun w2 k1 k2 k3 k4 hF2 => ?_
  replace h := h.fr0 hF2
  replace hf := hf.fr0 hF2
  replace ht0 := hF2.heap ht0 fun h => h
  replace hq0 := hF2.heap hq0 fun h => h
  replace hF := hF.trans hF2
  have hk4 := lt_of_heap k4
  rw [hWs] at k1 k2 k3 k4 hk4 ⊢
  simp only [push_cast, Nat.reduceAdd, Nat.reduceLeDiff, Nat.reduceLT, Int.reduceToNat, Nat.left_eq_add, Nat.add_eq_left, Nat.add_left_cancel_iff, Nat.reduceEqDiff, Nat.add_assoc, Nat.succ_ne_zero]
  intro L hL1 hL2 hL3 hyield
  rw [enterS_call]
  have hFs : Fr none_ w2 ((w2.alloc (.deferred (some []))).alloc (.loop L)) := ((Fr.refl _ _).step_alloc rfl).step_alloc rfl
  have hI0 : CJ 86 18 67 w (w.heap.size + 2) w2.heap.size L false [] ((w2.alloc (.deferred (some []))).alloc (.loop L)) := CJ.start hL1 hL3 hq0 (own_nil _ _ _) rfl hF (by omega)
  have hss : w2.heap.size + 1 < ((w2.alloc (.deferred (some []))).alloc (.loop L)).heap.size := by rw [size_alloc, size_alloc]; omega
  refine senders1_spec (v := v) (frm := frm) (f := f) (bs := bs) (b1 := w.heap.size + 3) (b2 := w.heap.size + 3 + 2) (b3 := w.heap.size + 3 + 1) (b4 := w.heap.size + 3 + 3) (fun b => b = w.heap.size + 2 ∨ w2.heap.size < b)
    (fun w' => BR N0 w' bp vp vm vnb p pb o c sb so sc room ps fs ∧ FrmR w' f bs ∧ w'.heap[w.heap.size + 3]? = some (cellsO [pt bp 0] 46) ∧ w'.heap[w.heap.size + 3 + 2]? = some (cellsO [i64 frm] 3) ∧ w'.heap[w.heap.size + 3 + 1]? = some (cellsO [i64 v] 3) ∧ w'.heap[w.heap.size + 3 + 3]? = some (cellsO f.cells 61) ∧ w'.heap[w.heap.size]? = some (cellsO [i64 target] 3))
    (fun d w' => CJ 86 18 67 w (w.heap.size + 2) w2.heap.size L false ((d.filter (tgt target)).map outC) w') (fun w1 ⟨a, b, c, d, e, f, _⟩ => ⟨a, b, c, d, e, f⟩) (fun w1 w2 ⟨a, b, c, d, e, f, g⟩ hF => ⟨a.fr0 hF, b.fr0 hF, hF.heap c fun h => h, hF.heap d fun h => h, hF.heap e fun h => h, hF.heap f fun h => h, hF.heap g fun h => h⟩)
    (fun w1 w2' ⟨a, b, c, d, e, f, g⟩ hF => ⟨a.fr hF fun b hb => by omega, frm_keep hf0 b hF fun b hb => by omega, hF.heap c (by omega), hF.heap d (by omega), hF.heap e (by omega), hF.heap f (by omega), hF.heap g (by omega)⟩)
    (fun d w1 w2 hI hF => hI.stay hF) ⟨h.fr0 hFs, hf.fr0 hFs, hFs.heap k1 fun h => h, hFs.heap k2 fun h => h, hFs.heap k3 fun h => h, hFs.heap k4 fun h => h, hFs.heap ht0 fun h => h⟩ hI0 ?_ ?_
  · intro d x w1 KY hI ⟨_, _, _, _, _, _, g⟩ hdl hone hK
    obtain ⟨L', hlb, hsame, hst, hpd⟩ := hI.loop
    have hlt1 := lt_of_heap hlb
    refine hyield KY [.agg (outC x).toArray] w1 L' hst hsame hlb rfl ?_
    show opS Tryz.prog (S.alloc 86) (fun x12 => opS Tryz.prog (S.st 86 x12 (.agg (outC x).toArray)) fun x13 => opS Tryz.prog (S.beginR (pt (w2.heap.size + 1) 0)) fun x14 => jnJ 0 (
        opS Tryz.prog (S.ld 67 (pt (w.heap.size + 2) 0)) fun x15 => opS Tryz.prog (S.ld 86 x12) fun x16 => opS Tryz.prog (S.buildS 67 1 [(0, x16)]) fun x17 => opS Tryz.prog (S.bi .append #[67, 67] 67 [x15, x17]) fun x18 => opS Tryz.prog (S.st 67 (pt (w.heap.size + 2) 0) x18) fun x19 => opS Tryz.prog (S.endR (pt (w2.heap.size + 1) 0) none) fun x20 => KY x20) fun j0 =>
      opS Tryz.prog (S.ld 3 (pt w.heap.size 0)) fun x15 => opS Tryz.prog (S.binI .eql x15 (.int .i64 0)) fun x16 => brn x16 j0 (opS Tryz.prog (S.fa 86 x12 0) fun x17 => opS Tryz.prog (S.ld 3 x17) fun x18 => opS Tryz.prog (S.ld 3 (pt w.heap.size 0)) fun x19 => opS Tryz.prog (S.binI .eql x18 x19) fun x20 => brn x20 j0 (opS Tryz.prog (S.endR (pt (w2.heap.size + 1) 0) none) fun x21 => KY x21))) w1
    have hone2 : x.2.cells.all S.oneCell = true := by
      unfold outC at hone
      rw [List.all_cons, Bool.and_eq_true] at hone
      exact hone.2
    refine out_slot hone2 fun _ w3 hw3 hF3 => ?_
    have hs13 := hF3.size
    refine cj_begin (hI.stay hF3) fun w4 hI4 hF4 => ?_
    have g4 := hF4.heap (hF3.heap g fun h => h) (by omega)
    have hw4 := hF4.heap hw3 (by omega)
    have hF14 : Fr (fun b => b = w.heap.size + 2 ∨ w2.heap.size < b) w1 w4 := (hF3.mono fun _ _ e => e.elim).trans_new hF4 fun b _ e => .inr (by omega)
    refine jn0 (fun w' => w' = w4 ∧ tgt target x = true) ?_ fun j0 hj0 => ?_
    · rintro w' ⟨rfl, ht⟩
      refine cj_append (T := 67) (E := 86) (sz := 18) (by_ := 72) (z := .agg (outC (0, zFrm)).toArray) (x := outC x) (mid := fun K => opS Tryz.prog (S.ld 86 (pt w1.heap.size 0)) fun x9 => opS Tryz.prog (S.buildS 67 1 [(0, x9)]) K) (fun K hk => ?_) hone rfl (by decide) ?_ hI4 fun w5 hI5 hF5 => ?_
      · have e : (List.take 18 (List.drop 0 (outC x))) = outC x := rfl
        simp only [push_cast, Nat.reduceAdd, Nat.reduceLeDiff, Nat.reduceLT, Int.reduceToNat, Nat.left_eq_add, Nat.add_eq_left, Nat.add_left_cancel_iff, Nat.reduceEqDiff, Nat.add_assoc, Nat.succ_ne_zero, hw4, e]
        exact s_bs1 (sz := 18) (z := .agg (outC (0, zFrm)).toArray) rfl rfl (by decide) (by decide) hk
      · have := List.length_filter_le (tgt target) d
        rw [List.length_map]; omega
      · refine cj_endR hI5 fun w6 hI6 hF6 => ?_
        refine hK w6 ?_ ((hF14.trans_new hF5 fun b _ e => by omega).trans_new hF6 fun b _ e => .inr (by omega))
        rw [List.filter_append, List.map_append, List.filter_cons, if_pos ht]
        exact hI6
    · simp only [push_cast, Nat.reduceAdd, Nat.reduceLeDiff, Nat.reduceLT, Int.reduceToNat, Nat.left_eq_add, Nat.add_eq_left, Nat.add_left_cancel_iff, Nat.reduceEqDiff, Nat.add_assoc, Nat.succ_ne_zero, g4]
      have hskip : tgt target x = false → opS Tryz.prog (S.endR (pt (w2.heap.size + 1) 0) none) KY w4 := fun ht => by
        refine cj_endR hI4 fun w6 hI6 hF6 => ?_
        refine hK w6 ?_ (hF14.trans_new hF6 fun b _ e => .inr (by omega))
        rw [List.filter_append, List.map_append, List.filter_cons, if_neg (by rw [ht]; simp)]
        simpa using hI6
      refine br_intro (fun h0 => hj0 _ ⟨rfl, ?_⟩) fun h0 => ?_
      · unfold tgt
        exact decide_eq_true (.inl (by simpa using h0))
      simp only [push_cast, Nat.reduceAdd, Nat.reduceLeDiff, Nat.reduceLT, Int.reduceToNat, Nat.left_eq_add, Nat.add_eq_left, Nat.add_left_cancel_iff, Nat.reduceEqDiff, Nat.add_assoc, Nat.succ_ne_zero, g4, hw4]
      refine br_intro (fun h1 => hj0 _ ⟨rfl, ?_⟩) fun h1 => hskip ?_
      · unfold tgt
        exact decide_eq_true (.inr (by simpa using h1))
      · unfold tgt
        refine decide_eq_false fun e => ?_
        rcases e with e | e
        · rw [e] at h0; simp at h0
        · rw [e] at h1; simp at h1
  · intro w3 hI hA
    obtain ⟨u, w4, hrun, hs4, hu4, hb4, hd4, hF4, hF34⟩ := cj_end Tryz.prog hI
    refine ⟨none, w4, hrun, ?_⟩
    simp only [push_cast, Nat.reduceAdd, Nat.reduceLeDiff, Nat.reduceLT, Int.reduceToNat, Nat.left_eq_add, Nat.add_eq_left, Nat.add_left_cancel_iff, Nat.reduceEqDiff, Nat.add_assoc, Nat.succ_ne_zero, hs4]
    refine clip_spec hu4.rd fun u' hu' hbu => ?_
    show opS Tryz.prog (S.take (pt w2.heap.size 0)) _ _
    rw [opS_take hd4]
    have hF2w := hF.size
    refine hk u' _ ?_ (fun b hb => ?_) (hF4.step_upd hd4 rfl _ rfl (.inr hF2w))
    · refine hu'.frame fun b hb => heap_upd_ne ?_
      have := hb4 b (hbu b hb)
      omega
    · have := hb4 b (hbu b hb)
      omega

end
end Go.Gx.S
end
