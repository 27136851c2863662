/- Own texts, put together. -/
import Derived.Test.YtebfekelonfcgaaDoorQ1
import Derived.Laws.Strings
import Derived.Defers
import Derived.DefersIn
import Derived.RecoverIn
import Derived.TacticsInMore
import Derived.LaidMore
import Derived.LaidHandle
import Derived.Stop.Joined
import Derived.Test.YtebfekelonfcgaaDoorRows
import Derived.Test.YtebfekelonfcgaaDoorCards
import Derived.Test.YtebfekelonfcgaaDoorTie
import Derived.SevenTiedAt
section
/- Bytes, texts of bytes, frames. -/
namespace Go.Gx
open Go
variable {P : Program} {K : Value → World → Prop} {w : World}

/-! ### Bytes -/

def cell1 (n : Int) : List Value := [u8 n]
/-- bytes that can be read -/
def ByR (w : World) (v : Value) (bs : List Int) : Prop := RdE 1 w v (bs.map cell1) ∧ ∀ b ∈ bs, isB b
theorem ByR.fr {fp : Nat → Prop} {w w' : World} {v : Value} {bs : List Int} (h : ByR w v bs) (hf : Fr fp w w') (hn : ∀ b, blkS v = some b → ¬ fp b) : ByR w' v bs := ⟨h.1.fr hf hn, h.2⟩
theorem ByR.form {v : Value} {bs : List Int} (h : ByR w v bs) : ∃ a c, v = .slice a bs.length c := by
  obtain ⟨a, c, rfl⟩ := h.1.form
  exact ⟨a, c, by simp⟩
theorem ByR.nil (w : World) (a : Option Addr) (c : Nat) : ByR w (.slice a 0 c) [] := ⟨⟨.inl ⟨⟨_, _, rfl⟩, rfl, rfl⟩, by simp⟩, by simp⟩
theorem flat_cell1 (bs : List Int) : (bs.map cell1).flatten = bs.map u8 := by
  induction bs with
  | nil => rfl
  | cons b bs ih => simp [cell1, ih]
theorem flat_cell1_one (bs : List Int) : (bs.map cell1).flatten.all S.oneCell = true := by
  rw [flat_cell1, List.all_map, List.all_eq_true]
  intro x _
  rfl

/-- bytes as_ a text -/
def strOf (bs : List Int) : ByteArray := ⟨(bs.map fun n => UInt8.ofNat n.toNat).toArray⟩

theorem byte_inj {a b : Int} (ha : isB a) (hb : isB b) (h : UInt8.ofNat a.toNat = UInt8.ofNat b.toNat) : a = b := by
  have := congrArg UInt8.toNat h
  simp only [UInt8.toNat_ofNat'] at this
  unfold isB at ha hb
  omega

theorem strOf_inj : ∀ {a b : List Int}, (∀ x ∈ a, isB x) → (∀ x ∈ b, isB x) → ((strOf a).data.toList = (strOf b).data.toList ↔ a = b)
  | [], [], _, _ => by simp [strOf]
  | [], b :: bs, _, _ => by simp [strOf]
  | a :: as_, [], _, _ => by simp [strOf]
  | a :: as_, b :: bs, ha, hb => by
    have ih := @strOf_inj as_ bs (fun x hx => ha x (List.mem_cons_of_mem _ hx)) (fun x hx => hb x (List.mem_cons_of_mem _ hx))
    simp only [strOf] at ih ⊢
    simp only [List.map_cons, List.cons.injEq]
    constructor
    · rintro ⟨h1, h2⟩
      exact ⟨byte_inj (ha a (List.mem_cons_self ..)) (hb b (List.mem_cons_self ..)) h1, ih.1 h2⟩
    · rintro ⟨rfl, rfl⟩
      exact ⟨rfl, rfl⟩

class StrT (P : Program) (T : TypeId) : Prop where
  und : P.underlying T = some .string
class ByT (P : Program) (T : TypeId) : Prop where
  und : ∃ e, P.underlying T = some (.slice e) ∧ P.underlying e = some (.int .u8)

theorem push_strOf (bs cs : List Int) : cs.foldl (fun (s : ByteArray) n => s.push (UInt8.ofNat n.toNat)) (strOf bs) = strOf (bs ++ cs) := by
  induction cs generalizing bs with
  | nil => simp
  | cons c cs ih =>
    rw [List.foldl_cons]
    have : (strOf bs).push (UInt8.ofNat c.toNat) = strOf (bs ++ [c]) := by
      simp [strOf, ByteArray.push]
    rw [this, ih]
    simp

theorem run_b2s {v : Value} {bs : List Int} (h : ByR w v bs) : (Conv.bytesToString v).run P w = .ok (.string (strOf bs)) w := by
  obtain ⟨a, c, rfl⟩ := h.form
  have hf : (Builtin.firstCells 1 bs.length (.slice a bs.length c)).run P w = .ok (bs.map u8).toArray w := by
    have h1 := h.1.1
    rw [flat_cell1, List.length_map] at h1
    exact run_firstCells h1
  cases a with
  | none =>
    have hn : bs = [] := by
      rcases h.1.1 with ⟨_, h2, _⟩ | ⟨b, o, c', cs, T, fz, hv, _⟩
      · exact List.map_eq_nil_iff.1 (List.eq_nil_of_length_eq_zero h2)
      · cases hv
    subst hn
    rfl
  | some a =>
    unfold Conv.bytesToString
    have hl : (loadCells a bs.length).run P w = .ok (bs.map u8).toArray w := by
      have e : Builtin.firstCells 1 bs.length (.slice (some a) bs.length c) = loadCells a (bs.length * 1) := rfl
      rw [e, Nat.mul_one] at hf
      exact hf
    simp only []
    rw [Sem.run_bind, hl, Result.andThen_ok]
    have key : ∀ (F : Value → ByteArray → Sem (ForInStep ByteArray)), (∀ n r, F (u8 n) r = pure (ForInStep.yield (r.push (UInt8.ofNat n.toNat)))) →
        ∀ (cs ds : List Int), (forIn (cs.map u8) (strOf ds) F).run P w = .ok (strOf (ds ++ cs)) w := by
      intro F hF cs
      induction cs with
      | nil => intro ds; simp
      | cons c cs ih =>
        intro ds
        rw [List.map_cons, List.forIn_cons, hF]
        simp only [pure_bind]
        have : (strOf ds).push (UInt8.ofNat c.toNat) = strOf (ds ++ [c]) := by simp [strOf, ByteArray.push]
        rw [this]
        have := ih (ds ++ [c])
        rw [List.append_assoc] at this
        exact this
    rw [← Array.forIn_toList, Sem.run_bind]
    have e0 : ByteArray.empty = strOf [] := rfl
    rw [e0, key _ (fun n r => rfl) bs []]
    rfl

theorem s_b2s {T S' : TypeId} [hT : ByT P T] [hS : StrT P S'] {v : Value} {bs : List Int} (h : ByR w v bs) : opS P (S.conv T S' v) K w = K (.string (strOf bs)) w := by
  unfold S.conv
  rw [opS_bind]
  obtain ⟨e, h1, h2⟩ := hT.und
  have hr : (convert T S' v).run P w = .ok (.string (strOf bs)) w := by
    have hb := run_b2s (P := P) h
    obtain ⟨a, c, rfl⟩ := h.form
    unfold convert
    rw [Sem.run_bind, run_underlying_of h1, Result.andThen_ok, Sem.run_bind, run_underlying_of hS.und, Result.andThen_ok]
    simp only []
    rw [Sem.run_bind, run_underlying_of h2, Result.andThen_ok]
    exact hb
  rw [hr]

theorem s_eqS {a b : List Int} (ha : ∀ x ∈ a, isB x) (hb : ∀ x ∈ b, isB x) : opS P (S.binS .eql (.string (strOf a)) (.string (strOf b))) K w = K (.bool (decide (a = b))) w := by
  unfold S.binS
  simp only []
  rw [opS_bind]
  have : (Op.stringOp .eql (strOf a) (strOf b)).run P w = .ok (.bool (decide (a = b))) w := by
    unfold Op.stringOp
    simp only [Sem.run_pure]
    congr 2
    have e : ∀ x : List Int, (strOf x).toList = (strOf x).data.toList := fun x => by
      exact ByteArray.toList_eq _
    rw [e, e]
    have := strOf_inj ha hb
    by_cases h : a = b
    · subst h; simp
    · rw [decide_eq_false h]
      simpa using fun h2 => h (this.1 h2)
  rw [this]

/-! ### Frames -/

@[ext] structure Frm where
  dst : Mac
  src : Mac
  tagged : Bool
  vlan : Int
  prio : Int
  type : Int
  body : Value

def Frm.cells (f : Frm) : List Value :=
  [u8 f.dst.b0, u8 f.dst.b1, u8 f.dst.b2, u8 f.dst.b3, u8 f.dst.b4, u8 f.dst.b5, u8 f.src.b0, u8 f.src.b1, u8 f.src.b2, u8 f.src.b3, u8 f.src.b4, u8 f.src.b5, .bool f.tagged, i64 f.vlan, i64 f.prio, i64 f.type, f.body]
/-- a frame's numbers are of their kinds -/
def Frm.ok (f : Frm) : Prop := f.dst.ok ∧ f.src.ok ∧ isI f.vlan ∧ isI f.prio ∧ isI f.type
/-- a frame that can be read, and the bytes of its body -/
def FrmR (w : World) (f : Frm) (bs : List Int) : Prop := f.ok ∧ ByR w f.body bs
theorem FrmR.fr {fp : Nat → Prop} {w w' : World} {f : Frm} {bs : List Int} (h : FrmR w f bs) (hf : Fr fp w w') (hn : ∀ b, blkS f.body = some b → ¬ fp b) : FrmR w' f bs := ⟨h.1, h.2.fr hf hn⟩
theorem FrmR.fr0 {w w' : World} {f : Frm} {bs : List Int} (h : FrmR w f bs) (hf : Fr none_ w w') : FrmR w' f bs := h.fr hf fun _ _ h => h

def zMac : Mac := ⟨0, 0, 0, 0, 0, 0⟩
def zFrm : Frm := ⟨zMac, zMac, false, 0, 0, 0, .slice none 0 0⟩
theorem zFrmR (w : World) : FrmR w zFrm [] := ⟨⟨by simp [zFrm, zMac, Mac.ok, isB], by simp [zFrm, zMac, Mac.ok, isB], isI_iff.2 (by simp [zFrm]), isI_iff.2 (by simp [zFrm]), isI_iff.2 (by simp [zFrm])⟩, ByR.nil _ _ _⟩

/-- may it be? n: how long its body is -/
def Frm.right (f : Frm) (n : Nat) : Bool :=
  decide (1536 ≤ f.type ∧ f.type ≤ 65535 ∧ f.type ≠ 33024 ∧ n ≤ 1500) && (if f.tagged then decide (0 ≤ f.vlan ∧ f.vlan ≤ 4094 ∧ 0 ≤ f.prio ∧ f.prio ≤ 7) else decide (f.vlan = 0 ∧ f.prio = 0))

def Frm.tag (f : Frm) (v p : Int) : Frm := { f with tagged := true, vlan := v, prio := p }
def Frm.untag (f : Frm) : Frm := { f with tagged := false, vlan := 0, prio := 0 }

theorem Frm.len (f : Frm) : f.cells.length = 17 := id rfl
theorem Frm.g12 (f : Frm) : f.cells[12]? = some (.bool f.tagged) := id rfl
theorem Frm.g13 (f : Frm) : f.cells[13]? = some (i64 f.vlan) := id rfl
theorem Frm.g14 (f : Frm) : f.cells[14]? = some (i64 f.prio) := id rfl
theorem Frm.g15 (f : Frm) : f.cells[15]? = some (i64 f.type) := id rfl
theorem Frm.g16 (f : Frm) : f.cells[16]? = some f.body := id rfl
theorem Frm.d0 (f : Frm) : (f.cells.drop 0).take 6 = f.dst.cells := id rfl
theorem Frm.d6 (f : Frm) : (f.cells.drop 6).take 6 = f.src.cells := id rfl
theorem Frm.dw (f : Frm) : (f.cells.drop 0).take 17 = f.cells := id rfl
theorem Frm.s12 (f : Frm) (b : Bool) : splice f.cells 12 [.bool b] = { f with tagged := b }.cells := id rfl
theorem Frm.s13 (f : Frm) (n : Int) : splice f.cells 13 [i64 n] = { f with vlan := n }.cells := id rfl
theorem Frm.s14 (f : Frm) (n : Int) : splice f.cells 14 [i64 n] = { f with prio := n }.cells := id rfl
theorem Frm.s15 (f : Frm) (n : Int) : splice f.cells 15 [i64 n] = { f with type := n }.cells := id rfl
theorem Frm.s16 (f : Frm) (v : Value) : splice f.cells 16 [v] = { f with body := v }.cells := id rfl
theorem Frm.s0 (f : Frm) (m : Mac) : splice f.cells 0 m.cells = { f with dst := m }.cells := id rfl
theorem Frm.s6 (f : Frm) (m : Mac) : splice f.cells 6 m.cells = { f with src := m }.cells := id rfl
theorem Frm.sw (f g : Frm) : splice f.cells 0 g.cells = g.cells := id rfl
theorem Frm.one (f : Frm) (h : S.oneCell f.body = true) : f.cells.all S.oneCell = true := by
  simp only [Frm.cells, List.all_cons, one_int, one_bool, h, List.all_nil, Bool.and_self]
theorem Mac.one (m : Mac) : m.cells.all S.oneCell = true := id rfl
theorem Mac.len (m : Mac) : m.cells.length = 6 := id rfl
theorem ByR.one {v : Value} {bs : List Int} (h : ByR w v bs) : S.oneCell v = true := h.1.one
theorem FrmR.one {f : Frm} {bs : List Int} (h : FrmR w f bs) : f.cells.all S.oneCell = true := Frm.one _ h.2.one
attribute [push_cast] Frm.len Frm.g12 Frm.g13 Frm.g14 Frm.g15 Frm.g16 Frm.d0 Frm.d6 Frm.dw Frm.s12 Frm.s13 Frm.s14 Frm.s15 Frm.s16 Frm.s0 Frm.s6 Frm.sw Mac.one Mac.len

/-- what comes behind is small: it may stand in each way -/
theorem jn_1 {k : Value → World → Prop} {m : (Value → World → Prop) → World → Prop} : jnJ 1 k m = m k := id rfl
theorem jn_0 {k : World → Prop} {m : (World → Prop) → World → Prop} : jnJ 0 k m = m k := id rfl

end Go.Gx
end

section
/- What is asked of the program as a whole. -/
set_option maxRecDepth 100000
namespace Go.Gx.S
open Go Go.Gx Go.Proofs

theorem laidOut : laidOutB Tryd.prog = true := by kernel_rfl
theorem ctInt : Tryd.prog.cellsOf 3 = 1 := by kernel_rfl
theorem ctBool : Tryd.prog.cellsOf 4 = 1 := by kernel_rfl
theorem uInt : Tryd.prog.underlying 3 = some (.int .i64) := Tryd.underlying3
theorem uBool : Tryd.prog.underlying 4 = some .bool := Tryd.underlying4
theorem own : ownKnob Tryd.prog.godebug = none := by kernel_rfl

end Go.Gx.S
end

section
/- Addresses, bytes and texts among the program's types. -/
set_option maxRecDepth 100000
namespace Go.Gx.S
open Go Go.Gx Go.Proofs

theorem ctByte : Tryd.prog.cellsOf 5 = 1 := by kernel_rfl
theorem ctMac : Tryd.prog.cellsOf 23 = 6 := by kernel_rfl
instance : MacT Tryd.prog 23 5 := ⟨Tryd.underlying23, Tryd.underlying5, ctByte, ctMac⟩
instance : StrT Tryd.prog 9 := ⟨Tryd.underlying9⟩
instance : ByT Tryd.prog 24 := ⟨⟨_, Tryd.underlying24, Tryd.underlying5⟩⟩

end Go.Gx.S
end

section
/- Tables of VLANs: what they come to, in plain Lean. -/
namespace Go.Gx
open Go

/-- members, in the order in which they came, and the native VLANs of the ports -/
structure VT where
  tab : List ((Int × Int) × Bool)
  nat : List Int

namespace VT
def port (t : VT) (p : Int) : Prop := 0 ≤ p ∧ p < t.nat.length
instance (t : VT) (p : Int) : Decidable (t.port p) := by unfold port; infer_instance
def right (t : VT) (v p : Int) : Prop := 1 ≤ v ∧ v ≤ 4094 ∧ t.port p
instance (t : VT) (v p : Int) : Decidable (t.right v p) := by unfold right; infer_instance
structure ok (t : VT) : Prop where
  len : t.nat.length ≤ 64
  key : ∀ x ∈ t.tab, t.right x.1.1 x.1.2
  nat : ∀ n ∈ t.nat, 0 ≤ n ∧ n ≤ 4094
  nd : (t.tab.map Prod.fst).Nodup

def new (n : Nat) : VT := ⟨[], List.replicate n 0⟩
def add (t : VT) (v p : Int) (b : Bool) : VT × Int := if t.right v p then ({ t with tab := setL t.tab (v, p) b }, 0) else (t, 1)
def remove (t : VT) (v p : Int) : VT × Int := if t.right v p then (if (getL t.tab (v, p)).isSome then ({ t with tab := delL t.tab (v, p) }, 0) else (t, 4)) else (t, 1)
def native (t : VT) (p v : Int) : VT × Int := if t.port p ∧ 0 ≤ v ∧ v ≤ 4094 then ({ t with nat := t.nat.set p.toNat v }, 0) else (t, 1)
def is (t : VT) (v p : Int) : Bool := (getL t.tab (v, p)).isSome
def members (t : VT) (v : Int) : List Int := ((List.range t.nat.length).map Int.ofNat).filter fun p => t.is v p
def inn (t : VT) (p : Int) (f : Frm) (n : Nat) : Int × Int :=
  if t.port p ∧ f.right n = true then
    let v := if f.vlan = 0 then t.nat.getD p.toNat 0 else f.vlan
    if t.is v p then (v, 0) else (0, 4)
  else (0, 1)
def out (t : VT) (v p : Int) (f : Frm) (n : Nat) : Frm × Int :=
  if t.right v p ∧ f.right n = true then
    match getL t.tab (v, p) with
    | none => (zFrm, 4)
    | some true => (f.tag v f.prio, 0)
    | some false => (f.untag, 0)
  else (zFrm, 1)

theorem ok_new {n : Nat} (h : n ≤ 64) : (new n).ok := ⟨by simpa [new] using h, by simp [new], by simp [new], by simp [new]⟩

theorem setL_mem {κ ν : Type} [DecidableEq κ] {l : List (κ × ν)} {k : κ} {v : ν} {x : κ × ν} (h : x ∈ setL l k v) : x = (k, v) ∨ x ∈ l := by
  unfold setL at h
  split at h
  · rw [List.mem_map] at h
    obtain ⟨p, hp, rfl⟩ := h
    split
    · exact .inl rfl
    · exact .inr hp
  · rcases List.mem_append.1 h with h | h
    · exact .inr h
    · simp at h; exact .inl h

theorem setL_nodup {κ ν : Type} [DecidableEq κ] {l : List (κ × ν)} {k : κ} {v : ν} (h : (l.map Prod.fst).Nodup) : ((setL l k v).map Prod.fst).Nodup := by
  rw [setL_keys]
  split
  · exact h
  · rename_i hn
    rw [List.nodup_append]
    refine ⟨h, by simp, ?_⟩
    intro a ha b hb
    simp at hb
    subst hb
    obtain ⟨p, hp, rfl⟩ := List.mem_map.1 ha
    refine not_key ?_ p hp
    cases hl : getL l b with
    | none => rfl
    | some v => rw [hl] at hn; exact absurd rfl hn

theorem delL_sub {κ ν : Type} [DecidableEq κ] (l : List (κ × ν)) (k : κ) : (delL l k).Sublist l := List.filter_sublist

theorem ok_add {t : VT} (h : t.ok) (v p : Int) (b : Bool) : (t.add v p b).1.ok := by
  unfold add
  split
  · rename_i hr
    refine ⟨h.len, fun x hx => ?_, h.nat, setL_nodup h.nd⟩
    rcases setL_mem hx with rfl | hx
    · exact hr
    · exact h.key x hx
  · exact h
theorem ok_remove {t : VT} (h : t.ok) (v p : Int) : (t.remove v p).1.ok := by
  unfold remove
  split
  · split
    · exact ⟨h.len, fun x hx => h.key x ((delL_sub _ _).subset hx), h.nat, h.nd.sublist ((delL_sub _ _).map _)⟩
    · exact h
  · exact h
theorem ok_native {t : VT} (h : t.ok) (p v : Int) : (t.native p v).1.ok := by
  unfold native
  split
  · rename_i hr
    refine ⟨by simpa using h.len, fun x hx => ?_, fun n hn => ?_, h.nd⟩
    · have := h.key x hx
      unfold right port at this ⊢
      simpa using this
    · rcases List.mem_or_eq_of_mem_set hn with hn | rfl
      · exact h.nat n hn
      · exact ⟨hr.2.1, hr.2.2⟩
  · exact h
theorem is_right {t : VT} (h : t.ok) {v p : Int} (hi : t.is v p = true) : t.right v p := by
  obtain ⟨b, hb⟩ := Option.isSome_iff_exists.1 hi
  exact h.key _ (lookup_some_mem hb)

theorem tag_right {f : Frm} {n : Nat} (h : f.right n = true) {v : Int} (h1 : 1 ≤ v) (h2 : v ≤ 4094) : (f.tag v f.prio).right n = true := by
  unfold Frm.right Frm.tag at *
  simp only [Bool.and_eq_true, decide_eq_true_eq, if_true] at h ⊢
  obtain ⟨h3, h4⟩ := h
  refine ⟨h3, ?_⟩
  split at h4 <;> simp only [decide_eq_true_eq] at h4 <;> omega

/-! ### Where a key stands -/

theorem get_at {κ ν : Type} [DecidableEq κ] {l : List (κ × ν)} {k : κ} {v : ν} (h : getL l k = some v) : ∃ j : Nat, l[j]? = some (k, v) := by
  obtain ⟨j, hj⟩ := List.mem_iff_getElem?.1 (lookup_some_mem h)
  exact ⟨j, hj⟩

theorem nodup_at {κ ν : Type} {l : List (κ × ν)} (hn : (l.map Prod.fst).Nodup) {i j : Nat} {p q : κ × ν} (hi : l[i]? = some p) (hj : l[j]? = some q) (h : p.1 = q.1) : i = j := by
  have hi' := (List.getElem?_eq_some_iff.1 hi)
  have hj' := (List.getElem?_eq_some_iff.1 hj)
  obtain ⟨h1, h2⟩ := hi'
  obtain ⟨h3, h4⟩ := hj'
  have : (l.map Prod.fst)[i]'(by simpa using h1) = (l.map Prod.fst)[j]'(by simpa using h3) := by
    simp only [List.getElem_map]
    rw [h2, h4, h]
  exact (List.getElem_inj hn).1 this

theorem setL_at {κ ν : Type} [DecidableEq κ] {l : List (κ × ν)} (hn : (l.map Prod.fst).Nodup) {j : Nat} {k : κ} {u : ν} (hj : l[j]? = some (k, u)) (v : ν) : setL l k v = l.set j (k, v) := by
  unfold setL
  rw [if_pos (by rw [lookup_of_mem hn (List.mem_of_getElem? hj)]; rfl)]
  apply List.ext_getElem?
  intro i
  rw [List.getElem?_map, List.getElem?_set]
  have hlt := (List.getElem?_eq_some_iff.1 hj).1
  by_cases e : j = i
  · subst e
    rw [if_pos rfl, if_pos hlt, hj]
    simp
  · rw [if_neg e]
    cases hq : l[i]? with
    | none => rfl
    | some q =>
      rw [Option.map_some, if_neg]
      intro hqk
      exact e (nodup_at hn hj hq hqk.symm)

theorem setL_new {κ ν : Type} [DecidableEq κ] {l : List (κ × ν)} {k : κ} (h : getL l k = none) (v : ν) : setL l k v = l ++ [(k, v)] := by
  unfold setL
  rw [if_neg (by rw [h]; simp)]

theorem delL_at {κ ν : Type} [DecidableEq κ] {l : List (κ × ν)} (hn : (l.map Prod.fst).Nodup) {j : Nat} {k : κ} {u : ν} (hj : l[j]? = some (k, u)) : delL l k = l.take j ++ l.drop (j + 1) := by
  unfold delL
  induction l generalizing j with
  | nil => cases hj
  | cons q l ih =>
    rw [List.map_cons, List.nodup_cons] at hn
    cases j with
    | zero =>
      cases hj
      rw [List.filter_cons, if_neg (by simp), List.take_zero, List.nil_append, List.drop_succ_cons, List.drop_zero]
      apply List.filter_eq_self.2
      intro a ha
      simp only [decide_eq_true_eq]
      intro e
      exact hn.1 (List.mem_map.2 ⟨a, ha, e⟩)
    | succ j =>
      rw [List.getElem?_cons_succ] at hj
      have hne : q.1 ≠ k := fun e => hn.1 (by rw [e]; exact List.mem_map_of_mem (f := Prod.fst) (List.mem_of_getElem? hj))
      rw [List.filter_cons, if_pos (by simpa using hne), List.take_succ_cons, List.drop_succ_cons, List.cons_append, ih hn.2 hj]

theorem nodup_short : ∀ (n : Nat) (l : List Nat), l.Nodup → (∀ x ∈ l, x < n) → l.length ≤ n
  | 0, [], _, _ => Nat.le_refl _
  | 0, x :: l, _, h => by have := h x (List.mem_cons_self ..); omega
  | n + 1, l, hn, h => by
    have ih := nodup_short n (l.filter fun x => decide (x ≠ n)) (hn.filter _) (fun x hx => by
      have h1 := h x (List.mem_filter.1 hx).1
      have h2 : x ≠ n := by simpa using (List.mem_filter.1 hx).2
      omega)
    have key : ∀ l : List Nat, l.Nodup → l.length ≤ (l.filter fun x => decide (x ≠ n)).length + 1 := by
      intro l hn
      induction l with
      | nil => simp
      | cons a l ih =>
        rw [List.nodup_cons] at hn
        rw [List.filter_cons]
        by_cases e : a = n
        · subst e
          rw [if_neg (by simp)]
          have : l.filter (fun x => decide (x ≠ a)) = l := List.filter_eq_self.2 fun x hx => by
            simp only [decide_eq_true_eq]
            intro e
            exact hn.1 (e ▸ hx)
          rw [this]; simp
        · rw [if_pos (by simpa using e)]
          have := ih hn.2
          simp only [List.length_cons]; omega
    have := key l hn
    omega

theorem small {t : VT} (h : t.ok) : t.tab.length ≤ 262144 := by
  have h1 := h.len
  have := nodup_short (4095 * 64) ((t.tab.map Prod.fst).map fun k => k.1.toNat * 64 + k.2.toNat) (by
    refine List.Pairwise.map (R := fun a b : Int × Int => a.1.toNat * 64 + a.2.toNat ≠ b.1.toNat * 64 + b.2.toNat) _ ?_ (List.Pairwise.imp_of_mem ?_ h.nd)
    · exact fun a b (h : a.1.toNat * 64 + a.2.toNat ≠ b.1.toNat * 64 + b.2.toNat) => h
    · intro a b ha hb hab he
      obtain ⟨x, hx, rfl⟩ := List.mem_map.1 ha
      obtain ⟨y, hy, rfl⟩ := List.mem_map.1 hb
      have a1 := h.key x hx
      have a2 := h.key y hy
      unfold right port at a1 a2
      apply hab
      apply Prod.ext <;> omega) (by
    intro n hn
    obtain ⟨k, hk, rfl⟩ := List.mem_map.1 hn
    obtain ⟨x, hx, rfl⟩ := List.mem_map.1 hk
    have a1 := h.key x hx
    unfold right port at a1
    omega)
  simp at this
  omega

end VT
end Go.Gx
end

section
/- Loops with more values, slices of one cell an element. -/
namespace Go.Gx
open Go
variable {P : Program} {K : Value → World → Prop} {w : World}

theorem loop2 {B : (Value → Value → World → Prop) → Value → Value → World → Prop} (I : Nat → Value → Value → World → Prop) (h : ∀ n v u w X, I n v u w → (∀ m v' u' w', m < n → I m v' u' w' → X v' u' w') → B X v u w) (n : Nat) {v u : Value} (h0 : I n v u w) : loopJ 2 B v u w := by
  intro X hX
  have key : ∀ n v u w, (∃ m, m ≤ n ∧ I m v u w) → X v u w := by
    intro n
    induction n with
    | zero =>
      rintro v u w ⟨m, hm, hi⟩
      obtain rfl : m = 0 := by omega
      exact hX v u w (h 0 v u w X hi fun m v' u' w' hm _ => by omega)
    | succ n ih =>
      rintro v u w ⟨m, hm, hi⟩
      exact hX v u w (h m v u w X hi fun k v' u' w' hk hi' => ih v' u' w' ⟨k, by omega, hi'⟩)
  exact key n v u w ⟨n, Nat.le_refl _, h0⟩

theorem loop3 {B : (Value → Value → Value → World → Prop) → Value → Value → Value → World → Prop} (I : Nat → Value → Value → Value → World → Prop) (h : ∀ n v u x w X, I n v u x w → (∀ m v' u' x' w', m < n → I m v' u' x' w' → X v' u' x' w') → B X v u x w) (n : Nat) {v u x : Value} (h0 : I n v u x w) : loopJ 3 B v u x w := by
  intro X hX
  have key : ∀ n v u x w, (∃ m, m ≤ n ∧ I m v u x w) → X v u x w := by
    intro n
    induction n with
    | zero =>
      rintro v u x w ⟨m, hm, hi⟩
      obtain rfl : m = 0 := by omega
      exact hX v u x w (h 0 v u x w X hi fun m v' u' x' w' hm _ => by omega)
    | succ n ih =>
      rintro v u x w ⟨m, hm, hi⟩
      exact hX v u x w (h m v u x w X hi fun k v' u' x' w' hk hi' => ih v' u' x' w' ⟨k, by omega, hi'⟩)
  exact key n v u x w ⟨n, Nat.le_refl _, h0⟩

theorem jn2 {k : Value → Value → World → Prop} {m : (Value → Value → World → Prop) → World → Prop} (Q : Value → Value → World → Prop) (h1 : ∀ v u w', Q v u w' → k v u w') (h2 : ∀ j : Value → Value → World → Prop, (∀ v u w', Q v u w' → j v u w') → m j w) : jnJ 2 k m w := h2 k h1
theorem jn3 {k : Value → Value → Value → World → Prop} {m : (Value → Value → Value → World → Prop) → World → Prop} (Q : Value → Value → Value → World → Prop) (h1 : ∀ v u x w', Q v u x w' → k v u x w') (h2 : ∀ j : Value → Value → Value → World → Prop, (∀ v u x w', Q v u x w' → j v u x w') → m j w) : jnJ 3 k m w := h2 k h1

theorem s_bs1c {T E : TypeId} {ag : Bool} {z : Value} [hT : SlT P T E] [hs : Sz P E 1 ag] [hz : ZV P E z] {x : Value} (hx : S.oneCell x = true) (hzn : z.cells.size = 1)
    (h : ∀ v' w', OwnE E 1 w' v' [[x]] → Fr none_ w w' → New w v' → K v' w') : opS P (S.buildS T 1 [(0, x)]) K w := by
  have hc : x.cells = #[x] := by cases x <;> first | rfl | cases hx
  rw [opS_buildS1 (n := 1) _ (by rw [hc]; rfl) hzn (by decide) (by decide), hc]
  refine h _ _ ⟨.inr ⟨w.heap.size, 0, 1, #[x], rfl, heap_alloc_new _ _, by simp, by simp, by simp⟩, by simp⟩ (Fr.alloc _ _ rfl) fun b hb => ?_
  cases hb; exact Nat.le_refl _

/-- what is known of a world is all that counts -/
theorem at_w (Q : World → Prop) {G : World → Prop} {W : World} (hQ : Q W) (h : ∀ W, Q W → G W) : G W := h W hQ

/-- whole numbers as elements -/
def cellI (n : Int) : List Value := [i64 n]
theorem flat_cellI (l : List Int) : (l.map cellI).flatten = l.map i64 := by
  induction l with
  | nil => rfl
  | cons b bs ih => simp [cellI, ih]
theorem flat_cellI_one (l : List Int) : (l.map cellI).flatten.all S.oneCell = true := by
  rw [flat_cellI, List.all_map, List.all_eq_true]
  intro x _
  rfl

/-- the empty slice -/
theorem own_nil (E sz : Nat) (w : World) : OwnE E sz w (.slice none 0 0) [] := ⟨.inl ⟨rfl, rfl, rfl⟩, by simp⟩

/-- 'append(v, x)': x has one cell -/
theorem s_app1 {T T2 T3 E by_ : TypeId} {ag : Bool} {z : Value} [hT : SlT P T E] [hT2 : SlT P T2 E] [hT3 : SlT P T3 E] [hs : Sz P E 1 ag] [hb : By P E by_] [hz : ZV P E z] {ty : TypeId} {v : Value} {es : List (List Value)} {x : Value}
    (hx : S.oneCell x = true) (hzn : z.cells.size = 1) (hby : 0 < by_) (hv : OwnE E 1 w v es) (hroom : (2 * (es.length + 1) + 192) * by_ ≤ 2 ^ 48)
    (h : ∀ v' w', OwnE E 1 w' v' (es ++ [[x]]) → (blkS v' = blkS v ∨ New w v') → Fr (fun b => blkS v = some b) w w' → K v' w') :
    opS P (S.buildS T3 1 [(0, x)]) (fun y => opS P (S.bi .append #[T, T2] ty [v, y]) K) w := by
  refine s_bs1c hx hzn fun y w1 hy hF1 hN => ?_
  have hv1 := hv.fr hF1 (fun _ _ h => h)
  refine s_app hzn hby hv1 hy.rd (by simp [hx]) (by simpa using hroom) fun v' w' h1 h2 h3 => h v' w' h1 ?_ (Fr.trans (hF1.mono fun _ _ h => h.elim) h3)
  rcases h2 with h2 | h2
  · exact .inl h2
  · exact .inr fun b hb => Nat.le_trans hF1.size (h2 b hb)

theorem splice_get {l vs : List Value} {o : Nat} (h : o + vs.length ≤ l.length) (j : Nat) : (splice l o vs)[j]? = if j < o then l[j]? else if j < o + vs.length then vs[j - o]? else l[j]? := by
  unfold splice
  have ht : (l.take o).length = o := by rw [List.length_take]; omega
  by_cases h1 : j < o
  · rw [if_pos h1, List.append_assoc, List.getElem?_append_left (by omega), List.getElem?_take_of_lt h1]
  · rw [if_neg h1]
    by_cases h2 : j < o + vs.length
    · rw [if_pos h2, List.append_assoc, List.getElem?_append_right (by omega), ht, List.getElem?_append_left (by omega)]
    · rw [if_neg h2, List.getElem?_append_right (by rw [List.length_append]; omega), List.length_append, ht, List.getElem?_drop]
      congr 1
      omega

/-- one cell of an element -/
theorem splice_field {l e : List Value} {p f : Nat} {v : Value} (h : p + e.length ≤ l.length) (he : (l.drop p).take e.length = e) (hf : f < e.length) : splice l (p + f) [v] = splice l p (e.set f v) := by
  apply List.ext_getElem?
  intro j
  rw [splice_get (by simp; omega), splice_get (by simp; omega)]
  simp only [List.length_singleton, List.length_set]
  by_cases h1 : j < p
  · rw [if_pos (by omega), if_pos h1]
  · rw [if_neg h1]
    by_cases h2 : j < p + e.length
    · rw [if_pos h2, List.getElem?_set]
      have hj : l[j]? = e[j - p]? := by
        have : ((l.drop p).take e.length)[j - p]? = e[j - p]? := by rw [he]
        rw [List.getElem?_take_of_lt (by omega), List.getElem?_drop] at this
        rw [← this]; congr 1; omega
      by_cases h3 : j < p + f
      · rw [if_pos h3, if_neg (by omega), hj]
      · rw [if_neg h3]
        by_cases h4 : j = p + f
        · subst h4
          rw [if_pos (by omega), if_pos (by omega), if_pos hf]
          simp
        · rw [if_neg (by omega), if_neg (by omega), hj]
    · rw [if_neg (by omega), if_neg (by omega), if_neg h2]

/-- one cell of an element is written -/
theorem OwnE.putF {E sz : Nat} {b o c i f : Nat} {es : List (List Value)} (h : OwnE E sz w (.slice (some ⟨b, o, none⟩) es.length c) es) (hi : i < es.length) (hf : f < sz) (v : Value) :
    okAt w.heap[b]? (o + i * sz + f) 1 = true ∧ OwnE E sz (wr w b (o + i * sz + f) [v]) (.slice (some ⟨b, o, none⟩) es.length c) (es.set i (es[i].set f v)) := by
  have hlen := h.2 _ (List.getElem_mem hi)
  obtain ⟨h1, h2⟩ := h.put (i := i) (e := es[i].set f v) (by rw [List.length_set, hlen]) hi
  obtain ⟨g1, g2⟩ := h
  rcases g1 with ⟨g1, _⟩ | ⟨b', o', c', cs, hv, hb, hc, ho, hl⟩
  · cases g1
  · simp only [Value.slice.injEq, Option.some.injEq, Addr.mk.injEq] at hv
    obtain ⟨⟨rfl, rfl, _⟩, _, rfl⟩ := hv
    have hm : i * sz + sz ≤ es.length * sz := by rw [← Nat.succ_mul]; exact Nat.mul_le_mul_right _ hi
    have hm2 : es.length * sz ≤ c * sz := Nat.mul_le_mul_right _ hc
    have hel : (cs.toList.drop (o + i * sz)).take es[i].length = es[i] := by
      have := flatten_elem g2 hi 0 sz (by omega)
      rw [hl, Nat.add_zero, List.drop_zero, List.drop_take, List.drop_drop, List.take_take, Nat.min_eq_left (by omega)] at this
      rw [hlen, this, List.take_of_length_le (by omega)]
    refine ⟨?_, ?_⟩
    · rw [hb]
      show (decide (o + i * sz + f + 1 ≤ cs.size) && _) = true
      simp only [Bool.and_eq_true, decide_eq_true_eq, List.all_eq_true]
      exact ⟨by omega, fun x _ => by simp⟩
    · have hw : wr w b (o + i * sz + f) [v] = wr w b (o + i * sz) (es[i].set f v) := by
        unfold wr
        rw [hb]
        simp only []
        have hle : o + i * sz + es[i].length ≤ cs.toList.length := by have e2 : cs.toList.length = cs.size := Array.length_toList; omega
        rw [splice_field hle hel (by omega)]
      rw [hw]
      exact h2

end Go.Gx
end

section
/- Bytes that are copied, cut out, made; shifts and bits. -/
namespace Go.Gx
open Go
variable {P : Program} {K : Value → World → Prop} {w : World}

/-! ### Numbers -/

theorem wrap_u8 (x : Int) : IntKind.u8.wrap x = x % 256 := by
  unfold IntKind.wrap
  have e1 : (2 : Int) ^ IntKind.u8.bits = 256 := rfl
  have e3 : IntKind.u8.signed = false := rfl
  simp only [e1, e3, Bool.false_and, Bool.false_eq_true, if_false]

theorem opS_shr (k k' : IntKind) (x : Int) (n : Nat) (hn : n ≤ k.bits) : opS P (S.binI .shr (.int k x) (.int k' n)) K w = K (.int k (x / 2 ^ n)) w := by
  have h : ¬ ((n : Int) < 0) := by omega
  have e : x.fdiv (2 ^ n) = x / 2 ^ n := Int.fdiv_eq_ediv_of_nonneg x (Int.le_of_lt (Int.pow_pos (by decide)))
  simp [S.binI, binOp, Op.shift, opS, uponR, Nat.min_eq_left hn, h, e]
theorem opS_shl (k k' : IntKind) (x : Int) (n : Nat) (hn : n ≤ k.bits) : opS P (S.binI .shl (.int k x) (.int k' n)) K w = K (.int k (k.wrap (x * 2 ^ n))) w := by
  have h : ¬ ((n : Int) < 0) := by omega
  simp [S.binI, binOp, Op.shift, opS, uponR, Nat.min_eq_left hn, h]

theorem ofInt_nat {n : Nat} {x : Int} (h0 : 0 ≤ x) : BitVec.ofInt n x = BitVec.ofNat n x.toNat := by
  obtain ⟨k, rfl⟩ := Int.eq_ofNat_of_zero_le h0
  simp

/-- bits that do not meet -/
theorem opS_or {x y : Int} (m : Nat) (hx : 0 ≤ x) (hx2 : x < 2 ^ 62) (hy : 0 ≤ y) (hy2 : y < 2 ^ m) (hm : x % 2 ^ m = 0) (hm2 : m ≤ 62) : opS P (S.binI .or (.int .i64 x) (.int .i64 y)) K w = K (.int .i64 (x + y)) w := by
  obtain ⟨a, rfl⟩ := Int.eq_ofNat_of_zero_le hx
  obtain ⟨b, rfl⟩ := Int.eq_ofNat_of_zero_le hy
  have hb : b < 2 ^ m := by exact_mod_cast hy2
  have ha : a < 2 ^ 62 := by exact_mod_cast hx2
  have hd : a % 2 ^ m = 0 := by exact_mod_cast hm
  have hpm : 2 ^ m ≤ 2 ^ 62 := Nat.pow_le_pow_right (by decide) hm2
  have e : (BitVec.ofInt 64 (a : Int) ||| BitVec.ofInt 64 (b : Int)).toNat = a + b := by
    rw [ofInt_nat (by omega), ofInt_nat (by omega), BitVec.toNat_or]
    simp only [Int.toNat_natCast, BitVec.toNat_ofNat]
    rw [Nat.mod_eq_of_lt (by omega), Nat.mod_eq_of_lt (by omega)]
    have : a = a / 2 ^ m * 2 ^ m := by
      have := Nat.div_add_mod a (2 ^ m)
      rw [hd, Nat.mul_comm] at this
      omega
    rw [this, ← Nat.shiftLeft_eq, ← Nat.shiftLeft_add_eq_or_of_lt hb]
  have hw : IntKind.i64.wrap ((a + b : Nat) : Int) = (a : Int) + b := by
    rw [wrap_i64 (by omega)]; simp
  unfold S.binI
  simp only []
  have : (binOp .or 0 (.int .i64 (a : Int)) (.int .i64 (b : Int))).run P w = .ok (.int .i64 ((a : Int) + b)) w := by
    show (Op.intBits .or .i64 (a : Int) (b : Int)).run P w = _
    unfold Op.intBits
    show Result.ok (Value.int .i64 (IntKind.i64.wrap ((BitVec.ofInt 64 (a : Int) ||| BitVec.ofInt 64 (b : Int)).toNat : Int))) w = _
    rw [e, hw]
  rw [opS_bind, this]

/-- the low bits -/
theorem opS_and {x : Int} (m : Nat) (hx : 0 ≤ x) (hx2 : x < 2 ^ 62) (hm : m ≤ 62) : opS P (S.binI .and (.int .i64 x) (.int .i64 (2 ^ m - 1))) K w = K (.int .i64 (x % 2 ^ m)) w := by
  obtain ⟨a, rfl⟩ := Int.eq_ofNat_of_zero_le hx
  have ha : a < 2 ^ 62 := by exact_mod_cast hx2
  have hpm : 2 ^ m ≤ 2 ^ 62 := Nat.pow_le_pow_right (by decide) hm
  have hp0 : 0 < 2 ^ m := Nat.pow_pos (by decide)
  have eb : ((2 : Int) ^ m - 1) = ((2 ^ m - 1 : Nat) : Int) := by
    rw [Int.natCast_sub (by omega)]; simp
  have e : (BitVec.ofInt 64 (a : Int) &&& BitVec.ofInt 64 ((2 : Int) ^ m - 1)).toNat = a % 2 ^ m := by
    rw [eb, ofInt_nat (by omega), ofInt_nat (by omega), BitVec.toNat_and]
    simp only [Int.toNat_natCast, BitVec.toNat_ofNat]
    rw [Nat.mod_eq_of_lt (by omega), Nat.mod_eq_of_lt (by omega), Nat.and_two_pow_sub_one_eq_mod]
  have hlt : a % 2 ^ m < 2 ^ m := Nat.mod_lt _ hp0
  have hw : IntKind.i64.wrap ((a % 2 ^ m : Nat) : Int) = (a : Int) % 2 ^ m := by
    rw [wrap_i64 (by omega)]; simp
  unfold S.binI
  simp only []
  have : (binOp .and 0 (.int .i64 (a : Int)) (.int .i64 ((2 : Int) ^ m - 1))).run P w = .ok (.int .i64 ((a : Int) % 2 ^ m)) w := by
    show Result.ok (Value.int .i64 (IntKind.i64.wrap ((BitVec.ofInt 64 (a : Int) &&& BitVec.ofInt 64 ((2 : Int) ^ m - 1)).toNat : Int))) w = _
    rw [e, hw]
  rw [opS_bind, this]

/-! ### Parts of arrays; room -/

theorem opS_slcA {T E n sz : Nat} {ag : Bool} [hT : ArT P T n E] [hs : Sz P E sz ag] (b o : Nat) : opS P (S.slc T (pt b o) none none none) K w = K (.slice (some ⟨b, o, none⟩) n n) w := by
  unfold S.slc
  rw [opS_bind]
  unfold Instr.sliceAt
  rw [Sem.run_bind, run_underlying_of hT.und, Result.andThen_ok]
  simp only []
  have : (Instr.sureAddr (pt b o)).run P w = .ok ⟨b, o, none⟩ w := rfl
  rw [Sem.run_bind, this, Result.andThen_ok]
  have hb : (Instr.sliceBounds false n n none none none).run P w = .ok (0, n, n) w := rfl
  rw [Sem.run_bind, hb, Result.andThen_ok]
  simp only []
  rw [Sem.run_bind, hs.size w, Result.andThen_ok]
  simp only [Nat.zero_mul, add_none, Nat.add_zero, ite_self, Nat.sub_zero]
  rfl

theorem opS_cap {T ty : TypeId} {E : outParam TypeId} [hT : SlT P T E] (a : Option Addr) (n c : Nat) : opS P (S.bi .cap #[T] ty [.slice a n c]) K w = K (.int .i64 c) w := by
  show opS P (do pure (Next.value (← Builtin.cap_ #[T] ty #[.slice a n c]))) K w = _
  rw [opS_bind]
  unfold Builtin.cap_
  simp only [List.getElem?_toArray, List.getElem?_cons_zero]
  rw [Sem.run_bind, run_underlying_of hT.und, Result.andThen_ok]
  rfl

theorem opS_slc0 {T E sz : Nat} {ag : Bool} [hT : SlT P T E] [hs : Sz P E sz ag] {b o n c : Nat} {k : IntKind} : opS P (S.slc T (.slice (some ⟨b, o, none⟩) n c) (some (.int k 0)) none none) K w = K (.slice (some ⟨b, o, none⟩) n c) w := by
  rw [opS_slice (run_boundsL (lo := 0) (by omega) (by omega))]
  simp [add_none]

theorem wr_nil (w : World) (b o : Nat) : wr w b o [] = w := by
  unfold wr
  split
  · rename_i c T fz h
    rw [splice_nil]
    simp only [Array.toArray_toList]
    unfold upd
    have : w.heap.setIfInBounds b (.cells c T fz) = w.heap := by
      apply Array.ext_getElem?
      intro i
      rw [Array.getElem?_setIfInBounds]
      by_cases e : b = i
      · subst e
        rw [if_pos rfl, h, if_pos (lt_of_heap h)]
      · rw [if_neg e]
    rw [this]
  · rfl

/-- 'copy' of as many as there is room for -/
theorem s_copy {T T2 E sz : Nat} {ag : Bool} {ty : TypeId} [hT : SlT P T E] [hs : Sz P E sz ag] {b o n c m : Nat} {u : Value} {k : List Value} {cs : Array Value} {TT : TypeId} (hb : w.heap[b]? = some (.cells cs TT (0, 0)))
    (hu : Rd sz w u m k) (hk : k.all S.oneCell = true) (hm : m ≤ n) (hn : o + n * sz ≤ cs.size) : opS P (S.bi .copy #[T, T2] ty [.slice (some ⟨b, o, none⟩) n c, u]) K w = K (.int .i64 m) (wr w b o k) := by
  show opS P (do pure (Next.value (← Builtin.copy_ #[T, T2] ty #[.slice (some ⟨b, o, none⟩) n c, u]))) K w = _
  rw [opS_bind]
  unfold Builtin.copy_
  simp only [List.getElem?_toArray, List.getElem?_cons_zero, List.getElem?_cons_succ]
  rw [Sem.run_bind, run_underlying_of hT.und, Result.andThen_ok]
  simp only []
  obtain ⟨ua, uc, rfl⟩ := hu.form
  have hlen : (Builtin.lenOf (.slice ua m uc)).run P w = .ok m w := rfl
  have hmin : Nat.min m n = m := Nat.min_eq_left hm
  rw [Sem.run_bind, hlen, Result.andThen_ok, hmin, Sem.run_bind, hs.size w, Result.andThen_ok, Sem.run_bind, run_firstCells hu, Result.andThen_ok]
  have hkl := hu.len
  have hmul : m * sz ≤ n * sz := Nat.mul_le_mul_right _ hm
  have hst := run_storeCells (P := P) k w cs 0 o hb hk (by omega) (fun j hj => by simp)
  rw [Sem.run_bind]
  simp only [Nat.add_zero] at hst
  rw [hst, Result.andThen_ok]
  unfold wr
  rw [hb]
  rfl

theorem opS_mksc {T E n by_ : Nat} {ag : Bool} {z : Value} [hT : SlT P T E] [hs : Sz P E n ag] [hb : By P E by_] [hz : ZV P E z] (k k' : IntKind) (len cap : Int) (h0 : 0 ≤ len) (h0' : len ≤ cap) (h1 : by_ * cap ≤ 2 ^ 48) (h2 : cap < 2 ^ 62)
    (hn : z.cells.size = n) (hn0 : 0 < n) : opS P (S.mks T (.int k len) (.int k' cap)) K w = K (.slice (some ⟨w.heap.size, 0, none⟩) len.toNat cap.toNat) (w.alloc (.cells (zeros cap.toNat z.cells.toList).toArray E)) := by
  obtain ⟨i, hi, hib⟩ := hb.bytes
  unfold S.mks
  rw [opS_bind]
  unfold Instr.makeSlice
  rw [Sem.run_bind, run_underlying_of hT.und, Result.andThen_ok]
  have hw : IntKind.i64.wrap len = len := wrap_i64 (by omega)
  have hw' : IntKind.i64.wrap cap = cap := wrap_i64 (by omega)
  simp only [asInt, asIntOf, pure_bind, hw, hw']
  rw [Sem.run_bind, hi w, Result.andThen_ok]
  have ht : (decide (cap < 0) || decide ((i.bytes : Int) * cap > 2 ^ 48)) = false := by
    rw [hib]; simp; omega
  have hc : ((decide (cap < 0) || decide ((i.bytes : Int) * cap > 2 ^ 48)) || decide (len < 0) || decide (len > cap)) = false := by
    rw [ht]; simp; omega
  simp only [hc, Bool.false_eq_true, if_false]
  have har : (askRoom (cap.toNat * i.bytes)).run P w = .ok () w := by
    unfold askRoom; split <;> rfl
  rw [Sem.run_bind, har, Result.andThen_ok, Sem.run_bind, hs.size w, Result.andThen_ok]
  have hrz := range_zeros cap.toNat z.cells
  rw [hn] at hrz
  by_cases hz0 : cap.toNat * n = 0
  · rw [if_pos hz0, Sem.run_bind]
    have hl0 : cap.toNat = 0 := by
      rcases Nat.mul_eq_zero.1 hz0 with h | h
      · exact h
      · omega
    have e0 : Array.range 0 = #[] := by simp
    simp only [hl0, Nat.zero_mul, e0, Array.map_empty]
    rfl
  · rw [if_neg hz0, Sem.run_bind, hz.zero w, Result.andThen_ok, Sem.run_bind, hn, hrz]
    rfl

/-- 'append([]T(nil), make([]T, n)...)' -/
theorem s_appmk {T T2 E sz by_ : Nat} {ag : Bool} {z : Value} {ty : TypeId} [hT : SlT P T E] (hT2 : P.underlying T2 = some (.int .i64)) [hs : Sz P E sz ag] [hb : By P E by_] [hz : ZV P E z] {n : Nat} (hn : 0 < n) (hzn : z.cells.size = sz) (hsz : 0 < sz) (hby : 0 < by_) (hroom : (2 * n + 192) * by_ ≤ 2 ^ 48)
    (h : ∀ c w', Own E sz w' (.slice (some ⟨w.heap.size, 0, none⟩) n c) n (zeros n z.cells.toList) → c < 2 ^ 63 → Fr none_ w w' → K (.slice (some ⟨w.heap.size, 0, none⟩) n c) w') : opS P (S.bi .append #[T, T2] ty [.slice none 0 0, .int .i64 n]) K w := by
  obtain ⟨inf, hi, hib⟩ := hb.bytes
  show opS P (do pure (Next.value (← Builtin.append_ #[T, T2] ty #[.slice none 0 0, .int .i64 n]))) K w
  rw [opS_bind]
  unfold Builtin.append_
  simp only [List.getElem?_toArray, List.getElem?_cons_zero, List.getElem?_cons_succ]
  rw [Sem.run_bind, run_underlying_of hT.und, Result.andThen_ok]
  simp only []
  rw [Sem.run_bind, hs.size w, Result.andThen_ok, Sem.run_bind, run_underlying_of hT2, Result.andThen_ok]
  have hnn : (2 * n + 192) ≤ 2 ^ 48 := Nat.le_trans (Nat.le_mul_of_pos_right _ hby) hroom
  have hw : IntKind.i64.wrap (n : Int) = n := wrap_i64 (by omega)
  simp only [pure_bind, Bool.not_true, Bool.false_eq_true, if_false, if_true, asInt, asIntOf, hw]
  rw [if_neg (by omega)]
  have hnb : n * by_ ≤ 2 ^ 48 := Nat.le_trans (Nat.mul_le_mul_right by_ (by omega)) hroom
  rw [Sem.run_bind, hi w, Result.andThen_ok, if_neg (by rw [hib]; omega)]
  simp only [Int.toNat_natCast, Nat.zero_add]
  rw [if_neg (by omega)]
  have hg : ¬ (((n : Nat) : Int) > IntKind.i64.max) := by
    have e2 : IntKind.i64.max = 9223372036854775807 := rfl
    rw [e2]; omega
  have hg2 : ¬ (Builtin.nextslicecap n 0 * inf.bytes > 2 ^ 48) := by
    have : Builtin.nextslicecap n 0 = n := by unfold Builtin.nextslicecap; rw [if_pos (by omega)]
    rw [this, hib]; omega
  have har : ∀ x w', (askRoom x).run P w' = .ok () w' := by
    intro x w'; unfold askRoom; split <;> rfl
  rw [Sem.run_bind, hi w, Result.andThen_ok, if_neg (by simp; omega), Sem.run_bind, hi w, Result.andThen_ok, if_neg hg2]
  rw [Sem.run_bind, run_choose rfl, Result.andThen_ok, Sem.run_bind, hi _, Result.andThen_ok, Sem.run_bind, har, Result.andThen_ok]
  have hfc : ∀ w', (Builtin.firstCells sz 0 (.slice none 0 0)).run P w' = .ok #[] w' := fun _ => rfl
  rw [Sem.run_bind, hfc, Result.andThen_ok, if_neg (by have := Nat.mul_pos hn hsz; omega), Sem.run_bind, Sem.run_bind, hz.zero, Result.andThen_ok, Sem.run_pure, Result.andThen_ok, Sem.run_bind, hz.zero, Result.andThen_ok, run_zeroCells_ok, run_zeroCells_ok]
  have hq : ∀ q : Nat, (Question.appendCap n 0 E).cut q = n + q % (2 ^ 63 - n) := fun _ => rfl
  rw [hq]
  have hlt : ∀ q : Nat, q % (2 ^ 63 - n) < 2 ^ 63 - n := fun q => Nat.mod_lt _ (by omega)
  have hx2 := hlt (w.tape w.drawn (Question.appendCap n 0 E))
  generalize w.tape w.drawn (Question.appendCap n 0 E) % (2 ^ 63 - n) = x at *
  have hx : n + x - n = x := by omega
  rw [hx]
  have hnew : ∀ (cs : Array Value) (w' : World), (newRow E cs).run P w' = .ok ⟨w'.heap.size, 0, none⟩ (w'.alloc (.cells cs E)) := fun _ _ => rfl
  rw [Sem.run_bind, hnew, Result.andThen_ok]
  simp only [Sem.run_pure]
  have hcs : (#[] ++ (zeros n z.cells.toList).toArray ++ (zeros x z.cells.toList).toArray).toList = zeros n z.cells.toList ++ zeros x z.cells.toList := by simp
  have hzl : ∀ y, (zeros y z.cells.toList).length = y * sz := fun y => by rw [zeros_length]; simp [hzn]
  refine h _ _ (.inr ⟨w.heap.size, 0, n + x, _, rfl, heap_alloc_new w.drew _, by omega, ?_, ?_⟩) (by omega) ((Fr.drew w).trans (Fr.alloc _ _ rfl))
  · rw [← Array.length_toList, hcs, List.length_append, hzl, hzl, Nat.add_mul]; omega
  · rw [hcs, List.drop_zero, List.take_append_of_le_length (by rw [hzl]; exact Nat.le_refl _), List.take_of_length_le (by rw [hzl]; exact Nat.le_refl _)]

theorem s_bs2o {T E : TypeId} {ag : Bool} {z : Value} [hT : SlT P T E] [hs : Sz P E 1 ag] [hz : ZV P E z] {x y : Value} (hx : S.oneCell x = true) (hy : S.oneCell y = true) (hzn : z.cells.size = 1)
    (h : ∀ v' o, OwnE E 1 (w.alloc o) v' [[x], [y]] → loose o = true → New w v' → K v' (w.alloc o)) : opS P (S.buildS T 2 [(0, x), (1, y)]) K w := by
  have hc : x.cells = #[x] := by cases x <;> first | rfl | cases hx
  have hc' : y.cells = #[y] := by cases y <;> first | rfl | cases hy
  unfold S.buildS
  rw [opS_bind]
  unfold Instr.buildSlice
  rw [Sem.run_bind, run_underlying_of hT.und, Result.andThen_ok]
  simp only []
  rw [Sem.run_bind, hs.size w, Result.andThen_ok]
  simp only [Nat.mul_one]
  rw [if_neg (by omega), if_neg (by omega), Sem.run_bind, hz.zero w, Result.andThen_ok]
  have hr := range_zeros 2 z.cells
  rw [hzn] at hr
  simp only [pure_bind, hzn, Nat.mul_one] at hr ⊢
  rw [hr]
  have hzl : z.cells.toList.length = 1 := by simp [hzn]
  have hz2 : (zeros 2 z.cells.toList).length = 2 := by rw [zeros_length, hzl]
  rw [fill_cons (off := 0) (size := 1) (by simp) (by rw [hc]; rfl) (by simp [hz2]), hc]
  have e1 : (splice (zeros 2 z.cells.toList).toArray.toList 0 #[x].toList).length = 2 := by rw [splice_length] <;> simp [hz2]
  rw [fill_cons (off := 1) (size := 1) (by simp) (by rw [hc']; rfl) (by rw [List.size_toArray, e1]; exact Nat.le_refl _), hc']
  have e : splice (splice (zeros 2 z.cells.toList).toArray.toList 0 #[x].toList).toArray.toList 1 #[y].toList = [x, y] := by
    match hzs : zeros 2 z.cells.toList, hz2 with
    | [a, b], _ => rfl
  rw [e]
  simp only [Instr.fill]
  refine h _ _ ⟨.inr ⟨w.heap.size, 0, 2, #[x, y], rfl, heap_alloc_new _ _, by simp, by simp, by simp⟩, by simp⟩ rfl fun b hb => ?_
  cases hb; exact Nat.le_refl _

theorem s_bs2c {T E : TypeId} {ag : Bool} {z : Value} [hT : SlT P T E] [hs : Sz P E 1 ag] [hz : ZV P E z] {x y : Value} (hx : S.oneCell x = true) (hy : S.oneCell y = true) (hzn : z.cells.size = 1)
    (h : ∀ v' w', OwnE E 1 w' v' [[x], [y]] → Fr none_ w w' → New w v' → K v' w') : opS P (S.buildS T 2 [(0, x), (1, y)]) K w :=
  s_bs2o hx hy hzn fun v' o h1 h2 h3 => h v' _ h1 (Fr.alloc _ _ h2) h3

theorem RdE.cap {sz : Nat} {v : Value} {es : List (List Value)} (h : RdE sz w v es) : ∃ a c, v = .slice a es.length c ∧ es.length ≤ c := by
  rcases h.1 with ⟨⟨a, c, rfl⟩, h2, _⟩ | ⟨b, o, c, cs, T, fz, rfl, _, hc, _⟩
  · exact ⟨a, c, by rw [h2], by omega⟩
  · exact ⟨_, c, rfl, hc⟩

/-- 'v[:k]' -/
theorem s_slcH {T E sz : Nat} {ag : Bool} [hT : SlT P T E] [hs : Sz P E sz ag] {v : Value} {es : List (List Value)} (h : RdE sz w v es) {k : Nat} (hk : k ≤ es.length) (hK : ∀ v', RdE sz w v' (es.take k) → K v' w) : opS P (S.slc T v none (some (.int .i64 k)) none) K w := by
  obtain ⟨a, c, rfl, hc⟩ := h.cap
  rw [opS_slice (run_boundsH (hi := (k : Int)) (by omega) (by omega))]
  have := h.part (l := 0) (m := k) (by omega) hk
  rw [List.drop_zero] at this
  exact hK _ this

/-- 'v[k:]' -/
theorem s_slcL {T E sz : Nat} {ag : Bool} [hT : SlT P T E] [hs : Sz P E sz ag] {v : Value} {es : List (List Value)} (h : RdE sz w v es) {k : Nat} (hk : k ≤ es.length) (hK : ∀ v', RdE sz w v' (es.drop k) → K v' w) : opS P (S.slc T v (some (.int .i64 k)) none none) K w := by
  obtain ⟨a, c, rfl, hc⟩ := h.cap
  rw [opS_slice (run_boundsL (lo := (k : Int)) (by omega) (by omega))]
  have := h.part (l := k) (m := es.length) hk (Nat.le_refl _)
  rw [List.take_length] at this
  exact hK _ this

/-! ### What one holds, by cells -/

/-- a part of what one holds is written -/
theorem Own.copy {E b o c n m : Nat} {l js k : List Value} (h : Own E 1 w (.slice (some ⟨b, o, none⟩) (n + m) c) (n + m) (l ++ js)) (hl : l.length = n) (hk : k.length = m) :
    Own E 1 (wr w b (o + n) k) (.slice (some ⟨b, o, none⟩) (n + m) c) (n + m) (l ++ k) := by
  rcases h with ⟨h, _⟩ | ⟨b', o', c', cs, hv, hb, hc, ho, he⟩
  · cases h
  · simp only [Value.slice.injEq, Option.some.injEq, Addr.mk.injEq, and_true, true_and] at hv
    obtain ⟨⟨rfl, rfl⟩, rfl⟩ := hv
    have hsz : cs.toList.length = cs.size := Array.length_toList
    refine .inr ⟨b, o, c, (splice cs.toList (o + n) k).toArray, rfl, ?_, hc, ?_, ?_⟩
    · rw [heap_wr, if_pos rfl, hb]; rfl
    · rw [List.size_toArray, splice_length (by omega)]; simpa using ho
    · have := splice_window (l := cs.toList) (k := k) (o := o) (a := n) (by omega)
      show l ++ k = List.take _ (List.drop o (splice cs.toList (o + n) k))
      rw [Nat.mul_one, ← hk, this]
      congr 1
      have := congrArg (List.take n) he
      rw [← hl, List.take_left, List.take_take] at this
      rw [hl, Nat.mul_one, Nat.min_eq_left (by omega)] at this
      exact this

theorem Own.splice {E b o c n a : Nat} {l k : List Value} (h : Own E 1 w (.slice (some ⟨b, o, none⟩) n c) n l) (ha : a + k.length ≤ n) :
    Own E 1 (wr w b (o + a) k) (.slice (some ⟨b, o, none⟩) n c) n (Gx.splice l a k) := by
  rcases h with ⟨h, _⟩ | ⟨b', o', c', cs, hv, hb, hc, ho, rfl⟩
  · cases h
  · simp only [Value.slice.injEq, Option.some.injEq, Addr.mk.injEq, and_true, true_and] at hv
    obtain ⟨⟨rfl, rfl⟩, rfl⟩ := hv
    have hsz : cs.toList.length = cs.size := Array.length_toList
    refine .inr ⟨b, o, c, (Gx.splice cs.toList (o + a) k).toArray, rfl, ?_, hc, ?_, ?_⟩
    · rw [heap_wr, if_pos rfl, hb]; rfl
    · rw [List.size_toArray, splice_length (by omega)]; simpa using ho
    · rw [Nat.mul_one, splice_sub (by omega) ha]

/-- more of what one holds, as far as there is room -/
theorem Own.more {E b o c n : Nat} {l : List Value} (h : Own E 1 w (.slice (some ⟨b, o, none⟩) n c) n l) {m : Nat} (hm : n + m ≤ c) :
    ∃ js : List Value, js.length = m ∧ Own E 1 w (.slice (some ⟨b, o, none⟩) (n + m) c) (n + m) (l ++ js) := by
  have hl := h.rd.len
  rcases h with ⟨h, _⟩ | ⟨b', o', c', cs, hv, hb, hc, ho, rfl⟩
  · cases h
  · simp only [Value.slice.injEq, Option.some.injEq, Addr.mk.injEq, and_true, true_and] at hv
    obtain ⟨⟨rfl, rfl⟩, rfl⟩ := hv
    have hsz : cs.toList.length = cs.size := Array.length_toList
    refine ⟨(cs.toList.drop (o + n)).take m, by rw [List.length_take, List.length_drop]; omega, .inr ⟨b, o, c, cs, rfl, hb, hm, ho, ?_⟩⟩
    rw [Nat.mul_one, Nat.mul_one, List.take_add, List.drop_drop]

theorem Own.less {E b o c n m : Nat} {l : List Value} (h : Own E 1 w (.slice (some ⟨b, o, none⟩) n c) n l) (hm : m ≤ n) : Own E 1 w (.slice (some ⟨b, o, none⟩) m c) m (l.take m) := by
  rcases h with ⟨h, _⟩ | ⟨b', o', c', cs, hv, hb, hc, ho, rfl⟩
  · cases h
  · simp only [Value.slice.injEq, Option.some.injEq, Addr.mk.injEq, and_true, true_and] at hv
    obtain ⟨⟨rfl, rfl⟩, rfl⟩ := hv
    refine .inr ⟨b, o, c, cs, rfl, hb, by omega, ho, ?_⟩
    rw [List.take_take, Nat.mul_one, Nat.mul_one, Nat.min_eq_left hm]

theorem Own.cells {E b o c n : Nat} {l : List Value} (h : Own E 1 w (.slice (some ⟨b, o, none⟩) n c) n l) : ∃ cs : Array Value, w.heap[b]? = some (.cells cs E (0, 0)) ∧ n ≤ c ∧ o + c ≤ cs.size := by
  rcases h with ⟨h, _⟩ | ⟨b', o', c', cs, hv, hb, hc, ho, _⟩
  · cases h
  · simp only [Value.slice.injEq, Option.some.injEq, Addr.mk.injEq, and_true, true_and] at hv
    obtain ⟨⟨rfl, rfl⟩, rfl⟩ := hv
    exact ⟨cs, hb, hc, by omega⟩

end Go.Gx
end

section
/- What is written into a buffer. -/
set_option linter.unusedVariables false
set_option linter.unusedSimpArgs false
set_option maxRecDepth 100000
namespace Go.Gx.S
open Go Go.Gx Go.Proofs
variable {K : Value → World → Prop} {w : World}

theorem buf_len {p n c : Nat} {a : Option Addr} {z : Value} (hp : w.heap[p]? = some (cellsO [.slice a n c, i64 0, z] 43)) (hn : n < 2 ^ 63) (h : K (i64 n) w.drew) : CallsR Tryd.prog 32 #[pt p 0] K w := by
  apply c32
  unfold p32
  simp only [push_cast, Nat.reduceAdd, Nat.reduceLeDiff, Nat.reduceLT, Int.reduceToNat, Nat.left_eq_add, Nat.add_eq_left, Nat.add_left_cancel_iff, Nat.reduceEqDiff, Nat.add_assoc, Nat.succ_ne_zero, hp, Int.sub_zero]
  rw [wrap_i64 (by omega)]
  exact h

theorem buf_bytes {p n c b o : Nat} {z : Value} (hp : w.heap[p]? = some (cellsO [.slice (some ⟨b, o, none⟩) n c, i64 0, z] 43)) (h : K (.slice (some ⟨b, o, none⟩) n c) w.drew) : CallsR Tryd.prog 23 #[pt p 0] K w := by
  apply c23
  unfold p23
  simp only [push_cast, Nat.reduceAdd, Nat.reduceLeDiff, Nat.reduceLT, Int.reduceToNat, Nat.left_eq_add, Nat.add_eq_left, Nat.add_left_cancel_iff, Nat.reduceEqDiff, Nat.add_assoc, Nat.succ_ne_zero, hp, opS_slc0]
  exact h

theorem buf_try_no {p n c m : Nat} {a : Option Addr} {z : Value} (hp : w.heap[p]? = some (cellsO [.slice a n c, i64 0, z] 43)) (hc : c < 2 ^ 63) (hn : n ≤ c) (hm : c < n + m) (h : K (.tuple #[i64 0, .bool false]) w) : CallsR Tryd.prog 26 #[pt p 0, i64 m] K w := by
  apply c26
  unfold p26
  simp only [push_cast, Nat.reduceAdd, Nat.reduceLeDiff, Nat.reduceLT, Int.reduceToNat, Nat.left_eq_add, Nat.add_eq_left, Nat.add_left_cancel_iff, Nat.reduceEqDiff, Nat.add_assoc, Nat.succ_ne_zero, hp, opS_cap]
  rw [wrap_i64 (by omega)]
  exact br_no (by omega) h

theorem buf_try_yes {p n c m b o : Nat} {z : Value} (hp : w.heap[p]? = some (cellsO [.slice (some ⟨b, o, none⟩) n c, i64 0, z] 43)) (hc : c < 2 ^ 63) (hm : n + m ≤ c) (h : K (.tuple #[i64 n, .bool true]) (wr w p 0 [.slice (some ⟨b, o, none⟩) (n + m) c])) : CallsR Tryd.prog 26 #[pt p 0, i64 m] K w := by
  apply c26
  unfold p26
  simp only [push_cast, Nat.reduceAdd, Nat.reduceLeDiff, Nat.reduceLT, Int.reduceToNat, Nat.left_eq_add, Nat.add_eq_left, Nat.add_left_cancel_iff, Nat.reduceEqDiff, Nat.add_assoc, Nat.succ_ne_zero, hp, opS_cap]
  rw [wrap_i64 (by omega)]
  refine br_yes (by omega) ?_
  rw [wrap_i64 (by omega), opS_slice (run_boundsH (hi := (n : Int) + m) (by omega) (by omega))]
  simp only [push_cast, Nat.reduceAdd, Nat.reduceLeDiff, Nat.reduceLT, Int.reduceToNat, Nat.left_eq_add, Nat.add_eq_left, Nat.add_left_cancel_iff, Nat.reduceEqDiff, Nat.add_assoc, Nat.succ_ne_zero, hp, Nat.zero_mul, Option.map_some, add_none, ite_self, Nat.sub_zero]
  have e : ((n : Int) + m).toNat = n + m := by omega
  rw [e]
  exact h

theorem take_zeros : ∀ {k n : Nat}, n ≤ k → List.take n (zeros k [u8 0]) = zeros n [u8 0]
  | 0, n, h => by
    obtain rfl : n = 0 := by omega
    rfl
  | k + 1, 0, h => rfl
  | k + 1, n + 1, h => by
    have := take_zeros (k := k) (n := n) (by omega)
    unfold zeros at *
    rw [List.replicate_succ, List.replicate_succ, List.flatten_cons, List.flatten_cons]
    simp only [List.cons_append, List.nil_append, List.take_succ_cons]
    rw [this]

theorem buf_grow0 {p m : Nat} {z : Value} (hp : w.heap[p]? = some (cellsO [.slice none 0 0, i64 0, z] 43)) (h0 : 0 < m) (hm : m ≤ 64)
    (h : ∀ b w', p < b → Own 5 1 w' (.slice (some ⟨b, 0, none⟩) m 64) m (zeros m [u8 0]) → w'.heap[p]? = some (cellsO [.slice (some ⟨b, 0, none⟩) m 64, i64 0, z] 43) → Fr (fun x => x = p) w w' → K (i64 0) w') : CallsR Tryd.prog 27 #[pt p 0, i64 m] K w := by
  apply c27
  unfold p27
  have hlt := lt_of_heap hp
  simp only [push_cast, Nat.reduceAdd, Nat.reduceLeDiff, Nat.reduceLT, Int.reduceToNat, Nat.left_eq_add, Nat.add_eq_left, Nat.add_left_cancel_iff, Nat.reduceEqDiff, Nat.add_assoc, Nat.succ_ne_zero]
  refine buf_len hp (by decide) ?_
  have hp1 : w.drew.heap[p]? = some (cellsO [.slice none 0 0, i64 0, z] 43) := hp
  have hF1 : Fr (fun x => x = p) w w.drew := Fr.drew _
  have hs1 : w.drew.heap.size = w.heap.size := rfl
  generalize w.drew = w1 at *
  rw [jn_0, jn_0]
  simp only [push_cast, Nat.reduceAdd, Nat.reduceLeDiff, Nat.reduceLT, Int.reduceToNat, Nat.left_eq_add, Nat.add_eq_left, Nat.add_left_cancel_iff, Nat.reduceEqDiff, Nat.add_assoc, Nat.succ_ne_zero, hp1]
  refine br_intro (fun _ => ?_) fun h => absurd h (by decide)
  refine br_intro (fun h => absurd h (by decide)) fun _ => ?_
  refine buf_try_no hp1 (by decide) (by decide) (by omega) ?_
  rw [jn_0]
  simp only [push_cast, Nat.reduceAdd, Nat.reduceLeDiff, Nat.reduceLT, Int.reduceToNat, Nat.left_eq_add, Nat.add_eq_left, Nat.add_left_cancel_iff, Nat.reduceEqDiff, Nat.add_assoc, Nat.succ_ne_zero, hp1, S.isNilS, Option.isNone_none]
  refine br_yes (by omega) ?_
  rw [opS_mksc (z := .int .u8 0) .i64 .i64 (m : Int) 64 (by omega) (by omega) (by omega) (by omega) rfl (by decide)]
  have hne : p ≠ w1.heap.size := by omega
  simp only [push_cast, Nat.reduceAdd, Nat.reduceLeDiff, Nat.reduceLT, Int.reduceToNat, Nat.left_eq_add, Nat.add_eq_left, Nat.add_left_cancel_iff, Nat.reduceEqDiff, Nat.add_assoc, Nat.succ_ne_zero, hp1, hne, Int.toNat_natCast]
  refine h w1.heap.size _ (by omega) (.inr ⟨w1.heap.size, 0, 64, (zeros 64 [u8 0]).toArray, rfl, ?_, by omega, by decide, ?_⟩) ?_ (Fr.step_wr (hF1.step_alloc rfl) (.inl rfl) _ _)
  · rw [heap_wr, if_neg (by omega), heap_alloc_new]; rfl
  · show _ = List.take (m * 1) (List.drop 0 (zeros 64 [u8 0]))
    rw [List.drop_zero, Nat.mul_one, take_zeros hm]
  · simp only [push_cast, Nat.reduceAdd, Nat.reduceLeDiff, Nat.reduceLT, Int.reduceToNat, Nat.left_eq_add, Nat.add_eq_left, Nat.add_left_cancel_iff, Nat.reduceEqDiff, Nat.add_assoc, Nat.succ_ne_zero, hp1, hne, Int.toNat_natCast]

theorem grow_idle (w : World) : CallsDIn Fence.wide 0 Tryd.prog 35 #[] .returning w fun e u' w' => (∃ v, e = .returned v) ∧ u' = .returning ∧ w' = w := by
  refine callsDIn_of_wpSIn Tryd.func35 rfl trivial fun c₀ cs hu => ?_
  apply wpSIn_seq
  apply wpSIn_region
  simp [wpOpsSIn, go_sem, recoverD, hu, Tryd.ntmps35, Exit.thenS]
  refine wpSIn_cond (t := false) (by simp [Act.eval, Array.replicate]) ?_
  simp only [Bool.false_eq_true, if_false]
  refine wpSIn_of_wpIn rfl (wpIn_skip ?_)
  cases c₀
  simp_all [bodyPostS, results, Tryd.results35]

theorem buf_growSlice {b o n c m : Nat} {l : List Value} (hv : Own 5 1 w (.slice (some ⟨b, o, none⟩) n c) n l) (hl : l.all S.oneCell = true) (hc : c < n + m) (hr : n + m ≤ 2 ^ 30)
    (h : ∀ c' w' js, js.length = m → Own 5 1 w' (.slice (some ⟨w.heap.size, 0, none⟩) (n + m) c') (n + m) (l ++ js) → c' < 2 ^ 63 → Fr none_ w w' → K (.slice (some ⟨w.heap.size, 0, none⟩) n c') w') :
    CallsR Tryd.prog 34 #[.slice (some ⟨b, o, none⟩) n c, i64 m] K w := by
  apply c34
  unfold p34
  obtain ⟨cs, hb, hnc, hcs⟩ := hv.cells
  simp only [push_cast, Nat.reduceAdd, Nat.reduceLeDiff, Nat.reduceLT, Int.reduceToNat, Nat.left_eq_add, Nat.add_eq_left, Nat.add_left_cancel_iff, Nat.reduceEqDiff, Nat.add_assoc, Nat.succ_ne_zero, opS_cap]
  rw [wrap_i64 (x := (n : Int) + m) (by omega)]
  refine jn1 (fun v w' => w' = w ∧ ∃ k : Nat, v = i64 k ∧ n + m ≤ k ∧ k ≤ 2 ^ 32) ?_ fun j hj => ?_
  · rintro v w' ⟨rfl, k, rfl, hk1, hk2⟩
    refine s_appmk (z := .int .u8 0) (by exact Tryd.underlying3) (by omega) rfl (by decide) (by decide) (by omega) fun c' w2 h2 hc' hF => ?_
    obtain ⟨cs2, hb2, hnc2, hcs2⟩ := h2.cells
    have hv2 := hv.frame (w' := w2) fun b' hb' => hF.old b' (by cases hb'; exact lt_of_heap hb) fun h => h
    rw [s_copy (m := n) hb2 hv2.rd hl (by omega) (by omega)]
    have hll : l.length = n := by rw [hv.rd.len, Nat.mul_one]
    have h3 := h2.splice (a := 0) (k := l) (by omega)
    rw [Nat.add_zero] at h3
    have hz : (zeros k (Value.int .u8 0).cells.toList).length = k := by rw [zeros_length]; simp [Value.cells]
    have hsp : splice (zeros k (Value.int .u8 0).cells.toList) 0 l = l ++ (zeros k (Value.int .u8 0).cells.toList).drop n := by
      unfold splice; simp [hll]
    rw [hsp] at h3
    have h4 := h3.less hk1
    have e4 : List.take (n + m) (l ++ (zeros k (Value.int .u8 0).cells.toList).drop n) = l ++ ((zeros k (Value.int .u8 0).cells.toList).drop n).take m := by
      rw [List.take_append, List.take_of_length_le (by omega), hll]; congr 2; omega
    rw [e4] at h4
    rw [opS_slice (run_boundsH (hi := (n : Int)) (by omega) (by omega))]
    simp only [push_cast, Nat.reduceAdd, Nat.reduceLeDiff, Nat.reduceLT, Int.reduceToNat, Nat.left_eq_add, Nat.add_eq_left, Nat.add_left_cancel_iff, Nat.reduceEqDiff, Nat.add_assoc, Nat.succ_ne_zero, Nat.zero_mul, Option.map_some, add_none, ite_self, Nat.sub_zero, Int.toNat_natCast]
    refine ⟨_, _, rfl, (grow_idle _).mono ?_⟩
    rintro e u' w3 ⟨he, hu, rfl⟩
    refine ⟨he, hu, h c' _ _ ?_ h4 hc' (hF.step_wr (.inr (Nat.le_refl _)) _ _)⟩
    rw [List.length_take, List.length_drop, hz]; omega
  · simp only [push_cast, Nat.reduceAdd, Nat.reduceLeDiff, Nat.reduceLT, Int.reduceToNat, Nat.left_eq_add, Nat.add_eq_left, Nat.add_left_cancel_iff, Nat.reduceEqDiff, Nat.add_assoc, Nat.succ_ne_zero, opS_cap]
    rw [wrap_i64 (x := 2 * (c : Int)) (by omega)]
    refine br_dec (fun hlt => ?_) fun hge => ?_
    · exact hj _ _ ⟨rfl, 2 * c, by simp, by omega, by omega⟩
    · exact hj _ _ ⟨rfl, n + m, by simp, by omega, by omega⟩

theorem buf_grow1 {p b o n c m : Nat} {l : List Value} {z : Value} (hp : w.heap[p]? = some (cellsO [.slice (some ⟨b, o, none⟩) n c, i64 0, z] 43)) (hv : Own 5 1 w (.slice (some ⟨b, o, none⟩) n c) n l) (hl : l.all S.oneCell = true)
    (hpb : p < b) (hc : c < n + m) (hr : n + m ≤ 2 ^ 30)
    (h : ∀ b' c' w' js, p < b' → js.length = m → Own 5 1 w' (.slice (some ⟨b', 0, none⟩) (n + m) c') (n + m) (l ++ js) → c' < 2 ^ 63 → w'.heap[p]? = some (cellsO [.slice (some ⟨b', 0, none⟩) (n + m) c', i64 0, z] 43) → Fr (fun x => x = p) w w' → K (i64 n) w') :
    CallsR Tryd.prog 27 #[pt p 0, i64 m] K w := by
  apply c27
  unfold p27
  have hlt := lt_of_heap hp
  obtain ⟨cs, hb, hnc, hcs⟩ := hv.cells
  simp only [push_cast, Nat.reduceAdd, Nat.reduceLeDiff, Nat.reduceLT, Int.reduceToNat, Nat.left_eq_add, Nat.add_eq_left, Nat.add_left_cancel_iff, Nat.reduceEqDiff, Nat.add_assoc, Nat.succ_ne_zero]
  refine buf_len hp (by omega) ?_
  have hp1 : w.drew.heap[p]? = some (cellsO [.slice (some ⟨b, o, none⟩) n c, i64 0, z] 43) := hp
  have hF1 : Fr (fun x => x = p) w w.drew := Fr.drew _
  have hv1 : Own 5 1 w.drew (.slice (some ⟨b, o, none⟩) n c) n l := hv
  have hs1 : w.drew.heap.size = w.heap.size := rfl
  generalize w.drew = w1 at *
  have hlt1 := lt_of_heap hp1
  refine jn0 (fun w' => w' = w1) ?_ fun j hj => ?_
  · rintro w' rfl
    refine buf_try_no hp1 (by omega) hnc hc ?_
    simp only [push_cast, Nat.reduceAdd, Nat.reduceLeDiff, Nat.reduceLT, Int.reduceToNat, Nat.left_eq_add, Nat.add_eq_left, Nat.add_left_cancel_iff, Nat.reduceEqDiff, Nat.add_assoc, Nat.succ_ne_zero]
    rw [jn_0]
    simp only [push_cast, Nat.reduceAdd, Nat.reduceLeDiff, Nat.reduceLT, Int.reduceToNat, Nat.left_eq_add, Nat.add_eq_left, Nat.add_left_cancel_iff, Nat.reduceEqDiff, Nat.add_assoc, Nat.succ_ne_zero, hp1, S.isNilS, Option.isNone_some, opS_cap]
    refine jn0 (fun w2 => ∃ b' c' js, p < b' ∧ js.length = m ∧ Own 5 1 w2 (.slice (some ⟨b', 0, none⟩) (n + m) c') (n + m) (l ++ js) ∧ c' < 2 ^ 63 ∧ w2.heap[p]? = some (cellsO [.slice (some ⟨b', 0, none⟩) n c', i64 0, z] 43) ∧ Fr (fun x => x = p) w w2) ?_ fun j hj => ?_
    · rintro w2 ⟨b', c', js, hb', hjs, ho2, hc2, hp2, hF2⟩
      have hc' : n + m ≤ c' := by obtain ⟨_, _, h2, _⟩ := ho2.cells; exact h2
      simp only [push_cast, Nat.reduceAdd, Nat.reduceLeDiff, Nat.reduceLT, Int.reduceToNat, Nat.left_eq_add, Nat.add_eq_left, Nat.add_left_cancel_iff, Nat.reduceEqDiff, Nat.add_assoc, Nat.succ_ne_zero, hp2]
      rw [wrap_i64 (x := (n : Int) + m) (by omega), opS_slice (run_boundsH (hi := (n : Int) + m) (by omega) (by omega))]
      have e : ((n : Int) + m).toNat = n + m := by omega
      simp only [push_cast, Nat.reduceAdd, Nat.reduceLeDiff, Nat.reduceLT, Int.reduceToNat, Nat.left_eq_add, Nat.add_eq_left, Nat.add_left_cancel_iff, Nat.reduceEqDiff, Nat.add_assoc, Nat.succ_ne_zero, hp2, Nat.zero_mul, Option.map_some, add_none, ite_self, Nat.sub_zero, e]
      refine h b' c' _ js hb' hjs ?_ hc2 ?_ (Fr.step_wr (Fr.step_wr hF2 (.inl rfl) _ _) (.inl rfl) _ _)
      · refine ho2.frame fun x hx => ?_
        obtain rfl : b' = x := Option.some.inj hx
        rw [heap_wr, if_neg (by omega), heap_wr, if_neg (by omega)]
      · simp only [push_cast, Nat.reduceAdd, Nat.reduceLeDiff, Nat.reduceLT, Int.reduceToNat, Nat.left_eq_add, Nat.add_eq_left, Nat.add_left_cancel_iff, Nat.reduceEqDiff, Nat.add_assoc, Nat.succ_ne_zero, hp2]
    · rw [opS_quo _ _ _ (by decide)]
      simp only [push_cast, Nat.reduceAdd, Nat.reduceLeDiff, Nat.reduceLT, Int.reduceToNat, Nat.left_eq_add, Nat.add_eq_left, Nat.add_left_cancel_iff, Nat.reduceEqDiff, Nat.add_assoc, Nat.succ_ne_zero]
      have e2 : (c : Int).tdiv 2 = c / 2 := by rw [Int.tdiv_eq_ediv_of_nonneg (by omega)]
      rw [e2, wrap_i64 (x := (c : Int) / 2) (by omega), wrap_i64 (x := (c : Int) / 2 - n) (by omega)]
      refine br_no (by omega) ?_
      rw [jn_0]
      simp only [push_cast, Nat.reduceAdd, Nat.reduceLeDiff, Nat.reduceLT, Int.reduceToNat, Nat.left_eq_add, Nat.add_eq_left, Nat.add_left_cancel_iff, Nat.reduceEqDiff, Nat.add_assoc, Nat.succ_ne_zero]
      rw [wrap_i64 (x := 9223372036854775807 - (c : Int)) (by omega), wrap_i64 (x := 9223372036854775807 - (c : Int) - m) (by omega)]
      refine br_no (by omega) ?_
      have hp3 : w'.drew.heap[p]? = some (cellsO [.slice (some ⟨b, o, none⟩) n c, i64 0, z] 43) := hp1
      have hv3 : Own 5 1 w'.drew (.slice (some ⟨b, o, none⟩) n c) n l := hv1
      have hF3 : Fr (fun x => x = p) w w'.drew := hF1.step_drew
      have hs3 : w'.drew.heap.size = w.heap.size := hs1
      simp only [push_cast, Nat.reduceAdd, Nat.reduceLeDiff, Nat.reduceLT, Int.reduceToNat, Nat.left_eq_add, Nat.add_eq_left, Nat.add_left_cancel_iff, Nat.reduceEqDiff, Nat.add_assoc, Nat.succ_ne_zero, hp1, opS_slc0]
      generalize w'.drew = w3 at *
      rw [Int.zero_add, wrap_i64 (x := (m : Int)) (by omega)]
      refine buf_growSlice hv3 hl hc hr fun c' w4 js hjs ho4 hc4 hF4 => ?_
      have hp4 := hF4.heap hp3 fun h => h
      simp only [push_cast, Nat.reduceAdd, Nat.reduceLeDiff, Nat.reduceLT, Int.reduceToNat, Nat.left_eq_add, Nat.add_eq_left, Nat.add_left_cancel_iff, Nat.reduceEqDiff, Nat.add_assoc, Nat.succ_ne_zero, hp4]
      refine hj _ ⟨w3.heap.size, c', js, by omega, hjs, ?_, hc4, ?_, Fr.step_wr (hF3.trans (hF4.mono fun _ _ h => h.elim)) (.inl rfl) _ _⟩
      · refine ho4.frame fun x hx => ?_
        obtain rfl : w3.heap.size = x := Option.some.inj hx
        rw [heap_wr, if_neg (by omega)]
      · simp only [push_cast, Nat.reduceAdd, Nat.reduceLeDiff, Nat.reduceLT, Int.reduceToNat, Nat.left_eq_add, Nat.add_eq_left, Nat.add_left_cancel_iff, Nat.reduceEqDiff, Nat.add_assoc, Nat.succ_ne_zero, hp4]
  · rw [jn_0]
    simp only [push_cast, Nat.reduceAdd, Nat.reduceLeDiff, Nat.reduceLT, Int.reduceToNat, Nat.left_eq_add, Nat.add_eq_left, Nat.add_left_cancel_iff, Nat.reduceEqDiff, Nat.add_assoc, Nat.succ_ne_zero, hp1]
    refine br_intro (fun _ => ?_) fun _ => hj _ rfl
    refine br_intro (fun h => absurd h (by decide)) fun _ => hj _ rfl

/-- a buffer, at p, with some bytes in it, whose row lies behind it -/
def BufR (w : World) (p : Nat) (bs : List Int) : Prop := ∃ b o c z, w.heap[p]? = some (cellsO [.slice (some ⟨b, o, none⟩) bs.length c, i64 0, .int .i8 z] 43) ∧ Own 5 1 w (.slice (some ⟨b, o, none⟩) bs.length c) bs.length (bs.map u8) ∧ c < 2 ^ 63 ∧ p < b ∧ ∀ x ∈ bs, isB x

theorem BufR.fr {fp : Nat → Prop} {w' : World} {p : Nat} {bs : List Int} (h : BufR w p bs) (hF : Fr fp w w') (hn : ∀ x, p ≤ x → ¬ fp x) : BufR w' p bs := by
  obtain ⟨b, o, c, z, h1, h2, h3, h4, h5⟩ := h
  refine ⟨b, o, c, z, hF.heap h1 (hn _ (Nat.le_refl _)), h2.frame fun x hx => ?_, h3, h4, h5⟩
  obtain rfl : b = x := Option.some.inj hx
  exact hF.old _ (h2.lt rfl) (hn _ (by omega))
theorem BufR.lt {p : Nat} {bs : List Int} (h : BufR w p bs) : p < w.heap.size := by
  obtain ⟨b, o, c, z, h1, _⟩ := h
  exact lt_of_heap h1

theorem u8s_one (bs : List Int) : (bs.map u8).all S.oneCell = true := by
  rw [List.all_map, List.all_eq_true]; intro x _; rfl
theorem byR_rd1 {v : Value} {bs : List Int} (h : ByR w v bs) : Rd 1 w v bs.length (bs.map u8) := by
  have := h.1.1
  rwa [flat_cell1, List.length_map] at this

/-- bytes are copied behind those that are there -/
theorem buf_put {p b o c : Nat} {bs ps : List Int} {js : List Value} {z : Int} {v : Value} (hp : w.heap[p]? = some (cellsO [.slice (some ⟨b, o, none⟩) (bs.length + ps.length) c, i64 0, .int .i8 z] 43))
    (hv : Own 5 1 w (.slice (some ⟨b, o, none⟩) (bs.length + ps.length) c) (bs.length + ps.length) (bs.map u8 ++ js)) (hc : c < 2 ^ 63) (hpb : p < b) (hb : ∀ x ∈ bs, isB x) (hx : ByR w v ps)
    (h : ∀ w', BufR w' p (bs ++ ps) → Fr (fun x => p ≤ x) w w' → K (.tuple #[i64 ps.length, .nilIface]) w') :
    opS Tryd.prog (S.nc (pt p 0)) (fun x10 => opS Tryd.prog (S.fa 43 x10 0) fun x11 => opS Tryd.prog (S.ld 24 x11) fun x12 => opS Tryd.prog (S.slc 24 x12 (some (i64 bs.length)) none none) fun x13 =>
      opS Tryd.prog (S.bi .copy #[24, 24] 3 [x13, v]) fun x14 => K (.tuple #[x14, .nilIface])) w := by
  obtain ⟨cs, hbb, hnc, hcs⟩ := hv.cells
  simp only [push_cast, Nat.reduceAdd, Nat.reduceLeDiff, Nat.reduceLT, Int.reduceToNat, Nat.left_eq_add, Nat.add_eq_left, Nat.add_left_cancel_iff, Nat.reduceEqDiff, Nat.add_assoc, Nat.succ_ne_zero, hp]
  rw [opS_slice (run_boundsL (lo := (bs.length : Int)) (by omega) (by omega))]
  have e1 : bs.length + ps.length - (bs.length : Int).toNat = ps.length := by omega
  have e2 : (bs.length : Int).toNat = bs.length := by omega
  rw [e1, e2, Nat.mul_one, Option.map_some, add_none]
  have hlen : (bs ++ ps).length = bs.length + ps.length := List.length_append
  have hall : ∀ x ∈ bs ++ ps, isB x := fun x hx' => (List.mem_append.1 hx').elim (hb x) (hx.2 x)
  by_cases h0 : c = bs.length
  · have hps : ps = [] := List.eq_nil_of_length_eq_zero (by omega)
    subst hps
    rw [if_pos h0, s_copy (m := 0) hbb (byR_rd1 hx) rfl (by simp) (by simp; omega)]
    have hjs : js = [] := List.eq_nil_of_length_eq_zero (by have := hv.rd.len; rw [List.length_append, List.length_map, Nat.mul_one, List.length_nil] at this; omega)
    subst hjs
    simp only [List.map_nil, wr_nil]
    refine h w ⟨b, o, c, z, by rw [hlen]; exact hp, by rw [hlen, List.map_append]; exact hv, hc, hpb, hall⟩ (Fr.refl _ _)
  · rw [if_neg h0, s_copy (m := ps.length) hbb (byR_rd1 hx) (u8s_one _) (Nat.le_refl _) (by omega)]
    have h2 := hv.copy (k := ps.map u8) (List.length_map _) (List.length_map _)
    refine h _ ⟨b, o, c, z, ?_, by rw [hlen, List.map_append]; exact h2, hc, hpb, hall⟩ (Fr.wr _ _ _ _ (by omega))
    rw [heap_wr, if_neg (by omega), hlen]; exact hp

theorem buf_write0 {p : Nat} {ps : List Int} {z : Value} {v : Value} (hp : w.heap[p]? = some (cellsO [.slice none 0 0, i64 0, z] 43)) (hx : ByR w v ps) (hv : blkS v ≠ some p) (h0 : 0 < ps.length) (h1 : ps.length ≤ 64)
    (h : ∀ w', BufR w' p ps → Fr (fun x => p ≤ x) w w' → K (.tuple #[i64 ps.length, .nilIface]) w') : CallsR Tryd.prog 21 #[pt p 0, v] K w := by
  apply c21
  unfold p21
  have hltp := lt_of_heap hp
  obtain ⟨a, c, rfl⟩ := hx.form
  simp only [push_cast, Nat.reduceAdd, Nat.reduceLeDiff, Nat.reduceLT, Int.reduceToNat, Nat.left_eq_add, Nat.add_eq_left, Nat.add_left_cancel_iff, Nat.reduceEqDiff, Nat.add_assoc, Nat.succ_ne_zero, hp]
  refine buf_try_no (n := 0) (c := 0) (a := none) (z := .int .i8 0) (by simp only [push_cast, Nat.reduceAdd, Nat.reduceLeDiff, Nat.reduceLT, Int.reduceToNat, Nat.left_eq_add, Nat.add_eq_left, Nat.add_left_cancel_iff, Nat.reduceEqDiff, Nat.add_assoc, Nat.succ_ne_zero, hp]) (by decide) (by decide) (by omega) ?_
  have hF0 : Fr (fun x => x = p) w (wr w p 2 [.int .i8 0]) := Fr.wr _ _ _ _ rfl
  have hx1 : ByR (wr w p 2 [.int .i8 0]) (.slice a ps.length c) ps := hx.fr hF0 fun b hb e => hv (e ▸ hb)
  have hp1 : (wr w p 2 [.int .i8 0]).heap[p]? = some (cellsO [.slice none 0 0, i64 0, .int .i8 0] 43) := by simp only [push_cast, Nat.reduceAdd, Nat.reduceLeDiff, Nat.reduceLT, Int.reduceToNat, Nat.left_eq_add, Nat.add_eq_left, Nat.add_left_cancel_iff, Nat.reduceEqDiff, Nat.add_assoc, Nat.succ_ne_zero, hp]
  generalize wr w p 2 [.int .i8 0] = w1 at *
  simp only [push_cast, Nat.reduceAdd, Nat.reduceLeDiff, Nat.reduceLT, Int.reduceToNat, Nat.left_eq_add, Nat.add_eq_left, Nat.add_left_cancel_iff, Nat.reduceEqDiff, Nat.add_assoc, Nat.succ_ne_zero]
  refine jn1 (fun u w2 => u = i64 0 ∧ ∃ b, p < b ∧ Own 5 1 w2 (.slice (some ⟨b, 0, none⟩) ps.length 64) ps.length (zeros ps.length [u8 0]) ∧ w2.heap[p]? = some (cellsO [.slice (some ⟨b, 0, none⟩) ps.length 64, i64 0, .int .i8 0] 43) ∧ Fr (fun x => x = p) w1 w2) ?_ fun j hj => ?_
  · rintro u w2 ⟨rfl, b, hb, h2, h3, h4⟩
    refine buf_put (bs := []) (js := zeros ps.length [u8 0]) (by simpa using h3) (by simpa using h2) (by decide) hb (by simp) (hx1.fr h4 fun b hb e => hv (e ▸ hb)) fun w3 h5 h6 => h w3 h5 (((hF0.trans h4).mono fun x _ e => e ▸ Nat.le_refl _).trans h6)
  · refine buf_grow0 hp1 h0 h1 fun b w2 hb h2 h3 h4 => hj _ _ ⟨rfl, b, hb, h2, h3, h4⟩

theorem byR_keep {fp : Nat → Prop} {w' : World} {v : Value} {bs : List Int} (h : ByR w v bs) (hF : Fr fp w w') (hn : bs ≠ [] → ∀ b, blkS v = some b → ¬ fp b) : ByR w' v bs := by
  by_cases e : bs = []
  · subst e
    obtain ⟨a, c, rfl⟩ := h.form
    exact ByR.nil _ _ _
  · exact h.fr hF (hn e)

theorem buf_write {p : Nat} {bs ps : List Int} {v : Value} (hp : BufR w p bs) (hx : ByR w v ps) (hv : ps ≠ [] → blkS v ≠ some p) (h1 : bs.length + ps.length ≤ 2 ^ 30)
    (h : ∀ w', BufR w' p (bs ++ ps) → Fr (fun x => p ≤ x) w w' → K (.tuple #[i64 ps.length, .nilIface]) w') : CallsR Tryd.prog 21 #[pt p 0, v] K w := by
  obtain ⟨b, o, c, z, hp, ho, hc, hpb, hb⟩ := hp
  apply c21
  unfold p21
  have hltp := lt_of_heap hp
  obtain ⟨va, vc, rfl⟩ := hx.form
  simp only [push_cast, Nat.reduceAdd, Nat.reduceLeDiff, Nat.reduceLT, Int.reduceToNat, Nat.left_eq_add, Nat.add_eq_left, Nat.add_left_cancel_iff, Nat.reduceEqDiff, Nat.add_assoc, Nat.succ_ne_zero, hp]
  have hF0 : Fr (fun x => x = p) w (wr w p 2 [.int .i8 0]) := Fr.wr _ _ _ _ rfl
  have hx1 : ByR (wr w p 2 [.int .i8 0]) (.slice va ps.length vc) ps := byR_keep hx hF0 fun h0 b hb e => hv h0 (e ▸ hb)
  have hp1 : (wr w p 2 [.int .i8 0]).heap[p]? = some (cellsO [.slice (some ⟨b, o, none⟩) bs.length c, i64 0, .int .i8 0] 43) := by simp only [push_cast, Nat.reduceAdd, Nat.reduceLeDiff, Nat.reduceLT, Int.reduceToNat, Nat.left_eq_add, Nat.add_eq_left, Nat.add_left_cancel_iff, Nat.reduceEqDiff, Nat.add_assoc, Nat.succ_ne_zero, hp]
  have ho1 : Own 5 1 (wr w p 2 [.int .i8 0]) (.slice (some ⟨b, o, none⟩) bs.length c) bs.length (bs.map u8) := ho.frame fun x hx => hF0.old x (ho.lt hx) fun e => by
    obtain rfl : b = x := Option.some.inj hx
    omega
  generalize wr w p 2 [.int .i8 0] = w1 at *
  have key : ∀ w2 (k : Value → World → Prop), (∃ b o c js, p < b ∧ c < 2 ^ 63 ∧ Own 5 1 w2 (.slice (some ⟨b, o, none⟩) (bs.length + ps.length) c) (bs.length + ps.length) (bs.map u8 ++ js) ∧ w2.heap[p]? = some (cellsO [.slice (some ⟨b, o, none⟩) (bs.length + ps.length) c, i64 0, .int .i8 0] 43) ∧ Fr (fun x => x = p) w1 w2) →
      opS Tryd.prog (S.nc (pt p 0)) (fun x10 => opS Tryd.prog (S.fa 43 x10 0) fun x11 => opS Tryd.prog (S.ld 24 x11) fun x12 => opS Tryd.prog (S.slc 24 x12 (some (i64 bs.length)) none none) fun x13 =>
      opS Tryd.prog (S.bi .copy #[24, 24] 3 [x13, .slice va ps.length vc]) fun x14 => K (.tuple #[x14, .nilIface])) w2 := by
    rintro w2 k ⟨b, o, c, js, h2, h3, h4, h5, h6⟩
    exact buf_put h5 h4 h3 h2 hb (byR_keep hx1 h6 fun h0 b hb e => hv h0 (e ▸ hb)) fun w3 h7 h8 => h w3 h7 (((hF0.trans h6).mono fun x _ e => e ▸ Nat.le_refl _).trans h8)
  have hnc : bs.length ≤ c := by obtain ⟨_, _, h2, _⟩ := ho1.cells; exact h2
  by_cases hm : bs.length + ps.length ≤ c
  · refine buf_try_yes hp1 hc hm ?_
    simp only [push_cast, Nat.reduceAdd, Nat.reduceLeDiff, Nat.reduceLT, Int.reduceToNat, Nat.left_eq_add, Nat.add_eq_left, Nat.add_left_cancel_iff, Nat.reduceEqDiff, Nat.add_assoc, Nat.succ_ne_zero]
    rw [jn_1]
    refine key _ K ?_
    obtain ⟨js, hjs, ho2⟩ := ho1.more hm
    refine ⟨b, o, c, js, hpb, hc, ho2.frame fun x hx => ?_, by simp only [push_cast, Nat.reduceAdd, Nat.reduceLeDiff, Nat.reduceLT, Int.reduceToNat, Nat.left_eq_add, Nat.add_eq_left, Nat.add_left_cancel_iff, Nat.reduceEqDiff, Nat.add_assoc, Nat.succ_ne_zero, hp1], Fr.wr _ _ _ _ rfl⟩
    obtain rfl : b = x := Option.some.inj hx
    rw [heap_wr, if_neg (by omega)]
  · refine buf_try_no hp1 hc hnc (by omega) ?_
    simp only [push_cast, Nat.reduceAdd, Nat.reduceLeDiff, Nat.reduceLT, Int.reduceToNat, Nat.left_eq_add, Nat.add_eq_left, Nat.add_left_cancel_iff, Nat.reduceEqDiff, Nat.add_assoc, Nat.succ_ne_zero]
    rw [jn_1]
    refine buf_grow1 hp1 ho1 (u8s_one _) hpb (by omega) h1 fun b' c' w2 js hb' hjs ho2 hc2 hp2 hF2 => key w2 K ⟨b', 0, c', js, hb', hc2, ho2, hp2, hF2⟩

end Go.Gx.S
end

section
/- What the functions of this program ask. -/
set_option linter.unusedVariables false
set_option maxRecDepth 100000
namespace Go.Gx.S
open Go Go.Gx Go.Proofs
-- gemel/ether.Right
def p12 (P : Program) (K : Value → World → Prop) (x0 : Value) : World → Prop :=
  opS P (S.box 26 x0) fun x1 =>
  opS P (S.fa 26 x1 5) fun x2 =>
  opS P (S.ld 3 x2) fun x3 =>
  opS P (S.binI .lss x3 (.int .i64 1536)) fun x4 =>
  brn x4 (
    K (.bool false)
  ) (
    opS P (S.fa 26 x1 5) fun x5 =>
    opS P (S.ld 3 x5) fun x6 =>
    opS P (S.binI .gtr x6 (.int .i64 65535)) fun x7 =>
    brn x7 (
      K (.bool false)
    ) (
      opS P (S.fa 26 x1 5) fun x8 =>
      opS P (S.ld 3 x8) fun x9 =>
      opS P (S.binI .eql x9 (.int .i64 33024)) fun x10 =>
      brn x10 (
        K (.bool false)
      ) (
        opS P (S.fa 26 x1 6) fun x11 =>
        opS P (S.ld 24 x11) fun x12 =>
        opS P (S.len x12) fun x13 =>
        opS P (S.binI .gtr x13 (.int .i64 1500)) fun x14 =>
        brn x14 (
          K (.bool false)
        ) (
          opS P (S.fa 26 x1 2) fun x15 =>
          opS P (S.ld 4 x15) fun x16 =>
          opS P (S.un .not x16) fun x17 =>
          brn x17 (
            jnJ 1 (fun x18 =>
              K x18
            ) fun j0 =>
            opS P (S.fa 26 x1 3) fun x18 =>
            opS P (S.ld 3 x18) fun x19 =>
            opS P (S.binI .eql x19 (.int .i64 0)) fun x20 =>
            brn x20 (
              opS P (S.fa 26 x1 4) fun x21 =>
              opS P (S.ld 3 x21) fun x22 =>
              opS P (S.binI .eql x22 (.int .i64 0)) fun x23 =>
              j0 x23
            ) (
              j0 (.bool false)
            )
          ) (
            opS P (S.fa 26 x1 3) fun x18 =>
            opS P (S.ld 3 x18) fun x19 =>
            opS P (S.binI .geq x19 (.int .i64 0)) fun x20 =>
            brn x20 (
              opS P (S.fa 26 x1 3) fun x21 =>
              opS P (S.ld 3 x21) fun x22 =>
              opS P (S.binI .leq x22 (.int .i64 4094)) fun x23 =>
              brn x23 (
                opS P (S.fa 26 x1 4) fun x24 =>
                opS P (S.ld 3 x24) fun x25 =>
                opS P (S.binI .geq x25 (.int .i64 0)) fun x26 =>
                brn x26 (
                  opS P (S.fa 26 x1 4) fun x27 =>
                  opS P (S.ld 3 x27) fun x28 =>
                  opS P (S.binI .leq x28 (.int .i64 7)) fun x29 =>
                  K x29
                ) (
                  K (.bool false)
                )
              ) (
                K (.bool false)
              )
            ) (
              K (.bool false)
            )
          )
        )
      )
    )
  )
instance fnb12 : FnB Tryd.prog 12 := ⟨Tryd.call12⟩
theorem e12 : p12 Tryd.prog = fun K x0 => denF Tryd.prog Tryd.f12 [x0] K := by kernel_rfl
theorem c12 {K : Value → World → Prop} {x0 : Value} {w : World} (h : p12 Tryd.prog K x0 w) : CallsR Tryd.prog 12 #[x0] K w := by
  rw [e12] at h
  exact denF_sound mixed Tryd.func12 h

-- gemel/gemelref02.Right
def p13 (P : Program) (K : Value → World → Prop) (x0 : Value) : World → Prop :=
  opS P (S.box 26 x0) fun x1 =>
  opS P (S.fa 26 x1 5) fun x2 =>
  opS P (S.ld 3 x2) fun x3 =>
  opS P (S.binI .lss x3 (.int .i64 1536)) fun x4 =>
  brn x4 (
    K (.bool false)
  ) (
    opS P (S.fa 26 x1 5) fun x5 =>
    opS P (S.ld 3 x5) fun x6 =>
    opS P (S.binI .gtr x6 (.int .i64 65535)) fun x7 =>
    brn x7 (
      K (.bool false)
    ) (
      opS P (S.fa 26 x1 5) fun x8 =>
      opS P (S.ld 3 x8) fun x9 =>
      opS P (S.binI .eql x9 (.int .i64 33024)) fun x10 =>
      brn x10 (
        K (.bool false)
      ) (
        opS P (S.fa 26 x1 6) fun x11 =>
        opS P (S.ld 24 x11) fun x12 =>
        opS P (S.len x12) fun x13 =>
        opS P (S.binI .gtr x13 (.int .i64 1500)) fun x14 =>
        brn x14 (
          K (.bool false)
        ) (
          opS P (S.fa 26 x1 2) fun x15 =>
          opS P (S.ld 4 x15) fun x16 =>
          opS P (S.un .not x16) fun x17 =>
          brn x17 (
            jnJ 1 (fun x18 =>
              K x18
            ) fun j0 =>
            opS P (S.fa 26 x1 3) fun x18 =>
            opS P (S.ld 3 x18) fun x19 =>
            opS P (S.binI .eql x19 (.int .i64 0)) fun x20 =>
            brn x20 (
              opS P (S.fa 26 x1 4) fun x21 =>
              opS P (S.ld 3 x21) fun x22 =>
              opS P (S.binI .eql x22 (.int .i64 0)) fun x23 =>
              j0 x23
            ) (
              j0 (.bool false)
            )
          ) (
            opS P (S.fa 26 x1 3) fun x18 =>
            opS P (S.ld 3 x18) fun x19 =>
            opS P (S.binI .geq x19 (.int .i64 0)) fun x20 =>
            brn x20 (
              opS P (S.fa 26 x1 3) fun x21 =>
              opS P (S.ld 3 x21) fun x22 =>
              opS P (S.binI .leq x22 (.int .i64 4094)) fun x23 =>
              brn x23 (
                opS P (S.fa 26 x1 4) fun x24 =>
                opS P (S.ld 3 x24) fun x25 =>
                opS P (S.binI .geq x25 (.int .i64 0)) fun x26 =>
                brn x26 (
                  opS P (S.fa 26 x1 4) fun x27 =>
                  opS P (S.ld 3 x27) fun x28 =>
                  opS P (S.binI .leq x28 (.int .i64 7)) fun x29 =>
                  K x29
                ) (
                  K (.bool false)
                )
              ) (
                K (.bool false)
              )
            ) (
              K (.bool false)
            )
          )
        )
      )
    )
  )
instance fnb13 : FnB Tryd.prog 13 := ⟨Tryd.call13⟩
theorem e13 : p13 Tryd.prog = fun K x0 => denF Tryd.prog Tryd.f13 [x0] K := by kernel_rfl
theorem c13 {K : Value → World → Prop} {x0 : Value} {w : World} (h : p13 Tryd.prog K x0 w) : CallsR Tryd.prog 13 #[x0] K w := by
  rw [e13] at h
  exact denF_sound mixed Tryd.func13 h

-- gemel/gemelref02.Same
def p14 (P : Program) (K : Value → World → Prop) (x0 : Value) (x1 : Value) : World → Prop :=
  opS P (S.box 26 x0) fun x2 =>
  opS P (S.box 26 x1) fun x3 =>
  opS P (S.fa 26 x2 0) fun x4 =>
  opS P (S.ld 23 x4) fun x5 =>
  opS P (S.fa 26 x3 0) fun x6 =>
  opS P (S.ld 23 x6) fun x7 =>
  opS P (S.binG .eql 23 x5 x7) fun x8 =>
  brn x8 (
    opS P (S.fa 26 x2 1) fun x9 =>
    opS P (S.ld 23 x9) fun x10 =>
    opS P (S.fa 26 x3 1) fun x11 =>
    opS P (S.ld 23 x11) fun x12 =>
    opS P (S.binG .eql 23 x10 x12) fun x13 =>
    brn x13 (
      opS P (S.fa 26 x2 2) fun x14 =>
      opS P (S.ld 4 x14) fun x15 =>
      opS P (S.fa 26 x3 2) fun x16 =>
      opS P (S.ld 4 x16) fun x17 =>
      opS P (S.binB .eql x15 x17) fun x18 =>
      brn x18 (
        opS P (S.fa 26 x2 3) fun x19 =>
        opS P (S.ld 3 x19) fun x20 =>
        opS P (S.fa 26 x3 3) fun x21 =>
        opS P (S.ld 3 x21) fun x22 =>
        opS P (S.binI .eql x20 x22) fun x23 =>
        brn x23 (
          opS P (S.fa 26 x2 4) fun x24 =>
          opS P (S.ld 3 x24) fun x25 =>
          opS P (S.fa 26 x3 4) fun x26 =>
          opS P (S.ld 3 x26) fun x27 =>
          opS P (S.binI .eql x25 x27) fun x28 =>
          brn x28 (
            opS P (S.fa 26 x2 5) fun x29 =>
            opS P (S.ld 3 x29) fun x30 =>
            opS P (S.fa 26 x3 5) fun x31 =>
            opS P (S.ld 3 x31) fun x32 =>
            opS P (S.binI .eql x30 x32) fun x33 =>
            brn x33 (
              opS P (S.fa 26 x2 6) fun x34 =>
              opS P (S.ld 24 x34) fun x35 =>
              opS P (S.conv 24 9 x35) fun x36 =>
              opS P (S.fa 26 x3 6) fun x37 =>
              opS P (S.ld 24 x37) fun x38 =>
              opS P (S.conv 24 9 x38) fun x39 =>
              opS P (S.binS .eql x36 x39) fun x40 =>
              K x40
            ) (
              K (.bool false)
            )
          ) (
            K (.bool false)
          )
        ) (
          K (.bool false)
        )
      ) (
        K (.bool false)
      )
    ) (
      K (.bool false)
    )
  ) (
    K (.bool false)
  )
instance fnb14 : FnB Tryd.prog 14 := ⟨Tryd.call14⟩
theorem e14 : p14 Tryd.prog = fun K x0 x1 => denF Tryd.prog Tryd.f14 [x0, x1] K := by kernel_rfl
theorem c14 {K : Value → World → Prop} {x0 x1 : Value} {w : World} (h : p14 Tryd.prog K x0 x1 w) : CallsR Tryd.prog 14 #[x0, x1] K w := by
  rw [e14] at h
  exact denF_sound mixed Tryd.func14 h

-- gemel/ether.Tag
def p15 (P : Program) (K : Value → World → Prop) (x0 : Value) (x1 : Value) (x2 : Value) : World → Prop :=
  opS P (S.box 26 x0) fun x3 =>
  opS P (S.alloc 26) fun x4 =>
  opS P (S.fa 26 x3 2) fun x5 =>
  opS P (S.st 4 x5 (.bool true)) fun x6 =>
  opS P (S.fa 26 x3 3) fun x7 =>
  opS P (S.st 3 x7 x1) fun x8 =>
  opS P (S.fa 26 x3 4) fun x9 =>
  opS P (S.st 3 x9 x2) fun x10 =>
  opS P (S.ld 26 x3) fun x11 =>
  opS P (S.cl 12 [x11]) fun x12 =>
  opS P (S.un .not x12) fun x13 =>
  brn x13 (
    opS P (S.build 26 []) fun x14 =>
    opS P (S.st 26 x4 x14) fun x15 =>
    opS P (S.ld 26 x4) fun x16 =>
    K (.tuple #[x16, (.int .i64 1)])
  ) (
    opS P (S.ld 26 x3) fun x14 =>
    opS P (S.st 26 x4 x14) fun x15 =>
    opS P (S.ld 26 x4) fun x16 =>
    K (.tuple #[x16, (.int .i64 0)])
  )
instance fnb15 : FnB Tryd.prog 15 := ⟨Tryd.call15⟩
theorem e15 : p15 Tryd.prog = fun K x0 x1 x2 => denF Tryd.prog Tryd.f15 [x0, x1, x2] K := by kernel_rfl
theorem c15 {K : Value → World → Prop} {x0 x1 x2 : Value} {w : World} (h : p15 Tryd.prog K x0 x1 x2 w) : CallsR Tryd.prog 15 #[x0, x1, x2] K w := by
  rw [e15] at h
  exact denF_sound mixed Tryd.func15 h

-- gemel/gemelref02.Tag
def p16 (P : Program) (K : Value → World → Prop) (x0 : Value) (x1 : Value) (x2 : Value) : World → Prop :=
  opS P (S.box 26 x0) fun x3 =>
  opS P (S.alloc 26) fun x4 =>
  opS P (S.fa 26 x3 2) fun x5 =>
  opS P (S.st 4 x5 (.bool true)) fun x6 =>
  opS P (S.fa 26 x3 3) fun x7 =>
  opS P (S.st 3 x7 x1) fun x8 =>
  opS P (S.fa 26 x3 4) fun x9 =>
  opS P (S.st 3 x9 x2) fun x10 =>
  opS P (S.ld 26 x3) fun x11 =>
  opS P (S.cl 13 [x11]) fun x12 =>
  opS P (S.un .not x12) fun x13 =>
  brn x13 (
    opS P (S.build 26 []) fun x14 =>
    opS P (S.st 26 x4 x14) fun x15 =>
    opS P (S.ld 26 x4) fun x16 =>
    K (.tuple #[x16, (.int .i64 1)])
  ) (
    opS P (S.ld 26 x3) fun x14 =>
    opS P (S.st 26 x4 x14) fun x15 =>
    opS P (S.ld 26 x4) fun x16 =>
    K (.tuple #[x16, (.int .i64 0)])
  )
instance fnb16 : FnB Tryd.prog 16 := ⟨Tryd.call16⟩
theorem e16 : p16 Tryd.prog = fun K x0 x1 x2 => denF Tryd.prog Tryd.f16 [x0, x1, x2] K := by kernel_rfl
theorem c16 {K : Value → World → Prop} {x0 x1 x2 : Value} {w : World} (h : p16 Tryd.prog K x0 x1 x2 w) : CallsR Tryd.prog 16 #[x0, x1, x2] K w := by
  rw [e16] at h
  exact denF_sound mixed Tryd.func16 h

-- gemel/ether.Untag
def p17 (P : Program) (K : Value → World → Prop) (x0 : Value) : World → Prop :=
  opS P (S.box 26 x0) fun x1 =>
  opS P (S.alloc 26) fun x2 =>
  opS P (S.fa 26 x1 2) fun x3 =>
  opS P (S.st 4 x3 (.bool false)) fun x4 =>
  opS P (S.fa 26 x1 3) fun x5 =>
  opS P (S.st 3 x5 (.int .i64 0)) fun x6 =>
  opS P (S.fa 26 x1 4) fun x7 =>
  opS P (S.st 3 x7 (.int .i64 0)) fun x8 =>
  opS P (S.ld 26 x1) fun x9 =>
  opS P (S.st 26 x2 x9) fun x10 =>
  opS P (S.ld 26 x2) fun x11 =>
  K x11
instance fnb17 : FnB Tryd.prog 17 := ⟨Tryd.call17⟩
theorem e17 : p17 Tryd.prog = fun K x0 => denF Tryd.prog Tryd.f17 [x0] K := by kernel_rfl
theorem c17 {K : Value → World → Prop} {x0 : Value} {w : World} (h : p17 Tryd.prog K x0 w) : CallsR Tryd.prog 17 #[x0] K w := by
  rw [e17] at h
  exact denF_sound mixed Tryd.func17 h

-- gemel/gemelref02.Untag
def p18 (P : Program) (K : Value → World → Prop) (x0 : Value) : World → Prop :=
  opS P (S.box 26 x0) fun x1 =>
  opS P (S.alloc 26) fun x2 =>
  opS P (S.fa 26 x1 2) fun x3 =>
  opS P (S.st 4 x3 (.bool false)) fun x4 =>
  opS P (S.fa 26 x1 3) fun x5 =>
  opS P (S.st 3 x5 (.int .i64 0)) fun x6 =>
  opS P (S.fa 26 x1 4) fun x7 =>
  opS P (S.st 3 x7 (.int .i64 0)) fun x8 =>
  opS P (S.ld 26 x1) fun x9 =>
  opS P (S.st 26 x2 x9) fun x10 =>
  opS P (S.ld 26 x2) fun x11 =>
  K x11
instance fnb18 : FnB Tryd.prog 18 := ⟨Tryd.call18⟩
theorem e18 : p18 Tryd.prog = fun K x0 => denF Tryd.prog Tryd.f18 [x0] K := by kernel_rfl
theorem c18 {K : Value → World → Prop} {x0 : Value} {w : World} (h : p18 Tryd.prog K x0 w) : CallsR Tryd.prog 18 #[x0] K w := by
  rw [e18] at h
  exact denF_sound mixed Tryd.func18 h

end Go.Gx.S
-- 12 13 15 16 17 18 14
end

section
/- Frames that may be; tags; frames that are compared. -/
set_option linter.unusedVariables false
set_option linter.unusedSimpArgs false
set_option maxRecDepth 100000
namespace Go.Gx.S
open Go Go.Gx Go.Proofs
variable {K : Value → World → Prop} {w : World}

theorem right_spec {f : Frm} {a : Option Addr} {n c : Nat} (hb : f.body = .slice a n c) (h : ∀ w', Fr none_ w w' → K (.bool (f.right n)) w') : CallsR Tryd.prog 12 #[.agg f.cells.toArray] K w := by
  apply c12
  unfold p12
  have hF : Fr none_ w (w.alloc (cellsO f.cells 26)) := (Fr.refl _ _).step_alloc rfl
  simp only [push_cast, Nat.reduceAdd, Nat.reduceLeDiff, Nat.reduceLT, Int.reduceToNat, Nat.left_eq_add, Nat.add_eq_left, Nat.add_left_cancel_iff, Nat.reduceEqDiff, Nat.add_assoc, Nat.succ_ne_zero, hb, jn_1]
  generalize w.alloc (cellsO f.cells 26) = W at *
  have h' : ∀ b, f.right n = b → K (.bool b) W := fun b e => e ▸ h W hF
  clear h
  repeat' first | with_reducible refine br_dec (fun _ => ?_) fun _ => ?_ | with_reducible refine br_intro (fun _ => ?_) fun _ => ?_
  all_goals
    refine h' _ ?_
    unfold Frm.right
    simp_all
    try first | omega | (rw [Bool.eq_iff_iff]; simp; omega)

theorem rright_spec {f : Frm} {a : Option Addr} {n c : Nat} (hb : f.body = .slice a n c) (h : ∀ w', Fr none_ w w' → K (.bool (f.right n)) w') : CallsR Tryd.prog 13 #[.agg f.cells.toArray] K w := by
  apply c13
  unfold p13
  have hF : Fr none_ w (w.alloc (cellsO f.cells 26)) := (Fr.refl _ _).step_alloc rfl
  simp only [push_cast, Nat.reduceAdd, Nat.reduceLeDiff, Nat.reduceLT, Int.reduceToNat, Nat.left_eq_add, Nat.add_eq_left, Nat.add_left_cancel_iff, Nat.reduceEqDiff, Nat.add_assoc, Nat.succ_ne_zero, hb, jn_1]
  generalize w.alloc (cellsO f.cells 26) = W at *
  have h' : ∀ b, f.right n = b → K (.bool b) W := fun b e => e ▸ h W hF
  clear h
  repeat' first | with_reducible refine br_dec (fun _ => ?_) fun _ => ?_ | with_reducible refine br_intro (fun _ => ?_) fun _ => ?_
  all_goals
    refine h' _ ?_
    unfold Frm.right
    simp_all
    try first | omega | (rw [Bool.eq_iff_iff]; simp; omega)


theorem build_zFrm : opS Tryd.prog (S.build 26 []) K w = K (.agg zFrm.cells.toArray) w := by
  rw [opS_build _ rfl]; rfl

theorem tag_spec {f : Frm} {bs : List Int} {v p : Int} (hb : FrmR w f bs) (h : ∀ w', Fr none_ w w' → K (if (f.tag v p).right bs.length then .tuple #[.agg (f.tag v p).cells.toArray, i64 0] else .tuple #[.agg zFrm.cells.toArray, i64 1]) w') :
    CallsR Tryd.prog 15 #[.agg f.cells.toArray, i64 v, i64 p] K w := by
  apply c15
  unfold p15
  obtain ⟨a, c, hbd⟩ := hb.2.form
  have hone : (f.tag v p).cells.all S.oneCell = true := Frm.one _ (by show S.oneCell f.body = true; rw [hbd]; rfl)
  have hone0 : zFrm.cells.all S.oneCell = true := rfl
  simp only [push_cast, Nat.reduceAdd, Nat.reduceLeDiff, Nat.reduceLT, Int.reduceToNat, Nat.left_eq_add, Nat.add_eq_left, Nat.add_left_cancel_iff, Nat.reduceEqDiff, Nat.add_assoc, Nat.succ_ne_zero]
  refine right_spec (f := f.tag v p) hbd fun W' hF' => ?_
  have h0 := hF'.heap (b := w.heap.size) (o := cellsO (f.tag v p).cells 26) (by simp only [push_cast, Nat.reduceAdd, Nat.reduceLeDiff, Nat.reduceLT, Int.reduceToNat, Nat.left_eq_add, Nat.add_eq_left, Nat.add_left_cancel_iff, Nat.reduceEqDiff, Nat.add_assoc, Nat.succ_ne_zero]; rfl) (fun h => h)
  have h1 := hF'.heap (b := w.heap.size + 1) (o := cellsO zFrm.cells 26) (by simp only [push_cast, Nat.reduceAdd, Nat.reduceLeDiff, Nat.reduceLT, Int.reduceToNat, Nat.left_eq_add, Nat.add_eq_left, Nat.add_left_cancel_iff, Nat.reduceEqDiff, Nat.add_assoc, Nat.succ_ne_zero]; rfl) (fun h => h)
  have hF : Fr none_ w W' := Fr.trans (by repeat' first | with_reducible exact Fr.refl _ _ | with_reducible refine Fr.step_alloc ?_ ?_ | with_reducible refine Fr.step_drew ?_ | with_reducible refine Fr.step_wr ?_ ?_ _ _ | exact rfl | exact Or.inr (by omega) | exact Or.inl rfl | exact Or.inl (Or.inl rfl) | exact Or.inl (Or.inr rfl)) hF'
  clear hF'
  simp only [push_cast, Nat.reduceAdd, Nat.reduceLeDiff, Nat.reduceLT, Int.reduceToNat, Nat.left_eq_add, Nat.add_eq_left, Nat.add_left_cancel_iff, Nat.reduceEqDiff, Nat.add_assoc, Nat.succ_ne_zero, h0, h1, hone]
  refine br_intro (fun hr => ?_) fun hr => ?_
  · simp only [build_zFrm, push_cast, Nat.reduceAdd, Nat.reduceLeDiff, Nat.reduceLT, Int.reduceToNat, Nat.left_eq_add, Nat.add_eq_left, Nat.add_left_cancel_iff, Nat.reduceEqDiff, Nat.add_assoc, Nat.succ_ne_zero, h0, h1, hone0]
    rw [show (f.tag v p).right bs.length = false by simpa using hr] at h
    exact h _ (hF.step_wr (Or.inr (by omega)) _ _)
  · rw [show (f.tag v p).right bs.length = true by simpa using hr] at h
    exact h _ (hF.step_wr (Or.inr (by omega)) _ _)

theorem rtag_spec {f : Frm} {bs : List Int} {v p : Int} (hb : FrmR w f bs) (h : ∀ w', Fr none_ w w' → K (if (f.tag v p).right bs.length then .tuple #[.agg (f.tag v p).cells.toArray, i64 0] else .tuple #[.agg zFrm.cells.toArray, i64 1]) w') :
    CallsR Tryd.prog 16 #[.agg f.cells.toArray, i64 v, i64 p] K w := by
  apply c16
  unfold p16
  obtain ⟨a, c, hbd⟩ := hb.2.form
  have hone : (f.tag v p).cells.all S.oneCell = true := Frm.one _ (by show S.oneCell f.body = true; rw [hbd]; rfl)
  have hone0 : zFrm.cells.all S.oneCell = true := rfl
  simp only [push_cast, Nat.reduceAdd, Nat.reduceLeDiff, Nat.reduceLT, Int.reduceToNat, Nat.left_eq_add, Nat.add_eq_left, Nat.add_left_cancel_iff, Nat.reduceEqDiff, Nat.add_assoc, Nat.succ_ne_zero]
  refine rright_spec (f := f.tag v p) hbd fun W' hF' => ?_
  have h0 := hF'.heap (b := w.heap.size) (o := cellsO (f.tag v p).cells 26) (by simp only [push_cast, Nat.reduceAdd, Nat.reduceLeDiff, Nat.reduceLT, Int.reduceToNat, Nat.left_eq_add, Nat.add_eq_left, Nat.add_left_cancel_iff, Nat.reduceEqDiff, Nat.add_assoc, Nat.succ_ne_zero]; rfl) (fun h => h)
  have h1 := hF'.heap (b := w.heap.size + 1) (o := cellsO zFrm.cells 26) (by simp only [push_cast, Nat.reduceAdd, Nat.reduceLeDiff, Nat.reduceLT, Int.reduceToNat, Nat.left_eq_add, Nat.add_eq_left, Nat.add_left_cancel_iff, Nat.reduceEqDiff, Nat.add_assoc, Nat.succ_ne_zero]; rfl) (fun h => h)
  have hF : Fr none_ w W' := Fr.trans (by repeat' first | with_reducible exact Fr.refl _ _ | with_reducible refine Fr.step_alloc ?_ ?_ | with_reducible refine Fr.step_drew ?_ | with_reducible refine Fr.step_wr ?_ ?_ _ _ | exact rfl | exact Or.inr (by omega) | exact Or.inl rfl | exact Or.inl (Or.inl rfl) | exact Or.inl (Or.inr rfl)) hF'
  clear hF'
  simp only [push_cast, Nat.reduceAdd, Nat.reduceLeDiff, Nat.reduceLT, Int.reduceToNat, Nat.left_eq_add, Nat.add_eq_left, Nat.add_left_cancel_iff, Nat.reduceEqDiff, Nat.add_assoc, Nat.succ_ne_zero, h0, h1, hone]
  refine br_intro (fun hr => ?_) fun hr => ?_
  · simp only [build_zFrm, push_cast, Nat.reduceAdd, Nat.reduceLeDiff, Nat.reduceLT, Int.reduceToNat, Nat.left_eq_add, Nat.add_eq_left, Nat.add_left_cancel_iff, Nat.reduceEqDiff, Nat.add_assoc, Nat.succ_ne_zero, h0, h1, hone0]
    rw [show (f.tag v p).right bs.length = false by simpa using hr] at h
    exact h _ (hF.step_wr (Or.inr (by omega)) _ _)
  · rw [show (f.tag v p).right bs.length = true by simpa using hr] at h
    exact h _ (hF.step_wr (Or.inr (by omega)) _ _)

theorem untag_spec {f : Frm} {bs : List Int} (hb : FrmR w f bs) (h : ∀ w', Fr none_ w w' → K (.agg f.untag.cells.toArray) w') : CallsR Tryd.prog 17 #[.agg f.cells.toArray] K w := by
  apply c17
  unfold p17
  obtain ⟨a, c, hbd⟩ := hb.2.form
  have hone : f.untag.cells.all S.oneCell = true := Frm.one _ (by show S.oneCell f.body = true; rw [hbd]; rfl)
  have e : ({ ({ ({ f with tagged := false } : Frm) with vlan := 0 } : Frm) with prio := 0 } : Frm) = f.untag := rfl
  simp only [push_cast, Nat.reduceAdd, Nat.reduceLeDiff, Nat.reduceLT, Int.reduceToNat, Nat.left_eq_add, Nat.add_eq_left, Nat.add_left_cancel_iff, Nat.reduceEqDiff, Nat.add_assoc, Nat.succ_ne_zero, e, hone]
  exact h _ (by repeat' first | with_reducible exact Fr.refl _ _ | with_reducible refine Fr.step_alloc ?_ ?_ | with_reducible refine Fr.step_drew ?_ | with_reducible refine Fr.step_wr ?_ ?_ _ _ | exact rfl | exact Or.inr (by omega) | exact Or.inl rfl | exact Or.inl (Or.inl rfl) | exact Or.inl (Or.inr rfl))

theorem runtag_spec {f : Frm} {bs : List Int} (hb : FrmR w f bs) (h : ∀ w', Fr none_ w w' → K (.agg f.untag.cells.toArray) w') : CallsR Tryd.prog 18 #[.agg f.cells.toArray] K w := by
  apply c18
  unfold p18
  obtain ⟨a, c, hbd⟩ := hb.2.form
  have hone : f.untag.cells.all S.oneCell = true := Frm.one _ (by show S.oneCell f.body = true; rw [hbd]; rfl)
  have e : ({ ({ ({ f with tagged := false } : Frm) with vlan := 0 } : Frm) with prio := 0 } : Frm) = f.untag := rfl
  simp only [push_cast, Nat.reduceAdd, Nat.reduceLeDiff, Nat.reduceLT, Int.reduceToNat, Nat.left_eq_add, Nat.add_eq_left, Nat.add_left_cancel_iff, Nat.reduceEqDiff, Nat.add_assoc, Nat.succ_ne_zero, e, hone]
  exact h _ (by repeat' first | with_reducible exact Fr.refl _ _ | with_reducible refine Fr.step_alloc ?_ ?_ | with_reducible refine Fr.step_drew ?_ | with_reducible refine Fr.step_wr ?_ ?_ _ _ | exact rfl | exact Or.inr (by omega) | exact Or.inl rfl | exact Or.inl (Or.inl rfl) | exact Or.inl (Or.inr rfl))

theorem same_spec {f g : Frm} {bs cs : List Int} (hf : FrmR w f bs) (hg : FrmR w g cs) (h : ∀ w', Fr none_ w w' → K (.bool (decide (f.dst = g.dst ∧ f.src = g.src ∧ f.tagged = g.tagged ∧ f.vlan = g.vlan ∧ f.prio = g.prio ∧ f.type = g.type ∧ bs = cs))) w') :
    CallsR Tryd.prog 14 #[.agg f.cells.toArray, .agg g.cells.toArray] K w := by
  apply c14
  unfold p14
  have hF : Fr none_ w ((w.alloc (cellsO f.cells 26)).alloc (cellsO g.cells 26)) := (by repeat' first | with_reducible exact Fr.refl _ _ | with_reducible refine Fr.step_alloc ?_ ?_ | with_reducible refine Fr.step_drew ?_ | with_reducible refine Fr.step_wr ?_ ?_ _ _ | exact rfl | exact Or.inr (by omega) | exact Or.inl rfl | exact Or.inl (Or.inl rfl) | exact Or.inl (Or.inr rfl))
  have h0 : ((w.alloc (cellsO f.cells 26)).alloc (cellsO g.cells 26)).heap[w.heap.size]? = some (cellsO f.cells 26) := by simp only [push_cast, Nat.reduceAdd, Nat.reduceLeDiff, Nat.reduceLT, Int.reduceToNat, Nat.left_eq_add, Nat.add_eq_left, Nat.add_left_cancel_iff, Nat.reduceEqDiff, Nat.add_assoc, Nat.succ_ne_zero]
  have h1 : ((w.alloc (cellsO f.cells 26)).alloc (cellsO g.cells 26)).heap[w.heap.size + 1]? = some (cellsO g.cells 26) := by simp only [push_cast, Nat.reduceAdd, Nat.reduceLeDiff, Nat.reduceLT, Int.reduceToNat, Nat.left_eq_add, Nat.add_eq_left, Nat.add_left_cancel_iff, Nat.reduceEqDiff, Nat.add_assoc, Nat.succ_ne_zero]
  simp only [opS_box, cells_agg, alloc_cellsO, size_alloc]
  generalize (w.alloc (cellsO f.cells 26)).alloc (cellsO g.cells 26) = W at *
  have hf' := hf.fr0 hF
  have hg' := hg.fr0 hF
  have h' : ∀ b, decide (f.dst = g.dst ∧ f.src = g.src ∧ f.tagged = g.tagged ∧ f.vlan = g.vlan ∧ f.prio = g.prio ∧ f.type = g.type ∧ bs = cs) = b → K (.bool b) W := fun b e => e ▸ h W hF
  clear h
  simp only [push_cast, Nat.reduceAdd, Nat.reduceLeDiff, Nat.reduceLT, Int.reduceToNat, Nat.left_eq_add, Nat.add_eq_left, Nat.add_left_cancel_iff, Nat.reduceEqDiff, Nat.add_assoc, Nat.succ_ne_zero, h0, h1]
  refine s_eqG (MacT.enc (d := 6) hf.1.1) (MacT.enc (d := 6) hg.1.1) fun r hr => ?_
  rw [Mac.lits_inj] at hr
  simp only [push_cast, Nat.reduceAdd, Nat.reduceLeDiff, Nat.reduceLT, Int.reduceToNat, Nat.left_eq_add, Nat.add_eq_left, Nat.add_left_cancel_iff, Nat.reduceEqDiff, Nat.add_assoc, Nat.succ_ne_zero]
  refine br_intro (fun e => ?_) fun e => h' _ ?_
  case' refine_2 => subst e; simp at hr; simp [hr]
  have hr1 := hr.1 e
  clear hr
  simp only [push_cast, Nat.reduceAdd, Nat.reduceLeDiff, Nat.reduceLT, Int.reduceToNat, Nat.left_eq_add, Nat.add_eq_left, Nat.add_left_cancel_iff, Nat.reduceEqDiff, Nat.add_assoc, Nat.succ_ne_zero, h0, h1]
  refine s_eqG (MacT.enc (d := 6) hf.1.2.1) (MacT.enc (d := 6) hg.1.2.1) fun r hr => ?_
  rw [Mac.lits_inj] at hr
  simp only [push_cast, Nat.reduceAdd, Nat.reduceLeDiff, Nat.reduceLT, Int.reduceToNat, Nat.left_eq_add, Nat.add_eq_left, Nat.add_left_cancel_iff, Nat.reduceEqDiff, Nat.add_assoc, Nat.succ_ne_zero]
  refine br_intro (fun e => ?_) fun e => h' _ ?_
  case' refine_2 => subst e; simp at hr; simp [hr]
  have hr2 := hr.1 e
  clear hr
  simp only [push_cast, Nat.reduceAdd, Nat.reduceLeDiff, Nat.reduceLT, Int.reduceToNat, Nat.left_eq_add, Nat.add_eq_left, Nat.add_left_cancel_iff, Nat.reduceEqDiff, Nat.add_assoc, Nat.succ_ne_zero, h0, h1]
  rw [s_b2s hf'.2]
  simp only [push_cast, Nat.reduceAdd, Nat.reduceLeDiff, Nat.reduceLT, Int.reduceToNat, Nat.left_eq_add, Nat.add_eq_left, Nat.add_left_cancel_iff, Nat.reduceEqDiff, Nat.add_assoc, Nat.succ_ne_zero, h0, h1]
  rw [s_b2s hg'.2, s_eqS hf.2.2 hg.2.2]
  repeat' first | with_reducible refine br_dec (fun _ => ?_) fun _ => ?_ | with_reducible refine br_intro (fun _ => ?_) fun _ => ?_
  all_goals
    refine h' _ ?_
    simp_all

end Go.Gx.S
end

section
/- The bytes of a frame. -/
set_option linter.unusedVariables false
set_option linter.unusedSimpArgs false
set_option maxRecDepth 100000
namespace Go.Gx.S
open Go Go.Gx Go.Proofs
variable {K : Value → World → Prop} {w : World}

def macB (m : Mac) : List Int := [m.b0, m.b1, m.b2, m.b3, m.b4, m.b5]
def two (n : Int) : List Int := [n / 256, n % 256]
/-- a frame's bytes; bs: its body's -/
def Frm.bytes (f : Frm) (bs : List Int) : List Int := macB f.dst ++ macB f.src ++ (if f.tagged then two 33024 ++ two (8192 * f.prio + f.vlan) else []) ++ two f.type ++ bs

theorem macB_ok {m : Mac} (h : m.ok) : ∀ x ∈ macB m, isB x := by
  obtain ⟨h0, h1, h2, h3, h4, h5⟩ := h
  intro x hx
  simp only [macB, List.mem_cons, List.not_mem_nil, or_false] at hx
  rcases hx with rfl | rfl | rfl | rfl | rfl | rfl <;> assumption
theorem two_ok {n : Int} (h0 : 0 ≤ n) (h1 : n ≤ 65535) : ∀ x ∈ two n, isB x := by
  intro x hx
  simp only [two, List.mem_cons, List.not_mem_nil, or_false] at hx
  unfold isB
  rcases hx with rfl | rfl <;> omega
theorem own_by {E : TypeId} {v : Value} {bs : List Int} (h : OwnE E 1 w v (bs.map cell1)) (hb : ∀ x ∈ bs, isB x) : ByR w v bs := ⟨h.rd, hb⟩

theorem by_dst {f : Frm} {b : Nat} {T : TypeId} (hb : w.heap[b]? = some (cellsO f.cells T)) (h : f.ok) : ByR w (.slice (some ⟨b, 0, none⟩) 6 6) (macB f.dst) :=
  ⟨⟨.inr ⟨b, 0, 6, _, T, (0, 0), rfl, hb, Nat.le_refl _, by show 0 + 6 * 1 ≤ 17; decide, rfl⟩, by simp [macB, cell1]⟩, macB_ok h.1⟩
theorem by_src {f : Frm} {b : Nat} {T : TypeId} (hb : w.heap[b]? = some (cellsO f.cells T)) (h : f.ok) : ByR w (.slice (some ⟨b, 6, none⟩) 6 6) (macB f.src) :=
  ⟨⟨.inr ⟨b, 6, 6, _, T, (0, 0), rfl, hb, Nat.le_refl _, by show 6 + 6 * 1 ≤ 17; decide, rfl⟩, by simp [macB, cell1]⟩, macB_ok h.2.1⟩

theorem zalloc_buf : opS Tryd.prog (S.alloc 43) K w = K (pt w.heap.size 0) (w.alloc (cellsO [.slice none 0 0, i64 0, .int .i8 0] 43)) := by
  rw [opS_alloc]; rfl

theorem put_spec {p : Nat} {bs : List Int} {n : Int} (hp : BufR w p bs) (h0 : 0 ≤ n) (h1 : n ≤ 65535) (hl : bs.length ≤ 2 ^ 20) (h : ∀ w', BufR w' p (bs ++ two n) → Fr (fun x => p ≤ x) w w' → K (.tuple #[]) w') :
    CallsR Tryd.prog 22 #[i64 n, pt p 0] K w := by
  apply c22
  unfold p22
  have hlt := hp.lt
  have e : ∀ x, opS Tryd.prog (S.binI .shr (i64 n) (.int .u64 8)) x w = x (i64 (n / 256)) w := fun x => opS_shr .i64 .u64 n 8 (by decide)
  rw [e]
  simp only [push_cast, Nat.reduceAdd, Nat.reduceLeDiff, Nat.reduceLT, Int.reduceToNat, Nat.left_eq_add, Nat.add_eq_left, Nat.add_left_cancel_iff, Nat.reduceEqDiff, Nat.add_assoc, Nat.succ_ne_zero]
  rw [wrap_u8, wrap_u8]
  refine s_bs2c (z := .int .u8 0) rfl rfl rfl fun v w1 hv hF hN => ?_
  refine buf_write (ps := two n) (hp.fr hF fun _ _ h => h) (own_by (E := 5) ?_ (two_ok h0 h1)) (fun _ hb => absurd (hN _ hb) (by omega)) (by simp [two]; omega) fun w2 h2 hF2 => ?_
  · have : n / 256 % 256 = n / 256 := Int.emod_eq_of_lt (by omega) (by omega)
    rw [this] at hv
    exact hv
  · exact h w2 h2 (Fr.trans (hF.mono fun _ _ h => h.elim) hF2)

theorem shl_prio {x : Int} {k : IntKind} (h0 : 0 ≤ x) (h1 : x ≤ 7) (F : Value → World → Prop) : opS Tryd.prog (S.binI .shl (i64 x) (.int k 13)) F w = F (i64 (8192 * x)) w := by
  have := opS_shl (P := Tryd.prog) (K := F) (w := w) .i64 k x 13 (by decide)
  have e : x * 2 ^ 13 = 8192 * x := by omega
  rw [e, wrap_i64 (by omega)] at this
  exact this

theorem enc_spec {f : Frm} {bs : List Int} (hf : FrmR w f bs) (hl : bs.length ≤ 2 ^ 20)
    (h : ∀ v w', ByR w' v (if f.right bs.length then Frm.bytes f bs else []) → New w v → Fr none_ w w' → K (.tuple #[v, i64 (if f.right bs.length then 0 else 1)]) w') : CallsR Tryd.prog 10 #[.agg f.cells.toArray] K w := by
  apply c10
  unfold p10
  obtain ⟨ba, bc, hbd⟩ := hf.2.form
  simp only [push_cast, Nat.reduceAdd, Nat.reduceLeDiff, Nat.reduceLT, Int.reduceToNat, Nat.left_eq_add, Nat.add_eq_left, Nat.add_left_cancel_iff, Nat.reduceEqDiff, Nat.add_assoc, Nat.succ_ne_zero]
  refine right_spec hbd fun w1 hF1 => ?_
  have hb1 := hF1.heap (b := w.heap.size) (o := cellsO f.cells 26) (by simp only [push_cast, Nat.reduceAdd, Nat.reduceLeDiff, Nat.reduceLT, Int.reduceToNat, Nat.left_eq_add, Nat.add_eq_left, Nat.add_left_cancel_iff, Nat.reduceEqDiff, Nat.add_assoc, Nat.succ_ne_zero]) (fun h => h)
  have hF : Fr none_ w w1 := Fr.trans (by repeat' first | with_reducible exact Fr.refl _ _ | with_reducible refine Fr.step_alloc ?_ ?_ | with_reducible refine Fr.step_drew ?_ | with_reducible refine Fr.step_wr ?_ ?_ _ _ | exact rfl | exact Or.inr (by omega) | exact Or.inl rfl | exact Or.inl (Or.inl rfl) | exact Or.inl (Or.inr rfl)) hF1
  have hs1 : w.heap.size < w1.heap.size := lt_of_heap hb1
  clear hF1
  simp only [push_cast, Nat.reduceAdd, Nat.reduceLeDiff, Nat.reduceLT, Int.reduceToNat, Nat.left_eq_add, Nat.add_eq_left, Nat.add_left_cancel_iff, Nat.reduceEqDiff, Nat.add_assoc, Nat.succ_ne_zero]
  refine br_intro (fun hr => ?_) fun hr => ?_
  · rw [if_neg (by simpa using hr), if_neg (by simpa using hr)] at h
    exact h _ _ (ByR.nil _ _ _) (fun b hb => by cases hb) hF
  have hr : f.right bs.length = true := by simpa using hr
  rw [if_pos hr, if_pos hr] at h
  have hok := hf.1
  have hbd1 := hf.2.fr hF fun _ _ h => h
  have hblt : bs ≠ [] → ∀ b, blkS f.body = some b → b < w.heap.size := fun h0 b hb => by
    rcases hf.2.1.1 with ⟨_, e, _⟩ | ⟨b', o, c, cs, T, fz, e, hb', _⟩
    · exact absurd (List.map_eq_nil_iff.1 (List.eq_nil_of_length_eq_zero e)) h0
    · rw [e] at hb; cases hb; exact lt_of_heap hb'
  refine at_w (fun W => W.heap[w.heap.size]? = some (cellsO f.cells 26) ∧ W.heap[w1.heap.size]? = some (cellsO [.slice none 0 0, i64 0, .int .i8 0] 43) ∧ Fr none_ w W) ⟨(heap_alloc_lt hs1).trans hb1, heap_alloc_new _ _, hF.step_alloc rfl⟩ ?_
  rintro w2 ⟨hb2, hp2, hF2⟩
  generalize w1.heap.size = p at *
  simp only [opS_slcA, push_cast, Nat.reduceAdd, Nat.reduceLeDiff, Nat.reduceLT, Int.reduceToNat, Nat.left_eq_add, Nat.add_eq_left, Nat.add_left_cancel_iff, Nat.reduceEqDiff, Nat.add_assoc, Nat.succ_ne_zero]
  refine buf_write0 hp2 (by_dst hb2 hok) (fun e => absurd (Option.some.inj e) (by show w.heap.size ≠ p; omega)) (by show 0 < 6; decide) (by show 6 ≤ 64; decide) fun w3 hp3 hF3 => ?_
  have hb3 := hF3.heap hb2 (by omega)
  have hF3 : Fr none_ w w3 := hF2.trans_new hF3 fun b h1 h2 => by omega
  simp only [push_cast, Nat.reduceAdd, Nat.reduceLeDiff, Nat.reduceLT, Int.reduceToNat, Nat.left_eq_add, Nat.add_eq_left, Nat.add_left_cancel_iff, Nat.reduceEqDiff, Nat.add_assoc, Nat.succ_ne_zero, opS_slcA]
  refine buf_write hp3 (by_src hb3 hok) (fun _ e => absurd (Option.some.inj e) (by show w.heap.size ≠ p; omega)) (by show 6 + 6 ≤ 2 ^ 30; decide) fun w4 hp4 hF4 => ?_
  have hb4 := hF4.heap hb3 (by omega)
  have hF4 : Fr none_ w w4 := hF3.trans_new hF4 fun b h1 h2 => by omega
  simp only [push_cast, Nat.reduceAdd, Nat.reduceLeDiff, Nat.reduceLT, Int.reduceToNat, Nat.left_eq_add, Nat.add_eq_left, Nat.add_left_cancel_iff, Nat.reduceEqDiff, Nat.add_assoc, Nat.succ_ne_zero]
  have hright := hr
  simp only [Frm.right, Bool.and_eq_true, decide_eq_true_eq] at hright
  refine jn0 (fun w' => BufR w' p (macB f.dst ++ macB f.src ++ (if f.tagged then two 33024 ++ two (8192 * f.prio + f.vlan) else [])) ∧ w'.heap[w.heap.size]? = some (cellsO f.cells 26) ∧ Fr none_ w w') ?_ fun j hj => ?_
  · rintro w5 ⟨hp5, hb5, hF5⟩
    have hl5 : (macB f.dst ++ macB f.src ++ (if f.tagged then two 33024 ++ two (8192 * f.prio + f.vlan) else [])).length ≤ 16 := by
      cases f.tagged <;> simp [macB, two]
    simp only [push_cast, Nat.reduceAdd, Nat.reduceLeDiff, Nat.reduceLT, Int.reduceToNat, Nat.left_eq_add, Nat.add_eq_left, Nat.add_left_cancel_iff, Nat.reduceEqDiff, Nat.add_assoc, Nat.succ_ne_zero, hb5]
    refine put_spec hp5 (by omega) (by omega) (by omega) fun w6 hp6 hF6 => ?_
    have hb6 := hF6.heap hb5 (by omega)
    have hF6 : Fr none_ w w6 := hF5.trans_new hF6 fun b h1 h2 => by omega
    simp only [push_cast, Nat.reduceAdd, Nat.reduceLeDiff, Nat.reduceLT, Int.reduceToNat, Nat.left_eq_add, Nat.add_eq_left, Nat.add_left_cancel_iff, Nat.reduceEqDiff, Nat.add_assoc, Nat.succ_ne_zero, hb6]
    refine buf_write hp6 (hf.2.fr hF6 fun _ _ h => h) (fun h0 e => absurd (hblt h0 _ e) (by omega)) ?_ fun w7 hp7 hF7 => ?_
    · rw [List.length_append, show (two f.type).length = 2 from rfl]; omega
    have hF7 : Fr none_ w w7 := hF6.trans_new hF7 fun b h1 h2 => by omega
    simp only [push_cast, Nat.reduceAdd, Nat.reduceLeDiff, Nat.reduceLT, Int.reduceToNat, Nat.left_eq_add, Nat.add_eq_left, Nat.add_left_cancel_iff, Nat.reduceEqDiff, Nat.add_assoc, Nat.succ_ne_zero]
    obtain ⟨b, o, c, z, h1, h2, h3, h4, h5⟩ := hp7
    refine buf_bytes h1 ?_
    have hF8 := hF7.step_drew
    have h2' : Own 5 1 w7.drew _ _ _ := h2
    refine h _ _ ⟨⟨?_, ?_⟩, h5⟩ ?_ hF8
    · rw [flat_cell1, List.length_map]; exact h2'.rd
    · intro e he; obtain ⟨n, _, rfl⟩ := List.mem_map.1 he; rfl
    · intro x hx
      obtain rfl : b = x := Option.some.inj hx
      omega
  · simp only [push_cast, Nat.reduceAdd, Nat.reduceLeDiff, Nat.reduceLT, Int.reduceToNat, Nat.left_eq_add, Nat.add_eq_left, Nat.add_left_cancel_iff, Nat.reduceEqDiff, Nat.add_assoc, Nat.succ_ne_zero, hb4]
    refine br_intro (fun ht => ?_) fun ht => hj _ ⟨by rw [ht]; simpa using hp4, hb4, hF4⟩
    rw [if_pos ht] at hright
    refine put_spec hp4 (by omega) (by omega) (by simp [macB]) fun w5 hp5 hF5 => ?_
    have hb5 := hF5.heap hb4 (by omega)
    have hF5 : Fr none_ w w5 := hF4.trans_new hF5 fun b h1 h2 => by omega
    simp only [push_cast, Nat.reduceAdd, Nat.reduceLeDiff, Nat.reduceLT, Int.reduceToNat, Nat.left_eq_add, Nat.add_eq_left, Nat.add_left_cancel_iff, Nat.reduceEqDiff, Nat.add_assoc, Nat.succ_ne_zero, hb5]
    have h1 := hright.2
    rw [decide_eq_true_eq] at h1
    rw [shl_prio (by omega) (by omega)]
    simp only [push_cast, Nat.reduceAdd, Nat.reduceLeDiff, Nat.reduceLT, Int.reduceToNat, Nat.left_eq_add, Nat.add_eq_left, Nat.add_left_cancel_iff, Nat.reduceEqDiff, Nat.add_assoc, Nat.succ_ne_zero, hb5]
    rw [opS_or 13 (by omega) (by omega) (by omega) (by omega) (by omega) (by omega)]
    refine put_spec hp5 (by omega) (by omega) (by simp [macB, two]) fun w6 hp6 hF6 => ?_
    have hb6 := hF6.heap hb5 (by omega)
    have hF6 : Fr none_ w w6 := hF5.trans_new hF6 fun b h1 h2 => by omega
    refine hj _ ⟨by rw [ht, if_pos rfl, ← List.append_assoc]; exact hp6, hb6, hF6⟩

theorem rtwo_spec {n : Int} (h0 : 0 ≤ n) (h1 : n ≤ 65535) (h : ∀ v w', OwnE 5 1 w' v ((two n).map cell1) → Fr none_ w w' → New w v → K v w') : CallsR Tryd.prog 24 #[i64 n] K w := by
  apply c24
  unfold p24
  rw [opS_quo _ _ _ (by decide), Int.tdiv_eq_ediv_of_nonneg h0, wrap_i64 (by omega)]
  simp only [push_cast, Nat.reduceAdd, Nat.reduceLeDiff, Nat.reduceLT, Int.reduceToNat, Nat.left_eq_add, Nat.add_eq_left, Nat.add_left_cancel_iff, Nat.reduceEqDiff, Nat.add_assoc, Nat.succ_ne_zero]
  rw [opS_rem _ _ _ (by decide), Int.tmod_eq_emod_of_nonneg h0]
  simp only [push_cast, Nat.reduceAdd, Nat.reduceLeDiff, Nat.reduceLT, Int.reduceToNat, Nat.left_eq_add, Nat.add_eq_left, Nat.add_left_cancel_iff, Nat.reduceEqDiff, Nat.add_assoc, Nat.succ_ne_zero]
  rw [wrap_u8, wrap_u8]
  refine s_bs2c (z := .int .u8 0) rfl rfl rfl fun v w1 hv hF hN => h v w1 ?_ hF hN
  have e1 : n / 256 % 256 = n / 256 := Int.emod_eq_of_lt (by omega) (by omega)
  have e2 : n % 256 % 256 = n % 256 := Int.emod_emod_of_dvd n (by decide)
  rw [e1, e2] at hv
  exact hv

theorem macB_take {m : Mac} {k : Nat} (hk : k < 6) : (macB m).take (k + 1) = (macB m).take k ++ [(macB m).getD k 0] := by
  match k, hk with
  | 0, _ | 1, _ | 2, _ | 3, _ | 4, _ | 5, _ => rfl
theorem macB_dst {f : Frm} {k : Nat} (hk : k < 6) : f.cells[0 + k]? = some (u8 ((macB f.dst).getD k 0)) := by
  match k, hk with
  | 0, _ | 1, _ | 2, _ | 3, _ | 4, _ | 5, _ => rfl
theorem macB_src {f : Frm} {k : Nat} (hk : k < 6) : f.cells[6 + k]? = some (u8 ((macB f.src).getD k 0)) := by
  match k, hk with
  | 0, _ | 1, _ | 2, _ | 3, _ | 4, _ | 5, _ => rfl

theorem mac_loop {f : Frm} {m : Mac} {b fi off : Nat} {v : Value} {pre : List Int} {j0 : Value → World → Prop} (hb : w.heap[b]? = some (cellsO f.cells 26)) (hfa : ∀ (K : Value → World → Prop) w, opS Tryd.prog (S.fa 26 (pt b 0) fi) K w = K (pt b off) w)
    (hg : ∀ k, k < 6 → f.cells[off + k]? = some (u8 ((macB m).getD k 0))) (hv : OwnE 5 1 w v (pre.map cell1)) (hn : ∀ x, blkS v = some x → b < x) (hl : pre.length ≤ 2 ^ 20)
    (h : ∀ v' w', OwnE 5 1 w' v' ((pre ++ macB m).map cell1) → (∀ x, blkS v' = some x → b < x) → Fr (fun x => b < x) w w' → j0 v' w') :
    loopJ 2 (fun j1 x6 x7 => opS Tryd.prog (S.binI .lss x7 (.int .i64 6)) fun x8 => brn x8 (
      opS Tryd.prog (S.fa 26 (pt b 0) fi) fun x9 => opS Tryd.prog (S.ia 23 x9 x7) fun x10 => opS Tryd.prog (S.ld 5 x10) fun x11 =>
      opS Tryd.prog (S.buildS 24 1 [(0, x11)]) fun x12 => opS Tryd.prog (S.bi .append #[24, 24] 24 [x6, x12]) fun x13 => opS Tryd.prog (S.binI .add x7 (.int .i64 1)) fun x14 => j1 x13 x14) (j0 x6)) v (.int .i64 0) w := by
  refine loop2 (fun n v' u w' => ∃ k : Nat, k ≤ 6 ∧ n = 6 - k ∧ u = i64 k ∧ OwnE 5 1 w' v' ((pre ++ (macB m).take k).map cell1) ∧ (∀ x, blkS v' = some x → b < x) ∧ Fr (fun x => b < x) w w') ?_ 6 ⟨0, by omega, rfl, rfl, by simpa using hv, hn, Fr.refl _ _⟩
  rintro n v' u w' X ⟨k, hk, rfl, rfl, ho, hnn, hF⟩ hX
  have hb' := hF.heap hb (by omega)
  simp only [push_cast, Nat.reduceAdd, Nat.reduceLeDiff, Nat.reduceLT, Int.reduceToNat, Nat.left_eq_add, Nat.add_eq_left, Nat.add_left_cancel_iff, Nat.reduceEqDiff, Nat.add_assoc, Nat.succ_ne_zero]
  refine br_dec (fun hlt => ?_) fun hge => ?_
  · rw [hfa, opS_iaA b off .i64 (k : Int) (by omega)]
    simp only [push_cast, Nat.reduceAdd, Nat.reduceLeDiff, Nat.reduceLT, Int.reduceToNat, Nat.left_eq_add, Nat.add_eq_left, Nat.add_left_cancel_iff, Nat.reduceEqDiff, Nat.add_assoc, Nat.succ_ne_zero, hb', Int.toNat_natCast, Nat.mul_one]
    rw [hg k (by omega)]
    simp only [push_cast, Nat.reduceAdd, Nat.reduceLeDiff, Nat.reduceLT, Int.reduceToNat, Nat.left_eq_add, Nat.add_eq_left, Nat.add_left_cancel_iff, Nat.reduceEqDiff, Nat.add_assoc, Nat.succ_ne_zero]
    have hlen : ((pre ++ (macB m).take k).map cell1).length ≤ 2 ^ 20 + 6 := by
      rw [List.length_map, List.length_append, List.length_take]; omega
    refine s_app1 (z := .int .u8 0) rfl rfl (by decide) ho (by omega) fun v2 w2 h1 h2 h3 => ?_
    simp only [push_cast, Nat.reduceAdd, Nat.reduceLeDiff, Nat.reduceLT, Int.reduceToNat, Nat.left_eq_add, Nat.add_eq_left, Nat.add_left_cancel_iff, Nat.reduceEqDiff, Nat.add_assoc, Nat.succ_ne_zero]
    rw [wrap_i64 (by omega)]
    refine hX (6 - (k + 1)) _ _ _ (by omega) ⟨k + 1, by omega, rfl, by simp, ?_, ?_, hF.trans_new h3 fun x _ hx => hnn _ hx⟩
    · rw [macB_take (by omega), ← List.append_assoc, List.map_append]; exact h1
    · intro x hx
      rcases h2 with h2 | h2
      · exact hnn x (h2 ▸ hx)
      · have := h2 x hx
        have := lt_of_heap hb'
        omega
  · have e6 : k = 6 := by omega
    subst e6
    have : (macB m).take 6 = macB m := rfl
    rw [this] at ho
    exact h _ _ ho hnn hF

theorem renc_spec {f : Frm} {bs : List Int} (hf : FrmR w f bs) (hl : bs.length ≤ 2 ^ 20)
    (h : ∀ v w', ByR w' v (if f.right bs.length then Frm.bytes f bs else []) → Fr none_ w w' → K (.tuple #[v, i64 (if f.right bs.length then 0 else 1)]) w') : CallsR Tryd.prog 11 #[.agg f.cells.toArray] K w := by
  apply c11
  unfold p11
  obtain ⟨ba, bc, hbd⟩ := hf.2.form
  simp only [push_cast, Nat.reduceAdd, Nat.reduceLeDiff, Nat.reduceLT, Int.reduceToNat, Nat.left_eq_add, Nat.add_eq_left, Nat.add_left_cancel_iff, Nat.reduceEqDiff, Nat.add_assoc, Nat.succ_ne_zero]
  refine rright_spec hbd fun w1 hF1 => ?_
  have hb1 := hF1.heap (b := w.heap.size) (o := cellsO f.cells 26) (by simp only [push_cast, Nat.reduceAdd, Nat.reduceLeDiff, Nat.reduceLT, Int.reduceToNat, Nat.left_eq_add, Nat.add_eq_left, Nat.add_left_cancel_iff, Nat.reduceEqDiff, Nat.add_assoc, Nat.succ_ne_zero]) (fun h => h)
  have hF : Fr none_ w w1 := Fr.trans (by repeat' first | with_reducible exact Fr.refl _ _ | with_reducible refine Fr.step_alloc ?_ ?_ | with_reducible refine Fr.step_drew ?_ | with_reducible refine Fr.step_wr ?_ ?_ _ _ | exact rfl | exact Or.inr (by omega) | exact Or.inl rfl | exact Or.inl (Or.inl rfl) | exact Or.inl (Or.inr rfl)) hF1
  have hs1 : w.heap.size < w1.heap.size := lt_of_heap hb1
  clear hF1
  simp only [push_cast, Nat.reduceAdd, Nat.reduceLeDiff, Nat.reduceLT, Int.reduceToNat, Nat.left_eq_add, Nat.add_eq_left, Nat.add_left_cancel_iff, Nat.reduceEqDiff, Nat.add_assoc, Nat.succ_ne_zero]
  refine br_intro (fun hr => ?_) fun hr => ?_
  · rw [if_neg (by simpa using hr), if_neg (by simpa using hr)] at h
    exact h _ _ (ByR.nil _ _ _) hF
  have hr : f.right bs.length = true := by simpa using hr
  rw [if_pos hr, if_pos hr] at h
  have hok := hf.1
  have hright := hr
  simp only [Frm.right, Bool.and_eq_true, decide_eq_true_eq] at hright
  refine jn1 (fun v w' => OwnE 5 1 w' v ((macB f.dst).map cell1) ∧ (∀ x, blkS v = some x → w.heap.size < x) ∧ w'.heap[w.heap.size]? = some (cellsO f.cells 26) ∧ Fr none_ w w') ?_ fun j hj => ?_
  case' refine_2 =>
    refine mac_loop (pre := []) (m := f.dst) hb1 (fun K w => by simp only [push_cast, Nat.reduceAdd, Nat.reduceLeDiff, Nat.reduceLT, Int.reduceToNat, Nat.left_eq_add, Nat.add_eq_left, Nat.add_left_cancel_iff, Nat.reduceEqDiff, Nat.add_assoc, Nat.succ_ne_zero]) (fun k hk => macB_dst hk) (own_nil _ _ _) (fun x hx => by cases hx) (by decide) fun v' w' h1 h2 h3 => hj _ _ ⟨h1, h2, h3.heap hb1 (by omega), hF.trans_new h3 fun x h4 h5 => by omega⟩
  rintro v2 w2 ⟨ho2, hn2, hb2, hF2⟩
  refine jn1 (fun v w' => OwnE 5 1 w' v ((macB f.dst ++ macB f.src).map cell1) ∧ (∀ x, blkS v = some x → w.heap.size < x) ∧ w'.heap[w.heap.size]? = some (cellsO f.cells 26) ∧ Fr none_ w w') ?_ fun j hj => ?_
  case' refine_2 =>
    refine mac_loop (pre := macB f.dst) (m := f.src) hb2 (fun K w => by simp only [push_cast, Nat.reduceAdd, Nat.reduceLeDiff, Nat.reduceLT, Int.reduceToNat, Nat.left_eq_add, Nat.add_eq_left, Nat.add_left_cancel_iff, Nat.reduceEqDiff, Nat.add_assoc, Nat.succ_ne_zero]) (fun k hk => macB_src hk) ho2 hn2 (by show 6 ≤ 2 ^ 20; decide) fun v' w' h1 h2 h3 => hj _ _ ⟨h1, h2, h3.heap hb2 (by omega), hF2.trans_new h3 fun x h4 h5 => by omega⟩
  rintro v3 w3 ⟨ho3, hn3, hb3, hF3⟩
  -- two more bytes
  have step : ∀ (v : Value) (w' : World) (X : List Int) (n : Int) (k : Value → World → Prop), OwnE 5 1 w' v (X.map cell1) → (∀ x, blkS v = some x → w.heap.size < x) → w'.heap[w.heap.size]? = some (cellsO f.cells 26) → Fr none_ w w' → 0 ≤ n → n ≤ 65535 → X.length ≤ 2 ^ 20 →
      (∀ v' w', OwnE 5 1 w' v' ((X ++ two n).map cell1) → (∀ x, blkS v' = some x → w.heap.size < x) → w'.heap[w.heap.size]? = some (cellsO f.cells 26) → Fr none_ w w' → k v' w') →
      CallsR Tryd.prog 24 #[i64 n] (fun u => opS Tryd.prog (S.bi .append #[24, 24] 24 [v, u]) k) w' := by
    intro v w' X n k h1 h2 h3 h4 h5 h6 h7 h8
    refine rtwo_spec h5 h6 fun u w4 hu hF4 hN4 => ?_
    refine s_app (z := .int .u8 0) rfl (by decide) (h1.fr hF4 fun _ _ h => h) hu.rd (flat_cell1_one _) (by rw [List.length_map, List.length_map]; have : (two n).length = 2 := rfl; omega) fun v5 w5 ho5 hb5 hF5 => ?_
    have hlt := lt_of_heap h3
    have h3' := (hF4.heap h3 fun h => h)
    refine h8 v5 w5 (by rw [List.map_append]; exact ho5) ?_ (hF5.heap h3' fun e => absurd (h2 _ e) (by omega)) ((h4.trans hF4).trans_new hF5 fun x hx e => absurd (h2 _ e) (by omega))
    intro x hx
    rcases hb5 with hb5 | hb5
    · exact h2 x (hb5 ▸ hx)
    · have := hb5 x hx
      have := lt_of_heap h3'
      omega
  refine jn1 (fun v w' => OwnE 5 1 w' v ((macB f.dst ++ macB f.src ++ (if f.tagged then two 33024 ++ two (8192 * f.prio + f.vlan) else [])).map cell1) ∧ (∀ x, blkS v = some x → w.heap.size < x) ∧ w'.heap[w.heap.size]? = some (cellsO f.cells 26) ∧ Fr none_ w w') ?_ fun j hj => ?_
  · rintro v4 w4 ⟨ho4, hn4, hb4, hF4⟩
    simp only [push_cast, Nat.reduceAdd, Nat.reduceLeDiff, Nat.reduceLT, Int.reduceToNat, Nat.left_eq_add, Nat.add_eq_left, Nat.add_left_cancel_iff, Nat.reduceEqDiff, Nat.add_assoc, Nat.succ_ne_zero, hb4]
    refine step _ _ _ _ _ ho4 hn4 hb4 hF4 (by omega) (by omega) (by cases f.tagged <;> simp [macB, two]) fun v5 w5 ho5 hn5 hb5 hF5 => ?_
    simp only [push_cast, Nat.reduceAdd, Nat.reduceLeDiff, Nat.reduceLT, Int.reduceToNat, Nat.left_eq_add, Nat.add_eq_left, Nat.add_left_cancel_iff, Nat.reduceEqDiff, Nat.add_assoc, Nat.succ_ne_zero, hb5]
    have hbody := hf.2.fr hF5 fun _ _ h => h
    refine s_app (z := .int .u8 0) rfl (by decide) ho5 hbody.1 (flat_cell1_one _) (by rw [List.length_map, List.length_map]; cases f.tagged <;> simp [macB, two] <;> omega) fun v6 w6 ho6 _ hF6 => ?_
    refine h v6 w6 ⟨by rw [← List.map_append] at ho6; exact ho6.rd, ?_⟩ (hF5.trans_new hF6 fun x hx e => absurd (hn5 _ e) (by omega))
    intro x hx
    simp only [Frm.bytes, List.mem_append] at hx
    rcases hx with (((hx | hx) | hx) | hx) | hx
    · exact macB_ok hok.1 _ hx
    · exact macB_ok hok.2.1 _ hx
    · by_cases ht : f.tagged = true
      · rw [if_pos ht] at hx hright
        have h1 := hright.2
        rw [decide_eq_true_eq] at h1
        rcases List.mem_append.1 hx with hx | hx
        · exact two_ok (by decide) (by decide) _ hx
        · exact two_ok (by omega) (by omega) _ hx
      · rw [if_neg ht] at hx; cases hx
    · exact two_ok (by omega) (by omega) _ hx
    · exact hf.2.2 _ hx
  · simp only [push_cast, Nat.reduceAdd, Nat.reduceLeDiff, Nat.reduceLT, Int.reduceToNat, Nat.left_eq_add, Nat.add_eq_left, Nat.add_left_cancel_iff, Nat.reduceEqDiff, Nat.add_assoc, Nat.succ_ne_zero, hb3]
    refine br_intro (fun ht => ?_) fun ht => hj _ _ ⟨by rw [ht]; simpa using ho3, hn3, hb3, hF3⟩
    rw [if_pos ht] at hright
    have h1 := hright.2
    rw [decide_eq_true_eq] at h1
    refine step _ _ _ _ _ ho3 hn3 hb3 hF3 (by omega) (by omega) (by simp [macB]) fun v5 w5 ho5 hn5 hb5 hF5 => ?_
    simp only [push_cast, Nat.reduceAdd, Nat.reduceLeDiff, Nat.reduceLT, Int.reduceToNat, Nat.left_eq_add, Nat.add_eq_left, Nat.add_left_cancel_iff, Nat.reduceEqDiff, Nat.add_assoc, Nat.succ_ne_zero, hb5]
    rw [wrap_i64 (x := 8192 * f.prio) (by omega), wrap_i64 (by omega)]
    refine step _ _ _ _ _ ho5 hn5 hb5 hF5 (by omega) (by omega) (by simp [macB, two]) fun v6 w6 ho6 hn6 hb6 hF6 => ?_
    exact hj _ _ ⟨by rw [ht, if_pos rfl, ← List.append_assoc]; exact ho6, hn6, hb6, hF6⟩

end Go.Gx.S
end

section
/- The bytes of a frame; tags: the laws. -/
set_option linter.unusedVariables false
set_option linter.unusedSimpArgs false
set_option maxRecDepth 100000
namespace Go.Gx.S
open Go Go.Gx Go.Proofs
variable {K : Value → World → Prop} {w : World}

theorem build_mac1 {n : Int} : opS Tryd.prog (S.build 23 [(0, .int .u8 n)]) K w = K (.agg (Mac.cells ⟨n, 0, 0, 0, 0, 0⟩).toArray) w := by
  rw [opS_build _ rfl]; rfl
theorem build_frm4 {d s : Mac} {t : Int} {a : Option Addr} {n c : Nat} : opS Tryd.prog (S.build 26 [(0, .agg d.cells.toArray), (1, .agg s.cells.toArray), (5, .int .i64 t), (6, .slice a n c)]) K w = K (.agg (Frm.cells ⟨d, s, false, 0, 0, t, .slice a n c⟩).toArray) w := by
  rw [opS_build _ rfl]; rfl

theorem by_at {v : Value} {bs : List Int} (h : ByR w v bs) {i : Nat} (hi : i < bs.length) {F : Value → World → Prop} (hF : F (u8 bs[i]) w) : opS Tryd.prog (S.ia 24 v (.int .i64 i)) (fun x => opS Tryd.prog (S.ld 5 x) F) w := by
  refine s_iaE h.1 (by omega) (by simpa using hi) fun b o c _ he => ?_
  simp only [push_cast, Nat.reduceAdd, Nat.reduceLeDiff, Nat.reduceLT, Int.reduceToNat, Nat.left_eq_add, Nat.add_eq_left, Nat.add_left_cancel_iff, Nat.reduceEqDiff, Nat.add_assoc, Nat.succ_ne_zero]
  rw [he.cell0 (by simp [cell1])]
  simp only [push_cast, Nat.reduceAdd, Nat.reduceLeDiff, Nat.reduceLT, Int.reduceToNat, Nat.left_eq_add, Nat.add_eq_left, Nat.add_left_cancel_iff, Nat.reduceEqDiff, Nat.add_assoc, Nat.succ_ne_zero, List.getElem_map, cell1, Int.toNat_natCast]
  exact hF

theorem awake_spec (h : ∀ w', Fr none_ w w' → K (.bool true) w') : CallsR Tryd.prog 9 #[] K w := by
  apply c9
  unfold p9
  rw [build_mac1, build_mac1]
  refine s_bs1c (z := .int .u8 0) rfl rfl fun v w1 hv hF1 hN1 => ?_
  have hby : ByR w1 v [5] := own_by (bs := [5]) hv (by simp [isB])
  obtain ⟨a, c, rfl⟩ := hby.form
  rw [build_frm4]
  have hf : FrmR w1 ⟨⟨1, 0, 0, 0, 0, 0⟩, ⟨2, 0, 0, 0, 0, 0⟩, false, 0, 0, 2048, .slice a 1 c⟩ [5] := ⟨⟨by simp [Mac.ok, isB], by simp [Mac.ok, isB], isI_iff.2 (by simp), isI_iff.2 (by simp), isI_iff.2 (by simp)⟩, hby⟩
  simp only [push_cast, Nat.reduceAdd, Nat.reduceLeDiff, Nat.reduceLT, Int.reduceToNat, Nat.left_eq_add, Nat.add_eq_left, Nat.add_left_cancel_iff, Nat.reduceEqDiff, Nat.add_assoc, Nat.succ_ne_zero]
  refine enc_spec hf (by decide) fun b w2 hb hN hF2 => ?_
  have hr : (⟨⟨1, 0, 0, 0, 0, 0⟩, ⟨2, 0, 0, 0, 0, 0⟩, false, 0, 0, 2048, .slice a 1 c⟩ : Frm).right [(5 : Int)].length = true := rfl
  rw [hr, if_pos rfl] at hb
  have hb : ByR w2 b [1, 0, 0, 0, 0, 0, 2, 0, 0, 0, 0, 0, 8, 0, 5] := hb
  rw [hr, if_pos rfl]
  obtain ⟨ba, bc, hbe⟩ := hb.form
  have hbe : b = .slice ba 15 bc := hbe
  simp only [push_cast, Nat.reduceAdd, Nat.reduceLeDiff, Nat.reduceLT, Int.reduceToNat, Nat.left_eq_add, Nat.add_eq_left, Nat.add_left_cancel_iff, Nat.reduceEqDiff, Nat.add_assoc, Nat.succ_ne_zero]
  refine br_intro (fun _ => ?_) fun e => absurd e (by decide)
  rw [hbe]
  simp only [push_cast, Nat.reduceAdd, Nat.reduceLeDiff, Nat.reduceLT, Int.reduceToNat, Nat.left_eq_add, Nat.add_eq_left, Nat.add_left_cancel_iff, Nat.reduceEqDiff, Nat.add_assoc, Nat.succ_ne_zero]
  refine br_intro (fun _ => ?_) fun e => absurd e (by decide)
  rw [← hbe]
  refine by_at hb (i := 12) (by decide) ?_
  simp only [push_cast, Nat.reduceAdd, Nat.reduceLeDiff, Nat.reduceLT, Int.reduceToNat, Nat.left_eq_add, Nat.add_eq_left, Nat.add_left_cancel_iff, Nat.reduceEqDiff, Nat.add_assoc, Nat.succ_ne_zero]
  refine br_intro (fun _ => ?_) fun e => absurd e (by decide)
  refine by_at hb (i := 14) (by decide) ?_
  simp only [push_cast, Nat.reduceAdd, Nat.reduceLeDiff, Nat.reduceLT, Int.reduceToNat, Nat.left_eq_add, Nat.add_eq_left, Nat.add_left_cancel_iff, Nat.reduceEqDiff, Nat.add_assoc, Nat.succ_ne_zero]
  exact h w2 (hF1.trans hF2)

theorem encodes_law {f : Frm} {bs : List Int} (hf : FrmR w f bs) (h : ∀ w', Fr none_ w w' → K (.bool true) w') : CallsR Tryd.prog 3 #[.agg f.cells.toArray] K w := by
  apply c3
  unfold p3
  obtain ⟨a, c, hbd⟩ := hf.2.form
  simp only [push_cast, Nat.reduceAdd, Nat.reduceLeDiff, Nat.reduceLT, Int.reduceToNat, Nat.left_eq_add, Nat.add_eq_left, Nat.add_left_cancel_iff, Nat.reduceEqDiff, Nat.add_assoc, Nat.succ_ne_zero]
  refine awake_spec fun w1 hF1 => ?_
  have h1 := hF1.heap (b := w.heap.size) (o := cellsO f.cells 26) (by simp only [push_cast, Nat.reduceAdd, Nat.reduceLeDiff, Nat.reduceLT, Int.reduceToNat, Nat.left_eq_add, Nat.add_eq_left, Nat.add_left_cancel_iff, Nat.reduceEqDiff, Nat.add_assoc, Nat.succ_ne_zero]) (fun h => h)
  have hF : Fr none_ w w1 := Fr.trans (by repeat' first | with_reducible exact Fr.refl _ _ | with_reducible refine Fr.step_alloc ?_ ?_ | with_reducible refine Fr.step_drew ?_ | with_reducible refine Fr.step_wr ?_ ?_ _ _ | exact rfl | exact Or.inr (by omega) | exact Or.inl rfl | exact Or.inl (Or.inl rfl) | exact Or.inl (Or.inr rfl)) hF1
  clear hF1
  simp only [push_cast, Nat.reduceAdd, Nat.reduceLeDiff, Nat.reduceLT, Int.reduceToNat, Nat.left_eq_add, Nat.add_eq_left, Nat.add_left_cancel_iff, Nat.reduceEqDiff, Nat.add_assoc, Nat.succ_ne_zero, h1, hbd]
  refine br_dec (fun _ => h _ hF) fun hl => ?_
  refine enc_spec (hf.fr0 hF) (by omega) fun v2 w2 hv2 hN2 hF2 => ?_
  have h2 := hF2.heap h1 (fun h => h)
  replace hF := hF.trans hF2
  simp only [push_cast, Nat.reduceAdd, Nat.reduceLeDiff, Nat.reduceLT, Int.reduceToNat, Nat.left_eq_add, Nat.add_eq_left, Nat.add_left_cancel_iff, Nat.reduceEqDiff, Nat.add_assoc, Nat.succ_ne_zero, h2]
  refine renc_spec (hf.fr0 hF) (by omega) fun v3 w3 hv3 hF3 => ?_
  have h3 := hF3.heap h2 (fun h => h)
  replace hF := hF.trans hF3
  replace hv2 := hv2.fr hF3 fun _ _ h => h
  simp only [push_cast, Nat.reduceAdd, Nat.reduceLeDiff, Nat.reduceLT, Int.reduceToNat, Nat.left_eq_add, Nat.add_eq_left, Nat.add_left_cancel_iff, Nat.reduceEqDiff, Nat.add_assoc, Nat.succ_ne_zero, h3]
  have hFd := hF.step_drew
  have hv2d : ByR w3.drew v2 _ := hv2
  have hv3d : ByR w3.drew v3 _ := hv3
  have h3d : w3.drew.heap[w.heap.size]? = some (cellsO f.cells 26) := h3
  generalize w3.drew = w4 at *
  have last : ∀ w', Fr none_ w w' → K (.bool (f.right bs.length == f.right bs.length)) w' := fun w' hF => by simpa using h w' hF
  have fin : ∀ w', Fr none_ w w' → w'.heap[w.heap.size]? = some (cellsO f.cells 26) → CallsR Tryd.prog 12 #[.agg f.cells.toArray] (fun x21 => opS Tryd.prog (S.ld 26 (pt w.heap.size 0)) fun x22 => opS Tryd.prog (S.cl 13 [x22]) fun x23 => opS Tryd.prog (S.binB .eql x21 x23) fun x24 => K x24) w' := by
    intro w' hF h5
    refine right_spec hbd fun w6 hF6 => ?_
    have h6 := hF6.heap h5 (fun h => h)
    simp only [push_cast, Nat.reduceAdd, Nat.reduceLeDiff, Nat.reduceLT, Int.reduceToNat, Nat.left_eq_add, Nat.add_eq_left, Nat.add_left_cancel_iff, Nat.reduceEqDiff, Nat.add_assoc, Nat.succ_ne_zero, h6]
    refine rright_spec hbd fun w7 hF7 => ?_
    simp only [push_cast, Nat.reduceAdd, Nat.reduceLeDiff, Nat.reduceLT, Int.reduceToNat, Nat.left_eq_add, Nat.add_eq_left, Nat.add_left_cancel_iff, Nat.reduceEqDiff, Nat.add_assoc, Nat.succ_ne_zero]
    exact last _ ((hF.trans hF6).trans hF7)
  have fin2 : ∀ w', Fr none_ w w' → CallsR Tryd.prog 12 #[.agg f.cells.toArray] (fun x21 => opS Tryd.prog (S.cl 13 [.agg f.cells.toArray]) fun x23 => opS Tryd.prog (S.binB .eql x21 x23) fun x24 => K x24) w' := by
    intro w' hF
    refine right_spec hbd fun w6 hF6 => ?_
    simp only [push_cast, Nat.reduceAdd, Nat.reduceLeDiff, Nat.reduceLT, Int.reduceToNat, Nat.left_eq_add, Nat.add_eq_left, Nat.add_left_cancel_iff, Nat.reduceEqDiff, Nat.add_assoc, Nat.succ_ne_zero]
    refine rright_spec hbd fun w7 hF7 => ?_
    simp only [push_cast, Nat.reduceAdd, Nat.reduceLeDiff, Nat.reduceLT, Int.reduceToNat, Nat.left_eq_add, Nat.add_eq_left, Nat.add_left_cancel_iff, Nat.reduceEqDiff, Nat.add_assoc, Nat.succ_ne_zero]
    exact last _ ((hF.trans hF6).trans hF7)
  refine allW_intro ?_ ?_
  all_goals
    first | rw [s_b2s hv2d, s_b2s hv3d] | rw [s_b2s hv3d, s_b2s hv2d]
    rw [s_eqS hv2d.2 hv3d.2]
    simp only [push_cast, Nat.reduceAdd, Nat.reduceLeDiff, Nat.reduceLT, Int.reduceToNat, Nat.left_eq_add, Nat.add_eq_left, Nat.add_left_cancel_iff, Nat.reduceEqDiff, Nat.add_assoc, Nat.succ_ne_zero]
    refine br_intro (fun _ => ?_) fun e => absurd e (by simp)
    simp only [push_cast, Nat.reduceAdd, Nat.reduceLeDiff, Nat.reduceLT, Int.reduceToNat, Nat.left_eq_add, Nat.add_eq_left, Nat.add_left_cancel_iff, Nat.reduceEqDiff, Nat.add_assoc, Nat.succ_ne_zero, h3d]
    refine allW_intro (fin _ hFd h3d) ?_
    simp only [push_cast, Nat.reduceAdd, Nat.reduceLeDiff, Nat.reduceLT, Int.reduceToNat, Nat.left_eq_add, Nat.add_eq_left, Nat.add_left_cancel_iff, Nat.reduceEqDiff, Nat.add_assoc, Nat.succ_ne_zero, h3d]
    exact fin2 _ hFd

/-! ### Plain -/

theorem two_inj {a b : Int} (h : two a = two b) : a = b := by
  simp only [two, List.cons.injEq, and_true] at h
  omega
theorem macB_inj {a b : Mac} (h : macB a = macB b) : a = b := by
  simp only [macB, List.cons.injEq, and_true] at h
  obtain ⟨h0, h1, h2, h3, h4, h5⟩ := h
  exact Mac.ext h0 h1 h2 h3 h4 h5
theorem bytes_len (f : Frm) (bs : List Int) : (Frm.bytes f bs).length = 14 + bs.length + (if f.tagged then 4 else 0) := by
  unfold Frm.bytes
  cases f.tagged <;> simp [macB, two] <;> omega
theorem bytes_inj {f g : Frm} {bs cs : List Int} (hf : f.right bs.length = true) (hg : g.right cs.length = true) :
    Frm.bytes f bs = Frm.bytes g cs ↔ (f.dst = g.dst ∧ f.src = g.src ∧ f.tagged = g.tagged ∧ f.vlan = g.vlan ∧ f.prio = g.prio ∧ f.type = g.type ∧ bs = cs) := by
  constructor
  · intro h
    simp only [Frm.right, Bool.and_eq_true, decide_eq_true_eq] at hf hg
    unfold Frm.bytes at h
    simp only [List.append_assoc] at h
    have h1 := List.append_inj h rfl
    have h2 := List.append_inj h1.2 rfl
    refine ⟨macB_inj h1.1, macB_inj h2.1, ?_⟩
    have h3 := h2.2
    obtain ⟨hf1, hf2⟩ := hf
    obtain ⟨hg1, hg2⟩ := hg
    cases ef : f.tagged <;> cases eg : g.tagged <;> rw [ef] at h3 hf2 <;> rw [eg] at h3 hg2 <;> simp only [if_true, if_false, Bool.false_eq_true, List.nil_append, List.append_assoc, decide_eq_true_eq] at h3 hf2 hg2
    · have h4 := List.append_inj h3 rfl
      exact ⟨rfl, hf2.1.trans hg2.1.symm, hf2.2.trans hg2.2.symm, two_inj h4.1, h4.2⟩
    · have h4 := two_inj (List.append_inj h3 rfl).1
      omega
    · have h4 := two_inj (List.append_inj h3 rfl).1
      omega
    · have h4 := List.append_inj (List.append_inj h3 rfl).2 rfl
      have h5 := two_inj h4.1
      have h6 := List.append_inj h4.2 rfl
      exact ⟨rfl, by omega, by omega, two_inj h6.1, h6.2⟩
  · rintro ⟨h1, h2, h3, h4, h5, h6, rfl⟩
    unfold Frm.bytes
    rw [h1, h2, h3, h4, h5, h6]

theorem once_law {f g : Frm} {bs cs : List Int} (hf : FrmR w f bs) (hg : FrmR w g cs) (h : ∀ w', Fr none_ w w' → K (.bool true) w') : CallsR Tryd.prog 4 #[.agg f.cells.toArray, .agg g.cells.toArray] K w := by
  apply c4
  unfold p4
  obtain ⟨a, c, hbd⟩ := hf.2.form
  obtain ⟨ga, gc, hgbd⟩ := hg.2.form
  simp only [push_cast, Nat.reduceAdd, Nat.reduceLeDiff, Nat.reduceLT, Int.reduceToNat, Nat.left_eq_add, Nat.add_eq_left, Nat.add_left_cancel_iff, Nat.reduceEqDiff, Nat.add_assoc, Nat.succ_ne_zero]
  refine awake_spec fun w1 hF1 => ?_
  have h1 := hF1.heap (b := w.heap.size) (o := cellsO f.cells 26) (by simp only [push_cast, Nat.reduceAdd, Nat.reduceLeDiff, Nat.reduceLT, Int.reduceToNat, Nat.left_eq_add, Nat.add_eq_left, Nat.add_left_cancel_iff, Nat.reduceEqDiff, Nat.add_assoc, Nat.succ_ne_zero]) (fun h => h)
  have g1 := hF1.heap (b := w.heap.size + 1) (o := cellsO g.cells 26) (by simp only [push_cast, Nat.reduceAdd, Nat.reduceLeDiff, Nat.reduceLT, Int.reduceToNat, Nat.left_eq_add, Nat.add_eq_left, Nat.add_left_cancel_iff, Nat.reduceEqDiff, Nat.add_assoc, Nat.succ_ne_zero]) (fun h => h)
  have hF : Fr none_ w w1 := Fr.trans (by repeat' first | with_reducible exact Fr.refl _ _ | with_reducible refine Fr.step_alloc ?_ ?_ | with_reducible refine Fr.step_drew ?_ | with_reducible refine Fr.step_wr ?_ ?_ _ _ | exact rfl | exact Or.inr (by omega) | exact Or.inl rfl | exact Or.inl (Or.inl rfl) | exact Or.inl (Or.inr rfl)) hF1
  clear hF1
  simp only [push_cast, Nat.reduceAdd, Nat.reduceLeDiff, Nat.reduceLT, Int.reduceToNat, Nat.left_eq_add, Nat.add_eq_left, Nat.add_left_cancel_iff, Nat.reduceEqDiff, Nat.add_assoc, Nat.succ_ne_zero, h1, g1, hbd, hgbd]
  refine br_dec (fun _ => h _ hF) fun hl => ?_
  refine br_dec (fun _ => h _ hF) fun hgl => ?_
  refine enc_spec (hf.fr0 hF) (by omega) fun v2 w2 hv2 hN2 hF2 => ?_
  have h2 := hF2.heap h1 (fun h => h)
  have g2 := hF2.heap g1 (fun h => h)
  replace hF := hF.trans hF2
  simp only [push_cast, Nat.reduceAdd, Nat.reduceLeDiff, Nat.reduceLT, Int.reduceToNat, Nat.left_eq_add, Nat.add_eq_left, Nat.add_left_cancel_iff, Nat.reduceEqDiff, Nat.add_assoc, Nat.succ_ne_zero, g2]
  refine enc_spec (hg.fr0 hF) (by omega) fun v3 w3 hv3 hN3 hF3 => ?_
  have h3 := hF3.heap h2 (fun h => h)
  have g3 := hF3.heap g2 (fun h => h)
  replace hF := hF.trans hF3
  replace hv2 := hv2.fr hF3 fun _ _ h => h
  simp only [push_cast, Nat.reduceAdd, Nat.reduceLeDiff, Nat.reduceLT, Int.reduceToNat, Nat.left_eq_add, Nat.add_eq_left, Nat.add_left_cancel_iff, Nat.reduceEqDiff, Nat.add_assoc, Nat.succ_ne_zero]
  refine br_intro (fun _ => h _ hF) fun e => ?_
  have hfr : f.right bs.length = true := by
    cases hr : f.right bs.length with
    | true => rfl
    | false => rw [hr] at e; exact absurd e (by decide)
  refine br_intro (fun _ => h _ hF) fun e => ?_
  have hgr : g.right cs.length = true := by
    cases hr : g.right cs.length with
    | true => rfl
    | false => rw [hr] at e; exact absurd e (by decide)
  rw [hfr, if_pos rfl] at hv2
  rw [hgr, if_pos rfl] at hv3
  simp only [push_cast, Nat.reduceAdd, Nat.reduceLeDiff, Nat.reduceLT, Int.reduceToNat, Nat.left_eq_add, Nat.add_eq_left, Nat.add_left_cancel_iff, Nat.reduceEqDiff, Nat.add_assoc, Nat.succ_ne_zero, h3, hbd]
  rw [wrap_i64 (x := 14 + (bs.length : Int)) (by omega)]
  refine jn1 (fun x w' => w' = w3 ∧ x = i64 (14 + (bs.length : Int) + (if f.tagged then 4 else 0))) ?_ fun j hj => ?_
  · rintro x w' ⟨rfl, rfl⟩
    simp only [push_cast, Nat.reduceAdd, Nat.reduceLeDiff, Nat.reduceLT, Int.reduceToNat, Nat.left_eq_add, Nat.add_eq_left, Nat.add_left_cancel_iff, Nat.reduceEqDiff, Nat.add_assoc, Nat.succ_ne_zero, h3, g3]
    refine same_spec (hf.fr0 hF) (hg.fr0 hF) fun w4 hF4 => ?_
    replace hF := hF.trans hF4
    replace hv2 := hv2.fr hF4 fun _ _ h => h
    replace hv3 := hv3.fr hF4 fun _ _ h => h
    obtain ⟨va, vc, hve⟩ := hv2.form
    have hlen : S.len v2 = S.len (.slice va (Frm.bytes f bs).length vc) := by rw [hve]
    rw [hlen]
    simp only [push_cast, Nat.reduceAdd, Nat.reduceLeDiff, Nat.reduceLT, Int.reduceToNat, Nat.left_eq_add, Nat.add_eq_left, Nat.add_left_cancel_iff, Nat.reduceEqDiff, Nat.add_assoc, Nat.succ_ne_zero]
    refine br_intro (fun _ => ?_) fun e => absurd e ?_
    · rw [s_b2s hv2, s_b2s hv3, s_eqS hv2.2 hv3.2]
      simp only [push_cast, Nat.reduceAdd, Nat.reduceLeDiff, Nat.reduceLT, Int.reduceToNat, Nat.left_eq_add, Nat.add_eq_left, Nat.add_left_cancel_iff, Nat.reduceEqDiff, Nat.add_assoc, Nat.succ_ne_zero]
      have e : ∀ b1 b2 : Bool, (b1 = true ↔ b2 = true) → (b1 == b2) = true := by decide
      rw [e _ _ (by rw [decide_eq_true_iff, decide_eq_true_iff]; exact (bytes_inj hfr hgr).symm)]
      exact h _ hF
    · rw [bytes_len]
      cases f.tagged <;> simp
  · simp only [push_cast, Nat.reduceAdd, Nat.reduceLeDiff, Nat.reduceLT, Int.reduceToNat, Nat.left_eq_add, Nat.add_eq_left, Nat.add_left_cancel_iff, Nat.reduceEqDiff, Nat.add_assoc, Nat.succ_ne_zero, h3]
    refine br_intro (fun ht => ?_) fun ht => ?_
    · rw [wrap_i64 (by omega)]
      exact hj _ _ ⟨rfl, by rw [ht]; rfl⟩
    · exact hj _ _ ⟨rfl, by rw [ht]; simp⟩

theorem zalloc_frm : opS Tryd.prog (S.alloc 26) K w = K (pt w.heap.size 0) (w.alloc (cellsO zFrm.cells 26)) := by
  rw [opS_alloc]; rfl

/-- a frame is laid down -/
theorem frm_slot {g : Frm} {R : Value → Value → World → Prop} (hone : g.cells.all S.oneCell = true) (h : ∀ u w', w'.heap[w.heap.size]? = some (cellsO g.cells 26) → Fr none_ w w' → R (pt w.heap.size 0) u w') :
    opS Tryd.prog (S.alloc 26) (fun x => opS Tryd.prog (S.st 26 x (.agg g.cells.toArray)) (R x)) w := by
  rw [zalloc_frm]
  simp only [push_cast, Nat.reduceAdd, Nat.reduceLeDiff, Nat.reduceLT, Int.reduceToNat, Nat.left_eq_add, Nat.add_eq_left, Nat.add_left_cancel_iff, Nat.reduceEqDiff, Nat.add_assoc, Nat.succ_ne_zero, hone]
  refine h _ _ ?_ (Fr.step_wr (Fr.step_alloc (Fr.refl _ _) rfl) (.inr (Nat.le_refl _)) _ _)
  simp only [push_cast, Nat.reduceAdd, Nat.reduceLeDiff, Nat.reduceLT, Int.reduceToNat, Nat.left_eq_add, Nat.add_eq_left, Nat.add_left_cancel_iff, Nat.reduceEqDiff, Nat.add_assoc, Nat.succ_ne_zero]

theorem tag_pair {f : Frm} {bs : List Int} {v p : Int} : (if (f.tag v p).right bs.length then Value.tuple #[.agg (f.tag v p).cells.toArray, i64 0] else .tuple #[.agg zFrm.cells.toArray, i64 1]) =
    .tuple #[.agg (if (f.tag v p).right bs.length then f.tag v p else zFrm).cells.toArray, i64 (if (f.tag v p).right bs.length then 0 else 1)] := by
  split <;> rfl

theorem tags_law {f : Frm} {bs : List Int} {v p : Int} (hf : FrmR w f bs) (hv : isI v) (hp : isI p) (h : ∀ w', Fr none_ w w' → K (.bool true) w') : CallsR Tryd.prog 5 #[.agg f.cells.toArray, i64 v, i64 p] K w := by
  apply c5
  unfold p5
  obtain ⟨a, c, hbd⟩ := hf.2.form
  simp only [push_cast, Nat.reduceAdd, Nat.reduceLeDiff, Nat.reduceLT, Int.reduceToNat, Nat.left_eq_add, Nat.add_eq_left, Nat.add_left_cancel_iff, Nat.reduceEqDiff, Nat.add_assoc, Nat.succ_ne_zero]
  refine awake_spec fun w1 hF1 => ?_
  have h1 := hF1.heap (b := w.heap.size) (o := cellsO f.cells 26) (by simp only [push_cast, Nat.reduceAdd, Nat.reduceLeDiff, Nat.reduceLT, Int.reduceToNat, Nat.left_eq_add, Nat.add_eq_left, Nat.add_left_cancel_iff, Nat.reduceEqDiff, Nat.add_assoc, Nat.succ_ne_zero]) (fun h => h)
  have hF : Fr none_ w w1 := Fr.trans (by repeat' first | with_reducible exact Fr.refl _ _ | with_reducible refine Fr.step_alloc ?_ ?_ | with_reducible refine Fr.step_drew ?_ | with_reducible refine Fr.step_wr ?_ ?_ _ _ | exact rfl | exact Or.inr (by omega) | exact Or.inl rfl | exact Or.inl (Or.inl rfl) | exact Or.inl (Or.inr rfl)) hF1
  clear hF1
  simp only [push_cast, Nat.reduceAdd, Nat.reduceLeDiff, Nat.reduceLT, Int.reduceToNat, Nat.left_eq_add, Nat.add_eq_left, Nat.add_left_cancel_iff, Nat.reduceEqDiff, Nat.add_assoc, Nat.succ_ne_zero, h1, hbd]
  refine br_dec (fun _ => h _ hF) fun hl => ?_
  refine tag_spec (hf.fr0 hF) fun w2 hF2 => ?_
  have h2 := hF2.heap h1 (fun h => h)
  replace hF := hF.trans hF2
  rw [tag_pair]
  have hg : ∃ cs, FrmR w (if (f.tag v p).right bs.length then f.tag v p else zFrm) cs := by
    split
    · exact ⟨bs, ⟨hf.1.1, hf.1.2.1, hv, hp, hf.1.2.2.2.2⟩, hf.2⟩
    · exact ⟨[], zFrmR w⟩
  obtain ⟨cs, hg⟩ := hg
  generalize ht : (if (f.tag v p).right bs.length then f.tag v p else zFrm) = t at *
  generalize he : (if (f.tag v p).right bs.length then (0 : Int) else 1) = e at *
  have hone := hg.one
  simp only [s_ext, List.getElem?_toArray, List.getElem?_cons_zero, List.getElem?_cons_succ, onS_some]
  refine frm_slot hone fun _ w3 t3 hF3 => ?_
  have h3 := hF3.heap h2 (fun h => h)
  replace hF := hF.trans hF3
  simp only [push_cast, Nat.reduceAdd, Nat.reduceLeDiff, Nat.reduceLT, Int.reduceToNat, Nat.left_eq_add, Nat.add_eq_left, Nat.add_left_cancel_iff, Nat.reduceEqDiff, Nat.add_assoc, Nat.succ_ne_zero, h3]
  refine rtag_spec (hf.fr0 hF) fun w4 hF4 => ?_
  have h4 := hF4.heap h3 (fun h => h)
  have t4 := hF4.heap t3 (fun h => h)
  replace hF := hF.trans hF4
  rw [tag_pair, ht, he]
  simp only [s_ext, List.getElem?_toArray, List.getElem?_cons_zero, List.getElem?_cons_succ, onS_some]
  refine frm_slot hone fun _ w5 s5 hF5 => ?_
  have h5 := hF5.heap h4 (fun h => h)
  have t5 := hF5.heap t4 (fun h => h)
  replace hF := hF.trans hF5
  simp only [push_cast, Nat.reduceAdd, Nat.reduceLeDiff, Nat.reduceLT, Int.reduceToNat, Nat.left_eq_add, Nat.add_eq_left, Nat.add_left_cancel_iff, Nat.reduceEqDiff, Nat.add_assoc, Nat.succ_ne_zero, t5, s5]
  refine same_spec (hg.fr0 hF) (hg.fr0 hF) fun w6 hF6 => ?_
  have h6 := hF6.step_drew.heap h5 (fun h => h)
  replace hF := (hF.trans hF6).step_drew
  simp only [drw_eq]
  generalize w6.drew = w7 at *
  simp only [push_cast, Nat.reduceAdd, Nat.reduceLeDiff, Nat.reduceLT, Int.reduceToNat, Nat.left_eq_add, Nat.add_eq_left, Nat.add_left_cancel_iff, Nat.reduceEqDiff, Nat.add_assoc, Nat.succ_ne_zero]
  refine br_intro (fun _ => ?_) fun e => absurd e (by simp)
  refine br_intro (fun _ => ?_) fun e => absurd e (by simp)
  have hu : FrmR w f.untag bs := ⟨⟨hf.1.1, hf.1.2.1, isI_iff.2 (by simp [Frm.untag]), isI_iff.2 (by simp [Frm.untag]), hf.1.2.2.2.2⟩, hf.2⟩
  have last : ∀ w', Fr none_ w w' → CallsR Tryd.prog 14 #[.agg f.untag.cells.toArray, .agg f.untag.cells.toArray] K w' := fun w' hF' =>
    same_spec (hu.fr0 hF') (hu.fr0 hF') fun w'' hF'' => by
      rw [decide_eq_true (by simp)]
      exact h _ (hF'.trans hF'')
  simp only [push_cast, Nat.reduceAdd, Nat.reduceLeDiff, Nat.reduceLT, Int.reduceToNat, Nat.left_eq_add, Nat.add_eq_left, Nat.add_left_cancel_iff, Nat.reduceEqDiff, Nat.add_assoc, Nat.succ_ne_zero, h6]
  refine allW_intro ?_ ?_
  · refine untag_spec (hf.fr0 hF) fun w8 hF8 => ?_
    have h8 := hF8.heap h6 (fun h => h)
    replace hF := hF.trans hF8
    simp only [push_cast, Nat.reduceAdd, Nat.reduceLeDiff, Nat.reduceLT, Int.reduceToNat, Nat.left_eq_add, Nat.add_eq_left, Nat.add_left_cancel_iff, Nat.reduceEqDiff, Nat.add_assoc, Nat.succ_ne_zero, h8]
    refine runtag_spec (hf.fr0 hF) fun w9 hF9 => ?_
    simp only [push_cast, Nat.reduceAdd, Nat.reduceLeDiff, Nat.reduceLT, Int.reduceToNat, Nat.left_eq_add, Nat.add_eq_left, Nat.add_left_cancel_iff, Nat.reduceEqDiff, Nat.add_assoc, Nat.succ_ne_zero]
    exact last _ (hF.trans hF9)
  · simp only [push_cast, Nat.reduceAdd, Nat.reduceLeDiff, Nat.reduceLT, Int.reduceToNat, Nat.left_eq_add, Nat.add_eq_left, Nat.add_left_cancel_iff, Nat.reduceEqDiff, Nat.add_assoc, Nat.succ_ne_zero, h6]
    refine untag_spec (hf.fr0 hF) fun w8 hF8 => ?_
    replace hF := hF.trans hF8
    simp only [push_cast, Nat.reduceAdd, Nat.reduceLeDiff, Nat.reduceLT, Int.reduceToNat, Nat.left_eq_add, Nat.add_eq_left, Nat.add_left_cancel_iff, Nat.reduceEqDiff, Nat.add_assoc, Nat.succ_ne_zero]
    refine runtag_spec (hf.fr0 hF) fun w9 hF9 => ?_
    simp only [push_cast, Nat.reduceAdd, Nat.reduceLeDiff, Nat.reduceLT, Int.reduceToNat, Nat.left_eq_add, Nat.add_eq_left, Nat.add_left_cancel_iff, Nat.reduceEqDiff, Nat.add_assoc, Nat.succ_ne_zero]
    exact last _ (hF.trans hF9)

theorem off_law {f : Frm} {bs : List Int} {v p : Int} (hf : FrmR w f bs) (hv : isI v) (hp : isI p) (h : ∀ w', Fr none_ w w' → K (.bool true) w') : CallsR Tryd.prog 6 #[.agg f.cells.toArray, i64 v, i64 p] K w := by
  apply c6
  unfold p6
  obtain ⟨a, c, hbd⟩ := hf.2.form
  simp only [push_cast, Nat.reduceAdd, Nat.reduceLeDiff, Nat.reduceLT, Int.reduceToNat, Nat.left_eq_add, Nat.add_eq_left, Nat.add_left_cancel_iff, Nat.reduceEqDiff, Nat.add_assoc, Nat.succ_ne_zero]
  refine awake_spec fun w1 hF1 => ?_
  have h1 := hF1.heap (b := w.heap.size) (o := cellsO f.cells 26) (by simp only [push_cast, Nat.reduceAdd, Nat.reduceLeDiff, Nat.reduceLT, Int.reduceToNat, Nat.left_eq_add, Nat.add_eq_left, Nat.add_left_cancel_iff, Nat.reduceEqDiff, Nat.add_assoc, Nat.succ_ne_zero]) (fun h => h)
  have hF : Fr none_ w w1 := Fr.trans (by repeat' first | with_reducible exact Fr.refl _ _ | with_reducible refine Fr.step_alloc ?_ ?_ | with_reducible refine Fr.step_drew ?_ | with_reducible refine Fr.step_wr ?_ ?_ _ _ | exact rfl | exact Or.inr (by omega) | exact Or.inl rfl | exact Or.inl (Or.inl rfl) | exact Or.inl (Or.inr rfl)) hF1
  clear hF1
  simp only [push_cast, Nat.reduceAdd, Nat.reduceLeDiff, Nat.reduceLT, Int.reduceToNat, Nat.left_eq_add, Nat.add_eq_left, Nat.add_left_cancel_iff, Nat.reduceEqDiff, Nat.add_assoc, Nat.succ_ne_zero, h1, hbd]
  refine br_dec (fun _ => h _ hF) fun hl => ?_
  refine br_intro (fun _ => h _ hF) fun ht => ?_
  refine tag_spec (hf.fr0 hF) fun w2 hF2 => ?_
  have h2 := hF2.heap h1 (fun h => h)
  replace hF := hF.trans hF2
  rw [tag_pair]
  have hg : ∃ cs, FrmR w (if (f.tag v p).right bs.length then f.tag v p else zFrm) cs := by
    split
    · exact ⟨bs, ⟨hf.1.1, hf.1.2.1, hv, hp, hf.1.2.2.2.2⟩, hf.2⟩
    · exact ⟨[], zFrmR w⟩
  obtain ⟨cs, hg⟩ := hg
  have hone := hg.one
  simp only [s_ext, List.getElem?_toArray, List.getElem?_cons_zero, List.getElem?_cons_succ, onS_some]
  refine frm_slot hone fun _ w3 t3 hF3 => ?_
  have h3 := hF3.heap h2 (fun h => h)
  replace hF := hF.trans hF3
  simp only [push_cast, Nat.reduceAdd, Nat.reduceLeDiff, Nat.reduceLT, Int.reduceToNat, Nat.left_eq_add, Nat.add_eq_left, Nat.add_left_cancel_iff, Nat.reduceEqDiff, Nat.add_assoc, Nat.succ_ne_zero]
  refine br_intro (fun _ => h _ hF) fun e => ?_
  have hr : (f.tag v p).right bs.length = true := by
    cases hr : (f.tag v p).right bs.length with
    | true => rfl
    | false => rw [hr] at e; exact absurd e (by decide)
  rw [hr, if_pos rfl] at t3
  have htg : FrmR w (f.tag v p) bs := ⟨⟨hf.1.1, hf.1.2.1, hv, hp, hf.1.2.2.2.2⟩, hf.2⟩
  simp only [push_cast, Nat.reduceAdd, Nat.reduceLeDiff, Nat.reduceLT, Int.reduceToNat, Nat.left_eq_add, Nat.add_eq_left, Nat.add_left_cancel_iff, Nat.reduceEqDiff, Nat.add_assoc, Nat.succ_ne_zero, h3]
  refine enc_spec (hf.fr0 hF) (by omega) fun v4 w4 hv4 hN4 hF4 => ?_
  have h4 := hF4.heap h3 (fun h => h)
  have t4 := hF4.heap t3 (fun h => h)
  replace hF := hF.trans hF4
  simp only [push_cast, Nat.reduceAdd, Nat.reduceLeDiff, Nat.reduceLT, Int.reduceToNat, Nat.left_eq_add, Nat.add_eq_left, Nat.add_left_cancel_iff, Nat.reduceEqDiff, Nat.add_assoc, Nat.succ_ne_zero, t4]
  refine enc_spec (htg.fr0 hF) (by omega) fun v5 w5 hv5 hN5 hF5 => ?_
  have h5 := hF5.heap h4 (fun h => h)
  have t5 := hF5.heap t4 (fun h => h)
  replace hF := hF.trans hF5
  rw [hr, if_pos rfl] at hv5
  rw [hr, if_pos rfl]
  simp only [push_cast, Nat.reduceAdd, Nat.reduceLeDiff, Nat.reduceLT, Int.reduceToNat, Nat.left_eq_add, Nat.add_eq_left, Nat.add_left_cancel_iff, Nat.reduceEqDiff, Nat.add_assoc, Nat.succ_ne_zero]
  refine jn1 (fun x w' => x = .bool true ∧ Fr none_ w w' ∧ w'.heap[w.heap.size]? = some (cellsO f.cells 26)) ?_ fun j hj => ?_
  · rintro x w' ⟨rfl, hF', h'⟩
    simp only [push_cast, Nat.reduceAdd, Nat.reduceLeDiff, Nat.reduceLT, Int.reduceToNat, Nat.left_eq_add, Nat.add_eq_left, Nat.add_left_cancel_iff, Nat.reduceEqDiff, Nat.add_assoc, Nat.succ_ne_zero, jn_1]
    refine br_intro (fun e => ?_) fun e => ?_
    · have hfr : f.right bs.length = false := by
        cases hr : f.right bs.length with
        | false => rfl
        | true => rw [hr] at e; exact absurd e (by decide)
      simp only [push_cast, Nat.reduceAdd, Nat.reduceLeDiff, Nat.reduceLT, Int.reduceToNat, Nat.left_eq_add, Nat.add_eq_left, Nat.add_left_cancel_iff, Nat.reduceEqDiff, Nat.add_assoc, Nat.succ_ne_zero, h']
      refine br_intro (fun _ => ?_) fun e => absurd e (by decide)
      refine right_spec hbd fun w6 hF6 => ?_
      rw [hfr]
      simp only [push_cast, Nat.reduceAdd, Nat.reduceLeDiff, Nat.reduceLT, Int.reduceToNat, Nat.left_eq_add, Nat.add_eq_left, Nat.add_left_cancel_iff, Nat.reduceEqDiff, Nat.add_assoc, Nat.succ_ne_zero]
      exact h _ (hF'.trans hF6)
    · have hfr : f.right bs.length = true := by
        cases hr : f.right bs.length with
        | true => rfl
        | false => rw [hr] at e; exact absurd e (by decide)
      rw [hfr, if_pos rfl] at hv4
      refine br_intro (fun _ => ?_) fun e => absurd e (by decide)
      obtain ⟨a4, c4, e4⟩ := hv4.form
      obtain ⟨a5, c5, e5⟩ := hv5.form
      rw [e4, e5]
      simp only [push_cast, Nat.reduceAdd, Nat.reduceLeDiff, Nat.reduceLT, Int.reduceToNat, Nat.left_eq_add, Nat.add_eq_left, Nat.add_left_cancel_iff, Nat.reduceEqDiff, Nat.add_assoc, Nat.succ_ne_zero]
      have l4 : (Frm.bytes f bs).length = 14 + bs.length := by rw [bytes_len, ht]; rfl
      have l5 : (Frm.bytes (f.tag v p) bs).length = 14 + bs.length + 4 := by rw [bytes_len]; rfl
      rw [l4, l5, wrap_i64 (by omega)]
      have e6 : (((14 + bs.length + 4 : Nat) : Int) == ((14 + bs.length : Nat) : Int) + 4) = true := by simp
      rw [e6]
      exact h _ hF'
  have hut : (f.tag v p).untag = f.untag := rfl
  have hu : FrmR w f.untag bs := ⟨⟨hf.1.1, hf.1.2.1, isI_iff.2 (by simp [Frm.untag]), isI_iff.2 (by simp [Frm.untag]), hf.1.2.2.2.2⟩, hf.2⟩
  have last : ∀ w', Fr none_ w w' → w'.heap[w.heap.size]? = some (cellsO f.cells 26) → CallsR Tryd.prog 14 #[.agg f.untag.cells.toArray, .agg f.untag.cells.toArray] j w' := fun w' hF' h' =>
    same_spec (hu.fr0 hF') (hu.fr0 hF') fun w'' hF'' => by
      rw [decide_eq_true (by simp)]
      exact hj _ _ ⟨rfl, hF'.trans hF'', hF''.heap h' fun h => h⟩
  have hd : w5.drew.heap[w.heap.size]? = some (cellsO f.cells 26) := h5
  replace hF := hF.step_drew
  simp only [push_cast, Nat.reduceAdd, Nat.reduceLeDiff, Nat.reduceLT, Int.reduceToNat, Nat.left_eq_add, Nat.add_eq_left, Nat.add_left_cancel_iff, Nat.reduceEqDiff, Nat.add_assoc, Nat.succ_ne_zero, t5]
  generalize w5.drew = w7 at *
  refine allW_intro ?_ ?_
  · refine untag_spec (htg.fr0 hF) fun w8 hF8 => ?_
    have h8 := hF8.heap hd (fun h => h)
    replace hF := hF.trans hF8
    simp only [push_cast, Nat.reduceAdd, Nat.reduceLeDiff, Nat.reduceLT, Int.reduceToNat, Nat.left_eq_add, Nat.add_eq_left, Nat.add_left_cancel_iff, Nat.reduceEqDiff, Nat.add_assoc, Nat.succ_ne_zero, h8]
    refine untag_spec (hf.fr0 hF) fun w9 hF9 => ?_
    simp only [push_cast, Nat.reduceAdd, Nat.reduceLeDiff, Nat.reduceLT, Int.reduceToNat, Nat.left_eq_add, Nat.add_eq_left, Nat.add_left_cancel_iff, Nat.reduceEqDiff, Nat.add_assoc, Nat.succ_ne_zero, hut]
    exact last _ (hF.trans hF9) (hF9.heap h8 fun h => h)
  · simp only [push_cast, Nat.reduceAdd, Nat.reduceLeDiff, Nat.reduceLT, Int.reduceToNat, Nat.left_eq_add, Nat.add_eq_left, Nat.add_left_cancel_iff, Nat.reduceEqDiff, Nat.add_assoc, Nat.succ_ne_zero, hd]
    refine untag_spec (htg.fr0 hF) fun w8 hF8 => ?_
    have h8 := hF8.heap hd (fun h => h)
    replace hF := hF.trans hF8
    simp only [push_cast, Nat.reduceAdd, Nat.reduceLeDiff, Nat.reduceLT, Int.reduceToNat, Nat.left_eq_add, Nat.add_eq_left, Nat.add_left_cancel_iff, Nat.reduceEqDiff, Nat.add_assoc, Nat.succ_ne_zero]
    refine untag_spec (hf.fr0 hF) fun w9 hF9 => ?_
    simp only [push_cast, Nat.reduceAdd, Nat.reduceLeDiff, Nat.reduceLT, Int.reduceToNat, Nat.left_eq_add, Nat.add_eq_left, Nat.add_left_cancel_iff, Nat.reduceEqDiff, Nat.add_assoc, Nat.succ_ne_zero, hut]
    exact last _ (hF.trans hF9) (hF9.heap h8 fun h => h)

end Go.Gx.S
end

section
/- Tables of VLANs: the plain laws. -/
namespace Go.Gx
open Go
namespace VT

theorem mem_members {t : VT} {v p : Int} : p ∈ t.members v ↔ t.port p ∧ t.is v p = true := by
  unfold members port
  rw [List.mem_filter, List.mem_map]
  constructor
  · rintro ⟨⟨n, hn, rfl⟩, h⟩
    rw [List.mem_range] at hn
    exact ⟨⟨by simp, by simpa using hn⟩, h⟩
  · rintro ⟨⟨h1, h2⟩, h⟩
    exact ⟨⟨p.toNat, by rw [List.mem_range]; omega, by simp; omega⟩, h⟩

theorem inn_eq {t : VT} {p : Int} {f : Frm} {n : Nat} : ∃ u, t.inn p f n = if t.port p ∧ f.right n = true then (if t.is u p = true then (u, 0) else (0, 4)) else (0, 1) := ⟨_, rfl⟩

theorem inn_none {t : VT} {p : Int} {f : Frm} {n : Nat} (h : (t.inn p f n).2 ≠ 0) : (t.inn p f n).1 = 0 := by
  obtain ⟨u, hu⟩ := inn_eq (t := t) (p := p) (f := f) (n := n)
  rw [hu] at h ⊢
  by_cases h1 : t.port p ∧ f.right n = true
  · rw [if_pos h1] at h ⊢
    by_cases h2 : t.is u p = true
    · rw [if_pos h2] at h
      exact absurd rfl h
    · rw [if_neg h2]
  · rw [if_neg h1]

theorem inn_some {t : VT} {p : Int} {f : Frm} {n : Nat} (h : (t.inn p f n).2 = 0) : t.port p ∧ f.right n = true ∧ t.is (t.inn p f n).1 p = true := by
  obtain ⟨u, hu⟩ := inn_eq (t := t) (p := p) (f := f) (n := n)
  rw [hu] at h ⊢
  by_cases h1 : t.port p ∧ f.right n = true
  · rw [if_pos h1] at h ⊢
    by_cases h2 : t.is u p = true
    · rw [if_pos h2]
      exact ⟨h1.1, h1.2, h2⟩
    · rw [if_neg h2] at h
      cases h
  · rw [if_neg h1] at h
    cases h

theorem out_some {t : VT} {v p : Int} {f : Frm} {n : Nat} (h : (t.out v p f n).2 = 0) : t.right v p ∧ f.right n = true ∧ ((getL t.tab (v, p) = some true ∧ (t.out v p f n).1 = f.tag v f.prio) ∨ (getL t.tab (v, p) = some false ∧ (t.out v p f n).1 = f.untag)) := by
  unfold out at *
  split at h
  · rename_i hc
    rw [if_pos hc]
    refine ⟨hc.1, hc.2, ?_⟩
    split at h
    · cases h
    · rename_i hl
      rw [hl]; exact .inl ⟨rfl, rfl⟩
    · rename_i hl
      rw [hl]; exact .inr ⟨rfl, rfl⟩
  · cases h

theorem out_is {t : VT} {v p : Int} {f : Frm} {n : Nat} (hr : t.right v p) (hf : f.right n = true) (hi : t.is v p = true) : (t.out v p f n).2 = 0 := by
  unfold out
  rw [if_pos ⟨hr, hf⟩]
  obtain ⟨b, hb⟩ := Option.isSome_iff_exists.1 hi
  rw [hb]
  cases b <;> rfl

theorem right_untag {f : Frm} {n : Nat} (h : f.right n = true) : f.untag.right n = true := by
  unfold Frm.right Frm.untag at *
  simp only [Bool.and_eq_true] at h ⊢
  exact ⟨h.1, by simp⟩

/-- it comes in as what it went out as -/
theorem back_tag {t : VT} {v p : Int} {f : Frm} {n : Nat} (hr : t.right v p) (hf : f.right n = true) (hi : t.is v p = true) : t.inn p (f.tag v f.prio) n = (v, 0) := by
  unfold inn
  rw [if_pos ⟨hr.2.2, tag_right hf hr.1 hr.2.1⟩]
  have h1 := hr.1
  have e : (f.tag v f.prio).vlan = v := rfl
  have h0 : v ≠ 0 := by omega
  rw [e, if_neg h0]
  simp only []
  rw [if_pos hi]

theorem back_untag {t : VT} {v p : Int} {f : Frm} {n : Nat} (hr : t.right v p) (hf : f.right n = true) (hi : t.is v p = true) : (t.native p v).1.inn p f.untag n = (v, 0) := by
  have h1 := hr.1
  have h2 := hr.2.1
  have h3 := hr.2.2
  unfold native
  rw [if_pos ⟨h3, by omega, by omega⟩]
  unfold inn
  have hp : (⟨t.tab, t.nat.set p.toNat v⟩ : VT).port p := by unfold port at *; simpa using h3
  simp only []
  rw [if_pos ⟨hp, right_untag hf⟩]
  have e : f.untag.vlan = 0 := rfl
  have hlt : p.toNat < t.nat.length := by unfold port at h3; omega
  have hg : (t.nat.set p.toNat v).getD p.toNat 0 = v := by
    rw [List.getD_eq_getElem?_getD, List.getElem?_set_self hlt]; rfl
  rw [e, if_pos rfl, hg, if_pos (by exact hi)]

theorem members_native {t : VT} (p v u : Int) : (t.native p v).1.members u = t.members u := by
  unfold native
  split
  · unfold members is; simp
  · rfl

theorem members_step {t t' : VT} {u : Int} (hn : t'.nat.length = t.nat.length) (h : ∀ p, t'.is u p = t.is u p) : t'.members u = t.members u := by
  unfold members
  rw [hn]
  exact List.filter_congr fun p _ => h p

theorem members_add {t : VT} {v p u : Int} {b : Bool} (h : v ≠ u) : (t.add v p b).1.members u = t.members u := by
  unfold add
  split
  · refine members_step rfl fun q => ?_
    unfold is
    simp only []
    rw [lookup_setL, if_neg]
    intro e
    exact h (congrArg Prod.fst e).symm
  · rfl

theorem members_remove {t : VT} {v p u : Int} (h : v ≠ u) : (t.remove v p).1.members u = t.members u := by
  unfold remove
  split
  · split
    · refine members_step rfl fun q => ?_
      unfold is
      simp only []
      rw [lookup_delL, if_neg]
      intro e
      exact h (congrArg Prod.fst e).symm
    · rfl
  · rfl

theorem filter_one_less {l : List Int} {f g : Int → Bool} {p : Int} (hn : l.Nodup) (hp : p ∈ l) (hf : f p = true) (hg : g p = false) (h : ∀ q, q ≠ p → g q = f q) : (l.filter g).length + 1 = (l.filter f).length := by
  induction l with
  | nil => cases hp
  | cons a l ih =>
    rw [List.nodup_cons] at hn
    by_cases e : a = p
    · subst e
      rw [List.filter_cons, List.filter_cons, if_neg (by simp [hg]), if_pos hf, List.length_cons]
      have : l.filter g = l.filter f := List.filter_congr fun q hq => h q fun e => hn.1 (e ▸ hq)
      rw [this]
    · have hp' : p ∈ l := by
        rcases List.mem_cons.1 hp with rfl | hp
        · exact absurd rfl e
        · exact hp
      rw [List.filter_cons, List.filter_cons, h a e]
      have := ih hn.2 hp'
      split
      · simp only [List.length_cons]; omega
      · exact this

theorem range_nodup (n : Nat) : ((List.range n).map Int.ofNat).Nodup := by
  refine List.Pairwise.map (R := (· < ·)) _ ?_ List.pairwise_lt_range
  intro a b hab e
  have : (a : Int) = b := e
  omega

theorem members_rise (t : VT) (v : Int) : (t.members v).Pairwise (· < ·) := by
  unfold members
  refine List.Pairwise.filter _ ?_
  refine List.Pairwise.map (R := (· < ·)) _ ?_ List.pairwise_lt_range
  intro a b hab
  show (a : Int) < b
  omega

theorem native_none {t : VT} (h : t.ok) (p : Int) (f : Frm) (hf : f.vlan = 0) (n : Nat) :
    ((t.native p 0).1.inn p f n).1 = 0 ∧ ((t.native p 0).1.inn p f n).2 ≠ 0 ∧ ((t.inn p f n).2 = 1 ∨ (t.native p 0).2 = 0) := by
  by_cases hp : t.port p
  · have hlt : p.toNat < t.nat.length := by unfold port at hp; omega
    have hn : t.native p 0 = ({ t with nat := t.nat.set p.toNat 0 }, 0) := by unfold native; rw [if_pos ⟨hp, by omega, by omega⟩]
    rw [hn]
    have hok := ok_native h p 0
    rw [hn] at hok
    have hno : (⟨t.tab, t.nat.set p.toNat 0⟩ : VT).is 0 p = false := by
      cases hi : (⟨t.tab, t.nat.set p.toNat 0⟩ : VT).is 0 p with
      | false => rfl
      | true =>
        have := is_right hok hi
        have := this.1
        omega
    have hg : (t.nat.set p.toNat 0).getD p.toNat 0 = 0 := by
      rw [List.getD_eq_getElem?_getD, List.getElem?_set_self hlt]; rfl
    refine ⟨?_, ?_, .inr rfl⟩
    all_goals
      unfold inn
      simp only [hf, if_true, hg, hno]
      split <;> simp
  · have hn : t.native p 0 = (t, 1) := by unfold native; rw [if_neg (fun h => hp h.1)]
    rw [hn]
    have : t.inn p f n = (0, 1) := by unfold inn; rw [if_neg (fun h => hp h.1)]
    rw [this]
    exact ⟨rfl, by decide, .inl rfl⟩

end VT
end Go.Gx
end

section
/- What comes in: keys, structs. -/
namespace Go.Gx
open Go Go.ChangeShapes Go.WideShapes Go.ChangeAt Go.RowKit
section
variable {H : Type} {enc : TypeId × Value → H} {P : Program} {w : World} {base : Nat} {spare : Nat → Bool} {held : Bool}

/-- a struct, or an array, that comes in -/
theorem arg_agg {t base' : Nat} {v : Value} {d : DataW H} {ps : List MemPlace} {r : Reach} (hu : (∃ fs, P.underlying t = some (.struct fs)) ∨ ∃ n e, P.underlying t = some (.array n e)) (hok : Value.okWide P w r base' t v) (h : DataW.Trod enc P w base spare held t v d ps) :
    ∃ cs : List Value, v = .agg cs.toArray ∧ ∃ n, DataW.trod enc P w base spare held n t cs = some (d, ps) := by
  obtain ⟨fuel, h⟩ := h
  unfold Value.okWide at hok
  rcases hu with ⟨fs, hu⟩ | ⟨n, e, hu⟩
  · simp only [hu] at hok
    obtain ⟨cs, rfl, _⟩ := hok
    exact ⟨cs.toList, by simp, fuel, h⟩
  · simp only [hu] at hok
    obtain ⟨cs, rfl, _⟩ := hok
    exact ⟨cs.toList, by simp, fuel, h⟩

/-- .. that may be a key -/
theorem arg_key {t base' : Nat} {v : Value} {d : DataW H} {ps : List MemPlace} {r : Reach} (hu : (∃ fs, P.underlying t = some (.struct fs)) ∨ ∃ n e, P.underlying t = some (.array n e)) (hk : P.keyTypeAt 8 t = true) (hok : Value.okWide P w r base' t v) (h : DataW.Trod enc P w base spare held t v d ps) :
    ∃ cs : List Value, v = .agg cs.toArray ∧ ∃ l, P.keyLits 8 t cs = some l := by
  obtain ⟨cs, h1, n, h2⟩ := arg_agg hu hok h
  exact ⟨cs, h1, _, (keyLits_of_trod 8 t hk n cs _ h2).1⟩

/-- bytes that come in -/
theorem trod_bytes {t e n : Nat} {v : Value} {x : DataW H × List MemPlace} (ht : P.underlying t = some (.slice e)) (he : P.underlying e = some (.int .u8)) (hc : P.cellsOf e = 1) (h : DataW.trod enc P w base spare held n t [v] = some x) :
    ∃ bs, ByR w v bs ∧ bs.length ≤ maxLen := by
  obtain ⟨es, h1, h2, h3⟩ := open_rd ht hc (by decide) h
  have key : ∃ bs : List Int, es = bs.map cell1 ∧ ∀ b ∈ bs, isB b := by
    clear h1 h2
    induction es with
    | nil => exact ⟨[], rfl, by simp⟩
    | cons c es ih =>
      obtain ⟨bs, hb, hbs⟩ := ih fun c hc => h3 c (List.mem_cons_of_mem _ hc)
      obtain ⟨m, y, hy⟩ := h3 c (List.mem_cons_self ..)
      obtain ⟨z, rfl, _, hw⟩ := DataW.trod_int he hy
      refine ⟨z :: bs, by rw [hb]; rfl, fun b hb => ?_⟩
      rcases List.mem_cons.1 hb with rfl | hb
      · simp only [Lit.wf, Bool.and_eq_true, decide_eq_true_eq] at hw
        exact hw
      · exact hbs b hb
  obtain ⟨bs, rfl, hbs⟩ := key
  exact ⟨bs, ⟨h1, hbs⟩, by simpa using h2⟩

theorem arg_bytes {t e base' : Nat} {v : Value} {d : DataW H} {ps : List MemPlace} {r : Reach} (ht : P.underlying t = some (.slice e)) (he : P.underlying e = some (.int .u8)) (hc : P.cellsOf e = 1) (hok : Value.okWide P w r base' t v) (h : DataW.Trod enc P w base spare held t v d ps) :
    ∃ bs, ByR w v bs ∧ bs.length ≤ maxLen := by
  obtain ⟨fuel, h⟩ := h
  rw [okWide_slice ht hok] at h
  exact trod_bytes ht he hc h

end
end Go.Gx
end

section
/- Frames that come in. -/
set_option linter.unusedVariables false
set_option maxRecDepth 100000
namespace Go.Gx.S
open Go Go.Gx Go.Proofs

theorem ctFrame : Tryd.prog.cellsOf 26 = 17 := by kernel_rfl
theorem ctBytes : Tryd.prog.cellsOf 24 = 1 := by kernel_rfl
theorem ktMac : Tryd.prog.keyTypeAt 8 23 = true := by kernel_rfl

section
variable {H : Type} {enc : TypeId × Value → H} {w : World} {base : Nat} {spare : Nat → Bool} {held : Bool}

theorem trod_frame {n : Nat} {cs : List Value} {x : DataW H × List MemPlace} (h : DataW.trod enc Tryd.prog w base spare held n 26 cs = some x) : ∃ (f : Frm) (bs : List Int), FrmR w f bs ∧ cs = f.cells ∧ bs.length ≤ maxLen := by
  obtain ⟨xs, m, rfl, rfl, hl, hxs, hf⟩ := DataW.trod_struct Tryd.underlying26 h
  rw [ctFrame] at hl
  match cs, hl with
  | [c0, c1, c2, c3, c4, c5, c6, c7, c8, c9, c10, c11, c12, c13, c14, c15, c16], _ =>
  have hx : xs.length = 7 := hxs
  match xs, hx with
  | [y0, y1, y2, y3, y4, y5, y6], _ =>
  have g0 : DataW.trod enc Tryd.prog w base spare held m 23 (([c0, c1, c2, c3, c4, c5, c6, c7, c8, c9, c10, c11, c12, c13, c14, c15, c16].drop 0).take (Tryd.prog.cellsOf 23)) = some y0 := hf 0 _ rfl
  have g1 : DataW.trod enc Tryd.prog w base spare held m 23 (([c0, c1, c2, c3, c4, c5, c6, c7, c8, c9, c10, c11, c12, c13, c14, c15, c16].drop 6).take (Tryd.prog.cellsOf 23)) = some y1 := hf 1 _ rfl
  have g2 : DataW.trod enc Tryd.prog w base spare held m 4 (([c0, c1, c2, c3, c4, c5, c6, c7, c8, c9, c10, c11, c12, c13, c14, c15, c16].drop 12).take (Tryd.prog.cellsOf 4)) = some y2 := hf 2 _ rfl
  have g3 : DataW.trod enc Tryd.prog w base spare held m 3 (([c0, c1, c2, c3, c4, c5, c6, c7, c8, c9, c10, c11, c12, c13, c14, c15, c16].drop 13).take (Tryd.prog.cellsOf 3)) = some y3 := hf 3 _ rfl
  have g4 : DataW.trod enc Tryd.prog w base spare held m 3 (([c0, c1, c2, c3, c4, c5, c6, c7, c8, c9, c10, c11, c12, c13, c14, c15, c16].drop 14).take (Tryd.prog.cellsOf 3)) = some y4 := hf 4 _ rfl
  have g5 : DataW.trod enc Tryd.prog w base spare held m 3 (([c0, c1, c2, c3, c4, c5, c6, c7, c8, c9, c10, c11, c12, c13, c14, c15, c16].drop 15).take (Tryd.prog.cellsOf 3)) = some y5 := hf 5 _ rfl
  have g6 : DataW.trod enc Tryd.prog w base spare held m 24 (([c0, c1, c2, c3, c4, c5, c6, c7, c8, c9, c10, c11, c12, c13, c14, c15, c16].drop 16).take (Tryd.prog.cellsOf 24)) = some y6 := hf 6 _ rfl
  simp only [ctMac, ctBool, ctInt, ctBytes, List.drop_succ_cons, List.drop_zero, List.take_succ_cons, List.take_zero, List.getElem?_cons_zero, List.getElem?_cons_succ] at g0 g1 g2 g3 g4 g5 g6
  obtain ⟨d, hd, e0, _⟩ := MacT.dec (d := 6) (keyLits_of_trod 8 _ ktMac _ _ _ g0).1
  obtain ⟨s, hs, e1, _⟩ := MacT.dec (d := 6) (keyLits_of_trod 8 _ ktMac _ _ _ g1).1
  obtain ⟨t, e2, _⟩ := DataW.trod_bool uBool g2
  obtain ⟨v, e3, _, hv⟩ := DataW.trod_int uInt g3
  obtain ⟨p, e4, _, hp⟩ := DataW.trod_int uInt g4
  obtain ⟨ty, e5, _, hty⟩ := DataW.trod_int uInt g5
  obtain ⟨bs, hb, hbl⟩ := trod_bytes Tryd.underlying24 Tryd.underlying5 ctByte g6
  simp only [Mac.cells, List.cons.injEq, and_true] at e0 e1 e2 e3 e4 e5
  obtain ⟨rfl, rfl, rfl, rfl, rfl, rfl⟩ := e0
  obtain ⟨rfl, rfl, rfl, rfl, rfl, rfl⟩ := e1
  subst e2 e3 e4 e5
  simp only [Lit.wf, Bool.and_eq_true, decide_eq_true_eq] at hv hp hty
  exact ⟨⟨d, s, t, v, p, ty, c16⟩, bs, ⟨⟨hd, hs, hv, hp, hty⟩, hb⟩, rfl, hbl⟩

theorem arg_frame {base' : Nat} {v : Value} {d : DataW H} {ps : List MemPlace} {r : Reach} (hok : Value.okWide Tryd.prog w r base' 26 v) (h : DataW.Trod enc Tryd.prog w base spare held 26 v d ps) :
    ∃ (f : Frm) (bs : List Int), FrmR w f bs ∧ v = .agg f.cells.toArray ∧ bs.length ≤ maxLen := by
  obtain ⟨cs, rfl, n, hn⟩ := arg_agg (.inl ⟨_, Tryd.underlying26⟩) hok h
  obtain ⟨f, bs, h1, rfl, h2⟩ := trod_frame hn
  exact ⟨f, bs, h1, rfl, h2⟩

end
end Go.Gx.S
end

section
/- The row of a law where package-level variables read as listed. -/
namespace Go.Gx
open Go Go.ChangeShapes Go.WideShapes Go.ChangeAt Go.RowKit

section
variable {H : Type} {enc : TypeId × Value → H}
theorem law_lifted_laid {C : Checked} {os : Os} {f : FuncId} {fn : Func} {s : ChangeSpec} {conds : List PathCond} {fresh handsOn : Bool} {tb n : Nat} {laid : List (String × DataW Unit)}
    (own : ownKnob C.prog.godebug = none) (started : os.Started) (noInit : C.prog.inits.idxOf? f = none) (hfn : C.prog.funcs[f]? = some fn)
    (witness : ∃ (w : World) (tape : Tape) (i : Input), w.os = os ∧ (w.forCall tape i).Shaped C.prog ∧ i.vars = [] ∧ Input.okWide C.prog (w.forCall tape i) .any w.heap.size f i ∧
      ((s.pre enc C.prog fn conds false (w.forCall tape i).memory i.args ∧ laidMetH C.prog laid (w.forCall tape i).memory) ∧ sizedMet enc C.prog fn (OpenSpec.ofChange s) false (w.forCall tape i).memory i.args) ∧ Assume.holds {} C.prog (lone (Frame.enter C.prog f i.args .normal) [] (w.forCall tape i)))
    (hl : laidOutB C.prog = true) (hts : ∀ t ∈ fn.params.toList, C.prog.readableRec t = true ∧ t < C.prog.types.size)
    (hrt : fn.resultTypes = #[tb]) (htb : C.prog.underlying tb = some .bool) (hvar : s.vars = []) (hn : fn.params.size = n)
    (hspec : ∀ ds : List (DataW H), ds.length = n → s.fn H ds = { results := [.lit (.bool true)], args := ds })
    (walk : ∀ (W : World) (base : Nat) (args : Array Value) (ds : List (DataW H)) (ps : List MemPlace),
      (∀ (j : Nat) t v, fn.params[j]? = some t → args[j]? = some v → Value.okWide C.prog W .any base t v) →
      DataW.TrodAll enc C.prog W 0 (fun _ => true) true fn.params.toList args.toList ds ps →
      CallsR C.prog f args (fun v W' => v = .bool true ∧ Fr none_ W W') W) :
    ReturnsInHanded {} C os f .any (fun w args => (s.pre enc C.prog fn conds false w args ∧ laidMetH C.prog laid w) ∧ sizedMet enc C.prog fn (OpenSpec.ofChange s) false w args) (s.post enc C.prog fn false fresh handsOn false) := by
  refine returnsInHanded_of_change_and (X := fun w _ => laidMetH C.prog laid w) (fun _ _ _ hh h => laidMetH.of_heap hh h) own started noInit hfn witness ?_
  intro W base args ds gs before hval hW _ _ _ _
  have hW' := hW
  obtain ⟨p, q, hA, hV, hps, hfz, hnd⟩ := hW
  rw [hvar] at hV
  obtain ⟨rfl, _⟩ := trodVars_none hV
  refine Calls.mono (walk W base args ds p hval hA) fun e W' ⟨v, he, hv, hF⟩ => ?_
  refine ⟨v, he, ?_⟩
  subst hv
  have hlen : ds.length = n := by
    have key : ∀ {ts : List TypeId} {vs : List Value} {ds : List (DataW H)} {ps : List MemPlace}, DataW.TrodAll enc C.prog W 0 (fun _ => true) true ts vs ds ps → ds.length = ts.length := by
      intro ts
      induction ts with
      | nil => intro vs ds ps h; obtain ⟨rfl, rfl, rfl⟩ := trodAll_nil h; rfl
      | cons t ts ih =>
        intro vs ds ps h
        obtain ⟨v, vs1, d, ds1, a, b, rfl, rfl, rfl, h1, h2⟩ := trodAll_cons h
        simp [ih h2]
    rw [key hA, Array.length_toList, hn]
  exact law_post hl hts hrt htb hvar (by rw [List.append_nil]; exact hspec ds hlen) hW' hF
end
end Go.Gx
end

section
/- Frames that come in; the listed variable; the laws on frames' bytes. -/
set_option maxRecDepth 100000
namespace Go.Gx.S
open Go Go.Gx Go.Proofs

noncomputable abbrev laidE : List (String × DataW Unit) := [("bytes.ErrTooLarge", YtebfekelonfcgaaDoor.Rows.laid_bytes_ErrTooLarge)]
/-- the door's own heap meets the condition -/
theorem door_met (os : Os) (args : Array Value) : laidMetH Tryd.prog laidE ((World.doorLaid Tryd.prog 400 os).forCall (fun _ _ => 0) ⟨#[], args, []⟩).memory :=
  laidMetH_of_parts3 (fuel := 8) (laidMet_of_run' 8 (by kernel_rfl) (by kernel_rfl)) (by kernel_rfl) (by kernel_rfl)
end Go.Gx.S
end

section
/- What the functions of this program ask. -/
set_option linter.unusedVariables false
set_option maxRecDepth 100000
namespace Go.Gx.S
open Go Go.Gx Go.Proofs
-- gemel/gemellaw02.EtherDecodes
def p7 (P : Program) (K : Value → World → Prop) (x0 : Value) : World → Prop :=
  opS P (S.cl 9 []) fun x1 =>
  opS P (S.un .not x1) fun x2 =>
  brn x2 (
    K x1
  ) (
    opS P (S.len x0) fun x3 =>
    opS P (S.binI .gtr x3 (.int .i64 3000)) fun x4 =>
    brn x4 (
      K x1
    ) (
      opS P (S.cl 19 [x0]) fun x5 =>
      opS P (S.ext x5 0) fun x6 =>
      opS P (S.ext x5 1) fun x7 =>
      opS P (S.alloc 26) fun x8 =>
      opS P (S.st 26 x8 x6) fun x9 =>
      opS P (S.cl 20 [x0]) fun x10 =>
      opS P (S.ext x10 0) fun x11 =>
      opS P (S.ext x10 1) fun x12 =>
      opS P (S.alloc 26) fun x13 =>
      opS P (S.st 26 x13 x11) fun x14 =>
      opS P (S.ld 26 x8) fun x15 =>
      opS P (S.ld 26 x13) fun x16 =>
      opS P (S.cl 14 [x15, x16]) fun x17 =>
      brn x17 (
        opS P (S.binI .eql x7 x12) fun x18 =>
        K x18
      ) (
        K (.bool false)
      )
    )
  )
instance fnb7 : FnB Tryd.prog 7 := ⟨Tryd.call7⟩
theorem e7 : p7 Tryd.prog = fun K x0 => denF Tryd.prog Tryd.f7 [x0] K := by kernel_rfl
theorem c7 {K : Value → World → Prop} {x0 : Value} {w : World} (h : p7 Tryd.prog K x0 w) : CallsR Tryd.prog 7 #[x0] K w := by
  rw [e7] at h
  exact denF_sound mixed Tryd.func7 h

-- gemel/gemellaw02.EtherBack
def p8 (P : Program) (K : Value → World → Prop) (x0 : Value) (x1 : Value) : World → Prop :=
  opS P (S.box 26 x0) fun x2 =>
  opS P (S.cl 9 []) fun x3 =>
  opS P (S.un .not x3) fun x4 =>
  brn x4 (
    K x3
  ) (
    opS P (S.fa 26 x2 6) fun x5 =>
    opS P (S.ld 24 x5) fun x6 =>
    opS P (S.len x6) fun x7 =>
    opS P (S.binI .gtr x7 (.int .i64 3000)) fun x8 =>
    brn x8 (
      K x3
    ) (
      opS P (S.len x1) fun x9 =>
      opS P (S.binI .gtr x9 (.int .i64 3000)) fun x10 =>
      brn x10 (
        K x3
      ) (
        opS P (S.ld 26 x2) fun x11 =>
        opS P (S.cl 10 [x11]) fun x12 =>
        opS P (S.ext x12 0) fun x13 =>
        opS P (S.ext x12 1) fun x14 =>
        jnJ 0 (
          opS P (S.cl 19 [x1]) fun x15 =>
          opS P (S.ext x15 0) fun x16 =>
          opS P (S.ext x15 1) fun x17 =>
          opS P (S.alloc 26) fun x18 =>
          opS P (S.st 26 x18 x16) fun x19 =>
          opS P (S.binI .neq x17 (.int .i64 0)) fun x20 =>
          brn x20 (
            jnJ 1 (fun x21 =>
              K x21
            ) fun j0 =>
            opS P (S.binI .eql x17 (.int .i64 2)) fun x21 =>
            brn x21 (
              opS P (S.fa 26 x18 6) fun x22 =>
              opS P (S.ld 24 x22) fun x23 =>
              opS P (S.len x23) fun x24 =>
              opS P (S.binI .eql x24 (.int .i64 0)) fun x25 =>
              j0 x25
            ) (
              j0 (.bool false)
            )
          ) (
            opS P (S.ld 26 x18) fun x21 =>
            opS P (S.cl 10 [x21]) fun x22 =>
            opS P (S.ext x22 0) fun x23 =>
            opS P (S.ext x22 1) fun x24 =>
            opS P (S.binI .eql x24 (.int .i64 0)) fun x25 =>
            brn x25 (
              opS P (S.conv 24 9 x23) fun x26 =>
              opS P (S.conv 24 9 x1) fun x27 =>
              opS P (S.binS .eql x26 x27) fun x28 =>
              brn x28 (
                opS P (S.ld 26 x18) fun x29 =>
                opS P (S.cl 12 [x29]) fun x30 =>
                K x30
              ) (
                K (.bool false)
              )
            ) (
              K (.bool false)
            )
          )
        ) fun j0 =>
        opS P (S.binI .eql x14 (.int .i64 0)) fun x15 =>
        brn x15 (
          opS P (S.cl 19 [x13]) fun x16 =>
          opS P (S.ext x16 0) fun x17 =>
          opS P (S.ext x16 1) fun x18 =>
          opS P (S.alloc 26) fun x19 =>
          opS P (S.st 26 x19 x17) fun x20 =>
          opS P (S.ld 26 x2) fun x21 =>
          opS P (S.ld 26 x19) fun x22 =>
          opS P (S.cl 14 [x21, x22]) fun x23 =>
          opS P (S.binI .neq x18 (.int .i64 0)) fun x24 =>
          brn x24 (
            K (.bool false)
          ) (
            opS P (S.un .not x23) fun x25 =>
            brn x25 (
              K (.bool false)
            ) (
              j0
            )
          )
        ) (
          j0
        )
      )
    )
  )
instance fnb8 : FnB Tryd.prog 8 := ⟨Tryd.call8⟩
theorem e8 : p8 Tryd.prog = fun K x0 x1 => denF Tryd.prog Tryd.f8 [x0, x1] K := by kernel_rfl
theorem c8 {K : Value → World → Prop} {x0 x1 : Value} {w : World} (h : p8 Tryd.prog K x0 x1 w) : CallsR Tryd.prog 8 #[x0, x1] K w := by
  rw [e8] at h
  exact denF_sound mixed Tryd.func8 h

end Go.Gx.S
-- 7 8
end

section
/- What the functions of this program ask. -/
set_option linter.unusedVariables false
set_option maxRecDepth 100000
namespace Go.Gx.S
open Go Go.Gx Go.Proofs
-- gemel/ether.Decode
def p19 (P : Program) (K : Value → World → Prop) (x0 : Value) : World → Prop :=
  opS P (S.alloc 26) fun x1 =>
  opS P (S.cl 25 [x0]) fun x2 =>
  opS P (S.ext x2 0) fun x3 =>
  opS P (S.ext x2 1) fun x4 =>
  opS P (S.alloc 26) fun x5 =>
  opS P (S.st 26 x5 x3) fun x6 =>
  opS P (S.un .not x4) fun x7 =>
  brn x7 (
    opS P (S.build 26 []) fun x8 =>
    opS P (S.st 26 x1 x8) fun x9 =>
    opS P (S.ld 26 x1) fun x10 =>
    K (.tuple #[x10, (.int .i64 2)])
  ) (
    opS P (S.ld 26 x5) fun x8 =>
    opS P (S.cl 12 [x8]) fun x9 =>
    opS P (S.un .not x9) fun x10 =>
    brn x10 (
      opS P (S.build 26 []) fun x11 =>
      opS P (S.st 26 x1 x11) fun x12 =>
      opS P (S.ld 26 x1) fun x13 =>
      K (.tuple #[x13, (.int .i64 2)])
    ) (
      opS P (S.ld 26 x5) fun x11 =>
      opS P (S.st 26 x1 x11) fun x12 =>
      opS P (S.ld 26 x1) fun x13 =>
      K (.tuple #[x13, (.int .i64 0)])
    )
  )
instance fnb19 : FnB Tryd.prog 19 := ⟨Tryd.call19⟩
theorem e19 : p19 Tryd.prog = fun K x0 => denF Tryd.prog Tryd.f19 [x0] K := by kernel_rfl
theorem c19 {K : Value → World → Prop} {x0 : Value} {w : World} (h : p19 Tryd.prog K x0 w) : CallsR Tryd.prog 19 #[x0] K w := by
  rw [e19] at h
  exact denF_sound mixed Tryd.func19 h

-- gemel/gemelref02.Decode
def p20 (P : Program) (K : Value → World → Prop) (x0 : Value) : World → Prop :=
  opS P (S.alloc 26) fun x1 =>
  opS P (S.len x0) fun x2 =>
  opS P (S.binI .lss x2 (.int .i64 14)) fun x3 =>
  brn x3 (
    opS P (S.build 26 []) fun x4 =>
    opS P (S.st 26 x1 x4) fun x5 =>
    opS P (S.ld 26 x1) fun x6 =>
    K (.tuple #[x6, (.int .i64 2)])
  ) (
    opS P (S.alloc 26) fun x4 =>
    jnJ 0 (
      opS P (S.slc 24 x0 (some (.int .i64 12)) none none) fun x5 =>
      jnJ 1 (fun x6 =>
        drw <|
        opS P (S.ia 24 x6 (.int .i64 0)) fun x7 =>
        opS P (S.ld 5 x7) fun x8 =>
        opS P (S.convI .i64 x8) fun x9 =>
        opS P (S.binI .mul x9 (.int .i64 256)) fun x10 =>
        opS P (S.ia 24 x6 (.int .i64 1)) fun x11 =>
        opS P (S.ld 5 x11) fun x12 =>
        opS P (S.convI .i64 x12) fun x13 =>
        opS P (S.binI .add x10 x13) fun x14 =>
        opS P (S.fa 26 x4 5) fun x15 =>
        opS P (S.st 3 x15 x14) fun x16 =>
        opS P (S.buildS 24 0 []) fun x17 =>
        opS P (S.slc 24 x6 (some (.int .i64 2)) none none) fun x18 =>
        opS P (S.bi .append #[24, 24] 24 [x17, x18]) fun x19 =>
        opS P (S.fa 26 x4 6) fun x20 =>
        opS P (S.st 24 x20 x19) fun x21 =>
        opS P (S.ld 26 x4) fun x22 =>
        opS P (S.cl 11 [x22]) fun x23 =>
        opS P (S.ext x23 0) fun x24 =>
        opS P (S.ext x23 1) fun x25 =>
        opS P (S.binI .neq x25 (.int .i64 0)) fun x26 =>
        brn x26 (
          opS P (S.build 26 []) fun x27 =>
          opS P (S.st 26 x1 x27) fun x28 =>
          opS P (S.ld 26 x1) fun x29 =>
          K (.tuple #[x29, (.int .i64 2)])
        ) (
          opS P (S.conv 24 9 x24) fun x27 =>
          opS P (S.conv 24 9 x0) fun x28 =>
          opS P (S.binS .neq x27 x28) fun x29 =>
          brn x29 (
            opS P (S.build 26 []) fun x30 =>
            opS P (S.st 26 x1 x30) fun x31 =>
            opS P (S.ld 26 x1) fun x32 =>
            K (.tuple #[x32, (.int .i64 2)])
          ) (
            opS P (S.ld 26 x4) fun x30 =>
            opS P (S.st 26 x1 x30) fun x31 =>
            opS P (S.ld 26 x1) fun x32 =>
            K (.tuple #[x32, (.int .i64 0)])
          )
        )
      ) fun j0 =>
      drw <|
      opS P (S.ia 24 x5 (.int .i64 0)) fun x6 =>
      opS P (S.ld 5 x6) fun x7 =>
      opS P (S.convI .i64 x7) fun x8 =>
      opS P (S.binI .mul x8 (.int .i64 256)) fun x9 =>
      opS P (S.ia 24 x5 (.int .i64 1)) fun x10 =>
      opS P (S.ld 5 x10) fun x11 =>
      opS P (S.convI .i64 x11) fun x12 =>
      opS P (S.binI .add x9 x12) fun x13 =>
      opS P (S.binI .eql x13 (.int .i64 33024)) fun x14 =>
      brn x14 (
        opS P (S.len x5) fun x15 =>
        opS P (S.binI .lss x15 (.int .i64 6)) fun x16 =>
        brn x16 (
          opS P (S.build 26 []) fun x17 =>
          opS P (S.st 26 x1 x17) fun x18 =>
          opS P (S.ld 26 x1) fun x19 =>
          K (.tuple #[x19, (.int .i64 2)])
        ) (
          drw <|
          opS P (S.ia 24 x5 (.int .i64 2)) fun x17 =>
          opS P (S.ld 5 x17) fun x18 =>
          opS P (S.convI .i64 x18) fun x19 =>
          opS P (S.binI .mul x19 (.int .i64 256)) fun x20 =>
          opS P (S.ia 24 x5 (.int .i64 3)) fun x21 =>
          opS P (S.ld 5 x21) fun x22 =>
          opS P (S.convI .i64 x22) fun x23 =>
          opS P (S.binI .add x20 x23) fun x24 =>
          opS P (S.fa 26 x4 2) fun x25 =>
          opS P (S.st 4 x25 (.bool true)) fun x26 =>
          opS P (S.binI .quo x24 (.int .i64 8192)) fun x27 =>
          opS P (S.fa 26 x4 4) fun x28 =>
          opS P (S.st 3 x28 x27) fun x29 =>
          opS P (S.binI .rem x24 (.int .i64 8192)) fun x30 =>
          opS P (S.fa 26 x4 3) fun x31 =>
          opS P (S.st 3 x31 x30) fun x32 =>
          opS P (S.slc 24 x5 (some (.int .i64 4)) none none) fun x33 =>
          j0 x33
        )
      ) (
        j0 x5
      )
    ) fun j0 =>
    loopJ 1 (fun j1 x5 =>
      opS P (S.binI .lss x5 (.int .i64 6)) fun x6 =>
      brn x6 (
        opS P (S.ia 24 x0 x5) fun x7 =>
        opS P (S.ld 5 x7) fun x8 =>
        opS P (S.fa 26 x4 0) fun x9 =>
        opS P (S.ia 23 x9 x5) fun x10 =>
        opS P (S.st 5 x10 x8) fun x11 =>
        opS P (S.binI .add (.int .i64 6) x5) fun x12 =>
        opS P (S.ia 24 x0 x12) fun x13 =>
        opS P (S.ld 5 x13) fun x14 =>
        opS P (S.fa 26 x4 1) fun x15 =>
        opS P (S.ia 23 x15 x5) fun x16 =>
        opS P (S.st 5 x16 x14) fun x17 =>
        opS P (S.binI .add x5 (.int .i64 1)) fun x18 =>
        j1 x18
      ) (
        j0
      )
    ) (.int .i64 0)
  )
instance fnb20 : FnB Tryd.prog 20 := ⟨Tryd.call20⟩
theorem e20 : p20 Tryd.prog = fun K x0 => denF Tryd.prog Tryd.f20 [x0] K := by kernel_rfl
theorem c20 {K : Value → World → Prop} {x0 : Value} {w : World} (h : p20 Tryd.prog K x0 w) : CallsR Tryd.prog 20 #[x0] K w := by
  rw [e20] at h
  exact denF_sound mixed Tryd.func20 h

end Go.Gx.S
-- 19 20
end

section
/- What the functions of this program ask. -/
set_option linter.unusedVariables false
set_option maxRecDepth 100000
namespace Go.Gx.S
open Go Go.Gx Go.Proofs
-- gemel/ether.read, that may panic
def z25 (P : Program) (K Z : Value → World → Prop) (x0 : Value) : World → Prop :=
  opS P (S.alloc 26) fun x1 =>
  opS P (S.alloc 4) fun x2 =>
  opS P (S.mkf (.func 28) [] [x1, x2]) fun x3 =>
  opS P (S.isF x3) fun x4 =>
  opS P (S.alloc 61) fun x5 =>
  opS P (S.st 61 x5 x0) fun x6 =>
  jnJ 0 (
    jnJ 0 (
      opZ P (S.cl 30 [x5]) (fun x7 =>
        opS P (S.fa 26 x1 5) fun x8 =>
        opS P (S.st 3 x8 x7) fun x9 =>
        jnJ 0 (
          opS P (S.ld 61 x5) fun x10 =>
          opZ P (S.cl 31 [x10]) (fun x11 =>
            opS P (S.fa 26 x1 6) fun x12 =>
            opS P (S.st 24 x12 x11) fun x13 =>
            opS P (S.ld 26 x1) fun x14 =>
            opS P (S.st 26 x1 x14) fun x15 =>
            opS P (S.st 4 x2 (.bool true)) fun x16 =>
            takeD P x3 fun x17 =>
            opS P (S.ld 26 x1) fun x18 =>
            opS P (S.ld 4 x2) fun x19 =>
            K (.tuple #[x18, x19])
          ) fun x11 =>
          dpanS P x3 x11 fun x12 =>
          opS P (S.ld 26 x1) fun x13 =>
          opS P (S.ld 4 x2) fun x14 =>
          K (.tuple #[x13, x14])
        ) fun j0 =>
        opS P (S.fa 26 x1 5) fun x10 =>
        opS P (S.ld 3 x10) fun x11 =>
        opS P (S.binI .eql x11 (.int .i64 33024)) fun x12 =>
        brn x12 (
          opZ P (S.cl 30 [x5]) (fun x13 =>
            opS P (S.binI .shr x13 (.int .u64 13)) fun x14 =>
            opS P (S.binI .and x13 (.int .i64 8191)) fun x15 =>
            opS P (S.fa 26 x1 2) fun x16 =>
            opS P (S.st 4 x16 (.bool true)) fun x17 =>
            opS P (S.fa 26 x1 4) fun x18 =>
            opS P (S.st 3 x18 x14) fun x19 =>
            opS P (S.fa 26 x1 3) fun x20 =>
            opS P (S.st 3 x20 x15) fun x21 =>
            opZ P (S.cl 30 [x5]) (fun x22 =>
              opS P (S.fa 26 x1 5) fun x23 =>
              opS P (S.st 3 x23 x22) fun x24 =>
              j0
            ) fun x22 =>
            dpanS P x3 x22 fun x23 =>
            opS P (S.ld 26 x1) fun x24 =>
            opS P (S.ld 4 x2) fun x25 =>
            K (.tuple #[x24, x25])
          ) fun x13 =>
          dpanS P x3 x13 fun x14 =>
          opS P (S.ld 26 x1) fun x15 =>
          opS P (S.ld 4 x2) fun x16 =>
          K (.tuple #[x15, x16])
        ) (
          j0
        )
      ) fun x7 =>
      dpanS P x3 x7 fun x8 =>
      opS P (S.ld 26 x1) fun x9 =>
      opS P (S.ld 4 x2) fun x10 =>
      K (.tuple #[x9, x10])
    ) fun j0 =>
    drw <|
    allW (
      opS P (S.fa 26 x1 1) fun x7 =>
      allW (
        opS P (S.slc 23 x7 none none none) fun x8 =>
        opZ P (S.cl 29 [x5, (.int .i64 6)]) (fun x9 =>
          opS P (S.bi .copy #[24, 24] 3 [x8, x9]) fun x10 =>
          j0
        ) fun x9 =>
        dpanS P x3 x9 fun x10 =>
        opS P (S.ld 26 x1) fun x11 =>
        opS P (S.ld 4 x2) fun x12 =>
        K (.tuple #[x11, x12])
      ) (
        opZ P (S.cl 29 [x5, (.int .i64 6)]) (fun x8 =>
          opS P (S.slc 23 x7 none none none) fun x9 =>
          opS P (S.bi .copy #[24, 24] 3 [x9, x8]) fun x10 =>
          j0
        ) fun x8 =>
        dpanS P x3 x8 fun x9 =>
        opS P (S.ld 26 x1) fun x10 =>
        opS P (S.ld 4 x2) fun x11 =>
        K (.tuple #[x10, x11])
      )
    ) (
      opZ P (S.cl 29 [x5, (.int .i64 6)]) (fun x7 =>
        opS P (S.fa 26 x1 1) fun x8 =>
        opS P (S.slc 23 x8 none none none) fun x9 =>
        opS P (S.bi .copy #[24, 24] 3 [x9, x7]) fun x10 =>
        j0
      ) fun x7 =>
      dpanS P x3 x7 fun x8 =>
      opS P (S.ld 26 x1) fun x9 =>
      opS P (S.ld 4 x2) fun x10 =>
      K (.tuple #[x9, x10])
    )
  ) fun j0 =>
  drw <|
  allW (
    opS P (S.fa 26 x1 0) fun x7 =>
    allW (
      opS P (S.slc 23 x7 none none none) fun x8 =>
      opZ P (S.cl 29 [x5, (.int .i64 6)]) (fun x9 =>
        opS P (S.bi .copy #[24, 24] 3 [x8, x9]) fun x10 =>
        j0
      ) fun x9 =>
      dpanS P x3 x9 fun x10 =>
      opS P (S.ld 26 x1) fun x11 =>
      opS P (S.ld 4 x2) fun x12 =>
      K (.tuple #[x11, x12])
    ) (
      opZ P (S.cl 29 [x5, (.int .i64 6)]) (fun x8 =>
        opS P (S.slc 23 x7 none none none) fun x9 =>
        opS P (S.bi .copy #[24, 24] 3 [x9, x8]) fun x10 =>
        j0
      ) fun x8 =>
      dpanS P x3 x8 fun x9 =>
      opS P (S.ld 26 x1) fun x10 =>
      opS P (S.ld 4 x2) fun x11 =>
      K (.tuple #[x10, x11])
    )
  ) (
    opZ P (S.cl 29 [x5, (.int .i64 6)]) (fun x7 =>
      opS P (S.fa 26 x1 0) fun x8 =>
      opS P (S.slc 23 x8 none none none) fun x9 =>
      opS P (S.bi .copy #[24, 24] 3 [x9, x7]) fun x10 =>
      j0
    ) fun x7 =>
    dpanS P x3 x7 fun x8 =>
    opS P (S.ld 26 x1) fun x9 =>
    opS P (S.ld 4 x2) fun x10 =>
    K (.tuple #[x9, x10])
  )
instance fnbz25 : FnB Tryd.prog 25 := ⟨Tryd.call25⟩
theorem ez25 : z25 Tryd.prog = fun K Z x0 => denZ Tryd.prog Tryd.f25 [x0] K Z := by kernel_rfl
theorem cz25 {K Z : Value → World → Prop} {x0 : Value} {w : World} (h : z25 Tryd.prog K Z x0 w) : CallsZ Tryd.prog 25 #[x0] K Z w := by
  rw [ez25] at h
  exact denZ_sound mixed Tryd.func25 h

-- bytes.Clone
def p31 (P : Program) (K : Value → World → Prop) (x0 : Value) : World → Prop :=
  opS P (S.binN .eql (S.isNilS x0)) fun x1 =>
  brn x1 (
    K (.slice none 0 0)
  ) (
    opS P (S.buildS 24 0 []) fun x2 =>
    opS P (S.bi .append #[24, 24] 24 [x2, x0]) fun x3 =>
    K x3
  )
instance fnb31 : FnB Tryd.prog 31 := ⟨Tryd.call31⟩
theorem e31 : p31 Tryd.prog = fun K x0 => denF Tryd.prog Tryd.f31 [x0] K := by kernel_rfl
theorem c31 {K : Value → World → Prop} {x0 : Value} {w : World} (h : p31 Tryd.prog K x0 w) : CallsR Tryd.prog 31 #[x0] K w := by
  rw [e31] at h
  exact denF_sound mixed Tryd.func31 h

end Go.Gx.S
-- z25 31
end

section
/- What the functions of this program ask. -/
set_option linter.unusedVariables false
set_option maxRecDepth 100000
namespace Go.Gx.S
open Go Go.Gx Go.Proofs
-- (*gemel/ether.reader).take, that may panic
def z29 (P : Program) (K Z : Value → World → Prop) (x0 : Value) (x1 : Value) : World → Prop :=
  jnJ 0 (
    opS P (S.nc x0) fun x2 =>
    opS P (S.ld 61 x2) fun x3 =>
    opS P (S.slc 61 x3 none (some x1) none) fun x4 =>
    opS P (S.nc x0) fun x5 =>
    opS P (S.ld 61 x5) fun x6 =>
    opS P (S.slc 61 x6 (some x1) none none) fun x7 =>
    opS P (S.nc x0) fun x8 =>
    opS P (S.st 61 x8 x7) fun x9 =>
    K x4
  ) fun j0 =>
  opS P (S.nc x0) fun x2 =>
  opS P (S.ld 61 x2) fun x3 =>
  opS P (S.len x3) fun x4 =>
  opS P (S.binI .gtr x1 x4) fun x5 =>
  brn x5 (
    opS P (S.build 59 []) fun x6 =>
    opS P (S.iface 59 x6) fun x7 =>
    pifS x7 <|
    Z x7
  ) (
    j0
  )
instance fnbz29 : FnB Tryd.prog 29 := ⟨Tryd.call29⟩
theorem ez29 : z29 Tryd.prog = fun K Z x0 x1 => denZ Tryd.prog Tryd.f29 [x0, x1] K Z := by kernel_rfl
theorem cz29 {K Z : Value → World → Prop} {x0 x1 : Value} {w : World} (h : z29 Tryd.prog K Z x0 x1 w) : CallsZ Tryd.prog 29 #[x0, x1] K Z w := by
  rw [ez29] at h
  exact denZ_sound mixed Tryd.func29 h

-- (*gemel/ether.reader).number, that may panic
def z30 (P : Program) (K Z : Value → World → Prop) (x0 : Value) : World → Prop :=
  opZ P (S.cl 29 [x0, (.int .i64 2)]) (fun x1 =>
    drw <|
    opS P (S.ia 24 x1 (.int .i64 0)) fun x2 =>
    opS P (S.ld 5 x2) fun x3 =>
    opS P (S.convI .i64 x3) fun x4 =>
    opS P (S.binI .shl x4 (.int .u64 8)) fun x5 =>
    opS P (S.ia 24 x1 (.int .i64 1)) fun x6 =>
    opS P (S.ld 5 x6) fun x7 =>
    opS P (S.convI .i64 x7) fun x8 =>
    opS P (S.binI .or x5 x8) fun x9 =>
    K x9
  ) fun x1 =>
  Z x1
instance fnbz30 : FnB Tryd.prog 30 := ⟨Tryd.call30⟩
theorem ez30 : z30 Tryd.prog = fun K Z x0 => denZ Tryd.prog Tryd.f30 [x0] K Z := by kernel_rfl
theorem cz30 {K Z : Value → World → Prop} {x0 : Value} {w : World} (h : z30 Tryd.prog K Z x0 w) : CallsZ Tryd.prog 30 #[x0] K Z w := by
  rw [ez30] at h
  exact denZ_sound mixed Tryd.func30 h

end Go.Gx.S
-- z29 z30
end

section
/- What may panic, and is let go. -/
namespace Go.Gx
open Go
variable {P : Program} {K Z : Value → World → Prop} {w : World}

theorem opZ_congr {P : Program} {s s' : Sem Next} (h : s = s') (K Z : Value → World → Prop) (w : World) : opZ P s K Z w = opZ P s' K Z w := by rw [h]
theorem pifS_congr {x x' : Value} (h : x = x') (k : World → Prop) (w : World) : pifS x k w = pifS x' k w := by rw [h]
attribute [congr] opZ_congr pifS_congr

theorem opZ_cl {f : FuncId} [hf : FnB P f] (args : List Value) : opZ P (S.cl f args) K Z w = CallsZ P f args.toArray K Z w := by
  unfold S.cl S.call opZ
  have : (do
      let d ← Deferred.ofValue (.func (.func f) #[] #[]) args.toArray
      invoke d.target d.args : Sem Next) = callFunc f (#[] ++ args.toArray ++ #[]) := rfl
  rw [this, hf.enter]
  simp [uponZ]

theorem opZ_call {f : FuncId} [hf : FnB P f] (cap : Array Value) (args : List Value) : opZ P (S.call (.func (.func f) #[] cap) args) K Z w = CallsZ P f (args.toArray ++ cap) K Z w := by
  unfold S.call opZ
  have : (do
      let d ← Deferred.ofValue (.func (.func f) #[] cap) args.toArray
      invoke d.target d.args : Sem Next) = callFunc f (#[] ++ args.toArray ++ cap) := rfl
  rw [this, hf.enter]
  simp [uponZ]

/-- any other operation panics not -/
theorem opZ_of {s : Sem Next} (h : opS P s K w) : opZ P s K Z w := by
  unfold opZ
  unfold opS at h
  generalize s.run P w = r at h
  cases r with
  | halt x w => exact h
  | ok n w => cases n <;> first | exact h | exact CallsZ.of h

theorem pifS_iface (t : TypeId) (x : Value) (k : World → Prop) (w : World) : pifS (.iface t x) k w = k w := id rfl
attribute [push_cast] opZ_cl opZ_call pifS_iface

theorem opS_iface {t : TypeId} {fs : Array Field} [hT : StT P t fs] (x : Value) : opS P (S.iface t x) K w = K (.iface t x) w := by
  unfold S.iface
  rw [opS_bind]
  have : (Instr.makeInterface t x).run P w = .ok (.iface t x) w := by
    unfold Instr.makeInterface
    rw [Sem.run_bind, run_underlying_of hT.und, Result.andThen_ok]
    rfl
  rw [this]

/-- 'v[:k]' of a slice that was read in a world ahead -/
theorem s_slcH0 {T E sz : Nat} {ag : Bool} [hT : SlT P T E] [hs : Sz P E sz ag] {w0 : World} {v : Value} {es : List (List Value)} (h : RdE sz w0 v es) {k : Nat} (hk : k ≤ es.length) (hK : ∀ v', RdE sz w0 v' (es.take k) → K v' w) : opS P (S.slc T v none (some (.int .i64 k)) none) K w := by
  obtain ⟨a, c, rfl, hc⟩ := h.cap
  rw [opS_slice (run_boundsH (hi := (k : Int)) (by omega) (by omega))]
  have := h.part (l := 0) (m := k) (by omega) hk
  rw [List.drop_zero] at this
  exact hK _ this

/-- 'v[k:]' -/
theorem s_slcL0 {T E sz : Nat} {ag : Bool} [hT : SlT P T E] [hs : Sz P E sz ag] {w0 : World} {v : Value} {es : List (List Value)} (h : RdE sz w0 v es) {k : Nat} (hk : k ≤ es.length) (hK : ∀ v', RdE sz w0 v' (es.drop k) → K v' w) : opS P (S.slc T v (some (.int .i64 k)) none none) K w := by
  obtain ⟨a, c, rfl, hc⟩ := h.cap
  rw [opS_slice (run_boundsL (lo := (k : Int)) (by omega) (by omega))]
  have := h.part (l := k) (m := es.length) hk (Nat.le_refl _)
  rw [List.take_length] at this
  exact hK _ this

end Go.Gx
end
