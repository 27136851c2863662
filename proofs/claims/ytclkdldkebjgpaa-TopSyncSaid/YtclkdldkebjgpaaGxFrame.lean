/- Bytes, texts of bytes, frames. -/
import Derived.Test.YtclkdldkebjgpaaGxMap
import Derived.Laws.Strings
namespace Go.Gx
open Go
variable {P : Program} {K : Value → World → Prop} {w : World}

/-! ### Bytes -/

def cell1 (n : Int) : List Value := [u8 n]
/-- bytes that can be read -/
def ByR (w : World) (v : Value) (bs : List Int) : Prop := RdE 1 w v (bs.map cell1) ∧ ∀ b ∈ bs, isB b
theorem ByR.fr {fp : Nat → Prop} {w w' : World} {v : Value} {bs : List Int} (h : ByR w v bs) (hf : Fr fp w w') (hn : ∀ b, blkS v = some b → ¬ fp b) : ByR w' v bs := ⟨h.1.fr hf hn, h.2⟩
theorem ByR.form {v : Value} {bs : List Int} (h : ByR w v bs) : ∃ a c, v = .slice a bs.length c := by
  obtain ⟨a, c, rfl⟩ := h.1.form
  exact ⟨a, c, by simp⟩
theorem ByR.nil (w : World) (a : Option Addr) (c : Nat) : ByR w (.slice a 0 c) [] := ⟨⟨.inl ⟨⟨_, _, rfl⟩, rfl, rfl⟩, by simp⟩, by simp⟩
theorem flat_cell1 (bs : List Int) : (bs.map cell1).flatten = bs.map u8 := by
  induction bs with
  | nil => rfl
  | cons b bs ih => simp [cell1, ih]
theorem flat_cell1_one (bs : List Int) : (bs.map cell1).flatten.all S.oneCell = true := by
  rw [flat_cell1, List.all_map, List.all_eq_true]
  intro x _
  rfl

/-- bytes as a text -/
def strOf (bs : List Int) : ByteArray := ⟨(bs.map fun n => UInt8.ofNat n.toNat).toArray⟩

theorem byte_inj {a b : Int} (ha : isB a) (hb : isB b) (h : UInt8.ofNat a.toNat = UInt8.ofNat b.toNat) : a = b := by
  have := congrArg UInt8.toNat h
  simp only [UInt8.toNat_ofNat'] at this
  unfold isB at ha hb
  omega

theorem strOf_inj : ∀ {a b : List Int}, (∀ x ∈ a, isB x) → (∀ x ∈ b, isB x) → ((strOf a).data.toList = (strOf b).data.toList ↔ a = b)
  | [], [], _, _ => by simp [strOf]
  | [], b :: bs, _, _ => by simp [strOf]
  | a :: as, [], _, _ => by simp [strOf]
  | a :: as, b :: bs, ha, hb => by
    have ih := @strOf_inj as bs (fun x hx => ha x (List.mem_cons_of_mem _ hx)) (fun x hx => hb x (List.mem_cons_of_mem _ hx))
    simp only [strOf] at ih ⊢
    simp only [List.map_cons, List.cons.injEq]
    constructor
    · rintro ⟨h1, h2⟩
      exact ⟨byte_inj (ha a (List.mem_cons_self ..)) (hb b (List.mem_cons_self ..)) h1, ih.1 h2⟩
    · rintro ⟨rfl, rfl⟩
      exact ⟨rfl, rfl⟩

class StrT (P : Program) (T : TypeId) : Prop where
  und : P.underlying T = some .string
class ByT (P : Program) (T : TypeId) : Prop where
  und : ∃ e, P.underlying T = some (.slice e) ∧ P.underlying e = some (.int .u8)

theorem push_strOf (bs cs : List Int) : cs.foldl (fun (s : ByteArray) n => s.push (UInt8.ofNat n.toNat)) (strOf bs) = strOf (bs ++ cs) := by
  induction cs generalizing bs with
  | nil => simp
  | cons c cs ih =>
    rw [List.foldl_cons]
    have : (strOf bs).push (UInt8.ofNat c.toNat) = strOf (bs ++ [c]) := by
      simp [strOf, ByteArray.push]
    rw [this, ih]
    simp

theorem run_b2s {v : Value} {bs : List Int} (h : ByR w v bs) : (Conv.bytesToString v).run P w = .ok (.string (strOf bs)) w := by
  obtain ⟨a, c, rfl⟩ := h.form
  have hf : (Builtin.firstCells 1 bs.length (.slice a bs.length c)).run P w = .ok (bs.map u8).toArray w := by
    have h1 := h.1.1
    rw [flat_cell1, List.length_map] at h1
    exact run_firstCells h1
  cases a with
  | none =>
    have hn : bs = [] := by
      rcases h.1.1 with ⟨_, h2, _⟩ | ⟨b, o, c', cs, T, fz, hv, _⟩
      · exact List.map_eq_nil_iff.1 (List.eq_nil_of_length_eq_zero h2)
      · cases hv
    subst hn
    rfl
  | some a =>
    unfold Conv.bytesToString
    have hl : (loadCells a bs.length).run P w = .ok (bs.map u8).toArray w := by
      have e : Builtin.firstCells 1 bs.length (.slice (some a) bs.length c) = loadCells a (bs.length * 1) := rfl
      rw [e, Nat.mul_one] at hf
      exact hf
    simp only []
    rw [Sem.run_bind, hl, Result.andThen_ok]
    have key : ∀ (F : Value → ByteArray → Sem (ForInStep ByteArray)), (∀ n r, F (u8 n) r = pure (ForInStep.yield (r.push (UInt8.ofNat n.toNat)))) →
        ∀ (cs ds : List Int), (forIn (cs.map u8) (strOf ds) F).run P w = .ok (strOf (ds ++ cs)) w := by
      intro F hF cs
      induction cs with
      | nil => intro ds; simp
      | cons c cs ih =>
        intro ds
        rw [List.map_cons, List.forIn_cons, hF]
        simp only [pure_bind]
        have : (strOf ds).push (UInt8.ofNat c.toNat) = strOf (ds ++ [c]) := by simp [strOf, ByteArray.push]
        rw [this]
        have := ih (ds ++ [c])
        rw [List.append_assoc] at this
        exact this
    rw [← Array.forIn_toList, Sem.run_bind]
    have e0 : ByteArray.empty = strOf [] := rfl
    rw [e0, key _ (fun n r => rfl) bs []]
    rfl

theorem s_b2s {T S' : TypeId} [hT : ByT P T] [hS : StrT P S'] {v : Value} {bs : List Int} (h : ByR w v bs) : opS P (S.conv T S' v) K w = K (.string (strOf bs)) w := by
  unfold S.conv
  rw [opS_bind]
  obtain ⟨e, h1, h2⟩ := hT.und
  have hr : (convert T S' v).run P w = .ok (.string (strOf bs)) w := by
    have hb := run_b2s (P := P) h
    obtain ⟨a, c, rfl⟩ := h.form
    unfold convert
    rw [Sem.run_bind, run_underlying_of h1, Result.andThen_ok, Sem.run_bind, run_underlying_of hS.und, Result.andThen_ok]
    simp only []
    rw [Sem.run_bind, run_underlying_of h2, Result.andThen_ok]
    exact hb
  rw [hr]

theorem s_eqS {a b : List Int} (ha : ∀ x ∈ a, isB x) (hb : ∀ x ∈ b, isB x) : opS P (S.binS .eql (.string (strOf a)) (.string (strOf b))) K w = K (.bool (decide (a = b))) w := by
  unfold S.binS
  simp only []
  rw [opS_bind]
  have : (Op.stringOp .eql (strOf a) (strOf b)).run P w = .ok (.bool (decide (a = b))) w := by
    unfold Op.stringOp
    simp only [Sem.run_pure]
    congr 2
    have e : ∀ x : List Int, (strOf x).toList = (strOf x).data.toList := fun x => by
      exact ByteArray.toList_eq _
    rw [e, e]
    have := strOf_inj ha hb
    by_cases h : a = b
    · subst h; simp
    · rw [decide_eq_false h]
      simpa using fun h2 => h (this.1 h2)
  rw [this]

/-! ### Frames -/

@[ext] structure Frm where
  dst : Mac
  src : Mac
  tagged : Bool
  vlan : Int
  prio : Int
  type : Int
  body : Value

def Frm.cells (f : Frm) : List Value :=
  [u8 f.dst.b0, u8 f.dst.b1, u8 f.dst.b2, u8 f.dst.b3, u8 f.dst.b4, u8 f.dst.b5, u8 f.src.b0, u8 f.src.b1, u8 f.src.b2, u8 f.src.b3, u8 f.src.b4, u8 f.src.b5, .bool f.tagged, i64 f.vlan, i64 f.prio, i64 f.type, f.body]
/-- a frame's numbers are of their kinds -/
def Frm.ok (f : Frm) : Prop := f.dst.ok ∧ f.src.ok ∧ isI f.vlan ∧ isI f.prio ∧ isI f.type
/-- a frame that can be read, and the bytes of its body -/
def FrmR (w : World) (f : Frm) (bs : List Int) : Prop := f.ok ∧ ByR w f.body bs
theorem FrmR.fr {fp : Nat → Prop} {w w' : World} {f : Frm} {bs : List Int} (h : FrmR w f bs) (hf : Fr fp w w') (hn : ∀ b, blkS f.body = some b → ¬ fp b) : FrmR w' f bs := ⟨h.1, h.2.fr hf hn⟩
theorem FrmR.fr0 {w w' : World} {f : Frm} {bs : List Int} (h : FrmR w f bs) (hf : Fr none_ w w') : FrmR w' f bs := h.fr hf fun _ _ h => h

def zMac : Mac := ⟨0, 0, 0, 0, 0, 0⟩
def zFrm : Frm := ⟨zMac, zMac, false, 0, 0, 0, .slice none 0 0⟩
theorem zFrmR (w : World) : FrmR w zFrm [] := ⟨⟨by simp [zFrm, zMac, Mac.ok, isB], by simp [zFrm, zMac, Mac.ok, isB], isI_iff.2 (by simp [zFrm]), isI_iff.2 (by simp [zFrm]), isI_iff.2 (by simp [zFrm])⟩, ByR.nil _ _ _⟩

/-- may it be? n: how long its body is -/
def Frm.right (f : Frm) (n : Nat) : Bool :=
  decide (1536 ≤ f.type ∧ f.type ≤ 65535 ∧ f.type ≠ 33024 ∧ n ≤ 1500) && (if f.tagged then decide (0 ≤ f.vlan ∧ f.vlan ≤ 4094 ∧ 0 ≤ f.prio ∧ f.prio ≤ 7) else decide (f.vlan = 0 ∧ f.prio = 0))

def Frm.tag (f : Frm) (v p : Int) : Frm := { f with tagged := true, vlan := v, prio := p }
def Frm.untag (f : Frm) : Frm := { f with tagged := false, vlan := 0, prio := 0 }

theorem Frm.len (f : Frm) : f.cells.length = 17 := id rfl
theorem Frm.g12 (f : Frm) : f.cells[12]? = some (.bool f.tagged) := id rfl
theorem Frm.g13 (f : Frm) : f.cells[13]? = some (i64 f.vlan) := id rfl
theorem Frm.g14 (f : Frm) : f.cells[14]? = some (i64 f.prio) := id rfl
theorem Frm.g15 (f : Frm) : f.cells[15]? = some (i64 f.type) := id rfl
theorem Frm.g16 (f : Frm) : f.cells[16]? = some f.body := id rfl
theorem Frm.d0 (f : Frm) : (f.cells.drop 0).take 6 = f.dst.cells := id rfl
theorem Frm.d6 (f : Frm) : (f.cells.drop 6).take 6 = f.src.cells := id rfl
theorem Frm.dw (f : Frm) : (f.cells.drop 0).take 17 = f.cells := id rfl
theorem Frm.s12 (f : Frm) (b : Bool) : splice f.cells 12 [.bool b] = { f with tagged := b }.cells := id rfl
theorem Frm.s13 (f : Frm) (n : Int) : splice f.cells 13 [i64 n] = { f with vlan := n }.cells := id rfl
theorem Frm.s14 (f : Frm) (n : Int) : splice f.cells 14 [i64 n] = { f with prio := n }.cells := id rfl
theorem Frm.s15 (f : Frm) (n : Int) : splice f.cells 15 [i64 n] = { f with type := n }.cells := id rfl
theorem Frm.s16 (f : Frm) (v : Value) : splice f.cells 16 [v] = { f with body := v }.cells := id rfl
theorem Frm.s0 (f : Frm) (m : Mac) : splice f.cells 0 m.cells = { f with dst := m }.cells := id rfl
theorem Frm.s6 (f : Frm) (m : Mac) : splice f.cells 6 m.cells = { f with src := m }.cells := id rfl
theorem Frm.sw (f g : Frm) : splice f.cells 0 g.cells = g.cells := id rfl
theorem Frm.one (f : Frm) (h : S.oneCell f.body = true) : f.cells.all S.oneCell = true := by
  simp only [Frm.cells, List.all_cons, one_int, one_bool, h, List.all_nil, Bool.and_self]
theorem Mac.one (m : Mac) : m.cells.all S.oneCell = true := id rfl
theorem Mac.len (m : Mac) : m.cells.length = 6 := id rfl
theorem ByR.one {v : Value} {bs : List Int} (h : ByR w v bs) : S.oneCell v = true := h.1.one
theorem FrmR.one {f : Frm} {bs : List Int} (h : FrmR w f bs) : f.cells.all S.oneCell = true := Frm.one _ h.2.one
attribute [push_cast] Frm.len Frm.g12 Frm.g13 Frm.g14 Frm.g15 Frm.g16 Frm.d0 Frm.d6 Frm.dw Frm.s12 Frm.s13 Frm.s14 Frm.s15 Frm.s16 Frm.s0 Frm.s6 Frm.sw Mac.one Mac.len

/-- what comes behind is small: it may stand in each way -/
theorem jn_1 {k : Value → World → Prop} {m : (Value → World → Prop) → World → Prop} : jnJ 1 k m = m k := id rfl
theorem jn_0 {k : World → Prop} {m : (World → Prop) → World → Prop} : jnJ 0 k m = m k := id rfl

end Go.Gx
