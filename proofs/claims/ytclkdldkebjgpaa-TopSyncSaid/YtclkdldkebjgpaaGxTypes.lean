/- Numbers, bools, addresses and entries as cells; what a key type's cells are. -/
import Derived.Test.YtclkdldkebjgpaaGxRow
namespace Go.Gx
open Go

theorem kl_struct {P : Program} {T d : Nat} {fs : Array Field} {cs : List Value} {l : List Lit} (hu : P.underlying T = some (.struct fs)) (h : P.keyLits (d + 1) T cs = some l) :
    cs.length = P.cellsOf T ∧ ∃ ls, fs.toList.mapM (fun f => P.keyLits d f.type ((cs.drop f.offset).take (P.cellsOf f.type))) = some ls ∧ l = ls.flatten := by
  unfold Program.keyLits at h
  simp only [hu] at h
  split at h
  · rename_i hc
    rw [Option.map_eq_some_iff] at h
    obtain ⟨ls, h1, h2⟩ := h
    exact ⟨hc.1, ls, h1, h2.symm⟩
  · cases h

theorem kl_struct_mk {P : Program} {T d : Nat} {fs : Array Field} {cs : List Value} {ls : List (List Lit)} (hu : P.underlying T = some (.struct fs)) (hn : fs.all (·.name != "_") = true) (hl : cs.length = P.cellsOf T)
    (h : fs.toList.mapM (fun f => P.keyLits d f.type ((cs.drop f.offset).take (P.cellsOf f.type))) = some ls) : P.keyLits (d + 1) T cs = some ls.flatten := by
  unfold Program.keyLits
  simp only [hu]
  rw [if_pos ⟨hl, hn⟩, h]; rfl

theorem kl_array {P : Program} {T d n E : Nat} {cs : List Value} {l : List Lit} (hu : P.underlying T = some (.array n E)) (h : P.keyLits (d + 1) T cs = some l) :
    cs.length = P.cellsOf T ∧ ∃ ls, (List.range n).mapM (fun i => P.keyLits d E ((cs.drop (i * P.cellsOf E)).take (P.cellsOf E))) = some ls ∧ l = ls.flatten := by
  unfold Program.keyLits at h
  simp only [hu] at h
  split at h
  · rename_i hc
    rw [Option.map_eq_some_iff] at h
    obtain ⟨ls, h1, h2⟩ := h
    exact ⟨hc, ls, h1, h2.symm⟩
  · cases h

theorem kl_array_mk {P : Program} {T d n E : Nat} {cs : List Value} {ls : List (List Lit)} (hu : P.underlying T = some (.array n E)) (hl : cs.length = P.cellsOf T)
    (h : (List.range n).mapM (fun i => P.keyLits d E ((cs.drop (i * P.cellsOf E)).take (P.cellsOf E))) = some ls) : P.keyLits (d + 1) T cs = some ls.flatten := by
  unfold Program.keyLits
  simp only [hu]
  rw [if_pos hl, h]; rfl

theorem kl_int {P : Program} {T d : Nat} {k : IntKind} {cs : List Value} {l : List Lit} (hu : P.underlying T = some (.int k)) (h : P.keyLits (d + 1) T cs = some l) :
    ∃ n, cs = [.int k n] ∧ l = [.int k n] ∧ k.min ≤ n ∧ n ≤ k.max := by
  unfold Program.keyLits at h
  simp only [hu] at h
  split at h <;> first | (rename_i hk; cases hk; done) | skip
  all_goals first | (cases h; done) | skip
  rename_i q q' n hk
  cases hk
  split at h
  · rename_i hc
    obtain ⟨rfl, hw⟩ := hc
    cases h
    simp only [Lit.wf, Bool.and_eq_true, decide_eq_true_eq] at hw
    exact ⟨n, rfl, rfl, hw⟩
  · cases h

theorem kl_int_mk {P : Program} {T d : Nat} {k : IntKind} {n : Int} (hu : P.underlying T = some (.int k)) (h : k.min ≤ n ∧ n ≤ k.max) : P.keyLits (d + 1) T [.int k n] = some [.int k n] := by
  unfold Program.keyLits
  simp [hu, Lit.wf, h]

theorem kl_bool {P : Program} {T d : Nat} {cs : List Value} {l : List Lit} (hu : P.underlying T = some .bool) (h : P.keyLits (d + 1) T cs = some l) : ∃ b, cs = [.bool b] ∧ l = [.bool b] :=
  keyLits_bool' hu h

theorem kl_bool_mk {P : Program} {T d : Nat} {b : Bool} (hu : P.underlying T = some .bool) : P.keyLits (d + 1) T [.bool b] = some [.bool b] := by
  unfold Program.keyLits
  simp [hu]

/-! ### Addresses -/

abbrev u8 (n : Int) : Value := .int .u8 n
abbrev i64 (n : Int) : Value := .int .i64 n

@[ext] structure Mac where
  b0 : Int
  b1 : Int
  b2 : Int
  b3 : Int
  b4 : Int
  b5 : Int
  deriving DecidableEq, Inhabited

def isB (n : Int) : Prop := 0 ≤ n ∧ n ≤ 255
def isI (n : Int) : Prop := IntKind.i64.min ≤ n ∧ n ≤ IntKind.i64.max
theorem isI_iff {n : Int} : isI n ↔ -9223372036854775808 ≤ n ∧ n ≤ 9223372036854775807 := by
  unfold isI
  have e1 : IntKind.i64.min = -9223372036854775808 := rfl
  have e2 : IntKind.i64.max = 9223372036854775807 := rfl
  rw [e1, e2]

def Mac.cells (m : Mac) : List Value := [u8 m.b0, u8 m.b1, u8 m.b2, u8 m.b3, u8 m.b4, u8 m.b5]
def Mac.lits (m : Mac) : List Lit := [.int .u8 m.b0, .int .u8 m.b1, .int .u8 m.b2, .int .u8 m.b3, .int .u8 m.b4, .int .u8 m.b5]
def Mac.ok (m : Mac) : Prop := isB m.b0 ∧ isB m.b1 ∧ isB m.b2 ∧ isB m.b3 ∧ isB m.b4 ∧ isB m.b5

theorem Mac.lits_inj {a b : Mac} : a.lits = b.lits ↔ a = b := by
  constructor
  · intro h
    simp only [Mac.lits, List.cons.injEq, Lit.int.injEq, true_and, and_true] at h
    exact Mac.ext h.1 h.2.1 h.2.2.1 h.2.2.2.1 h.2.2.2.2.1 h.2.2.2.2.2
  · rintro rfl; rfl

class MacT (P : Program) (T : TypeId) (E : outParam TypeId) : Prop where
  arr : P.underlying T = some (.array 6 E)
  u8 : P.underlying E = some (.int .u8)
  one : P.cellsOf E = 1
  six : P.cellsOf T = 6

theorem MacT.dec {P : Program} {T E d : Nat} [hT : MacT P T E] {cs : List Value} {l : List Lit} (h : P.keyLits (d + 2) T cs = some l) : ∃ m : Mac, m.ok ∧ cs = m.cells ∧ l = m.lits := by
  obtain ⟨hl, ls, h1, rfl⟩ := kl_array hT.arr h
  rw [hT.six] at hl
  match cs, hl with
  | [c0, c1, c2, c3, c4, c5], _ =>
  simp only [show List.range 6 = [0, 1, 2, 3, 4, 5] from rfl, List.mapM_cons, List.mapM_nil, hT.one, bind, Option.bind_eq_some_iff, pure, Option.some.injEq, Nat.mul_one, List.drop_succ_cons, List.drop_zero, List.take_succ_cons, List.take_zero] at h1
  obtain ⟨y0, g0, _, ⟨y1, g1, _, ⟨y2, g2, _, ⟨y3, g3, _, ⟨y4, g4, _, ⟨y5, g5, _, rfl, rfl⟩, rfl⟩, rfl⟩, rfl⟩, rfl⟩, rfl⟩ := h1
  obtain ⟨n0, e0, rfl, b0⟩ := kl_int hT.u8 g0
  obtain ⟨n1, e1, rfl, b1⟩ := kl_int hT.u8 g1
  obtain ⟨n2, e2, rfl, b2⟩ := kl_int hT.u8 g2
  obtain ⟨n3, e3, rfl, b3⟩ := kl_int hT.u8 g3
  obtain ⟨n4, e4, rfl, b4⟩ := kl_int hT.u8 g4
  obtain ⟨n5, e5, rfl, b5⟩ := kl_int hT.u8 g5
  simp only [List.cons.injEq, and_true] at e0 e1 e2 e3 e4 e5
  subst e0 e1 e2 e3 e4 e5
  exact ⟨⟨n0, n1, n2, n3, n4, n5⟩, ⟨b0, b1, b2, b3, b4, b5⟩, rfl, rfl⟩

theorem MacT.enc {P : Program} {T E d : Nat} [hT : MacT P T E] {m : Mac} (h : m.ok) : P.keyLits (d + 2) T m.cells = some m.lits := by
  obtain ⟨b0, b1, b2, b3, b4, b5⟩ := h
  refine kl_array_mk (ls := [[_], [_], [_], [_], [_], [_]]) hT.arr (by rw [hT.six]; rfl) ?_
  simp only [show List.range 6 = [0, 1, 2, 3, 4, 5] from rfl, List.mapM_cons, List.mapM_nil, hT.one, Mac.cells, bind, Option.bind_eq_some_iff, pure, Option.some.injEq, Nat.mul_one, List.drop_succ_cons, List.drop_zero, List.take_succ_cons, List.take_zero]
  exact ⟨_, kl_int_mk hT.u8 b0, _, ⟨_, kl_int_mk hT.u8 b1, _, ⟨_, kl_int_mk hT.u8 b2, _, ⟨_, kl_int_mk hT.u8 b3, _, ⟨_, kl_int_mk hT.u8 b4, _, ⟨_, kl_int_mk hT.u8 b5, _, rfl, rfl⟩, rfl⟩, rfl⟩, rfl⟩, rfl⟩, rfl⟩

/-! ### Entries -/

@[ext] structure Ent where
  vlan : Int
  mac : Mac
  port : Int
  at_ : Int
  static : Bool
  deriving DecidableEq, Inhabited

def Ent.cells (e : Ent) : List Value := [i64 e.vlan, u8 e.mac.b0, u8 e.mac.b1, u8 e.mac.b2, u8 e.mac.b3, u8 e.mac.b4, u8 e.mac.b5, i64 e.port, i64 e.at_, .bool e.static]
def Ent.lits (e : Ent) : List Lit := [.int .i64 e.vlan, .int .u8 e.mac.b0, .int .u8 e.mac.b1, .int .u8 e.mac.b2, .int .u8 e.mac.b3, .int .u8 e.mac.b4, .int .u8 e.mac.b5, .int .i64 e.port, .int .i64 e.at_, .bool e.static]
def Ent.ok (e : Ent) : Prop := isI e.vlan ∧ e.mac.ok ∧ isI e.port ∧ isI e.at_

theorem Ent.lits_inj {a b : Ent} : a.lits = b.lits ↔ a = b := by
  constructor
  · intro h
    simp only [Ent.lits, List.cons.injEq, Lit.int.injEq, Lit.bool.injEq, true_and, and_true] at h
    obtain ⟨h0, h1, h2, h3, h4, h5, h6, h7, h8, h9⟩ := h
    exact Ent.ext h0 (Mac.ext h1 h2 h3 h4 h5 h6) h7 h8 h9
  · rintro rfl; rfl
theorem Ent.cells_length (e : Ent) : e.cells.length = 10 := rfl
theorem Ent.cells_one (e : Ent) : e.cells.all S.oneCell = true := rfl

class EntT (P : Program) (T : TypeId) (I M B : outParam TypeId) : Prop where
  und : ∃ n0 n1 n2 n3 n4 : String, ∃ p0 p1 p2 p3 p4 : String, ∃ o0 o1 o2 o3 o4 : Nat, P.underlying T = some (.struct #[{ name := n0, type := I, offset := 0, embedded := false, tag := "", pkgPath := p0, byteOffset := o0 }, { name := n1, type := M, offset := 1, embedded := false, tag := "", pkgPath := p1, byteOffset := o1 },
    { name := n2, type := I, offset := 7, embedded := false, tag := "", pkgPath := p2, byteOffset := o2 }, { name := n3, type := I, offset := 8, embedded := false, tag := "", pkgPath := p3, byteOffset := o3 }, { name := n4, type := B, offset := 9, embedded := false, tag := "", pkgPath := p4, byteOffset := o4 }]) ∧
    n0 ≠ "_" ∧ n1 ≠ "_" ∧ n2 ≠ "_" ∧ n3 ≠ "_" ∧ n4 ≠ "_"
  int : P.underlying I = some (.int .i64)
  bool : P.underlying B = some .bool
  cI : P.cellsOf I = 1
  cB : P.cellsOf B = 1
  cT : P.cellsOf T = 10

theorem EntT.dec {P : Program} {T I M B E d : Nat} [hT : EntT P T I M B] [hM : MacT P M E] {cs : List Value} {l : List Lit} (h : P.keyLits (d + 3) T cs = some l) : ∃ m : Ent, m.ok ∧ cs = m.cells ∧ l = m.lits := by
  obtain ⟨n0, n1, n2, n3, n4, p0, p1, p2, p3, p4, o0, o1, o2, o3, o4, hu, _⟩ := hT.und
  obtain ⟨hl, ls, h1, rfl⟩ := kl_struct hu h
  rw [hT.cT] at hl
  match cs, hl with
  | [c0, c1, c2, c3, c4, c5, c6, c7, c8, c9], _ =>
  simp only [List.mapM_cons, List.mapM_nil, hT.cI, hT.cB, hM.six, bind, Option.bind_eq_some_iff, pure, Option.some.injEq, List.drop_succ_cons, List.drop_zero, List.take_succ_cons, List.take_zero] at h1
  obtain ⟨y0, g0, _, ⟨y1, g1, _, ⟨y2, g2, _, ⟨y3, g3, _, ⟨y4, g4, _, rfl, rfl⟩, rfl⟩, rfl⟩, rfl⟩, rfl⟩ := h1
  obtain ⟨k0, e0, rfl, b0⟩ := kl_int hT.int g0
  obtain ⟨m, hm, e1, rfl⟩ := MacT.dec (d := d) g1
  obtain ⟨k2, e2, rfl, b2⟩ := kl_int hT.int g2
  obtain ⟨k3, e3, rfl, b3⟩ := kl_int hT.int g3
  obtain ⟨k4, e4, rfl⟩ := kl_bool hT.bool g4
  simp only [Mac.cells, List.cons.injEq, and_true] at e0 e1 e2 e3 e4
  obtain ⟨f0, f1, f2, f3, f4, f5⟩ := e1
  subst e0 f0 f1 f2 f3 f4 f5 e2 e3 e4
  exact ⟨⟨k0, m, k2, k3, k4⟩, ⟨b0, hm, b2, b3⟩, rfl, rfl⟩

theorem EntT.enc {P : Program} {T I M B E d : Nat} [hT : EntT P T I M B] [hM : MacT P M E] {m : Ent} (h : m.ok) : P.keyLits (d + 3) T m.cells = some m.lits := by
  obtain ⟨n0, n1, n2, n3, n4, p0, p1, p2, p3, p4, o0, o1, o2, o3, o4, hu, m0, m1, m2, m3, m4⟩ := hT.und
  obtain ⟨b0, b1, b2, b3⟩ := h
  refine kl_struct_mk (ls := [[_], m.mac.lits, [_], [_], [_]]) hu (by simp [m0, m1, m2, m3, m4]) (by rw [hT.cT]; rfl) ?_
  simp only [List.mapM_cons, List.mapM_nil, hT.cI, hT.cB, hM.six, Ent.cells, bind, Option.bind_eq_some_iff, pure, Option.some.injEq, List.drop_succ_cons, List.drop_zero, List.take_succ_cons, List.take_zero]
  exact ⟨_, kl_int_mk hT.int b0, _, ⟨_, MacT.enc (d := d) b1, _, ⟨_, kl_int_mk hT.int b2, _, ⟨_, kl_int_mk hT.int b3, _, ⟨_, kl_bool_mk hT.bool, _, rfl, rfl⟩, rfl⟩, rfl⟩, rfl⟩, rfl⟩

end Go.Gx
