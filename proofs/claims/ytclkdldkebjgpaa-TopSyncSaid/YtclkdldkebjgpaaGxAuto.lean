/- What each operation asks, as rules that are used one behind the other. -/
import Derived.Test.YtclkdldkebjgpaaGxSlice
namespace Go.Gx
open Go
variable {P : Program} {K : Value → World → Prop} {w : World}

/-! ### The operation alone is looked at, not what comes behind it -/

theorem opS_congr {P : Program} {s s' : Sem Next} (h : s = s') (K : Value → World → Prop) (w : World) : opS P s K w = opS P s' K w := by rw [h]
theorem brn_congr {c c' : Value} (h : c = c') (a b : World → Prop) (w : World) : brn c a b w = brn c' a b w := by rw [h]
attribute [congr] opS_congr brn_congr

def onS (x : Option Value) (k : Value → Prop) : Prop := match x with | some v => k v | none => False
theorem onS_some (v : Value) (k : Value → Prop) : onS (some v) k = k v := id rfl
theorem onS_none (k : Value → Prop) : onS none k = False := id rfl
theorem onS_congr {x x' : Option Value} (h : x = x') (k : Value → Prop) : onS x k = onS x' k := by rw [h]
attribute [congr] onS_congr

def onB (x : Bool) (k : Prop) : Prop := x = true ∧ k
theorem onB_true (k : Prop) : onB true k = k := by simp [onB]
theorem onB_false (k : Prop) : onB false k = False := by simp [onB]
theorem onB_congr {x x' : Bool} (h : x = x') (k : Prop) : onB x k = onB x' k := by rw [h]
attribute [congr] onB_congr

/-- a way that parts: its own word, for 'if' bears a test that a checker may reckon -/
def br (c : Bool) (p q : Prop) : Prop := match c with | true => p | false => q
theorem br_true (p q : Prop) : br true p q = p := id rfl
theorem br_false (p q : Prop) : br false p q = q := id rfl
theorem br_congr {c c' : Bool} (h : c = c') (p q : Prop) : br c p q = br c' p q := by rw [h]
attribute [congr] br_congr
theorem brn_br (t : Bool) (a b : World → Prop) (w : World) : brn (.bool t) a b w = br t (a w) (b w) := by cases t <;> rfl
theorem br_intro {c : Bool} {p q : Prop} (h1 : c = true → p) (h2 : c = false → q) : br c p q := by
  cases c
  · exact h2 rfl
  · exact h1 rfl
theorem br_dec {d : Prop} [Decidable d] {p q : Prop} (h1 : d → p) (h2 : ¬ d → q) : br (decide d) p q := by
  by_cases h : d
  · rw [decide_eq_true h]; exact h1 h
  · rw [decide_eq_false h]; exact h2 h
theorem br_yes {d : Prop} [Decidable d] {p q : Prop} (h : d) (h1 : p) : br (decide d) p q := by rw [decide_eq_true h]; exact h1
theorem br_no {d : Prop} [Decidable d] {p q : Prop} (h : ¬ d) (h1 : q) : br (decide d) p q := by rw [decide_eq_false h]; exact h1

/-! ### Places -/

def cellAt : Option Obj → Nat → Option Value
  | some (.cells c _ _), o => c[o]?
  | _, _ => none
def aggAt : Option Obj → Nat → Nat → Option Value
  | some (.cells c _ _), o, n => if o + n ≤ c.size then some (.agg ((c.toList.drop o).take n).toArray) else none
  | _, _, _ => none
def okAt : Option Obj → Nat → Nat → Bool
  | some (.cells c _ fz), o, n => decide (o + n ≤ c.size) && (List.range n).all fun i => !(decide (fz.1 ≤ o + i) && decide (o + i < fz.2))
  | _, _, _ => false
def putAt : Option Obj → Nat → List Value → Option Obj
  | some (.cells c T fz), o, vs => some (.cells (splice c.toList o vs).toArray T fz)
  | x, _, _ => x

theorem cellAt_cells (l : List Value) (T : TypeId) (o : Nat) : cellAt (some (cellsO l T)) o = l[o]? := by simp [cellAt, cellsO]
theorem aggAt_cells (l : List Value) (T : TypeId) (o n : Nat) : aggAt (some (cellsO l T)) o n = if o + n ≤ l.length then some (.agg ((l.drop o).take n).toArray) else none := by simp [aggAt, cellsO]
theorem okAt_cells (l : List Value) (T : TypeId) (o n : Nat) : okAt (some (cellsO l T)) o n = decide (o + n ≤ l.length) := by simp [okAt, cellsO]
theorem putAt_cells (l : List Value) (T : TypeId) (o : Nat) (vs : List Value) : putAt (some (cellsO l T)) o vs = some (cellsO (splice l o vs) T) := by simp [putAt, cellsO]

theorem rd_cellAt (w : World) (b o : Nat) : rd w b o = cellAt w.heap[b]? o := by
  unfold rd cellAt
  cases w.heap[b]? with
  | none => rfl
  | some x => cases x <;> rfl

theorem s_ld1 {T n : Nat} [hs : Sz P T n false] (b o : Nat) : opS P (S.ld T (pt b o)) K w = onS (cellAt w.heap[b]? o) fun v => K v w := by
  rw [opS_ld1, rd_cellAt]
  cases cellAt w.heap[b]? o <;> rfl

theorem s_ldN {T n : Nat} [hs : Sz P T n true] (hn : 0 < n) (b o : Nat) : opS P (S.ld T (pt b o)) K w = onS (aggAt w.heap[b]? o n) fun v => K v w := by
  rw [opS_ldN hn, rdN]
  unfold aggAt
  cases w.heap[b]? with
  | none => rfl
  | some x =>
    cases x with
    | cells c T fz =>
      simp only []
      by_cases h : o + n ≤ c.size
      · rw [if_pos h, if_pos h]; rfl
      · rw [if_neg h, if_neg h]; rfl
    | _ => rfl

theorem s_st {T n : Nat} {ag : Bool} [hs : Sz P T n ag] (b o : Nat) (v : Value) (hv : v.cells.size = n) (h1 : v.cells.toList.all S.oneCell = true) :
    opS P (S.st T (pt b o) v) K w = onB (okAt w.heap[b]? o n) (K undef (wr w b o v.cells.toList)) := by
  rw [opS_st b o v hv h1]
  have : wrOk w b o n = okAt w.heap[b]? o n := by
    unfold wrOk okAt
    cases w.heap[b]? with
    | none => rfl
    | some x =>
      cases x with
      | cells c T fz => rfl
      | _ => rfl
  rw [this]
  unfold onB
  split <;> simp_all

theorem s_st1 {T : TypeId} [hs : Sz P T 1 false] (b o : Nat) (v : Value) (h1 : S.oneCell v = true) :
    opS P (S.st T (pt b o) v) K w = onB (okAt w.heap[b]? o 1) (K undef (wr w b o [v])) := by
  have e : v.cells = #[v] := by cases v <;> first | rfl | (cases h1)
  rw [s_st b o v (by rw [e]; rfl) (by rw [e]; simp [h1]), e]

theorem s_stA {T n : Nat} [hs : Sz P T n true] (b o : Nat) (x : List Value) (hx : x.length = n) (h1 : x.all S.oneCell = true) :
    opS P (S.st T (pt b o) (.agg x.toArray)) K w = onB (okAt w.heap[b]? o n) (K undef (wr w b o x)) := by
  rw [s_st b o _ (by simpa [Value.cells] using hx) (by simpa [Value.cells] using h1)]
  rfl

theorem one_int (k : IntKind) (n : Int) : S.oneCell (.int k n) = true := id rfl
theorem one_bool (b : Bool) : S.oneCell (.bool b) = true := id rfl
theorem one_pt (b o : Nat) : S.oneCell (pt b o) = true := id rfl
theorem one_nil : S.oneCell (.pointer none) = true := id rfl
theorem one_slice (a : Option Addr) (n c : Nat) : S.oneCell (.slice a n c) = true := id rfl
theorem one_func (f : Fn) (a b : Array Value) : S.oneCell (.func f a b) = true := id rfl
theorem one_string (s : ByteArray) : S.oneCell (.string s) = true := id rfl
theorem cells_agg (x : List Value) : (Value.agg x.toArray).cells = x.toArray := id rfl
theorem cells_int (k : IntKind) (n : Int) : (Value.int k n).cells = [Value.int k n].toArray := id rfl
theorem cells_bool (b : Bool) : (Value.bool b).cells = [Value.bool b].toArray := id rfl
theorem cells_pt (b o : Nat) : (pt b o).cells = [pt b o].toArray := id rfl
theorem cells_nil : (Value.pointer none).cells = [Value.pointer none].toArray := id rfl
theorem cells_slice (a : Option Addr) (n c : Nat) : (Value.slice a n c).cells = [Value.slice a n c].toArray := id rfl
theorem cells_func (f : Fn) (a b : Array Value) : (Value.func f a b).cells = [Value.func f a b].toArray := id rfl
theorem cells_string (s : ByteArray) : (Value.string s).cells = [Value.string s].toArray := id rfl

theorem splice_s (a : Value) (l : List Value) (i : Nat) (vs : List Value) : splice (a :: l) (i + 1) vs = a :: splice l i vs := by
  simp [splice, Nat.add_right_comm i 1]
theorem splice_z (a : Value) (l : List Value) (v : Value) (vs : List Value) : splice (a :: l) 0 (v :: vs) = v :: splice l 0 vs := by
  simp [splice]
theorem splice_0 (l : List Value) : splice l 0 [] = l := by simp [splice]

/-! ### Worlds -/

theorem heap_wr (w : World) (b o : Nat) (vs : List Value) (b' : Nat) : (wr w b o vs).heap[b']? = if b' = b then putAt w.heap[b]? o vs else w.heap[b']? := by
  unfold wr
  by_cases h : b' = b
  · subst h
    rw [if_pos rfl]
    cases hb : w.heap[b']? with
    | none => simp only [hb]; rfl
    | some x =>
      cases x with
      | cells c T fz => exact heap_upd_same (by rw [hb]; rfl)
      | _ => simp only [hb]; rfl
  · rw [if_neg h]
    split
    · exact heap_upd_ne fun e => h e.symm
    · rfl

theorem heap_alloc (w : World) (o : Obj) (b : Nat) : (w.alloc o).heap[b]? = if b = w.heap.size then some o else w.heap[b]? := by
  show (w.heap.push o)[b]? = _
  rw [Array.getElem?_push]

theorem size_wr (w : World) (b o : Nat) (vs : List Value) : (wr w b o vs).heap.size = w.heap.size := by
  unfold wr
  split
  · exact size_upd _ _ _
  · rfl

theorem size_drew (w : World) : w.drew.heap.size = w.heap.size := id rfl
theorem heap_drew' (w : World) (b : Nat) : w.drew.heap[b]? = w.heap[b]? := id rfl

theorem alloc_cellsO (w : World) (l : List Value) (T : TypeId) : w.alloc (.cells l.toArray T) = w.alloc (cellsO l T) := id rfl

theorem drw_eq (k : World → Prop) (w : World) : drw k w = k w.drew := id rfl
theorem allW_intro {a b : World → Prop} {w : World} (h1 : a w) (h2 : b w) : allW a b w := ⟨h1, h2⟩
theorem allW_eq (a b : World → Prop) (w : World) : allW a b w = (a w ∧ b w) := id rfl

theorem s_ext (vs : Array Value) (i : Nat) : opS P (S.ext (.tuple vs) i) K w = onS vs[i]? fun v => K v w := by
  rw [opS_ext]
  cases vs[i]? <;> rfl

theorem Fr.step_alloc {fp : Nat → Prop} {w w' : World} (h : Fr fp w w') {o : Obj} (ho : loose o = true) : Fr fp w (w'.alloc o) := h.trans (Fr.alloc _ _ ho)
theorem Fr.step_drew {fp : Nat → Prop} {w w' : World} (h : Fr fp w w') : Fr fp w w'.drew := h.trans (Fr.drew _)
theorem Fr.step_wr {fp : Nat → Prop} {w w' : World} (h : Fr fp w w') {b : Nat} (hb : fp b ∨ w.heap.size ≤ b) (o : Nat) (vs : List Value) : Fr fp w (Gx.wr w' b o vs) := by
  refine h.trans_new (fp' := fun x => x = b) (Fr.wr _ _ _ _ rfl) fun x hx e => ?_
  subst e
  rcases hb with hb | hb
  · exact hb
  · omega

/-! ### The set of the rules -/

attribute [push_cast] onS_some onS_none onB_true onB_false cellAt_cells aggAt_cells okAt_cells putAt_cells s_ld1 s_ldN s_st1 s_stA one_int one_bool one_pt one_nil one_slice one_func one_string cells_agg cells_int cells_bool cells_pt cells_nil cells_slice cells_func cells_string heap_wr heap_alloc size_wr size_drew size_alloc heap_drew' alloc_cellsO drw_eq s_ext
attribute [push_cast] opS_box opS_alloc opS_nc opS_len opS_not opS_mkf opS_convI opS_add opS_sub opS_mul opS_eql opS_neq opS_lss opS_leq opS_gtr opS_geq opS_beq opS_bne opS_isnil opS_notnil isNilP_pt isNilP_none opS_pick brn_br br_true br_false opS_cl opS_call

attribute [push_cast] splice_s splice_z splice_0 Nat.zero_add Nat.add_zero if_true if_false decide_true decide_false List.length_cons List.length_nil List.getElem?_cons_zero List.getElem?_cons_succ List.getElem?_toArray Nat.le_refl not_true_eq_false not_false_eq_true Bool.not_true Bool.not_false

end Go.Gx
