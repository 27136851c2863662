/- What each operation asks, of blocks of cells. -/
import Derived.Test.YtclkdldkebjgpaaGxFn
namespace Go.Gx
open Go

/-! ### Facts on types -/

class Sz (P : Program) (T : TypeId) (n : outParam Nat) (ag : outParam Bool) : Prop where
  size : ∀ w, (sizeOf T).run P w = .ok n w
  agg : ∀ w, (isAgg T).run P w = .ok ag w
class ZV (P : Program) (T : TypeId) (z : outParam Value) : Prop where
  zero : ∀ w, (zeroValue T).run P w = .ok z w
class By (P : Program) (T : TypeId) (n : outParam Nat) : Prop where
  bytes : ∃ i, (∀ w, (typeInfo T).run P w = .ok i w) ∧ i.bytes = n
class SlT (P : Program) (T : TypeId) (E : outParam TypeId) : Prop where
  und : P.underlying T = some (.slice E)
class ArT (P : Program) (T : TypeId) (n : outParam Nat) (E : outParam TypeId) : Prop where
  und : P.underlying T = some (.array n E)
class MpT (P : Program) (T : TypeId) (k : outParam TypeId) (v : outParam TypeId) : Prop where
  und : P.underlying T = some (.map k v)
/-- a struct -/
class StT (P : Program) (T : TypeId) (fs : outParam (Array Field)) : Prop where
  und : P.underlying T = some (.struct fs)

/-! ### Worlds -/

def pt (b o : Nat) : Value := .pointer (some ⟨b, o, none⟩)
theorem ptr_eq (b : Nat) : ptr b = pt b 0 := id rfl

def cellsO (l : List Value) (T : TypeId) : Obj := .cells l.toArray T (0, 0)

def upd (w : World) (b : Nat) (o : Obj) : World := { w with heap := w.heap.setIfInBounds b o }

theorem heap_upd (w : World) (b b' : Nat) (o : Obj) : (upd w b o).heap[b']? = if b = b' then (w.heap[b]?).map (fun _ => o) else w.heap[b']? := by
  unfold upd
  simp only [Array.getElem?_setIfInBounds]
  split
  · rename_i h
    subst h
    split
    · rename_i hlt; rw [Array.getElem?_eq_getElem hlt]; rfl
    · rename_i hlt; rw [Array.getElem?_eq_none (by omega)]; rfl
  · rfl

theorem heap_upd_same {w : World} {b : Nat} {o : Obj} (h : (w.heap[b]?).isSome = true) : (upd w b o).heap[b]? = some o := by
  rw [heap_upd, if_pos rfl]
  obtain ⟨x, hx⟩ := Option.isSome_iff_exists.1 h
  rw [hx]; rfl

theorem heap_upd_ne {w : World} {b b' : Nat} {o : Obj} (h : b ≠ b') : (upd w b o).heap[b']? = w.heap[b']? := by
  rw [heap_upd, if_neg h]

theorem size_upd (w : World) (b : Nat) (o : Obj) : (upd w b o).heap.size = w.heap.size := by simp [upd]

theorem heap_alloc_new (w : World) (o : Obj) : (w.alloc o).heap[w.heap.size]? = some o := by
  show (w.heap.push o)[w.heap.size]? = some o
  simp
theorem heap_alloc_old {w : World} {o : Obj} {b : Nat} (h : (w.heap[b]?).isSome = true) : (w.alloc o).heap[b]? = w.heap[b]? := by
  obtain ⟨x, hx⟩ := Option.isSome_iff_exists.1 h
  have hlt : b < w.heap.size := (Array.getElem?_eq_some_iff.1 hx).1
  show (w.heap.push o)[b]? = w.heap[b]?
  simp [Array.getElem?_push, Nat.ne_of_lt hlt]
theorem heap_alloc_lt {w : World} {o : Obj} {b : Nat} (h : b < w.heap.size) : (w.alloc o).heap[b]? = w.heap[b]? := by
  show (w.heap.push o)[b]? = w.heap[b]?
  simp [Array.getElem?_push, Nat.ne_of_lt h]
theorem size_alloc (w : World) (o : Obj) : (w.alloc o).heap.size = w.heap.size + 1 := by
  show (w.heap.push o).size = _
  simp
theorem heap_drew (w : World) : w.drew.heap = w.heap := id rfl

theorem lt_of_heap {w : World} {b : Nat} {o : Obj} (h : w.heap[b]? = some o) : b < w.heap.size := (Array.getElem?_eq_some_iff.1 h).1

/-- a cell -/
def rd (w : World) (b o : Nat) : Option Value :=
  match w.heap[b]? with
  | some (.cells c _ _) => c[o]?
  | _ => none

/-- some cells -/
def rdN (w : World) (b o n : Nat) : Option (List Value) :=
  match w.heap[b]? with
  | some (.cells c _ _) => if o + n ≤ c.size then some ((c.toList.drop o).take n) else none
  | _ => none

/-- some cells may be written -/
def wrOk (w : World) (b o n : Nat) : Bool :=
  match w.heap[b]? with
  | some (.cells c _ fz) => decide (o + n ≤ c.size) && (List.range n).all fun i => !(decide (fz.1 ≤ o + i) && decide (o + i < fz.2))
  | _ => false

def splice (l : List Value) (o : Nat) (vs : List Value) : List Value := l.take o ++ vs ++ l.drop (o + vs.length)

/-- some cells are written -/
def wr (w : World) (b o : Nat) (vs : List Value) : World :=
  match w.heap[b]? with
  | some (.cells c T fz) => upd w b (.cells (splice c.toList o vs).toArray T fz)
  | _ => w

variable {P : Program} {K : Value → World → Prop} {w : World}

theorem cell_rd (w : World) (b o : Nat) : w.cell? ⟨b, o, none⟩ = rd w b o := by
  unfold World.cell? rd
  cases w.heap[b]? with
  | none => rfl
  | some x => cases x <;> rfl

theorem opS_bind {s : Sem Value} : opS P (do pure (.value (← s))) K w = match s.run P w with | .ok v w' => K v w' | .halt _ _ => False := by
  unfold opS
  rw [Sem.run_bind]
  cases s.run P w <;> rfl

theorem add_none (b o n : Nat) : (⟨b, o, none⟩ : Addr).add n = ⟨b, o + n, none⟩ := by
  unfold Addr.add
  split
  · rename_i h; subst h; rfl
  · rfl

theorem shape_rd {b : Nat} : w.shape? b = match w.heap[b]? with | some (.cells c e _) => some (e, c.size) | _ => none := by
  unfold World.shape?
  cases w.heap[b]? with
  | none => rfl
  | some x => cases x <;> rfl

theorem run_loadCellsFrom {b : Nat} {c : Array Value} {T : TypeId} {fz : Nat × Nat} (h : w.heap[b]? = some (.cells c T fz)) : ∀ (n i o : Nat) (acc : Array Value), o + i + n ≤ c.size →
    (loadCellsFrom ⟨b, o, none⟩ i n acc).run P w = .ok (acc ++ ((c.toList.drop (o + i)).take n).toArray) w
  | 0, i, o, acc, _ => by simp [loadCellsFrom]
  | n + 1, i, o, acc, hle => by
    have hlt : o + i < c.size := by omega
    have hc : w.cell? ⟨b, o + i, none⟩ = some c[o + i] := by rw [cell_rd, rd, h]; exact Array.getElem?_eq_getElem hlt
    rw [loadCellsFrom, Sem.run_bind, add_none, run_load, hc]
    simp only [Result.andThen_ok]
    rw [run_loadCellsFrom h n (i + 1) o _ (by omega)]
    have : (c.toList.drop (o + i)).take (n + 1) = c[o + i] :: (c.toList.drop (o + (i + 1))).take n := by
      rw [List.drop_eq_getElem_cons (by simpa using hlt), List.take_succ_cons]
      simp [Nat.add_assoc]
    rw [this]
    simp

theorem run_loadCellsFrom_out {b : Nat} {c : Array Value} {T : TypeId} {fz : Nat × Nat} (h : w.heap[b]? = some (.cells c T fz)) : ∀ (n i o : Nat) (acc : Array Value), o + i ≤ c.size → c.size < o + i + n →
    ∃ e, (loadCellsFrom ⟨b, o, none⟩ i n acc).run P w = .halt e w
  | 0, i, o, acc, h1, h2 => by omega
  | n + 1, i, o, acc, h1, h2 => by
    rw [loadCellsFrom, Sem.run_bind, add_none, run_load]
    by_cases hlt : o + i < c.size
    · have hc : w.cell? ⟨b, o + i, none⟩ = some c[o + i] := by rw [cell_rd, rd, h]; exact Array.getElem?_eq_getElem hlt
      rw [hc]
      exact run_loadCellsFrom_out h n (i + 1) o _ (by omega) (by omega)
    · have hc : w.cell? ⟨b, o + i, none⟩ = none := by rw [cell_rd, rd, h]; exact Array.getElem?_eq_none (by omega)
      rw [hc]
      simp only [World.farLoad, h]
      exact ⟨_, rfl⟩

/-- a cell is read -/
theorem opS_ld1 {T n : Nat} [hs : Sz P T n false] (b o : Nat) : opS P (S.ld T (pt b o)) K w = match rd w b o with | some v => K v w | none => False := by
  show opS P (do match ← shape b with | some _ => do pure (.value (← loadVar T ⟨b, o, none⟩)) | none => stuck "ld") K w = _
  unfold opS
  rw [Sem.run_bind]
  have hsh : (shape b).run P w = .ok (w.shape? b) w := rfl
  rw [hsh, Result.andThen_ok, shape_rd, rd]
  cases hb : w.heap[b]? with
  | none => rfl
  | some x =>
    cases x with
    | cells c e fz =>
      simp only []
      rw [Sem.run_bind, loadVar, Sem.run_bind, hs.agg w, Result.andThen_ok]
      simp only [Bool.false_eq_true, if_false]
      rw [run_load, cell_rd, rd, hb]
      simp only []
      cases hc : c[o]? with
      | some v => rfl
      | none => simp only [World.farLoad, hb]; rfl
    | _ => rfl

theorem opS_ldN {T n : Nat} [hs : Sz P T n true] (hn : 0 < n) (b o : Nat) : opS P (S.ld T (pt b o)) K w = match rdN w b o n with | some vs => K (.agg vs.toArray) w | none => False := by
  show opS P (do match ← shape b with | some _ => do pure (.value (← loadVar T ⟨b, o, none⟩)) | none => stuck "ld") K w = _
  unfold opS
  rw [Sem.run_bind]
  have hsh : (shape b).run P w = .ok (w.shape? b) w := rfl
  rw [hsh, Result.andThen_ok, shape_rd, rdN]
  cases hb : w.heap[b]? with
  | none => rfl
  | some x =>
    cases x with
    | cells c e fz =>
      simp only []
      rw [Sem.run_bind, loadVar, Sem.run_bind, hs.agg w, Result.andThen_ok]
      simp only [if_true]
      rw [Sem.run_bind, hs.size w, Result.andThen_ok, loadCells]
      by_cases hle : o + n ≤ c.size
      · rw [if_pos hle, Sem.run_bind, run_loadCellsFrom hb n 0 o #[] (by omega)]
        simp only [Result.andThen_ok, Sem.run_pure, uponR]
        simp
      · rw [if_neg hle, Sem.run_bind]
        by_cases ho : o ≤ c.size
        · obtain ⟨e, he⟩ := run_loadCellsFrom_out (P := P) hb n 0 o #[] (by omega) (by omega)
          rw [he]; rfl
        · obtain ⟨m, rfl⟩ : ∃ m, n = m + 1 := ⟨n - 1, by omega⟩
          rw [loadCellsFrom, Sem.run_bind, add_none, run_load]
          have hc : w.cell? ⟨b, o + 0, none⟩ = none := by rw [cell_rd, rd, hb]; exact Array.getElem?_eq_none (by omega)
          rw [hc]
          simp only [World.farLoad, hb]
          rfl
    | _ => rfl

/-! ### Writing -/

theorem allFree_ok {b o : Nat} {c : Array Value} {T : TypeId} {fz : Nat × Nat} (h : w.heap[b]? = some (.cells c T fz)) : ∀ n : Nat,
    (S.allFree b o n).run P w = if ((List.range n).all fun i => !(decide (fz.1 ≤ o + i) && decide (o + i < fz.2))) = true then .ok () w else .halt (.stuck "allFree") w
  | 0 => rfl
  | n + 1 => by
    rw [S.allFree, Sem.run_bind]
    have hs : (frozen ⟨b, o + n, none⟩).run P w = .ok (w.frozen? ⟨b, o + n, none⟩) w := rfl
    have hf : w.frozen? ⟨b, o + n, none⟩ = (decide (fz.1 ≤ o + n) && decide (o + n < fz.2)) := by simp only [World.frozen?, h]
    rw [hs, Result.andThen_ok, hf, List.range_succ, List.all_append]
    cases hc : (decide (fz.1 ≤ o + n) && decide (o + n < fz.2)) with
    | true => simp only [List.all_cons, List.all_nil, hc, Bool.not_true, Bool.false_and, Bool.and_false, if_true, Bool.false_eq_true, if_false]; rfl
    | false =>
      simp only [Bool.false_eq_true, if_false]
      rw [allFree_ok h n]
      simp only [List.all_cons, List.all_nil, hc, Bool.not_false, Bool.and_true]

theorem splice_nil (l : List Value) (o : Nat) : splice l o [] = l := by simp [splice]

theorem splice_cons (l : List Value) (o : Nat) (v : Value) (vs : List Value) (h : o < l.length) : splice (l.set o v) (o + 1) vs = splice l o (v :: vs) := by
  unfold splice
  have h1 : (l.set o v).take (o + 1) = l.take o ++ [v] := by
    rw [List.take_succ_eq_append_getElem (by simpa using h), List.take_set_of_le (Nat.le_refl _)]
    simp
  have h2 : (l.set o v).drop (o + 1 + vs.length) = l.drop (o + (v :: vs).length) := by
    rw [List.drop_set_of_lt (by omega)]
    congr 1
    simp; omega
  rw [h1, h2]
  simp

theorem upd_upd (w : World) (b : Nat) (x y : Obj) : upd (upd w b x) b y = upd w b y := by
  simp [upd]

theorem splice_length {l : List Value} {o : Nat} {vs : List Value} (h : o + vs.length ≤ l.length) : (splice l o vs).length = l.length := by
  simp [splice]; omega

theorem run_storeCells {b : Nat} {T : TypeId} {fz : Nat × Nat} : ∀ (vs : List Value) (w : World) (c : Array Value) (i o : Nat), w.heap[b]? = some (.cells c T fz) → vs.all S.oneCell = true → o + i + vs.length ≤ c.size →
    (∀ j, j < vs.length → (decide (fz.1 ≤ o + i + j) && decide (o + i + j < fz.2)) = false) →
    (storeCells ⟨b, o, none⟩ vs i).run P w = .ok () (upd w b (.cells (splice c.toList (o + i) vs).toArray T fz))
  | [], w, c, i, o, h, ho, hle, hfz => by
    have : upd w b (.cells (splice c.toList (o + i) []).toArray T fz) = w := by
      rw [splice_nil]
      simp only [Array.toArray_toList]
      unfold upd
      have hlt := lt_of_heap h
      have : w.heap.setIfInBounds b (.cells c T fz) = w.heap := by
        apply Array.ext'
        simp only [Array.toList_setIfInBounds]
        apply List.ext_getElem?
        intro j
        rw [List.getElem?_set]
        split
        · rename_i e
          subst e
          rw [if_pos (by simpa using hlt)]
          rw [← h]; simp
        · rfl
      rw [this]
    rw [this]; rfl
  | v :: vs, w, c, i, o, h, ho, hle, hfz => by
    simp only [List.all_cons, Bool.and_eq_true] at ho
    simp only [List.length_cons] at hle hfz
    have hlt : o + i < c.size := by omega
    have hc : w.cell? ⟨b, o + i, none⟩ = some c[o + i] := by rw [cell_rd, rd, h]; exact Array.getElem?_eq_getElem hlt
    have hf : w.frozen? ⟨b, o + i, none⟩ = false := by simp only [World.frozen?, h]; exact hfz 0 (by omega)
    have hst : (store ⟨b, o + i, none⟩ v).run P w = .ok () (upd w b (.cells (c.setIfInBounds (o + i) v) T fz)) := by
      have hw : w.setCell ⟨b, o + i, none⟩ v = upd w b (.cells (c.setIfInBounds (o + i) v) T fz) := by
        unfold World.setCell upd
        congr 1
        apply Array.ext'
        apply List.ext_getElem?
        intro j
        simp only [Array.toList_modify, Array.toList_setIfInBounds, List.getElem?_set, List.getElem?_modify]
        by_cases e : b = j
        · subst e
          have hj : w.heap.toList[b]? = some (.cells c T fz) := by rw [← h]; simp
          rw [hj]; simp [lt_of_heap h]
        · simp [e]
      cases v <;> first | (simp [S.oneCell] at ho; done) | (simp only [store, Sem.run, hc, hf, Bool.false_eq_true, if_false, hw])
    rw [storeCells, Sem.run_bind, add_none, hst, Result.andThen_ok]
    have h' : (upd w b (.cells (c.setIfInBounds (o + i) v) T fz)).heap[b]? = some (.cells (c.setIfInBounds (o + i) v) T fz) := heap_upd_same (by rw [h]; rfl)
    rw [run_storeCells vs _ _ (i + 1) o h' ho.2 (by simp; omega) (fun j hj => by have := hfz (j + 1) (by omega); simpa [Nat.add_assoc, Nat.add_comm 1 j] using this)]
    rw [upd_upd]
    simp only [Array.toList_setIfInBounds]
    rw [← Nat.add_assoc, splice_cons _ _ _ _ (by simpa using hlt)]

/-- some cells are written -/
theorem opS_st {T n : Nat} {ag : Bool} [hs : Sz P T n ag] (b o : Nat) (v : Value) (hv : v.cells.size = n) (h1 : v.cells.toList.all S.oneCell = true) :
    opS P (S.st T (pt b o) v) K w = if wrOk w b o n = true then K undef (wr w b o v.cells.toList) else False := by
  show opS P (do
    match ← shape b with
    | some (_, m) =>
      if v.cells.toList.all S.oneCell && decide (o + v.cells.size ≤ m) then do
        S.allFree b o v.cells.size
        storeVar T ⟨b, o, none⟩ v
        pure .skip
      else stuck "st"
    | none => stuck "st") K w = _
  unfold opS
  rw [Sem.run_bind]
  have hsh : (shape b).run P w = .ok (w.shape? b) w := rfl
  rw [hsh, Result.andThen_ok, shape_rd, wrOk]
  cases hb : w.heap[b]? with
  | none => simp [uponR]
  | some x =>
    cases x with
    | cells c e fz =>
      simp only [h1, Bool.true_and]
      by_cases hle : o + v.cells.size ≤ c.size
      · rw [if_pos (by simpa using hle), Sem.run_bind, allFree_ok hb]
        by_cases hfz : ((List.range v.cells.size).all fun i => !(decide (fz.1 ≤ o + i) && decide (o + i < fz.2))) = true
        · rw [if_pos hfz, Result.andThen_ok, Sem.run_bind, storeVar, Sem.run_bind, hs.size w, Result.andThen_ok, if_neg (by rw [hv]; simp)]
          show uponR P K (((storeCells ⟨b, o, none⟩ v.cells.toList).run P w).andThen fun a w' => Sem.run P (pure Next.skip) w') = _
          rw [run_storeCells v.cells.toList w c 0 o hb h1 (by simpa using hle) (fun j hj => by
            rw [List.all_eq_true] at hfz
            have := hfz j (by simpa using hj)
            rw [Bool.not_eq_true'] at this
            simpa only [Nat.add_zero] using this)]
          rw [← hv]
          rw [if_pos (by rw [hfz]; simpa using hle)]
          simp only [wr, hb]
          rfl
        · rw [if_neg hfz, ← hv]
          rw [if_neg (fun h => hfz (Bool.and_eq_true_iff.1 h).2)]
          rfl
      · rw [if_neg (by simpa using hle), ← hv]
        rw [if_neg (fun h => hle (of_decide_eq_true (Bool.and_eq_true_iff.1 h).1))]
        rfl
    | _ => simp [uponR, stuck]

/-! ### New blocks -/

theorem opS_box (T : TypeId) (v : Value) : opS P (S.box T v) K w = K (pt w.heap.size 0) (w.alloc (.cells v.cells T)) := id rfl

theorem opS_alloc {T : TypeId} {z : Value} [hz : ZV P T z] : opS P (S.alloc T) K w = K (pt w.heap.size 0) (w.alloc (.cells z.cells T)) := by
  unfold S.alloc
  rw [opS_bind]
  unfold Instr.alloc
  rw [Sem.run_bind, hz.zero w, Result.andThen_ok]
  rfl

/-! ### Values -/

theorem opS_nc (b o : Nat) : opS P (S.nc (pt b o)) K w = K (pt b o) w := id rfl
theorem opS_nc_none : opS P (S.nc (.pointer none)) K w = False := id rfl

theorem opS_fa {T : TypeId} {fs : Array Field} [hT : StT P T fs] {f : Nat} {fd : Field} {n : Nat} {ag : Bool} (hf : fs[f]? = some fd) [hs : Sz P fd.type n ag] (hn : n ≠ 0) (b o : Nat) :
    opS P (S.fa T (pt b o) f) K w = K (pt b (o + fd.offset)) w := by
  unfold S.fa
  rw [opS_bind]
  unfold Instr.fieldAt
  rw [Sem.run_bind, run_underlying_of hT.und, Result.andThen_ok]
  simp only [hf]
  rw [Sem.run_bind]
  have : (Instr.sureAddr (pt b o)).run P w = .ok ⟨b, o, none⟩ w := rfl
  rw [this, Result.andThen_ok, Sem.run_bind, fieldPlace, Sem.run_bind, hs.size w, Result.andThen_ok, if_neg hn, Sem.run_pure, Result.andThen_ok, add_none]
  rfl

theorem opS_len (a : Option Addr) (n c : Nat) : opS P (S.len (.slice a n c)) K w = K (.int .i64 n) w := id rfl

theorem opS_ext (vs : Array Value) (i : Nat) : opS P (S.ext (.tuple vs) i) K w = match vs[i]? with | some v => K v w | none => False := by
  unfold S.ext
  rw [opS_bind]
  simp only [Instr.extract]
  cases vs[i]? <;> rfl

theorem opS_not (b : Bool) : opS P (S.un .not (.bool b)) K w = K (.bool (!b)) w := id rfl
theorem opS_mkf (fn : Fn) (x y : List Value) : opS P (S.mkf fn x y) K w = K (.func fn x.toArray y.toArray) w := id rfl
theorem opS_convI (k k' : IntKind) (n : Int) : opS P (S.convI k (.int k' n)) K w = K (.int k (k.wrap n)) w := id rfl

theorem opS_add (k : IntKind) (a b : Int) : opS P (S.binI .add (.int k a) (.int k b)) K w = K (.int k (k.wrap (a + b))) w := by simp [S.binI, binOp, Op.intArith, opS, uponR]
theorem opS_sub (k : IntKind) (a b : Int) : opS P (S.binI .sub (.int k a) (.int k b)) K w = K (.int k (k.wrap (a - b))) w := by simp [S.binI, binOp, Op.intArith, opS, uponR]
theorem opS_mul (k : IntKind) (a b : Int) : opS P (S.binI .mul (.int k a) (.int k b)) K w = K (.int k (k.wrap (a * b))) w := by simp [S.binI, binOp, Op.intArith, opS, uponR]
theorem opS_quo (k : IntKind) (a b : Int) (h : b ≠ 0) : opS P (S.binI .quo (.int k a) (.int k b)) K w = K (.int k (k.wrap (a.tdiv b))) w := by simp [S.binI, binOp, Op.intDiv, opS, uponR, h]
theorem opS_rem (k : IntKind) (a b : Int) (h : b ≠ 0) : opS P (S.binI .rem (.int k a) (.int k b)) K w = K (.int k (a.tmod b)) w := by simp [S.binI, binOp, Op.intDiv, opS, uponR, h]
theorem opS_eql (k : IntKind) (a b : Int) : opS P (S.binI .eql (.int k a) (.int k b)) K w = K (.bool (a == b)) w := by simp [S.binI, binOp, Op.intCmp, opS, uponR]
theorem opS_neq (k : IntKind) (a b : Int) : opS P (S.binI .neq (.int k a) (.int k b)) K w = K (.bool (a != b)) w := by simp [S.binI, binOp, Op.intCmp, opS, uponR]
theorem opS_lss (k : IntKind) (a b : Int) : opS P (S.binI .lss (.int k a) (.int k b)) K w = K (.bool (decide (a < b))) w := by simp [S.binI, binOp, Op.intCmp, opS, uponR]
theorem opS_leq (k : IntKind) (a b : Int) : opS P (S.binI .leq (.int k a) (.int k b)) K w = K (.bool (decide (a ≤ b))) w := by simp [S.binI, binOp, Op.intCmp, opS, uponR]
theorem opS_gtr (k : IntKind) (a b : Int) : opS P (S.binI .gtr (.int k a) (.int k b)) K w = K (.bool (decide (a > b))) w := by simp [S.binI, binOp, Op.intCmp, opS, uponR]
theorem opS_geq (k : IntKind) (a b : Int) : opS P (S.binI .geq (.int k a) (.int k b)) K w = K (.bool (decide (a ≥ b))) w := by simp [S.binI, binOp, Op.intCmp, opS, uponR]
theorem opS_beq (a b : Bool) : opS P (S.binB .eql (.bool a) (.bool b)) K w = K (.bool (a == b)) w := id rfl
theorem opS_bne (a b : Bool) : opS P (S.binB .neq (.bool a) (.bool b)) K w = K (.bool (!(a == b))) w := id rfl
theorem opS_isnil (b : Bool) : opS P (S.binN .eql (some b)) K w = K (.bool b) w := id rfl
theorem opS_notnil (b : Bool) : opS P (S.binN .neq (some b)) K w = K (.bool (!b)) w := id rfl
theorem isNilP_pt (b o : Nat) : S.isNilP (pt b o) = some false := id rfl
theorem isNilP_none : S.isNilP (.pointer none) = some true := id rfl
theorem opS_pick (c : Bool) (a b : Value) : opS P (S.pick (.bool c) a b) K w = K (if c then a else b) w := by cases c <;> rfl

theorem brn_bool (t : Bool) (a b : World → Prop) (w : World) : brn (.bool t) a b w = if t = true then a w else b w := by cases t <;> rfl

/-! ### Calls -/

/-- a function with a body -/
class FnB (P : Program) (f : FuncId) : Prop where
  enter : ∀ args w, (callFunc f args).run P w = .ok (.enter f args) w

theorem opS_cl {f : FuncId} [hf : FnB P f] (args : List Value) : opS P (S.cl f args) K w = CallsR P f args.toArray K w := by
  unfold S.cl S.call opS
  have : (do
      let d ← Deferred.ofValue (.func (.func f) #[] #[]) args.toArray
      invoke d.target d.args : Sem Next) = callFunc f (#[] ++ args.toArray ++ #[]) := rfl
  rw [this, hf.enter]
  simp [uponR]

/-- a call of a closure -/
theorem opS_call {f : FuncId} [hf : FnB P f] (cap : Array Value) (args : List Value) : opS P (S.call (.func (.func f) #[] cap) args) K w = CallsR P f (args.toArray ++ cap) K w := by
  unfold S.call opS
  have : (do
      let d ← Deferred.ofValue (.func (.func f) #[] cap) args.toArray
      invoke d.target d.args : Sem Next) = callFunc f (#[] ++ args.toArray ++ cap) := rfl
  rw [this, hf.enter]
  simp [uponR]

theorem enterS_call {f : FuncId} [hf : FnB P f] (cap : Array Value) (args : List Value) : enterS P (S.call (.func (.func f) #[] cap) args) K w = CallsR P f (args.toArray ++ cap) K w := by
  unfold S.call enterS
  have : (do
      let d ← Deferred.ofValue (.func (.func f) #[] cap) args.toArray
      invoke d.target d.args : Sem Next) = callFunc f (#[] ++ args.toArray ++ cap) := rfl
  rw [this, hf.enter]
  simp

/-! ### Places in slices and arrays -/

theorem NV.boundsPanic {α : Type} (k : IntKind) (x y : Int) (c : BoundsCode) : NV P (Go.boundsPanic k x y c : Sem α) := by
  unfold Go.boundsPanic
  simp only []
  split <;> exact NV.right fun _ => NV.runtimePanic _

theorem nv_match {s : Sem Value} (h : NV P s) : (match s.run P w with | .ok v w' => K v w' | .halt _ _ => False) = False := by
  cases hr : s.run P w with
  | halt x w' => rfl
  | ok v w' => exact absurd hr (h _ _ _)

theorem opS_iaS {T E n : Nat} {ag : Bool} [hT : SlT P T E] [hs : Sz P E n ag] (b o len cap : Nat) (k : IntKind) (i : Int) :
    opS P (S.ia T (.slice (some ⟨b, o, none⟩) len cap) (.int k i)) K w = if 0 ≤ i ∧ i < len then K (pt b (o + i.toNat * n)) w else False := by
  unfold S.ia
  rw [opS_bind]
  unfold Instr.indexAt
  simp only [asIntOf, pure_bind]
  rw [Sem.run_bind, run_underlying_of hT.und, Result.andThen_ok]
  simp only []
  rw [Sem.run_bind, run_underlying_of hT.und, Result.andThen_ok]
  try simp only []
  by_cases h : 0 ≤ i ∧ i < len
  · rw [if_pos h, if_pos h, Sem.run_bind, hs.size w, Result.andThen_ok, add_none]; rfl
  · rw [if_neg h, if_neg h, if_neg (by simp)]
    exact nv_match (NV.boundsPanic _ _ _ _)

theorem opS_iaS_nil {T E : Nat} [hT : SlT P T E] (len cap : Nat) (k : IntKind) (i : Int) : opS P (S.ia T (.slice none len cap) (.int k i)) K w = False := by
  unfold S.ia
  rw [opS_bind]
  unfold Instr.indexAt
  simp only [asIntOf, pure_bind]
  rw [Sem.run_bind, run_underlying_of hT.und, Result.andThen_ok]
  simp only []
  rw [Sem.run_bind, run_underlying_of hT.und, Result.andThen_ok]
  try simp only []
  exact nv_match (NV.boundsPanic _ _ _ _)

theorem opS_iaA {T E n m : Nat} {ag : Bool} [hT : ArT P T m E] [hs : Sz P E n ag] (b o : Nat) (k : IntKind) (i : Int) (h : 0 ≤ i ∧ i < m) :
    opS P (S.ia T (pt b o) (.int k i)) K w = K (pt b (o + i.toNat * n)) w := by
  unfold S.ia
  rw [opS_bind]
  unfold Instr.indexAt
  simp only [asIntOf, pure_bind]
  rw [Sem.run_bind, run_underlying_of hT.und, Result.andThen_ok]
  simp only []
  have : (Instr.sureAddr (pt b o)).run P w = .ok ⟨b, o, none⟩ w := rfl
  rw [Sem.run_bind, this, Result.andThen_ok]
  try simp only []
  rw [Sem.run_bind, run_underlying_of hT.und, Result.andThen_ok]
  try simp only []
  rw [if_pos h, Sem.run_bind, hs.size w, Result.andThen_ok, add_none]; rfl

/-! ### Structs and arrays that are built -/

/-- the fields' zero cells, and what is given of them, in order -/
def mergeF : Nat → List (List Value) → List (Nat × Value) → Option (List Value)
  | _, [], [] => some []
  | i, z :: zs, (j, v) :: ps =>
    if i = j then (if v.cells.toList.length = z.length then (mergeF (i + 1) zs ps).map (v.cells.toList ++ ·) else none)
    else (mergeF (i + 1) zs ((j, v) :: ps)).map (z ++ ·)
  | i, z :: zs, [] => (mergeF (i + 1) zs []).map (z ++ ·)
  | _, [], _ :: _ => none

def offs : Nat → List (List Value) → List (Nat × Nat)
  | _, [] => []
  | o, z :: zs => (o, z.length) :: offs (o + z.length) zs

class BT (P : Program) (T : TypeId) (zs : outParam (List (List Value))) : Prop where
  run : ∀ ps l w, mergeF 0 zs ps = some l → (Instr.build T ps.toArray).run P w = .ok (.agg l.toArray) w

theorem foldl_splice (vs : List Value) : ∀ (j : Nat) (cs : Array Value) (o : Nat), o + j + vs.length ≤ cs.size →
    ((vs.zipIdx j).foldl (fun (cs : Array Value) x => cs.setIfInBounds (o + x.2) x.1) cs).toList = splice cs.toList (o + j) vs := by
  induction vs with
  | nil => intro j cs o h; simp [splice_nil]
  | cons v vs ih =>
    intro j cs o h
    simp only [List.length_cons] at h
    simp only [List.zipIdx_cons, List.foldl_cons]
    rw [ih (j + 1) _ o (by simp; omega)]
    rw [Array.toList_setIfInBounds, ← Nat.add_assoc, splice_cons _ _ _ _ (by simp; omega)]

theorem fill_cons {place : Nat → Option (Nat × Nat)} {cells : Array Value} {i : Nat} {v : Value} {rest : List (Nat × Value)} {off size : Nat} (hp : place i = some (off, size)) (hs : v.cells.size = size) (hle : off + size ≤ cells.size) :
    Instr.fill place cells ((i, v) :: rest) = Instr.fill place (splice cells.toList off v.cells.toList).toArray rest := by
  rw [Instr.fill, hp]
  simp only []
  rw [if_neg (by rw [hs]; simp; omega)]
  congr 1
  apply Array.ext'
  have e : v.cells.zipIdx = (v.cells.toList.zipIdx).toArray := by apply Array.ext'; simp
  rw [e]
  have := foldl_splice v.cells.toList 0 cells off (by simpa [hs] using hle)
  simpa using this

theorem splice_mid (pre z rest vs : List Value) (h : vs.length = z.length) : splice (pre ++ (z ++ rest)) pre.length vs = pre ++ (vs ++ rest) := by
  unfold splice
  rw [h, List.take_left, List.drop_append, List.drop_eq_nil_of_le (by omega)]
  simp

theorem fill_merge {place : Nat → Option (Nat × Nat)} : ∀ (zs : List (List Value)) (i : Nat) (pre : List Value) (ps : List (Nat × Value)) (l : List Value),
    (∀ k, k < zs.length → place (i + k) = (offs pre.length zs)[k]?) → mergeF i zs ps = some l → Instr.fill place (pre ++ zs.flatten).toArray ps = some (pre ++ l).toArray
  | [], i, pre, [], l, hp, h => by cases h; simp [Instr.fill]
  | [], i, pre, p :: ps, l, hp, h => by cases h
  | z :: zs, i, pre, [], l, hp, h => by
    simp only [mergeF, Option.map_eq_some_iff] at h
    obtain ⟨l', hl, rfl⟩ := h
    have := fill_merge (place := place) zs (i + 1) (pre ++ z) [] l' (fun k hk => by
      have := hp (k + 1) (by simp; omega)
      simpa [offs, Nat.add_assoc, Nat.add_comm 1 k] using this) hl
    simpa using this
  | z :: zs, i, pre, (j, v) :: ps, l, hp, h => by
    have hp' : ∀ k, k < zs.length → place (i + 1 + k) = (offs (pre.length + z.length) zs)[k]? := fun k hk => by
      have := hp (k + 1) (by simp; omega)
      simpa [offs, Nat.add_assoc, Nat.add_comm 1 k] using this
    unfold mergeF at h
    split at h
    · rename_i hij
      subst hij
      split at h
      · rename_i hlen
        rw [Option.map_eq_some_iff] at h
        obtain ⟨l', hl, rfl⟩ := h
        have h0 := hp 0 (by simp)
        simp only [offs, Nat.add_zero, List.getElem?_cons_zero] at h0
        rw [fill_cons h0 (by simpa using hlen) (by simp)]
        have e : splice (pre ++ (z :: zs).flatten).toArray.toList pre.length v.cells.toList = (pre ++ v.cells.toList) ++ zs.flatten := by
          simp only [List.flatten_cons]
          rw [splice_mid _ _ _ _ hlen]; simp
        rw [e]
        have := fill_merge (place := place) zs (i + 1) (pre ++ v.cells.toList) ps l' (fun k hk => by
          rw [hp' k hk, List.length_append, hlen]) hl
        rw [this]; simp
      · cases h
    · rw [Option.map_eq_some_iff] at h
      obtain ⟨l', hl, rfl⟩ := h
      have := fill_merge (place := place) zs (i + 1) (pre ++ z) ((j, v) :: ps) l' (fun k hk => by
        rw [hp' k hk, List.length_append]) hl
      simpa using this

theorem BT.ofStruct {T : TypeId} {fs : Array Field} {zs : List (List Value)} {z : Value} (hu : P.underlying T = some (.struct fs)) (hz : ∀ w, (zeroValue T).run P w = .ok z w) (hzs : z.cells = zs.flatten.toArray)
    (ho : ∀ w, (fs.mapM (fun f => do pure (f.offset, ← sizeOf f.type) : Field → Sem (Nat × Nat))).run P w = .ok (offs 0 zs).toArray w) : BT P T zs := by
  refine ⟨fun ps l w h => ?_⟩
  unfold Instr.build
  rw [Sem.run_bind, hz w, Result.andThen_ok, Sem.run_bind, run_underlying_of hu, Result.andThen_ok]
  simp only []
  rw [Sem.run_bind, ho w, Result.andThen_ok]
  have := fill_merge (place := ((offs 0 zs).toArray[·]?)) zs 0 [] ps l (fun k hk => by simp) h
  simp only [List.nil_append] at this
  rw [hzs, this]
  rfl

theorem offs_rep {z : List Value} : ∀ (n o k : Nat), k < n → (offs o (List.replicate n z))[k]? = some (o + k * z.length, z.length)
  | 0, _, _, h => by omega
  | n + 1, o, 0, _ => by simp [List.replicate_succ, offs]
  | n + 1, o, k + 1, h => by
    simp only [List.replicate_succ, offs, List.getElem?_cons_succ]
    rw [offs_rep n (o + z.length) k (by omega), Nat.add_assoc, Nat.add_mul, Nat.one_mul, Nat.add_comm z.length]

theorem BT.ofArray {T E : TypeId} {n sz : Nat} {ag : Bool} {ze : List Value} {z : Value} (hu : P.underlying T = some (.array n E)) (hz : ∀ w, (zeroValue T).run P w = .ok z w) (hzs : z.cells = (List.replicate n ze).flatten.toArray)
    (hs : Sz P E sz ag) (hsz : sz = ze.length) : BT P T (List.replicate n ze) := by
  refine ⟨fun ps l w h => ?_⟩
  unfold Instr.build
  rw [Sem.run_bind, hz w, Result.andThen_ok, Sem.run_bind, run_underlying_of hu, Result.andThen_ok]
  simp only []
  rw [Sem.run_bind, hs.size w, Result.andThen_ok]
  have := fill_merge (place := fun i => some (i * sz, sz)) (List.replicate n ze) 0 [] ps l (fun k hk => by
    have h2 := offs_rep (z := ze) n 0 k (by simpa using hk)
    simp only [List.length_nil] at h2 ⊢
    rw [h2, hsz]; simp) h
  simp only [List.nil_append] at this
  rw [hzs, this]
  rfl

theorem opS_build {T : TypeId} {zs : List (List Value)} [hb : BT P T zs] (ps : List (Nat × Value)) (h : (mergeF 0 zs ps).isSome = true) :
    opS P (S.build T ps) K w = K (.agg ((mergeF 0 zs ps).getD []).toArray) w := by
  obtain ⟨l, hl⟩ := Option.isSome_iff_exists.1 h
  unfold S.build
  rw [opS_bind, hb.run ps l w hl, hl]
  rfl

/-! ### Slices that are made, and appended to -/

/-- copies of a zero value -/
def zeros (n : Nat) (z : List Value) : List Value := (List.replicate n z).flatten

theorem zeros_length (n : Nat) (z : List Value) : (zeros n z).length = n * z.length := by simp [zeros]

theorem wrap_i64 {x : Int} (h : -9223372036854775808 ≤ x ∧ x < 9223372036854775808) : IntKind.i64.wrap x = x := by
  unfold IntKind.wrap
  have e1 : (2 : Int) ^ IntKind.i64.bits = 18446744073709551616 := rfl
  have e2 : (2 : Int) ^ (IntKind.i64.bits - 1) = 9223372036854775808 := rfl
  have e3 : IntKind.i64.signed = true := rfl
  simp only [e1, e2, e3, Bool.true_and, decide_eq_true_eq]
  split <;> omega

theorem range_zeros (n : Nat) (z : Array Value) : ((Array.range (n * z.size)).map (fun i => z[i % z.size]!)) = (zeros n z.toList).toArray := by
  apply Array.ext'
  simp only [Array.toList_map, Array.toList_range, zeros]
  induction n with
  | zero => simp
  | succ n ih =>
    rw [Nat.succ_mul, List.range_add, List.map_append, ih, List.replicate_succ', List.flatten_append, List.flatten_singleton]
    congr 1
    apply List.ext_getElem?
    intro i
    simp only [List.getElem?_map, List.map_map]
    by_cases h : i < z.size
    · simp [h, Nat.add_mod, Nat.mod_eq_of_lt h]
    · simp [h]

theorem opS_mks {T E n by_ : Nat} {ag : Bool} {z : Value} [hT : SlT P T E] [hs : Sz P E n ag] [hb : By P E by_] [hz : ZV P E z] (k k' : IntKind) (len : Int) (h0 : 0 ≤ len) (h1 : by_ * len ≤ 2 ^ 48) (h2 : len < 2 ^ 62)
    (hn : z.cells.size = n) (hn0 : 0 < n) : opS P (S.mks T (.int k len) (.int k' len)) K w = K (.slice (some ⟨w.heap.size, 0, none⟩) len.toNat len.toNat) (w.alloc (.cells (zeros len.toNat z.cells.toList).toArray E)) := by
  obtain ⟨i, hi, hib⟩ := hb.bytes
  unfold S.mks
  rw [opS_bind]
  unfold Instr.makeSlice
  rw [Sem.run_bind, run_underlying_of hT.und, Result.andThen_ok]
  have hw : IntKind.i64.wrap len = len := wrap_i64 (by omega)
  simp only [asInt, asIntOf, pure_bind, hw]
  rw [Sem.run_bind, hi w, Result.andThen_ok]
  have ht : (decide (len < 0) || decide ((i.bytes : Int) * len > 2 ^ 48)) = false := by
    rw [hib]; simp; omega
  have hc : ((decide (len < 0) || decide ((i.bytes : Int) * len > 2 ^ 48)) || decide (len < 0) || decide (len > len)) = false := by
    rw [ht]; simp; omega
  simp only [hc, Bool.false_eq_true, if_false]
  have har : (askRoom (len.toNat * i.bytes)).run P w = .ok () w := by
    unfold askRoom; split <;> rfl
  rw [Sem.run_bind, har, Result.andThen_ok, Sem.run_bind, hs.size w, Result.andThen_ok]
  have hrz := range_zeros len.toNat z.cells
  rw [hn] at hrz
  by_cases hz0 : len.toNat * n = 0
  · rw [if_pos hz0, Sem.run_bind]
    have hl0 : len.toNat = 0 := by
      rcases Nat.mul_eq_zero.1 hz0 with h | h
      · exact h
      · omega
    have e0 : Array.range 0 = #[] := by simp
    simp only [hl0, Nat.zero_mul, e0, Array.map_empty]
    rfl
  · rw [if_neg hz0, Sem.run_bind, hz.zero w, Result.andThen_ok, Sem.run_bind, hn, hrz]
    rfl

/-- what given parts have, one behind the other -/
def flatP (ps : List (Nat × Value)) : List Value := ps.flatMap fun p => p.2.cells.toList

theorem opS_buildS0 {T E n : Nat} {ag : Bool} [hT : SlT P T E] [hs : Sz P E n ag] : opS P (S.buildS T 0 []) K w = K (.slice (some ⟨w.heap.size, 0, none⟩) 0 0) (w.alloc (.cells #[] E)) := by
  unfold S.buildS
  rw [opS_bind]
  unfold Instr.buildSlice
  rw [Sem.run_bind, run_underlying_of hT.und, Result.andThen_ok]
  simp only []
  rw [Sem.run_bind, hs.size w, Result.andThen_ok]
  have e0 : Array.range 0 = #[] := by simp
  simp only [Nat.zero_mul, e0, Array.map_empty]
  rw [if_neg (by omega), if_pos trivial]
  simp only [pure_bind, Instr.fill]
  rfl

theorem opS_buildS1 {T E n : Nat} {ag : Bool} {z : Value} [hT : SlT P T E] [hs : Sz P E n ag] [hz : ZV P E z] (v : Value) (hv : v.cells.size = n) (hzn : z.cells.size = n) (hn : 0 < n) (hn2 : n ≤ 2 ^ 24) :
    opS P (S.buildS T 1 [(0, v)]) K w = K (.slice (some ⟨w.heap.size, 0, none⟩) 1 1) (w.alloc (.cells v.cells E)) := by
  unfold S.buildS
  rw [opS_bind]
  unfold Instr.buildSlice
  rw [Sem.run_bind, run_underlying_of hT.und, Result.andThen_ok]
  simp only []
  rw [Sem.run_bind, hs.size w, Result.andThen_ok]
  simp only [Nat.one_mul]
  rw [if_neg (by omega), if_neg (by omega), Sem.run_bind, hz.zero w, Result.andThen_ok]
  have hr := range_zeros 1 z.cells
  rw [Nat.one_mul, hzn] at hr
  simp only [pure_bind, hzn, hr]
  rw [fill_cons (off := 0) (size := n) (by simp) hv (by simp [zeros]; omega)]
  have e : splice (zeros 1 z.cells.toList).toArray.toList 0 v.cells.toList = v.cells.toList := by
    simp only [zeros, splice, List.replicate_one, List.flatten_singleton, List.take_zero, List.nil_append, Nat.zero_add]
    rw [List.drop_eq_nil_of_le (by simp [hv, hzn]), List.append_nil]
  rw [e]
  simp only [Instr.fill, Array.toArray_toList]
  rfl

end Go.Gx
