/- Own texts, put together. -/
import Derived.Test.YtbaebhhengcdcaaGreatDoorGxFn
import Derived.DeepKeys
import Derived.ChangeSame
import Derived.Carry
import Derived.WalkKit
import Derived.ProofKit
import Derived.OpenShut
import Derived.JoinedOf
import Derived.JoinedAt
import Derived.MapViews
import Derived.DeepKeys2
import Derived.ChangeSlices
import Derived.Test.YtbaebhhengcdcaaGreatDoorProg
import Derived.KernelRfl
section
/- What each operation asks, of blocks of cells. -/
namespace Go.Gx
open Go

/-! ### Facts on types -/

class Sz (P : Program) (T : TypeId) (n : outParam Nat) (ag : outParam Bool) : Prop where
  size : ∀ w, (sizeOf T).run P w = .ok n w
  agg : ∀ w, (isAgg T).run P w = .ok ag w
class ZV (P : Program) (T : TypeId) (z : outParam Value) : Prop where
  zero : ∀ w, (zeroValue T).run P w = .ok z w
class By (P : Program) (T : TypeId) (n : outParam Nat) : Prop where
  bytes : ∃ i, (∀ w, (typeInfo T).run P w = .ok i w) ∧ i.bytes = n
class SlT (P : Program) (T : TypeId) (E : outParam TypeId) : Prop where
  und : P.underlying T = some (.slice E)
class ArT (P : Program) (T : TypeId) (n : outParam Nat) (E : outParam TypeId) : Prop where
  und : P.underlying T = some (.array n E)
class MpT (P : Program) (T : TypeId) (k : outParam TypeId) (v : outParam TypeId) : Prop where
  und : P.underlying T = some (.map k v)
/-- a struct -/
class StT (P : Program) (T : TypeId) (fs : outParam (Array Field)) : Prop where
  und : P.underlying T = some (.struct fs)

/-! ### Worlds -/

def pt (b o : Nat) : Value := .pointer (some ⟨b, o, none⟩)
def cellsO (l : List Value) (T : TypeId) : Obj := .cells l.toArray T (0, 0)

def upd (w : World) (b : Nat) (o : Obj) : World := { w with heap := w.heap.setIfInBounds b o }

theorem heap_upd (w : World) (b b' : Nat) (o : Obj) : (upd w b o).heap[b']? = if b = b' then (w.heap[b]?).map (fun _ => o) else w.heap[b']? := by
  unfold upd
  simp only [Array.getElem?_setIfInBounds]
  split
  · rename_i h
    subst h
    split
    · rename_i hlt; rw [Array.getElem?_eq_getElem hlt]; rfl
    · rename_i hlt; rw [Array.getElem?_eq_none (by omega)]; rfl
  · rfl

theorem heap_upd_same {w : World} {b : Nat} {o : Obj} (h : (w.heap[b]?).isSome = true) : (upd w b o).heap[b]? = some o := by
  rw [heap_upd, if_pos rfl]
  obtain ⟨x, hx⟩ := Option.isSome_iff_exists.1 h
  rw [hx]; rfl

theorem heap_upd_ne {w : World} {b b' : Nat} {o : Obj} (h : b ≠ b') : (upd w b o).heap[b']? = w.heap[b']? := by
  rw [heap_upd, if_neg h]

theorem size_upd (w : World) (b : Nat) (o : Obj) : (upd w b o).heap.size = w.heap.size := by simp [upd]

theorem heap_alloc_new (w : World) (o : Obj) : (w.alloc o).heap[w.heap.size]? = some o := by
  show (w.heap.push o)[w.heap.size]? = some o
  simp
theorem heap_alloc_lt {w : World} {o : Obj} {b : Nat} (h : b < w.heap.size) : (w.alloc o).heap[b]? = w.heap[b]? := by
  show (w.heap.push o)[b]? = w.heap[b]?
  simp [Array.getElem?_push, Nat.ne_of_lt h]
theorem size_alloc (w : World) (o : Obj) : (w.alloc o).heap.size = w.heap.size + 1 := by
  show (w.heap.push o).size = _
  simp
theorem lt_of_heap {w : World} {b : Nat} {o : Obj} (h : w.heap[b]? = some o) : b < w.heap.size := (Array.getElem?_eq_some_iff.1 h).1

/-- a cell -/
def rd (w : World) (b o : Nat) : Option Value :=
  match w.heap[b]? with
  | some (.cells c _ _) => c[o]?
  | _ => none

/-- some cells -/
def rdN (w : World) (b o n : Nat) : Option (List Value) :=
  match w.heap[b]? with
  | some (.cells c _ _) => if o + n ≤ c.size then some ((c.toList.drop o).take n) else none
  | _ => none

/-- some cells may be written -/
def wrOk (w : World) (b o n : Nat) : Bool :=
  match w.heap[b]? with
  | some (.cells c _ fz) => decide (o + n ≤ c.size) && (List.range n).all fun i => !(decide (fz.1 ≤ o + i) && decide (o + i < fz.2))
  | _ => false

def splice (l : List Value) (o : Nat) (vs : List Value) : List Value := l.take o ++ vs ++ l.drop (o + vs.length)

/-- some cells are written -/
def wr (w : World) (b o : Nat) (vs : List Value) : World :=
  match w.heap[b]? with
  | some (.cells c T fz) => upd w b (.cells (splice c.toList o vs).toArray T fz)
  | _ => w

variable {P : Program} {K : Value → World → Prop} {w : World}

theorem cell_rd (w : World) (b o : Nat) : w.cell? ⟨b, o, none⟩ = rd w b o := by
  unfold World.cell? rd
  cases w.heap[b]? with
  | none => rfl
  | some x => cases x <;> rfl

theorem opS_bind {s : Sem Value} : opS P (do pure (.value (← s))) K w = match s.run P w with | .ok v w' => K v w' | .halt _ _ => False := by
  unfold opS
  rw [Sem.run_bind]
  cases s.run P w <;> rfl

theorem add_none (b o n : Nat) : (⟨b, o, none⟩ : Addr).add n = ⟨b, o + n, none⟩ := by
  unfold Addr.add
  split
  · rename_i h; subst h; rfl
  · rfl

theorem shape_rd {b : Nat} : w.shape? b = match w.heap[b]? with | some (.cells c e _) => some (e, c.size) | _ => none := by
  unfold World.shape?
  cases w.heap[b]? with
  | none => rfl
  | some x => cases x <;> rfl

theorem run_loadCellsFrom {b : Nat} {c : Array Value} {T : TypeId} {fz : Nat × Nat} (h : w.heap[b]? = some (.cells c T fz)) : ∀ (n i o : Nat) (acc : Array Value), o + i + n ≤ c.size →
    (loadCellsFrom ⟨b, o, none⟩ i n acc).run P w = .ok (acc ++ ((c.toList.drop (o + i)).take n).toArray) w
  | 0, i, o, acc, _ => by simp [loadCellsFrom]
  | n + 1, i, o, acc, hle => by
    have hlt : o + i < c.size := by omega
    have hc : w.cell? ⟨b, o + i, none⟩ = some c[o + i] := by rw [cell_rd, rd, h]; exact Array.getElem?_eq_getElem hlt
    rw [loadCellsFrom, Sem.run_bind, add_none, run_load, hc]
    simp only [Result.andThen_ok]
    rw [run_loadCellsFrom h n (i + 1) o _ (by omega)]
    have : (c.toList.drop (o + i)).take (n + 1) = c[o + i] :: (c.toList.drop (o + (i + 1))).take n := by
      rw [List.drop_eq_getElem_cons (by simpa using hlt), List.take_succ_cons]
      simp [Nat.add_assoc]
    rw [this]
    simp

theorem run_loadCellsFrom_out {b : Nat} {c : Array Value} {T : TypeId} {fz : Nat × Nat} (h : w.heap[b]? = some (.cells c T fz)) : ∀ (n i o : Nat) (acc : Array Value), o + i ≤ c.size → c.size < o + i + n →
    ∃ e, (loadCellsFrom ⟨b, o, none⟩ i n acc).run P w = .halt e w
  | 0, i, o, acc, h1, h2 => by omega
  | n + 1, i, o, acc, h1, h2 => by
    rw [loadCellsFrom, Sem.run_bind, add_none, run_load]
    by_cases hlt : o + i < c.size
    · have hc : w.cell? ⟨b, o + i, none⟩ = some c[o + i] := by rw [cell_rd, rd, h]; exact Array.getElem?_eq_getElem hlt
      rw [hc]
      exact run_loadCellsFrom_out h n (i + 1) o _ (by omega) (by omega)
    · have hc : w.cell? ⟨b, o + i, none⟩ = none := by rw [cell_rd, rd, h]; exact Array.getElem?_eq_none (by omega)
      rw [hc]
      simp only [World.farLoad, h]
      exact ⟨_, rfl⟩

/-- a cell is read -/
theorem opS_ld1 {T n : Nat} [hs : Sz P T n false] (b o : Nat) : opS P (S.ld T (pt b o)) K w = match rd w b o with | some v => K v w | none => False := by
  show opS P (do match ← shape b with | some _ => do pure (.value (← loadVar T ⟨b, o, none⟩)) | none => stuck "ld") K w = _
  unfold opS
  rw [Sem.run_bind]
  have hsh : (shape b).run P w = .ok (w.shape? b) w := rfl
  rw [hsh, Result.andThen_ok, shape_rd, rd]
  cases hb : w.heap[b]? with
  | none => rfl
  | some x =>
    cases x with
    | cells c e fz =>
      simp only []
      rw [Sem.run_bind, loadVar, Sem.run_bind, hs.agg w, Result.andThen_ok]
      simp only [Bool.false_eq_true, if_false]
      rw [run_load, cell_rd, rd, hb]
      simp only []
      cases hc : c[o]? with
      | some v => rfl
      | none => simp only [World.farLoad, hb]; rfl
    | _ => rfl

theorem opS_ldN {T n : Nat} [hs : Sz P T n true] (hn : 0 < n) (b o : Nat) : opS P (S.ld T (pt b o)) K w = match rdN w b o n with | some vs => K (.agg vs.toArray) w | none => False := by
  show opS P (do match ← shape b with | some _ => do pure (.value (← loadVar T ⟨b, o, none⟩)) | none => stuck "ld") K w = _
  unfold opS
  rw [Sem.run_bind]
  have hsh : (shape b).run P w = .ok (w.shape? b) w := rfl
  rw [hsh, Result.andThen_ok, shape_rd, rdN]
  cases hb : w.heap[b]? with
  | none => rfl
  | some x =>
    cases x with
    | cells c e fz =>
      simp only []
      rw [Sem.run_bind, loadVar, Sem.run_bind, hs.agg w, Result.andThen_ok]
      simp only [if_true]
      rw [Sem.run_bind, hs.size w, Result.andThen_ok, loadCells]
      by_cases hle : o + n ≤ c.size
      · rw [if_pos hle, Sem.run_bind, run_loadCellsFrom hb n 0 o #[] (by omega)]
        simp only [Result.andThen_ok, Sem.run_pure, uponR]
        simp
      · rw [if_neg hle, Sem.run_bind]
        by_cases ho : o ≤ c.size
        · obtain ⟨e, he⟩ := run_loadCellsFrom_out (P := P) hb n 0 o #[] (by omega) (by omega)
          rw [he]; rfl
        · obtain ⟨m, rfl⟩ : ∃ m, n = m + 1 := ⟨n - 1, by omega⟩
          rw [loadCellsFrom, Sem.run_bind, add_none, run_load]
          have hc : w.cell? ⟨b, o + 0, none⟩ = none := by rw [cell_rd, rd, hb]; exact Array.getElem?_eq_none (by omega)
          rw [hc]
          simp only [World.farLoad, hb]
          rfl
    | _ => rfl

/-! ### Writing -/

theorem allFree_ok {b o : Nat} {c : Array Value} {T : TypeId} {fz : Nat × Nat} (h : w.heap[b]? = some (.cells c T fz)) : ∀ n : Nat,
    (S.allFree b o n).run P w = if ((List.range n).all fun i => !(decide (fz.1 ≤ o + i) && decide (o + i < fz.2))) = true then .ok () w else .halt (.stuck "allFree") w
  | 0 => rfl
  | n + 1 => by
    rw [S.allFree, Sem.run_bind]
    have hs : (frozen ⟨b, o + n, none⟩).run P w = .ok (w.frozen? ⟨b, o + n, none⟩) w := rfl
    have hf : w.frozen? ⟨b, o + n, none⟩ = (decide (fz.1 ≤ o + n) && decide (o + n < fz.2)) := by simp only [World.frozen?, h]
    rw [hs, Result.andThen_ok, hf, List.range_succ, List.all_append]
    cases hc : (decide (fz.1 ≤ o + n) && decide (o + n < fz.2)) with
    | true => simp only [List.all_cons, List.all_nil, hc, Bool.not_true, Bool.false_and, Bool.and_false, if_true, Bool.false_eq_true, if_false]; rfl
    | false =>
      simp only [Bool.false_eq_true, if_false]
      rw [allFree_ok h n]
      simp only [List.all_cons, List.all_nil, hc, Bool.not_false, Bool.and_true]

theorem splice_nil (l : List Value) (o : Nat) : splice l o [] = l := by simp [splice]

theorem splice_cons (l : List Value) (o : Nat) (v : Value) (vs : List Value) (h : o < l.length) : splice (l.set o v) (o + 1) vs = splice l o (v :: vs) := by
  unfold splice
  have h1 : (l.set o v).take (o + 1) = l.take o ++ [v] := by
    rw [List.take_succ_eq_append_getElem (by simpa using h), List.take_set_of_le (Nat.le_refl _)]
    simp
  have h2 : (l.set o v).drop (o + 1 + vs.length) = l.drop (o + (v :: vs).length) := by
    rw [List.drop_set_of_lt (by omega)]
    congr 1
    simp; omega
  rw [h1, h2]
  simp

theorem upd_upd (w : World) (b : Nat) (x y : Obj) : upd (upd w b x) b y = upd w b y := by
  simp [upd]

theorem splice_length {l : List Value} {o : Nat} {vs : List Value} (h : o + vs.length ≤ l.length) : (splice l o vs).length = l.length := by
  simp [splice]; omega

theorem run_storeCells {b : Nat} {T : TypeId} {fz : Nat × Nat} : ∀ (vs : List Value) (w : World) (c : Array Value) (i o : Nat), w.heap[b]? = some (.cells c T fz) → vs.all S.oneCell = true → o + i + vs.length ≤ c.size →
    (∀ j, j < vs.length → (decide (fz.1 ≤ o + i + j) && decide (o + i + j < fz.2)) = false) →
    (storeCells ⟨b, o, none⟩ vs i).run P w = .ok () (upd w b (.cells (splice c.toList (o + i) vs).toArray T fz))
  | [], w, c, i, o, h, ho, hle, hfz => by
    have : upd w b (.cells (splice c.toList (o + i) []).toArray T fz) = w := by
      rw [splice_nil]
      simp only [Array.toArray_toList]
      unfold upd
      have hlt := lt_of_heap h
      have : w.heap.setIfInBounds b (.cells c T fz) = w.heap := by
        apply Array.ext'
        simp only [Array.toList_setIfInBounds]
        apply List.ext_getElem?
        intro j
        rw [List.getElem?_set]
        split
        · rename_i e
          subst e
          rw [if_pos (by simpa using hlt)]
          rw [← h]; simp
        · rfl
      rw [this]
    rw [this]; rfl
  | v :: vs, w, c, i, o, h, ho, hle, hfz => by
    simp only [List.all_cons, Bool.and_eq_true] at ho
    simp only [List.length_cons] at hle hfz
    have hlt : o + i < c.size := by omega
    have hc : w.cell? ⟨b, o + i, none⟩ = some c[o + i] := by rw [cell_rd, rd, h]; exact Array.getElem?_eq_getElem hlt
    have hf : w.frozen? ⟨b, o + i, none⟩ = false := by simp only [World.frozen?, h]; exact hfz 0 (by omega)
    have hst : (store ⟨b, o + i, none⟩ v).run P w = .ok () (upd w b (.cells (c.setIfInBounds (o + i) v) T fz)) := by
      have hw : w.setCell ⟨b, o + i, none⟩ v = upd w b (.cells (c.setIfInBounds (o + i) v) T fz) := by
        unfold World.setCell upd
        congr 1
        apply Array.ext'
        apply List.ext_getElem?
        intro j
        simp only [Array.toList_modify, Array.toList_setIfInBounds, List.getElem?_set, List.getElem?_modify]
        by_cases e : b = j
        · subst e
          have hj : w.heap.toList[b]? = some (.cells c T fz) := by rw [← h]; simp
          rw [hj]; simp [lt_of_heap h]
        · simp [e]
      cases v <;> first | (simp [S.oneCell] at ho; done) | (simp only [store, Sem.run, hc, hf, Bool.false_eq_true, if_false, hw])
    rw [storeCells, Sem.run_bind, add_none, hst, Result.andThen_ok]
    have h' : (upd w b (.cells (c.setIfInBounds (o + i) v) T fz)).heap[b]? = some (.cells (c.setIfInBounds (o + i) v) T fz) := heap_upd_same (by rw [h]; rfl)
    rw [run_storeCells vs _ _ (i + 1) o h' ho.2 (by simp; omega) (fun j hj => by have := hfz (j + 1) (by omega); simpa [Nat.add_assoc, Nat.add_comm 1 j] using this)]
    rw [upd_upd]
    simp only [Array.toList_setIfInBounds]
    rw [← Nat.add_assoc, splice_cons _ _ _ _ (by simpa using hlt)]

/-- some cells are written -/
theorem opS_st {T n : Nat} {ag : Bool} [hs : Sz P T n ag] (b o : Nat) (v : Value) (hv : v.cells.size = n) (h1 : v.cells.toList.all S.oneCell = true) :
    opS P (S.st T (pt b o) v) K w = if wrOk w b o n = true then K undef (wr w b o v.cells.toList) else False := by
  show opS P (do
    match ← shape b with
    | some (_, m) =>
      if v.cells.toList.all S.oneCell && decide (o + v.cells.size ≤ m) then do
        S.allFree b o v.cells.size
        storeVar T ⟨b, o, none⟩ v
        pure .skip
      else stuck "st"
    | none => stuck "st") K w = _
  unfold opS
  rw [Sem.run_bind]
  have hsh : (shape b).run P w = .ok (w.shape? b) w := rfl
  rw [hsh, Result.andThen_ok, shape_rd, wrOk]
  cases hb : w.heap[b]? with
  | none => simp [uponR]
  | some x =>
    cases x with
    | cells c e fz =>
      simp only [h1, Bool.true_and]
      by_cases hle : o + v.cells.size ≤ c.size
      · rw [if_pos (by simpa using hle), Sem.run_bind, allFree_ok hb]
        by_cases hfz : ((List.range v.cells.size).all fun i => !(decide (fz.1 ≤ o + i) && decide (o + i < fz.2))) = true
        · rw [if_pos hfz, Result.andThen_ok, Sem.run_bind, storeVar, Sem.run_bind, hs.size w, Result.andThen_ok, if_neg (by rw [hv]; simp)]
          show uponR P K (((storeCells ⟨b, o, none⟩ v.cells.toList).run P w).andThen fun a w' => Sem.run P (pure Next.skip) w') = _
          rw [run_storeCells v.cells.toList w c 0 o hb h1 (by simpa using hle) (fun j hj => by
            rw [List.all_eq_true] at hfz
            have := hfz j (by simpa using hj)
            rw [Bool.not_eq_true'] at this
            simpa only [Nat.add_zero] using this)]
          rw [← hv]
          rw [if_pos (by rw [hfz]; simpa using hle)]
          simp only [wr, hb]
          rfl
        · rw [if_neg hfz, ← hv]
          rw [if_neg (fun h => hfz (Bool.and_eq_true_iff.1 h).2)]
          rfl
      · rw [if_neg (by simpa using hle), ← hv]
        rw [if_neg (fun h => hle (of_decide_eq_true (Bool.and_eq_true_iff.1 h).1))]
        rfl
    | _ => simp [uponR, stuck]

/-! ### New blocks -/

theorem opS_box (T : TypeId) (v : Value) : opS P (S.box T v) K w = K (pt w.heap.size 0) (w.alloc (.cells v.cells T)) := id rfl

theorem opS_alloc {T : TypeId} {z : Value} [hz : ZV P T z] : opS P (S.alloc T) K w = K (pt w.heap.size 0) (w.alloc (.cells z.cells T)) := by
  unfold S.alloc
  rw [opS_bind]
  unfold Instr.alloc
  rw [Sem.run_bind, hz.zero w, Result.andThen_ok]
  rfl

/-! ### Values -/

theorem opS_nc (b o : Nat) : opS P (S.nc (pt b o)) K w = K (pt b o) w := id rfl
theorem opS_fa {T : TypeId} {fs : Array Field} [hT : StT P T fs] {f : Nat} {fd : Field} {n : Nat} {ag : Bool} (hf : fs[f]? = some fd) [hs : Sz P fd.type n ag] (hn : n ≠ 0) (b o : Nat) :
    opS P (S.fa T (pt b o) f) K w = K (pt b (o + fd.offset)) w := by
  unfold S.fa
  rw [opS_bind]
  unfold Instr.fieldAt
  rw [Sem.run_bind, run_underlying_of hT.und, Result.andThen_ok]
  simp only [hf]
  rw [Sem.run_bind]
  have : (Instr.sureAddr (pt b o)).run P w = .ok ⟨b, o, none⟩ w := rfl
  rw [this, Result.andThen_ok, Sem.run_bind, fieldPlace, Sem.run_bind, hs.size w, Result.andThen_ok, if_neg hn, Sem.run_pure, Result.andThen_ok, add_none]
  rfl

theorem opS_len (a : Option Addr) (n c : Nat) : opS P (S.len (.slice a n c)) K w = K (.int .i64 n) w := id rfl

theorem opS_ext (vs : Array Value) (i : Nat) : opS P (S.ext (.tuple vs) i) K w = match vs[i]? with | some v => K v w | none => False := by
  unfold S.ext
  rw [opS_bind]
  simp only [Instr.extract]
  cases vs[i]? <;> rfl

theorem opS_not (b : Bool) : opS P (S.un .not (.bool b)) K w = K (.bool (!b)) w := id rfl
theorem opS_mkf (fn : Fn) (x y : List Value) : opS P (S.mkf fn x y) K w = K (.func fn x.toArray y.toArray) w := id rfl
theorem opS_convI (k k' : IntKind) (n : Int) : opS P (S.convI k (.int k' n)) K w = K (.int k (k.wrap n)) w := id rfl

theorem opS_add (k : IntKind) (a b : Int) : opS P (S.binI .add (.int k a) (.int k b)) K w = K (.int k (k.wrap (a + b))) w := by simp [S.binI, binOp, Op.intArith, opS, uponR]
theorem opS_sub (k : IntKind) (a b : Int) : opS P (S.binI .sub (.int k a) (.int k b)) K w = K (.int k (k.wrap (a - b))) w := by simp [S.binI, binOp, Op.intArith, opS, uponR]
theorem opS_mul (k : IntKind) (a b : Int) : opS P (S.binI .mul (.int k a) (.int k b)) K w = K (.int k (k.wrap (a * b))) w := by simp [S.binI, binOp, Op.intArith, opS, uponR]
theorem opS_rem (k : IntKind) (a b : Int) (h : b ≠ 0) : opS P (S.binI .rem (.int k a) (.int k b)) K w = K (.int k (a.tmod b)) w := by simp [S.binI, binOp, Op.intDiv, opS, uponR, h]
theorem opS_eql (k : IntKind) (a b : Int) : opS P (S.binI .eql (.int k a) (.int k b)) K w = K (.bool (a == b)) w := by simp [S.binI, binOp, Op.intCmp, opS, uponR]
theorem opS_neq (k : IntKind) (a b : Int) : opS P (S.binI .neq (.int k a) (.int k b)) K w = K (.bool (a != b)) w := by simp [S.binI, binOp, Op.intCmp, opS, uponR]
theorem opS_lss (k : IntKind) (a b : Int) : opS P (S.binI .lss (.int k a) (.int k b)) K w = K (.bool (decide (a < b))) w := by simp [S.binI, binOp, Op.intCmp, opS, uponR]
theorem opS_leq (k : IntKind) (a b : Int) : opS P (S.binI .leq (.int k a) (.int k b)) K w = K (.bool (decide (a ≤ b))) w := by simp [S.binI, binOp, Op.intCmp, opS, uponR]
theorem opS_gtr (k : IntKind) (a b : Int) : opS P (S.binI .gtr (.int k a) (.int k b)) K w = K (.bool (decide (a > b))) w := by simp [S.binI, binOp, Op.intCmp, opS, uponR]
theorem opS_geq (k : IntKind) (a b : Int) : opS P (S.binI .geq (.int k a) (.int k b)) K w = K (.bool (decide (a ≥ b))) w := by simp [S.binI, binOp, Op.intCmp, opS, uponR]
theorem opS_beq (a b : Bool) : opS P (S.binB .eql (.bool a) (.bool b)) K w = K (.bool (a == b)) w := id rfl
theorem opS_bne (a b : Bool) : opS P (S.binB .neq (.bool a) (.bool b)) K w = K (.bool (!(a == b))) w := id rfl
theorem opS_isnil (b : Bool) : opS P (S.binN .eql (some b)) K w = K (.bool b) w := id rfl
theorem opS_notnil (b : Bool) : opS P (S.binN .neq (some b)) K w = K (.bool (!b)) w := id rfl
theorem isNilP_pt (b o : Nat) : S.isNilP (pt b o) = some false := id rfl
theorem isNilP_none : S.isNilP (.pointer none) = some true := id rfl
theorem opS_pick (c : Bool) (a b : Value) : opS P (S.pick (.bool c) a b) K w = K (if c then a else b) w := by cases c <;> rfl

/-! ### Calls -/

/-- a function with a body -/
class FnB (P : Program) (f : FuncId) : Prop where
  enter : ∀ args w, (callFunc f args).run P w = .ok (.enter f args) w

theorem opS_cl {f : FuncId} [hf : FnB P f] (args : List Value) : opS P (S.cl f args) K w = CallsR P f args.toArray K w := by
  unfold S.cl S.call opS
  have : (do
      let d ← Deferred.ofValue (.func (.func f) #[] #[]) args.toArray
      invoke d.target d.args : Sem Next) = callFunc f (#[] ++ args.toArray ++ #[]) := rfl
  rw [this, hf.enter]
  simp [uponR]

/-- a call of a closure -/
theorem opS_call {f : FuncId} [hf : FnB P f] (cap : Array Value) (args : List Value) : opS P (S.call (.func (.func f) #[] cap) args) K w = CallsR P f (args.toArray ++ cap) K w := by
  unfold S.call opS
  have : (do
      let d ← Deferred.ofValue (.func (.func f) #[] cap) args.toArray
      invoke d.target d.args : Sem Next) = callFunc f (#[] ++ args.toArray ++ cap) := rfl
  rw [this, hf.enter]
  simp [uponR]

theorem enterS_call {f : FuncId} [hf : FnB P f] (cap : Array Value) (args : List Value) : enterS P (S.call (.func (.func f) #[] cap) args) K w = CallsR P f (args.toArray ++ cap) K w := by
  unfold S.call enterS
  have : (do
      let d ← Deferred.ofValue (.func (.func f) #[] cap) args.toArray
      invoke d.target d.args : Sem Next) = callFunc f (#[] ++ args.toArray ++ cap) := rfl
  rw [this, hf.enter]
  simp

/-! ### Places in slices and arrays -/

theorem NV.boundsPanic {α : Type} (k : IntKind) (x y : Int) (c : BoundsCode) : NV P (Go.boundsPanic k x y c : Sem α) := by
  unfold Go.boundsPanic
  simp only []
  split <;> exact NV.right fun _ => NV.runtimePanic _

theorem nv_match {s : Sem Value} (h : NV P s) : (match s.run P w with | .ok v w' => K v w' | .halt _ _ => False) = False := by
  cases hr : s.run P w with
  | halt x w' => rfl
  | ok v w' => exact absurd hr (h _ _ _)

theorem opS_iaS {T E n : Nat} {ag : Bool} [hT : SlT P T E] [hs : Sz P E n ag] (b o len cap : Nat) (k : IntKind) (i : Int) :
    opS P (S.ia T (.slice (some ⟨b, o, none⟩) len cap) (.int k i)) K w = if 0 ≤ i ∧ i < len then K (pt b (o + i.toNat * n)) w else False := by
  unfold S.ia
  rw [opS_bind]
  unfold Instr.indexAt
  simp only [asIntOf, pure_bind]
  rw [Sem.run_bind, run_underlying_of hT.und, Result.andThen_ok]
  simp only []
  rw [Sem.run_bind, run_underlying_of hT.und, Result.andThen_ok]
  try simp only []
  by_cases h : 0 ≤ i ∧ i < len
  · rw [if_pos h, if_pos h, Sem.run_bind, hs.size w, Result.andThen_ok, add_none]; rfl
  · rw [if_neg h, if_neg h, if_neg (by simp)]
    exact nv_match (NV.boundsPanic _ _ _ _)

theorem opS_iaA {T E n m : Nat} {ag : Bool} [hT : ArT P T m E] [hs : Sz P E n ag] (b o : Nat) (k : IntKind) (i : Int) (h : 0 ≤ i ∧ i < m) :
    opS P (S.ia T (pt b o) (.int k i)) K w = K (pt b (o + i.toNat * n)) w := by
  unfold S.ia
  rw [opS_bind]
  unfold Instr.indexAt
  simp only [asIntOf, pure_bind]
  rw [Sem.run_bind, run_underlying_of hT.und, Result.andThen_ok]
  simp only []
  have : (Instr.sureAddr (pt b o)).run P w = .ok ⟨b, o, none⟩ w := rfl
  rw [Sem.run_bind, this, Result.andThen_ok]
  try simp only []
  rw [Sem.run_bind, run_underlying_of hT.und, Result.andThen_ok]
  try simp only []
  rw [if_pos h, Sem.run_bind, hs.size w, Result.andThen_ok, add_none]; rfl

/-! ### Structs and arrays that are built -/

/-- the fields' zero cells, and what is given of them, in order -/
def mergeF : Nat → List (List Value) → List (Nat × Value) → Option (List Value)
  | _, [], [] => some []
  | i, z :: zs, (j, v) :: ps =>
    if i = j then (if v.cells.toList.length = z.length then (mergeF (i + 1) zs ps).map (v.cells.toList ++ ·) else none)
    else (mergeF (i + 1) zs ((j, v) :: ps)).map (z ++ ·)
  | i, z :: zs, [] => (mergeF (i + 1) zs []).map (z ++ ·)
  | _, [], _ :: _ => none

def offs : Nat → List (List Value) → List (Nat × Nat)
  | _, [] => []
  | o, z :: zs => (o, z.length) :: offs (o + z.length) zs

class BT (P : Program) (T : TypeId) (zs : outParam (List (List Value))) : Prop where
  run : ∀ ps l w, mergeF 0 zs ps = some l → (Instr.build T ps.toArray).run P w = .ok (.agg l.toArray) w

theorem foldl_splice (vs : List Value) : ∀ (j : Nat) (cs : Array Value) (o : Nat), o + j + vs.length ≤ cs.size →
    ((vs.zipIdx j).foldl (fun (cs : Array Value) x => cs.setIfInBounds (o + x.2) x.1) cs).toList = splice cs.toList (o + j) vs := by
  induction vs with
  | nil => intro j cs o h; simp [splice_nil]
  | cons v vs ih =>
    intro j cs o h
    simp only [List.length_cons] at h
    simp only [List.zipIdx_cons, List.foldl_cons]
    rw [ih (j + 1) _ o (by simp; omega)]
    rw [Array.toList_setIfInBounds, ← Nat.add_assoc, splice_cons _ _ _ _ (by simp; omega)]

theorem fill_cons {place : Nat → Option (Nat × Nat)} {cells : Array Value} {i : Nat} {v : Value} {rest : List (Nat × Value)} {off size : Nat} (hp : place i = some (off, size)) (hs : v.cells.size = size) (hle : off + size ≤ cells.size) :
    Instr.fill place cells ((i, v) :: rest) = Instr.fill place (splice cells.toList off v.cells.toList).toArray rest := by
  rw [Instr.fill, hp]
  simp only []
  rw [if_neg (by rw [hs]; simp; omega)]
  congr 1
  apply Array.ext'
  have e : v.cells.zipIdx = (v.cells.toList.zipIdx).toArray := by apply Array.ext'; simp
  rw [e]
  have := foldl_splice v.cells.toList 0 cells off (by simpa [hs] using hle)
  simpa using this

theorem splice_mid (pre z rest vs : List Value) (h : vs.length = z.length) : splice (pre ++ (z ++ rest)) pre.length vs = pre ++ (vs ++ rest) := by
  unfold splice
  rw [h, List.take_left, List.drop_append, List.drop_eq_nil_of_le (by omega)]
  simp

theorem fill_merge {place : Nat → Option (Nat × Nat)} : ∀ (zs : List (List Value)) (i : Nat) (pre : List Value) (ps : List (Nat × Value)) (l : List Value),
    (∀ k, k < zs.length → place (i + k) = (offs pre.length zs)[k]?) → mergeF i zs ps = some l → Instr.fill place (pre ++ zs.flatten).toArray ps = some (pre ++ l).toArray
  | [], i, pre, [], l, hp, h => by cases h; simp [Instr.fill]
  | [], i, pre, p :: ps, l, hp, h => by cases h
  | z :: zs, i, pre, [], l, hp, h => by
    simp only [mergeF, Option.map_eq_some_iff] at h
    obtain ⟨l', hl, rfl⟩ := h
    have := fill_merge (place := place) zs (i + 1) (pre ++ z) [] l' (fun k hk => by
      have := hp (k + 1) (by simp; omega)
      simpa [offs, Nat.add_assoc, Nat.add_comm 1 k] using this) hl
    simpa using this
  | z :: zs, i, pre, (j, v) :: ps, l, hp, h => by
    have hp' : ∀ k, k < zs.length → place (i + 1 + k) = (offs (pre.length + z.length) zs)[k]? := fun k hk => by
      have := hp (k + 1) (by simp; omega)
      simpa [offs, Nat.add_assoc, Nat.add_comm 1 k] using this
    unfold mergeF at h
    split at h
    · rename_i hij
      subst hij
      split at h
      · rename_i hlen
        rw [Option.map_eq_some_iff] at h
        obtain ⟨l', hl, rfl⟩ := h
        have h0 := hp 0 (by simp)
        simp only [offs, Nat.add_zero, List.getElem?_cons_zero] at h0
        rw [fill_cons h0 (by simpa using hlen) (by simp)]
        have e : splice (pre ++ (z :: zs).flatten).toArray.toList pre.length v.cells.toList = (pre ++ v.cells.toList) ++ zs.flatten := by
          simp only [List.flatten_cons]
          rw [splice_mid _ _ _ _ hlen]; simp
        rw [e]
        have := fill_merge (place := place) zs (i + 1) (pre ++ v.cells.toList) ps l' (fun k hk => by
          rw [hp' k hk, List.length_append, hlen]) hl
        rw [this]; simp
      · cases h
    · rw [Option.map_eq_some_iff] at h
      obtain ⟨l', hl, rfl⟩ := h
      have := fill_merge (place := place) zs (i + 1) (pre ++ z) ((j, v) :: ps) l' (fun k hk => by
        rw [hp' k hk, List.length_append]) hl
      simpa using this

theorem BT.ofStruct {T : TypeId} {fs : Array Field} {zs : List (List Value)} {z : Value} (hu : P.underlying T = some (.struct fs)) (hz : ∀ w, (zeroValue T).run P w = .ok z w) (hzs : z.cells = zs.flatten.toArray)
    (ho : ∀ w, (fs.mapM (fun f => do pure (f.offset, ← sizeOf f.type) : Field → Sem (Nat × Nat))).run P w = .ok (offs 0 zs).toArray w) : BT P T zs := by
  refine ⟨fun ps l w h => ?_⟩
  unfold Instr.build
  rw [Sem.run_bind, hz w, Result.andThen_ok, Sem.run_bind, run_underlying_of hu, Result.andThen_ok]
  simp only []
  rw [Sem.run_bind, ho w, Result.andThen_ok]
  have := fill_merge (place := ((offs 0 zs).toArray[·]?)) zs 0 [] ps l (fun k hk => by simp) h
  simp only [List.nil_append] at this
  rw [hzs, this]
  rfl

theorem offs_rep {z : List Value} : ∀ (n o k : Nat), k < n → (offs o (List.replicate n z))[k]? = some (o + k * z.length, z.length)
  | 0, _, _, h => by omega
  | n + 1, o, 0, _ => by simp [List.replicate_succ, offs]
  | n + 1, o, k + 1, h => by
    simp only [List.replicate_succ, offs, List.getElem?_cons_succ]
    rw [offs_rep n (o + z.length) k (by omega), Nat.add_assoc, Nat.add_mul, Nat.one_mul, Nat.add_comm z.length]

theorem BT.ofArray {T E : TypeId} {n sz : Nat} {ag : Bool} {ze : List Value} {z : Value} (hu : P.underlying T = some (.array n E)) (hz : ∀ w, (zeroValue T).run P w = .ok z w) (hzs : z.cells = (List.replicate n ze).flatten.toArray)
    (hs : Sz P E sz ag) (hsz : sz = ze.length) : BT P T (List.replicate n ze) := by
  refine ⟨fun ps l w h => ?_⟩
  unfold Instr.build
  rw [Sem.run_bind, hz w, Result.andThen_ok, Sem.run_bind, run_underlying_of hu, Result.andThen_ok]
  simp only []
  rw [Sem.run_bind, hs.size w, Result.andThen_ok]
  have := fill_merge (place := fun i => some (i * sz, sz)) (List.replicate n ze) 0 [] ps l (fun k hk => by
    have h2 := offs_rep (z := ze) n 0 k (by simpa using hk)
    simp only [List.length_nil] at h2 ⊢
    rw [h2, hsz]; simp) h
  simp only [List.nil_append] at this
  rw [hzs, this]
  rfl

theorem opS_build {T : TypeId} {zs : List (List Value)} [hb : BT P T zs] (ps : List (Nat × Value)) (h : (mergeF 0 zs ps).isSome = true) :
    opS P (S.build T ps) K w = K (.agg ((mergeF 0 zs ps).getD []).toArray) w := by
  obtain ⟨l, hl⟩ := Option.isSome_iff_exists.1 h
  unfold S.build
  rw [opS_bind, hb.run ps l w hl, hl]
  rfl

/-! ### Slices that are made, and appended to -/

/-- copies of a zero value -/
def zeros (n : Nat) (z : List Value) : List Value := (List.replicate n z).flatten

theorem zeros_length (n : Nat) (z : List Value) : (zeros n z).length = n * z.length := by simp [zeros]

theorem wrap_i64 {x : Int} (h : -9223372036854775808 ≤ x ∧ x < 9223372036854775808) : IntKind.i64.wrap x = x := by
  unfold IntKind.wrap
  have e1 : (2 : Int) ^ IntKind.i64.bits = 18446744073709551616 := rfl
  have e2 : (2 : Int) ^ (IntKind.i64.bits - 1) = 9223372036854775808 := rfl
  have e3 : IntKind.i64.signed = true := rfl
  simp only [e1, e2, e3, Bool.true_and, decide_eq_true_eq]
  split <;> omega

theorem range_zeros (n : Nat) (z : Array Value) : ((Array.range (n * z.size)).map (fun i => z[i % z.size]!)) = (zeros n z.toList).toArray := by
  apply Array.ext'
  simp only [Array.toList_map, Array.toList_range, zeros]
  induction n with
  | zero => simp
  | succ n ih =>
    rw [Nat.succ_mul, List.range_add, List.map_append, ih, List.replicate_succ', List.flatten_append, List.flatten_singleton]
    congr 1
    apply List.ext_getElem?
    intro i
    simp only [List.getElem?_map, List.map_map]
    by_cases h : i < z.size
    · simp [h, Nat.add_mod, Nat.mod_eq_of_lt h]
    · simp [h]

theorem opS_mks {T E n by_ : Nat} {ag : Bool} {z : Value} [hT : SlT P T E] [hs : Sz P E n ag] [hb : By P E by_] [hz : ZV P E z] (k k' : IntKind) (len : Int) (h0 : 0 ≤ len) (h1 : by_ * len ≤ 2 ^ 48) (h2 : len < 2 ^ 62)
    (hn : z.cells.size = n) (hn0 : 0 < n) : opS P (S.mks T (.int k len) (.int k' len)) K w = K (.slice (some ⟨w.heap.size, 0, none⟩) len.toNat len.toNat) (w.alloc (.cells (zeros len.toNat z.cells.toList).toArray E)) := by
  obtain ⟨i, hi, hib⟩ := hb.bytes
  unfold S.mks
  rw [opS_bind]
  unfold Instr.makeSlice
  rw [Sem.run_bind, run_underlying_of hT.und, Result.andThen_ok]
  have hw : IntKind.i64.wrap len = len := wrap_i64 (by omega)
  simp only [asInt, asIntOf, pure_bind, hw]
  rw [Sem.run_bind, hi w, Result.andThen_ok]
  have ht : (decide (len < 0) || decide ((i.bytes : Int) * len > 2 ^ 48)) = false := by
    rw [hib]; simp; omega
  have hc : ((decide (len < 0) || decide ((i.bytes : Int) * len > 2 ^ 48)) || decide (len < 0) || decide (len > len)) = false := by
    rw [ht]; simp; omega
  simp only [hc, Bool.false_eq_true, if_false]
  have har : (askRoom (len.toNat * i.bytes)).run P w = .ok () w := by
    unfold askRoom; split <;> rfl
  rw [Sem.run_bind, har, Result.andThen_ok, Sem.run_bind, hs.size w, Result.andThen_ok]
  have hrz := range_zeros len.toNat z.cells
  rw [hn] at hrz
  by_cases hz0 : len.toNat * n = 0
  · rw [if_pos hz0, Sem.run_bind]
    have hl0 : len.toNat = 0 := by
      rcases Nat.mul_eq_zero.1 hz0 with h | h
      · exact h
      · omega
    have e0 : Array.range 0 = #[] := by simp
    simp only [hl0, Nat.zero_mul, e0, Array.map_empty]
    rfl
  · rw [if_neg hz0, Sem.run_bind, hz.zero w, Result.andThen_ok, Sem.run_bind, hn, hrz]
    rfl

theorem opS_buildS0 {T E n : Nat} {ag : Bool} [hT : SlT P T E] [hs : Sz P E n ag] : opS P (S.buildS T 0 []) K w = K (.slice (some ⟨w.heap.size, 0, none⟩) 0 0) (w.alloc (.cells #[] E)) := by
  unfold S.buildS
  rw [opS_bind]
  unfold Instr.buildSlice
  rw [Sem.run_bind, run_underlying_of hT.und, Result.andThen_ok]
  simp only []
  rw [Sem.run_bind, hs.size w, Result.andThen_ok]
  have e0 : Array.range 0 = #[] := by simp
  simp only [Nat.zero_mul, e0, Array.map_empty]
  rw [if_neg (by omega), if_pos trivial]
  simp only [pure_bind, Instr.fill]
  rfl

theorem opS_buildS1 {T E n : Nat} {ag : Bool} {z : Value} [hT : SlT P T E] [hs : Sz P E n ag] [hz : ZV P E z] (v : Value) (hv : v.cells.size = n) (hzn : z.cells.size = n) (hn : 0 < n) (hn2 : n ≤ 2 ^ 24) :
    opS P (S.buildS T 1 [(0, v)]) K w = K (.slice (some ⟨w.heap.size, 0, none⟩) 1 1) (w.alloc (.cells v.cells E)) := by
  unfold S.buildS
  rw [opS_bind]
  unfold Instr.buildSlice
  rw [Sem.run_bind, run_underlying_of hT.und, Result.andThen_ok]
  simp only []
  rw [Sem.run_bind, hs.size w, Result.andThen_ok]
  simp only [Nat.one_mul]
  rw [if_neg (by omega), if_neg (by omega), Sem.run_bind, hz.zero w, Result.andThen_ok]
  have hr := range_zeros 1 z.cells
  rw [Nat.one_mul, hzn] at hr
  simp only [pure_bind, hzn, hr]
  rw [fill_cons (off := 0) (size := n) (by simp) hv (by simp [zeros]; omega)]
  have e : splice (zeros 1 z.cells.toList).toArray.toList 0 v.cells.toList = v.cells.toList := by
    simp only [zeros, splice, List.replicate_one, List.flatten_singleton, List.take_zero, List.nil_append, Nat.zero_add]
    rw [List.drop_eq_nil_of_le (by simp [hv, hzn]), List.append_nil]
  rw [e]
  simp only [Instr.fill, Array.toArray_toList]
  rfl

end Go.Gx
end

section
/- Slices: what they hold, whose they are; appending. -/
namespace Go.Gx
open Go
variable {P : Program} {K : Value → World → Prop} {w : World}

/-- blocks outside 'fp' that lay in w lie in w' as they lay; nothing is frozen anew; nothing is told -/
structure Fr (fp : Nat → Prop) (w w' : World) : Prop where
  size : w.heap.size ≤ w'.heap.size
  old : ∀ b, b < w.heap.size → ¬ fp b → w'.heap[b]? = w.heap[b]?
  fz : ∀ a, a.block < w.heap.size → w'.frozen? a = w.frozen? a
  os : w'.os = w.os
  tape : w'.tape = w.tape
  out : w'.output = w.output

theorem Fr.refl (fp : Nat → Prop) (w : World) : Fr fp w w := ⟨Nat.le_refl _, fun _ _ _ => rfl, fun _ _ => rfl, rfl, rfl, rfl⟩
/-- blocks that are new may be touched -/
theorem Fr.trans_new {fp fp' : Nat → Prop} {w w' w'' : World} (h : Fr fp w w') (h' : Fr fp' w' w'') (hs : ∀ b, b < w.heap.size → fp' b → fp b) : Fr fp w w'' :=
  ⟨Nat.le_trans h.size h'.size, fun b hb hn => (h'.old b (Nat.lt_of_lt_of_le hb h.size) (fun hf => hn (hs b hb hf))).trans (h.old b hb hn),
    fun a ha => (h'.fz a (Nat.lt_of_lt_of_le ha h.size)).trans (h.fz a ha), h'.os.trans h.os, h'.tape.trans h.tape, h'.out.trans h.out⟩
theorem Fr.trans {fp : Nat → Prop} {w w' w'' : World} (h : Fr fp w w') (h' : Fr fp w' w'') : Fr fp w w'' := h.trans_new h' fun _ _ h => h
theorem Fr.mono {fp fp' : Nat → Prop} {w w' : World} (h : Fr fp w w') (hs : ∀ b, b < w.heap.size → fp b → fp' b) : Fr fp' w w' :=
  ⟨h.size, fun b hb hn => h.old b hb fun hf => hn (hs b hb hf), h.fz, h.os, h.tape, h.out⟩
theorem frozen_eq (w : World) (a : Addr) : w.frozen? a = match w.heap[a.block]? with | some (.cells _ _ fz) => (decide (fz.1 ≤ a.off) && decide (a.off < fz.2)) | _ => false := by
  unfold World.frozen?
  cases w.heap[a.block]? with
  | none => rfl
  | some x => cases x <;> rfl
/-- an object of which nothing is frozen -/
def loose : Obj → Bool
  | .cells _ _ (lo, hi) => decide (hi ≤ lo)
  | _ => true
theorem Fr.alloc {fp : Nat → Prop} (w : World) (o : Obj) (ho : loose o = true) : Fr fp w (w.alloc o) := by
  refine ⟨by rw [size_alloc]; omega, fun b hb _ => heap_alloc_lt hb, fun a ha => ?_, rfl, rfl, rfl⟩
  rw [frozen_eq, frozen_eq, heap_alloc_lt ha]
theorem Fr.drew {fp : Nat → Prop} (w : World) : Fr fp w w.drew := ⟨Nat.le_refl _, fun _ _ _ => rfl, fun _ _ => rfl, rfl, rfl, rfl⟩
theorem Fr.upd {fp : Nat → Prop} {w : World} {b : Nat} {c : Array Value} {T : TypeId} {fz : Nat × Nat} (hb : w.heap[b]? = some (.cells c T fz)) (c' : Array Value) (T' : TypeId) (h : fp b) : Fr fp w (upd w b (.cells c' T' fz)) := by
  refine ⟨by rw [size_upd]; omega, fun b' _ hn => heap_upd_ne fun e => hn (e ▸ h), fun a _ => ?_, rfl, rfl, rfl⟩
  rw [frozen_eq, frozen_eq]
  by_cases e : b = a.block
  · rw [← e, hb, heap_upd_same (by rw [hb]; rfl)]
  · rw [heap_upd_ne e]
theorem Fr.wr {fp : Nat → Prop} (w : World) (b o : Nat) (vs : List Value) (h : fp b) : Fr fp w (wr w b o vs) := by
  unfold Gx.wr
  split
  · rename_i hb; exact Fr.upd hb _ _ h
  · exact Fr.refl _ _
theorem Fr.heap {fp : Nat → Prop} {w w' : World} (h : Fr fp w w') {b : Nat} {o : Obj} (hb : w.heap[b]? = some o) (hn : ¬ fp b) : w'.heap[b]? = some o :=
  (h.old b (lt_of_heap hb) hn).trans hb

def none_ : Nat → Prop := fun _ => False

/-- the block of a slice -/
def blkS : Value → Option Nat
  | .slice (some a) _ _ => some a.block
  | _ => none

/-- a slice of n elements of type E, of sz cells each, whose cells are l, and that may be written and appended to -/
def Own (E sz : Nat) (w : World) (v : Value) (n : Nat) (l : List Value) : Prop :=
  (v = .slice none 0 0 ∧ n = 0 ∧ l = []) ∨
  ∃ b o c cs, v = .slice (some ⟨b, o, none⟩) n c ∧ w.heap[b]? = some (.cells cs E (0, 0)) ∧ n ≤ c ∧ o + c * sz ≤ cs.size ∧ l = (cs.toList.drop o).take (n * sz)

/-- a slice that can be read -/
def Rd (sz : Nat) (w : World) (v : Value) (n : Nat) (l : List Value) : Prop :=
  ((∃ a c, v = .slice a 0 c) ∧ n = 0 ∧ l = []) ∨
  ∃ b o c cs T fz, v = .slice (some ⟨b, o, none⟩) n c ∧ w.heap[b]? = some (.cells cs T fz) ∧ n ≤ c ∧ o + n * sz ≤ cs.size ∧ l = (cs.toList.drop o).take (n * sz)

theorem Own.rd {E sz : Nat} {v : Value} {n : Nat} {l : List Value} (h : Own E sz w v n l) : Rd sz w v n l := by
  rcases h with ⟨rfl, h1, h2⟩ | ⟨b, o, c, cs, rfl, hb, hc, ho, rfl⟩
  · exact .inl ⟨⟨_, _, rfl⟩, h1, h2⟩
  · refine .inr ⟨b, o, c, cs, E, (0, 0), rfl, hb, hc, ?_, rfl⟩
    have := Nat.mul_le_mul_right sz hc
    omega

theorem Rd.len {sz : Nat} {v : Value} {n : Nat} {l : List Value} (h : Rd sz w v n l) : l.length = n * sz := by
  rcases h with ⟨⟨a0, c0, rfl⟩, rfl, rfl⟩ | ⟨b, o, c, cs, T, fz, rfl, hb, hc, ho, rfl⟩
  · simp
  · rw [List.length_take, List.length_drop, Array.length_toList]; omega

theorem Rd.form {sz : Nat} {v : Value} {n : Nat} {l : List Value} (h : Rd sz w v n l) : ∃ a c, v = .slice a n c := by
  rcases h with ⟨⟨a0, c0, rfl⟩, rfl, rfl⟩ | ⟨b, o, c, cs, T, fz, rfl, _⟩
  · exact ⟨_, _, rfl⟩
  · exact ⟨_, _, rfl⟩

theorem Rd.frame {sz : Nat} {w w' : World} {v : Value} {n : Nat} {l : List Value} (h : Rd sz w v n l) (hf : ∀ b, blkS v = some b → w'.heap[b]? = w.heap[b]?) : Rd sz w' v n l := by
  rcases h with h | ⟨b, o, c, cs, T, fz, rfl, hb, hc, ho, rfl⟩
  · exact .inl h
  · exact .inr ⟨b, o, c, cs, T, fz, rfl, (hf b rfl).trans hb, hc, ho, rfl⟩

theorem Own.frame {E sz : Nat} {w w' : World} {v : Value} {n : Nat} {l : List Value} (h : Own E sz w v n l) (hf : ∀ b, blkS v = some b → w'.heap[b]? = w.heap[b]?) : Own E sz w' v n l := by
  rcases h with h | ⟨b, o, c, cs, rfl, hb, hc, ho, rfl⟩
  · exact .inl h
  · exact .inr ⟨b, o, c, cs, rfl, (hf b rfl).trans hb, hc, ho, rfl⟩

theorem Own.lt {E sz : Nat} {w : World} {v : Value} {n : Nat} {l : List Value} (h : Own E sz w v n l) {b : Nat} (hb : blkS v = some b) : b < w.heap.size := by
  rcases h with ⟨rfl, _⟩ | ⟨b', o, c, cs, rfl, hb', _⟩
  · cases hb
  · cases hb; exact lt_of_heap hb'

/-! ### append -/

theorem run_choose {q : Question} (h : q.forced = false) : (choose q).run P w = .ok (q.cut (w.tape w.drawn q)) w.drew := by
  unfold choose
  simp only [Sem.run, h, Bool.false_eq_true, if_false]
  rfl

theorem run_firstCells {sz : Nat} {v : Value} {n : Nat} {l : List Value} (h : Rd sz w v n l) : (Builtin.firstCells sz n v).run P w = .ok l.toArray w := by
  rcases h with ⟨⟨a0, c0, rfl⟩, rfl, rfl⟩ | ⟨b, o, c, cs, T, fz, rfl, hb, hc, ho, rfl⟩
  · cases a0 with
    | none => rfl
    | some a0 =>
      show (loadCells a0 (0 * sz)).run P w = _
      rw [Nat.zero_mul]; rfl
  · show (loadCellsFrom ⟨b, o, none⟩ 0 (n * sz) #[]).run P w = _
    rw [run_loadCellsFrom hb _ 0 o #[] (by omega)]
    simp

theorem growBy_le (n : Nat) : ∀ (r c : Nat), c ≤ n + (n + 768) / 4 → Builtin.growBy n r c ≤ n + (n + 768) / 4
  | 0, c, h => h
  | r + 1, c, h => by
    unfold Builtin.growBy
    split
    · exact h
    · exact growBy_le n r _ (by omega)

theorem nextcap_le {n c : Nat} (h : c < n) : Builtin.nextslicecap n c ≤ 2 * n + 192 := by
  unfold Builtin.nextslicecap
  split
  · omega
  · split
    · omega
    · have := growBy_le n 4 c (by omega)
      omega

theorem run_zeroCells_ok (z : Array Value) (n : Nat) : Builtin.zeroCells z n = (zeros n z.toList).toArray := range_zeros n z

theorem splice_window {l k : List Value} {o a : Nat} (h : o + a ≤ l.length) : ((splice l (o + a) k).drop o).take (a + k.length) = (l.drop o).take a ++ k := by
  unfold splice
  have hlt : (l.take (o + a)).length = o + a := by rw [List.length_take]; omega
  have e1 : (l.take (o + a)).drop o = (l.drop o).take a := by rw [List.drop_take]; congr 1; omega
  rw [List.append_assoc, List.drop_append_of_le_length (by omega), e1]
  have e2 : ((l.drop o).take a).length = a := by rw [List.length_take, List.length_drop]; omega
  rw [← List.append_assoc, List.take_append_of_le_length (by rw [List.length_append, e2]; exact Nat.le_refl _), List.take_of_length_le (by rw [List.length_append, e2]; exact Nat.le_refl _)]

/-- what one append does to the world: the block that was written, or a new one -/
theorem opS_append {T T2 E sz by_ : Nat} {ag : Bool} {z : Value} [hT : SlT P T E] [hT2 : SlT P T2 E] [hs : Sz P E sz ag] [hb : By P E by_] [hz : ZV P E z] {ty : TypeId} {v u : Value} {n m : Nat} {l k : List Value} (hzn : z.cells.size = sz) (hby : 0 < by_)
    (hv : Own E sz w v n l) (hu : Rd sz w u m k) (hk : k.all S.oneCell = true) (hroom : (2 * (n + m) + 192) * by_ ≤ 2 ^ 48)
    (h : ∀ v' w', Own E sz w' v' (n + m) (l ++ k) → (blkS v' = blkS v ∨ ∃ b, blkS v' = some b ∧ w.heap.size ≤ b) → Fr (fun b => blkS v = some b) w w' → (v' = .slice none 0 0 ↔ v = .slice none 0 0 ∧ m = 0) → K v' w') :
    opS P (S.bi .append #[T, T2] ty [v, u]) K w := by
  obtain ⟨inf, hi, hib⟩ := hb.bytes
  show opS P (do pure (Next.value (← Builtin.append_ #[T, T2] ty #[v, u]))) K w
  rw [opS_bind]
  obtain ⟨a, c, rfl⟩ := hv.rd.form
  obtain ⟨ua, uc, rfl⟩ := hu.form
  have hll := hv.rd.len
  have hkl := hu.len
  unfold Builtin.append_
  simp only [List.getElem?_toArray, List.getElem?_cons_zero, List.getElem?_cons_succ]
  rw [Sem.run_bind, run_underlying_of hT.und, Result.andThen_ok]
  simp only []
  rw [Sem.run_bind, hs.size w, Result.andThen_ok, Sem.run_bind, run_underlying_of hT2.und, Result.andThen_ok]
  simp only [pure_bind, Bool.false_eq_true, if_false, Bool.not_false, if_true]
  have hlen : (Builtin.lenOf (.slice ua m uc)).run P w = .ok m w := rfl
  rw [Sem.run_bind, hlen, Result.andThen_ok]
  by_cases hfit : n + m ≤ c
  · -- there is room
    rw [if_pos hfit, Sem.run_bind, run_firstCells hu, Result.andThen_ok]
    rcases hv with ⟨hv, rfl, rfl⟩ | ⟨b, o, c', cs, hv, hbb, hc, ho, rfl⟩
    · simp only [Value.slice.injEq] at hv
      obtain ⟨rfl, _, rfl⟩ := hv
      obtain rfl : m = 0 := by omega
      have hk0 : k = [] := List.eq_nil_of_length_eq_zero (by omega)
      subst hk0
      simp only [Sem.run_pure]
      exact h _ w (.inl ⟨rfl, rfl, rfl⟩) (.inl rfl) (Fr.refl _ _) ⟨fun _ => ⟨rfl, rfl⟩, fun _ => rfl⟩
    · simp only [Value.slice.injEq] at hv
      obtain ⟨rfl, _, rfl⟩ := hv
      have hmul : (n + m) * sz ≤ c * sz := Nat.mul_le_mul_right sz hfit
      rw [Nat.add_mul] at hmul
      have hst := run_storeCells (P := P) k w cs 0 (o + n * sz) hbb hk (by omega) (fun j hj => by simp)
      simp only [add_none]
      rw [Sem.run_bind, hst, Result.andThen_ok]
      simp only [Sem.run_pure, Nat.add_zero]
      have hsame : (upd w b (.cells (splice cs.toList (o + n * sz) k).toArray E (0, 0))).heap[b]? = some (.cells (splice cs.toList (o + n * sz) k).toArray E (0, 0)) := heap_upd_same (by rw [hbb]; rfl)
      refine h _ _ (.inr ⟨b, o, c, _, rfl, hsame, hfit, ?_, ?_⟩) (.inl rfl) (Fr.upd hbb _ _ rfl) ⟨fun e => (by cases e), fun e => (by cases e.1)⟩
      · have hsl : (splice cs.toList (o + n * sz) k).length = cs.toList.length := splice_length (by rw [hkl, Array.length_toList]; omega)
        rw [List.size_toArray, hsl]
        simpa using ho
      · show _ = List.take _ (List.drop o (splice cs.toList (o + n * sz) k))
        rw [Nat.add_mul, ← hkl, splice_window (by rw [Array.length_toList]; omega)]
  · -- a new block
    rw [if_neg hfit]
    have hcap := nextcap_le (n := n + m) (c := c) (by omega)
    have hnm : (2 * (n + m) + 192) ≤ 2 ^ 48 := Nat.le_trans (Nat.le_mul_of_pos_right _ hby) hroom
    have hg : ¬ (((n + m : Nat) : Int) > IntKind.i64.max ∧ (inf.bytes = 0)) := by
      rw [hib]; omega
    have hg2 : ¬ (Builtin.nextslicecap (n + m) c * inf.bytes > 2 ^ 48) := by
      rw [hib]
      have := Nat.mul_le_mul_right by_ hcap
      omega
    have har : ∀ x w', (askRoom x).run P w' = .ok () w' := by
      intro x w'; unfold askRoom; split <;> rfl
    have hcells : ∀ w', (typeInfo E).run P w' = .ok inf w' := hi
    rw [Sem.run_bind, hi w, Result.andThen_ok, if_neg (by simpa using hg), Sem.run_bind, hi w, Result.andThen_ok, if_neg hg2]
    rw [Sem.run_bind, run_choose rfl, Result.andThen_ok, Sem.run_bind, hi _, Result.andThen_ok, Sem.run_bind, har, Result.andThen_ok]
    have hvd := hv.rd.frame (w' := w.drew) (fun _ _ => rfl)
    have hud := hu.frame (w' := w.drew) (fun _ _ => rfl)
    rw [Sem.run_bind, run_firstCells hvd, Result.andThen_ok, Sem.run_bind, run_firstCells hud, Result.andThen_ok, Sem.run_bind, hz.zero, Result.andThen_ok, run_zeroCells_ok]
    have hq : ∀ q : Nat, (Question.appendCap (n + m) c E).cut q = n + m + q % (2 ^ 63 - (n + m)) := fun _ => rfl
    rw [hq]
    generalize w.tape w.drawn (Question.appendCap (n + m) c E) % (2 ^ 63 - (n + m)) = x
    have hx : n + m + x - (n + m) = x := by omega
    rw [hx]
    have hnew : ∀ (cs : Array Value) (w' : World), (newRow E cs).run P w' = .ok ⟨w'.heap.size, 0, none⟩ (w'.alloc (.cells cs E)) := fun _ _ => rfl
    rw [Sem.run_bind, hnew, Result.andThen_ok]
    simp only [Sem.run_pure]
    have hcs : (l.toArray ++ k.toArray ++ (zeros x z.cells.toList).toArray).toList = l ++ k ++ zeros x z.cells.toList := by simp
    have hzl : (zeros x z.cells.toList).length = x * sz := by rw [zeros_length]; simp [hzn]
    refine h _ _ (.inr ⟨w.heap.size, 0, n + m + x, _, rfl, heap_alloc_new w.drew _, by omega, ?_, ?_⟩) (.inr ⟨_, rfl, Nat.le_refl _⟩) ((Fr.drew w).trans (Fr.alloc _ _ rfl)) ⟨fun e => (by cases e), fun e => (by cases e.1; omega)⟩
    · rw [← Array.length_toList, hcs, List.length_append, List.length_append, hll, hkl, hzl, Nat.add_mul, Nat.add_mul]; omega
    · rw [hcs, List.drop_zero, List.take_append_of_le_length (by rw [List.length_append, hll, hkl, Nat.add_mul]; exact Nat.le_refl _), List.take_of_length_le (by rw [List.length_append, hll, hkl, Nat.add_mul]; exact Nat.le_refl _)]

end Go.Gx
end

section
/- What each operation asks, as rules that are used one behind the other. -/
namespace Go.Gx
open Go
variable {P : Program} {K : Value → World → Prop} {w : World}

/-! ### The operation alone is looked at, not what comes behind it -/

theorem opS_congr {P : Program} {s s' : Sem Next} (h : s = s') (K : Value → World → Prop) (w : World) : opS P s K w = opS P s' K w := by rw [h]
theorem brn_congr {c c' : Value} (h : c = c') (a b : World → Prop) (w : World) : brn c a b w = brn c' a b w := by rw [h]
attribute [congr] opS_congr brn_congr

def onS (x : Option Value) (k : Value → Prop) : Prop := match x with | some v => k v | none => False
theorem onS_some (v : Value) (k : Value → Prop) : onS (some v) k = k v := id rfl
theorem onS_none (k : Value → Prop) : onS none k = False := id rfl
theorem onS_congr {x x' : Option Value} (h : x = x') (k : Value → Prop) : onS x k = onS x' k := by rw [h]
attribute [congr] onS_congr

def onB (x : Bool) (k : Prop) : Prop := x = true ∧ k
theorem onB_true (k : Prop) : onB true k = k := by simp [onB]
theorem onB_false (k : Prop) : onB false k = False := by simp [onB]
theorem onB_congr {x x' : Bool} (h : x = x') (k : Prop) : onB x k = onB x' k := by rw [h]
attribute [congr] onB_congr

/-- a way that parts: its own word, for 'if' bears a test that a checker may reckon -/
def br (c : Bool) (p q : Prop) : Prop := match c with | true => p | false => q
theorem br_true (p q : Prop) : br true p q = p := id rfl
theorem br_false (p q : Prop) : br false p q = q := id rfl
theorem br_congr {c c' : Bool} (h : c = c') (p q : Prop) : br c p q = br c' p q := by rw [h]
attribute [congr] br_congr
theorem brn_br (t : Bool) (a b : World → Prop) (w : World) : brn (.bool t) a b w = br t (a w) (b w) := by cases t <;> rfl
theorem br_intro {c : Bool} {p q : Prop} (h1 : c = true → p) (h2 : c = false → q) : br c p q := by
  cases c
  · exact h2 rfl
  · exact h1 rfl
theorem br_dec {d : Prop} [Decidable d] {p q : Prop} (h1 : d → p) (h2 : ¬ d → q) : br (decide d) p q := by
  by_cases h : d
  · rw [decide_eq_true h]; exact h1 h
  · rw [decide_eq_false h]; exact h2 h
theorem br_no {d : Prop} [Decidable d] {p q : Prop} (h : ¬ d) (h1 : q) : br (decide d) p q := by rw [decide_eq_false h]; exact h1

/-! ### Places -/

def cellAt : Option Obj → Nat → Option Value
  | some (.cells c _ _), o => c[o]?
  | _, _ => none
def aggAt : Option Obj → Nat → Nat → Option Value
  | some (.cells c _ _), o, n => if o + n ≤ c.size then some (.agg ((c.toList.drop o).take n).toArray) else none
  | _, _, _ => none
def okAt : Option Obj → Nat → Nat → Bool
  | some (.cells c _ fz), o, n => decide (o + n ≤ c.size) && (List.range n).all fun i => !(decide (fz.1 ≤ o + i) && decide (o + i < fz.2))
  | _, _, _ => false
def putAt : Option Obj → Nat → List Value → Option Obj
  | some (.cells c T fz), o, vs => some (.cells (splice c.toList o vs).toArray T fz)
  | x, _, _ => x

theorem cellAt_cells (l : List Value) (T : TypeId) (o : Nat) : cellAt (some (cellsO l T)) o = l[o]? := by simp [cellAt, cellsO]
theorem aggAt_cells (l : List Value) (T : TypeId) (o n : Nat) : aggAt (some (cellsO l T)) o n = if o + n ≤ l.length then some (.agg ((l.drop o).take n).toArray) else none := by simp [aggAt, cellsO]
theorem okAt_cells (l : List Value) (T : TypeId) (o n : Nat) : okAt (some (cellsO l T)) o n = decide (o + n ≤ l.length) := by simp [okAt, cellsO]
theorem putAt_cells (l : List Value) (T : TypeId) (o : Nat) (vs : List Value) : putAt (some (cellsO l T)) o vs = some (cellsO (splice l o vs) T) := by simp [putAt, cellsO]

theorem rd_cellAt (w : World) (b o : Nat) : rd w b o = cellAt w.heap[b]? o := by
  unfold rd cellAt
  cases w.heap[b]? with
  | none => rfl
  | some x => cases x <;> rfl

theorem s_ld1 {T n : Nat} [hs : Sz P T n false] (b o : Nat) : opS P (S.ld T (pt b o)) K w = onS (cellAt w.heap[b]? o) fun v => K v w := by
  rw [opS_ld1, rd_cellAt]
  cases cellAt w.heap[b]? o <;> rfl

theorem s_ldN {T n : Nat} [hs : Sz P T n true] (hn : 0 < n) (b o : Nat) : opS P (S.ld T (pt b o)) K w = onS (aggAt w.heap[b]? o n) fun v => K v w := by
  rw [opS_ldN hn, rdN]
  unfold aggAt
  cases w.heap[b]? with
  | none => rfl
  | some x =>
    cases x with
    | cells c T fz =>
      simp only []
      by_cases h : o + n ≤ c.size
      · rw [if_pos h, if_pos h]; rfl
      · rw [if_neg h, if_neg h]; rfl
    | _ => rfl

theorem s_st {T n : Nat} {ag : Bool} [hs : Sz P T n ag] (b o : Nat) (v : Value) (hv : v.cells.size = n) (h1 : v.cells.toList.all S.oneCell = true) :
    opS P (S.st T (pt b o) v) K w = onB (okAt w.heap[b]? o n) (K undef (wr w b o v.cells.toList)) := by
  rw [opS_st b o v hv h1]
  have : wrOk w b o n = okAt w.heap[b]? o n := by
    unfold wrOk okAt
    cases w.heap[b]? with
    | none => rfl
    | some x =>
      cases x with
      | cells c T fz => rfl
      | _ => rfl
  rw [this]
  unfold onB
  split <;> simp_all

theorem s_st1 {T : TypeId} [hs : Sz P T 1 false] (b o : Nat) (v : Value) (h1 : S.oneCell v = true) :
    opS P (S.st T (pt b o) v) K w = onB (okAt w.heap[b]? o 1) (K undef (wr w b o [v])) := by
  have e : v.cells = #[v] := by cases v <;> first | rfl | (cases h1)
  rw [s_st b o v (by rw [e]; rfl) (by rw [e]; simp [h1]), e]

theorem s_stA {T n : Nat} [hs : Sz P T n true] (b o : Nat) (x : List Value) (hx : x.length = n) (h1 : x.all S.oneCell = true) :
    opS P (S.st T (pt b o) (.agg x.toArray)) K w = onB (okAt w.heap[b]? o n) (K undef (wr w b o x)) := by
  rw [s_st b o _ (by simpa [Value.cells] using hx) (by simpa [Value.cells] using h1)]
  rfl

theorem one_int (k : IntKind) (n : Int) : S.oneCell (.int k n) = true := id rfl
theorem one_bool (b : Bool) : S.oneCell (.bool b) = true := id rfl
theorem one_pt (b o : Nat) : S.oneCell (pt b o) = true := id rfl
theorem one_nil : S.oneCell (.pointer none) = true := id rfl
theorem one_slice (a : Option Addr) (n c : Nat) : S.oneCell (.slice a n c) = true := id rfl
theorem one_func (f : Fn) (a b : Array Value) : S.oneCell (.func f a b) = true := id rfl
theorem one_string (s : ByteArray) : S.oneCell (.string s) = true := id rfl
theorem cells_agg (x : List Value) : (Value.agg x.toArray).cells = x.toArray := id rfl
theorem cells_int (k : IntKind) (n : Int) : (Value.int k n).cells = [Value.int k n].toArray := id rfl
theorem cells_bool (b : Bool) : (Value.bool b).cells = [Value.bool b].toArray := id rfl
theorem cells_pt (b o : Nat) : (pt b o).cells = [pt b o].toArray := id rfl
theorem cells_nil : (Value.pointer none).cells = [Value.pointer none].toArray := id rfl
theorem cells_slice (a : Option Addr) (n c : Nat) : (Value.slice a n c).cells = [Value.slice a n c].toArray := id rfl
theorem cells_func (f : Fn) (a b : Array Value) : (Value.func f a b).cells = [Value.func f a b].toArray := id rfl
theorem cells_string (s : ByteArray) : (Value.string s).cells = [Value.string s].toArray := id rfl

theorem splice_s (a : Value) (l : List Value) (i : Nat) (vs : List Value) : splice (a :: l) (i + 1) vs = a :: splice l i vs := by
  simp [splice, Nat.add_right_comm i 1]
theorem splice_z (a : Value) (l : List Value) (v : Value) (vs : List Value) : splice (a :: l) 0 (v :: vs) = v :: splice l 0 vs := by
  simp [splice]
theorem splice_0 (l : List Value) : splice l 0 [] = l := by simp [splice]

/-! ### Worlds -/

theorem heap_wr (w : World) (b o : Nat) (vs : List Value) (b' : Nat) : (wr w b o vs).heap[b']? = if b' = b then putAt w.heap[b]? o vs else w.heap[b']? := by
  unfold wr
  by_cases h : b' = b
  · subst h
    rw [if_pos rfl]
    cases hb : w.heap[b']? with
    | none => simp only [hb]; rfl
    | some x =>
      cases x with
      | cells c T fz => exact heap_upd_same (by rw [hb]; rfl)
      | _ => simp only [hb]; rfl
  · rw [if_neg h]
    split
    · exact heap_upd_ne fun e => h e.symm
    · rfl

theorem heap_alloc (w : World) (o : Obj) (b : Nat) : (w.alloc o).heap[b]? = if b = w.heap.size then some o else w.heap[b]? := by
  show (w.heap.push o)[b]? = _
  rw [Array.getElem?_push]

theorem size_wr (w : World) (b o : Nat) (vs : List Value) : (wr w b o vs).heap.size = w.heap.size := by
  unfold wr
  split
  · exact size_upd _ _ _
  · rfl

theorem size_drew (w : World) : w.drew.heap.size = w.heap.size := id rfl
theorem heap_drew' (w : World) (b : Nat) : w.drew.heap[b]? = w.heap[b]? := id rfl

theorem alloc_cellsO (w : World) (l : List Value) (T : TypeId) : w.alloc (.cells l.toArray T) = w.alloc (cellsO l T) := id rfl

theorem drw_eq (k : World → Prop) (w : World) : drw k w = k w.drew := id rfl
theorem allW_intro {a b : World → Prop} {w : World} (h1 : a w) (h2 : b w) : allW a b w := ⟨h1, h2⟩
theorem s_ext (vs : Array Value) (i : Nat) : opS P (S.ext (.tuple vs) i) K w = onS vs[i]? fun v => K v w := by
  rw [opS_ext]
  cases vs[i]? <;> rfl

theorem Fr.step_alloc {fp : Nat → Prop} {w w' : World} (h : Fr fp w w') {o : Obj} (ho : loose o = true) : Fr fp w (w'.alloc o) := h.trans (Fr.alloc _ _ ho)
theorem Fr.step_drew {fp : Nat → Prop} {w w' : World} (h : Fr fp w w') : Fr fp w w'.drew := h.trans (Fr.drew _)
theorem Fr.step_wr {fp : Nat → Prop} {w w' : World} (h : Fr fp w w') {b : Nat} (hb : fp b ∨ w.heap.size ≤ b) (o : Nat) (vs : List Value) : Fr fp w (Gx.wr w' b o vs) := by
  refine h.trans_new (fp' := fun x => x = b) (Fr.wr _ _ _ _ rfl) fun x hx e => ?_
  subst e
  rcases hb with hb | hb
  · exact hb
  · omega

/-! ### The set of the rules -/

attribute [push_cast] onS_some onS_none onB_true onB_false cellAt_cells aggAt_cells okAt_cells putAt_cells s_ld1 s_ldN s_st1 s_stA one_int one_bool one_pt one_nil one_slice one_func one_string cells_agg cells_int cells_bool cells_pt cells_nil cells_slice cells_func cells_string heap_wr heap_alloc size_wr size_drew size_alloc heap_drew' alloc_cellsO drw_eq s_ext
attribute [push_cast] opS_box opS_alloc opS_nc opS_len opS_not opS_mkf opS_convI opS_add opS_sub opS_mul opS_eql opS_neq opS_lss opS_leq opS_gtr opS_geq opS_beq opS_bne opS_isnil opS_notnil isNilP_pt isNilP_none opS_pick brn_br br_true br_false opS_cl opS_call

attribute [push_cast] splice_s splice_z splice_0 Nat.zero_add Nat.add_zero if_true if_false decide_true decide_false List.length_cons List.length_nil List.getElem?_cons_zero List.getElem?_cons_succ List.getElem?_toArray Nat.le_refl not_true_eq_false not_false_eq_true Bool.not_true Bool.not_false

end Go.Gx
end

section
/- Slices as lists of elements. -/
namespace Go.Gx
open Go
variable {P : Program} {K : Value → World → Prop} {w : World}

theorem flatten_len {sz : Nat} : ∀ {es : List (List Value)}, (∀ e ∈ es, e.length = sz) → es.flatten.length = es.length * sz
  | [], _ => by simp
  | e :: es, h => by
    rw [List.flatten_cons, List.length_append, flatten_len (fun e he => h e (List.mem_cons_of_mem _ he)), h e List.mem_cons_self, List.length_cons, Nat.add_mul]
    omega

theorem flatten_drop {sz : Nat} : ∀ {es : List (List Value)} (i : Nat), (∀ e ∈ es, e.length = sz) → es.flatten.drop (i * sz) = (es.drop i).flatten
  | es, 0, _ => by simp
  | [], i + 1, _ => by simp
  | e :: es, i + 1, h => by
    rw [List.flatten_cons, List.drop_succ_cons, ← flatten_drop i (fun e he => h e (List.mem_cons_of_mem _ he))]
    have := h e List.mem_cons_self
    rw [List.drop_append, List.drop_eq_nil_of_le (by rw [this, Nat.add_mul]; omega), List.nil_append]
    congr 1
    rw [this, Nat.add_mul]; omega

theorem flatten_take {sz : Nat} : ∀ {es : List (List Value)} (i : Nat), (∀ e ∈ es, e.length = sz) → es.flatten.take (i * sz) = (es.take i).flatten
  | es, 0, _ => by simp
  | [], i + 1, _ => by simp
  | e :: es, i + 1, h => by
    have := h e List.mem_cons_self
    rw [List.flatten_cons, List.take_succ_cons, List.flatten_cons, ← flatten_take i (fun e he => h e (List.mem_cons_of_mem _ he))]
    rw [List.take_append, List.take_of_length_le (by rw [this, Nat.add_mul]; omega)]
    congr 2
    rw [this, Nat.add_mul]; omega

/-- the cells of one element -/
theorem flatten_elem {sz : Nat} {es : List (List Value)} (h : ∀ e ∈ es, e.length = sz) {i : Nat} (hi : i < es.length) (f k : Nat) (hk : f + k ≤ sz) : (es.flatten.drop (i * sz + f)).take k = ((es[i]).drop f).take k := by
  rw [← List.drop_drop, flatten_drop i h, List.drop_eq_getElem_cons hi, List.flatten_cons]
  have he : (es[i]).length = sz := h _ (List.getElem_mem hi)
  rw [List.drop_append_of_le_length (by omega), List.take_append_of_le_length (by rw [List.length_drop]; omega)]

theorem splice_flatten {sz : Nat} {es : List (List Value)} (h : ∀ e ∈ es, e.length = sz) {i : Nat} (hi : i < es.length) {e : List Value} (he : e.length = sz) : splice es.flatten (i * sz) e = (es.set i e).flatten := by
  unfold splice
  rw [flatten_take i h, he, ← Nat.succ_mul, flatten_drop (i + 1) h, List.set_eq_take_append_cons_drop, if_pos hi]
  simp

theorem splice_sub {l e : List Value} {o m a : Nat} (h : o + m ≤ l.length) (h2 : a + e.length ≤ m) : splice ((l.drop o).take m) a e = ((splice l (o + a) e).drop o).take m := by
  unfold splice
  have hlt : (l.take (o + a)).length = o + a := by rw [List.length_take]; omega
  have e1 : (l.take (o + a)).drop o = (l.drop o).take a := by rw [List.drop_take]; congr 1; omega
  have e2 : ((l.drop o).take a).length = a := by rw [List.length_take, List.length_drop]; omega
  rw [List.append_assoc (l.take (o + a)), List.drop_append_of_le_length (by omega), e1, List.take_append, e2, List.take_append, List.take_take, Nat.min_eq_left (by omega), List.drop_take, List.drop_drop]
  rw [List.take_of_length_le (by omega : ((l.drop o).take a).length ≤ m), List.take_of_length_le (by omega : e.length ≤ m - a), List.append_assoc]
  congr 3
  · omega
  · congr 1; omega

/-- the elements of a slice that can be read -/
def RdE (sz : Nat) (w : World) (v : Value) (es : List (List Value)) : Prop := Rd sz w v es.length es.flatten ∧ ∀ e ∈ es, e.length = sz
/-- the elements of a slice that is its holder's own -/
def OwnE (E sz : Nat) (w : World) (v : Value) (es : List (List Value)) : Prop := Own E sz w v es.length es.flatten ∧ ∀ e ∈ es, e.length = sz

theorem OwnE.rd {E sz : Nat} {v : Value} {es : List (List Value)} (h : OwnE E sz w v es) : RdE sz w v es := ⟨h.1.rd, h.2⟩
theorem RdE.frame {sz : Nat} {w w' : World} {v : Value} {es : List (List Value)} (h : RdE sz w v es) (hf : ∀ b, blkS v = some b → w'.heap[b]? = w.heap[b]?) : RdE sz w' v es := ⟨h.1.frame hf, h.2⟩
theorem OwnE.frame {E sz : Nat} {w w' : World} {v : Value} {es : List (List Value)} (h : OwnE E sz w v es) (hf : ∀ b, blkS v = some b → w'.heap[b]? = w.heap[b]?) : OwnE E sz w' v es := ⟨h.1.frame hf, h.2⟩
theorem OwnE.lt {E sz : Nat} {v : Value} {es : List (List Value)} (h : OwnE E sz w v es) {b : Nat} (hb : blkS v = some b) : b < w.heap.size := h.1.lt hb
theorem RdE.fr {fp : Nat → Prop} {sz : Nat} {w w' : World} {v : Value} {es : List (List Value)} (h : RdE sz w v es) (hf : Fr fp w w') (hn : ∀ b, blkS v = some b → ¬ fp b) : RdE sz w' v es := by
  obtain ⟨h1, h2⟩ := h
  refine ⟨?_, h2⟩
  rcases h1 with h1 | ⟨b, o, c, cs, T, fz, rfl, hb, hc, ho, hl⟩
  · exact .inl h1
  · exact .inr ⟨b, o, c, cs, T, fz, rfl, hf.heap hb (hn b rfl), hc, ho, hl⟩
theorem OwnE.fr {fp : Nat → Prop} {E sz : Nat} {w w' : World} {v : Value} {es : List (List Value)} (h : OwnE E sz w v es) (hf : Fr fp w w') (hn : ∀ b, blkS v = some b → ¬ fp b) : OwnE E sz w' v es :=
  h.frame fun b hb => hf.old b (h.lt hb) (hn b hb)

theorem RdE.form {sz : Nat} {v : Value} {es : List (List Value)} (h : RdE sz w v es) : ∃ a c, v = .slice a es.length c := h.1.form

/-- an element's cells, in a block -/
def El (w : World) (b p : Nat) (e : List Value) : Prop := ∃ cs T fz, w.heap[b]? = some (.cells cs T fz) ∧ p + e.length ≤ cs.size ∧ (cs.toList.drop p).take e.length = e

theorem El.cell {b p : Nat} {e : List Value} (h : El w b p e) (f : Nat) (hf : f < e.length) : cellAt w.heap[b]? (p + f) = e[f]? := by
  obtain ⟨cs, T, fz, hb, hs, he⟩ := h
  rw [hb]
  show cs[p + f]? = e[f]?
  rw [← he, List.getElem?_take_of_lt hf, List.getElem?_drop, Array.getElem?_toList]

theorem El.agg {b p : Nat} {e : List Value} (h : El w b p e) (f k : Nat) (hf : f + k ≤ e.length) : aggAt w.heap[b]? (p + f) k = some (.agg ((e.drop f).take k).toArray) := by
  obtain ⟨cs, T, fz, hb, hs, he⟩ := h
  rw [hb]
  show (if p + f + k ≤ cs.size then _ else _) = _
  rw [if_pos (by omega)]
  congr 3
  rw [← List.drop_drop]
  conv => rhs; rw [← he]
  rw [List.drop_take, List.take_take]
  congr 1
  omega

theorem El.agg0 {b p : Nat} {e : List Value} {n : Nat} (h : El w b p e) (hn : e.length = n) : aggAt w.heap[b]? p n = some (.agg e.toArray) := by
  have := h.agg 0 n (by omega)
  rw [Nat.add_zero, List.drop_zero, List.take_of_length_le (by omega)] at this
  exact this

theorem El.cell0 {b p : Nat} {e : List Value} (h : El w b p e) (hf : 0 < e.length) : cellAt w.heap[b]? p = e[0]? := by
  have := h.cell 0 hf
  rwa [Nat.add_zero] at this

/-- a place in a slice -/
theorem s_iaE {T E sz : Nat} {ag : Bool} [hT : SlT P T E] [hs : Sz P E sz ag] {v : Value} {es : List (List Value)} (h : RdE sz w v es) {k : IntKind} {i : Int} (h0 : 0 ≤ i) (hi : i.toNat < es.length)
    (hk : ∀ b o c, v = .slice (some ⟨b, o, none⟩) es.length c → El w b (o + i.toNat * sz) (es[i.toNat]) → K (pt b (o + i.toNat * sz)) w) : opS P (S.ia T v (.int k i)) K w := by
  obtain ⟨h1, h2⟩ := h
  rcases h1 with ⟨_, h1, _⟩ | ⟨b, o, c, cs, Tc, fz, rfl, hb, hc, ho, hl⟩
  · omega
  · rw [opS_iaS, if_pos (by omega)]
    have hlen := h2 _ (List.getElem_mem hi)
    have hm : i.toNat * sz + sz ≤ es.length * sz := by
      rw [← Nat.succ_mul]; exact Nat.mul_le_mul_right _ hi
    refine hk b o c rfl ⟨cs, Tc, fz, hb, by rw [hlen]; omega, ?_⟩
    have := flatten_elem h2 hi 0 sz (by omega)
    rw [hl, Nat.add_zero, List.drop_zero, List.drop_take, List.drop_drop, List.take_take, Nat.min_eq_left (by omega)] at this
    rw [hlen, this, List.take_of_length_le (by omega)]

/-- an element is written -/
theorem OwnE.put {E sz : Nat} {b o c i : Nat} {es : List (List Value)} (h : OwnE E sz w (.slice (some ⟨b, o, none⟩) es.length c) es) {e : List Value} (he : e.length = sz) (hi : i < es.length) :
    okAt w.heap[b]? (o + i * sz) sz = true ∧ OwnE E sz (wr w b (o + i * sz) e) (.slice (some ⟨b, o, none⟩) es.length c) (es.set i e) := by
  obtain ⟨h1, h2⟩ := h
  rcases h1 with ⟨h1, _⟩ | ⟨b', o', c', cs, hv, hb, hc, ho, hl⟩
  · cases h1
  · simp only [Value.slice.injEq, Option.some.injEq, Addr.mk.injEq] at hv
    obtain ⟨⟨rfl, rfl, _⟩, _, rfl⟩ := hv
    have hm : i * sz + sz ≤ es.length * sz := by
      rw [← Nat.succ_mul]; exact Nat.mul_le_mul_right _ hi
    have hm2 : es.length * sz ≤ c * sz := Nat.mul_le_mul_right _ hc
    have hset : ∀ x ∈ es.set i e, x.length = sz := fun x hx => by
      rcases List.mem_or_eq_of_mem_set hx with hx | rfl
      · exact h2 x hx
      · exact he
    refine ⟨?_, ⟨.inr ⟨b, o, c, (splice cs.toList (o + i * sz) e).toArray, by rw [List.length_set], ?_, by rw [List.length_set]; exact hc, ?_, ?_⟩, hset⟩⟩
    · rw [hb]
      show (decide (o + i * sz + sz ≤ cs.size) && _) = true
      simp only [Bool.and_eq_true, decide_eq_true_eq, List.all_eq_true]
      exact ⟨by omega, fun x _ => by simp⟩
    · rw [heap_wr, if_pos rfl, hb]; rfl
    · rw [List.size_toArray, splice_length (by have : cs.toList.length = cs.size := Array.length_toList; omega)]; simpa using ho
    · rw [← splice_flatten h2 hi he, hl, List.length_set]
      show _ = List.take _ (List.drop o (splice cs.toList (o + i * sz) e))
      have hsz : o + es.length * sz ≤ cs.toList.length := by have : cs.toList.length = cs.size := Array.length_toList; omega
      rw [splice_sub hsz (by omega)]

/-! ### Parts of slices -/

theorem run_sliceBound {k : IntKind} {i : Int} {y : Nat} {code : BoundsCode} (h : 0 ≤ i ∧ i ≤ y) : (Instr.sliceBound (.int k i) y code).run P w = .ok i.toNat w := by
  unfold Instr.sliceBound
  simp only [asIntOf, pure_bind]
  rw [if_pos h]; rfl

/-- elements of a part of a slice -/
theorem RdE.part {sz : Nat} {a : Option Addr} {c : Nat} {es : List (List Value)} (h : RdE sz w (.slice a es.length c) es) {l m : Nat} (h1 : l ≤ m) (h2 : m ≤ es.length) :
    RdE sz w (.slice (if c = l then a else a.map (·.add (l * sz))) (m - l) (c - l)) ((es.take m).drop l) := by
  obtain ⟨h, he⟩ := h
  have hlen : ((es.take m).drop l).length = m - l := by rw [List.length_drop, List.length_take]; omega
  refine ⟨?_, fun e hx => he e (List.mem_of_mem_take (List.mem_of_mem_drop hx))⟩
  rw [hlen]
  rcases h with ⟨h, hn, hf⟩ | ⟨b, o, c', cs, T, fz, hv, hb, hc, ho, hl⟩
  · obtain rfl : m = 0 := by omega
    obtain rfl : l = 0 := by omega
    exact .inl ⟨⟨_, _, rfl⟩, by omega, by simp⟩
  · simp only [Value.slice.injEq] at hv
    obtain ⟨rfl, _, rfl⟩ := hv
    have hm : m * sz ≤ es.length * sz := Nat.mul_le_mul_right _ h2
    have hlm : l * sz + (m - l) * sz = m * sz := by rw [← Nat.add_mul]; congr 1; omega
    have hfl : ((es.take m).drop l).flatten = (cs.toList.drop (o + l * sz)).take ((m - l) * sz) := by
      rw [← flatten_drop l (sz := sz) (fun e hx => he e (List.mem_of_mem_take hx)), ← flatten_take m he, hl, List.take_take, Nat.min_eq_left hm, List.drop_take, List.drop_drop]
      congr 1
      omega
    by_cases e : c = l
    · subst e
      have e0 : m - c = 0 := by omega
      refine .inr ⟨b, o, 0, cs, T, fz, by simp [e0], hb, by omega, by rw [e0]; omega, ?_⟩
      rw [hfl, e0]; simp
    · refine .inr ⟨b, o + l * sz, c - l, cs, T, fz, ?_, hb, by omega, by omega, hfl⟩
      rw [if_neg e]
      show Value.slice (some (Addr.add _ _)) _ _ = _
      rw [add_none]

theorem RdE.one {sz : Nat} {v : Value} {es : List (List Value)} (h : RdE sz w v es) : S.oneCell v = true := by
  obtain ⟨a, c, rfl⟩ := h.form
  rfl
theorem OwnE.one {E sz : Nat} {v : Value} {es : List (List Value)} (h : OwnE E sz w v es) : S.oneCell v = true := h.rd.one

/-- where ways meet: what holds there -/
theorem jn0 {k : World → Prop} {m : (World → Prop) → World → Prop} (Q : World → Prop) (h1 : ∀ w', Q w' → k w') (h2 : ∀ j : World → Prop, (∀ w', Q w' → j w') → m j w) : jnJ 0 k m w := (congrFun (jnJ_eq 0 k m) w).symm ▸ h2 k h1
theorem jn1 {k : Value → World → Prop} {m : (Value → World → Prop) → World → Prop} (Q : Value → World → Prop) (h1 : ∀ v w', Q v w' → k v w') (h2 : ∀ j : Value → World → Prop, (∀ v w', Q v w' → j v w') → m j w) : jnJ 1 k m w := (congrFun (jnJ_eq 1 k m) w).symm ▸ h2 k h1

theorem loop1 {B : (Value → World → Prop) → Value → World → Prop} (I : Nat → Value → World → Prop) (h : ∀ n v w X, I n v w → (∀ m v' w', m < n → I m v' w' → X v' w') → B X v w) (n : Nat) {v : Value} (h0 : I n v w) : loopJ 1 B v w := by
  intro X hX
  have key : ∀ n v w, (∃ m, m ≤ n ∧ I m v w) → X v w := by
    intro n
    induction n with
    | zero =>
      rintro v w ⟨m, hm, hi⟩
      obtain rfl : m = 0 := by omega
      exact hX v w (h 0 v w X hi fun m v' w' hm _ => by omega)
    | succ n ih =>
      rintro v w ⟨m, hm, hi⟩
      exact hX v w (h m v w X hi fun k v' w' hk hi' => ih v' w' ⟨k, by omega, hi'⟩)
  exact key n v w ⟨n, Nat.le_refl _, h0⟩

/-- what was made since -/
def New (w : World) (v : Value) : Prop := ∀ b, blkS v = some b → w.heap.size ≤ b

theorem s_bs0 {T E sz : Nat} {ag : Bool} [hT : SlT P T E] [hs : Sz P E sz ag] (h : ∀ v' w', OwnE E sz w' v' [] → Fr none_ w w' → New w v' → K v' w') : opS P (S.buildS T 0 []) K w := by
  rw [opS_buildS0]
  refine h _ _ ⟨.inr ⟨w.heap.size, 0, 0, #[], rfl, heap_alloc_new _ _, by simp, by simp, by simp⟩, by simp⟩ (Fr.alloc _ _ rfl) fun b hb => ?_
  cases hb; exact Nat.le_refl _

theorem s_bs1 {T E sz : Nat} {ag : Bool} {z : Value} [hT : SlT P T E] [hs : Sz P E sz ag] [hz : ZV P E z] {x : List Value} (hx : x.length = sz) (hzn : z.cells.size = sz) (hn : 0 < sz) (hn2 : sz ≤ 2 ^ 24)
    (h : ∀ v' w', OwnE E sz w' v' [x] → Fr none_ w w' → New w v' → K v' w') : opS P (S.buildS T 1 [(0, .agg x.toArray)]) K w := by
  rw [opS_buildS1 _ (by simpa [Value.cells] using hx) hzn hn hn2]
  refine h _ _ ⟨.inr ⟨w.heap.size, 0, 1, x.toArray, rfl, heap_alloc_new _ _, by simp, by simp [hx], ?_⟩, fun e he => ?_⟩ (Fr.alloc _ _ rfl) fun b hb => ?_
  · simp [← hx]
  · simp at he; rw [he]; exact hx
  · cases hb; exact Nat.le_refl _

theorem s_app {T T2 E sz by_ : Nat} {ag : Bool} {z : Value} [hT : SlT P T E] [hT2 : SlT P T2 E] [hs : Sz P E sz ag] [hb : By P E by_] [hz : ZV P E z] {ty : TypeId} {v u : Value} {es fs : List (List Value)} (hzn : z.cells.size = sz) (hby : 0 < by_)
    (hv : OwnE E sz w v es) (hu : RdE sz w u fs) (hk : fs.flatten.all S.oneCell = true) (hroom : (2 * (es.length + fs.length) + 192) * by_ ≤ 2 ^ 48)
    (h : ∀ v' w', OwnE E sz w' v' (es ++ fs) → (blkS v' = blkS v ∨ New w v') → Fr (fun b => blkS v = some b) w w' → K v' w') :
    opS P (S.bi .append #[T, T2] ty [v, u]) K w := by
  refine opS_append hzn hby hv.1 hu.1 hk hroom fun v' w' h1 h2 h3 _ => h v' w' ⟨?_, ?_⟩ ?_ h3
  · rw [List.length_append, List.flatten_append]; exact h1
  · intro e he
    rcases List.mem_append.1 he with he | he
    · exact hv.2 e he
    · exact hu.2 e he
  · rcases h2 with h2 | ⟨b, hb, hle⟩
    · exact .inl h2
    · exact .inr fun b' hb' => by rw [hb] at hb'; cases hb'; exact hle

end Go.Gx
end

section
/- Structs and arrays that are compared. -/
namespace Go.Gx
open Go
variable {P : Program} {K : Value → World → Prop} {w : World}

class EqT (P : Program) (T : TypeId) : Prop where
  key : P.keyTypeAt 8 T = true
  guard : P.eqGuardType P.depth T = false
  und : (∃ fs, P.underlying T = some (.struct fs)) ∨ ∃ n e, P.underlying T = some (.array n e)

theorem formed_of_lits {T : TypeId} [hT : EqT P T] {x : List Value} {l : List Lit} (h : P.keyLits 8 T x = some l) : (Value.agg x.toArray).formed P T = true := by
  have h : P.keyLits (7 + 1) T x = some l := h
  unfold Program.keyLits at h
  rcases hT.und with ⟨fs, hu⟩ | ⟨n, e, hu⟩
  · simp only [hu] at h
    split at h
    · rename_i hh
      simp [Value.formed, hu, hh.1]
    · cases h
  · simp only [hu] at h
    split at h
    · rename_i hh
      simp [Value.formed, hu, hh]
    · cases h

theorem run_equal {T : TypeId} [hT : EqT P T] {x y : List Value} {lx ly : List Lit} (hx : P.keyLits 8 T x = some lx) (hy : P.keyLits 8 T y = some ly) :
    ∃ r : Bool, (Op.equal T (.agg x.toArray) (.agg y.toArray)).run P w = .ok r w ∧ (r = true ↔ lx = ly) := by
  have := run_equalIn_deep (P := P) 9992 8 T hT.key w 8 8 (.agg x.toArray) (.agg y.toArray) lx ly (formed_of_lits hx) (formed_of_lits hy) (by simpa [Value.cells] using hx) (by simpa [Value.cells] using hy)
  exact this

theorem run_guard {T : TypeId} [hT : EqT P T] {op : BinOp} (a b : Array Value) (x y : Operand) : (eqGuard op T x y (.agg a) (.agg b)).run P w = .ok () w := by
  have hp : (program : Sem Program).run P w = .ok P w := rfl
  have hrun : (do if !(← program).eqGuardType (← program).depth T then return
                  if ← Op.eqGuardIn Op.maxDepth T (.agg a) (.agg b) then unsupported (.noEntry "binop/eql: two nil values of an interface type with methods, in a part of a struct or an array") : Sem Unit).run P w = .ok () w := by
    rw [Sem.run_bind, hp, Result.andThen_ok, Sem.run_bind, hp, Result.andThen_ok, hT.guard]
    rfl
  cases op <;> first | rfl | exact hrun

theorem s_eqG {T : TypeId} [hT : EqT P T] {x y : List Value} {lx ly : List Lit} (hx : P.keyLits 8 T x = some lx) (hy : P.keyLits 8 T y = some ly)
    (h : ∀ r : Bool, (r = true ↔ lx = ly) → K (.bool r) w) : opS P (S.binG .eql T (.agg x.toArray) (.agg y.toArray)) K w := by
  obtain ⟨r, hr, hiff⟩ := run_equal (w := w) hx hy
  unfold opS S.binG
  simp only []
  rw [Sem.run_bind, run_guard, Result.andThen_ok, Sem.run_bind]
  simp only [binOp]
  rw [Sem.run_bind, hr, Result.andThen_ok]
  exact h r hiff

theorem s_neqG {T : TypeId} [hT : EqT P T] {x y : List Value} {lx ly : List Lit} (hx : P.keyLits 8 T x = some lx) (hy : P.keyLits 8 T y = some ly)
    (h : ∀ r : Bool, (r = true ↔ lx = ly) → K (.bool (!r)) w) : opS P (S.binG .neq T (.agg x.toArray) (.agg y.toArray)) K w := by
  obtain ⟨r, hr, hiff⟩ := run_equal (w := w) hx hy
  unfold opS S.binG
  simp only []
  rw [Sem.run_bind, run_guard, Result.andThen_ok, Sem.run_bind]
  simp only [binOp]
  rw [Sem.run_bind, hr, Result.andThen_ok]
  exact h r hiff

end Go.Gx
end

section
/- Ranges over functions: what a round does to the loop's own block. -/
namespace Go.Gx
open Go
variable {P : Program} {K : Value → World → Prop} {w : World}

theorem run_setObj {b : Nat} {x o : Obj} (h : w.heap[b]? = some x) (hx : ∀ c T fz, x ≠ .cells c T fz) : (setObj b o).run P w = .ok () (upd w b o) := by
  cases x with
  | cells c T fz => exact absurd rfl (hx c T fz)
  | _ => simp [setObj, Sem.run, upd, h]

theorem run_getLoop {l : Nat} {L : Loop} (h : w.heap[l]? = some (.loop L)) : (Instr.getLoop l).run P w = .ok L w := by
  simp [Instr.getLoop, getObj, Sem.run, h, bind, Sem.bind, pure]

theorem opS_beginR {l : Nat} {L : Loop} (h : w.heap[l]? = some (.loop L)) (hs : L.state = .ready) : opS P (S.beginR (pt l 0)) K w = K undef (upd w l (.loop { L with state := .busy })) := by
  unfold S.beginR opS
  have e : blk (pt l 0) = l := rfl
  rw [e]
  unfold Instr.beginRound
  rw [Sem.run_bind, Sem.run_bind, run_getLoop h, Result.andThen_ok, Sem.run_bind, run_setObj h (by intro c T fz e; cases e), Result.andThen_ok, hs]
  rfl

theorem opS_endR {l : Nat} {L : Loop} (h : w.heap[l]? = some (.loop L)) (c : Option Code) : opS P (S.endR (pt l 0) c) K w = K (.bool c.isNone) (upd w l (.loop { L with state := if c.isNone then .ready else .done, pending := c })) := by
  unfold S.endR
  rw [opS_bind]
  have e : blk (pt l 0) = l := rfl
  rw [e]
  unfold Instr.endRound
  rw [Sem.run_bind, run_getLoop h, Result.andThen_ok, Sem.run_bind, run_setObj h (by intro c T fz e; cases e), Result.andThen_ok]
  rfl

theorem run_endLoop {l : Nat} {L : Loop} (h : w.heap[l]? = some (.loop L)) (hs : L.state ≠ .busy) : (Instr.endLoop l).run P w = .ok L.pending (upd w l (.loop { L with state := .exhausted })) := by
  unfold Instr.endLoop
  rw [Sem.run_bind, run_getLoop h, Result.andThen_ok]
  have hb : (L.state == .busy) = false := by
    cases hL : L.state <;> first | rfl | exact absurd hL hs
  rw [hb]
  simp only [Bool.false_eq_true, if_false]
  rw [Sem.run_bind, run_setObj h (by intro c T fz e; cases e), Result.andThen_ok]
  rfl

theorem opS_take {b : Nat} (h : w.heap[b]? = some (.deferred (some []))) : opS P (S.take (pt b 0)) K w = K undef (upd w b (.deferred none)) := by
  unfold S.take opS
  have e : blk (pt b 0) = b := rfl
  rw [e]
  have : (Instr.takeDeferred b).run P w = .ok [] (upd w b (.deferred none)) := by
    unfold Instr.takeDeferred
    have hg : (getObj b).run P w = .ok (.deferred (some [])) w := by simp [getObj, Sem.run, h]
    rw [Sem.run_bind, hg, Result.andThen_ok]
    simp only []
    rw [Sem.run_bind, run_setObj h (by intro c T fz e; cases e), Result.andThen_ok]
    rfl
  rw [Sem.run_bind, this, Result.andThen_ok]
  rfl

/-- a block of no cells may be turned -/
theorem Fr.upd' {fp : Nat → Prop} {w : World} {b : Nat} {x : Obj} (hb : w.heap[b]? = some x) (hx : loose x = true) (y : Obj) (hy : loose y = true) (h : fp b) : Fr fp w (Gx.upd w b y) := by
  refine ⟨by rw [size_upd]; omega, fun b' _ hn => heap_upd_ne fun e => hn (e ▸ h), fun a _ => ?_, rfl, rfl, rfl⟩
  rw [frozen_eq, frozen_eq]
  by_cases e : b = a.block
  · rw [← e, hb, heap_upd_same (by rw [hb]; rfl)]
    have key : ∀ o : Obj, loose o = true → (match some o with | some (.cells _ _ fz) => (decide (fz.1 ≤ a.off) && decide (a.off < fz.2)) | _ => false) = false := by
      intro o ho
      cases o with
      | cells c T fz =>
        obtain ⟨lo, hi⟩ := fz
        simp only [loose, decide_eq_true_eq] at ho
        simp only [Bool.and_eq_false_iff, decide_eq_false_iff_not]
        omega
      | _ => rfl
    exact (key y hy).trans (key x hx).symm
  · rw [heap_upd_ne e]

theorem Fr.step_upd {fp : Nat → Prop} {w w' : World} (h : Fr fp w w') {b : Nat} {x : Obj} (hb : w'.heap[b]? = some x) (hx : loose x = true) (y : Obj) (hy : loose y = true) (hf : fp b ∨ w.heap.size ≤ b) : Fr fp w (Gx.upd w' b y) := by
  refine h.trans_new (fp' := fun z => z = b) (Fr.upd' hb hx y hy rfl) fun z hz e => ?_
  subst e
  rcases hf with hf | hf
  · exact hf
  · omega

theorem takeD_pt (b o : Nat) : takeD P (pt b o) K w = opS P (S.take (pt b o)) K w := id rfl
theorem takeD_func (fv : Fn) (first cap : Array Value) : takeD P (.func fv first cap) K w = dcallS P fv first cap K w := id rfl
theorem opS_isF (fv : Fn) (first cap : Array Value) : opS P (S.isF (.func fv first cap)) K w = K undef w := id rfl
attribute [push_cast] takeD_pt takeD_func opS_isF

end Go.Gx
end

section
/- A law's row: what is left behind its walk. -/
namespace Go.Gx
open Go Go.ChangeShapes Go.WideShapes Go.ChangeAt Go.RowKit

theorem Fr.below {w w' : World} (h : Fr none_ w w') : RowKit.Below w.heap.size w w' := ⟨h.os, h.tape, h.out, h.size, fun k hk => h.old k hk (fun x => x)⟩

section
variable {H : Type} {enc : TypeId × Value → H} {P : Program}

theorem trodAll_carry (hl : laidOutB P = true) {W W' : World} (hb : RowKit.Below W.heap.size W W') : ∀ {ts : List TypeId} {vs : List Value} {ds : List (DataW H)} {ps : List MemPlace},
    (∀ t ∈ ts, P.readableRec t = true ∧ t < P.types.size) → DataW.TrodAll enc P W 0 (fun _ => true) true ts vs ds ps → (∀ x ∈ ps, x.block < W.heap.size) →
    ∀ sp : Nat → Bool, (∀ p ∈ ps, sp p.block = true) → DataW.TrodAll enc P W' 0 sp true ts vs ds ps
  | [], _, _, _, _, h, _, _, _ => by
    obtain ⟨rfl, rfl, rfl⟩ := trodAll_nil h
    exact trodAll_mk0
  | t :: ts, _, _, _, ht, h, hlt, sp, hsp => by
    obtain ⟨v, vs1, d, ds1, a, b, rfl, rfl, rfl, h1, h2⟩ := trodAll_cons h
    obtain ⟨hr, hrow⟩ := ht t (List.mem_cons_self ..)
    exact ⟨a, b, WideElems.Trod_stays hl hr hrow h1 (fun x hx => hb.same (hlt x (List.mem_append_left _ hx))) (fun x hx => hsp x (List.mem_append_left _ hx)),
      trodAll_carry hl hb (fun t' h' => ht t' (List.mem_cons_of_mem _ h')) h2 (fun x hx => hlt x (List.mem_append_right _ hx)) sp (fun x hx => hsp x (List.mem_append_right _ hx)), rfl⟩

/-- **a law that answers true, and leaves all as it was** -/
theorem law_post {f : Func} {s : ChangeSpec} {fresh handsOn : Bool} {W W' : World} {args : Array Value} {ds gs : List (DataW H)} {before : List MemPlace} {tb : TypeId}
    (hl : laidOutB P = true) (hts : ∀ t ∈ f.params.toList, P.readableRec t = true ∧ t < P.types.size)
    (hrt : f.resultTypes = #[tb]) (htb : P.underlying tb = some .bool) (hvar : s.vars = [])
    (hspec : s.fn H (ds ++ gs) = { results := [.lit (.bool true)], args := ds })
    (hW : DataW.Whole enc P f.params.toList s.vars false W args.toList ds gs before) (hF : Fr none_ W W') :
    s.post enc P f false fresh handsOn false W args (.bool true) W' := by
  have hW' := hW
  obtain ⟨p, q, hA, hV, hps, hfz, hnd⟩ := hW
  rw [hvar] at hV
  obtain ⟨rfl, rfl⟩ := trodVars_none hV
  have hb := hF.below
  have hlt : ∀ x ∈ before, x.block < W.heap.size := fun x hx => by simpa using hW'.lt x hx
  rw [List.append_nil] at hps
  subst hps
  refine ⟨ds, [], before, [], before, [], hW', ?_, ?_, ?_, ?_, fun h => by cases h⟩
  · rw [hspec, hrt]
    exact trodAll_cons_mk (shut_bool htb _) trodAll_mk0
  · rw [hspec]
    exact trodAll_carry hl hb hts hA hlt _ (fun x hx => by simpa using hlt x hx)
  · rw [hspec, hvar]
    rfl
  · exact hb.frame _

/-! ### Slices that come in -/

theorem cells_of {w : World} {base b o n : Nat} {l : List Value} (h : w.cells? base ⟨b, o, none⟩ n = some l) (hn : 0 < n) :
    ∃ cs T fz, w.heap[b]? = some (.cells cs T fz) ∧ o + n ≤ cs.size ∧ l = (cs.toList.drop o).take n := by
  unfold World.cells? at h
  split at h
  · have hlen := mapM_some_length h
    have hget : ∀ i, i < n → w.cell? ⟨b, o + i, none⟩ = l[i]? := by
      intro i hi
      have := mapM_some_get h i i (by simp [hi])
      rwa [add_none] at this
    have h0 := hget 0 hn
    simp only [List.length_range] at hlen
    rw [Nat.add_zero, List.getElem?_eq_getElem (by omega)] at h0
    unfold World.cell? at h0
    split at h0
    · rename_i cs T fz hb
      have hb : w.heap[b]? = some (.cells cs T fz) := hb
      have hle : o + n ≤ cs.size := by
        have := hget (n - 1) (by omega)
        rw [List.getElem?_eq_getElem (by omega), cell_rd, rd, hb] at this
        simp only [] at this
        have := (Array.getElem?_eq_some_iff.1 this).1
        omega
      refine ⟨cs, T, fz, hb, hle, ?_⟩
      apply List.ext_getElem?
      intro i
      by_cases hi : i < n
      · rw [← hget i hi, List.getElem?_take_of_lt hi, List.getElem?_drop, cell_rd, rd, hb]
        simp
      · rw [List.getElem?_eq_none (by omega), List.getElem?_eq_none (by rw [List.length_take]; omega)]
    · cases h0
  · cases h

theorem cells_spot {w : World} {base : Nat} {a : Addr} {n : Nat} {l : List Value} (h : w.cells? base a n = some l) (hn : 0 < n) : a = ⟨a.block, a.off, none⟩ := by
  unfold World.cells? at h
  split at h
  · have hlen := mapM_some_length h
    have := mapM_some_get h 0 0 (by simp [hn])
    simp only [List.length_range] at hlen
    rw [List.getElem?_eq_getElem (by omega)] at this
    have e : a.add 0 = a := by simp [Addr.add]
    rw [e] at this
    unfold World.cell? at this
    split at this
    · split at this
      · cases this
      · rename_i hs
        obtain ⟨b, o, s⟩ := a
        simp at hs
        rw [hs]
    · cases this
  · cases h

theorem flat_chunks (l : List Value) (o sz : Nat) : ∀ n, o + n * sz ≤ l.length → ((List.range n).map fun i => (l.drop (o + i * sz)).take sz).flatten = (l.drop o).take (n * sz)
  | 0, _ => by simp
  | n + 1, h => by
    rw [Nat.succ_mul] at h ⊢
    rw [List.range_succ, List.map_append, List.flatten_append, flat_chunks l o sz n (by omega), List.map_singleton, List.flatten_singleton, List.take_add, List.drop_drop]

variable {w : World} {base : Nat} {spare : Nat → Bool} {held : Bool}

theorem open_rd {t e sz fuel : Nat} {v : Value} {x : DataW H × List MemPlace} (ht : P.underlying t = some (.slice e)) (hsz : P.cellsOf e = sz) (h0 : 0 < sz) (h : DataW.trod enc P w base spare held fuel t [v] = some x) :
    ∃ es, RdE sz w v es ∧ es.length ≤ maxLen ∧ ∀ c ∈ es, ∃ n y, DataW.trod enc P w base spare held n e c = some y := by
  rcases DataW.trod_slice ht h with ⟨hv, _⟩ | ⟨a, len, cap, elems, rest, n, _, hv, rfl, hb, hl, hm, hlen, hel, hsp, hns⟩
  · rw [List.cons.injEq] at hv
    rw [hv.1]
    exact ⟨[], ⟨.inl ⟨⟨_, _, rfl⟩, rfl, rfl⟩, by simp⟩, by simp, by simp⟩
  · rw [List.cons.injEq] at hv
    rw [hv.1]
    rw [hsz] at hel
    by_cases hz : len = 0
    · subst hz
      exact ⟨[], ⟨.inl ⟨⟨_, _, rfl⟩, rfl, rfl⟩, by simp⟩, by simp, by simp⟩
    · have key : ∀ i, i < len → ∃ l, w.cells? base (a.add (i * sz)) sz = some l ∧ ∃ y, DataW.trod enc P w base spare held n e l = some y := by
        intro i hi
        have := hel i hi
        rw [List.getElem?_eq_getElem (by omega)] at this
        obtain ⟨l, h1, h2⟩ := Option.bind_eq_some_iff.1 this
        exact ⟨l, h1, _, h2⟩
      have ha : a = ⟨a.block, a.off, none⟩ := by
        obtain ⟨l, h1, _⟩ := key 0 (by omega)
        have e : a.add (0 * sz) = a := by simp [Addr.add]
        rw [e] at h1
        exact cells_spot h1 h0
      obtain ⟨b, o, s⟩ := a
      simp only [Addr.mk.injEq, true_and] at ha
      subst ha
      have key2 : ∀ i, i < len → ∃ cs T fz, w.heap[b]? = some (.cells cs T fz) ∧ o + i * sz + sz ≤ cs.size ∧ ∃ y, DataW.trod enc P w base spare held n e ((cs.toList.drop (o + i * sz)).take sz) = some y := by
        intro i hi
        obtain ⟨l, h1, h2⟩ := key i hi
        rw [add_none] at h1
        obtain ⟨cs, T, fz, h3, h4, rfl⟩ := cells_of h1 h0
        exact ⟨cs, T, fz, h3, h4, h2⟩
      obtain ⟨cs, T, fz, hb', hle, _⟩ := key2 (len - 1) (by omega)
      have hlen2 : o + len * sz ≤ cs.size := by
        have e : (len - 1) * sz + sz = len * sz := by rw [← Nat.succ_mul]; congr 1; omega
        omega
      refine ⟨(List.range len).map fun i => (cs.toList.drop (o + i * sz)).take sz, ⟨.inr ⟨b, o, cap, cs, T, fz, ?_, hb', ?_, ?_, ?_⟩, ?_⟩, ?_, ?_⟩
      · simp
      · simpa using hl
      · simpa using hlen2
      · rw [flat_chunks _ _ _ _ (by simpa using hlen2)]; simp
      · intro c hc
        rw [List.mem_map] at hc
        obtain ⟨i, hi, rfl⟩ := hc
        rw [List.mem_range] at hi
        have : i * sz + sz ≤ len * sz := by rw [← Nat.succ_mul]; exact Nat.mul_le_mul_right _ hi
        rw [List.length_take, List.length_drop, Array.length_toList]; omega
      · simp; omega
      · intro c hc
        rw [List.mem_map] at hc
        obtain ⟨i, hi, rfl⟩ := hc
        rw [List.mem_range] at hi
        obtain ⟨cs', T', fz', h1, _, h2⟩ := key2 i hi
        rw [hb', Option.some.injEq, Obj.cells.injEq] at h1
        obtain ⟨rfl, _, _⟩ := h1
        exact ⟨n, h2⟩

theorem arg_int {t base' : TypeId} {k : IntKind} {v : Value} {d : DataW H} {ps : List MemPlace} {r : Reach} (ht : P.underlying t = some (.int k)) (hok : Value.okWide P w r base' t v) (h : DataW.Trod enc P w base spare held t v d ps) :
    ∃ n, v = .int k n ∧ k.min ≤ n ∧ n ≤ k.max := by
  unfold Value.okWide at hok
  simp only [ht] at hok
  unfold Cell.okWide at hok
  simp only [ht] at hok
  unfold Cell.ok at hok
  simp only [ht] at hok
  cases v <;> first | exact hok.elim | skip
  rename_i k' n
  obtain ⟨rfl, h1, h2⟩ := hok
  exact ⟨n, rfl, h1, h2⟩

end
end Go.Gx
end

section
/- Numbers, bools, addresses and entries as cells; what a key type's cells are. -/
namespace Go.Gx
open Go

theorem kl_struct_mk {P : Program} {T d : Nat} {fs : Array Field} {cs : List Value} {ls : List (List Lit)} (hu : P.underlying T = some (.struct fs)) (hn : fs.all (·.name != "_") = true) (hl : cs.length = P.cellsOf T)
    (h : fs.toList.mapM (fun f => P.keyLits d f.type ((cs.drop f.offset).take (P.cellsOf f.type))) = some ls) : P.keyLits (d + 1) T cs = some ls.flatten := by
  unfold Program.keyLits
  simp only [hu]
  rw [if_pos ⟨hl, hn⟩, h]; rfl

theorem kl_array_mk {P : Program} {T d n E : Nat} {cs : List Value} {ls : List (List Lit)} (hu : P.underlying T = some (.array n E)) (hl : cs.length = P.cellsOf T)
    (h : (List.range n).mapM (fun i => P.keyLits d E ((cs.drop (i * P.cellsOf E)).take (P.cellsOf E))) = some ls) : P.keyLits (d + 1) T cs = some ls.flatten := by
  unfold Program.keyLits
  simp only [hu]
  rw [if_pos hl, h]; rfl

theorem kl_int_mk {P : Program} {T d : Nat} {k : IntKind} {n : Int} (hu : P.underlying T = some (.int k)) (h : k.min ≤ n ∧ n ≤ k.max) : P.keyLits (d + 1) T [.int k n] = some [.int k n] := by
  unfold Program.keyLits
  simp [hu, Lit.wf, h]

theorem kl_bool_mk {P : Program} {T d : Nat} {b : Bool} (hu : P.underlying T = some .bool) : P.keyLits (d + 1) T [.bool b] = some [.bool b] := by
  unfold Program.keyLits
  simp [hu]

/-! ### Addresses -/

abbrev u8 (n : Int) : Value := .int .u8 n
abbrev i64 (n : Int) : Value := .int .i64 n

@[ext] structure Mac where
  b0 : Int
  b1 : Int
  b2 : Int
  b3 : Int
  b4 : Int
  b5 : Int
  deriving DecidableEq, Inhabited

def isB (n : Int) : Prop := 0 ≤ n ∧ n ≤ 255
def isI (n : Int) : Prop := IntKind.i64.min ≤ n ∧ n ≤ IntKind.i64.max
theorem isI_iff {n : Int} : isI n ↔ -9223372036854775808 ≤ n ∧ n ≤ 9223372036854775807 := by
  unfold isI
  have e1 : IntKind.i64.min = -9223372036854775808 := rfl
  have e2 : IntKind.i64.max = 9223372036854775807 := rfl
  rw [e1, e2]

def Mac.cells (m : Mac) : List Value := [u8 m.b0, u8 m.b1, u8 m.b2, u8 m.b3, u8 m.b4, u8 m.b5]
def Mac.lits (m : Mac) : List Lit := [.int .u8 m.b0, .int .u8 m.b1, .int .u8 m.b2, .int .u8 m.b3, .int .u8 m.b4, .int .u8 m.b5]
def Mac.ok (m : Mac) : Prop := isB m.b0 ∧ isB m.b1 ∧ isB m.b2 ∧ isB m.b3 ∧ isB m.b4 ∧ isB m.b5

theorem Mac.lits_inj {a b : Mac} : a.lits = b.lits ↔ a = b := by
  constructor
  · intro h
    simp only [Mac.lits, List.cons.injEq, Lit.int.injEq, true_and, and_true] at h
    exact Mac.ext h.1 h.2.1 h.2.2.1 h.2.2.2.1 h.2.2.2.2.1 h.2.2.2.2.2
  · rintro rfl; rfl

class MacT (P : Program) (T : TypeId) (E : outParam TypeId) : Prop where
  arr : P.underlying T = some (.array 6 E)
  u8 : P.underlying E = some (.int .u8)
  one : P.cellsOf E = 1
  six : P.cellsOf T = 6

theorem MacT.enc {P : Program} {T E d : Nat} [hT : MacT P T E] {m : Mac} (h : m.ok) : P.keyLits (d + 2) T m.cells = some m.lits := by
  obtain ⟨b0, b1, b2, b3, b4, b5⟩ := h
  refine kl_array_mk (ls := [[_], [_], [_], [_], [_], [_]]) hT.arr (by rw [hT.six]; rfl) ?_
  simp only [show List.range 6 = [0, 1, 2, 3, 4, 5] from rfl, List.mapM_cons, List.mapM_nil, hT.one, Mac.cells, bind, Option.bind_eq_some_iff, pure, Option.some.injEq, Nat.mul_one, List.drop_succ_cons, List.drop_zero, List.take_succ_cons, List.take_zero]
  exact ⟨_, kl_int_mk hT.u8 b0, _, ⟨_, kl_int_mk hT.u8 b1, _, ⟨_, kl_int_mk hT.u8 b2, _, ⟨_, kl_int_mk hT.u8 b3, _, ⟨_, kl_int_mk hT.u8 b4, _, ⟨_, kl_int_mk hT.u8 b5, _, rfl, rfl⟩, rfl⟩, rfl⟩, rfl⟩, rfl⟩, rfl⟩

/-! ### Entries -/

@[ext] structure Ent where
  vlan : Int
  mac : Mac
  port : Int
  at_ : Int
  static : Bool
  deriving DecidableEq, Inhabited

def Ent.cells (e : Ent) : List Value := [i64 e.vlan, u8 e.mac.b0, u8 e.mac.b1, u8 e.mac.b2, u8 e.mac.b3, u8 e.mac.b4, u8 e.mac.b5, i64 e.port, i64 e.at_, .bool e.static]
def Ent.lits (e : Ent) : List Lit := [.int .i64 e.vlan, .int .u8 e.mac.b0, .int .u8 e.mac.b1, .int .u8 e.mac.b2, .int .u8 e.mac.b3, .int .u8 e.mac.b4, .int .u8 e.mac.b5, .int .i64 e.port, .int .i64 e.at_, .bool e.static]
def Ent.ok (e : Ent) : Prop := isI e.vlan ∧ e.mac.ok ∧ isI e.port ∧ isI e.at_

theorem Ent.lits_inj {a b : Ent} : a.lits = b.lits ↔ a = b := by
  constructor
  · intro h
    simp only [Ent.lits, List.cons.injEq, Lit.int.injEq, Lit.bool.injEq, true_and, and_true] at h
    obtain ⟨h0, h1, h2, h3, h4, h5, h6, h7, h8, h9⟩ := h
    exact Ent.ext h0 (Mac.ext h1 h2 h3 h4 h5 h6) h7 h8 h9
  · rintro rfl; rfl
theorem Ent.cells_length (e : Ent) : e.cells.length = 10 := rfl
theorem Ent.cells_one (e : Ent) : e.cells.all S.oneCell = true := rfl

class EntT (P : Program) (T : TypeId) (I M B : outParam TypeId) : Prop where
  und : ∃ n0 n1 n2 n3 n4 : String, ∃ p0 p1 p2 p3 p4 : String, ∃ o0 o1 o2 o3 o4 : Nat, P.underlying T = some (.struct #[{ name := n0, type := I, offset := 0, embedded := false, tag := "", pkgPath := p0, byteOffset := o0 }, { name := n1, type := M, offset := 1, embedded := false, tag := "", pkgPath := p1, byteOffset := o1 },
    { name := n2, type := I, offset := 7, embedded := false, tag := "", pkgPath := p2, byteOffset := o2 }, { name := n3, type := I, offset := 8, embedded := false, tag := "", pkgPath := p3, byteOffset := o3 }, { name := n4, type := B, offset := 9, embedded := false, tag := "", pkgPath := p4, byteOffset := o4 }]) ∧
    n0 ≠ "_" ∧ n1 ≠ "_" ∧ n2 ≠ "_" ∧ n3 ≠ "_" ∧ n4 ≠ "_"
  int : P.underlying I = some (.int .i64)
  bool : P.underlying B = some .bool
  cI : P.cellsOf I = 1
  cB : P.cellsOf B = 1
  cT : P.cellsOf T = 10

theorem EntT.enc {P : Program} {T I M B E d : Nat} [hT : EntT P T I M B] [hM : MacT P M E] {m : Ent} (h : m.ok) : P.keyLits (d + 3) T m.cells = some m.lits := by
  obtain ⟨n0, n1, n2, n3, n4, p0, p1, p2, p3, p4, o0, o1, o2, o3, o4, hu, m0, m1, m2, m3, m4⟩ := hT.und
  obtain ⟨b0, b1, b2, b3⟩ := h
  refine kl_struct_mk (ls := [[_], m.mac.lits, [_], [_], [_]]) hu (by simp [m0, m1, m2, m3, m4]) (by rw [hT.cT]; rfl) ?_
  simp only [List.mapM_cons, List.mapM_nil, hT.cI, hT.cB, hM.six, Ent.cells, bind, Option.bind_eq_some_iff, pure, Option.some.injEq, List.drop_succ_cons, List.drop_zero, List.take_succ_cons, List.take_zero]
  exact ⟨_, kl_int_mk hT.int b0, _, ⟨_, MacT.enc (d := d) b1, _, ⟨_, kl_int_mk hT.int b2, _, ⟨_, kl_int_mk hT.int b3, _, ⟨_, kl_bool_mk hT.bool, _, rfl, rfl⟩, rfl⟩, rfl⟩, rfl⟩, rfl⟩

end Go.Gx
end

section
/- What the functions of this program ask. -/
set_option linter.unusedVariables false
set_option maxRecDepth 100000
namespace Go.Gx.S
open Go Go.Gx Go.Proofs
instance sz2 : Sz Tryz.prog 2 1 false := ⟨Tryz.sizeOf2, Tryz.isAgg2⟩
instance by2 : By Tryz.prog 2 8 := ⟨_, Tryz.typeInfo2, rfl⟩
instance zv2 : ZV Tryz.prog 2 (.int .i64 0) := ⟨Tryz.zeroValue2⟩
instance sz3 : Sz Tryz.prog 3 1 false := ⟨Tryz.sizeOf3, Tryz.isAgg3⟩
instance by3 : By Tryz.prog 3 8 := ⟨_, Tryz.typeInfo3, rfl⟩
instance zv3 : ZV Tryz.prog 3 (.int .i64 0) := ⟨Tryz.zeroValue3⟩
instance sz4 : Sz Tryz.prog 4 1 false := ⟨Tryz.sizeOf4, Tryz.isAgg4⟩
instance by4 : By Tryz.prog 4 1 := ⟨_, Tryz.typeInfo4, rfl⟩
instance zv4 : ZV Tryz.prog 4 (.bool false) := ⟨Tryz.zeroValue4⟩
instance sz5 : Sz Tryz.prog 5 1 false := ⟨Tryz.sizeOf5, Tryz.isAgg5⟩
instance by5 : By Tryz.prog 5 1 := ⟨_, Tryz.typeInfo5, rfl⟩
instance zv5 : ZV Tryz.prog 5 (.int .u8 0) := ⟨Tryz.zeroValue5⟩
instance sz6 : Sz Tryz.prog 6 1 false := ⟨Tryz.sizeOf6, Tryz.isAgg6⟩
instance by6 : By Tryz.prog 6 1 := ⟨_, Tryz.typeInfo6, rfl⟩
instance zv6 : ZV Tryz.prog 6 (.int .u8 0) := ⟨Tryz.zeroValue6⟩
instance sz7 : Sz Tryz.prog 7 4 true := ⟨Tryz.sizeOf7, Tryz.isAgg7⟩
instance by7 : By Tryz.prog 7 24 := ⟨_, Tryz.typeInfo7, rfl⟩
instance zv7 : ZV Tryz.prog 7 (.agg #[.int .i64 0, .int .i64 0, .bool false, .int .u8 0]) := ⟨Tryz.zeroValue7⟩
instance eq7 : EqT Tryz.prog 7 := ⟨by kernel_rfl, Tryz.eqGuardType7, .inl ⟨_, Tryz.underlying7⟩⟩
instance bt7 : BT Tryz.prog 7 [[.int .i64 0], [.int .i64 0], [.bool false], [.int .u8 0]] := BT.ofStruct Tryz.underlying7 Tryz.zeroValue7 rfl (fun w => by kernel_rfl)
instance sz8 : Sz Tryz.prog 8 4 true := ⟨Tryz.sizeOf8, Tryz.isAgg8⟩
instance by8 : By Tryz.prog 8 24 := ⟨_, Tryz.typeInfo8, rfl⟩
instance zv8 : ZV Tryz.prog 8 (.agg #[.int .i64 0, .int .i64 0, .bool false, .int .u8 0]) := ⟨Tryz.zeroValue8⟩
instance bt8 : BT Tryz.prog 8 [[.int .i64 0], [.int .i64 0], [.bool false], [.int .u8 0]] := BT.ofStruct Tryz.underlying8 Tryz.zeroValue8 rfl (fun w => by kernel_rfl)
instance sz9 : Sz Tryz.prog 9 1 false := ⟨Tryz.sizeOf9, Tryz.isAgg9⟩
instance by9 : By Tryz.prog 9 16 := ⟨_, Tryz.typeInfo9, rfl⟩
instance zv9 : ZV Tryz.prog 9 (.string ⟨#[]⟩) := ⟨Tryz.zeroValue9⟩
instance sz10 : Sz Tryz.prog 10 1 false := ⟨Tryz.sizeOf10, Tryz.isAgg10⟩
instance by10 : By Tryz.prog 10 16 := ⟨_, Tryz.typeInfo10, rfl⟩
instance zv10 : ZV Tryz.prog 10 (.string ⟨#[]⟩) := ⟨Tryz.zeroValue10⟩
instance sz11 : Sz Tryz.prog 11 1 false := ⟨Tryz.sizeOf11, Tryz.isAgg11⟩
instance by11 : By Tryz.prog 11 16 := ⟨_, Tryz.typeInfo11, rfl⟩
instance zv11 : ZV Tryz.prog 11 (.string ⟨#[]⟩) := ⟨Tryz.zeroValue11⟩
instance sz12 : Sz Tryz.prog 12 1 false := ⟨Tryz.sizeOf12, Tryz.isAgg12⟩
instance by12 : By Tryz.prog 12 8 := ⟨_, Tryz.typeInfo12, rfl⟩
instance zv12 : ZV Tryz.prog 12 (.int .u64 0) := ⟨Tryz.zeroValue12⟩
instance sz13 : Sz Tryz.prog 13 2 true := ⟨Tryz.sizeOf13, Tryz.isAgg13⟩
instance by13 : By Tryz.prog 13 24 := ⟨_, Tryz.typeInfo13, rfl⟩
instance zv13 : ZV Tryz.prog 13 (.agg #[.string ⟨#[]⟩, .int .u64 0]) := ⟨Tryz.zeroValue13⟩
instance bt13 : BT Tryz.prog 13 [[.string ⟨#[]⟩], [.int .u64 0]] := BT.ofStruct Tryz.underlying13 Tryz.zeroValue13 rfl (fun w => by kernel_rfl)
instance sz14 : Sz Tryz.prog 14 2 true := ⟨Tryz.sizeOf14, Tryz.isAgg14⟩
instance by14 : By Tryz.prog 14 24 := ⟨_, Tryz.typeInfo14, rfl⟩
instance zv14 : ZV Tryz.prog 14 (.agg #[.string ⟨#[]⟩, .int .u64 0]) := ⟨Tryz.zeroValue14⟩
instance bt14 : BT Tryz.prog 14 [[.string ⟨#[]⟩], [.int .u64 0]] := BT.ofStruct Tryz.underlying14 Tryz.zeroValue14 rfl (fun w => by kernel_rfl)
instance sz15 : Sz Tryz.prog 15 1 false := ⟨Tryz.sizeOf15, Tryz.isAgg15⟩
instance by15 : By Tryz.prog 15 8 := ⟨_, Tryz.typeInfo15, rfl⟩
instance zv15 : ZV Tryz.prog 15 (.pointer none) := ⟨Tryz.zeroValue15⟩
instance sz16 : Sz Tryz.prog 16 1 false := ⟨Tryz.sizeOf16, Tryz.isAgg16⟩
instance by16 : By Tryz.prog 16 8 := ⟨_, Tryz.typeInfo16, rfl⟩
instance zv16 : ZV Tryz.prog 16 (.pointer none) := ⟨Tryz.zeroValue16⟩
instance sz17 : Sz Tryz.prog 17 1 false := ⟨Tryz.sizeOf17, Tryz.isAgg17⟩
instance by17 : By Tryz.prog 17 8 := ⟨_, Tryz.typeInfo17, rfl⟩
instance zv17 : ZV Tryz.prog 17 (.pointer none) := ⟨Tryz.zeroValue17⟩
instance sz18 : Sz Tryz.prog 18 1 true := ⟨Tryz.sizeOf18, Tryz.isAgg18⟩
instance by18 : By Tryz.prog 18 8 := ⟨_, Tryz.typeInfo18, rfl⟩
instance zv18 : ZV Tryz.prog 18 (.agg #[.pointer none]) := ⟨Tryz.zeroValue18⟩
instance bt18 : BT Tryz.prog 18 [[.pointer none]] := BT.ofStruct Tryz.underlying18 Tryz.zeroValue18 rfl (fun w => by kernel_rfl)
instance sz19 : Sz Tryz.prog 19 1 true := ⟨Tryz.sizeOf19, Tryz.isAgg19⟩
instance by19 : By Tryz.prog 19 8 := ⟨_, Tryz.typeInfo19, rfl⟩
instance zv19 : ZV Tryz.prog 19 (.agg #[.pointer none]) := ⟨Tryz.zeroValue19⟩
instance bt19 : BT Tryz.prog 19 [[.pointer none]] := BT.ofStruct Tryz.underlying19 Tryz.zeroValue19 rfl (fun w => by kernel_rfl)
instance sz21 : Sz Tryz.prog 21 1 false := ⟨Tryz.sizeOf21, Tryz.isAgg21⟩
instance by21 : By Tryz.prog 21 4 := ⟨_, Tryz.typeInfo21, rfl⟩
instance zv21 : ZV Tryz.prog 21 (.int .i32 0) := ⟨Tryz.zeroValue21⟩
instance sz22 : Sz Tryz.prog 22 1 false := ⟨Tryz.sizeOf22, Tryz.isAgg22⟩
instance by22 : By Tryz.prog 22 24 := ⟨_, Tryz.typeInfo22, rfl⟩
instance zv22 : ZV Tryz.prog 22 (.slice none 0 0) := ⟨Tryz.zeroValue22⟩
instance sl22 : SlT Tryz.prog 22 3 := ⟨Tryz.underlying22⟩
instance sz23 : Sz Tryz.prog 23 4 true := ⟨Tryz.sizeOf23, Tryz.isAgg23⟩
instance by23 : By Tryz.prog 23 48 := ⟨_, Tryz.typeInfo23, rfl⟩
instance zv23 : ZV Tryz.prog 23 (.agg #[.int .i64 0, .int .i64 0, .slice none 0 0, .int .i64 0]) := ⟨Tryz.zeroValue23⟩
instance bt23 : BT Tryz.prog 23 [[.int .i64 0], [.int .i64 0], [.slice none 0 0], [.int .i64 0]] := BT.ofStruct Tryz.underlying23 Tryz.zeroValue23 rfl (fun w => by kernel_rfl)
instance sz24 : Sz Tryz.prog 24 4 true := ⟨Tryz.sizeOf24, Tryz.isAgg24⟩
instance by24 : By Tryz.prog 24 48 := ⟨_, Tryz.typeInfo24, rfl⟩
instance zv24 : ZV Tryz.prog 24 (.agg #[.int .i64 0, .int .i64 0, .slice none 0 0, .int .i64 0]) := ⟨Tryz.zeroValue24⟩
theorem fa24_0 {K : Value → World → Prop} {w : World} (b o : Nat) : opS Tryz.prog (S.fa 24 (pt b o) 0) K w = K (pt b (o + 0)) w := opS_fa (T := 24) (hT := ⟨Tryz.underlying24⟩) (fd := ⟨_, 3, 0, _, _, _, _⟩) (n := 1) rfl (hs := sz3) (Nat.succ_ne_zero _) b o
attribute [push_cast] fa24_0
theorem fa24_1 {K : Value → World → Prop} {w : World} (b o : Nat) : opS Tryz.prog (S.fa 24 (pt b o) 1) K w = K (pt b (o + 1)) w := opS_fa (T := 24) (hT := ⟨Tryz.underlying24⟩) (fd := ⟨_, 3, 1, _, _, _, _⟩) (n := 1) rfl (hs := sz3) (Nat.succ_ne_zero _) b o
attribute [push_cast] fa24_1
theorem fa24_2 {K : Value → World → Prop} {w : World} (b o : Nat) : opS Tryz.prog (S.fa 24 (pt b o) 2) K w = K (pt b (o + 2)) w := opS_fa (T := 24) (hT := ⟨Tryz.underlying24⟩) (fd := ⟨_, 22, 2, _, _, _, _⟩) (n := 1) rfl (hs := sz22) (Nat.succ_ne_zero _) b o
attribute [push_cast] fa24_2
theorem fa24_3 {K : Value → World → Prop} {w : World} (b o : Nat) : opS Tryz.prog (S.fa 24 (pt b o) 3) K w = K (pt b (o + 3)) w := opS_fa (T := 24) (hT := ⟨Tryz.underlying24⟩) (fd := ⟨_, 3, 3, _, _, _, _⟩) (n := 1) rfl (hs := sz3) (Nat.succ_ne_zero _) b o
attribute [push_cast] fa24_3
instance bt24 : BT Tryz.prog 24 [[.int .i64 0], [.int .i64 0], [.slice none 0 0], [.int .i64 0]] := BT.ofStruct Tryz.underlying24 Tryz.zeroValue24 rfl (fun w => by kernel_rfl)
instance sz26 : Sz Tryz.prog 26 1 false := ⟨Tryz.sizeOf26, Tryz.isAgg26⟩
instance by26 : By Tryz.prog 26 8 := ⟨_, Tryz.typeInfo26, rfl⟩
instance zv26 : ZV Tryz.prog 26 (.pointer none) := ⟨Tryz.zeroValue26⟩
instance sz27 : Sz Tryz.prog 27 1 false := ⟨Tryz.sizeOf27, Tryz.isAgg27⟩
instance by27 : By Tryz.prog 27 8 := ⟨_, Tryz.typeInfo27, rfl⟩
instance zv27 : ZV Tryz.prog 27 (.int .i64 0) := ⟨Tryz.zeroValue27⟩
instance sz30 : Sz Tryz.prog 30 1 false := ⟨Tryz.sizeOf30, Tryz.isAgg30⟩
instance by30 : By Tryz.prog 30 8 := ⟨_, Tryz.typeInfo30, rfl⟩
instance zv30 : ZV Tryz.prog 30 (.pointer none) := ⟨Tryz.zeroValue30⟩
instance sz33 : Sz Tryz.prog 33 1 false := ⟨Tryz.sizeOf33, Tryz.isAgg33⟩
instance by33 : By Tryz.prog 33 8 := ⟨_, Tryz.typeInfo33, rfl⟩
instance zv33 : ZV Tryz.prog 33 (.pointer none) := ⟨Tryz.zeroValue33⟩
instance sz36 : Sz Tryz.prog 36 9 true := ⟨Tryz.sizeOf36, Tryz.isAgg36⟩
instance by36 : By Tryz.prog 36 72 := ⟨_, Tryz.typeInfo36, rfl⟩
instance zv36 : ZV Tryz.prog 36 (.agg #[.int .i64 0, .int .i64 0, .int .i64 0, .int .i64 0, .bool false, .int .i64 0, .int .i64 0, .int .i64 0, .int .i64 0]) := ⟨Tryz.zeroValue36⟩
instance eq36 : EqT Tryz.prog 36 := ⟨by kernel_rfl, Tryz.eqGuardType36, .inl ⟨_, Tryz.underlying36⟩⟩
instance bt36 : BT Tryz.prog 36 [[.int .i64 0], [.int .i64 0], [.int .i64 0], [.int .i64 0], [.bool false], [.int .i64 0], [.int .i64 0], [.int .i64 0], [.int .i64 0]] := BT.ofStruct Tryz.underlying36 Tryz.zeroValue36 rfl (fun w => by kernel_rfl)
instance sz37 : Sz Tryz.prog 37 9 true := ⟨Tryz.sizeOf37, Tryz.isAgg37⟩
instance by37 : By Tryz.prog 37 72 := ⟨_, Tryz.typeInfo37, rfl⟩
instance zv37 : ZV Tryz.prog 37 (.agg #[.int .i64 0, .int .i64 0, .int .i64 0, .int .i64 0, .bool false, .int .i64 0, .int .i64 0, .int .i64 0, .int .i64 0]) := ⟨Tryz.zeroValue37⟩
instance eq37 : EqT Tryz.prog 37 := ⟨by kernel_rfl, Tryz.eqGuardType37, .inl ⟨_, Tryz.underlying37⟩⟩
theorem fa37_0 {K : Value → World → Prop} {w : World} (b o : Nat) : opS Tryz.prog (S.fa 37 (pt b o) 0) K w = K (pt b (o + 0)) w := opS_fa (T := 37) (hT := ⟨Tryz.underlying37⟩) (fd := ⟨_, 3, 0, _, _, _, _⟩) (n := 1) rfl (hs := sz3) (Nat.succ_ne_zero _) b o
attribute [push_cast] fa37_0
theorem fa37_1 {K : Value → World → Prop} {w : World} (b o : Nat) : opS Tryz.prog (S.fa 37 (pt b o) 1) K w = K (pt b (o + 1)) w := opS_fa (T := 37) (hT := ⟨Tryz.underlying37⟩) (fd := ⟨_, 3, 1, _, _, _, _⟩) (n := 1) rfl (hs := sz3) (Nat.succ_ne_zero _) b o
attribute [push_cast] fa37_1
theorem fa37_2 {K : Value → World → Prop} {w : World} (b o : Nat) : opS Tryz.prog (S.fa 37 (pt b o) 2) K w = K (pt b (o + 2)) w := opS_fa (T := 37) (hT := ⟨Tryz.underlying37⟩) (fd := ⟨_, 3, 2, _, _, _, _⟩) (n := 1) rfl (hs := sz3) (Nat.succ_ne_zero _) b o
attribute [push_cast] fa37_2
theorem fa37_3 {K : Value → World → Prop} {w : World} (b o : Nat) : opS Tryz.prog (S.fa 37 (pt b o) 3) K w = K (pt b (o + 3)) w := opS_fa (T := 37) (hT := ⟨Tryz.underlying37⟩) (fd := ⟨_, 3, 3, _, _, _, _⟩) (n := 1) rfl (hs := sz3) (Nat.succ_ne_zero _) b o
attribute [push_cast] fa37_3
theorem fa37_4 {K : Value → World → Prop} {w : World} (b o : Nat) : opS Tryz.prog (S.fa 37 (pt b o) 4) K w = K (pt b (o + 4)) w := opS_fa (T := 37) (hT := ⟨Tryz.underlying37⟩) (fd := ⟨_, 4, 4, _, _, _, _⟩) (n := 1) rfl (hs := sz4) (Nat.succ_ne_zero _) b o
attribute [push_cast] fa37_4
theorem fa37_5 {K : Value → World → Prop} {w : World} (b o : Nat) : opS Tryz.prog (S.fa 37 (pt b o) 5) K w = K (pt b (o + 5)) w := opS_fa (T := 37) (hT := ⟨Tryz.underlying37⟩) (fd := ⟨_, 3, 5, _, _, _, _⟩) (n := 1) rfl (hs := sz3) (Nat.succ_ne_zero _) b o
attribute [push_cast] fa37_5
theorem fa37_6 {K : Value → World → Prop} {w : World} (b o : Nat) : opS Tryz.prog (S.fa 37 (pt b o) 6) K w = K (pt b (o + 6)) w := opS_fa (T := 37) (hT := ⟨Tryz.underlying37⟩) (fd := ⟨_, 3, 6, _, _, _, _⟩) (n := 1) rfl (hs := sz3) (Nat.succ_ne_zero _) b o
attribute [push_cast] fa37_6
theorem fa37_7 {K : Value → World → Prop} {w : World} (b o : Nat) : opS Tryz.prog (S.fa 37 (pt b o) 7) K w = K (pt b (o + 7)) w := opS_fa (T := 37) (hT := ⟨Tryz.underlying37⟩) (fd := ⟨_, 3, 7, _, _, _, _⟩) (n := 1) rfl (hs := sz3) (Nat.succ_ne_zero _) b o
attribute [push_cast] fa37_7
theorem fa37_8 {K : Value → World → Prop} {w : World} (b o : Nat) : opS Tryz.prog (S.fa 37 (pt b o) 8) K w = K (pt b (o + 8)) w := opS_fa (T := 37) (hT := ⟨Tryz.underlying37⟩) (fd := ⟨_, 3, 8, _, _, _, _⟩) (n := 1) rfl (hs := sz3) (Nat.succ_ne_zero _) b o
attribute [push_cast] fa37_8
instance bt37 : BT Tryz.prog 37 [[.int .i64 0], [.int .i64 0], [.int .i64 0], [.int .i64 0], [.bool false], [.int .i64 0], [.int .i64 0], [.int .i64 0], [.int .i64 0]] := BT.ofStruct Tryz.underlying37 Tryz.zeroValue37 rfl (fun w => by kernel_rfl)
instance sz38 : Sz Tryz.prog 38 1 false := ⟨Tryz.sizeOf38, Tryz.isAgg38⟩
instance by38 : By Tryz.prog 38 8 := ⟨_, Tryz.typeInfo38, rfl⟩
instance zv38 : ZV Tryz.prog 38 (.pointer none) := ⟨Tryz.zeroValue38⟩
instance sz39 : Sz Tryz.prog 39 1 false := ⟨Tryz.sizeOf39, Tryz.isAgg39⟩
instance by39 : By Tryz.prog 39 8 := ⟨_, Tryz.typeInfo39, rfl⟩
instance zv39 : ZV Tryz.prog 39 (.pointer none) := ⟨Tryz.zeroValue39⟩
instance sz40 : Sz Tryz.prog 40 1 false := ⟨Tryz.sizeOf40, Tryz.isAgg40⟩
instance by40 : By Tryz.prog 40 8 := ⟨_, Tryz.typeInfo40, rfl⟩
instance zv40 : ZV Tryz.prog 40 (.pointer none) := ⟨Tryz.zeroValue40⟩
instance sz41 : Sz Tryz.prog 41 1 false := ⟨Tryz.sizeOf41, Tryz.isAgg41⟩
instance by41 : By Tryz.prog 41 24 := ⟨_, Tryz.typeInfo41, rfl⟩
instance zv41 : ZV Tryz.prog 41 (.slice none 0 0) := ⟨Tryz.zeroValue41⟩
instance sl41 : SlT Tryz.prog 41 4 := ⟨Tryz.underlying41⟩
instance sz42 : Sz Tryz.prog 42 1 false := ⟨Tryz.sizeOf42, Tryz.isAgg42⟩
instance by42 : By Tryz.prog 42 8 := ⟨_, Tryz.typeInfo42, rfl⟩
instance zv42 : ZV Tryz.prog 42 (.pointer none) := ⟨Tryz.zeroValue42⟩
instance sz43 : Sz Tryz.prog 43 3 true := ⟨Tryz.sizeOf43, Tryz.isAgg43⟩
instance by43 : By Tryz.prog 43 24 := ⟨_, Tryz.typeInfo43, rfl⟩
instance zv43 : ZV Tryz.prog 43 (.agg #[.int .i64 0, .int .i64 0, .int .i64 0]) := ⟨Tryz.zeroValue43⟩
instance eq43 : EqT Tryz.prog 43 := ⟨by kernel_rfl, Tryz.eqGuardType43, .inr ⟨_, _, Tryz.underlying43⟩⟩
instance ar43 : ArT Tryz.prog 43 3 3 := ⟨Tryz.underlying43⟩
instance bt43 : BT Tryz.prog 43 (List.replicate 3 [.int .i64 0]) := BT.ofArray Tryz.underlying43 Tryz.zeroValue43 rfl sz3 rfl
instance sz44 : Sz Tryz.prog 44 13 true := ⟨Tryz.sizeOf44, Tryz.isAgg44⟩
instance by44 : By Tryz.prog 44 136 := ⟨_, Tryz.typeInfo44, rfl⟩
instance zv44 : ZV Tryz.prog 44 (.agg #[.int .i64 0, .int .i64 0, .slice none 0 0, .int .i64 0, .pointer none, .pointer none, .pointer none, .slice none 0 0, .pointer none, .bool false, .int .i64 0, .int .i64 0, .int .i64 0]) := ⟨Tryz.zeroValue44⟩
instance bt44 : BT Tryz.prog 44 [[.int .i64 0, .int .i64 0, .slice none 0 0, .int .i64 0], [.pointer none], [.pointer none], [.pointer none], [.slice none 0 0], [.pointer none], [.bool false], [.int .i64 0, .int .i64 0, .int .i64 0]] := BT.ofStruct Tryz.underlying44 Tryz.zeroValue44 rfl (fun w => by kernel_rfl)
instance sz45 : Sz Tryz.prog 45 13 true := ⟨Tryz.sizeOf45, Tryz.isAgg45⟩
instance by45 : By Tryz.prog 45 136 := ⟨_, Tryz.typeInfo45, rfl⟩
instance zv45 : ZV Tryz.prog 45 (.agg #[.int .i64 0, .int .i64 0, .slice none 0 0, .int .i64 0, .pointer none, .pointer none, .pointer none, .slice none 0 0, .pointer none, .bool false, .int .i64 0, .int .i64 0, .int .i64 0]) := ⟨Tryz.zeroValue45⟩
theorem fa45_0 {K : Value → World → Prop} {w : World} (b o : Nat) : opS Tryz.prog (S.fa 45 (pt b o) 0) K w = K (pt b (o + 0)) w := opS_fa (T := 45) (hT := ⟨Tryz.underlying45⟩) (fd := ⟨_, 24, 0, _, _, _, _⟩) (n := 4) rfl (hs := sz24) (Nat.succ_ne_zero _) b o
attribute [push_cast] fa45_0
theorem fa45_1 {K : Value → World → Prop} {w : World} (b o : Nat) : opS Tryz.prog (S.fa 45 (pt b o) 1) K w = K (pt b (o + 4)) w := opS_fa (T := 45) (hT := ⟨Tryz.underlying45⟩) (fd := ⟨_, 38, 4, _, _, _, _⟩) (n := 1) rfl (hs := sz38) (Nat.succ_ne_zero _) b o
attribute [push_cast] fa45_1
theorem fa45_2 {K : Value → World → Prop} {w : World} (b o : Nat) : opS Tryz.prog (S.fa 45 (pt b o) 2) K w = K (pt b (o + 5)) w := opS_fa (T := 45) (hT := ⟨Tryz.underlying45⟩) (fd := ⟨_, 39, 5, _, _, _, _⟩) (n := 1) rfl (hs := sz39) (Nat.succ_ne_zero _) b o
attribute [push_cast] fa45_2
theorem fa45_3 {K : Value → World → Prop} {w : World} (b o : Nat) : opS Tryz.prog (S.fa 45 (pt b o) 3) K w = K (pt b (o + 6)) w := opS_fa (T := 45) (hT := ⟨Tryz.underlying45⟩) (fd := ⟨_, 40, 6, _, _, _, _⟩) (n := 1) rfl (hs := sz40) (Nat.succ_ne_zero _) b o
attribute [push_cast] fa45_3
theorem fa45_4 {K : Value → World → Prop} {w : World} (b o : Nat) : opS Tryz.prog (S.fa 45 (pt b o) 4) K w = K (pt b (o + 7)) w := opS_fa (T := 45) (hT := ⟨Tryz.underlying45⟩) (fd := ⟨_, 41, 7, _, _, _, _⟩) (n := 1) rfl (hs := sz41) (Nat.succ_ne_zero _) b o
attribute [push_cast] fa45_4
theorem fa45_5 {K : Value → World → Prop} {w : World} (b o : Nat) : opS Tryz.prog (S.fa 45 (pt b o) 5) K w = K (pt b (o + 8)) w := opS_fa (T := 45) (hT := ⟨Tryz.underlying45⟩) (fd := ⟨_, 42, 8, _, _, _, _⟩) (n := 1) rfl (hs := sz42) (Nat.succ_ne_zero _) b o
attribute [push_cast] fa45_5
theorem fa45_6 {K : Value → World → Prop} {w : World} (b o : Nat) : opS Tryz.prog (S.fa 45 (pt b o) 6) K w = K (pt b (o + 9)) w := opS_fa (T := 45) (hT := ⟨Tryz.underlying45⟩) (fd := ⟨_, 4, 9, _, _, _, _⟩) (n := 1) rfl (hs := sz4) (Nat.succ_ne_zero _) b o
attribute [push_cast] fa45_6
theorem fa45_7 {K : Value → World → Prop} {w : World} (b o : Nat) : opS Tryz.prog (S.fa 45 (pt b o) 7) K w = K (pt b (o + 10)) w := opS_fa (T := 45) (hT := ⟨Tryz.underlying45⟩) (fd := ⟨_, 43, 10, _, _, _, _⟩) (n := 3) rfl (hs := sz43) (Nat.succ_ne_zero _) b o
attribute [push_cast] fa45_7
instance bt45 : BT Tryz.prog 45 [[.int .i64 0, .int .i64 0, .slice none 0 0, .int .i64 0], [.pointer none], [.pointer none], [.pointer none], [.slice none 0 0], [.pointer none], [.bool false], [.int .i64 0, .int .i64 0, .int .i64 0]] := BT.ofStruct Tryz.underlying45 Tryz.zeroValue45 rfl (fun w => by kernel_rfl)
instance sz46 : Sz Tryz.prog 46 1 false := ⟨Tryz.sizeOf46, Tryz.isAgg46⟩
instance by46 : By Tryz.prog 46 8 := ⟨_, Tryz.typeInfo46, rfl⟩
instance zv46 : ZV Tryz.prog 46 (.pointer none) := ⟨Tryz.zeroValue46⟩
instance sz51 : Sz Tryz.prog 51 1 false := ⟨Tryz.sizeOf51, Tryz.isAgg51⟩
instance by51 : By Tryz.prog 51 24 := ⟨_, Tryz.typeInfo51, rfl⟩
instance zv51 : ZV Tryz.prog 51 (.slice none 0 0) := ⟨Tryz.zeroValue51⟩
instance sl51 : SlT Tryz.prog 51 65 := ⟨Tryz.underlying51⟩
instance sz52 : Sz Tryz.prog 52 6 true := ⟨Tryz.sizeOf52, Tryz.isAgg52⟩
instance by52 : By Tryz.prog 52 6 := ⟨_, Tryz.typeInfo52, rfl⟩
instance zv52 : ZV Tryz.prog 52 (.agg #[.int .u8 0, .int .u8 0, .int .u8 0, .int .u8 0, .int .u8 0, .int .u8 0]) := ⟨Tryz.zeroValue52⟩
instance eq52 : EqT Tryz.prog 52 := ⟨by kernel_rfl, Tryz.eqGuardType52, .inr ⟨_, _, Tryz.underlying52⟩⟩
instance ar52 : ArT Tryz.prog 52 6 5 := ⟨Tryz.underlying52⟩
instance bt52 : BT Tryz.prog 52 (List.replicate 6 [.int .u8 0]) := BT.ofArray Tryz.underlying52 Tryz.zeroValue52 rfl sz5 rfl
instance sz53 : Sz Tryz.prog 53 6 true := ⟨Tryz.sizeOf53, Tryz.isAgg53⟩
instance by53 : By Tryz.prog 53 6 := ⟨_, Tryz.typeInfo53, rfl⟩
instance zv53 : ZV Tryz.prog 53 (.agg #[.int .u8 0, .int .u8 0, .int .u8 0, .int .u8 0, .int .u8 0, .int .u8 0]) := ⟨Tryz.zeroValue53⟩
instance eq53 : EqT Tryz.prog 53 := ⟨by kernel_rfl, Tryz.eqGuardType53, .inr ⟨_, _, Tryz.underlying53⟩⟩
instance ar53 : ArT Tryz.prog 53 6 5 := ⟨Tryz.underlying53⟩
instance bt53 : BT Tryz.prog 53 (List.replicate 6 [.int .u8 0]) := BT.ofArray Tryz.underlying53 Tryz.zeroValue53 rfl sz5 rfl
instance sz54 : Sz Tryz.prog 54 1 false := ⟨Tryz.sizeOf54, Tryz.isAgg54⟩
instance by54 : By Tryz.prog 54 24 := ⟨_, Tryz.typeInfo54, rfl⟩
instance zv54 : ZV Tryz.prog 54 (.slice none 0 0) := ⟨Tryz.zeroValue54⟩
instance sl54 : SlT Tryz.prog 54 5 := ⟨Tryz.underlying54⟩
instance sz56 : Sz Tryz.prog 56 11 true := ⟨Tryz.sizeOf56, Tryz.isAgg56⟩
instance by56 : By Tryz.prog 56 64 := ⟨_, Tryz.typeInfo56, rfl⟩
instance zv56 : ZV Tryz.prog 56 (.agg #[.int .i64 0, .int .i64 0, .int .u8 0, .int .u8 0, .int .u8 0, .int .u8 0, .int .u8 0, .int .u8 0, .int .i64 0, .int .i64 0, .slice none 0 0]) := ⟨Tryz.zeroValue56⟩
instance bt56 : BT Tryz.prog 56 [[.int .i64 0], [.int .i64 0], [.int .u8 0, .int .u8 0, .int .u8 0, .int .u8 0, .int .u8 0, .int .u8 0], [.int .i64 0], [.int .i64 0], [.slice none 0 0]] := BT.ofStruct Tryz.underlying56 Tryz.zeroValue56 rfl (fun w => by kernel_rfl)
instance sz61 : Sz Tryz.prog 61 17 true := ⟨Tryz.sizeOf61, Tryz.isAgg61⟩
instance by61 : By Tryz.prog 61 64 := ⟨_, Tryz.typeInfo61, rfl⟩
instance zv61 : ZV Tryz.prog 61 (.agg #[.int .u8 0, .int .u8 0, .int .u8 0, .int .u8 0, .int .u8 0, .int .u8 0, .int .u8 0, .int .u8 0, .int .u8 0, .int .u8 0, .int .u8 0, .int .u8 0, .bool false, .int .i64 0, .int .i64 0, .int .i64 0, .slice none 0 0]) := ⟨Tryz.zeroValue61⟩
theorem fa61_0 {K : Value → World → Prop} {w : World} (b o : Nat) : opS Tryz.prog (S.fa 61 (pt b o) 0) K w = K (pt b (o + 0)) w := opS_fa (T := 61) (hT := ⟨Tryz.underlying61⟩) (fd := ⟨_, 53, 0, _, _, _, _⟩) (n := 6) rfl (hs := sz53) (Nat.succ_ne_zero _) b o
attribute [push_cast] fa61_0
theorem fa61_1 {K : Value → World → Prop} {w : World} (b o : Nat) : opS Tryz.prog (S.fa 61 (pt b o) 1) K w = K (pt b (o + 6)) w := opS_fa (T := 61) (hT := ⟨Tryz.underlying61⟩) (fd := ⟨_, 53, 6, _, _, _, _⟩) (n := 6) rfl (hs := sz53) (Nat.succ_ne_zero _) b o
attribute [push_cast] fa61_1
theorem fa61_2 {K : Value → World → Prop} {w : World} (b o : Nat) : opS Tryz.prog (S.fa 61 (pt b o) 2) K w = K (pt b (o + 12)) w := opS_fa (T := 61) (hT := ⟨Tryz.underlying61⟩) (fd := ⟨_, 4, 12, _, _, _, _⟩) (n := 1) rfl (hs := sz4) (Nat.succ_ne_zero _) b o
attribute [push_cast] fa61_2
theorem fa61_3 {K : Value → World → Prop} {w : World} (b o : Nat) : opS Tryz.prog (S.fa 61 (pt b o) 3) K w = K (pt b (o + 13)) w := opS_fa (T := 61) (hT := ⟨Tryz.underlying61⟩) (fd := ⟨_, 3, 13, _, _, _, _⟩) (n := 1) rfl (hs := sz3) (Nat.succ_ne_zero _) b o
attribute [push_cast] fa61_3
theorem fa61_4 {K : Value → World → Prop} {w : World} (b o : Nat) : opS Tryz.prog (S.fa 61 (pt b o) 4) K w = K (pt b (o + 14)) w := opS_fa (T := 61) (hT := ⟨Tryz.underlying61⟩) (fd := ⟨_, 3, 14, _, _, _, _⟩) (n := 1) rfl (hs := sz3) (Nat.succ_ne_zero _) b o
attribute [push_cast] fa61_4
theorem fa61_5 {K : Value → World → Prop} {w : World} (b o : Nat) : opS Tryz.prog (S.fa 61 (pt b o) 5) K w = K (pt b (o + 15)) w := opS_fa (T := 61) (hT := ⟨Tryz.underlying61⟩) (fd := ⟨_, 3, 15, _, _, _, _⟩) (n := 1) rfl (hs := sz3) (Nat.succ_ne_zero _) b o
attribute [push_cast] fa61_5
theorem fa61_6 {K : Value → World → Prop} {w : World} (b o : Nat) : opS Tryz.prog (S.fa 61 (pt b o) 6) K w = K (pt b (o + 16)) w := opS_fa (T := 61) (hT := ⟨Tryz.underlying61⟩) (fd := ⟨_, 54, 16, _, _, _, _⟩) (n := 1) rfl (hs := sz54) (Nat.succ_ne_zero _) b o
attribute [push_cast] fa61_6
instance bt61 : BT Tryz.prog 61 [[.int .u8 0, .int .u8 0, .int .u8 0, .int .u8 0, .int .u8 0, .int .u8 0], [.int .u8 0, .int .u8 0, .int .u8 0, .int .u8 0, .int .u8 0, .int .u8 0], [.bool false], [.int .i64 0], [.int .i64 0], [.int .i64 0], [.slice none 0 0]] := BT.ofStruct Tryz.underlying61 Tryz.zeroValue61 rfl (fun w => by kernel_rfl)
instance sz62 : Sz Tryz.prog 62 14 true := ⟨Tryz.sizeOf62, Tryz.isAgg62⟩
instance by62 : By Tryz.prog 62 88 := ⟨_, Tryz.typeInfo62, rfl⟩
instance zv62 : ZV Tryz.prog 62 (.agg #[.int .i64 0, .int .i64 0, .int .i64 0, .int .i64 0, .int .i64 0, .int .u8 0, .int .u8 0, .int .u8 0, .int .u8 0, .int .u8 0, .int .u8 0, .int .i64 0, .int .i64 0, .slice none 0 0]) := ⟨Tryz.zeroValue62⟩
instance bt62 : BT Tryz.prog 62 [[.int .i64 0], [.int .i64 0], [.int .i64 0], [.int .i64 0, .int .i64 0, .int .u8 0, .int .u8 0, .int .u8 0, .int .u8 0, .int .u8 0, .int .u8 0, .int .i64 0, .int .i64 0, .slice none 0 0]] := BT.ofStruct Tryz.underlying62 Tryz.zeroValue62 rfl (fun w => by kernel_rfl)
instance sz63 : Sz Tryz.prog 63 14 true := ⟨Tryz.sizeOf63, Tryz.isAgg63⟩
instance by63 : By Tryz.prog 63 88 := ⟨_, Tryz.typeInfo63, rfl⟩
instance zv63 : ZV Tryz.prog 63 (.agg #[.int .i64 0, .int .i64 0, .int .i64 0, .int .i64 0, .int .i64 0, .int .u8 0, .int .u8 0, .int .u8 0, .int .u8 0, .int .u8 0, .int .u8 0, .int .i64 0, .int .i64 0, .slice none 0 0]) := ⟨Tryz.zeroValue63⟩
instance bt63 : BT Tryz.prog 63 [[.int .i64 0], [.int .i64 0], [.int .i64 0], [.int .i64 0, .int .i64 0, .int .u8 0, .int .u8 0, .int .u8 0, .int .u8 0, .int .u8 0, .int .u8 0, .int .i64 0, .int .i64 0, .slice none 0 0]] := BT.ofStruct Tryz.underlying63 Tryz.zeroValue63 rfl (fun w => by kernel_rfl)
instance sz64 : Sz Tryz.prog 64 37 true := ⟨Tryz.sizeOf64, Tryz.isAgg64⟩
instance by64 : By Tryz.prog 64 200 := ⟨_, Tryz.typeInfo64, rfl⟩
instance zv64 : ZV Tryz.prog 64 (.agg #[.int .i64 0, .int .i64 0, .int .i64 0, .int .i64 0, .int .i64 0, .bool false, .int .u8 0, .int .u8 0, .int .u8 0, .int .u8 0, .int .u8 0, .int .u8 0, .int .u8 0, .int .u8 0, .int .u8 0, .int .u8 0, .int .u8 0, .int .u8 0, .bool false, .int .i64 0, .int .i64 0, .int .i64 0, .slice none 0 0, .int .i64 0, .int .i64 0, .int .i64 0, .int .i64 0, .int .i64 0, .int .u8 0, .int .u8 0, .int .u8 0, .int .u8 0, .int .u8 0, .int .u8 0, .int .i64 0, .int .i64 0, .slice none 0 0]) := ⟨Tryz.zeroValue64⟩
instance bt64 : BT Tryz.prog 64 [[.int .i64 0], [.int .i64 0], [.int .i64 0], [.int .i64 0], [.int .i64 0], [.bool false], [.int .u8 0, .int .u8 0, .int .u8 0, .int .u8 0, .int .u8 0, .int .u8 0, .int .u8 0, .int .u8 0, .int .u8 0, .int .u8 0, .int .u8 0, .int .u8 0, .bool false, .int .i64 0, .int .i64 0, .int .i64 0, .slice none 0 0], [.int .i64 0, .int .i64 0, .int .i64 0, .int .i64 0, .int .i64 0, .int .u8 0, .int .u8 0, .int .u8 0, .int .u8 0, .int .u8 0, .int .u8 0, .int .i64 0, .int .i64 0, .slice none 0 0]] := BT.ofStruct Tryz.underlying64 Tryz.zeroValue64 rfl (fun w => by kernel_rfl)
instance sz65 : Sz Tryz.prog 65 37 true := ⟨Tryz.sizeOf65, Tryz.isAgg65⟩
instance by65 : By Tryz.prog 65 200 := ⟨_, Tryz.typeInfo65, rfl⟩
instance zv65 : ZV Tryz.prog 65 (.agg #[.int .i64 0, .int .i64 0, .int .i64 0, .int .i64 0, .int .i64 0, .bool false, .int .u8 0, .int .u8 0, .int .u8 0, .int .u8 0, .int .u8 0, .int .u8 0, .int .u8 0, .int .u8 0, .int .u8 0, .int .u8 0, .int .u8 0, .int .u8 0, .bool false, .int .i64 0, .int .i64 0, .int .i64 0, .slice none 0 0, .int .i64 0, .int .i64 0, .int .i64 0, .int .i64 0, .int .i64 0, .int .u8 0, .int .u8 0, .int .u8 0, .int .u8 0, .int .u8 0, .int .u8 0, .int .i64 0, .int .i64 0, .slice none 0 0]) := ⟨Tryz.zeroValue65⟩
instance bt65 : BT Tryz.prog 65 [[.int .i64 0], [.int .i64 0], [.int .i64 0], [.int .i64 0], [.int .i64 0], [.bool false], [.int .u8 0, .int .u8 0, .int .u8 0, .int .u8 0, .int .u8 0, .int .u8 0, .int .u8 0, .int .u8 0, .int .u8 0, .int .u8 0, .int .u8 0, .int .u8 0, .bool false, .int .i64 0, .int .i64 0, .int .i64 0, .slice none 0 0], [.int .i64 0, .int .i64 0, .int .i64 0, .int .i64 0, .int .i64 0, .int .u8 0, .int .u8 0, .int .u8 0, .int .u8 0, .int .u8 0, .int .u8 0, .int .i64 0, .int .i64 0, .slice none 0 0]] := BT.ofStruct Tryz.underlying65 Tryz.zeroValue65 rfl (fun w => by kernel_rfl)
instance sz67 : Sz Tryz.prog 67 1 false := ⟨Tryz.sizeOf67, Tryz.isAgg67⟩
instance by67 : By Tryz.prog 67 24 := ⟨_, Tryz.typeInfo67, rfl⟩
instance zv67 : ZV Tryz.prog 67 (.slice none 0 0) := ⟨Tryz.zeroValue67⟩
instance sl67 : SlT Tryz.prog 67 86 := ⟨Tryz.underlying67⟩
instance sz68 : Sz Tryz.prog 68 1 false := ⟨Tryz.sizeOf68, Tryz.isAgg68⟩
instance by68 : By Tryz.prog 68 24 := ⟨_, Tryz.typeInfo68, rfl⟩
instance zv68 : ZV Tryz.prog 68 (.slice none 0 0) := ⟨Tryz.zeroValue68⟩
instance sl68 : SlT Tryz.prog 68 63 := ⟨Tryz.underlying68⟩
instance sz70 : Sz Tryz.prog 70 2 true := ⟨Tryz.sizeOf70, Tryz.isAgg70⟩
instance by70 : By Tryz.prog 70 48 := ⟨_, Tryz.typeInfo70, rfl⟩
instance zv70 : ZV Tryz.prog 70 (.agg #[.slice none 0 0, .slice none 0 0]) := ⟨Tryz.zeroValue70⟩
theorem fa70_0 {K : Value → World → Prop} {w : World} (b o : Nat) : opS Tryz.prog (S.fa 70 (pt b o) 0) K w = K (pt b (o + 0)) w := opS_fa (T := 70) (hT := ⟨Tryz.underlying70⟩) (fd := ⟨_, 67, 0, _, _, _, _⟩) (n := 1) rfl (hs := sz67) (Nat.succ_ne_zero _) b o
attribute [push_cast] fa70_0
theorem fa70_1 {K : Value → World → Prop} {w : World} (b o : Nat) : opS Tryz.prog (S.fa 70 (pt b o) 1) K w = K (pt b (o + 1)) w := opS_fa (T := 70) (hT := ⟨Tryz.underlying70⟩) (fd := ⟨_, 68, 1, _, _, _, _⟩) (n := 1) rfl (hs := sz68) (Nat.succ_ne_zero _) b o
attribute [push_cast] fa70_1
instance bt70 : BT Tryz.prog 70 [[.slice none 0 0], [.slice none 0 0]] := BT.ofStruct Tryz.underlying70 Tryz.zeroValue70 rfl (fun w => by kernel_rfl)
instance sz79 : Sz Tryz.prog 79 10 true := ⟨Tryz.sizeOf79, Tryz.isAgg79⟩
instance by79 : By Tryz.prog 79 40 := ⟨_, Tryz.typeInfo79, rfl⟩
instance zv79 : ZV Tryz.prog 79 (.agg #[.int .i64 0, .int .u8 0, .int .u8 0, .int .u8 0, .int .u8 0, .int .u8 0, .int .u8 0, .int .i64 0, .int .i64 0, .bool false]) := ⟨Tryz.zeroValue79⟩
instance eq79 : EqT Tryz.prog 79 := ⟨by kernel_rfl, Tryz.eqGuardType79, .inl ⟨_, Tryz.underlying79⟩⟩
instance bt79 : BT Tryz.prog 79 [[.int .i64 0], [.int .u8 0, .int .u8 0, .int .u8 0, .int .u8 0, .int .u8 0, .int .u8 0], [.int .i64 0], [.int .i64 0], [.bool false]] := BT.ofStruct Tryz.underlying79 Tryz.zeroValue79 rfl (fun w => by kernel_rfl)
instance sz80 : Sz Tryz.prog 80 10 true := ⟨Tryz.sizeOf80, Tryz.isAgg80⟩
instance by80 : By Tryz.prog 80 40 := ⟨_, Tryz.typeInfo80, rfl⟩
instance zv80 : ZV Tryz.prog 80 (.agg #[.int .i64 0, .int .u8 0, .int .u8 0, .int .u8 0, .int .u8 0, .int .u8 0, .int .u8 0, .int .i64 0, .int .i64 0, .bool false]) := ⟨Tryz.zeroValue80⟩
instance eq80 : EqT Tryz.prog 80 := ⟨by kernel_rfl, Tryz.eqGuardType80, .inl ⟨_, Tryz.underlying80⟩⟩
theorem fa80_0 {K : Value → World → Prop} {w : World} (b o : Nat) : opS Tryz.prog (S.fa 80 (pt b o) 0) K w = K (pt b (o + 0)) w := opS_fa (T := 80) (hT := ⟨Tryz.underlying80⟩) (fd := ⟨_, 3, 0, _, _, _, _⟩) (n := 1) rfl (hs := sz3) (Nat.succ_ne_zero _) b o
attribute [push_cast] fa80_0
theorem fa80_1 {K : Value → World → Prop} {w : World} (b o : Nat) : opS Tryz.prog (S.fa 80 (pt b o) 1) K w = K (pt b (o + 1)) w := opS_fa (T := 80) (hT := ⟨Tryz.underlying80⟩) (fd := ⟨_, 53, 1, _, _, _, _⟩) (n := 6) rfl (hs := sz53) (Nat.succ_ne_zero _) b o
attribute [push_cast] fa80_1
theorem fa80_2 {K : Value → World → Prop} {w : World} (b o : Nat) : opS Tryz.prog (S.fa 80 (pt b o) 2) K w = K (pt b (o + 7)) w := opS_fa (T := 80) (hT := ⟨Tryz.underlying80⟩) (fd := ⟨_, 3, 7, _, _, _, _⟩) (n := 1) rfl (hs := sz3) (Nat.succ_ne_zero _) b o
attribute [push_cast] fa80_2
theorem fa80_3 {K : Value → World → Prop} {w : World} (b o : Nat) : opS Tryz.prog (S.fa 80 (pt b o) 3) K w = K (pt b (o + 8)) w := opS_fa (T := 80) (hT := ⟨Tryz.underlying80⟩) (fd := ⟨_, 3, 8, _, _, _, _⟩) (n := 1) rfl (hs := sz3) (Nat.succ_ne_zero _) b o
attribute [push_cast] fa80_3
theorem fa80_4 {K : Value → World → Prop} {w : World} (b o : Nat) : opS Tryz.prog (S.fa 80 (pt b o) 4) K w = K (pt b (o + 9)) w := opS_fa (T := 80) (hT := ⟨Tryz.underlying80⟩) (fd := ⟨_, 4, 9, _, _, _, _⟩) (n := 1) rfl (hs := sz4) (Nat.succ_ne_zero _) b o
attribute [push_cast] fa80_4
instance bt80 : BT Tryz.prog 80 [[.int .i64 0], [.int .u8 0, .int .u8 0, .int .u8 0, .int .u8 0, .int .u8 0, .int .u8 0], [.int .i64 0], [.int .i64 0], [.bool false]] := BT.ofStruct Tryz.underlying80 Tryz.zeroValue80 rfl (fun w => by kernel_rfl)
instance sz82 : Sz Tryz.prog 82 1 false := ⟨Tryz.sizeOf82, Tryz.isAgg82⟩
instance by82 : By Tryz.prog 82 8 := ⟨_, Tryz.typeInfo82, rfl⟩
instance zv82 : ZV Tryz.prog 82 (.pointer none) := ⟨Tryz.zeroValue82⟩
instance sz85 : Sz Tryz.prog 85 18 true := ⟨Tryz.sizeOf85, Tryz.isAgg85⟩
instance by85 : By Tryz.prog 85 72 := ⟨_, Tryz.typeInfo85, rfl⟩
instance zv85 : ZV Tryz.prog 85 (.agg #[.int .i64 0, .int .u8 0, .int .u8 0, .int .u8 0, .int .u8 0, .int .u8 0, .int .u8 0, .int .u8 0, .int .u8 0, .int .u8 0, .int .u8 0, .int .u8 0, .int .u8 0, .bool false, .int .i64 0, .int .i64 0, .int .i64 0, .slice none 0 0]) := ⟨Tryz.zeroValue85⟩
instance bt85 : BT Tryz.prog 85 [[.int .i64 0], [.int .u8 0, .int .u8 0, .int .u8 0, .int .u8 0, .int .u8 0, .int .u8 0, .int .u8 0, .int .u8 0, .int .u8 0, .int .u8 0, .int .u8 0, .int .u8 0, .bool false, .int .i64 0, .int .i64 0, .int .i64 0, .slice none 0 0]] := BT.ofStruct Tryz.underlying85 Tryz.zeroValue85 rfl (fun w => by kernel_rfl)
instance sz86 : Sz Tryz.prog 86 18 true := ⟨Tryz.sizeOf86, Tryz.isAgg86⟩
instance by86 : By Tryz.prog 86 72 := ⟨_, Tryz.typeInfo86, rfl⟩
instance zv86 : ZV Tryz.prog 86 (.agg #[.int .i64 0, .int .u8 0, .int .u8 0, .int .u8 0, .int .u8 0, .int .u8 0, .int .u8 0, .int .u8 0, .int .u8 0, .int .u8 0, .int .u8 0, .int .u8 0, .int .u8 0, .bool false, .int .i64 0, .int .i64 0, .int .i64 0, .slice none 0 0]) := ⟨Tryz.zeroValue86⟩
theorem fa86_0 {K : Value → World → Prop} {w : World} (b o : Nat) : opS Tryz.prog (S.fa 86 (pt b o) 0) K w = K (pt b (o + 0)) w := opS_fa (T := 86) (hT := ⟨Tryz.underlying86⟩) (fd := ⟨_, 3, 0, _, _, _, _⟩) (n := 1) rfl (hs := sz3) (Nat.succ_ne_zero _) b o
attribute [push_cast] fa86_0
theorem fa86_1 {K : Value → World → Prop} {w : World} (b o : Nat) : opS Tryz.prog (S.fa 86 (pt b o) 1) K w = K (pt b (o + 1)) w := opS_fa (T := 86) (hT := ⟨Tryz.underlying86⟩) (fd := ⟨_, 61, 1, _, _, _, _⟩) (n := 17) rfl (hs := sz61) (Nat.succ_ne_zero _) b o
attribute [push_cast] fa86_1
instance bt86 : BT Tryz.prog 86 [[.int .i64 0], [.int .u8 0, .int .u8 0, .int .u8 0, .int .u8 0, .int .u8 0, .int .u8 0, .int .u8 0, .int .u8 0, .int .u8 0, .int .u8 0, .int .u8 0, .int .u8 0, .bool false, .int .i64 0, .int .i64 0, .int .i64 0, .slice none 0 0]] := BT.ofStruct Tryz.underlying86 Tryz.zeroValue86 rfl (fun w => by kernel_rfl)
instance sz96 : Sz Tryz.prog 96 1 false := ⟨Tryz.sizeOf96, Tryz.isAgg96⟩
instance by96 : By Tryz.prog 96 8 := ⟨_, Tryz.typeInfo96, rfl⟩
instance zv96 : ZV Tryz.prog 96 (.pointer none) := ⟨Tryz.zeroValue96⟩
instance sz99 : Sz Tryz.prog 99 1 false := ⟨Tryz.sizeOf99, Tryz.isAgg99⟩
instance by99 : By Tryz.prog 99 8 := ⟨_, Tryz.typeInfo99, rfl⟩
instance zv99 : ZV Tryz.prog 99 (.map none) := ⟨Tryz.zeroValue99⟩
instance mp99 : MpT Tryz.prog 99 3 4 := ⟨Tryz.underlying99⟩
instance sz100 : Sz Tryz.prog 100 1 false := ⟨Tryz.sizeOf100, Tryz.isAgg100⟩
instance by100 : By Tryz.prog 100 8 := ⟨_, Tryz.typeInfo100, rfl⟩
instance zv100 : ZV Tryz.prog 100 (.pointer none) := ⟨Tryz.zeroValue100⟩
instance sz101 : Sz Tryz.prog 101 11 true := ⟨Tryz.sizeOf101, Tryz.isAgg101⟩
instance by101 : By Tryz.prog 101 104 := ⟨_, Tryz.typeInfo101, rfl⟩
instance zv101 : ZV Tryz.prog 101 (.agg #[.pointer none, .int .i64 0, .slice none 0 0, .map none, .pointer none, .pointer none, .pointer none, .bool false, .int .i64 0, .int .i64 0, .int .i64 0]) := ⟨Tryz.zeroValue101⟩
instance bt101 : BT Tryz.prog 101 [[.pointer none], [.int .i64 0], [.slice none 0 0], [.map none], [.pointer none], [.pointer none], [.pointer none], [.bool false], [.int .i64 0, .int .i64 0, .int .i64 0]] := BT.ofStruct Tryz.underlying101 Tryz.zeroValue101 rfl (fun w => by kernel_rfl)
instance sz102 : Sz Tryz.prog 102 11 true := ⟨Tryz.sizeOf102, Tryz.isAgg102⟩
instance by102 : By Tryz.prog 102 104 := ⟨_, Tryz.typeInfo102, rfl⟩
instance zv102 : ZV Tryz.prog 102 (.agg #[.pointer none, .int .i64 0, .slice none 0 0, .map none, .pointer none, .pointer none, .pointer none, .bool false, .int .i64 0, .int .i64 0, .int .i64 0]) := ⟨Tryz.zeroValue102⟩
theorem fa102_0 {K : Value → World → Prop} {w : World} (b o : Nat) : opS Tryz.prog (S.fa 102 (pt b o) 0) K w = K (pt b (o + 0)) w := opS_fa (T := 102) (hT := ⟨Tryz.underlying102⟩) (fd := ⟨_, 96, 0, _, _, _, _⟩) (n := 1) rfl (hs := sz96) (Nat.succ_ne_zero _) b o
attribute [push_cast] fa102_0
theorem fa102_1 {K : Value → World → Prop} {w : World} (b o : Nat) : opS Tryz.prog (S.fa 102 (pt b o) 1) K w = K (pt b (o + 1)) w := opS_fa (T := 102) (hT := ⟨Tryz.underlying102⟩) (fd := ⟨_, 3, 1, _, _, _, _⟩) (n := 1) rfl (hs := sz3) (Nat.succ_ne_zero _) b o
attribute [push_cast] fa102_1
theorem fa102_2 {K : Value → World → Prop} {w : World} (b o : Nat) : opS Tryz.prog (S.fa 102 (pt b o) 2) K w = K (pt b (o + 2)) w := opS_fa (T := 102) (hT := ⟨Tryz.underlying102⟩) (fd := ⟨_, 22, 2, _, _, _, _⟩) (n := 1) rfl (hs := sz22) (Nat.succ_ne_zero _) b o
attribute [push_cast] fa102_2
theorem fa102_3 {K : Value → World → Prop} {w : World} (b o : Nat) : opS Tryz.prog (S.fa 102 (pt b o) 3) K w = K (pt b (o + 3)) w := opS_fa (T := 102) (hT := ⟨Tryz.underlying102⟩) (fd := ⟨_, 99, 3, _, _, _, _⟩) (n := 1) rfl (hs := sz99) (Nat.succ_ne_zero _) b o
attribute [push_cast] fa102_3
theorem fa102_4 {K : Value → World → Prop} {w : World} (b o : Nat) : opS Tryz.prog (S.fa 102 (pt b o) 4) K w = K (pt b (o + 4)) w := opS_fa (T := 102) (hT := ⟨Tryz.underlying102⟩) (fd := ⟨_, 46, 4, _, _, _, _⟩) (n := 1) rfl (hs := sz46) (Nat.succ_ne_zero _) b o
attribute [push_cast] fa102_4
theorem fa102_5 {K : Value → World → Prop} {w : World} (b o : Nat) : opS Tryz.prog (S.fa 102 (pt b o) 5) K w = K (pt b (o + 5)) w := opS_fa (T := 102) (hT := ⟨Tryz.underlying102⟩) (fd := ⟨_, 33, 5, _, _, _, _⟩) (n := 1) rfl (hs := sz33) (Nat.succ_ne_zero _) b o
attribute [push_cast] fa102_5
theorem fa102_6 {K : Value → World → Prop} {w : World} (b o : Nat) : opS Tryz.prog (S.fa 102 (pt b o) 6) K w = K (pt b (o + 6)) w := opS_fa (T := 102) (hT := ⟨Tryz.underlying102⟩) (fd := ⟨_, 100, 6, _, _, _, _⟩) (n := 1) rfl (hs := sz100) (Nat.succ_ne_zero _) b o
attribute [push_cast] fa102_6
theorem fa102_7 {K : Value → World → Prop} {w : World} (b o : Nat) : opS Tryz.prog (S.fa 102 (pt b o) 7) K w = K (pt b (o + 7)) w := opS_fa (T := 102) (hT := ⟨Tryz.underlying102⟩) (fd := ⟨_, 4, 7, _, _, _, _⟩) (n := 1) rfl (hs := sz4) (Nat.succ_ne_zero _) b o
attribute [push_cast] fa102_7
theorem fa102_8 {K : Value → World → Prop} {w : World} (b o : Nat) : opS Tryz.prog (S.fa 102 (pt b o) 8) K w = K (pt b (o + 8)) w := opS_fa (T := 102) (hT := ⟨Tryz.underlying102⟩) (fd := ⟨_, 43, 8, _, _, _, _⟩) (n := 3) rfl (hs := sz43) (Nat.succ_ne_zero _) b o
attribute [push_cast] fa102_8
instance bt102 : BT Tryz.prog 102 [[.pointer none], [.int .i64 0], [.slice none 0 0], [.map none], [.pointer none], [.pointer none], [.pointer none], [.bool false], [.int .i64 0, .int .i64 0, .int .i64 0]] := BT.ofStruct Tryz.underlying102 Tryz.zeroValue102 rfl (fun w => by kernel_rfl)
instance sz109 : Sz Tryz.prog 109 2 true := ⟨Tryz.sizeOf109, Tryz.isAgg109⟩
instance by109 : By Tryz.prog 109 16 := ⟨_, Tryz.typeInfo109, rfl⟩
instance zv109 : ZV Tryz.prog 109 (.agg #[.int .i64 0, .int .i64 0]) := ⟨Tryz.zeroValue109⟩
instance eq109 : EqT Tryz.prog 109 := ⟨by kernel_rfl, Tryz.eqGuardType109, .inr ⟨_, _, Tryz.underlying109⟩⟩
instance ar109 : ArT Tryz.prog 109 2 3 := ⟨Tryz.underlying109⟩
instance bt109 : BT Tryz.prog 109 (List.replicate 2 [.int .i64 0]) := BT.ofArray Tryz.underlying109 Tryz.zeroValue109 rfl sz3 rfl
instance sz110 : Sz Tryz.prog 110 2 true := ⟨Tryz.sizeOf110, Tryz.isAgg110⟩
instance by110 : By Tryz.prog 110 16 := ⟨_, Tryz.typeInfo110, rfl⟩
instance zv110 : ZV Tryz.prog 110 (.agg #[.int .i64 0, .int .i64 0]) := ⟨Tryz.zeroValue110⟩
instance eq110 : EqT Tryz.prog 110 := ⟨by kernel_rfl, Tryz.eqGuardType110, .inr ⟨_, _, Tryz.underlying110⟩⟩
instance ar110 : ArT Tryz.prog 110 2 3 := ⟨Tryz.underlying110⟩
instance bt110 : BT Tryz.prog 110 (List.replicate 2 [.int .i64 0]) := BT.ofArray Tryz.underlying110 Tryz.zeroValue110 rfl sz3 rfl
instance sz112 : Sz Tryz.prog 112 11 true := ⟨Tryz.sizeOf112, Tryz.isAgg112⟩
instance by112 : By Tryz.prog 112 88 := ⟨_, Tryz.typeInfo112, rfl⟩
instance zv112 : ZV Tryz.prog 112 (.agg #[.int .i64 0, .int .i64 0, .int .i64 0, .int .i64 0, .int .i64 0, .int .i64 0, .bool false, .int .i64 0, .int .i64 0, .int .i64 0, .int .i64 0]) := ⟨Tryz.zeroValue112⟩
instance eq112 : EqT Tryz.prog 112 := ⟨by kernel_rfl, Tryz.eqGuardType112, .inl ⟨_, Tryz.underlying112⟩⟩
theorem fa112_0 {K : Value → World → Prop} {w : World} (b o : Nat) : opS Tryz.prog (S.fa 112 (pt b o) 0) K w = K (pt b (o + 0)) w := opS_fa (T := 112) (hT := ⟨Tryz.underlying112⟩) (fd := ⟨_, 110, 0, _, _, _, _⟩) (n := 2) rfl (hs := sz110) (Nat.succ_ne_zero _) b o
attribute [push_cast] fa112_0
theorem fa112_1 {K : Value → World → Prop} {w : World} (b o : Nat) : opS Tryz.prog (S.fa 112 (pt b o) 1) K w = K (pt b (o + 2)) w := opS_fa (T := 112) (hT := ⟨Tryz.underlying112⟩) (fd := ⟨_, 110, 2, _, _, _, _⟩) (n := 2) rfl (hs := sz110) (Nat.succ_ne_zero _) b o
attribute [push_cast] fa112_1
theorem fa112_2 {K : Value → World → Prop} {w : World} (b o : Nat) : opS Tryz.prog (S.fa 112 (pt b o) 2) K w = K (pt b (o + 4)) w := opS_fa (T := 112) (hT := ⟨Tryz.underlying112⟩) (fd := ⟨_, 3, 4, _, _, _, _⟩) (n := 1) rfl (hs := sz3) (Nat.succ_ne_zero _) b o
attribute [push_cast] fa112_2
theorem fa112_3 {K : Value → World → Prop} {w : World} (b o : Nat) : opS Tryz.prog (S.fa 112 (pt b o) 3) K w = K (pt b (o + 5)) w := opS_fa (T := 112) (hT := ⟨Tryz.underlying112⟩) (fd := ⟨_, 3, 5, _, _, _, _⟩) (n := 1) rfl (hs := sz3) (Nat.succ_ne_zero _) b o
attribute [push_cast] fa112_3
theorem fa112_4 {K : Value → World → Prop} {w : World} (b o : Nat) : opS Tryz.prog (S.fa 112 (pt b o) 4) K w = K (pt b (o + 6)) w := opS_fa (T := 112) (hT := ⟨Tryz.underlying112⟩) (fd := ⟨_, 4, 6, _, _, _, _⟩) (n := 1) rfl (hs := sz4) (Nat.succ_ne_zero _) b o
attribute [push_cast] fa112_4
theorem fa112_5 {K : Value → World → Prop} {w : World} (b o : Nat) : opS Tryz.prog (S.fa 112 (pt b o) 5) K w = K (pt b (o + 7)) w := opS_fa (T := 112) (hT := ⟨Tryz.underlying112⟩) (fd := ⟨_, 3, 7, _, _, _, _⟩) (n := 1) rfl (hs := sz3) (Nat.succ_ne_zero _) b o
attribute [push_cast] fa112_5
theorem fa112_6 {K : Value → World → Prop} {w : World} (b o : Nat) : opS Tryz.prog (S.fa 112 (pt b o) 6) K w = K (pt b (o + 8)) w := opS_fa (T := 112) (hT := ⟨Tryz.underlying112⟩) (fd := ⟨_, 3, 8, _, _, _, _⟩) (n := 1) rfl (hs := sz3) (Nat.succ_ne_zero _) b o
attribute [push_cast] fa112_6
theorem fa112_7 {K : Value → World → Prop} {w : World} (b o : Nat) : opS Tryz.prog (S.fa 112 (pt b o) 7) K w = K (pt b (o + 9)) w := opS_fa (T := 112) (hT := ⟨Tryz.underlying112⟩) (fd := ⟨_, 3, 9, _, _, _, _⟩) (n := 1) rfl (hs := sz3) (Nat.succ_ne_zero _) b o
attribute [push_cast] fa112_7
theorem fa112_8 {K : Value → World → Prop} {w : World} (b o : Nat) : opS Tryz.prog (S.fa 112 (pt b o) 8) K w = K (pt b (o + 10)) w := opS_fa (T := 112) (hT := ⟨Tryz.underlying112⟩) (fd := ⟨_, 3, 10, _, _, _, _⟩) (n := 1) rfl (hs := sz3) (Nat.succ_ne_zero _) b o
attribute [push_cast] fa112_8
instance bt112 : BT Tryz.prog 112 [[.int .i64 0, .int .i64 0], [.int .i64 0, .int .i64 0], [.int .i64 0], [.int .i64 0], [.bool false], [.int .i64 0], [.int .i64 0], [.int .i64 0], [.int .i64 0]] := BT.ofStruct Tryz.underlying112 Tryz.zeroValue112 rfl (fun w => by kernel_rfl)
instance sz113 : Sz Tryz.prog 113 1 false := ⟨Tryz.sizeOf113, Tryz.isAgg113⟩
instance by113 : By Tryz.prog 113 8 := ⟨_, Tryz.typeInfo113, rfl⟩
instance zv113 : ZV Tryz.prog 113 (.pointer none) := ⟨Tryz.zeroValue113⟩
instance sz114 : Sz Tryz.prog 114 9 true := ⟨Tryz.sizeOf114, Tryz.isAgg114⟩
instance by114 : By Tryz.prog 114 72 := ⟨_, Tryz.typeInfo114, rfl⟩
instance zv114 : ZV Tryz.prog 114 (.agg #[.int .i64 0, .int .i64 0, .int .i64 0, .int .i64 0, .int .i64 0, .int .i64 0, .int .i64 0, .int .i64 0, .int .i64 0]) := ⟨Tryz.zeroValue114⟩
instance eq114 : EqT Tryz.prog 114 := ⟨by kernel_rfl, Tryz.eqGuardType114, .inr ⟨_, _, Tryz.underlying114⟩⟩
instance ar114 : ArT Tryz.prog 114 9 3 := ⟨Tryz.underlying114⟩
instance bt114 : BT Tryz.prog 114 (List.replicate 9 [.int .i64 0]) := BT.ofArray Tryz.underlying114 Tryz.zeroValue114 rfl sz3 rfl
instance sz116 : Sz Tryz.prog 116 15 true := ⟨Tryz.sizeOf116, Tryz.isAgg116⟩
instance by116 : By Tryz.prog 116 136 := ⟨_, Tryz.typeInfo116, rfl⟩
instance zv116 : ZV Tryz.prog 116 (.agg #[.pointer none, .pointer none, .slice none 0 0, .int .i64 0, .int .i64 0, .int .i64 0, .int .i64 0, .int .i64 0, .int .i64 0, .int .i64 0, .int .i64 0, .int .i64 0, .int .i64 0, .int .i64 0, .int .i64 0]) := ⟨Tryz.zeroValue116⟩
theorem fa116_0 {K : Value → World → Prop} {w : World} (b o : Nat) : opS Tryz.prog (S.fa 116 (pt b o) 0) K w = K (pt b (o + 0)) w := opS_fa (T := 116) (hT := ⟨Tryz.underlying116⟩) (fd := ⟨_, 113, 0, _, _, _, _⟩) (n := 1) rfl (hs := sz113) (Nat.succ_ne_zero _) b o
attribute [push_cast] fa116_0
theorem fa116_1 {K : Value → World → Prop} {w : World} (b o : Nat) : opS Tryz.prog (S.fa 116 (pt b o) 1) K w = K (pt b (o + 1)) w := opS_fa (T := 116) (hT := ⟨Tryz.underlying116⟩) (fd := ⟨_, 82, 1, _, _, _, _⟩) (n := 1) rfl (hs := sz82) (Nat.succ_ne_zero _) b o
attribute [push_cast] fa116_1
theorem fa116_2 {K : Value → World → Prop} {w : World} (b o : Nat) : opS Tryz.prog (S.fa 116 (pt b o) 2) K w = K (pt b (o + 2)) w := opS_fa (T := 116) (hT := ⟨Tryz.underlying116⟩) (fd := ⟨_, 22, 2, _, _, _, _⟩) (n := 1) rfl (hs := sz22) (Nat.succ_ne_zero _) b o
attribute [push_cast] fa116_2
theorem fa116_3 {K : Value → World → Prop} {w : World} (b o : Nat) : opS Tryz.prog (S.fa 116 (pt b o) 3) K w = K (pt b (o + 3)) w := opS_fa (T := 116) (hT := ⟨Tryz.underlying116⟩) (fd := ⟨_, 114, 3, _, _, _, _⟩) (n := 9) rfl (hs := sz114) (Nat.succ_ne_zero _) b o
attribute [push_cast] fa116_3
theorem fa116_4 {K : Value → World → Prop} {w : World} (b o : Nat) : opS Tryz.prog (S.fa 116 (pt b o) 4) K w = K (pt b (o + 12)) w := opS_fa (T := 116) (hT := ⟨Tryz.underlying116⟩) (fd := ⟨_, 43, 12, _, _, _, _⟩) (n := 3) rfl (hs := sz43) (Nat.succ_ne_zero _) b o
attribute [push_cast] fa116_4
instance bt116 : BT Tryz.prog 116 [[.pointer none], [.pointer none], [.slice none 0 0], [.int .i64 0, .int .i64 0, .int .i64 0, .int .i64 0, .int .i64 0, .int .i64 0, .int .i64 0, .int .i64 0, .int .i64 0], [.int .i64 0, .int .i64 0, .int .i64 0]] := BT.ofStruct Tryz.underlying116 Tryz.zeroValue116 rfl (fun w => by kernel_rfl)
instance sz120 : Sz Tryz.prog 120 1 false := ⟨Tryz.sizeOf120, Tryz.isAgg120⟩
instance by120 : By Tryz.prog 120 8 := ⟨_, Tryz.typeInfo120, rfl⟩
instance zv120 : ZV Tryz.prog 120 (.pointer none) := ⟨Tryz.zeroValue120⟩
instance sz121 : Sz Tryz.prog 121 1 false := ⟨Tryz.sizeOf121, Tryz.isAgg121⟩
instance by121 : By Tryz.prog 121 8 := ⟨_, Tryz.typeInfo121, rfl⟩
instance zv121 : ZV Tryz.prog 121 (.pointer none) := ⟨Tryz.zeroValue121⟩
instance sz123 : Sz Tryz.prog 123 16 true := ⟨Tryz.sizeOf123, Tryz.isAgg123⟩
instance by123 : By Tryz.prog 123 144 := ⟨_, Tryz.typeInfo123, rfl⟩
instance zv123 : ZV Tryz.prog 123 (.agg #[.int .i64 0, .pointer none, .pointer none, .slice none 0 0, .int .i64 0, .int .i64 0, .int .i64 0, .int .i64 0, .int .i64 0, .int .i64 0, .int .i64 0, .int .i64 0, .int .i64 0, .int .i64 0, .int .i64 0, .int .i64 0]) := ⟨Tryz.zeroValue123⟩
theorem fa123_0 {K : Value → World → Prop} {w : World} (b o : Nat) : opS Tryz.prog (S.fa 123 (pt b o) 0) K w = K (pt b (o + 0)) w := opS_fa (T := 123) (hT := ⟨Tryz.underlying123⟩) (fd := ⟨_, 3, 0, _, _, _, _⟩) (n := 1) rfl (hs := sz3) (Nat.succ_ne_zero _) b o
attribute [push_cast] fa123_0
theorem fa123_1 {K : Value → World → Prop} {w : World} (b o : Nat) : opS Tryz.prog (S.fa 123 (pt b o) 1) K w = K (pt b (o + 1)) w := opS_fa (T := 123) (hT := ⟨Tryz.underlying123⟩) (fd := ⟨_, 120, 1, _, _, _, _⟩) (n := 1) rfl (hs := sz120) (Nat.succ_ne_zero _) b o
attribute [push_cast] fa123_1
theorem fa123_2 {K : Value → World → Prop} {w : World} (b o : Nat) : opS Tryz.prog (S.fa 123 (pt b o) 2) K w = K (pt b (o + 2)) w := opS_fa (T := 123) (hT := ⟨Tryz.underlying123⟩) (fd := ⟨_, 121, 2, _, _, _, _⟩) (n := 1) rfl (hs := sz121) (Nat.succ_ne_zero _) b o
attribute [push_cast] fa123_2
theorem fa123_3 {K : Value → World → Prop} {w : World} (b o : Nat) : opS Tryz.prog (S.fa 123 (pt b o) 3) K w = K (pt b (o + 3)) w := opS_fa (T := 123) (hT := ⟨Tryz.underlying123⟩) (fd := ⟨_, 22, 3, _, _, _, _⟩) (n := 1) rfl (hs := sz22) (Nat.succ_ne_zero _) b o
attribute [push_cast] fa123_3
theorem fa123_4 {K : Value → World → Prop} {w : World} (b o : Nat) : opS Tryz.prog (S.fa 123 (pt b o) 4) K w = K (pt b (o + 4)) w := opS_fa (T := 123) (hT := ⟨Tryz.underlying123⟩) (fd := ⟨_, 114, 4, _, _, _, _⟩) (n := 9) rfl (hs := sz114) (Nat.succ_ne_zero _) b o
attribute [push_cast] fa123_4
theorem fa123_5 {K : Value → World → Prop} {w : World} (b o : Nat) : opS Tryz.prog (S.fa 123 (pt b o) 5) K w = K (pt b (o + 13)) w := opS_fa (T := 123) (hT := ⟨Tryz.underlying123⟩) (fd := ⟨_, 43, 13, _, _, _, _⟩) (n := 3) rfl (hs := sz43) (Nat.succ_ne_zero _) b o
attribute [push_cast] fa123_5
instance bt123 : BT Tryz.prog 123 [[.int .i64 0], [.pointer none], [.pointer none], [.slice none 0 0], [.int .i64 0, .int .i64 0, .int .i64 0, .int .i64 0, .int .i64 0, .int .i64 0, .int .i64 0, .int .i64 0, .int .i64 0], [.int .i64 0, .int .i64 0, .int .i64 0]] := BT.ofStruct Tryz.underlying123 Tryz.zeroValue123 rfl (fun w => by kernel_rfl)
instance sz135 : Sz Tryz.prog 135 1 false := ⟨Tryz.sizeOf135, Tryz.isAgg135⟩
instance by135 : By Tryz.prog 135 24 := ⟨_, Tryz.typeInfo135, rfl⟩
instance zv135 : ZV Tryz.prog 135 (.slice none 0 0) := ⟨Tryz.zeroValue135⟩
instance sl135 : SlT Tryz.prog 135 56 := ⟨Tryz.underlying135⟩
instance sz141 : Sz Tryz.prog 141 4 true := ⟨Tryz.sizeOf141, Tryz.isAgg141⟩
instance by141 : By Tryz.prog 141 48 := ⟨_, Tryz.typeInfo141, rfl⟩
instance zv141 : ZV Tryz.prog 141 (.agg #[.int .i64 0, .int .i64 0, .int .i64 0, .slice none 0 0]) := ⟨Tryz.zeroValue141⟩
theorem fa141_0 {K : Value → World → Prop} {w : World} (b o : Nat) : opS Tryz.prog (S.fa 141 (pt b o) 0) K w = K (pt b (o + 0)) w := opS_fa (T := 141) (hT := ⟨Tryz.underlying141⟩) (fd := ⟨_, 3, 0, _, _, _, _⟩) (n := 1) rfl (hs := sz3) (Nat.succ_ne_zero _) b o
attribute [push_cast] fa141_0
theorem fa141_1 {K : Value → World → Prop} {w : World} (b o : Nat) : opS Tryz.prog (S.fa 141 (pt b o) 1) K w = K (pt b (o + 1)) w := opS_fa (T := 141) (hT := ⟨Tryz.underlying141⟩) (fd := ⟨_, 3, 1, _, _, _, _⟩) (n := 1) rfl (hs := sz3) (Nat.succ_ne_zero _) b o
attribute [push_cast] fa141_1
theorem fa141_2 {K : Value → World → Prop} {w : World} (b o : Nat) : opS Tryz.prog (S.fa 141 (pt b o) 2) K w = K (pt b (o + 2)) w := opS_fa (T := 141) (hT := ⟨Tryz.underlying141⟩) (fd := ⟨_, 3, 2, _, _, _, _⟩) (n := 1) rfl (hs := sz3) (Nat.succ_ne_zero _) b o
attribute [push_cast] fa141_2
theorem fa141_3 {K : Value → World → Prop} {w : World} (b o : Nat) : opS Tryz.prog (S.fa 141 (pt b o) 3) K w = K (pt b (o + 3)) w := opS_fa (T := 141) (hT := ⟨Tryz.underlying141⟩) (fd := ⟨_, 67, 3, _, _, _, _⟩) (n := 1) rfl (hs := sz67) (Nat.succ_ne_zero _) b o
attribute [push_cast] fa141_3
instance bt141 : BT Tryz.prog 141 [[.int .i64 0], [.int .i64 0], [.int .i64 0], [.slice none 0 0]] := BT.ofStruct Tryz.underlying141 Tryz.zeroValue141 rfl (fun w => by kernel_rfl)
instance sz147 : Sz Tryz.prog 147 1 false := ⟨Tryz.sizeOf147, Tryz.isAgg147⟩
instance by147 : By Tryz.prog 147 24 := ⟨_, Tryz.typeInfo147, rfl⟩
instance zv147 : ZV Tryz.prog 147 (.slice none 0 0) := ⟨Tryz.zeroValue147⟩
instance sl147 : SlT Tryz.prog 147 80 := ⟨Tryz.underlying147⟩
instance sz149 : Sz Tryz.prog 149 2 true := ⟨Tryz.sizeOf149, Tryz.isAgg149⟩
instance by149 : By Tryz.prog 149 32 := ⟨_, Tryz.typeInfo149, rfl⟩
instance zv149 : ZV Tryz.prog 149 (.agg #[.slice none 0 0, .int .i64 0]) := ⟨Tryz.zeroValue149⟩
theorem fa149_0 {K : Value → World → Prop} {w : World} (b o : Nat) : opS Tryz.prog (S.fa 149 (pt b o) 0) K w = K (pt b (o + 0)) w := opS_fa (T := 149) (hT := ⟨Tryz.underlying149⟩) (fd := ⟨_, 147, 0, _, _, _, _⟩) (n := 1) rfl (hs := sz147) (Nat.succ_ne_zero _) b o
attribute [push_cast] fa149_0
theorem fa149_1 {K : Value → World → Prop} {w : World} (b o : Nat) : opS Tryz.prog (S.fa 149 (pt b o) 1) K w = K (pt b (o + 1)) w := opS_fa (T := 149) (hT := ⟨Tryz.underlying149⟩) (fd := ⟨_, 3, 1, _, _, _, _⟩) (n := 1) rfl (hs := sz3) (Nat.succ_ne_zero _) b o
attribute [push_cast] fa149_1
instance bt149 : BT Tryz.prog 149 [[.slice none 0 0], [.int .i64 0]] := BT.ofStruct Tryz.underlying149 Tryz.zeroValue149 rfl (fun w => by kernel_rfl)
instance sz153 : Sz Tryz.prog 153 2 true := ⟨Tryz.sizeOf153, Tryz.isAgg153⟩
instance by153 : By Tryz.prog 153 32 := ⟨_, Tryz.typeInfo153, rfl⟩
instance zv153 : ZV Tryz.prog 153 (.agg #[.int .i64 0, .slice none 0 0]) := ⟨Tryz.zeroValue153⟩
instance bt153 : BT Tryz.prog 153 [[.int .i64 0], [.slice none 0 0]] := BT.ofStruct Tryz.underlying153 Tryz.zeroValue153 rfl (fun w => by kernel_rfl)
instance sz154 : Sz Tryz.prog 154 2 true := ⟨Tryz.sizeOf154, Tryz.isAgg154⟩
instance by154 : By Tryz.prog 154 32 := ⟨_, Tryz.typeInfo154, rfl⟩
instance zv154 : ZV Tryz.prog 154 (.agg #[.int .i64 0, .slice none 0 0]) := ⟨Tryz.zeroValue154⟩
theorem fa154_0 {K : Value → World → Prop} {w : World} (b o : Nat) : opS Tryz.prog (S.fa 154 (pt b o) 0) K w = K (pt b (o + 0)) w := opS_fa (T := 154) (hT := ⟨Tryz.underlying154⟩) (fd := ⟨_, 3, 0, _, _, _, _⟩) (n := 1) rfl (hs := sz3) (Nat.succ_ne_zero _) b o
attribute [push_cast] fa154_0
theorem fa154_1 {K : Value → World → Prop} {w : World} (b o : Nat) : opS Tryz.prog (S.fa 154 (pt b o) 1) K w = K (pt b (o + 1)) w := opS_fa (T := 154) (hT := ⟨Tryz.underlying154⟩) (fd := ⟨_, 147, 1, _, _, _, _⟩) (n := 1) rfl (hs := sz147) (Nat.succ_ne_zero _) b o
attribute [push_cast] fa154_1
instance bt154 : BT Tryz.prog 154 [[.int .i64 0], [.slice none 0 0]] := BT.ofStruct Tryz.underlying154 Tryz.zeroValue154 rfl (fun w => by kernel_rfl)
instance sz166 : Sz Tryz.prog 166 1 false := ⟨Tryz.sizeOf166, Tryz.isAgg166⟩
instance by166 : By Tryz.prog 166 24 := ⟨_, Tryz.typeInfo166, rfl⟩
instance zv166 : ZV Tryz.prog 166 (.slice none 0 0) := ⟨Tryz.zeroValue166⟩
instance sl166 : SlT Tryz.prog 166 179 := ⟨Tryz.underlying166⟩
instance sz167 : Sz Tryz.prog 167 3 true := ⟨Tryz.sizeOf167, Tryz.isAgg167⟩
instance by167 : By Tryz.prog 167 32 := ⟨_, Tryz.typeInfo167, rfl⟩
instance zv167 : ZV Tryz.prog 167 (.agg #[.slice none 0 0, .bool false, .bool false]) := ⟨Tryz.zeroValue167⟩
instance bt167 : BT Tryz.prog 167 [[.slice none 0 0], [.bool false], [.bool false]] := BT.ofStruct Tryz.underlying167 Tryz.zeroValue167 rfl (fun w => by kernel_rfl)
instance sz168 : Sz Tryz.prog 168 3 true := ⟨Tryz.sizeOf168, Tryz.isAgg168⟩
instance by168 : By Tryz.prog 168 32 := ⟨_, Tryz.typeInfo168, rfl⟩
instance zv168 : ZV Tryz.prog 168 (.agg #[.slice none 0 0, .bool false, .bool false]) := ⟨Tryz.zeroValue168⟩
theorem fa168_0 {K : Value → World → Prop} {w : World} (b o : Nat) : opS Tryz.prog (S.fa 168 (pt b o) 0) K w = K (pt b (o + 0)) w := opS_fa (T := 168) (hT := ⟨Tryz.underlying168⟩) (fd := ⟨_, 166, 0, _, _, _, _⟩) (n := 1) rfl (hs := sz166) (Nat.succ_ne_zero _) b o
attribute [push_cast] fa168_0
theorem fa168_1 {K : Value → World → Prop} {w : World} (b o : Nat) : opS Tryz.prog (S.fa 168 (pt b o) 1) K w = K (pt b (o + 1)) w := opS_fa (T := 168) (hT := ⟨Tryz.underlying168⟩) (fd := ⟨_, 4, 1, _, _, _, _⟩) (n := 1) rfl (hs := sz4) (Nat.succ_ne_zero _) b o
attribute [push_cast] fa168_1
theorem fa168_2 {K : Value → World → Prop} {w : World} (b o : Nat) : opS Tryz.prog (S.fa 168 (pt b o) 2) K w = K (pt b (o + 2)) w := opS_fa (T := 168) (hT := ⟨Tryz.underlying168⟩) (fd := ⟨_, 4, 2, _, _, _, _⟩) (n := 1) rfl (hs := sz4) (Nat.succ_ne_zero _) b o
attribute [push_cast] fa168_2
instance bt168 : BT Tryz.prog 168 [[.slice none 0 0], [.bool false], [.bool false]] := BT.ofStruct Tryz.underlying168 Tryz.zeroValue168 rfl (fun w => by kernel_rfl)
instance sz173 : Sz Tryz.prog 173 1 false := ⟨Tryz.sizeOf173, Tryz.isAgg173⟩
instance by173 : By Tryz.prog 173 24 := ⟨_, Tryz.typeInfo173, rfl⟩
instance zv173 : ZV Tryz.prog 173 (.slice none 0 0) := ⟨Tryz.zeroValue173⟩
instance sl173 : SlT Tryz.prog 173 244 := ⟨Tryz.underlying173⟩
instance sz174 : Sz Tryz.prog 174 3 true := ⟨Tryz.sizeOf174, Tryz.isAgg174⟩
instance by174 : By Tryz.prog 174 32 := ⟨_, Tryz.typeInfo174, rfl⟩
instance zv174 : ZV Tryz.prog 174 (.agg #[.slice none 0 0, .bool false, .bool false]) := ⟨Tryz.zeroValue174⟩
instance bt174 : BT Tryz.prog 174 [[.slice none 0 0], [.bool false], [.bool false]] := BT.ofStruct Tryz.underlying174 Tryz.zeroValue174 rfl (fun w => by kernel_rfl)
instance sz175 : Sz Tryz.prog 175 3 true := ⟨Tryz.sizeOf175, Tryz.isAgg175⟩
instance by175 : By Tryz.prog 175 32 := ⟨_, Tryz.typeInfo175, rfl⟩
instance zv175 : ZV Tryz.prog 175 (.agg #[.slice none 0 0, .bool false, .bool false]) := ⟨Tryz.zeroValue175⟩
theorem fa175_0 {K : Value → World → Prop} {w : World} (b o : Nat) : opS Tryz.prog (S.fa 175 (pt b o) 0) K w = K (pt b (o + 0)) w := opS_fa (T := 175) (hT := ⟨Tryz.underlying175⟩) (fd := ⟨_, 173, 0, _, _, _, _⟩) (n := 1) rfl (hs := sz173) (Nat.succ_ne_zero _) b o
attribute [push_cast] fa175_0
theorem fa175_1 {K : Value → World → Prop} {w : World} (b o : Nat) : opS Tryz.prog (S.fa 175 (pt b o) 1) K w = K (pt b (o + 1)) w := opS_fa (T := 175) (hT := ⟨Tryz.underlying175⟩) (fd := ⟨_, 4, 1, _, _, _, _⟩) (n := 1) rfl (hs := sz4) (Nat.succ_ne_zero _) b o
attribute [push_cast] fa175_1
theorem fa175_2 {K : Value → World → Prop} {w : World} (b o : Nat) : opS Tryz.prog (S.fa 175 (pt b o) 2) K w = K (pt b (o + 2)) w := opS_fa (T := 175) (hT := ⟨Tryz.underlying175⟩) (fd := ⟨_, 4, 2, _, _, _, _⟩) (n := 1) rfl (hs := sz4) (Nat.succ_ne_zero _) b o
attribute [push_cast] fa175_2
instance bt175 : BT Tryz.prog 175 [[.slice none 0 0], [.bool false], [.bool false]] := BT.ofStruct Tryz.underlying175 Tryz.zeroValue175 rfl (fun w => by kernel_rfl)
instance sz176 : Sz Tryz.prog 176 1 false := ⟨Tryz.sizeOf176, Tryz.isAgg176⟩
instance by176 : By Tryz.prog 176 8 := ⟨_, Tryz.typeInfo176, rfl⟩
instance zv176 : ZV Tryz.prog 176 (.pointer none) := ⟨Tryz.zeroValue176⟩
instance sz178 : Sz Tryz.prog 178 3 true := ⟨Tryz.sizeOf178, Tryz.isAgg178⟩
instance by178 : By Tryz.prog 178 24 := ⟨_, Tryz.typeInfo178, rfl⟩
instance zv178 : ZV Tryz.prog 178 (.agg #[.bool false, .int .i64 0, .bool false]) := ⟨Tryz.zeroValue178⟩
instance eq178 : EqT Tryz.prog 178 := ⟨by kernel_rfl, Tryz.eqGuardType178, .inl ⟨_, Tryz.underlying178⟩⟩
instance bt178 : BT Tryz.prog 178 [[.bool false], [.int .i64 0], [.bool false]] := BT.ofStruct Tryz.underlying178 Tryz.zeroValue178 rfl (fun w => by kernel_rfl)
instance sz179 : Sz Tryz.prog 179 3 true := ⟨Tryz.sizeOf179, Tryz.isAgg179⟩
instance by179 : By Tryz.prog 179 24 := ⟨_, Tryz.typeInfo179, rfl⟩
instance zv179 : ZV Tryz.prog 179 (.agg #[.bool false, .int .i64 0, .bool false]) := ⟨Tryz.zeroValue179⟩
instance eq179 : EqT Tryz.prog 179 := ⟨by kernel_rfl, Tryz.eqGuardType179, .inl ⟨_, Tryz.underlying179⟩⟩
theorem fa179_0 {K : Value → World → Prop} {w : World} (b o : Nat) : opS Tryz.prog (S.fa 179 (pt b o) 0) K w = K (pt b (o + 0)) w := opS_fa (T := 179) (hT := ⟨Tryz.underlying179⟩) (fd := ⟨_, 4, 0, _, _, _, _⟩) (n := 1) rfl (hs := sz4) (Nat.succ_ne_zero _) b o
attribute [push_cast] fa179_0
theorem fa179_1 {K : Value → World → Prop} {w : World} (b o : Nat) : opS Tryz.prog (S.fa 179 (pt b o) 1) K w = K (pt b (o + 1)) w := opS_fa (T := 179) (hT := ⟨Tryz.underlying179⟩) (fd := ⟨_, 3, 1, _, _, _, _⟩) (n := 1) rfl (hs := sz3) (Nat.succ_ne_zero _) b o
attribute [push_cast] fa179_1
theorem fa179_2 {K : Value → World → Prop} {w : World} (b o : Nat) : opS Tryz.prog (S.fa 179 (pt b o) 2) K w = K (pt b (o + 2)) w := opS_fa (T := 179) (hT := ⟨Tryz.underlying179⟩) (fd := ⟨_, 4, 2, _, _, _, _⟩) (n := 1) rfl (hs := sz4) (Nat.succ_ne_zero _) b o
attribute [push_cast] fa179_2
instance bt179 : BT Tryz.prog 179 [[.bool false], [.int .i64 0], [.bool false]] := BT.ofStruct Tryz.underlying179 Tryz.zeroValue179 rfl (fun w => by kernel_rfl)
instance sz181 : Sz Tryz.prog 181 8 true := ⟨Tryz.sizeOf181, Tryz.isAgg181⟩
instance by181 : By Tryz.prog 181 80 := ⟨_, Tryz.typeInfo181, rfl⟩
instance zv181 : ZV Tryz.prog 181 (.agg #[.int .i64 0, .int .i64 0, .slice none 0 0, .int .i64 0, .int .i64 0, .int .i64 0, .int .i64 0, .bool false]) := ⟨Tryz.zeroValue181⟩
instance bt181 : BT Tryz.prog 181 [[.int .i64 0], [.int .i64 0], [.slice none 0 0], [.int .i64 0], [.int .i64 0], [.int .i64 0], [.int .i64 0], [.bool false]] := BT.ofStruct Tryz.underlying181 Tryz.zeroValue181 rfl (fun w => by kernel_rfl)
instance sz183 : Sz Tryz.prog 183 1 false := ⟨Tryz.sizeOf183, Tryz.isAgg183⟩
instance by183 : By Tryz.prog 183 8 := ⟨_, Tryz.typeInfo183, rfl⟩
instance zv183 : ZV Tryz.prog 183 (.map none) := ⟨Tryz.zeroValue183⟩
instance mp183 : MpT Tryz.prog 183 187 4 := ⟨Tryz.underlying183⟩
instance sz185 : Sz Tryz.prog 185 2 true := ⟨Tryz.sizeOf185, Tryz.isAgg185⟩
instance by185 : By Tryz.prog 185 32 := ⟨_, Tryz.typeInfo185, rfl⟩
instance zv185 : ZV Tryz.prog 185 (.agg #[.map none, .slice none 0 0]) := ⟨Tryz.zeroValue185⟩
theorem fa185_0 {K : Value → World → Prop} {w : World} (b o : Nat) : opS Tryz.prog (S.fa 185 (pt b o) 0) K w = K (pt b (o + 0)) w := opS_fa (T := 185) (hT := ⟨Tryz.underlying185⟩) (fd := ⟨_, 183, 0, _, _, _, _⟩) (n := 1) rfl (hs := sz183) (Nat.succ_ne_zero _) b o
attribute [push_cast] fa185_0
theorem fa185_1 {K : Value → World → Prop} {w : World} (b o : Nat) : opS Tryz.prog (S.fa 185 (pt b o) 1) K w = K (pt b (o + 1)) w := opS_fa (T := 185) (hT := ⟨Tryz.underlying185⟩) (fd := ⟨_, 22, 1, _, _, _, _⟩) (n := 1) rfl (hs := sz22) (Nat.succ_ne_zero _) b o
attribute [push_cast] fa185_1
instance bt185 : BT Tryz.prog 185 [[.map none], [.slice none 0 0]] := BT.ofStruct Tryz.underlying185 Tryz.zeroValue185 rfl (fun w => by kernel_rfl)
instance sz187 : Sz Tryz.prog 187 2 true := ⟨Tryz.sizeOf187, Tryz.isAgg187⟩
instance by187 : By Tryz.prog 187 16 := ⟨_, Tryz.typeInfo187, rfl⟩
instance zv187 : ZV Tryz.prog 187 (.agg #[.int .i64 0, .int .i64 0]) := ⟨Tryz.zeroValue187⟩
instance eq187 : EqT Tryz.prog 187 := ⟨by kernel_rfl, Tryz.eqGuardType187, .inl ⟨_, Tryz.underlying187⟩⟩
instance bt187 : BT Tryz.prog 187 [[.int .i64 0], [.int .i64 0]] := BT.ofStruct Tryz.underlying187 Tryz.zeroValue187 rfl (fun w => by kernel_rfl)
instance sz190 : Sz Tryz.prog 190 3 true := ⟨Tryz.sizeOf190, Tryz.isAgg190⟩
instance by190 : By Tryz.prog 190 24 := ⟨_, Tryz.typeInfo190, rfl⟩
instance zv190 : ZV Tryz.prog 190 (.agg #[.int .i64 0, .int .i64 0, .bool false]) := ⟨Tryz.zeroValue190⟩
instance eq190 : EqT Tryz.prog 190 := ⟨by kernel_rfl, Tryz.eqGuardType190, .inl ⟨_, Tryz.underlying190⟩⟩
theorem fa190_0 {K : Value → World → Prop} {w : World} (b o : Nat) : opS Tryz.prog (S.fa 190 (pt b o) 0) K w = K (pt b (o + 0)) w := opS_fa (T := 190) (hT := ⟨Tryz.underlying190⟩) (fd := ⟨_, 3, 0, _, _, _, _⟩) (n := 1) rfl (hs := sz3) (Nat.succ_ne_zero _) b o
attribute [push_cast] fa190_0
theorem fa190_1 {K : Value → World → Prop} {w : World} (b o : Nat) : opS Tryz.prog (S.fa 190 (pt b o) 1) K w = K (pt b (o + 1)) w := opS_fa (T := 190) (hT := ⟨Tryz.underlying190⟩) (fd := ⟨_, 3, 1, _, _, _, _⟩) (n := 1) rfl (hs := sz3) (Nat.succ_ne_zero _) b o
attribute [push_cast] fa190_1
theorem fa190_2 {K : Value → World → Prop} {w : World} (b o : Nat) : opS Tryz.prog (S.fa 190 (pt b o) 2) K w = K (pt b (o + 2)) w := opS_fa (T := 190) (hT := ⟨Tryz.underlying190⟩) (fd := ⟨_, 4, 2, _, _, _, _⟩) (n := 1) rfl (hs := sz4) (Nat.succ_ne_zero _) b o
attribute [push_cast] fa190_2
instance bt190 : BT Tryz.prog 190 [[.int .i64 0], [.int .i64 0], [.bool false]] := BT.ofStruct Tryz.underlying190 Tryz.zeroValue190 rfl (fun w => by kernel_rfl)
instance sz191 : Sz Tryz.prog 191 1 false := ⟨Tryz.sizeOf191, Tryz.isAgg191⟩
instance by191 : By Tryz.prog 191 24 := ⟨_, Tryz.typeInfo191, rfl⟩
instance zv191 : ZV Tryz.prog 191 (.slice none 0 0) := ⟨Tryz.zeroValue191⟩
instance sl191 : SlT Tryz.prog 191 190 := ⟨Tryz.underlying191⟩
instance sz192 : Sz Tryz.prog 192 3 true := ⟨Tryz.sizeOf192, Tryz.isAgg192⟩
instance by192 : By Tryz.prog 192 56 := ⟨_, Tryz.typeInfo192, rfl⟩
instance zv192 : ZV Tryz.prog 192 (.agg #[.int .i64 0, .slice none 0 0, .slice none 0 0]) := ⟨Tryz.zeroValue192⟩
instance bt192 : BT Tryz.prog 192 [[.int .i64 0], [.slice none 0 0], [.slice none 0 0]] := BT.ofStruct Tryz.underlying192 Tryz.zeroValue192 rfl (fun w => by kernel_rfl)
instance sz193 : Sz Tryz.prog 193 3 true := ⟨Tryz.sizeOf193, Tryz.isAgg193⟩
instance by193 : By Tryz.prog 193 56 := ⟨_, Tryz.typeInfo193, rfl⟩
instance zv193 : ZV Tryz.prog 193 (.agg #[.int .i64 0, .slice none 0 0, .slice none 0 0]) := ⟨Tryz.zeroValue193⟩
theorem fa193_0 {K : Value → World → Prop} {w : World} (b o : Nat) : opS Tryz.prog (S.fa 193 (pt b o) 0) K w = K (pt b (o + 0)) w := opS_fa (T := 193) (hT := ⟨Tryz.underlying193⟩) (fd := ⟨_, 3, 0, _, _, _, _⟩) (n := 1) rfl (hs := sz3) (Nat.succ_ne_zero _) b o
attribute [push_cast] fa193_0
theorem fa193_1 {K : Value → World → Prop} {w : World} (b o : Nat) : opS Tryz.prog (S.fa 193 (pt b o) 1) K w = K (pt b (o + 1)) w := opS_fa (T := 193) (hT := ⟨Tryz.underlying193⟩) (fd := ⟨_, 191, 1, _, _, _, _⟩) (n := 1) rfl (hs := sz191) (Nat.succ_ne_zero _) b o
attribute [push_cast] fa193_1
theorem fa193_2 {K : Value → World → Prop} {w : World} (b o : Nat) : opS Tryz.prog (S.fa 193 (pt b o) 2) K w = K (pt b (o + 2)) w := opS_fa (T := 193) (hT := ⟨Tryz.underlying193⟩) (fd := ⟨_, 22, 2, _, _, _, _⟩) (n := 1) rfl (hs := sz22) (Nat.succ_ne_zero _) b o
attribute [push_cast] fa193_2
instance bt193 : BT Tryz.prog 193 [[.int .i64 0], [.slice none 0 0], [.slice none 0 0]] := BT.ofStruct Tryz.underlying193 Tryz.zeroValue193 rfl (fun w => by kernel_rfl)
instance sz198 : Sz Tryz.prog 198 9 true := ⟨Tryz.sizeOf198, Tryz.isAgg198⟩
instance by198 : By Tryz.prog 198 9 := ⟨_, Tryz.typeInfo198, rfl⟩
instance zv198 : ZV Tryz.prog 198 (.agg #[.int .u8 0, .int .u8 0, .int .u8 0, .int .u8 0, .int .u8 0, .int .u8 0, .int .u8 0, .int .u8 0, .int .u8 0]) := ⟨Tryz.zeroValue198⟩
instance eq198 : EqT Tryz.prog 198 := ⟨by kernel_rfl, Tryz.eqGuardType198, .inr ⟨_, _, Tryz.underlying198⟩⟩
instance ar198 : ArT Tryz.prog 198 9 5 := ⟨Tryz.underlying198⟩
instance bt198 : BT Tryz.prog 198 (List.replicate 9 [.int .u8 0]) := BT.ofArray Tryz.underlying198 Tryz.zeroValue198 rfl sz5 rfl
instance sz211 : Sz Tryz.prog 211 8 true := ⟨Tryz.sizeOf211, Tryz.isAgg211⟩
instance by211 : By Tryz.prog 211 80 := ⟨_, Tryz.typeInfo211, rfl⟩
instance zv211 : ZV Tryz.prog 211 (.agg #[.int .i64 0, .int .i64 0, .slice none 0 0, .int .i64 0, .int .i64 0, .int .i64 0, .int .i64 0, .bool false]) := ⟨Tryz.zeroValue211⟩
instance bt211 : BT Tryz.prog 211 [[.int .i64 0], [.int .i64 0], [.slice none 0 0], [.int .i64 0], [.int .i64 0], [.int .i64 0], [.int .i64 0], [.bool false]] := BT.ofStruct Tryz.underlying211 Tryz.zeroValue211 rfl (fun w => by kernel_rfl)
instance sz212 : Sz Tryz.prog 212 8 true := ⟨Tryz.sizeOf212, Tryz.isAgg212⟩
instance by212 : By Tryz.prog 212 80 := ⟨_, Tryz.typeInfo212, rfl⟩
instance zv212 : ZV Tryz.prog 212 (.agg #[.int .i64 0, .int .i64 0, .slice none 0 0, .int .i64 0, .int .i64 0, .int .i64 0, .int .i64 0, .bool false]) := ⟨Tryz.zeroValue212⟩
instance bt212 : BT Tryz.prog 212 [[.int .i64 0], [.int .i64 0], [.slice none 0 0], [.int .i64 0], [.int .i64 0], [.int .i64 0], [.int .i64 0], [.bool false]] := BT.ofStruct Tryz.underlying212 Tryz.zeroValue212 rfl (fun w => by kernel_rfl)
instance sz220 : Sz Tryz.prog 220 1 false := ⟨Tryz.sizeOf220, Tryz.isAgg220⟩
instance by220 : By Tryz.prog 220 1 := ⟨_, Tryz.typeInfo220, rfl⟩
instance zv220 : ZV Tryz.prog 220 (.int .i8 0) := ⟨Tryz.zeroValue220⟩
instance sz221 : Sz Tryz.prog 221 1 false := ⟨Tryz.sizeOf221, Tryz.isAgg221⟩
instance by221 : By Tryz.prog 221 1 := ⟨_, Tryz.typeInfo221, rfl⟩
instance zv221 : ZV Tryz.prog 221 (.int .i8 0) := ⟨Tryz.zeroValue221⟩
instance sz222 : Sz Tryz.prog 222 3 true := ⟨Tryz.sizeOf222, Tryz.isAgg222⟩
instance by222 : By Tryz.prog 222 40 := ⟨_, Tryz.typeInfo222, rfl⟩
instance zv222 : ZV Tryz.prog 222 (.agg #[.slice none 0 0, .int .i64 0, .int .i8 0]) := ⟨Tryz.zeroValue222⟩
instance bt222 : BT Tryz.prog 222 [[.slice none 0 0], [.int .i64 0], [.int .i8 0]] := BT.ofStruct Tryz.underlying222 Tryz.zeroValue222 rfl (fun w => by kernel_rfl)
instance sz244 : Sz Tryz.prog 244 3 true := ⟨Tryz.sizeOf244, Tryz.isAgg244⟩
instance by244 : By Tryz.prog 244 24 := ⟨_, Tryz.typeInfo244, rfl⟩
instance zv244 : ZV Tryz.prog 244 (.agg #[.bool false, .int .i64 0, .bool false]) := ⟨Tryz.zeroValue244⟩
instance eq244 : EqT Tryz.prog 244 := ⟨by kernel_rfl, Tryz.eqGuardType244, .inl ⟨_, Tryz.underlying244⟩⟩
theorem fa244_0 {K : Value → World → Prop} {w : World} (b o : Nat) : opS Tryz.prog (S.fa 244 (pt b o) 0) K w = K (pt b (o + 0)) w := opS_fa (T := 244) (hT := ⟨Tryz.underlying244⟩) (fd := ⟨_, 4, 0, _, _, _, _⟩) (n := 1) rfl (hs := sz4) (Nat.succ_ne_zero _) b o
attribute [push_cast] fa244_0
theorem fa244_1 {K : Value → World → Prop} {w : World} (b o : Nat) : opS Tryz.prog (S.fa 244 (pt b o) 1) K w = K (pt b (o + 1)) w := opS_fa (T := 244) (hT := ⟨Tryz.underlying244⟩) (fd := ⟨_, 3, 1, _, _, _, _⟩) (n := 1) rfl (hs := sz3) (Nat.succ_ne_zero _) b o
attribute [push_cast] fa244_1
theorem fa244_2 {K : Value → World → Prop} {w : World} (b o : Nat) : opS Tryz.prog (S.fa 244 (pt b o) 2) K w = K (pt b (o + 2)) w := opS_fa (T := 244) (hT := ⟨Tryz.underlying244⟩) (fd := ⟨_, 4, 2, _, _, _, _⟩) (n := 1) rfl (hs := sz4) (Nat.succ_ne_zero _) b o
attribute [push_cast] fa244_2
instance bt244 : BT Tryz.prog 244 [[.bool false], [.int .i64 0], [.bool false]] := BT.ofStruct Tryz.underlying244 Tryz.zeroValue244 rfl (fun w => by kernel_rfl)
theorem mixed : Tryz.prog.follows .mixedOrders = true := by kernel_rfl
end Go.Gx.S
end

section
/- What the functions of this program ask. -/
set_option linter.unusedVariables false
set_option maxRecDepth 100000
namespace Go.Gx.S
open Go Go.Gx Go.Proofs
-- gemel/gemellaw23.ChassisNews
def p3 (P : Program) (K : Value → World → Prop) (x0 : Value) (x1 : Value) : World → Prop :=
  opS P (S.box 24 x0) fun x2 =>
  opS P (S.cl 9 []) fun x3 =>
  opS P (S.un .not x3) fun x4 =>
  brn x4 (
    K x3
  ) (
    opS P (S.fa 24 x2 2) fun x5 =>
    opS P (S.ld 22 x5) fun x6 =>
    opS P (S.len x6) fun x7 =>
    opS P (S.binI .gtr x7 (.int .i64 200)) fun x8 =>
    brn x8 (
      K x3
    ) (
      opS P (S.ld 24 x2) fun x9 =>
      opS P (S.cl 10 [x9, x1]) fun x10 =>
      opS P (S.ext x10 0) fun x11 =>
      opS P (S.ext x10 1) fun x12 =>
      opS P (S.ld 24 x2) fun x13 =>
      opS P (S.cl 11 [x13, x1]) fun x14 =>
      opS P (S.ext x14 0) fun x15 =>
      opS P (S.ext x14 1) fun x16 =>
      opS P (S.binI .neq x12 x16) fun x17 =>
      brn x17 (
        K (.bool false)
      ) (
        opS P (S.binN .eql (S.isNilP x11)) fun x18 =>
        opS P (S.binN .eql (S.isNilP x15)) fun x19 =>
        opS P (S.binB .neq x18 x19) fun x20 =>
        brn x20 (
          K (.bool false)
        ) (
          drw <|
          opS P (S.binN .eql (S.isNilP x11)) fun x21 =>
          brn x21 (
            allW (
              allW (
                K (.bool true)
              ) (
                allW (
                  K (.bool true)
                ) (
                  K (.bool true)
                )
              )
            ) (
              allW (
                allW (
                  K (.bool true)
                ) (
                  K (.bool true)
                )
              ) (
                K (.bool true)
              )
            )
          ) (
            opS P (S.nc x15) fun x22 =>
            opS P (S.fa 45 x22 2) fun x23 =>
            allW (
              opS P (S.cl 12 [x11]) fun x24 =>
              allW (
                opS P (S.cl 13 [x24]) fun x25 =>
                opS P (S.ld 39 x23) fun x26 =>
                opS P (S.nc x26) fun x27 =>
                opS P (S.fa 37 x27 2) fun x28 =>
                opS P (S.ld 3 x28) fun x29 =>
                opS P (S.binI .eql x25 x29) fun x30 =>
                brn x30 (
                  opS P (S.cl 14 [x11]) fun x31 =>
                  opS P (S.cl 15 [x31, (.int .i64 1)]) fun x32 =>
                  opS P (S.binI .eql x32 (.int .i64 0)) fun x33 =>
                  brn x33 (
                    opS P (S.cl 16 [x11, (.int .i64 1)]) fun x34 =>
                    opS P (S.un .not x34) fun x35 =>
                    brn x35 (
                      opS P (S.cl 17 [x11]) fun x36 =>
                      opS P (S.binI .eql x36 (.int .i64 0)) fun x37 =>
                      K x37
                    ) (
                      K (.bool false)
                    )
                  ) (
                    K (.bool false)
                  )
                ) (
                  K (.bool false)
                )
              ) (
                opS P (S.ld 39 x23) fun x25 =>
                opS P (S.nc x25) fun x26 =>
                opS P (S.fa 37 x26 2) fun x27 =>
                allW (
                  opS P (S.cl 13 [x24]) fun x28 =>
                  opS P (S.ld 3 x27) fun x29 =>
                  opS P (S.binI .eql x28 x29) fun x30 =>
                  brn x30 (
                    opS P (S.cl 14 [x11]) fun x31 =>
                    opS P (S.cl 15 [x31, (.int .i64 1)]) fun x32 =>
                    opS P (S.binI .eql x32 (.int .i64 0)) fun x33 =>
                    brn x33 (
                      opS P (S.cl 16 [x11, (.int .i64 1)]) fun x34 =>
                      opS P (S.un .not x34) fun x35 =>
                      brn x35 (
                        opS P (S.cl 17 [x11]) fun x36 =>
                        opS P (S.binI .eql x36 (.int .i64 0)) fun x37 =>
                        K x37
                      ) (
                        K (.bool false)
                      )
                    ) (
                      K (.bool false)
                    )
                  ) (
                    K (.bool false)
                  )
                ) (
                  opS P (S.ld 3 x27) fun x28 =>
                  opS P (S.cl 13 [x24]) fun x29 =>
                  opS P (S.binI .eql x29 x28) fun x30 =>
                  brn x30 (
                    opS P (S.cl 14 [x11]) fun x31 =>
                    opS P (S.cl 15 [x31, (.int .i64 1)]) fun x32 =>
                    opS P (S.binI .eql x32 (.int .i64 0)) fun x33 =>
                    brn x33 (
                      opS P (S.cl 16 [x11, (.int .i64 1)]) fun x34 =>
                      opS P (S.un .not x34) fun x35 =>
                      brn x35 (
                        opS P (S.cl 17 [x11]) fun x36 =>
                        opS P (S.binI .eql x36 (.int .i64 0)) fun x37 =>
                        K x37
                      ) (
                        K (.bool false)
                      )
                    ) (
                      K (.bool false)
                    )
                  ) (
                    K (.bool false)
                  )
                )
              )
            ) (
              opS P (S.ld 39 x23) fun x24 =>
              opS P (S.nc x24) fun x25 =>
              opS P (S.fa 37 x25 2) fun x26 =>
              allW (
                opS P (S.cl 12 [x11]) fun x27 =>
                allW (
                  opS P (S.cl 13 [x27]) fun x28 =>
                  opS P (S.ld 3 x26) fun x29 =>
                  opS P (S.binI .eql x28 x29) fun x30 =>
                  brn x30 (
                    opS P (S.cl 14 [x11]) fun x31 =>
                    opS P (S.cl 15 [x31, (.int .i64 1)]) fun x32 =>
                    opS P (S.binI .eql x32 (.int .i64 0)) fun x33 =>
                    brn x33 (
                      opS P (S.cl 16 [x11, (.int .i64 1)]) fun x34 =>
                      opS P (S.un .not x34) fun x35 =>
                      brn x35 (
                        opS P (S.cl 17 [x11]) fun x36 =>
                        opS P (S.binI .eql x36 (.int .i64 0)) fun x37 =>
                        K x37
                      ) (
                        K (.bool false)
                      )
                    ) (
                      K (.bool false)
                    )
                  ) (
                    K (.bool false)
                  )
                ) (
                  opS P (S.ld 3 x26) fun x28 =>
                  opS P (S.cl 13 [x27]) fun x29 =>
                  opS P (S.binI .eql x29 x28) fun x30 =>
                  brn x30 (
                    opS P (S.cl 14 [x11]) fun x31 =>
                    opS P (S.cl 15 [x31, (.int .i64 1)]) fun x32 =>
                    opS P (S.binI .eql x32 (.int .i64 0)) fun x33 =>
                    brn x33 (
                      opS P (S.cl 16 [x11, (.int .i64 1)]) fun x34 =>
                      opS P (S.un .not x34) fun x35 =>
                      brn x35 (
                        opS P (S.cl 17 [x11]) fun x36 =>
                        opS P (S.binI .eql x36 (.int .i64 0)) fun x37 =>
                        K x37
                      ) (
                        K (.bool false)
                      )
                    ) (
                      K (.bool false)
                    )
                  ) (
                    K (.bool false)
                  )
                )
              ) (
                opS P (S.ld 3 x26) fun x27 =>
                opS P (S.cl 12 [x11]) fun x28 =>
                opS P (S.cl 13 [x28]) fun x29 =>
                opS P (S.binI .eql x29 x27) fun x30 =>
                brn x30 (
                  opS P (S.cl 14 [x11]) fun x31 =>
                  opS P (S.cl 15 [x31, (.int .i64 1)]) fun x32 =>
                  opS P (S.binI .eql x32 (.int .i64 0)) fun x33 =>
                  brn x33 (
                    opS P (S.cl 16 [x11, (.int .i64 1)]) fun x34 =>
                    opS P (S.un .not x34) fun x35 =>
                    brn x35 (
                      opS P (S.cl 17 [x11]) fun x36 =>
                      opS P (S.binI .eql x36 (.int .i64 0)) fun x37 =>
                      K x37
                    ) (
                      K (.bool false)
                    )
                  ) (
                    K (.bool false)
                  )
                ) (
                  K (.bool false)
                )
              )
            )
          )
        )
      )
    )
  )
instance fnb3 : FnB Tryz.prog 3 := ⟨Tryz.call3⟩
theorem e3 : p3 Tryz.prog = fun K x0 x1 => denF Tryz.prog Tryz.f3 [x0, x1] K := by kernel_rfl
theorem c3 {K : Value → World → Prop} {x0 x1 : Value} {w : World} (h : p3 Tryz.prog K x0 x1 w) : CallsR Tryz.prog 3 #[x0, x1] K w := by
  rw [e3] at h
  exact denF_sound mixed Tryz.func3 h

-- gemel/gemellaw23.awake
def p9 (P : Program) (K : Value → World → Prop) : World → Prop :=
  opS P (S.cl 18 []) fun x0 =>
  opS P (S.ext x0 0) fun x1 =>
  opS P (S.ext x0 1) fun x2 =>
  opS P (S.ext x0 2) fun x3 =>
  opS P (S.un .not x3) fun x4 =>
  brn x4 (
    K (.bool false)
  ) (
    opS P (S.cl 16 [x1, (.int .i64 3)]) fun x5 =>
    opS P (S.cl 32 [x1, (.int .i64 12)]) fun x6 =>
    opS P (S.build 53 [(0, (.int .u8 4))]) fun x7 =>
    opS P (S.build 53 [(0, (.int .u8 2))]) fun x8 =>
    opS P (S.build 61 [(0, x7), (1, x8), (5, (.int .i64 2048))]) fun x9 =>
    opS P (S.cl 27 [x1, (.int .i64 1), x9, (.int .i64 12)]) fun x10 =>
    opS P (S.ext x10 0) fun x11 =>
    opS P (S.ext x10 1) fun x12 =>
    opS P (S.alloc 70) fun x13 =>
    opS P (S.st 70 x13 x11) fun x14 =>
    opS P (S.un .not x5) fun x15 =>
    brn x15 (
      opS P (S.cl 16 [x1, (.int .i64 1)]) fun x16 =>
      brn x16 (
        opS P (S.cl 16 [x1, (.int .i64 3)]) fun x17 =>
        brn x17 (
          opS P (S.cl 16 [x1, (.int .i64 2)]) fun x18 =>
          opS P (S.un .not x18) fun x19 =>
          brn x19 (
            opS P (S.cl 12 [x1]) fun x20 =>
            opS P (S.cl 33 [x20]) fun x21 =>
            opS P (S.binI .eql x21 (.int .i64 2)) fun x22 =>
            brn x22 (
              opS P (S.binI .eql x12 (.int .i64 0)) fun x23 =>
              brn x23 (
                opS P (S.fa 70 x13 0) fun x24 =>
                opS P (S.ld 67 x24) fun x25 =>
                opS P (S.len x25) fun x26 =>
                opS P (S.binI .eql x26 (.int .i64 2)) fun x27 =>
                K x27
              ) (
                K (.bool false)
              )
            ) (
              K (.bool false)
            )
          ) (
            K (.bool false)
          )
        ) (
          K (.bool false)
        )
      ) (
        K (.bool false)
      )
    ) (
      K (.bool false)
    )
  )
instance fnb9 : FnB Tryz.prog 9 := ⟨Tryz.call9⟩
theorem e9 : p9 Tryz.prog = fun K => denF Tryz.prog Tryz.f9 [] K := by kernel_rfl
theorem c9 {K : Value → World → Prop} {w : World} (h : p9 Tryz.prog K w) : CallsR Tryz.prog 9 #[] K w := by
  rw [e9] at h
  exact denF_sound mixed Tryz.func9 h

-- gemel/gemellaw23.plain
def p18 (P : Program) (K : Value → World → Prop) : World → Prop :=
  opS P (S.cl 46 []) fun x0 =>
  opS P (S.cl 10 [x0, (.int .i64 1)]) fun x1 =>
  opS P (S.ext x1 0) fun x2 =>
  opS P (S.ext x1 1) fun x3 =>
  opS P (S.cl 46 []) fun x4 =>
  opS P (S.cl 11 [x4, (.int .i64 1)]) fun x5 =>
  opS P (S.ext x5 0) fun x6 =>
  opS P (S.ext x5 1) fun x7 =>
  opS P (S.binI .neq x3 (.int .i64 0)) fun x8 =>
  brn x8 (
    K (.tuple #[(.pointer none), (.pointer none), (.bool false)])
  ) (
    opS P (S.binI .neq x7 (.int .i64 0)) fun x9 =>
    brn x9 (
      K (.tuple #[(.pointer none), (.pointer none), (.bool false)])
    ) (
      opS P (S.binN .eql (S.isNilP x2)) fun x10 =>
      brn x10 (
        K (.tuple #[(.pointer none), (.pointer none), (.bool false)])
      ) (
        opS P (S.cl 14 [x2]) fun x11 =>
        opS P (S.binN .eql (S.isNilP x11)) fun x12 =>
        brn x12 (
          K (.tuple #[(.pointer none), (.pointer none), (.bool false)])
        ) (
          opS P (S.cl 12 [x2]) fun x13 =>
          opS P (S.binN .eql (S.isNilP x13)) fun x14 =>
          brn x14 (
            K (.tuple #[(.pointer none), (.pointer none), (.bool false)])
          ) (
            jnJ 0 (
              K (.tuple #[x2, x6, (.bool true)])
            ) fun j0 =>
            loopJ 1 (fun j1 x15 =>
              opS P (S.binI .leq x15 (.int .i64 4)) fun x16 =>
              brn x16 (
                opS P (S.cl 14 [x2]) fun x17 =>
                opS P (S.cl 47 [x17]) fun x18 =>
                opS P (S.cl 48 [x18, (.int .i64 1), x15, (.bool false)]) fun x19 =>
                opS P (S.nc x6) fun x20 =>
                opS P (S.fa 45 x20 1) fun x21 =>
                opS P (S.ld 38 x21) fun x22 =>
                opS P (S.nc x22) fun x23 =>
                opS P (S.fa 123 x23 1) fun x24 =>
                opS P (S.ld 120 x24) fun x25 =>
                opS P (S.cl 49 [x25, (.int .i64 1), x15, (.bool false)]) fun x26 =>
                opS P (S.cl 14 [x2]) fun x27 =>
                opS P (S.cl 47 [x27]) fun x28 =>
                opS P (S.cl 50 [x28, x15, (.int .i64 1)]) fun x29 =>
                opS P (S.nc x6) fun x30 =>
                opS P (S.fa 45 x30 1) fun x31 =>
                opS P (S.ld 38 x31) fun x32 =>
                opS P (S.nc x32) fun x33 =>
                opS P (S.fa 123 x33 1) fun x34 =>
                opS P (S.ld 120 x34) fun x35 =>
                opS P (S.cl 51 [x35, x15, (.int .i64 1)]) fun x36 =>
                opS P (S.cl 14 [x2]) fun x37 =>
                opS P (S.cl 52 [x37, x15, (.int .i64 2)]) fun x38 =>
                opS P (S.nc x6) fun x39 =>
                opS P (S.fa 45 x39 1) fun x40 =>
                opS P (S.ld 38 x40) fun x41 =>
                opS P (S.cl 53 [x41, x15, (.int .i64 2)]) fun x42 =>
                opS P (S.cl 26 [x2, x15, (.bool true)]) fun x43 =>
                opS P (S.cl 54 [x6, x15, (.bool true)]) fun x44 =>
                opS P (S.binI .add x15 (.int .i64 1)) fun x45 =>
                j1 x45
              ) (
                j0
              )
            ) (.int .i64 1)
          )
        )
      )
    )
  )
instance fnb18 : FnB Tryz.prog 18 := ⟨Tryz.call18⟩
theorem e18 : p18 Tryz.prog = fun K => denF Tryz.prog Tryz.f18 [] K := by kernel_rfl
theorem c18 {K : Value → World → Prop} {w : World} (h : p18 Tryz.prog K w) : CallsR Tryz.prog 18 #[] K w := by
  rw [e18] at h
  exact denF_sound mixed Tryz.func18 h

-- gemel/gemellaw23.site
def p46 (P : Program) (K : Value → World → Prop) : World → Prop :=
  opS P (S.alloc 24) fun x0 =>
  opS P (S.buildS 22 4 [(0, (.int .i64 0)), (1, (.int .i64 1)), (2, (.int .i64 2)), (3, (.int .i64 2))]) fun x1 =>
  opS P (S.build 24 [(0, (.int .i64 0)), (1, (.int .i64 5)), (2, x1), (3, (.int .i64 20))]) fun x2 =>
  opS P (S.st 24 x0 x2) fun x3 =>
  opS P (S.ld 24 x0) fun x4 =>
  K x4
instance fnb46 : FnB Tryz.prog 46 := ⟨Tryz.call46⟩
theorem e46 : p46 Tryz.prog = fun K => denF Tryz.prog Tryz.f46 [] K := by kernel_rfl
theorem c46 {K : Value → World → Prop} {w : World} (h : p46 Tryz.prog K w) : CallsR Tryz.prog 46 #[] K w := by
  rw [e46] at h
  exact denF_sound mixed Tryz.func46 h

end Go.Gx.S
-- 46 18 9 3
end

section
/- What the functions of this program ask. -/
set_option linter.unusedVariables false
set_option maxRecDepth 100000
namespace Go.Gx.S
open Go Go.Gx Go.Proofs
-- (*gemel/chassis.Chassis).Tick
def p32 (P : Program) (K : Value → World → Prop) (x0 : Value) (x1 : Value) : World → Prop :=
  opS P (S.alloc 70) fun x2 =>
  opS P (S.nc x0) fun x3 =>
  opS P (S.fa 102 x3 5) fun x4 =>
  opS P (S.ld 33 x4) fun x5 =>
  opS P (S.cl 92 [x5, x1]) fun x6 =>
  opS P (S.ext x6 0) fun x7 =>
  opS P (S.ext x6 1) fun x8 =>
  opS P (S.binI .neq x8 (.int .i64 0)) fun x9 =>
  brn x9 (
    opS P (S.build 70 []) fun x10 =>
    opS P (S.st 70 x2 x10) fun x11 =>
    opS P (S.ld 70 x2) fun x12 =>
    K (.tuple #[x12, x8])
  ) (
    jnJ 0 (
      opS P (S.nc x0) fun x10 =>
      opS P (S.fa 102 x10 5) fun x11 =>
      opS P (S.ld 33 x11) fun x12 =>
      opS P (S.cl 22 [x12]) fun x13 =>
      jnJ 0 (
        opS P (S.alloc 70) fun x14 =>
        jnJ 0 (
          opS P (S.nc x0) fun x15 =>
          opS P (S.fa 102 x15 6) fun x16 =>
          opS P (S.ld 100 x16) fun x17 =>
          opS P (S.binN .neq (S.isNilP x17)) fun x18 =>
          brn x18 (
            opS P (S.nc x0) fun x19 =>
            opS P (S.fa 102 x19 6) fun x20 =>
            opS P (S.ld 100 x20) fun x21 =>
            opS P (S.cl 96 [x21, x1]) fun x22 =>
            opS P (S.ext x22 0) fun x23 =>
            opS P (S.ext x22 1) fun x24 =>
            opS P (S.fa 70 x14 1) fun x25 =>
            opS P (S.ld 68 x25) fun x26 =>
            opS P (S.bi .append #[68, 68] 68 [x26, x23]) fun x27 =>
            opS P (S.fa 70 x14 1) fun x28 =>
            opS P (S.st 68 x28 x27) fun x29 =>
            opS P (S.ld 70 x14) fun x30 =>
            opS P (S.st 70 x2 x30) fun x31 =>
            opS P (S.ld 70 x2) fun x32 =>
            K (.tuple #[x32, (.int .i64 0)])
          ) (
            opS P (S.ld 70 x14) fun x19 =>
            opS P (S.st 70 x2 x19) fun x20 =>
            opS P (S.ld 70 x2) fun x21 =>
            K (.tuple #[x21, (.int .i64 0)])
          )
        ) fun j0 =>
        jnJ 0 (
          jnJ 0 (
            j0
          ) fun j1 =>
          drw <|
          opS P (S.fa 70 x14 1) fun x15 =>
          opS P (S.nc x0) fun x16 =>
          opS P (S.fa 102 x16 5) fun x17 =>
          opS P (S.ld 33 x17) fun x18 =>
          allW (
            opS P (S.ld 68 x15) fun x19 =>
            opS P (S.cl 95 [x18]) fun x20 =>
            opS P (S.buildS 68 1 [(0, x20)]) fun x21 =>
            opS P (S.bi .append #[68, 68] 68 [x19, x21]) fun x22 =>
            opS P (S.fa 70 x14 1) fun x23 =>
            opS P (S.st 68 x23 x22) fun x24 =>
            j1
          ) (
            opS P (S.cl 95 [x18]) fun x19 =>
            allW (
              opS P (S.ld 68 x15) fun x20 =>
              opS P (S.buildS 68 1 [(0, x19)]) fun x21 =>
              opS P (S.bi .append #[68, 68] 68 [x20, x21]) fun x22 =>
              opS P (S.fa 70 x14 1) fun x23 =>
              opS P (S.st 68 x23 x22) fun x24 =>
              j1
            ) (
              opS P (S.buildS 68 1 [(0, x19)]) fun x20 =>
              opS P (S.ld 68 x15) fun x21 =>
              opS P (S.bi .append #[68, 68] 68 [x21, x20]) fun x22 =>
              opS P (S.fa 70 x14 1) fun x23 =>
              opS P (S.st 68 x23 x22) fun x24 =>
              j1
            )
          )
        ) fun j1 =>
        opS P (S.un .not x13) fun x15 =>
        brn x15 (
          j1
        ) (
          opS P (S.binI .rem x1 (.int .i64 2)) fun x16 =>
          opS P (S.binI .eql x16 (.int .i64 0)) fun x17 =>
          brn x17 (
            j1
          ) (
            j0
          )
        )
      ) fun j0 =>
      jnJ 0 (
        opS P (S.cl 94 [x0]) fun x14 =>
        j0
      ) fun j1 =>
      jnJ 0 (
        j0
      ) fun j2 =>
      brn x7 (
        j1
      ) (
        opS P (S.un .not x13) fun x14 =>
        brn x14 (
          opS P (S.cl 93 [x0]) fun x15 =>
          brn x15 (
            j1
          ) (
            j2
          )
        ) (
          j2
        )
      )
    ) fun j0 =>
    brn x7 (
      opS P (S.nc x0) fun x10 =>
      opS P (S.fa 102 x10 6) fun x11 =>
      opS P (S.st 100 x11 (.pointer none)) fun x12 =>
      j0
    ) (
      j0
    )
  )
instance fnb32 : FnB Tryz.prog 32 := ⟨Tryz.call32⟩
theorem e32 : p32 Tryz.prog = fun K x0 x1 => denF Tryz.prog Tryz.f32 [x0, x1] K := by kernel_rfl
theorem c32 {K : Value → World → Prop} {x0 x1 : Value} {w : World} (h : p32 Tryz.prog K x0 x1 w) : CallsR Tryz.prog 32 #[x0, x1] K w := by
  rw [e32] at h
  exact denF_sound mixed Tryz.func32 h

end Go.Gx.S
-- 32
end

section
/- What the functions of this program ask. -/
set_option linter.unusedVariables false
set_option maxRecDepth 100000
namespace Go.Gx.S
open Go Go.Gx Go.Proofs
-- (*gemel/chassis.Chassis).Frame
def p27 (P : Program) (K : Value → World → Prop) (x0 : Value) (x1 : Value) (x2 : Value) (x3 : Value) : World → Prop :=
  opS P (S.box 61 x2) fun x4 =>
  opS P (S.alloc 70) fun x5 =>
  drw <|
  opS P (S.nc x0) fun x6 =>
  opS P (S.fa 102 x6 8) fun x7 =>
  opS P (S.ia 43 x7 (.int .i64 0)) fun x8 =>
  opS P (S.ld 3 x8) fun x9 =>
  opS P (S.binI .add x9 (.int .i64 1)) fun x10 =>
  opS P (S.nc x0) fun x11 =>
  opS P (S.fa 102 x11 8) fun x12 =>
  opS P (S.ia 43 x12 (.int .i64 0)) fun x13 =>
  opS P (S.st 3 x13 x10) fun x14 =>
  opS P (S.cl 43 [x0, x1]) fun x15 =>
  opS P (S.un .not x15) fun x16 =>
  brn x16 (
    opS P (S.build 70 []) fun x17 =>
    opS P (S.st 70 x5 x17) fun x18 =>
    opS P (S.ld 70 x5) fun x19 =>
    K (.tuple #[x19, (.int .i64 1)])
  ) (
    opS P (S.cl 16 [x0, x1]) fun x17 =>
    opS P (S.un .not x17) fun x18 =>
    brn x18 (
      opS P (S.build 70 []) fun x19 =>
      opS P (S.st 70 x5 x19) fun x20 =>
      opS P (S.ld 70 x5) fun x21 =>
      K (.tuple #[x21, (.int .i64 9)])
    ) (
      opS P (S.cl 76 [x0]) fun x19 =>
      opS P (S.alloc 109) fun x20 =>
      opS P (S.st 109 x20 x19) fun x21 =>
      jnJ 1 (fun x22 =>
        jnJ 0 (
          opS P (S.fa 141 x22 3) fun x23 =>
          opS P (S.ld 67 x23) fun x24 =>
          opS P (S.cl 78 [x0, x24, (.func (.func 79) #[] #[])]) fun x25 =>
          opS P (S.build 70 [(0, x25)]) fun x26 =>
          opS P (S.alloc 70) fun x27 =>
          opS P (S.st 70 x27 x26) fun x28 =>
          drw <|
          opS P (S.nc x0) fun x29 =>
          opS P (S.fa 102 x29 8) fun x30 =>
          opS P (S.ia 43 x30 (.int .i64 2)) fun x31 =>
          opS P (S.ld 3 x31) fun x32 =>
          opS P (S.fa 141 x22 3) fun x33 =>
          opS P (S.ld 67 x33) fun x34 =>
          opS P (S.len x34) fun x35 =>
          opS P (S.fa 70 x27 0) fun x36 =>
          opS P (S.ld 67 x36) fun x37 =>
          opS P (S.len x37) fun x38 =>
          opS P (S.binI .sub x35 x38) fun x39 =>
          opS P (S.binI .add x32 x39) fun x40 =>
          opS P (S.nc x0) fun x41 =>
          opS P (S.fa 102 x41 8) fun x42 =>
          opS P (S.ia 43 x42 (.int .i64 2)) fun x43 =>
          opS P (S.st 3 x43 x40) fun x44 =>
          opS P (S.fa 141 x22 0) fun x45 =>
          opS P (S.ld 3 x45) fun x46 =>
          opS P (S.binI .eql x46 (.int .i64 0)) fun x47 =>
          brn x47 (
            opS P (S.nc x0) fun x48 =>
            opS P (S.fa 102 x48 6) fun x49 =>
            opS P (S.ld 100 x49) fun x50 =>
            opS P (S.binN .neq (S.isNilP x50)) fun x51 =>
            brn x51 (
              opS P (S.fa 141 x22 2) fun x52 =>
              opS P (S.ld 3 x52) fun x53 =>
              opS P (S.cl 16 [x0, x53]) fun x54 =>
              opS P (S.un .not x54) fun x55 =>
              brn x55 (
                opS P (S.ld 61 x4) fun x56 =>
                opS P (S.cl 80 [x56]) fun x57 =>
                opS P (S.ext x57 0) fun x58 =>
                opS P (S.ext x57 1) fun x59 =>
                opS P (S.fa 141 x22 1) fun x60 =>
                opS P (S.ld 3 x60) fun x61 =>
                opS P (S.fa 141 x22 2) fun x62 =>
                opS P (S.ld 3 x62) fun x63 =>
                opS P (S.build 56 [(0, (.int .i64 8)), (1, x61), (3, x1), (4, x63), (5, x58)]) fun x64 =>
                opS P (S.alloc 56) fun x65 =>
                opS P (S.st 56 x65 x64) fun x66 =>
                drw <|
                opS P (S.nc x0) fun x67 =>
                opS P (S.fa 102 x67 5) fun x68 =>
                opS P (S.ld 33 x68) fun x69 =>
                allW (
                  opS P (S.cl 21 [x69]) fun x70 =>
                  opS P (S.ld 56 x65) fun x71 =>
                  opS P (S.build 63 [(0, x70), (3, x71)]) fun x72 =>
                  opS P (S.buildS 68 1 [(0, x72)]) fun x73 =>
                  opS P (S.fa 70 x27 1) fun x74 =>
                  opS P (S.st 68 x74 x73) fun x75 =>
                  drw <|
                  opS P (S.ld 70 x27) fun x76 =>
                  opS P (S.fa 141 x22 0) fun x77 =>
                  allW (
                    opS P (S.ld 3 x77) fun x78 =>
                    opS P (S.st 70 x5 x76) fun x79 =>
                    opS P (S.ld 70 x5) fun x80 =>
                    K (.tuple #[x80, x78])
                  ) (
                    opS P (S.st 70 x5 x76) fun x78 =>
                    opS P (S.ld 3 x77) fun x79 =>
                    opS P (S.ld 70 x5) fun x80 =>
                    K (.tuple #[x80, x79])
                  )
                ) (
                  opS P (S.ld 56 x65) fun x70 =>
                  opS P (S.cl 21 [x69]) fun x71 =>
                  opS P (S.build 63 [(0, x71), (3, x70)]) fun x72 =>
                  opS P (S.buildS 68 1 [(0, x72)]) fun x73 =>
                  opS P (S.fa 70 x27 1) fun x74 =>
                  opS P (S.st 68 x74 x73) fun x75 =>
                  drw <|
                  opS P (S.ld 70 x27) fun x76 =>
                  opS P (S.fa 141 x22 0) fun x77 =>
                  allW (
                    opS P (S.ld 3 x77) fun x78 =>
                    opS P (S.st 70 x5 x76) fun x79 =>
                    opS P (S.ld 70 x5) fun x80 =>
                    K (.tuple #[x80, x78])
                  ) (
                    opS P (S.st 70 x5 x76) fun x78 =>
                    opS P (S.ld 3 x77) fun x79 =>
                    opS P (S.ld 70 x5) fun x80 =>
                    K (.tuple #[x80, x79])
                  )
                )
              ) (
                drw <|
                opS P (S.ld 70 x27) fun x56 =>
                opS P (S.fa 141 x22 0) fun x57 =>
                allW (
                  opS P (S.ld 3 x57) fun x58 =>
                  opS P (S.st 70 x5 x56) fun x59 =>
                  opS P (S.ld 70 x5) fun x60 =>
                  K (.tuple #[x60, x58])
                ) (
                  opS P (S.st 70 x5 x56) fun x58 =>
                  opS P (S.ld 3 x57) fun x59 =>
                  opS P (S.ld 70 x5) fun x60 =>
                  K (.tuple #[x60, x59])
                )
              )
            ) (
              drw <|
              opS P (S.ld 70 x27) fun x52 =>
              opS P (S.fa 141 x22 0) fun x53 =>
              allW (
                opS P (S.ld 3 x53) fun x54 =>
                opS P (S.st 70 x5 x52) fun x55 =>
                opS P (S.ld 70 x5) fun x56 =>
                K (.tuple #[x56, x54])
              ) (
                opS P (S.st 70 x5 x52) fun x54 =>
                opS P (S.ld 3 x53) fun x55 =>
                opS P (S.ld 70 x5) fun x56 =>
                K (.tuple #[x56, x55])
              )
            )
          ) (
            drw <|
            opS P (S.ld 70 x27) fun x48 =>
            opS P (S.fa 141 x22 0) fun x49 =>
            allW (
              opS P (S.ld 3 x49) fun x50 =>
              opS P (S.st 70 x5 x48) fun x51 =>
              opS P (S.ld 70 x5) fun x52 =>
              K (.tuple #[x52, x50])
            ) (
              opS P (S.st 70 x5 x48) fun x50 =>
              opS P (S.ld 3 x49) fun x51 =>
              opS P (S.ld 70 x5) fun x52 =>
              K (.tuple #[x52, x51])
            )
          )
        ) fun j0 =>
        jnJ 0 (
          opS P (S.fa 141 x22 1) fun x23 =>
          opS P (S.ld 3 x23) fun x24 =>
          opS P (S.fa 61 x4 1) fun x25 =>
          opS P (S.ld 53 x25) fun x26 =>
          opS P (S.build 56 [(0, (.int .i64 1)), (1, x24), (2, x26), (3, x1)]) fun x27 =>
          opS P (S.buildS 135 1 [(0, x27)]) fun x28 =>
          opS P (S.cl 75 [x0, x28]) fun x29 =>
          j0
        ) fun j1 =>
        jnJ 0 (
          j0
        ) fun j2 =>
        drw <|
        allW (
          opS P (S.cl 76 [x0]) fun x23 =>
          opS P (S.ld 109 x20) fun x24 =>
          opS P (S.binG .neq 109 x23 x24) fun x25 =>
          brn x25 (
            j1
          ) (
            j2
          )
        ) (
          opS P (S.ld 109 x20) fun x23 =>
          opS P (S.cl 76 [x0]) fun x24 =>
          opS P (S.binG .neq 109 x24 x23) fun x25 =>
          brn x25 (
            j1
          ) (
            j2
          )
        )
      ) fun j0 =>
      drw <|
      opS P (S.nc x0) fun x22 =>
      opS P (S.fa 102 x22 4) fun x23 =>
      allW (
        opS P (S.ld 46 x23) fun x24 =>
        allW (
          opS P (S.ld 61 x4) fun x25 =>
          allW (
            opS P (S.cl 77 [x24, x1, x25, x3]) fun x26 =>
            opS P (S.alloc 141) fun x27 =>
            opS P (S.st 141 x27 x26) fun x28 =>
            j0 x27
          ) (
            opS P (S.alloc 141) fun x26 =>
            opS P (S.cl 77 [x24, x1, x25, x3]) fun x27 =>
            opS P (S.st 141 x26 x27) fun x28 =>
            j0 x26
          )
        ) (
          opS P (S.alloc 141) fun x25 =>
          opS P (S.ld 61 x4) fun x26 =>
          opS P (S.cl 77 [x24, x1, x26, x3]) fun x27 =>
          opS P (S.st 141 x25 x27) fun x28 =>
          j0 x25
        )
      ) (
        allW (
          opS P (S.ld 61 x4) fun x24 =>
          allW (
            opS P (S.ld 46 x23) fun x25 =>
            allW (
              opS P (S.cl 77 [x25, x1, x24, x3]) fun x26 =>
              opS P (S.alloc 141) fun x27 =>
              opS P (S.st 141 x27 x26) fun x28 =>
              j0 x27
            ) (
              opS P (S.alloc 141) fun x26 =>
              opS P (S.cl 77 [x25, x1, x24, x3]) fun x27 =>
              opS P (S.st 141 x26 x27) fun x28 =>
              j0 x26
            )
          ) (
            opS P (S.alloc 141) fun x25 =>
            opS P (S.ld 46 x23) fun x26 =>
            opS P (S.cl 77 [x26, x1, x24, x3]) fun x27 =>
            opS P (S.st 141 x25 x27) fun x28 =>
            j0 x25
          )
        ) (
          opS P (S.alloc 141) fun x24 =>
          opS P (S.ld 46 x23) fun x25 =>
          opS P (S.ld 61 x4) fun x26 =>
          opS P (S.cl 77 [x25, x1, x26, x3]) fun x27 =>
          opS P (S.st 141 x24 x27) fun x28 =>
          j0 x24
        )
      )
    )
  )
instance fnb27 : FnB Tryz.prog 27 := ⟨Tryz.call27⟩
theorem e27 : p27 Tryz.prog = fun K x0 x1 x2 x3 => denF Tryz.prog Tryz.f27 [x0, x1, x2, x3] K := by kernel_rfl
theorem c27 {K : Value → World → Prop} {x0 x1 x2 x3 : Value} {w : World} (h : p27 Tryz.prog K x0 x1 x2 x3 w) : CallsR Tryz.prog 27 #[x0, x1, x2, x3] K w := by
  rw [e27] at h
  exact denF_sound mixed Tryz.func27 h

-- (*gemel/chassis.Chassis).Frame$1
def p79 (P : Program) (K : Value → World → Prop) (x0 : Value) : World → Prop :=
  K (.bool true)
instance fnb79 : FnB Tryz.prog 79 := ⟨Tryz.call79⟩
theorem e79 : p79 Tryz.prog = fun K x0 => denF Tryz.prog Tryz.f79 [x0] K := by kernel_rfl
theorem c79 {K : Value → World → Prop} {x0 : Value} {w : World} (h : p79 Tryz.prog K x0 w) : CallsR Tryz.prog 79 #[x0] K w := by
  rw [e79] at h
  exact denF_sound mixed Tryz.func79 h

end Go.Gx.S
-- 27 79
end
