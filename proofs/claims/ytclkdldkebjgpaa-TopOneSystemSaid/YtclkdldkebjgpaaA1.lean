/- Own texts, put together. -/
import Derived.Test.YtclkdldkebjgpaaGxFn
import Derived.DeepKeys
import Derived.ChangeSame
import Derived.Carry
import Derived.WalkKit
import Derived.ProofKit
import Derived.OpenShut
import Derived.JoinedOf
import Derived.JoinedAt
import Derived.MapViews
import Derived.DeepKeys2
import Derived.ChangeSlices
import Derived.Test.YtclkdldkebjgpaaProg
import Derived.KernelRfl
section
/- What each operation asks, of blocks of cells. -/
namespace Go.Gx
open Go

/-! ### Facts on types -/

class Sz (P : Program) (T : TypeId) (n : outParam Nat) (ag : outParam Bool) : Prop where
  size : ∀ w, (sizeOf T).run P w = .ok n w
  agg : ∀ w, (isAgg T).run P w = .ok ag w
class ZV (P : Program) (T : TypeId) (z : outParam Value) : Prop where
  zero : ∀ w, (zeroValue T).run P w = .ok z w
class By (P : Program) (T : TypeId) (n : outParam Nat) : Prop where
  bytes : ∃ i, (∀ w, (typeInfo T).run P w = .ok i w) ∧ i.bytes = n
class SlT (P : Program) (T : TypeId) (E : outParam TypeId) : Prop where
  und : P.underlying T = some (.slice E)
class ArT (P : Program) (T : TypeId) (n : outParam Nat) (E : outParam TypeId) : Prop where
  und : P.underlying T = some (.array n E)
class MpT (P : Program) (T : TypeId) (k : outParam TypeId) (v : outParam TypeId) : Prop where
  und : P.underlying T = some (.map k v)
/-- a struct -/
class StT (P : Program) (T : TypeId) (fs : outParam (Array Field)) : Prop where
  und : P.underlying T = some (.struct fs)

/-! ### Worlds -/

def pt (b o : Nat) : Value := .pointer (some ⟨b, o, none⟩)
theorem ptr_eq (b : Nat) : ptr b = pt b 0 := id rfl

def cellsO (l : List Value) (T : TypeId) : Obj := .cells l.toArray T (0, 0)

def upd (w : World) (b : Nat) (o : Obj) : World := { w with heap := w.heap.setIfInBounds b o }

theorem heap_upd (w : World) (b b' : Nat) (o : Obj) : (upd w b o).heap[b']? = if b = b' then (w.heap[b]?).map (fun _ => o) else w.heap[b']? := by
  unfold upd
  simp only [Array.getElem?_setIfInBounds]
  split
  · rename_i h
    subst h
    split
    · rename_i hlt; rw [Array.getElem?_eq_getElem hlt]; rfl
    · rename_i hlt; rw [Array.getElem?_eq_none (by omega)]; rfl
  · rfl

theorem heap_upd_same {w : World} {b : Nat} {o : Obj} (h : (w.heap[b]?).isSome = true) : (upd w b o).heap[b]? = some o := by
  rw [heap_upd, if_pos rfl]
  obtain ⟨x, hx⟩ := Option.isSome_iff_exists.1 h
  rw [hx]; rfl

theorem heap_upd_ne {w : World} {b b' : Nat} {o : Obj} (h : b ≠ b') : (upd w b o).heap[b']? = w.heap[b']? := by
  rw [heap_upd, if_neg h]

theorem size_upd (w : World) (b : Nat) (o : Obj) : (upd w b o).heap.size = w.heap.size := by simp [upd]

theorem heap_alloc_new (w : World) (o : Obj) : (w.alloc o).heap[w.heap.size]? = some o := by
  show (w.heap.push o)[w.heap.size]? = some o
  simp
theorem heap_alloc_old {w : World} {o : Obj} {b : Nat} (h : (w.heap[b]?).isSome = true) : (w.alloc o).heap[b]? = w.heap[b]? := by
  obtain ⟨x, hx⟩ := Option.isSome_iff_exists.1 h
  have hlt : b < w.heap.size := (Array.getElem?_eq_some_iff.1 hx).1
  show (w.heap.push o)[b]? = w.heap[b]?
  simp [Array.getElem?_push, Nat.ne_of_lt hlt]
theorem heap_alloc_lt {w : World} {o : Obj} {b : Nat} (h : b < w.heap.size) : (w.alloc o).heap[b]? = w.heap[b]? := by
  show (w.heap.push o)[b]? = w.heap[b]?
  simp [Array.getElem?_push, Nat.ne_of_lt h]
theorem size_alloc (w : World) (o : Obj) : (w.alloc o).heap.size = w.heap.size + 1 := by
  show (w.heap.push o).size = _
  simp
theorem heap_drew (w : World) : w.drew.heap = w.heap := id rfl

theorem lt_of_heap {w : World} {b : Nat} {o : Obj} (h : w.heap[b]? = some o) : b < w.heap.size := (Array.getElem?_eq_some_iff.1 h).1

/-- a cell -/
def rd (w : World) (b o : Nat) : Option Value :=
  match w.heap[b]? with
  | some (.cells c _ _) => c[o]?
  | _ => none

/-- some cells -/
def rdN (w : World) (b o n : Nat) : Option (List Value) :=
  match w.heap[b]? with
  | some (.cells c _ _) => if o + n ≤ c.size then some ((c.toList.drop o).take n) else none
  | _ => none

/-- some cells may be written -/
def wrOk (w : World) (b o n : Nat) : Bool :=
  match w.heap[b]? with
  | some (.cells c _ fz) => decide (o + n ≤ c.size) && (List.range n).all fun i => !(decide (fz.1 ≤ o + i) && decide (o + i < fz.2))
  | _ => false

def splice (l : List Value) (o : Nat) (vs : List Value) : List Value := l.take o ++ vs ++ l.drop (o + vs.length)

/-- some cells are written -/
def wr (w : World) (b o : Nat) (vs : List Value) : World :=
  match w.heap[b]? with
  | some (.cells c T fz) => upd w b (.cells (splice c.toList o vs).toArray T fz)
  | _ => w

variable {P : Program} {K : Value → World → Prop} {w : World}

theorem cell_rd (w : World) (b o : Nat) : w.cell? ⟨b, o, none⟩ = rd w b o := by
  unfold World.cell? rd
  cases w.heap[b]? with
  | none => rfl
  | some x => cases x <;> rfl

theorem opS_bind {s : Sem Value} : opS P (do pure (.value (← s))) K w = match s.run P w with | .ok v w' => K v w' | .halt _ _ => False := by
  unfold opS
  rw [Sem.run_bind]
  cases s.run P w <;> rfl

theorem add_none (b o n : Nat) : (⟨b, o, none⟩ : Addr).add n = ⟨b, o + n, none⟩ := by
  unfold Addr.add
  split
  · rename_i h; subst h; rfl
  · rfl

theorem shape_rd {b : Nat} : w.shape? b = match w.heap[b]? with | some (.cells c e _) => some (e, c.size) | _ => none := by
  unfold World.shape?
  cases w.heap[b]? with
  | none => rfl
  | some x => cases x <;> rfl

theorem run_loadCellsFrom {b : Nat} {c : Array Value} {T : TypeId} {fz : Nat × Nat} (h : w.heap[b]? = some (.cells c T fz)) : ∀ (n i o : Nat) (acc : Array Value), o + i + n ≤ c.size →
    (loadCellsFrom ⟨b, o, none⟩ i n acc).run P w = .ok (acc ++ ((c.toList.drop (o + i)).take n).toArray) w
  | 0, i, o, acc, _ => by simp [loadCellsFrom]
  | n + 1, i, o, acc, hle => by
    have hlt : o + i < c.size := by omega
    have hc : w.cell? ⟨b, o + i, none⟩ = some c[o + i] := by rw [cell_rd, rd, h]; exact Array.getElem?_eq_getElem hlt
    rw [loadCellsFrom, Sem.run_bind, add_none, run_load, hc]
    simp only [Result.andThen_ok]
    rw [run_loadCellsFrom h n (i + 1) o _ (by omega)]
    have : (c.toList.drop (o + i)).take (n + 1) = c[o + i] :: (c.toList.drop (o + (i + 1))).take n := by
      rw [List.drop_eq_getElem_cons (by simpa using hlt), List.take_succ_cons]
      simp [Nat.add_assoc]
    rw [this]
    simp

theorem run_loadCellsFrom_out {b : Nat} {c : Array Value} {T : TypeId} {fz : Nat × Nat} (h : w.heap[b]? = some (.cells c T fz)) : ∀ (n i o : Nat) (acc : Array Value), o + i ≤ c.size → c.size < o + i + n →
    ∃ e, (loadCellsFrom ⟨b, o, none⟩ i n acc).run P w = .halt e w
  | 0, i, o, acc, h1, h2 => by omega
  | n + 1, i, o, acc, h1, h2 => by
    rw [loadCellsFrom, Sem.run_bind, add_none, run_load]
    by_cases hlt : o + i < c.size
    · have hc : w.cell? ⟨b, o + i, none⟩ = some c[o + i] := by rw [cell_rd, rd, h]; exact Array.getElem?_eq_getElem hlt
      rw [hc]
      exact run_loadCellsFrom_out h n (i + 1) o _ (by omega) (by omega)
    · have hc : w.cell? ⟨b, o + i, none⟩ = none := by rw [cell_rd, rd, h]; exact Array.getElem?_eq_none (by omega)
      rw [hc]
      simp only [World.farLoad, h]
      exact ⟨_, rfl⟩

/-- a cell is read -/
theorem opS_ld1 {T n : Nat} [hs : Sz P T n false] (b o : Nat) : opS P (S.ld T (pt b o)) K w = match rd w b o with | some v => K v w | none => False := by
  show opS P (do match ← shape b with | some _ => do pure (.value (← loadVar T ⟨b, o, none⟩)) | none => stuck "ld") K w = _
  unfold opS
  rw [Sem.run_bind]
  have hsh : (shape b).run P w = .ok (w.shape? b) w := rfl
  rw [hsh, Result.andThen_ok, shape_rd, rd]
  cases hb : w.heap[b]? with
  | none => rfl
  | some x =>
    cases x with
    | cells c e fz =>
      simp only []
      rw [Sem.run_bind, loadVar, Sem.run_bind, hs.agg w, Result.andThen_ok]
      simp only [Bool.false_eq_true, if_false]
      rw [run_load, cell_rd, rd, hb]
      simp only []
      cases hc : c[o]? with
      | some v => rfl
      | none => simp only [World.farLoad, hb]; rfl
    | _ => rfl

theorem opS_ldN {T n : Nat} [hs : Sz P T n true] (hn : 0 < n) (b o : Nat) : opS P (S.ld T (pt b o)) K w = match rdN w b o n with | some vs => K (.agg vs.toArray) w | none => False := by
  show opS P (do match ← shape b with | some _ => do pure (.value (← loadVar T ⟨b, o, none⟩)) | none => stuck "ld") K w = _
  unfold opS
  rw [Sem.run_bind]
  have hsh : (shape b).run P w = .ok (w.shape? b) w := rfl
  rw [hsh, Result.andThen_ok, shape_rd, rdN]
  cases hb : w.heap[b]? with
  | none => rfl
  | some x =>
    cases x with
    | cells c e fz =>
      simp only []
      rw [Sem.run_bind, loadVar, Sem.run_bind, hs.agg w, Result.andThen_ok]
      simp only [if_true]
      rw [Sem.run_bind, hs.size w, Result.andThen_ok, loadCells]
      by_cases hle : o + n ≤ c.size
      · rw [if_pos hle, Sem.run_bind, run_loadCellsFrom hb n 0 o #[] (by omega)]
        simp only [Result.andThen_ok, Sem.run_pure, uponR]
        simp
      · rw [if_neg hle, Sem.run_bind]
        by_cases ho : o ≤ c.size
        · obtain ⟨e, he⟩ := run_loadCellsFrom_out (P := P) hb n 0 o #[] (by omega) (by omega)
          rw [he]; rfl
        · obtain ⟨m, rfl⟩ : ∃ m, n = m + 1 := ⟨n - 1, by omega⟩
          rw [loadCellsFrom, Sem.run_bind, add_none, run_load]
          have hc : w.cell? ⟨b, o + 0, none⟩ = none := by rw [cell_rd, rd, hb]; exact Array.getElem?_eq_none (by omega)
          rw [hc]
          simp only [World.farLoad, hb]
          rfl
    | _ => rfl

/-! ### Writing -/

theorem allFree_ok {b o : Nat} {c : Array Value} {T : TypeId} {fz : Nat × Nat} (h : w.heap[b]? = some (.cells c T fz)) : ∀ n : Nat,
    (S.allFree b o n).run P w = if ((List.range n).all fun i => !(decide (fz.1 ≤ o + i) && decide (o + i < fz.2))) = true then .ok () w else .halt (.stuck "allFree") w
  | 0 => rfl
  | n + 1 => by
    rw [S.allFree, Sem.run_bind]
    have hs : (frozen ⟨b, o + n, none⟩).run P w = .ok (w.frozen? ⟨b, o + n, none⟩) w := rfl
    have hf : w.frozen? ⟨b, o + n, none⟩ = (decide (fz.1 ≤ o + n) && decide (o + n < fz.2)) := by simp only [World.frozen?, h]
    rw [hs, Result.andThen_ok, hf, List.range_succ, List.all_append]
    cases hc : (decide (fz.1 ≤ o + n) && decide (o + n < fz.2)) with
    | true => simp only [List.all_cons, List.all_nil, hc, Bool.not_true, Bool.false_and, Bool.and_false, if_true, Bool.false_eq_true, if_false]; rfl
    | false =>
      simp only [Bool.false_eq_true, if_false]
      rw [allFree_ok h n]
      simp only [List.all_cons, List.all_nil, hc, Bool.not_false, Bool.and_true]

theorem splice_nil (l : List Value) (o : Nat) : splice l o [] = l := by simp [splice]

theorem splice_cons (l : List Value) (o : Nat) (v : Value) (vs : List Value) (h : o < l.length) : splice (l.set o v) (o + 1) vs = splice l o (v :: vs) := by
  unfold splice
  have h1 : (l.set o v).take (o + 1) = l.take o ++ [v] := by
    rw [List.take_succ_eq_append_getElem (by simpa using h), List.take_set_of_le (Nat.le_refl _)]
    simp
  have h2 : (l.set o v).drop (o + 1 + vs.length) = l.drop (o + (v :: vs).length) := by
    rw [List.drop_set_of_lt (by omega)]
    congr 1
    simp; omega
  rw [h1, h2]
  simp

theorem upd_upd (w : World) (b : Nat) (x y : Obj) : upd (upd w b x) b y = upd w b y := by
  simp [upd]

theorem splice_length {l : List Value} {o : Nat} {vs : List Value} (h : o + vs.length ≤ l.length) : (splice l o vs).length = l.length := by
  simp [splice]; omega

theorem run_storeCells {b : Nat} {T : TypeId} {fz : Nat × Nat} : ∀ (vs : List Value) (w : World) (c : Array Value) (i o : Nat), w.heap[b]? = some (.cells c T fz) → vs.all S.oneCell = true → o + i + vs.length ≤ c.size →
    (∀ j, j < vs.length → (decide (fz.1 ≤ o + i + j) && decide (o + i + j < fz.2)) = false) →
    (storeCells ⟨b, o, none⟩ vs i).run P w = .ok () (upd w b (.cells (splice c.toList (o + i) vs).toArray T fz))
  | [], w, c, i, o, h, ho, hle, hfz => by
    have : upd w b (.cells (splice c.toList (o + i) []).toArray T fz) = w := by
      rw [splice_nil]
      simp only [Array.toArray_toList]
      unfold upd
      have hlt := lt_of_heap h
      have : w.heap.setIfInBounds b (.cells c T fz) = w.heap := by
        apply Array.ext'
        simp only [Array.toList_setIfInBounds]
        apply List.ext_getElem?
        intro j
        rw [List.getElem?_set]
        split
        · rename_i e
          subst e
          rw [if_pos (by simpa using hlt)]
          rw [← h]; simp
        · rfl
      rw [this]
    rw [this]; rfl
  | v :: vs, w, c, i, o, h, ho, hle, hfz => by
    simp only [List.all_cons, Bool.and_eq_true] at ho
    simp only [List.length_cons] at hle hfz
    have hlt : o + i < c.size := by omega
    have hc : w.cell? ⟨b, o + i, none⟩ = some c[o + i] := by rw [cell_rd, rd, h]; exact Array.getElem?_eq_getElem hlt
    have hf : w.frozen? ⟨b, o + i, none⟩ = false := by simp only [World.frozen?, h]; exact hfz 0 (by omega)
    have hst : (store ⟨b, o + i, none⟩ v).run P w = .ok () (upd w b (.cells (c.setIfInBounds (o + i) v) T fz)) := by
      have hw : w.setCell ⟨b, o + i, none⟩ v = upd w b (.cells (c.setIfInBounds (o + i) v) T fz) := by
        unfold World.setCell upd
        congr 1
        apply Array.ext'
        apply List.ext_getElem?
        intro j
        simp only [Array.toList_modify, Array.toList_setIfInBounds, List.getElem?_set, List.getElem?_modify]
        by_cases e : b = j
        · subst e
          have hj : w.heap.toList[b]? = some (.cells c T fz) := by rw [← h]; simp
          rw [hj]; simp [lt_of_heap h]
        · simp [e]
      cases v <;> first | (simp [S.oneCell] at ho; done) | (simp only [store, Sem.run, hc, hf, Bool.false_eq_true, if_false, hw])
    rw [storeCells, Sem.run_bind, add_none, hst, Result.andThen_ok]
    have h' : (upd w b (.cells (c.setIfInBounds (o + i) v) T fz)).heap[b]? = some (.cells (c.setIfInBounds (o + i) v) T fz) := heap_upd_same (by rw [h]; rfl)
    rw [run_storeCells vs _ _ (i + 1) o h' ho.2 (by simp; omega) (fun j hj => by have := hfz (j + 1) (by omega); simpa [Nat.add_assoc, Nat.add_comm 1 j] using this)]
    rw [upd_upd]
    simp only [Array.toList_setIfInBounds]
    rw [← Nat.add_assoc, splice_cons _ _ _ _ (by simpa using hlt)]

/-- some cells are written -/
theorem opS_st {T n : Nat} {ag : Bool} [hs : Sz P T n ag] (b o : Nat) (v : Value) (hv : v.cells.size = n) (h1 : v.cells.toList.all S.oneCell = true) :
    opS P (S.st T (pt b o) v) K w = if wrOk w b o n = true then K undef (wr w b o v.cells.toList) else False := by
  show opS P (do
    match ← shape b with
    | some (_, m) =>
      if v.cells.toList.all S.oneCell && decide (o + v.cells.size ≤ m) then do
        S.allFree b o v.cells.size
        storeVar T ⟨b, o, none⟩ v
        pure .skip
      else stuck "st"
    | none => stuck "st") K w = _
  unfold opS
  rw [Sem.run_bind]
  have hsh : (shape b).run P w = .ok (w.shape? b) w := rfl
  rw [hsh, Result.andThen_ok, shape_rd, wrOk]
  cases hb : w.heap[b]? with
  | none => simp [uponR]
  | some x =>
    cases x with
    | cells c e fz =>
      simp only [h1, Bool.true_and]
      by_cases hle : o + v.cells.size ≤ c.size
      · rw [if_pos (by simpa using hle), Sem.run_bind, allFree_ok hb]
        by_cases hfz : ((List.range v.cells.size).all fun i => !(decide (fz.1 ≤ o + i) && decide (o + i < fz.2))) = true
        · rw [if_pos hfz, Result.andThen_ok, Sem.run_bind, storeVar, Sem.run_bind, hs.size w, Result.andThen_ok, if_neg (by rw [hv]; simp)]
          show uponR P K (((storeCells ⟨b, o, none⟩ v.cells.toList).run P w).andThen fun a w' => Sem.run P (pure Next.skip) w') = _
          rw [run_storeCells v.cells.toList w c 0 o hb h1 (by simpa using hle) (fun j hj => by
            rw [List.all_eq_true] at hfz
            have := hfz j (by simpa using hj)
            rw [Bool.not_eq_true'] at this
            simpa only [Nat.add_zero] using this)]
          rw [← hv]
          rw [if_pos (by rw [hfz]; simpa using hle)]
          simp only [wr, hb]
          rfl
        · rw [if_neg hfz, ← hv]
          rw [if_neg (fun h => hfz (Bool.and_eq_true_iff.1 h).2)]
          rfl
      · rw [if_neg (by simpa using hle), ← hv]
        rw [if_neg (fun h => hle (of_decide_eq_true (Bool.and_eq_true_iff.1 h).1))]
        rfl
    | _ => simp [uponR, stuck]

/-! ### New blocks -/

theorem opS_box (T : TypeId) (v : Value) : opS P (S.box T v) K w = K (pt w.heap.size 0) (w.alloc (.cells v.cells T)) := id rfl

theorem opS_alloc {T : TypeId} {z : Value} [hz : ZV P T z] : opS P (S.alloc T) K w = K (pt w.heap.size 0) (w.alloc (.cells z.cells T)) := by
  unfold S.alloc
  rw [opS_bind]
  unfold Instr.alloc
  rw [Sem.run_bind, hz.zero w, Result.andThen_ok]
  rfl

/-! ### Values -/

theorem opS_nc (b o : Nat) : opS P (S.nc (pt b o)) K w = K (pt b o) w := id rfl
theorem opS_nc_none : opS P (S.nc (.pointer none)) K w = False := id rfl

theorem opS_fa {T : TypeId} {fs : Array Field} [hT : StT P T fs] {f : Nat} {fd : Field} {n : Nat} {ag : Bool} (hf : fs[f]? = some fd) [hs : Sz P fd.type n ag] (hn : n ≠ 0) (b o : Nat) :
    opS P (S.fa T (pt b o) f) K w = K (pt b (o + fd.offset)) w := by
  unfold S.fa
  rw [opS_bind]
  unfold Instr.fieldAt
  rw [Sem.run_bind, run_underlying_of hT.und, Result.andThen_ok]
  simp only [hf]
  rw [Sem.run_bind]
  have : (Instr.sureAddr (pt b o)).run P w = .ok ⟨b, o, none⟩ w := rfl
  rw [this, Result.andThen_ok, Sem.run_bind, fieldPlace, Sem.run_bind, hs.size w, Result.andThen_ok, if_neg hn, Sem.run_pure, Result.andThen_ok, add_none]
  rfl

theorem opS_len (a : Option Addr) (n c : Nat) : opS P (S.len (.slice a n c)) K w = K (.int .i64 n) w := id rfl

theorem opS_ext (vs : Array Value) (i : Nat) : opS P (S.ext (.tuple vs) i) K w = match vs[i]? with | some v => K v w | none => False := by
  unfold S.ext
  rw [opS_bind]
  simp only [Instr.extract]
  cases vs[i]? <;> rfl

theorem opS_not (b : Bool) : opS P (S.un .not (.bool b)) K w = K (.bool (!b)) w := id rfl
theorem opS_mkf (fn : Fn) (x y : List Value) : opS P (S.mkf fn x y) K w = K (.func fn x.toArray y.toArray) w := id rfl
theorem opS_convI (k k' : IntKind) (n : Int) : opS P (S.convI k (.int k' n)) K w = K (.int k (k.wrap n)) w := id rfl

theorem opS_add (k : IntKind) (a b : Int) : opS P (S.binI .add (.int k a) (.int k b)) K w = K (.int k (k.wrap (a + b))) w := by simp [S.binI, binOp, Op.intArith, opS, uponR]
theorem opS_sub (k : IntKind) (a b : Int) : opS P (S.binI .sub (.int k a) (.int k b)) K w = K (.int k (k.wrap (a - b))) w := by simp [S.binI, binOp, Op.intArith, opS, uponR]
theorem opS_mul (k : IntKind) (a b : Int) : opS P (S.binI .mul (.int k a) (.int k b)) K w = K (.int k (k.wrap (a * b))) w := by simp [S.binI, binOp, Op.intArith, opS, uponR]
theorem opS_quo (k : IntKind) (a b : Int) (h : b ≠ 0) : opS P (S.binI .quo (.int k a) (.int k b)) K w = K (.int k (k.wrap (a.tdiv b))) w := by simp [S.binI, binOp, Op.intDiv, opS, uponR, h]
theorem opS_rem (k : IntKind) (a b : Int) (h : b ≠ 0) : opS P (S.binI .rem (.int k a) (.int k b)) K w = K (.int k (a.tmod b)) w := by simp [S.binI, binOp, Op.intDiv, opS, uponR, h]
theorem opS_eql (k : IntKind) (a b : Int) : opS P (S.binI .eql (.int k a) (.int k b)) K w = K (.bool (a == b)) w := by simp [S.binI, binOp, Op.intCmp, opS, uponR]
theorem opS_neq (k : IntKind) (a b : Int) : opS P (S.binI .neq (.int k a) (.int k b)) K w = K (.bool (a != b)) w := by simp [S.binI, binOp, Op.intCmp, opS, uponR]
theorem opS_lss (k : IntKind) (a b : Int) : opS P (S.binI .lss (.int k a) (.int k b)) K w = K (.bool (decide (a < b))) w := by simp [S.binI, binOp, Op.intCmp, opS, uponR]
theorem opS_leq (k : IntKind) (a b : Int) : opS P (S.binI .leq (.int k a) (.int k b)) K w = K (.bool (decide (a ≤ b))) w := by simp [S.binI, binOp, Op.intCmp, opS, uponR]
theorem opS_gtr (k : IntKind) (a b : Int) : opS P (S.binI .gtr (.int k a) (.int k b)) K w = K (.bool (decide (a > b))) w := by simp [S.binI, binOp, Op.intCmp, opS, uponR]
theorem opS_geq (k : IntKind) (a b : Int) : opS P (S.binI .geq (.int k a) (.int k b)) K w = K (.bool (decide (a ≥ b))) w := by simp [S.binI, binOp, Op.intCmp, opS, uponR]
theorem opS_beq (a b : Bool) : opS P (S.binB .eql (.bool a) (.bool b)) K w = K (.bool (a == b)) w := id rfl
theorem opS_bne (a b : Bool) : opS P (S.binB .neq (.bool a) (.bool b)) K w = K (.bool (!(a == b))) w := id rfl
theorem opS_isnil (b : Bool) : opS P (S.binN .eql (some b)) K w = K (.bool b) w := id rfl
theorem opS_notnil (b : Bool) : opS P (S.binN .neq (some b)) K w = K (.bool (!b)) w := id rfl
theorem isNilP_pt (b o : Nat) : S.isNilP (pt b o) = some false := id rfl
theorem isNilP_none : S.isNilP (.pointer none) = some true := id rfl
theorem opS_pick (c : Bool) (a b : Value) : opS P (S.pick (.bool c) a b) K w = K (if c then a else b) w := by cases c <;> rfl

theorem brn_bool (t : Bool) (a b : World → Prop) (w : World) : brn (.bool t) a b w = if t = true then a w else b w := by cases t <;> rfl

/-! ### Calls -/

/-- a function with a body -/
class FnB (P : Program) (f : FuncId) : Prop where
  enter : ∀ args w, (callFunc f args).run P w = .ok (.enter f args) w

theorem opS_cl {f : FuncId} [hf : FnB P f] (args : List Value) : opS P (S.cl f args) K w = CallsR P f args.toArray K w := by
  unfold S.cl S.call opS
  have : (do
      let d ← Deferred.ofValue (.func (.func f) #[] #[]) args.toArray
      invoke d.target d.args : Sem Next) = callFunc f (#[] ++ args.toArray ++ #[]) := rfl
  rw [this, hf.enter]
  simp [uponR]

/-- a call of a closure -/
theorem opS_call {f : FuncId} [hf : FnB P f] (cap : Array Value) (args : List Value) : opS P (S.call (.func (.func f) #[] cap) args) K w = CallsR P f (args.toArray ++ cap) K w := by
  unfold S.call opS
  have : (do
      let d ← Deferred.ofValue (.func (.func f) #[] cap) args.toArray
      invoke d.target d.args : Sem Next) = callFunc f (#[] ++ args.toArray ++ cap) := rfl
  rw [this, hf.enter]
  simp [uponR]

theorem enterS_call {f : FuncId} [hf : FnB P f] (cap : Array Value) (args : List Value) : enterS P (S.call (.func (.func f) #[] cap) args) K w = CallsR P f (args.toArray ++ cap) K w := by
  unfold S.call enterS
  have : (do
      let d ← Deferred.ofValue (.func (.func f) #[] cap) args.toArray
      invoke d.target d.args : Sem Next) = callFunc f (#[] ++ args.toArray ++ cap) := rfl
  rw [this, hf.enter]
  simp

/-! ### Places in slices and arrays -/

theorem NV.boundsPanic {α : Type} (k : IntKind) (x y : Int) (c : BoundsCode) : NV P (Go.boundsPanic k x y c : Sem α) := by
  unfold Go.boundsPanic
  simp only []
  split <;> exact NV.right fun _ => NV.runtimePanic _

theorem nv_match {s : Sem Value} (h : NV P s) : (match s.run P w with | .ok v w' => K v w' | .halt _ _ => False) = False := by
  cases hr : s.run P w with
  | halt x w' => rfl
  | ok v w' => exact absurd hr (h _ _ _)

theorem opS_iaS {T E n : Nat} {ag : Bool} [hT : SlT P T E] [hs : Sz P E n ag] (b o len cap : Nat) (k : IntKind) (i : Int) :
    opS P (S.ia T (.slice (some ⟨b, o, none⟩) len cap) (.int k i)) K w = if 0 ≤ i ∧ i < len then K (pt b (o + i.toNat * n)) w else False := by
  unfold S.ia
  rw [opS_bind]
  unfold Instr.indexAt
  simp only [asIntOf, pure_bind]
  rw [Sem.run_bind, run_underlying_of hT.und, Result.andThen_ok]
  simp only []
  rw [Sem.run_bind, run_underlying_of hT.und, Result.andThen_ok]
  try simp only []
  by_cases h : 0 ≤ i ∧ i < len
  · rw [if_pos h, if_pos h, Sem.run_bind, hs.size w, Result.andThen_ok, add_none]; rfl
  · rw [if_neg h, if_neg h, if_neg (by simp)]
    exact nv_match (NV.boundsPanic _ _ _ _)

theorem opS_iaS_nil {T E : Nat} [hT : SlT P T E] (len cap : Nat) (k : IntKind) (i : Int) : opS P (S.ia T (.slice none len cap) (.int k i)) K w = False := by
  unfold S.ia
  rw [opS_bind]
  unfold Instr.indexAt
  simp only [asIntOf, pure_bind]
  rw [Sem.run_bind, run_underlying_of hT.und, Result.andThen_ok]
  simp only []
  rw [Sem.run_bind, run_underlying_of hT.und, Result.andThen_ok]
  try simp only []
  exact nv_match (NV.boundsPanic _ _ _ _)

theorem opS_iaA {T E n m : Nat} {ag : Bool} [hT : ArT P T m E] [hs : Sz P E n ag] (b o : Nat) (k : IntKind) (i : Int) (h : 0 ≤ i ∧ i < m) :
    opS P (S.ia T (pt b o) (.int k i)) K w = K (pt b (o + i.toNat * n)) w := by
  unfold S.ia
  rw [opS_bind]
  unfold Instr.indexAt
  simp only [asIntOf, pure_bind]
  rw [Sem.run_bind, run_underlying_of hT.und, Result.andThen_ok]
  simp only []
  have : (Instr.sureAddr (pt b o)).run P w = .ok ⟨b, o, none⟩ w := rfl
  rw [Sem.run_bind, this, Result.andThen_ok]
  try simp only []
  rw [Sem.run_bind, run_underlying_of hT.und, Result.andThen_ok]
  try simp only []
  rw [if_pos h, Sem.run_bind, hs.size w, Result.andThen_ok, add_none]; rfl

/-! ### Structs and arrays that are built -/

/-- the fields' zero cells, and what is given of them, in order -/
def mergeF : Nat → List (List Value) → List (Nat × Value) → Option (List Value)
  | _, [], [] => some []
  | i, z :: zs, (j, v) :: ps =>
    if i = j then (if v.cells.toList.length = z.length then (mergeF (i + 1) zs ps).map (v.cells.toList ++ ·) else none)
    else (mergeF (i + 1) zs ((j, v) :: ps)).map (z ++ ·)
  | i, z :: zs, [] => (mergeF (i + 1) zs []).map (z ++ ·)
  | _, [], _ :: _ => none

def offs : Nat → List (List Value) → List (Nat × Nat)
  | _, [] => []
  | o, z :: zs => (o, z.length) :: offs (o + z.length) zs

class BT (P : Program) (T : TypeId) (zs : outParam (List (List Value))) : Prop where
  run : ∀ ps l w, mergeF 0 zs ps = some l → (Instr.build T ps.toArray).run P w = .ok (.agg l.toArray) w

theorem foldl_splice (vs : List Value) : ∀ (j : Nat) (cs : Array Value) (o : Nat), o + j + vs.length ≤ cs.size →
    ((vs.zipIdx j).foldl (fun (cs : Array Value) x => cs.setIfInBounds (o + x.2) x.1) cs).toList = splice cs.toList (o + j) vs := by
  induction vs with
  | nil => intro j cs o h; simp [splice_nil]
  | cons v vs ih =>
    intro j cs o h
    simp only [List.length_cons] at h
    simp only [List.zipIdx_cons, List.foldl_cons]
    rw [ih (j + 1) _ o (by simp; omega)]
    rw [Array.toList_setIfInBounds, ← Nat.add_assoc, splice_cons _ _ _ _ (by simp; omega)]

theorem fill_cons {place : Nat → Option (Nat × Nat)} {cells : Array Value} {i : Nat} {v : Value} {rest : List (Nat × Value)} {off size : Nat} (hp : place i = some (off, size)) (hs : v.cells.size = size) (hle : off + size ≤ cells.size) :
    Instr.fill place cells ((i, v) :: rest) = Instr.fill place (splice cells.toList off v.cells.toList).toArray rest := by
  rw [Instr.fill, hp]
  simp only []
  rw [if_neg (by rw [hs]; simp; omega)]
  congr 1
  apply Array.ext'
  have e : v.cells.zipIdx = (v.cells.toList.zipIdx).toArray := by apply Array.ext'; simp
  rw [e]
  have := foldl_splice v.cells.toList 0 cells off (by simpa [hs] using hle)
  simpa using this

theorem splice_mid (pre z rest vs : List Value) (h : vs.length = z.length) : splice (pre ++ (z ++ rest)) pre.length vs = pre ++ (vs ++ rest) := by
  unfold splice
  rw [h, List.take_left, List.drop_append, List.drop_eq_nil_of_le (by omega)]
  simp

theorem fill_merge {place : Nat → Option (Nat × Nat)} : ∀ (zs : List (List Value)) (i : Nat) (pre : List Value) (ps : List (Nat × Value)) (l : List Value),
    (∀ k, k < zs.length → place (i + k) = (offs pre.length zs)[k]?) → mergeF i zs ps = some l → Instr.fill place (pre ++ zs.flatten).toArray ps = some (pre ++ l).toArray
  | [], i, pre, [], l, hp, h => by cases h; simp [Instr.fill]
  | [], i, pre, p :: ps, l, hp, h => by cases h
  | z :: zs, i, pre, [], l, hp, h => by
    simp only [mergeF, Option.map_eq_some_iff] at h
    obtain ⟨l', hl, rfl⟩ := h
    have := fill_merge (place := place) zs (i + 1) (pre ++ z) [] l' (fun k hk => by
      have := hp (k + 1) (by simp; omega)
      simpa [offs, Nat.add_assoc, Nat.add_comm 1 k] using this) hl
    simpa using this
  | z :: zs, i, pre, (j, v) :: ps, l, hp, h => by
    have hp' : ∀ k, k < zs.length → place (i + 1 + k) = (offs (pre.length + z.length) zs)[k]? := fun k hk => by
      have := hp (k + 1) (by simp; omega)
      simpa [offs, Nat.add_assoc, Nat.add_comm 1 k] using this
    unfold mergeF at h
    split at h
    · rename_i hij
      subst hij
      split at h
      · rename_i hlen
        rw [Option.map_eq_some_iff] at h
        obtain ⟨l', hl, rfl⟩ := h
        have h0 := hp 0 (by simp)
        simp only [offs, Nat.add_zero, List.getElem?_cons_zero] at h0
        rw [fill_cons h0 (by simpa using hlen) (by simp)]
        have e : splice (pre ++ (z :: zs).flatten).toArray.toList pre.length v.cells.toList = (pre ++ v.cells.toList) ++ zs.flatten := by
          simp only [List.flatten_cons]
          rw [splice_mid _ _ _ _ hlen]; simp
        rw [e]
        have := fill_merge (place := place) zs (i + 1) (pre ++ v.cells.toList) ps l' (fun k hk => by
          rw [hp' k hk, List.length_append, hlen]) hl
        rw [this]; simp
      · cases h
    · rw [Option.map_eq_some_iff] at h
      obtain ⟨l', hl, rfl⟩ := h
      have := fill_merge (place := place) zs (i + 1) (pre ++ z) ((j, v) :: ps) l' (fun k hk => by
        rw [hp' k hk, List.length_append]) hl
      simpa using this

theorem BT.ofStruct {T : TypeId} {fs : Array Field} {zs : List (List Value)} {z : Value} (hu : P.underlying T = some (.struct fs)) (hz : ∀ w, (zeroValue T).run P w = .ok z w) (hzs : z.cells = zs.flatten.toArray)
    (ho : ∀ w, (fs.mapM (fun f => do pure (f.offset, ← sizeOf f.type) : Field → Sem (Nat × Nat))).run P w = .ok (offs 0 zs).toArray w) : BT P T zs := by
  refine ⟨fun ps l w h => ?_⟩
  unfold Instr.build
  rw [Sem.run_bind, hz w, Result.andThen_ok, Sem.run_bind, run_underlying_of hu, Result.andThen_ok]
  simp only []
  rw [Sem.run_bind, ho w, Result.andThen_ok]
  have := fill_merge (place := ((offs 0 zs).toArray[·]?)) zs 0 [] ps l (fun k hk => by simp) h
  simp only [List.nil_append] at this
  rw [hzs, this]
  rfl

theorem offs_rep {z : List Value} : ∀ (n o k : Nat), k < n → (offs o (List.replicate n z))[k]? = some (o + k * z.length, z.length)
  | 0, _, _, h => by omega
  | n + 1, o, 0, _ => by simp [List.replicate_succ, offs]
  | n + 1, o, k + 1, h => by
    simp only [List.replicate_succ, offs, List.getElem?_cons_succ]
    rw [offs_rep n (o + z.length) k (by omega), Nat.add_assoc, Nat.add_mul, Nat.one_mul, Nat.add_comm z.length]

theorem BT.ofArray {T E : TypeId} {n sz : Nat} {ag : Bool} {ze : List Value} {z : Value} (hu : P.underlying T = some (.array n E)) (hz : ∀ w, (zeroValue T).run P w = .ok z w) (hzs : z.cells = (List.replicate n ze).flatten.toArray)
    (hs : Sz P E sz ag) (hsz : sz = ze.length) : BT P T (List.replicate n ze) := by
  refine ⟨fun ps l w h => ?_⟩
  unfold Instr.build
  rw [Sem.run_bind, hz w, Result.andThen_ok, Sem.run_bind, run_underlying_of hu, Result.andThen_ok]
  simp only []
  rw [Sem.run_bind, hs.size w, Result.andThen_ok]
  have := fill_merge (place := fun i => some (i * sz, sz)) (List.replicate n ze) 0 [] ps l (fun k hk => by
    have h2 := offs_rep (z := ze) n 0 k (by simpa using hk)
    simp only [List.length_nil] at h2 ⊢
    rw [h2, hsz]; simp) h
  simp only [List.nil_append] at this
  rw [hzs, this]
  rfl

theorem opS_build {T : TypeId} {zs : List (List Value)} [hb : BT P T zs] (ps : List (Nat × Value)) (h : (mergeF 0 zs ps).isSome = true) :
    opS P (S.build T ps) K w = K (.agg ((mergeF 0 zs ps).getD []).toArray) w := by
  obtain ⟨l, hl⟩ := Option.isSome_iff_exists.1 h
  unfold S.build
  rw [opS_bind, hb.run ps l w hl, hl]
  rfl

/-! ### Slices that are made, and appended to -/

/-- copies of a zero value -/
def zeros (n : Nat) (z : List Value) : List Value := (List.replicate n z).flatten

theorem zeros_length (n : Nat) (z : List Value) : (zeros n z).length = n * z.length := by simp [zeros]

theorem wrap_i64 {x : Int} (h : -9223372036854775808 ≤ x ∧ x < 9223372036854775808) : IntKind.i64.wrap x = x := by
  unfold IntKind.wrap
  have e1 : (2 : Int) ^ IntKind.i64.bits = 18446744073709551616 := rfl
  have e2 : (2 : Int) ^ (IntKind.i64.bits - 1) = 9223372036854775808 := rfl
  have e3 : IntKind.i64.signed = true := rfl
  simp only [e1, e2, e3, Bool.true_and, decide_eq_true_eq]
  split <;> omega

theorem range_zeros (n : Nat) (z : Array Value) : ((Array.range (n * z.size)).map (fun i => z[i % z.size]!)) = (zeros n z.toList).toArray := by
  apply Array.ext'
  simp only [Array.toList_map, Array.toList_range, zeros]
  induction n with
  | zero => simp
  | succ n ih =>
    rw [Nat.succ_mul, List.range_add, List.map_append, ih, List.replicate_succ', List.flatten_append, List.flatten_singleton]
    congr 1
    apply List.ext_getElem?
    intro i
    simp only [List.getElem?_map, List.map_map]
    by_cases h : i < z.size
    · simp [h, Nat.add_mod, Nat.mod_eq_of_lt h]
    · simp [h]

theorem opS_mks {T E n by_ : Nat} {ag : Bool} {z : Value} [hT : SlT P T E] [hs : Sz P E n ag] [hb : By P E by_] [hz : ZV P E z] (k k' : IntKind) (len : Int) (h0 : 0 ≤ len) (h1 : by_ * len ≤ 2 ^ 48) (h2 : len < 2 ^ 62)
    (hn : z.cells.size = n) (hn0 : 0 < n) : opS P (S.mks T (.int k len) (.int k' len)) K w = K (.slice (some ⟨w.heap.size, 0, none⟩) len.toNat len.toNat) (w.alloc (.cells (zeros len.toNat z.cells.toList).toArray E)) := by
  obtain ⟨i, hi, hib⟩ := hb.bytes
  unfold S.mks
  rw [opS_bind]
  unfold Instr.makeSlice
  rw [Sem.run_bind, run_underlying_of hT.und, Result.andThen_ok]
  have hw : IntKind.i64.wrap len = len := wrap_i64 (by omega)
  simp only [asInt, asIntOf, pure_bind, hw]
  rw [Sem.run_bind, hi w, Result.andThen_ok]
  have ht : (decide (len < 0) || decide ((i.bytes : Int) * len > 2 ^ 48)) = false := by
    rw [hib]; simp; omega
  have hc : ((decide (len < 0) || decide ((i.bytes : Int) * len > 2 ^ 48)) || decide (len < 0) || decide (len > len)) = false := by
    rw [ht]; simp; omega
  simp only [hc, Bool.false_eq_true, if_false]
  have har : (askRoom (len.toNat * i.bytes)).run P w = .ok () w := by
    unfold askRoom; split <;> rfl
  rw [Sem.run_bind, har, Result.andThen_ok, Sem.run_bind, hs.size w, Result.andThen_ok]
  have hrz := range_zeros len.toNat z.cells
  rw [hn] at hrz
  by_cases hz0 : len.toNat * n = 0
  · rw [if_pos hz0, Sem.run_bind]
    have hl0 : len.toNat = 0 := by
      rcases Nat.mul_eq_zero.1 hz0 with h | h
      · exact h
      · omega
    have e0 : Array.range 0 = #[] := by simp
    simp only [hl0, Nat.zero_mul, e0, Array.map_empty]
    rfl
  · rw [if_neg hz0, Sem.run_bind, hz.zero w, Result.andThen_ok, Sem.run_bind, hn, hrz]
    rfl

/-- what given parts have, one behind the other -/
def flatP (ps : List (Nat × Value)) : List Value := ps.flatMap fun p => p.2.cells.toList

theorem opS_buildS0 {T E n : Nat} {ag : Bool} [hT : SlT P T E] [hs : Sz P E n ag] : opS P (S.buildS T 0 []) K w = K (.slice (some ⟨w.heap.size, 0, none⟩) 0 0) (w.alloc (.cells #[] E)) := by
  unfold S.buildS
  rw [opS_bind]
  unfold Instr.buildSlice
  rw [Sem.run_bind, run_underlying_of hT.und, Result.andThen_ok]
  simp only []
  rw [Sem.run_bind, hs.size w, Result.andThen_ok]
  have e0 : Array.range 0 = #[] := by simp
  simp only [Nat.zero_mul, e0, Array.map_empty]
  rw [if_neg (by omega), if_pos trivial]
  simp only [pure_bind, Instr.fill]
  rfl

theorem opS_buildS1 {T E n : Nat} {ag : Bool} {z : Value} [hT : SlT P T E] [hs : Sz P E n ag] [hz : ZV P E z] (v : Value) (hv : v.cells.size = n) (hzn : z.cells.size = n) (hn : 0 < n) (hn2 : n ≤ 2 ^ 24) :
    opS P (S.buildS T 1 [(0, v)]) K w = K (.slice (some ⟨w.heap.size, 0, none⟩) 1 1) (w.alloc (.cells v.cells E)) := by
  unfold S.buildS
  rw [opS_bind]
  unfold Instr.buildSlice
  rw [Sem.run_bind, run_underlying_of hT.und, Result.andThen_ok]
  simp only []
  rw [Sem.run_bind, hs.size w, Result.andThen_ok]
  simp only [Nat.one_mul]
  rw [if_neg (by omega), if_neg (by omega), Sem.run_bind, hz.zero w, Result.andThen_ok]
  have hr := range_zeros 1 z.cells
  rw [Nat.one_mul, hzn] at hr
  simp only [pure_bind, hzn, hr]
  rw [fill_cons (off := 0) (size := n) (by simp) hv (by simp [zeros]; omega)]
  have e : splice (zeros 1 z.cells.toList).toArray.toList 0 v.cells.toList = v.cells.toList := by
    simp only [zeros, splice, List.replicate_one, List.flatten_singleton, List.take_zero, List.nil_append, Nat.zero_add]
    rw [List.drop_eq_nil_of_le (by simp [hv, hzn]), List.append_nil]
  rw [e]
  simp only [Instr.fill, Array.toArray_toList]
  rfl

end Go.Gx
end

section
/- Slices: what they hold, whose they are; appending. -/
namespace Go.Gx
open Go
variable {P : Program} {K : Value → World → Prop} {w : World}

/-- blocks outside 'fp' that lay in w lie in w' as they lay; nothing is frozen anew; nothing is told -/
structure Fr (fp : Nat → Prop) (w w' : World) : Prop where
  size : w.heap.size ≤ w'.heap.size
  old : ∀ b, b < w.heap.size → ¬ fp b → w'.heap[b]? = w.heap[b]?
  fz : ∀ a, a.block < w.heap.size → w'.frozen? a = w.frozen? a
  os : w'.os = w.os
  tape : w'.tape = w.tape
  out : w'.output = w.output

theorem Fr.refl (fp : Nat → Prop) (w : World) : Fr fp w w := ⟨Nat.le_refl _, fun _ _ _ => rfl, fun _ _ => rfl, rfl, rfl, rfl⟩
/-- blocks that are new may be touched -/
theorem Fr.trans_new {fp fp' : Nat → Prop} {w w' w'' : World} (h : Fr fp w w') (h' : Fr fp' w' w'') (hs : ∀ b, b < w.heap.size → fp' b → fp b) : Fr fp w w'' :=
  ⟨Nat.le_trans h.size h'.size, fun b hb hn => (h'.old b (Nat.lt_of_lt_of_le hb h.size) (fun hf => hn (hs b hb hf))).trans (h.old b hb hn),
    fun a ha => (h'.fz a (Nat.lt_of_lt_of_le ha h.size)).trans (h.fz a ha), h'.os.trans h.os, h'.tape.trans h.tape, h'.out.trans h.out⟩
theorem Fr.trans {fp : Nat → Prop} {w w' w'' : World} (h : Fr fp w w') (h' : Fr fp w' w'') : Fr fp w w'' := h.trans_new h' fun _ _ h => h
theorem Fr.mono {fp fp' : Nat → Prop} {w w' : World} (h : Fr fp w w') (hs : ∀ b, b < w.heap.size → fp b → fp' b) : Fr fp' w w' :=
  ⟨h.size, fun b hb hn => h.old b hb fun hf => hn (hs b hb hf), h.fz, h.os, h.tape, h.out⟩
theorem frozen_eq (w : World) (a : Addr) : w.frozen? a = match w.heap[a.block]? with | some (.cells _ _ fz) => (decide (fz.1 ≤ a.off) && decide (a.off < fz.2)) | _ => false := by
  unfold World.frozen?
  cases w.heap[a.block]? with
  | none => rfl
  | some x => cases x <;> rfl
/-- an object of which nothing is frozen -/
def loose : Obj → Bool
  | .cells _ _ (lo, hi) => decide (hi ≤ lo)
  | _ => true
theorem Fr.alloc {fp : Nat → Prop} (w : World) (o : Obj) (ho : loose o = true) : Fr fp w (w.alloc o) := by
  refine ⟨by rw [size_alloc]; omega, fun b hb _ => heap_alloc_lt hb, fun a ha => ?_, rfl, rfl, rfl⟩
  rw [frozen_eq, frozen_eq, heap_alloc_lt ha]
theorem Fr.drew {fp : Nat → Prop} (w : World) : Fr fp w w.drew := ⟨Nat.le_refl _, fun _ _ _ => rfl, fun _ _ => rfl, rfl, rfl, rfl⟩
theorem Fr.upd {fp : Nat → Prop} {w : World} {b : Nat} {c : Array Value} {T : TypeId} {fz : Nat × Nat} (hb : w.heap[b]? = some (.cells c T fz)) (c' : Array Value) (T' : TypeId) (h : fp b) : Fr fp w (upd w b (.cells c' T' fz)) := by
  refine ⟨by rw [size_upd]; omega, fun b' _ hn => heap_upd_ne fun e => hn (e ▸ h), fun a _ => ?_, rfl, rfl, rfl⟩
  rw [frozen_eq, frozen_eq]
  by_cases e : b = a.block
  · rw [← e, hb, heap_upd_same (by rw [hb]; rfl)]
  · rw [heap_upd_ne e]
theorem Fr.wr {fp : Nat → Prop} (w : World) (b o : Nat) (vs : List Value) (h : fp b) : Fr fp w (wr w b o vs) := by
  unfold Gx.wr
  split
  · rename_i hb; exact Fr.upd hb _ _ h
  · exact Fr.refl _ _
theorem Fr.heap {fp : Nat → Prop} {w w' : World} (h : Fr fp w w') {b : Nat} {o : Obj} (hb : w.heap[b]? = some o) (hn : ¬ fp b) : w'.heap[b]? = some o :=
  (h.old b (lt_of_heap hb) hn).trans hb

def none_ : Nat → Prop := fun _ => False

/-- the block of a slice -/
def blkS : Value → Option Nat
  | .slice (some a) _ _ => some a.block
  | _ => none

/-- a slice of n elements of type E, of sz cells each, whose cells are l, and that may be written and appended to -/
def Own (E sz : Nat) (w : World) (v : Value) (n : Nat) (l : List Value) : Prop :=
  (v = .slice none 0 0 ∧ n = 0 ∧ l = []) ∨
  ∃ b o c cs, v = .slice (some ⟨b, o, none⟩) n c ∧ w.heap[b]? = some (.cells cs E (0, 0)) ∧ n ≤ c ∧ o + c * sz ≤ cs.size ∧ l = (cs.toList.drop o).take (n * sz)

/-- a slice that can be read -/
def Rd (sz : Nat) (w : World) (v : Value) (n : Nat) (l : List Value) : Prop :=
  ((∃ a c, v = .slice a 0 c) ∧ n = 0 ∧ l = []) ∨
  ∃ b o c cs T fz, v = .slice (some ⟨b, o, none⟩) n c ∧ w.heap[b]? = some (.cells cs T fz) ∧ n ≤ c ∧ o + n * sz ≤ cs.size ∧ l = (cs.toList.drop o).take (n * sz)

theorem Own.rd {E sz : Nat} {v : Value} {n : Nat} {l : List Value} (h : Own E sz w v n l) : Rd sz w v n l := by
  rcases h with ⟨rfl, h1, h2⟩ | ⟨b, o, c, cs, rfl, hb, hc, ho, rfl⟩
  · exact .inl ⟨⟨_, _, rfl⟩, h1, h2⟩
  · refine .inr ⟨b, o, c, cs, E, (0, 0), rfl, hb, hc, ?_, rfl⟩
    have := Nat.mul_le_mul_right sz hc
    omega

theorem Rd.len {sz : Nat} {v : Value} {n : Nat} {l : List Value} (h : Rd sz w v n l) : l.length = n * sz := by
  rcases h with ⟨⟨a0, c0, rfl⟩, rfl, rfl⟩ | ⟨b, o, c, cs, T, fz, rfl, hb, hc, ho, rfl⟩
  · simp
  · rw [List.length_take, List.length_drop, Array.length_toList]; omega

theorem Rd.form {sz : Nat} {v : Value} {n : Nat} {l : List Value} (h : Rd sz w v n l) : ∃ a c, v = .slice a n c := by
  rcases h with ⟨⟨a0, c0, rfl⟩, rfl, rfl⟩ | ⟨b, o, c, cs, T, fz, rfl, _⟩
  · exact ⟨_, _, rfl⟩
  · exact ⟨_, _, rfl⟩

theorem Rd.frame {sz : Nat} {w w' : World} {v : Value} {n : Nat} {l : List Value} (h : Rd sz w v n l) (hf : ∀ b, blkS v = some b → w'.heap[b]? = w.heap[b]?) : Rd sz w' v n l := by
  rcases h with h | ⟨b, o, c, cs, T, fz, rfl, hb, hc, ho, rfl⟩
  · exact .inl h
  · exact .inr ⟨b, o, c, cs, T, fz, rfl, (hf b rfl).trans hb, hc, ho, rfl⟩

theorem Own.frame {E sz : Nat} {w w' : World} {v : Value} {n : Nat} {l : List Value} (h : Own E sz w v n l) (hf : ∀ b, blkS v = some b → w'.heap[b]? = w.heap[b]?) : Own E sz w' v n l := by
  rcases h with h | ⟨b, o, c, cs, rfl, hb, hc, ho, rfl⟩
  · exact .inl h
  · exact .inr ⟨b, o, c, cs, rfl, (hf b rfl).trans hb, hc, ho, rfl⟩

theorem Own.lt {E sz : Nat} {w : World} {v : Value} {n : Nat} {l : List Value} (h : Own E sz w v n l) {b : Nat} (hb : blkS v = some b) : b < w.heap.size := by
  rcases h with ⟨rfl, _⟩ | ⟨b', o, c, cs, rfl, hb', _⟩
  · cases hb
  · cases hb; exact lt_of_heap hb'

/-! ### append -/

theorem run_choose {q : Question} (h : q.forced = false) : (choose q).run P w = .ok (q.cut (w.tape w.drawn q)) w.drew := by
  unfold choose
  simp only [Sem.run, h, Bool.false_eq_true, if_false]
  rfl

theorem run_firstCells {sz : Nat} {v : Value} {n : Nat} {l : List Value} (h : Rd sz w v n l) : (Builtin.firstCells sz n v).run P w = .ok l.toArray w := by
  rcases h with ⟨⟨a0, c0, rfl⟩, rfl, rfl⟩ | ⟨b, o, c, cs, T, fz, rfl, hb, hc, ho, rfl⟩
  · cases a0 with
    | none => rfl
    | some a0 =>
      show (loadCells a0 (0 * sz)).run P w = _
      rw [Nat.zero_mul]; rfl
  · show (loadCellsFrom ⟨b, o, none⟩ 0 (n * sz) #[]).run P w = _
    rw [run_loadCellsFrom hb _ 0 o #[] (by omega)]
    simp

theorem growBy_le (n : Nat) : ∀ (r c : Nat), c ≤ n + (n + 768) / 4 → Builtin.growBy n r c ≤ n + (n + 768) / 4
  | 0, c, h => h
  | r + 1, c, h => by
    unfold Builtin.growBy
    split
    · exact h
    · exact growBy_le n r _ (by omega)

theorem nextcap_le {n c : Nat} (h : c < n) : Builtin.nextslicecap n c ≤ 2 * n + 192 := by
  unfold Builtin.nextslicecap
  split
  · omega
  · split
    · omega
    · have := growBy_le n 4 c (by omega)
      omega

theorem run_zeroCells_ok (z : Array Value) (n : Nat) : Builtin.zeroCells z n = (zeros n z.toList).toArray := range_zeros n z

theorem splice_window {l k : List Value} {o a : Nat} (h : o + a ≤ l.length) : ((splice l (o + a) k).drop o).take (a + k.length) = (l.drop o).take a ++ k := by
  unfold splice
  have hlt : (l.take (o + a)).length = o + a := by rw [List.length_take]; omega
  have e1 : (l.take (o + a)).drop o = (l.drop o).take a := by rw [List.drop_take]; congr 1; omega
  rw [List.append_assoc, List.drop_append_of_le_length (by omega), e1]
  have e2 : ((l.drop o).take a).length = a := by rw [List.length_take, List.length_drop]; omega
  rw [← List.append_assoc, List.take_append_of_le_length (by rw [List.length_append, e2]; exact Nat.le_refl _), List.take_of_length_le (by rw [List.length_append, e2]; exact Nat.le_refl _)]

/-- what one append does to the world: the block that was written, or a new one -/
theorem opS_append {T T2 E sz by_ : Nat} {ag : Bool} {z : Value} [hT : SlT P T E] [hT2 : SlT P T2 E] [hs : Sz P E sz ag] [hb : By P E by_] [hz : ZV P E z] {ty : TypeId} {v u : Value} {n m : Nat} {l k : List Value} (hzn : z.cells.size = sz) (hby : 0 < by_)
    (hv : Own E sz w v n l) (hu : Rd sz w u m k) (hk : k.all S.oneCell = true) (hroom : (2 * (n + m) + 192) * by_ ≤ 2 ^ 48)
    (h : ∀ v' w', Own E sz w' v' (n + m) (l ++ k) → (blkS v' = blkS v ∨ ∃ b, blkS v' = some b ∧ w.heap.size ≤ b) → Fr (fun b => blkS v = some b) w w' → (v' = .slice none 0 0 ↔ v = .slice none 0 0 ∧ m = 0) → K v' w') :
    opS P (S.bi .append #[T, T2] ty [v, u]) K w := by
  obtain ⟨inf, hi, hib⟩ := hb.bytes
  show opS P (do pure (Next.value (← Builtin.append_ #[T, T2] ty #[v, u]))) K w
  rw [opS_bind]
  obtain ⟨a, c, rfl⟩ := hv.rd.form
  obtain ⟨ua, uc, rfl⟩ := hu.form
  have hll := hv.rd.len
  have hkl := hu.len
  unfold Builtin.append_
  simp only [List.getElem?_toArray, List.getElem?_cons_zero, List.getElem?_cons_succ]
  rw [Sem.run_bind, run_underlying_of hT.und, Result.andThen_ok]
  simp only []
  rw [Sem.run_bind, hs.size w, Result.andThen_ok, Sem.run_bind, run_underlying_of hT2.und, Result.andThen_ok]
  simp only [pure_bind, Bool.false_eq_true, if_false, Bool.not_false, if_true]
  have hlen : (Builtin.lenOf (.slice ua m uc)).run P w = .ok m w := rfl
  rw [Sem.run_bind, hlen, Result.andThen_ok]
  by_cases hfit : n + m ≤ c
  · -- there is room
    rw [if_pos hfit, Sem.run_bind, run_firstCells hu, Result.andThen_ok]
    rcases hv with ⟨hv, rfl, rfl⟩ | ⟨b, o, c', cs, hv, hbb, hc, ho, rfl⟩
    · simp only [Value.slice.injEq] at hv
      obtain ⟨rfl, _, rfl⟩ := hv
      obtain rfl : m = 0 := by omega
      have hk0 : k = [] := List.eq_nil_of_length_eq_zero (by omega)
      subst hk0
      simp only [Sem.run_pure]
      exact h _ w (.inl ⟨rfl, rfl, rfl⟩) (.inl rfl) (Fr.refl _ _) ⟨fun _ => ⟨rfl, rfl⟩, fun _ => rfl⟩
    · simp only [Value.slice.injEq] at hv
      obtain ⟨rfl, _, rfl⟩ := hv
      have hmul : (n + m) * sz ≤ c * sz := Nat.mul_le_mul_right sz hfit
      rw [Nat.add_mul] at hmul
      have hst := run_storeCells (P := P) k w cs 0 (o + n * sz) hbb hk (by omega) (fun j hj => by simp)
      simp only [add_none]
      rw [Sem.run_bind, hst, Result.andThen_ok]
      simp only [Sem.run_pure, Nat.add_zero]
      have hsame : (upd w b (.cells (splice cs.toList (o + n * sz) k).toArray E (0, 0))).heap[b]? = some (.cells (splice cs.toList (o + n * sz) k).toArray E (0, 0)) := heap_upd_same (by rw [hbb]; rfl)
      refine h _ _ (.inr ⟨b, o, c, _, rfl, hsame, hfit, ?_, ?_⟩) (.inl rfl) (Fr.upd hbb _ _ rfl) ⟨fun e => (by cases e), fun e => (by cases e.1)⟩
      · have hsl : (splice cs.toList (o + n * sz) k).length = cs.toList.length := splice_length (by rw [hkl, Array.length_toList]; omega)
        rw [List.size_toArray, hsl]
        simpa using ho
      · show _ = List.take _ (List.drop o (splice cs.toList (o + n * sz) k))
        rw [Nat.add_mul, ← hkl, splice_window (by rw [Array.length_toList]; omega)]
  · -- a new block
    rw [if_neg hfit]
    have hcap := nextcap_le (n := n + m) (c := c) (by omega)
    have hnm : (2 * (n + m) + 192) ≤ 2 ^ 48 := Nat.le_trans (Nat.le_mul_of_pos_right _ hby) hroom
    have hg : ¬ (((n + m : Nat) : Int) > IntKind.i64.max ∧ (inf.bytes = 0)) := by
      rw [hib]; omega
    have hg2 : ¬ (Builtin.nextslicecap (n + m) c * inf.bytes > 2 ^ 48) := by
      rw [hib]
      have := Nat.mul_le_mul_right by_ hcap
      omega
    have har : ∀ x w', (askRoom x).run P w' = .ok () w' := by
      intro x w'; unfold askRoom; split <;> rfl
    have hcells : ∀ w', (typeInfo E).run P w' = .ok inf w' := hi
    rw [Sem.run_bind, hi w, Result.andThen_ok, if_neg (by simpa using hg), Sem.run_bind, hi w, Result.andThen_ok, if_neg hg2]
    rw [Sem.run_bind, run_choose rfl, Result.andThen_ok, Sem.run_bind, hi _, Result.andThen_ok, Sem.run_bind, har, Result.andThen_ok]
    have hvd := hv.rd.frame (w' := w.drew) (fun _ _ => rfl)
    have hud := hu.frame (w' := w.drew) (fun _ _ => rfl)
    rw [Sem.run_bind, run_firstCells hvd, Result.andThen_ok, Sem.run_bind, run_firstCells hud, Result.andThen_ok, Sem.run_bind, hz.zero, Result.andThen_ok, run_zeroCells_ok]
    have hq : ∀ q : Nat, (Question.appendCap (n + m) c E).cut q = n + m + q % (2 ^ 63 - (n + m)) := fun _ => rfl
    rw [hq]
    generalize w.tape w.drawn (Question.appendCap (n + m) c E) % (2 ^ 63 - (n + m)) = x
    have hx : n + m + x - (n + m) = x := by omega
    rw [hx]
    have hnew : ∀ (cs : Array Value) (w' : World), (newRow E cs).run P w' = .ok ⟨w'.heap.size, 0, none⟩ (w'.alloc (.cells cs E)) := fun _ _ => rfl
    rw [Sem.run_bind, hnew, Result.andThen_ok]
    simp only [Sem.run_pure]
    have hcs : (l.toArray ++ k.toArray ++ (zeros x z.cells.toList).toArray).toList = l ++ k ++ zeros x z.cells.toList := by simp
    have hzl : (zeros x z.cells.toList).length = x * sz := by rw [zeros_length]; simp [hzn]
    refine h _ _ (.inr ⟨w.heap.size, 0, n + m + x, _, rfl, heap_alloc_new w.drew _, by omega, ?_, ?_⟩) (.inr ⟨_, rfl, Nat.le_refl _⟩) ((Fr.drew w).trans (Fr.alloc _ _ rfl)) ⟨fun e => (by cases e), fun e => (by cases e.1; omega)⟩
    · rw [← Array.length_toList, hcs, List.length_append, List.length_append, hll, hkl, hzl, Nat.add_mul, Nat.add_mul]; omega
    · rw [hcs, List.drop_zero, List.take_append_of_le_length (by rw [List.length_append, hll, hkl, Nat.add_mul]; exact Nat.le_refl _), List.take_of_length_le (by rw [List.length_append, hll, hkl, Nat.add_mul]; exact Nat.le_refl _)]

end Go.Gx
end

section
/- What each operation asks, as rules that are used one behind the other. -/
namespace Go.Gx
open Go
variable {P : Program} {K : Value → World → Prop} {w : World}

/-! ### The operation alone is looked at, not what comes behind it -/

theorem opS_congr {P : Program} {s s' : Sem Next} (h : s = s') (K : Value → World → Prop) (w : World) : opS P s K w = opS P s' K w := by rw [h]
theorem brn_congr {c c' : Value} (h : c = c') (a b : World → Prop) (w : World) : brn c a b w = brn c' a b w := by rw [h]
attribute [congr] opS_congr brn_congr

def onS (x : Option Value) (k : Value → Prop) : Prop := match x with | some v => k v | none => False
theorem onS_some (v : Value) (k : Value → Prop) : onS (some v) k = k v := id rfl
theorem onS_none (k : Value → Prop) : onS none k = False := id rfl
theorem onS_congr {x x' : Option Value} (h : x = x') (k : Value → Prop) : onS x k = onS x' k := by rw [h]
attribute [congr] onS_congr

def onB (x : Bool) (k : Prop) : Prop := x = true ∧ k
theorem onB_true (k : Prop) : onB true k = k := by simp [onB]
theorem onB_false (k : Prop) : onB false k = False := by simp [onB]
theorem onB_congr {x x' : Bool} (h : x = x') (k : Prop) : onB x k = onB x' k := by rw [h]
attribute [congr] onB_congr

/-- a way that parts: its own word, for 'if' bears a test that a checker may reckon -/
def br (c : Bool) (p q : Prop) : Prop := match c with | true => p | false => q
theorem br_true (p q : Prop) : br true p q = p := id rfl
theorem br_false (p q : Prop) : br false p q = q := id rfl
theorem br_congr {c c' : Bool} (h : c = c') (p q : Prop) : br c p q = br c' p q := by rw [h]
attribute [congr] br_congr
theorem brn_br (t : Bool) (a b : World → Prop) (w : World) : brn (.bool t) a b w = br t (a w) (b w) := by cases t <;> rfl
theorem br_intro {c : Bool} {p q : Prop} (h1 : c = true → p) (h2 : c = false → q) : br c p q := by
  cases c
  · exact h2 rfl
  · exact h1 rfl
theorem br_dec {d : Prop} [Decidable d] {p q : Prop} (h1 : d → p) (h2 : ¬ d → q) : br (decide d) p q := by
  by_cases h : d
  · rw [decide_eq_true h]; exact h1 h
  · rw [decide_eq_false h]; exact h2 h
theorem br_yes {d : Prop} [Decidable d] {p q : Prop} (h : d) (h1 : p) : br (decide d) p q := by rw [decide_eq_true h]; exact h1
theorem br_no {d : Prop} [Decidable d] {p q : Prop} (h : ¬ d) (h1 : q) : br (decide d) p q := by rw [decide_eq_false h]; exact h1

/-! ### Places -/

def cellAt : Option Obj → Nat → Option Value
  | some (.cells c _ _), o => c[o]?
  | _, _ => none
def aggAt : Option Obj → Nat → Nat → Option Value
  | some (.cells c _ _), o, n => if o + n ≤ c.size then some (.agg ((c.toList.drop o).take n).toArray) else none
  | _, _, _ => none
def okAt : Option Obj → Nat → Nat → Bool
  | some (.cells c _ fz), o, n => decide (o + n ≤ c.size) && (List.range n).all fun i => !(decide (fz.1 ≤ o + i) && decide (o + i < fz.2))
  | _, _, _ => false
def putAt : Option Obj → Nat → List Value → Option Obj
  | some (.cells c T fz), o, vs => some (.cells (splice c.toList o vs).toArray T fz)
  | x, _, _ => x

theorem cellAt_cells (l : List Value) (T : TypeId) (o : Nat) : cellAt (some (cellsO l T)) o = l[o]? := by simp [cellAt, cellsO]
theorem aggAt_cells (l : List Value) (T : TypeId) (o n : Nat) : aggAt (some (cellsO l T)) o n = if o + n ≤ l.length then some (.agg ((l.drop o).take n).toArray) else none := by simp [aggAt, cellsO]
theorem okAt_cells (l : List Value) (T : TypeId) (o n : Nat) : okAt (some (cellsO l T)) o n = decide (o + n ≤ l.length) := by simp [okAt, cellsO]
theorem putAt_cells (l : List Value) (T : TypeId) (o : Nat) (vs : List Value) : putAt (some (cellsO l T)) o vs = some (cellsO (splice l o vs) T) := by simp [putAt, cellsO]

theorem rd_cellAt (w : World) (b o : Nat) : rd w b o = cellAt w.heap[b]? o := by
  unfold rd cellAt
  cases w.heap[b]? with
  | none => rfl
  | some x => cases x <;> rfl

theorem s_ld1 {T n : Nat} [hs : Sz P T n false] (b o : Nat) : opS P (S.ld T (pt b o)) K w = onS (cellAt w.heap[b]? o) fun v => K v w := by
  rw [opS_ld1, rd_cellAt]
  cases cellAt w.heap[b]? o <;> rfl

theorem s_ldN {T n : Nat} [hs : Sz P T n true] (hn : 0 < n) (b o : Nat) : opS P (S.ld T (pt b o)) K w = onS (aggAt w.heap[b]? o n) fun v => K v w := by
  rw [opS_ldN hn, rdN]
  unfold aggAt
  cases w.heap[b]? with
  | none => rfl
  | some x =>
    cases x with
    | cells c T fz =>
      simp only []
      by_cases h : o + n ≤ c.size
      · rw [if_pos h, if_pos h]; rfl
      · rw [if_neg h, if_neg h]; rfl
    | _ => rfl

theorem s_st {T n : Nat} {ag : Bool} [hs : Sz P T n ag] (b o : Nat) (v : Value) (hv : v.cells.size = n) (h1 : v.cells.toList.all S.oneCell = true) :
    opS P (S.st T (pt b o) v) K w = onB (okAt w.heap[b]? o n) (K undef (wr w b o v.cells.toList)) := by
  rw [opS_st b o v hv h1]
  have : wrOk w b o n = okAt w.heap[b]? o n := by
    unfold wrOk okAt
    cases w.heap[b]? with
    | none => rfl
    | some x =>
      cases x with
      | cells c T fz => rfl
      | _ => rfl
  rw [this]
  unfold onB
  split <;> simp_all

theorem s_st1 {T : TypeId} [hs : Sz P T 1 false] (b o : Nat) (v : Value) (h1 : S.oneCell v = true) :
    opS P (S.st T (pt b o) v) K w = onB (okAt w.heap[b]? o 1) (K undef (wr w b o [v])) := by
  have e : v.cells = #[v] := by cases v <;> first | rfl | (cases h1)
  rw [s_st b o v (by rw [e]; rfl) (by rw [e]; simp [h1]), e]

theorem s_stA {T n : Nat} [hs : Sz P T n true] (b o : Nat) (x : List Value) (hx : x.length = n) (h1 : x.all S.oneCell = true) :
    opS P (S.st T (pt b o) (.agg x.toArray)) K w = onB (okAt w.heap[b]? o n) (K undef (wr w b o x)) := by
  rw [s_st b o _ (by simpa [Value.cells] using hx) (by simpa [Value.cells] using h1)]
  rfl

theorem one_int (k : IntKind) (n : Int) : S.oneCell (.int k n) = true := id rfl
theorem one_bool (b : Bool) : S.oneCell (.bool b) = true := id rfl
theorem one_pt (b o : Nat) : S.oneCell (pt b o) = true := id rfl
theorem one_nil : S.oneCell (.pointer none) = true := id rfl
theorem one_slice (a : Option Addr) (n c : Nat) : S.oneCell (.slice a n c) = true := id rfl
theorem one_func (f : Fn) (a b : Array Value) : S.oneCell (.func f a b) = true := id rfl
theorem one_string (s : ByteArray) : S.oneCell (.string s) = true := id rfl
theorem cells_agg (x : List Value) : (Value.agg x.toArray).cells = x.toArray := id rfl
theorem cells_int (k : IntKind) (n : Int) : (Value.int k n).cells = [Value.int k n].toArray := id rfl
theorem cells_bool (b : Bool) : (Value.bool b).cells = [Value.bool b].toArray := id rfl
theorem cells_pt (b o : Nat) : (pt b o).cells = [pt b o].toArray := id rfl
theorem cells_nil : (Value.pointer none).cells = [Value.pointer none].toArray := id rfl
theorem cells_slice (a : Option Addr) (n c : Nat) : (Value.slice a n c).cells = [Value.slice a n c].toArray := id rfl
theorem cells_func (f : Fn) (a b : Array Value) : (Value.func f a b).cells = [Value.func f a b].toArray := id rfl
theorem cells_string (s : ByteArray) : (Value.string s).cells = [Value.string s].toArray := id rfl

theorem splice_s (a : Value) (l : List Value) (i : Nat) (vs : List Value) : splice (a :: l) (i + 1) vs = a :: splice l i vs := by
  simp [splice, Nat.add_right_comm i 1]
theorem splice_z (a : Value) (l : List Value) (v : Value) (vs : List Value) : splice (a :: l) 0 (v :: vs) = v :: splice l 0 vs := by
  simp [splice]
theorem splice_0 (l : List Value) : splice l 0 [] = l := by simp [splice]

/-! ### Worlds -/

theorem heap_wr (w : World) (b o : Nat) (vs : List Value) (b' : Nat) : (wr w b o vs).heap[b']? = if b' = b then putAt w.heap[b]? o vs else w.heap[b']? := by
  unfold wr
  by_cases h : b' = b
  · subst h
    rw [if_pos rfl]
    cases hb : w.heap[b']? with
    | none => simp only [hb]; rfl
    | some x =>
      cases x with
      | cells c T fz => exact heap_upd_same (by rw [hb]; rfl)
      | _ => simp only [hb]; rfl
  · rw [if_neg h]
    split
    · exact heap_upd_ne fun e => h e.symm
    · rfl

theorem heap_alloc (w : World) (o : Obj) (b : Nat) : (w.alloc o).heap[b]? = if b = w.heap.size then some o else w.heap[b]? := by
  show (w.heap.push o)[b]? = _
  rw [Array.getElem?_push]

theorem size_wr (w : World) (b o : Nat) (vs : List Value) : (wr w b o vs).heap.size = w.heap.size := by
  unfold wr
  split
  · exact size_upd _ _ _
  · rfl

theorem size_drew (w : World) : w.drew.heap.size = w.heap.size := id rfl
theorem heap_drew' (w : World) (b : Nat) : w.drew.heap[b]? = w.heap[b]? := id rfl

theorem alloc_cellsO (w : World) (l : List Value) (T : TypeId) : w.alloc (.cells l.toArray T) = w.alloc (cellsO l T) := id rfl

theorem drw_eq (k : World → Prop) (w : World) : drw k w = k w.drew := id rfl
theorem allW_intro {a b : World → Prop} {w : World} (h1 : a w) (h2 : b w) : allW a b w := ⟨h1, h2⟩
theorem allW_eq (a b : World → Prop) (w : World) : allW a b w = (a w ∧ b w) := id rfl

theorem s_ext (vs : Array Value) (i : Nat) : opS P (S.ext (.tuple vs) i) K w = onS vs[i]? fun v => K v w := by
  rw [opS_ext]
  cases vs[i]? <;> rfl

theorem Fr.step_alloc {fp : Nat → Prop} {w w' : World} (h : Fr fp w w') {o : Obj} (ho : loose o = true) : Fr fp w (w'.alloc o) := h.trans (Fr.alloc _ _ ho)
theorem Fr.step_drew {fp : Nat → Prop} {w w' : World} (h : Fr fp w w') : Fr fp w w'.drew := h.trans (Fr.drew _)
theorem Fr.step_wr {fp : Nat → Prop} {w w' : World} (h : Fr fp w w') {b : Nat} (hb : fp b ∨ w.heap.size ≤ b) (o : Nat) (vs : List Value) : Fr fp w (Gx.wr w' b o vs) := by
  refine h.trans_new (fp' := fun x => x = b) (Fr.wr _ _ _ _ rfl) fun x hx e => ?_
  subst e
  rcases hb with hb | hb
  · exact hb
  · omega

/-! ### The set of the rules -/

attribute [push_cast] onS_some onS_none onB_true onB_false cellAt_cells aggAt_cells okAt_cells putAt_cells s_ld1 s_ldN s_st1 s_stA one_int one_bool one_pt one_nil one_slice one_func one_string cells_agg cells_int cells_bool cells_pt cells_nil cells_slice cells_func cells_string heap_wr heap_alloc size_wr size_drew size_alloc heap_drew' alloc_cellsO drw_eq s_ext
attribute [push_cast] opS_box opS_alloc opS_nc opS_len opS_not opS_mkf opS_convI opS_add opS_sub opS_mul opS_eql opS_neq opS_lss opS_leq opS_gtr opS_geq opS_beq opS_bne opS_isnil opS_notnil isNilP_pt isNilP_none opS_pick brn_br br_true br_false opS_cl opS_call

attribute [push_cast] splice_s splice_z splice_0 Nat.zero_add Nat.add_zero if_true if_false decide_true decide_false List.length_cons List.length_nil List.getElem?_cons_zero List.getElem?_cons_succ List.getElem?_toArray Nat.le_refl not_true_eq_false not_false_eq_true Bool.not_true Bool.not_false

end Go.Gx
end

section
/- Slices as lists of elements. -/
namespace Go.Gx
open Go
variable {P : Program} {K : Value → World → Prop} {w : World}

theorem flatten_len {sz : Nat} : ∀ {es : List (List Value)}, (∀ e ∈ es, e.length = sz) → es.flatten.length = es.length * sz
  | [], _ => by simp
  | e :: es, h => by
    rw [List.flatten_cons, List.length_append, flatten_len (fun e he => h e (List.mem_cons_of_mem _ he)), h e List.mem_cons_self, List.length_cons, Nat.add_mul]
    omega

theorem flatten_drop {sz : Nat} : ∀ {es : List (List Value)} (i : Nat), (∀ e ∈ es, e.length = sz) → es.flatten.drop (i * sz) = (es.drop i).flatten
  | es, 0, _ => by simp
  | [], i + 1, _ => by simp
  | e :: es, i + 1, h => by
    rw [List.flatten_cons, List.drop_succ_cons, ← flatten_drop i (fun e he => h e (List.mem_cons_of_mem _ he))]
    have := h e List.mem_cons_self
    rw [List.drop_append, List.drop_eq_nil_of_le (by rw [this, Nat.add_mul]; omega), List.nil_append]
    congr 1
    rw [this, Nat.add_mul]; omega

theorem flatten_take {sz : Nat} : ∀ {es : List (List Value)} (i : Nat), (∀ e ∈ es, e.length = sz) → es.flatten.take (i * sz) = (es.take i).flatten
  | es, 0, _ => by simp
  | [], i + 1, _ => by simp
  | e :: es, i + 1, h => by
    have := h e List.mem_cons_self
    rw [List.flatten_cons, List.take_succ_cons, List.flatten_cons, ← flatten_take i (fun e he => h e (List.mem_cons_of_mem _ he))]
    rw [List.take_append, List.take_of_length_le (by rw [this, Nat.add_mul]; omega)]
    congr 2
    rw [this, Nat.add_mul]; omega

/-- the cells of one element -/
theorem flatten_elem {sz : Nat} {es : List (List Value)} (h : ∀ e ∈ es, e.length = sz) {i : Nat} (hi : i < es.length) (f k : Nat) (hk : f + k ≤ sz) : (es.flatten.drop (i * sz + f)).take k = ((es[i]).drop f).take k := by
  rw [← List.drop_drop, flatten_drop i h, List.drop_eq_getElem_cons hi, List.flatten_cons]
  have he : (es[i]).length = sz := h _ (List.getElem_mem hi)
  rw [List.drop_append_of_le_length (by omega), List.take_append_of_le_length (by rw [List.length_drop]; omega)]

theorem splice_flatten {sz : Nat} {es : List (List Value)} (h : ∀ e ∈ es, e.length = sz) {i : Nat} (hi : i < es.length) {e : List Value} (he : e.length = sz) : splice es.flatten (i * sz) e = (es.set i e).flatten := by
  unfold splice
  rw [flatten_take i h, he, ← Nat.succ_mul, flatten_drop (i + 1) h, List.set_eq_take_append_cons_drop, if_pos hi]
  simp

theorem splice_sub {l e : List Value} {o m a : Nat} (h : o + m ≤ l.length) (h2 : a + e.length ≤ m) : splice ((l.drop o).take m) a e = ((splice l (o + a) e).drop o).take m := by
  unfold splice
  have hlt : (l.take (o + a)).length = o + a := by rw [List.length_take]; omega
  have e1 : (l.take (o + a)).drop o = (l.drop o).take a := by rw [List.drop_take]; congr 1; omega
  have e2 : ((l.drop o).take a).length = a := by rw [List.length_take, List.length_drop]; omega
  rw [List.append_assoc (l.take (o + a)), List.drop_append_of_le_length (by omega), e1, List.take_append, e2, List.take_append, List.take_take, Nat.min_eq_left (by omega), List.drop_take, List.drop_drop]
  rw [List.take_of_length_le (by omega : ((l.drop o).take a).length ≤ m), List.take_of_length_le (by omega : e.length ≤ m - a), List.append_assoc]
  congr 3
  · omega
  · congr 1; omega

/-- the elements of a slice that can be read -/
def RdE (sz : Nat) (w : World) (v : Value) (es : List (List Value)) : Prop := Rd sz w v es.length es.flatten ∧ ∀ e ∈ es, e.length = sz
/-- the elements of a slice that is its holder's own -/
def OwnE (E sz : Nat) (w : World) (v : Value) (es : List (List Value)) : Prop := Own E sz w v es.length es.flatten ∧ ∀ e ∈ es, e.length = sz

theorem OwnE.rd {E sz : Nat} {v : Value} {es : List (List Value)} (h : OwnE E sz w v es) : RdE sz w v es := ⟨h.1.rd, h.2⟩
theorem RdE.frame {sz : Nat} {w w' : World} {v : Value} {es : List (List Value)} (h : RdE sz w v es) (hf : ∀ b, blkS v = some b → w'.heap[b]? = w.heap[b]?) : RdE sz w' v es := ⟨h.1.frame hf, h.2⟩
theorem OwnE.frame {E sz : Nat} {w w' : World} {v : Value} {es : List (List Value)} (h : OwnE E sz w v es) (hf : ∀ b, blkS v = some b → w'.heap[b]? = w.heap[b]?) : OwnE E sz w' v es := ⟨h.1.frame hf, h.2⟩
theorem OwnE.lt {E sz : Nat} {v : Value} {es : List (List Value)} (h : OwnE E sz w v es) {b : Nat} (hb : blkS v = some b) : b < w.heap.size := h.1.lt hb
theorem RdE.fr {fp : Nat → Prop} {sz : Nat} {w w' : World} {v : Value} {es : List (List Value)} (h : RdE sz w v es) (hf : Fr fp w w') (hn : ∀ b, blkS v = some b → ¬ fp b) : RdE sz w' v es := by
  obtain ⟨h1, h2⟩ := h
  refine ⟨?_, h2⟩
  rcases h1 with h1 | ⟨b, o, c, cs, T, fz, rfl, hb, hc, ho, hl⟩
  · exact .inl h1
  · exact .inr ⟨b, o, c, cs, T, fz, rfl, hf.heap hb (hn b rfl), hc, ho, hl⟩
theorem OwnE.fr {fp : Nat → Prop} {E sz : Nat} {w w' : World} {v : Value} {es : List (List Value)} (h : OwnE E sz w v es) (hf : Fr fp w w') (hn : ∀ b, blkS v = some b → ¬ fp b) : OwnE E sz w' v es :=
  h.frame fun b hb => hf.old b (h.lt hb) (hn b hb)

theorem RdE.form {sz : Nat} {v : Value} {es : List (List Value)} (h : RdE sz w v es) : ∃ a c, v = .slice a es.length c := h.1.form

/-- an element's cells, in a block -/
def El (w : World) (b p : Nat) (e : List Value) : Prop := ∃ cs T fz, w.heap[b]? = some (.cells cs T fz) ∧ p + e.length ≤ cs.size ∧ (cs.toList.drop p).take e.length = e

theorem El.cell {b p : Nat} {e : List Value} (h : El w b p e) (f : Nat) (hf : f < e.length) : cellAt w.heap[b]? (p + f) = e[f]? := by
  obtain ⟨cs, T, fz, hb, hs, he⟩ := h
  rw [hb]
  show cs[p + f]? = e[f]?
  rw [← he, List.getElem?_take_of_lt hf, List.getElem?_drop, Array.getElem?_toList]

theorem El.agg {b p : Nat} {e : List Value} (h : El w b p e) (f k : Nat) (hf : f + k ≤ e.length) : aggAt w.heap[b]? (p + f) k = some (.agg ((e.drop f).take k).toArray) := by
  obtain ⟨cs, T, fz, hb, hs, he⟩ := h
  rw [hb]
  show (if p + f + k ≤ cs.size then _ else _) = _
  rw [if_pos (by omega)]
  congr 3
  rw [← List.drop_drop]
  conv => rhs; rw [← he]
  rw [List.drop_take, List.take_take]
  congr 1
  omega

theorem El.agg0 {b p : Nat} {e : List Value} {n : Nat} (h : El w b p e) (hn : e.length = n) : aggAt w.heap[b]? p n = some (.agg e.toArray) := by
  have := h.agg 0 n (by omega)
  rw [Nat.add_zero, List.drop_zero, List.take_of_length_le (by omega)] at this
  exact this

theorem El.cell0 {b p : Nat} {e : List Value} (h : El w b p e) (hf : 0 < e.length) : cellAt w.heap[b]? p = e[0]? := by
  have := h.cell 0 hf
  rwa [Nat.add_zero] at this

/-- a place in a slice -/
theorem s_iaE {T E sz : Nat} {ag : Bool} [hT : SlT P T E] [hs : Sz P E sz ag] {v : Value} {es : List (List Value)} (h : RdE sz w v es) {k : IntKind} {i : Int} (h0 : 0 ≤ i) (hi : i.toNat < es.length)
    (hk : ∀ b o c, v = .slice (some ⟨b, o, none⟩) es.length c → El w b (o + i.toNat * sz) (es[i.toNat]) → K (pt b (o + i.toNat * sz)) w) : opS P (S.ia T v (.int k i)) K w := by
  obtain ⟨h1, h2⟩ := h
  rcases h1 with ⟨_, h1, _⟩ | ⟨b, o, c, cs, Tc, fz, rfl, hb, hc, ho, hl⟩
  · omega
  · rw [opS_iaS, if_pos (by omega)]
    have hlen := h2 _ (List.getElem_mem hi)
    have hm : i.toNat * sz + sz ≤ es.length * sz := by
      rw [← Nat.succ_mul]; exact Nat.mul_le_mul_right _ hi
    refine hk b o c rfl ⟨cs, Tc, fz, hb, by rw [hlen]; omega, ?_⟩
    have := flatten_elem h2 hi 0 sz (by omega)
    rw [hl, Nat.add_zero, List.drop_zero, List.drop_take, List.drop_drop, List.take_take, Nat.min_eq_left (by omega)] at this
    rw [hlen, this, List.take_of_length_le (by omega)]

/-- an element is written -/
theorem OwnE.put {E sz : Nat} {b o c i : Nat} {es : List (List Value)} (h : OwnE E sz w (.slice (some ⟨b, o, none⟩) es.length c) es) {e : List Value} (he : e.length = sz) (hi : i < es.length) :
    okAt w.heap[b]? (o + i * sz) sz = true ∧ OwnE E sz (wr w b (o + i * sz) e) (.slice (some ⟨b, o, none⟩) es.length c) (es.set i e) := by
  obtain ⟨h1, h2⟩ := h
  rcases h1 with ⟨h1, _⟩ | ⟨b', o', c', cs, hv, hb, hc, ho, hl⟩
  · cases h1
  · simp only [Value.slice.injEq, Option.some.injEq, Addr.mk.injEq] at hv
    obtain ⟨⟨rfl, rfl, _⟩, _, rfl⟩ := hv
    have hm : i * sz + sz ≤ es.length * sz := by
      rw [← Nat.succ_mul]; exact Nat.mul_le_mul_right _ hi
    have hm2 : es.length * sz ≤ c * sz := Nat.mul_le_mul_right _ hc
    have hset : ∀ x ∈ es.set i e, x.length = sz := fun x hx => by
      rcases List.mem_or_eq_of_mem_set hx with hx | rfl
      · exact h2 x hx
      · exact he
    refine ⟨?_, ⟨.inr ⟨b, o, c, (splice cs.toList (o + i * sz) e).toArray, by rw [List.length_set], ?_, by rw [List.length_set]; exact hc, ?_, ?_⟩, hset⟩⟩
    · rw [hb]
      show (decide (o + i * sz + sz ≤ cs.size) && _) = true
      simp only [Bool.and_eq_true, decide_eq_true_eq, List.all_eq_true]
      exact ⟨by omega, fun x _ => by simp⟩
    · rw [heap_wr, if_pos rfl, hb]; rfl
    · rw [List.size_toArray, splice_length (by have : cs.toList.length = cs.size := Array.length_toList; omega)]; simpa using ho
    · rw [← splice_flatten h2 hi he, hl, List.length_set]
      show _ = List.take _ (List.drop o (splice cs.toList (o + i * sz) e))
      have hsz : o + es.length * sz ≤ cs.toList.length := by have : cs.toList.length = cs.size := Array.length_toList; omega
      rw [splice_sub hsz (by omega)]

/-! ### Parts of slices -/

def optI (n : Option Int) : Option Value := n.map fun i => .int .i64 i

theorem run_sliceBound {k : IntKind} {i : Int} {y : Nat} {code : BoundsCode} (h : 0 ≤ i ∧ i ≤ y) : (Instr.sliceBound (.int k i) y code).run P w = .ok i.toNat w := by
  unfold Instr.sliceBound
  simp only [asIntOf, pure_bind]
  rw [if_pos h]; rfl

theorem opS_slice {T E sz : Nat} {ag : Bool} [hT : SlT P T E] [hs : Sz P E sz ag] {a : Option Addr} {n c l h : Nat} {lo hi : Option Value} (hb : (Instr.sliceBounds true n c lo hi none).run P w = .ok (l, h, c) w) :
    opS P (S.slc T (.slice a n c) lo hi none) K w = K (.slice (if c = l then a else a.map (·.add (l * sz))) (h - l) (c - l)) w := by
  unfold S.slc
  rw [opS_bind]
  unfold Instr.sliceAt
  rw [Sem.run_bind, run_underlying_of hT.und, Result.andThen_ok]
  simp only []
  unfold Instr.slice
  rw [Sem.run_bind, run_underlying_of hT.und, Result.andThen_ok]
  simp only []
  rw [Sem.run_bind, hb, Result.andThen_ok]
  simp only []
  rw [Sem.run_bind, hs.size w, Result.andThen_ok]
  rfl

theorem run_boundsLH {n c : Nat} {k k' : IntKind} {lo hi : Int} (h0 : 0 ≤ lo) (h1 : lo ≤ hi) (h2 : hi ≤ c) : (Instr.sliceBounds true n c (some (.int k lo)) (some (.int k' hi)) none).run P w = .ok (lo.toNat, hi.toNat, c) w := by
  unfold Instr.sliceBounds
  simp only [pure_bind]
  rw [Sem.run_bind, run_sliceBound (by omega), Result.andThen_ok, Sem.run_bind, run_sliceBound (by omega), Result.andThen_ok]
  rfl
theorem run_boundsL {n c : Nat} {k : IntKind} {lo : Int} (h0 : 0 ≤ lo) (h1 : lo ≤ n) : (Instr.sliceBounds true n c (some (.int k lo)) none none).run P w = .ok (lo.toNat, n, c) w := by
  unfold Instr.sliceBounds
  simp only [pure_bind]
  rw [Sem.run_bind, run_sliceBound (by omega), Result.andThen_ok]
  rfl
theorem run_boundsH {n c : Nat} {k : IntKind} {hi : Int} (h0 : 0 ≤ hi) (h1 : hi ≤ c) : (Instr.sliceBounds true n c none (some (.int k hi)) none).run P w = .ok (0, hi.toNat, c) w := by
  unfold Instr.sliceBounds
  simp only [pure_bind]
  rw [Sem.run_bind, run_sliceBound (by omega), Result.andThen_ok]
  rfl

/-- elements of a part of a slice -/
theorem RdE.part {sz : Nat} {a : Option Addr} {c : Nat} {es : List (List Value)} (h : RdE sz w (.slice a es.length c) es) {l m : Nat} (h1 : l ≤ m) (h2 : m ≤ es.length) :
    RdE sz w (.slice (if c = l then a else a.map (·.add (l * sz))) (m - l) (c - l)) ((es.take m).drop l) := by
  obtain ⟨h, he⟩ := h
  have hlen : ((es.take m).drop l).length = m - l := by rw [List.length_drop, List.length_take]; omega
  refine ⟨?_, fun e hx => he e (List.mem_of_mem_take (List.mem_of_mem_drop hx))⟩
  rw [hlen]
  rcases h with ⟨h, hn, hf⟩ | ⟨b, o, c', cs, T, fz, hv, hb, hc, ho, hl⟩
  · obtain rfl : m = 0 := by omega
    obtain rfl : l = 0 := by omega
    exact .inl ⟨⟨_, _, rfl⟩, by omega, by simp⟩
  · simp only [Value.slice.injEq] at hv
    obtain ⟨rfl, _, rfl⟩ := hv
    have hm : m * sz ≤ es.length * sz := Nat.mul_le_mul_right _ h2
    have hlm : l * sz + (m - l) * sz = m * sz := by rw [← Nat.add_mul]; congr 1; omega
    have hfl : ((es.take m).drop l).flatten = (cs.toList.drop (o + l * sz)).take ((m - l) * sz) := by
      rw [← flatten_drop l (sz := sz) (fun e hx => he e (List.mem_of_mem_take hx)), ← flatten_take m he, hl, List.take_take, Nat.min_eq_left hm, List.drop_take, List.drop_drop]
      congr 1
      omega
    by_cases e : c = l
    · subst e
      have e0 : m - c = 0 := by omega
      refine .inr ⟨b, o, 0, cs, T, fz, by simp [e0], hb, by omega, by rw [e0]; omega, ?_⟩
      rw [hfl, e0]; simp
    · refine .inr ⟨b, o + l * sz, c - l, cs, T, fz, ?_, hb, by omega, by omega, hfl⟩
      rw [if_neg e]
      show Value.slice (some (Addr.add _ _)) _ _ = _
      rw [add_none]

theorem RdE.one {sz : Nat} {v : Value} {es : List (List Value)} (h : RdE sz w v es) : S.oneCell v = true := by
  obtain ⟨a, c, rfl⟩ := h.form
  rfl
theorem OwnE.one {E sz : Nat} {v : Value} {es : List (List Value)} (h : OwnE E sz w v es) : S.oneCell v = true := h.rd.one

/-- where ways meet: what holds there -/
theorem jn0 {k : World → Prop} {m : (World → Prop) → World → Prop} (Q : World → Prop) (h1 : ∀ w', Q w' → k w') (h2 : ∀ j : World → Prop, (∀ w', Q w' → j w') → m j w) : jnJ 0 k m w := (congrFun (jnJ_eq 0 k m) w).symm ▸ h2 k h1
theorem jn1 {k : Value → World → Prop} {m : (Value → World → Prop) → World → Prop} (Q : Value → World → Prop) (h1 : ∀ v w', Q v w' → k v w') (h2 : ∀ j : Value → World → Prop, (∀ v w', Q v w' → j v w') → m j w) : jnJ 1 k m w := (congrFun (jnJ_eq 1 k m) w).symm ▸ h2 k h1

/-- a loop without values: what holds at its head, and how far it is from its end -/
theorem loop0 {B : (World → Prop) → World → Prop} (I : Nat → World → Prop) (h : ∀ n w X, I n w → (∀ m w', m < n → I m w' → X w') → B X w) (n : Nat) (h0 : I n w) : loopJ 0 B w := by
  intro X hX
  have key : ∀ n w, (∃ m, m ≤ n ∧ I m w) → X w := by
    intro n
    induction n with
    | zero =>
      rintro w ⟨m, hm, hi⟩
      obtain rfl : m = 0 := by omega
      exact hX w (h 0 w X hi fun m w' hm _ => by omega)
    | succ n ih =>
      rintro w ⟨m, hm, hi⟩
      exact hX w (h m w X hi fun k w' hk hi' => ih w' ⟨k, by omega, hi'⟩)
  exact key n w ⟨n, Nat.le_refl _, h0⟩

theorem loop1 {B : (Value → World → Prop) → Value → World → Prop} (I : Nat → Value → World → Prop) (h : ∀ n v w X, I n v w → (∀ m v' w', m < n → I m v' w' → X v' w') → B X v w) (n : Nat) {v : Value} (h0 : I n v w) : loopJ 1 B v w := by
  intro X hX
  have key : ∀ n v w, (∃ m, m ≤ n ∧ I m v w) → X v w := by
    intro n
    induction n with
    | zero =>
      rintro v w ⟨m, hm, hi⟩
      obtain rfl : m = 0 := by omega
      exact hX v w (h 0 v w X hi fun m v' w' hm _ => by omega)
    | succ n ih =>
      rintro v w ⟨m, hm, hi⟩
      exact hX v w (h m v w X hi fun k v' w' hk hi' => ih v' w' ⟨k, by omega, hi'⟩)
  exact key n v w ⟨n, Nat.le_refl _, h0⟩

/-- what was made since -/
def New (w : World) (v : Value) : Prop := ∀ b, blkS v = some b → w.heap.size ≤ b

theorem s_bs0 {T E sz : Nat} {ag : Bool} [hT : SlT P T E] [hs : Sz P E sz ag] (h : ∀ v' w', OwnE E sz w' v' [] → Fr none_ w w' → New w v' → K v' w') : opS P (S.buildS T 0 []) K w := by
  rw [opS_buildS0]
  refine h _ _ ⟨.inr ⟨w.heap.size, 0, 0, #[], rfl, heap_alloc_new _ _, by simp, by simp, by simp⟩, by simp⟩ (Fr.alloc _ _ rfl) fun b hb => ?_
  cases hb; exact Nat.le_refl _

theorem s_bs1 {T E sz : Nat} {ag : Bool} {z : Value} [hT : SlT P T E] [hs : Sz P E sz ag] [hz : ZV P E z] {x : List Value} (hx : x.length = sz) (hzn : z.cells.size = sz) (hn : 0 < sz) (hn2 : sz ≤ 2 ^ 24)
    (h : ∀ v' w', OwnE E sz w' v' [x] → Fr none_ w w' → New w v' → K v' w') : opS P (S.buildS T 1 [(0, .agg x.toArray)]) K w := by
  rw [opS_buildS1 _ (by simpa [Value.cells] using hx) hzn hn hn2]
  refine h _ _ ⟨.inr ⟨w.heap.size, 0, 1, x.toArray, rfl, heap_alloc_new _ _, by simp, by simp [hx], ?_⟩, fun e he => ?_⟩ (Fr.alloc _ _ rfl) fun b hb => ?_
  · simp [← hx]
  · simp at he; rw [he]; exact hx
  · cases hb; exact Nat.le_refl _

theorem s_app {T T2 E sz by_ : Nat} {ag : Bool} {z : Value} [hT : SlT P T E] [hT2 : SlT P T2 E] [hs : Sz P E sz ag] [hb : By P E by_] [hz : ZV P E z] {ty : TypeId} {v u : Value} {es fs : List (List Value)} (hzn : z.cells.size = sz) (hby : 0 < by_)
    (hv : OwnE E sz w v es) (hu : RdE sz w u fs) (hk : fs.flatten.all S.oneCell = true) (hroom : (2 * (es.length + fs.length) + 192) * by_ ≤ 2 ^ 48)
    (h : ∀ v' w', OwnE E sz w' v' (es ++ fs) → (blkS v' = blkS v ∨ New w v') → Fr (fun b => blkS v = some b) w w' → K v' w') :
    opS P (S.bi .append #[T, T2] ty [v, u]) K w := by
  refine opS_append hzn hby hv.1 hu.1 hk hroom fun v' w' h1 h2 h3 _ => h v' w' ⟨?_, ?_⟩ ?_ h3
  · rw [List.length_append, List.flatten_append]; exact h1
  · intro e he
    rcases List.mem_append.1 he with he | he
    · exact hv.2 e he
    · exact hu.2 e he
  · rcases h2 with h2 | ⟨b, hb, hle⟩
    · exact .inl h2
    · exact .inr fun b' hb' => by rw [hb] at hb'; cases hb'; exact hle

theorem blkS_part (a : Option Addr) (n c n' c' l sz : Nat) : blkS (.slice (if c = l then a else a.map (·.add (l * sz))) n' c') = blkS (.slice a n c) := by
  split
  · cases a <;> rfl
  · cases a with
    | none => rfl
    | some a =>
      show some (a.add _).block = some a.block
      unfold Addr.add
      split <;> rfl

end Go.Gx
end

section
/- Structs and arrays that are compared. -/
namespace Go.Gx
open Go
variable {P : Program} {K : Value → World → Prop} {w : World}

class EqT (P : Program) (T : TypeId) : Prop where
  key : P.keyTypeAt 8 T = true
  guard : P.eqGuardType P.depth T = false
  und : (∃ fs, P.underlying T = some (.struct fs)) ∨ ∃ n e, P.underlying T = some (.array n e)

theorem formed_of_lits {T : TypeId} [hT : EqT P T] {x : List Value} {l : List Lit} (h : P.keyLits 8 T x = some l) : (Value.agg x.toArray).formed P T = true := by
  have h : P.keyLits (7 + 1) T x = some l := h
  unfold Program.keyLits at h
  rcases hT.und with ⟨fs, hu⟩ | ⟨n, e, hu⟩
  · simp only [hu] at h
    split at h
    · rename_i hh
      simp [Value.formed, hu, hh.1]
    · cases h
  · simp only [hu] at h
    split at h
    · rename_i hh
      simp [Value.formed, hu, hh]
    · cases h

theorem run_equal {T : TypeId} [hT : EqT P T] {x y : List Value} {lx ly : List Lit} (hx : P.keyLits 8 T x = some lx) (hy : P.keyLits 8 T y = some ly) :
    ∃ r : Bool, (Op.equal T (.agg x.toArray) (.agg y.toArray)).run P w = .ok r w ∧ (r = true ↔ lx = ly) := by
  have := run_equalIn_deep (P := P) 9992 8 T hT.key w 8 8 (.agg x.toArray) (.agg y.toArray) lx ly (formed_of_lits hx) (formed_of_lits hy) (by simpa [Value.cells] using hx) (by simpa [Value.cells] using hy)
  exact this

theorem run_guard {T : TypeId} [hT : EqT P T] {op : BinOp} (a b : Array Value) (x y : Operand) : (eqGuard op T x y (.agg a) (.agg b)).run P w = .ok () w := by
  have hp : (program : Sem Program).run P w = .ok P w := rfl
  have hrun : (do if !(← program).eqGuardType (← program).depth T then return
                  if ← Op.eqGuardIn Op.maxDepth T (.agg a) (.agg b) then unsupported (.noEntry "binop/eql: two nil values of an interface type with methods, in a part of a struct or an array") : Sem Unit).run P w = .ok () w := by
    rw [Sem.run_bind, hp, Result.andThen_ok, Sem.run_bind, hp, Result.andThen_ok, hT.guard]
    rfl
  cases op <;> first | rfl | exact hrun

theorem s_eqG {T : TypeId} [hT : EqT P T] {x y : List Value} {lx ly : List Lit} (hx : P.keyLits 8 T x = some lx) (hy : P.keyLits 8 T y = some ly)
    (h : ∀ r : Bool, (r = true ↔ lx = ly) → K (.bool r) w) : opS P (S.binG .eql T (.agg x.toArray) (.agg y.toArray)) K w := by
  obtain ⟨r, hr, hiff⟩ := run_equal (w := w) hx hy
  unfold opS S.binG
  simp only []
  rw [Sem.run_bind, run_guard, Result.andThen_ok, Sem.run_bind]
  simp only [binOp]
  rw [Sem.run_bind, hr, Result.andThen_ok]
  exact h r hiff

theorem s_neqG {T : TypeId} [hT : EqT P T] {x y : List Value} {lx ly : List Lit} (hx : P.keyLits 8 T x = some lx) (hy : P.keyLits 8 T y = some ly)
    (h : ∀ r : Bool, (r = true ↔ lx = ly) → K (.bool (!r)) w) : opS P (S.binG .neq T (.agg x.toArray) (.agg y.toArray)) K w := by
  obtain ⟨r, hr, hiff⟩ := run_equal (w := w) hx hy
  unfold opS S.binG
  simp only []
  rw [Sem.run_bind, run_guard, Result.andThen_ok, Sem.run_bind]
  simp only [binOp]
  rw [Sem.run_bind, hr, Result.andThen_ok]
  exact h r hiff

end Go.Gx
end

section
/- Ranges over functions: what a round does to the loop's own block. -/
namespace Go.Gx
open Go
variable {P : Program} {K : Value → World → Prop} {w : World}

theorem run_setObj {b : Nat} {x o : Obj} (h : w.heap[b]? = some x) (hx : ∀ c T fz, x ≠ .cells c T fz) : (setObj b o).run P w = .ok () (upd w b o) := by
  cases x with
  | cells c T fz => exact absurd rfl (hx c T fz)
  | _ => simp [setObj, Sem.run, upd, h]

theorem run_getLoop {l : Nat} {L : Loop} (h : w.heap[l]? = some (.loop L)) : (Instr.getLoop l).run P w = .ok L w := by
  simp [Instr.getLoop, getObj, Sem.run, h, bind, Sem.bind, pure]

theorem opS_beginR {l : Nat} {L : Loop} (h : w.heap[l]? = some (.loop L)) (hs : L.state = .ready) : opS P (S.beginR (pt l 0)) K w = K undef (upd w l (.loop { L with state := .busy })) := by
  unfold S.beginR opS
  have e : blk (pt l 0) = l := rfl
  rw [e]
  unfold Instr.beginRound
  rw [Sem.run_bind, Sem.run_bind, run_getLoop h, Result.andThen_ok, Sem.run_bind, run_setObj h (by intro c T fz e; cases e), Result.andThen_ok, hs]
  rfl

theorem opS_endR {l : Nat} {L : Loop} (h : w.heap[l]? = some (.loop L)) (c : Option Code) : opS P (S.endR (pt l 0) c) K w = K (.bool c.isNone) (upd w l (.loop { L with state := if c.isNone then .ready else .done, pending := c })) := by
  unfold S.endR
  rw [opS_bind]
  have e : blk (pt l 0) = l := rfl
  rw [e]
  unfold Instr.endRound
  rw [Sem.run_bind, run_getLoop h, Result.andThen_ok, Sem.run_bind, run_setObj h (by intro c T fz e; cases e), Result.andThen_ok]
  rfl

theorem run_endLoop {l : Nat} {L : Loop} (h : w.heap[l]? = some (.loop L)) (hs : L.state ≠ .busy) : (Instr.endLoop l).run P w = .ok L.pending (upd w l (.loop { L with state := .exhausted })) := by
  unfold Instr.endLoop
  rw [Sem.run_bind, run_getLoop h, Result.andThen_ok]
  have hb : (L.state == .busy) = false := by
    cases hL : L.state <;> first | rfl | exact absurd hL hs
  rw [hb]
  simp only [Bool.false_eq_true, if_false]
  rw [Sem.run_bind, run_setObj h (by intro c T fz e; cases e), Result.andThen_ok]
  rfl

theorem opS_take {b : Nat} (h : w.heap[b]? = some (.deferred (some []))) : opS P (S.take (pt b 0)) K w = K undef (upd w b (.deferred none)) := by
  unfold S.take opS
  have e : blk (pt b 0) = b := rfl
  rw [e]
  have : (Instr.takeDeferred b).run P w = .ok [] (upd w b (.deferred none)) := by
    unfold Instr.takeDeferred
    have hg : (getObj b).run P w = .ok (.deferred (some [])) w := by simp [getObj, Sem.run, h]
    rw [Sem.run_bind, hg, Result.andThen_ok]
    simp only []
    rw [Sem.run_bind, run_setObj h (by intro c T fz e; cases e), Result.andThen_ok]
    rfl
  rw [Sem.run_bind, this, Result.andThen_ok]
  rfl

/-- a block of no cells may be turned -/
theorem Fr.upd' {fp : Nat → Prop} {w : World} {b : Nat} {x : Obj} (hb : w.heap[b]? = some x) (hx : loose x = true) (y : Obj) (hy : loose y = true) (h : fp b) : Fr fp w (Gx.upd w b y) := by
  refine ⟨by rw [size_upd]; omega, fun b' _ hn => heap_upd_ne fun e => hn (e ▸ h), fun a _ => ?_, rfl, rfl, rfl⟩
  rw [frozen_eq, frozen_eq]
  by_cases e : b = a.block
  · rw [← e, hb, heap_upd_same (by rw [hb]; rfl)]
    have key : ∀ o : Obj, loose o = true → (match some o with | some (.cells _ _ fz) => (decide (fz.1 ≤ a.off) && decide (a.off < fz.2)) | _ => false) = false := by
      intro o ho
      cases o with
      | cells c T fz =>
        obtain ⟨lo, hi⟩ := fz
        simp only [loose, decide_eq_true_eq] at ho
        simp only [Bool.and_eq_false_iff, decide_eq_false_iff_not]
        omega
      | _ => rfl
    exact (key y hy).trans (key x hx).symm
  · rw [heap_upd_ne e]

theorem Fr.step_upd {fp : Nat → Prop} {w w' : World} (h : Fr fp w w') {b : Nat} {x : Obj} (hb : w'.heap[b]? = some x) (hx : loose x = true) (y : Obj) (hy : loose y = true) (hf : fp b ∨ w.heap.size ≤ b) : Fr fp w (Gx.upd w' b y) := by
  refine h.trans_new (fp' := fun z => z = b) (Fr.upd' hb hx y hy rfl) fun z hz e => ?_
  subst e
  rcases hf with hf | hf
  · exact hf
  · omega

theorem takeD_pt (b o : Nat) : takeD P (pt b o) K w = opS P (S.take (pt b o)) K w := id rfl
theorem takeD_func (fv : Fn) (first cap : Array Value) : takeD P (.func fv first cap) K w = dcallS P fv first cap K w := id rfl
theorem opS_isF (fv : Fn) (first cap : Array Value) : opS P (S.isF (.func fv first cap)) K w = K undef w := id rfl
attribute [push_cast] takeD_pt takeD_func opS_isF

end Go.Gx
end

section
/- A law's row: what is left behind its walk. -/
namespace Go.Gx
open Go Go.ChangeShapes Go.WideShapes Go.ChangeAt Go.RowKit

theorem Fr.below {w w' : World} (h : Fr none_ w w') : RowKit.Below w.heap.size w w' := ⟨h.os, h.tape, h.out, h.size, fun k hk => h.old k hk (fun x => x)⟩

section
variable {H : Type} {enc : TypeId × Value → H} {P : Program}

theorem trodAll_carry (hl : laidOutB P = true) {W W' : World} (hb : RowKit.Below W.heap.size W W') : ∀ {ts : List TypeId} {vs : List Value} {ds : List (DataW H)} {ps : List MemPlace},
    (∀ t ∈ ts, P.readableRec t = true ∧ t < P.types.size) → DataW.TrodAll enc P W 0 (fun _ => true) true ts vs ds ps → (∀ x ∈ ps, x.block < W.heap.size) →
    ∀ sp : Nat → Bool, (∀ p ∈ ps, sp p.block = true) → DataW.TrodAll enc P W' 0 sp true ts vs ds ps
  | [], _, _, _, _, h, _, _, _ => by
    obtain ⟨rfl, rfl, rfl⟩ := trodAll_nil h
    exact trodAll_mk0
  | t :: ts, _, _, _, ht, h, hlt, sp, hsp => by
    obtain ⟨v, vs1, d, ds1, a, b, rfl, rfl, rfl, h1, h2⟩ := trodAll_cons h
    obtain ⟨hr, hrow⟩ := ht t (List.mem_cons_self ..)
    exact ⟨a, b, WideElems.Trod_stays hl hr hrow h1 (fun x hx => hb.same (hlt x (List.mem_append_left _ hx))) (fun x hx => hsp x (List.mem_append_left _ hx)),
      trodAll_carry hl hb (fun t' h' => ht t' (List.mem_cons_of_mem _ h')) h2 (fun x hx => hlt x (List.mem_append_right _ hx)) sp (fun x hx => hsp x (List.mem_append_right _ hx)), rfl⟩

/-- **a law that answers true, and leaves all as it was** -/
theorem law_post {f : Func} {s : ChangeSpec} {fresh handsOn : Bool} {W W' : World} {args : Array Value} {ds gs : List (DataW H)} {before : List MemPlace} {tb : TypeId}
    (hl : laidOutB P = true) (hts : ∀ t ∈ f.params.toList, P.readableRec t = true ∧ t < P.types.size)
    (hrt : f.resultTypes = #[tb]) (htb : P.underlying tb = some .bool) (hvar : s.vars = [])
    (hspec : s.fn H (ds ++ gs) = { results := [.lit (.bool true)], args := ds })
    (hW : DataW.Whole enc P f.params.toList s.vars false W args.toList ds gs before) (hF : Fr none_ W W') :
    s.post enc P f false fresh handsOn false W args (.bool true) W' := by
  have hW' := hW
  obtain ⟨p, q, hA, hV, hps, hfz, hnd⟩ := hW
  rw [hvar] at hV
  obtain ⟨rfl, rfl⟩ := trodVars_none hV
  have hb := hF.below
  have hlt : ∀ x ∈ before, x.block < W.heap.size := fun x hx => by simpa using hW'.lt x hx
  rw [List.append_nil] at hps
  subst hps
  refine ⟨ds, [], before, [], before, [], hW', ?_, ?_, ?_, ?_, fun h => by cases h⟩
  · rw [hspec, hrt]
    exact trodAll_cons_mk (shut_bool htb _) trodAll_mk0
  · rw [hspec]
    exact trodAll_carry hl hb hts hA hlt _ (fun x hx => by simpa using hlt x hx)
  · rw [hspec, hvar]
    rfl
  · exact hb.frame _

/-! ### Slices that come in -/

theorem cells_of {w : World} {base b o n : Nat} {l : List Value} (h : w.cells? base ⟨b, o, none⟩ n = some l) (hn : 0 < n) :
    ∃ cs T fz, w.heap[b]? = some (.cells cs T fz) ∧ o + n ≤ cs.size ∧ l = (cs.toList.drop o).take n := by
  unfold World.cells? at h
  split at h
  · have hlen := mapM_some_length h
    have hget : ∀ i, i < n → w.cell? ⟨b, o + i, none⟩ = l[i]? := by
      intro i hi
      have := mapM_some_get h i i (by simp [hi])
      rwa [add_none] at this
    have h0 := hget 0 hn
    simp only [List.length_range] at hlen
    rw [Nat.add_zero, List.getElem?_eq_getElem (by omega)] at h0
    unfold World.cell? at h0
    split at h0
    · rename_i cs T fz hb
      have hb : w.heap[b]? = some (.cells cs T fz) := hb
      have hle : o + n ≤ cs.size := by
        have := hget (n - 1) (by omega)
        rw [List.getElem?_eq_getElem (by omega), cell_rd, rd, hb] at this
        simp only [] at this
        have := (Array.getElem?_eq_some_iff.1 this).1
        omega
      refine ⟨cs, T, fz, hb, hle, ?_⟩
      apply List.ext_getElem?
      intro i
      by_cases hi : i < n
      · rw [← hget i hi, List.getElem?_take_of_lt hi, List.getElem?_drop, cell_rd, rd, hb]
        simp
      · rw [List.getElem?_eq_none (by omega), List.getElem?_eq_none (by rw [List.length_take]; omega)]
    · cases h0
  · cases h

theorem cells_spot {w : World} {base : Nat} {a : Addr} {n : Nat} {l : List Value} (h : w.cells? base a n = some l) (hn : 0 < n) : a = ⟨a.block, a.off, none⟩ := by
  unfold World.cells? at h
  split at h
  · have hlen := mapM_some_length h
    have := mapM_some_get h 0 0 (by simp [hn])
    simp only [List.length_range] at hlen
    rw [List.getElem?_eq_getElem (by omega)] at this
    have e : a.add 0 = a := by simp [Addr.add]
    rw [e] at this
    unfold World.cell? at this
    split at this
    · split at this
      · cases this
      · rename_i hs
        obtain ⟨b, o, s⟩ := a
        simp at hs
        rw [hs]
    · cases this
  · cases h

theorem flat_chunks (l : List Value) (o sz : Nat) : ∀ n, o + n * sz ≤ l.length → ((List.range n).map fun i => (l.drop (o + i * sz)).take sz).flatten = (l.drop o).take (n * sz)
  | 0, _ => by simp
  | n + 1, h => by
    rw [Nat.succ_mul] at h ⊢
    rw [List.range_succ, List.map_append, List.flatten_append, flat_chunks l o sz n (by omega), List.map_singleton, List.flatten_singleton, List.take_add, List.drop_drop]

variable {w : World} {base : Nat} {spare : Nat → Bool} {held : Bool}

theorem open_rd {t e sz fuel : Nat} {v : Value} {x : DataW H × List MemPlace} (ht : P.underlying t = some (.slice e)) (hsz : P.cellsOf e = sz) (h0 : 0 < sz) (h : DataW.trod enc P w base spare held fuel t [v] = some x) :
    ∃ es, RdE sz w v es ∧ es.length ≤ maxLen ∧ ∀ c ∈ es, ∃ n y, DataW.trod enc P w base spare held n e c = some y := by
  rcases DataW.trod_slice ht h with ⟨hv, _⟩ | ⟨a, len, cap, elems, rest, n, _, hv, rfl, hb, hl, hm, hlen, hel, hsp, hns⟩
  · rw [List.cons.injEq] at hv
    rw [hv.1]
    exact ⟨[], ⟨.inl ⟨⟨_, _, rfl⟩, rfl, rfl⟩, by simp⟩, by simp, by simp⟩
  · rw [List.cons.injEq] at hv
    rw [hv.1]
    rw [hsz] at hel
    by_cases hz : len = 0
    · subst hz
      exact ⟨[], ⟨.inl ⟨⟨_, _, rfl⟩, rfl, rfl⟩, by simp⟩, by simp, by simp⟩
    · have key : ∀ i, i < len → ∃ l, w.cells? base (a.add (i * sz)) sz = some l ∧ ∃ y, DataW.trod enc P w base spare held n e l = some y := by
        intro i hi
        have := hel i hi
        rw [List.getElem?_eq_getElem (by omega)] at this
        obtain ⟨l, h1, h2⟩ := Option.bind_eq_some_iff.1 this
        exact ⟨l, h1, _, h2⟩
      have ha : a = ⟨a.block, a.off, none⟩ := by
        obtain ⟨l, h1, _⟩ := key 0 (by omega)
        have e : a.add (0 * sz) = a := by simp [Addr.add]
        rw [e] at h1
        exact cells_spot h1 h0
      obtain ⟨b, o, s⟩ := a
      simp only [Addr.mk.injEq, true_and] at ha
      subst ha
      have key2 : ∀ i, i < len → ∃ cs T fz, w.heap[b]? = some (.cells cs T fz) ∧ o + i * sz + sz ≤ cs.size ∧ ∃ y, DataW.trod enc P w base spare held n e ((cs.toList.drop (o + i * sz)).take sz) = some y := by
        intro i hi
        obtain ⟨l, h1, h2⟩ := key i hi
        rw [add_none] at h1
        obtain ⟨cs, T, fz, h3, h4, rfl⟩ := cells_of h1 h0
        exact ⟨cs, T, fz, h3, h4, h2⟩
      obtain ⟨cs, T, fz, hb', hle, _⟩ := key2 (len - 1) (by omega)
      have hlen2 : o + len * sz ≤ cs.size := by
        have e : (len - 1) * sz + sz = len * sz := by rw [← Nat.succ_mul]; congr 1; omega
        omega
      refine ⟨(List.range len).map fun i => (cs.toList.drop (o + i * sz)).take sz, ⟨.inr ⟨b, o, cap, cs, T, fz, ?_, hb', ?_, ?_, ?_⟩, ?_⟩, ?_, ?_⟩
      · simp
      · simpa using hl
      · simpa using hlen2
      · rw [flat_chunks _ _ _ _ (by simpa using hlen2)]; simp
      · intro c hc
        rw [List.mem_map] at hc
        obtain ⟨i, hi, rfl⟩ := hc
        rw [List.mem_range] at hi
        have : i * sz + sz ≤ len * sz := by rw [← Nat.succ_mul]; exact Nat.mul_le_mul_right _ hi
        rw [List.length_take, List.length_drop, Array.length_toList]; omega
      · simp; omega
      · intro c hc
        rw [List.mem_map] at hc
        obtain ⟨i, hi, rfl⟩ := hc
        rw [List.mem_range] at hi
        obtain ⟨cs', T', fz', h1, _, h2⟩ := key2 i hi
        rw [hb', Option.some.injEq, Obj.cells.injEq] at h1
        obtain ⟨rfl, _, _⟩ := h1
        exact ⟨n, h2⟩

theorem okWide_slice {t e : TypeId} {v : Value} {r : Reach} (ht : P.underlying t = some (.slice e)) (h : Value.okWide P w r base t v) : v.cells.toList = [v] := by
  unfold Value.okWide at h
  simp only [ht] at h
  unfold Cell.okWide at h
  simp only [ht] at h
  unfold Cell.ok at h
  simp only [ht] at h
  cases v <;> first | rfl | exact h.elim

/-- a slice that comes in -/
theorem arg_slice {t e sz base' : Nat} {v : Value} {d : DataW H} {ps : List MemPlace} {r : Reach} (ht : P.underlying t = some (.slice e)) (hsz : P.cellsOf e = sz) (h0 : 0 < sz) (hok : Value.okWide P w r base' t v) (h : DataW.Trod enc P w base spare held t v d ps) :
    ∃ es, RdE sz w v es ∧ es.length ≤ maxLen ∧ ∀ c ∈ es, ∃ n y, DataW.trod enc P w base spare held n e c = some y := by
  obtain ⟨fuel, h⟩ := h
  rw [okWide_slice ht hok] at h
  exact open_rd ht hsz h0 h

/-- .. whose elements may be keys -/
theorem arg_keys {t e sz base' : Nat} {v : Value} {d : DataW H} {ps : List MemPlace} {r : Reach} (ht : P.underlying t = some (.slice e)) (hk : P.keyTypeAt 8 e = true) (hsz : P.cellsOf e = sz) (h0 : 0 < sz) (hok : Value.okWide P w r base' t v) (h : DataW.Trod enc P w base spare held t v d ps) :
    ∃ es, RdE sz w v es ∧ es.length ≤ maxLen ∧ ∀ c ∈ es, ∃ l, P.keyLits 8 e c = some l := by
  obtain ⟨es, h1, h2, h3⟩ := arg_slice ht hsz h0 hok h
  refine ⟨es, h1, h2, fun c hc => ?_⟩
  obtain ⟨n, y, hy⟩ := h3 c hc
  exact ⟨_, (keyLits_of_trod 8 e hk n c y hy).1⟩

theorem arg_int {t base' : TypeId} {k : IntKind} {v : Value} {d : DataW H} {ps : List MemPlace} {r : Reach} (ht : P.underlying t = some (.int k)) (hok : Value.okWide P w r base' t v) (h : DataW.Trod enc P w base spare held t v d ps) :
    ∃ n, v = .int k n ∧ k.min ≤ n ∧ n ≤ k.max := by
  unfold Value.okWide at hok
  simp only [ht] at hok
  unfold Cell.okWide at hok
  simp only [ht] at hok
  unfold Cell.ok at hok
  simp only [ht] at hok
  cases v <;> first | exact hok.elim | skip
  rename_i k' n
  obtain ⟨rfl, h1, h2⟩ := hok
  exact ⟨n, rfl, h1, h2⟩

/-- **a law's row: what is left is that it answers true, and touches nothing that was there** -/
theorem law_lifted {C : Checked} {os : Os} {f : FuncId} {fn : Func} {s : ChangeSpec} {conds : List PathCond} {fresh handsOn : Bool} {tb n : Nat}
    (own : ownKnob C.prog.godebug = none) (started : os.Started) (noInit : C.prog.inits.idxOf? f = none) (hfn : C.prog.funcs[f]? = some fn)
    (witness : ∃ (w : World) (tape : Tape) (i : Input), w.os = os ∧ (w.forCall tape i).Shaped C.prog ∧ i.vars = [] ∧ Input.okWide C.prog (w.forCall tape i) .any w.heap.size f i ∧
      s.pre6 enc C.prog fn conds false (w.forCall tape i).memory i.args ∧ Assume.holds {} C.prog (lone (Frame.enter C.prog f i.args .normal) [] (w.forCall tape i)))
    (hl : laidOutB C.prog = true) (hts : ∀ t ∈ fn.params.toList, C.prog.readableRec t = true ∧ t < C.prog.types.size)
    (hrt : fn.resultTypes = #[tb]) (htb : C.prog.underlying tb = some .bool) (hvar : s.vars = []) (hn : fn.params.size = n)
    (hspec : ∀ ds : List (DataW H), ds.length = n → s.fn H ds = { results := [.lit (.bool true)], args := ds })
    (walk : ∀ (W : World) (base : Nat) (args : Array Value) (ds : List (DataW H)) (ps : List MemPlace),
      (∀ (j : Nat) t v, fn.params[j]? = some t → args[j]? = some v → Value.okWide C.prog W .any base t v) →
      DataW.TrodAll enc C.prog W 0 (fun _ => true) true fn.params.toList args.toList ds ps →
      CallsR C.prog f args (fun v W' => v = .bool true ∧ Fr none_ W W') W) :
    ReturnsInHanded {} C os f .any (s.pre6 enc C.prog fn conds false) (s.post enc C.prog fn false fresh handsOn false) := by
  refine returnsInHanded_of_change own started noInit hfn witness ?_
  intro W base args ds gs before hval hW _ _
  have hW' := hW
  obtain ⟨p, q, hA, hV, hps, hfz, hnd⟩ := hW
  rw [hvar] at hV
  obtain ⟨rfl, _⟩ := trodVars_none hV
  refine Calls.mono (walk W base args ds p hval hA) fun e W' ⟨v, he, hv, hF⟩ => ?_
  refine ⟨v, he, ?_⟩
  subst hv
  have hlen : ds.length = n := by
    have key : ∀ {ts : List TypeId} {vs : List Value} {ds : List (DataW H)} {ps : List MemPlace}, DataW.TrodAll enc C.prog W 0 (fun _ => true) true ts vs ds ps → ds.length = ts.length := by
      intro ts
      induction ts with
      | nil => intro vs ds ps h; obtain ⟨rfl, rfl, rfl⟩ := trodAll_nil h; rfl
      | cons t ts ih =>
        intro vs ds ps h
        obtain ⟨v, vs1, d, ds1, a, b, rfl, rfl, rfl, h1, h2⟩ := trodAll_cons h
        simp [ih h2]
    rw [key hA, Array.length_toList, hn]
  exact law_post hl hts hrt htb hvar (by rw [List.append_nil]; exact hspec ds hlen) hW' hF

end
end Go.Gx
end

section
/- Numbers, bools, addresses and entries as cells; what a key type's cells are. -/
namespace Go.Gx
open Go

theorem kl_struct {P : Program} {T d : Nat} {fs : Array Field} {cs : List Value} {l : List Lit} (hu : P.underlying T = some (.struct fs)) (h : P.keyLits (d + 1) T cs = some l) :
    cs.length = P.cellsOf T ∧ ∃ ls, fs.toList.mapM (fun f => P.keyLits d f.type ((cs.drop f.offset).take (P.cellsOf f.type))) = some ls ∧ l = ls.flatten := by
  unfold Program.keyLits at h
  simp only [hu] at h
  split at h
  · rename_i hc
    rw [Option.map_eq_some_iff] at h
    obtain ⟨ls, h1, h2⟩ := h
    exact ⟨hc.1, ls, h1, h2.symm⟩
  · cases h

theorem kl_struct_mk {P : Program} {T d : Nat} {fs : Array Field} {cs : List Value} {ls : List (List Lit)} (hu : P.underlying T = some (.struct fs)) (hn : fs.all (·.name != "_") = true) (hl : cs.length = P.cellsOf T)
    (h : fs.toList.mapM (fun f => P.keyLits d f.type ((cs.drop f.offset).take (P.cellsOf f.type))) = some ls) : P.keyLits (d + 1) T cs = some ls.flatten := by
  unfold Program.keyLits
  simp only [hu]
  rw [if_pos ⟨hl, hn⟩, h]; rfl

theorem kl_array {P : Program} {T d n E : Nat} {cs : List Value} {l : List Lit} (hu : P.underlying T = some (.array n E)) (h : P.keyLits (d + 1) T cs = some l) :
    cs.length = P.cellsOf T ∧ ∃ ls, (List.range n).mapM (fun i => P.keyLits d E ((cs.drop (i * P.cellsOf E)).take (P.cellsOf E))) = some ls ∧ l = ls.flatten := by
  unfold Program.keyLits at h
  simp only [hu] at h
  split at h
  · rename_i hc
    rw [Option.map_eq_some_iff] at h
    obtain ⟨ls, h1, h2⟩ := h
    exact ⟨hc, ls, h1, h2.symm⟩
  · cases h

theorem kl_array_mk {P : Program} {T d n E : Nat} {cs : List Value} {ls : List (List Lit)} (hu : P.underlying T = some (.array n E)) (hl : cs.length = P.cellsOf T)
    (h : (List.range n).mapM (fun i => P.keyLits d E ((cs.drop (i * P.cellsOf E)).take (P.cellsOf E))) = some ls) : P.keyLits (d + 1) T cs = some ls.flatten := by
  unfold Program.keyLits
  simp only [hu]
  rw [if_pos hl, h]; rfl

theorem kl_int {P : Program} {T d : Nat} {k : IntKind} {cs : List Value} {l : List Lit} (hu : P.underlying T = some (.int k)) (h : P.keyLits (d + 1) T cs = some l) :
    ∃ n, cs = [.int k n] ∧ l = [.int k n] ∧ k.min ≤ n ∧ n ≤ k.max := by
  unfold Program.keyLits at h
  simp only [hu] at h
  split at h <;> first | (rename_i hk; cases hk; done) | skip
  all_goals first | (cases h; done) | skip
  rename_i q q' n hk
  cases hk
  split at h
  · rename_i hc
    obtain ⟨rfl, hw⟩ := hc
    cases h
    simp only [Lit.wf, Bool.and_eq_true, decide_eq_true_eq] at hw
    exact ⟨n, rfl, rfl, hw⟩
  · cases h

theorem kl_int_mk {P : Program} {T d : Nat} {k : IntKind} {n : Int} (hu : P.underlying T = some (.int k)) (h : k.min ≤ n ∧ n ≤ k.max) : P.keyLits (d + 1) T [.int k n] = some [.int k n] := by
  unfold Program.keyLits
  simp [hu, Lit.wf, h]

theorem kl_bool {P : Program} {T d : Nat} {cs : List Value} {l : List Lit} (hu : P.underlying T = some .bool) (h : P.keyLits (d + 1) T cs = some l) : ∃ b, cs = [.bool b] ∧ l = [.bool b] :=
  keyLits_bool' hu h

theorem kl_bool_mk {P : Program} {T d : Nat} {b : Bool} (hu : P.underlying T = some .bool) : P.keyLits (d + 1) T [.bool b] = some [.bool b] := by
  unfold Program.keyLits
  simp [hu]

/-! ### Addresses -/

abbrev u8 (n : Int) : Value := .int .u8 n
abbrev i64 (n : Int) : Value := .int .i64 n

@[ext] structure Mac where
  b0 : Int
  b1 : Int
  b2 : Int
  b3 : Int
  b4 : Int
  b5 : Int
  deriving DecidableEq, Inhabited

def isB (n : Int) : Prop := 0 ≤ n ∧ n ≤ 255
def isI (n : Int) : Prop := IntKind.i64.min ≤ n ∧ n ≤ IntKind.i64.max
theorem isI_iff {n : Int} : isI n ↔ -9223372036854775808 ≤ n ∧ n ≤ 9223372036854775807 := by
  unfold isI
  have e1 : IntKind.i64.min = -9223372036854775808 := rfl
  have e2 : IntKind.i64.max = 9223372036854775807 := rfl
  rw [e1, e2]

def Mac.cells (m : Mac) : List Value := [u8 m.b0, u8 m.b1, u8 m.b2, u8 m.b3, u8 m.b4, u8 m.b5]
def Mac.lits (m : Mac) : List Lit := [.int .u8 m.b0, .int .u8 m.b1, .int .u8 m.b2, .int .u8 m.b3, .int .u8 m.b4, .int .u8 m.b5]
def Mac.ok (m : Mac) : Prop := isB m.b0 ∧ isB m.b1 ∧ isB m.b2 ∧ isB m.b3 ∧ isB m.b4 ∧ isB m.b5

theorem Mac.lits_inj {a b : Mac} : a.lits = b.lits ↔ a = b := by
  constructor
  · intro h
    simp only [Mac.lits, List.cons.injEq, Lit.int.injEq, true_and, and_true] at h
    exact Mac.ext h.1 h.2.1 h.2.2.1 h.2.2.2.1 h.2.2.2.2.1 h.2.2.2.2.2
  · rintro rfl; rfl

class MacT (P : Program) (T : TypeId) (E : outParam TypeId) : Prop where
  arr : P.underlying T = some (.array 6 E)
  u8 : P.underlying E = some (.int .u8)
  one : P.cellsOf E = 1
  six : P.cellsOf T = 6

theorem MacT.dec {P : Program} {T E d : Nat} [hT : MacT P T E] {cs : List Value} {l : List Lit} (h : P.keyLits (d + 2) T cs = some l) : ∃ m : Mac, m.ok ∧ cs = m.cells ∧ l = m.lits := by
  obtain ⟨hl, ls, h1, rfl⟩ := kl_array hT.arr h
  rw [hT.six] at hl
  match cs, hl with
  | [c0, c1, c2, c3, c4, c5], _ =>
  simp only [show List.range 6 = [0, 1, 2, 3, 4, 5] from rfl, List.mapM_cons, List.mapM_nil, hT.one, bind, Option.bind_eq_some_iff, pure, Option.some.injEq, Nat.mul_one, List.drop_succ_cons, List.drop_zero, List.take_succ_cons, List.take_zero] at h1
  obtain ⟨y0, g0, _, ⟨y1, g1, _, ⟨y2, g2, _, ⟨y3, g3, _, ⟨y4, g4, _, ⟨y5, g5, _, rfl, rfl⟩, rfl⟩, rfl⟩, rfl⟩, rfl⟩, rfl⟩ := h1
  obtain ⟨n0, e0, rfl, b0⟩ := kl_int hT.u8 g0
  obtain ⟨n1, e1, rfl, b1⟩ := kl_int hT.u8 g1
  obtain ⟨n2, e2, rfl, b2⟩ := kl_int hT.u8 g2
  obtain ⟨n3, e3, rfl, b3⟩ := kl_int hT.u8 g3
  obtain ⟨n4, e4, rfl, b4⟩ := kl_int hT.u8 g4
  obtain ⟨n5, e5, rfl, b5⟩ := kl_int hT.u8 g5
  simp only [List.cons.injEq, and_true] at e0 e1 e2 e3 e4 e5
  subst e0 e1 e2 e3 e4 e5
  exact ⟨⟨n0, n1, n2, n3, n4, n5⟩, ⟨b0, b1, b2, b3, b4, b5⟩, rfl, rfl⟩

theorem MacT.enc {P : Program} {T E d : Nat} [hT : MacT P T E] {m : Mac} (h : m.ok) : P.keyLits (d + 2) T m.cells = some m.lits := by
  obtain ⟨b0, b1, b2, b3, b4, b5⟩ := h
  refine kl_array_mk (ls := [[_], [_], [_], [_], [_], [_]]) hT.arr (by rw [hT.six]; rfl) ?_
  simp only [show List.range 6 = [0, 1, 2, 3, 4, 5] from rfl, List.mapM_cons, List.mapM_nil, hT.one, Mac.cells, bind, Option.bind_eq_some_iff, pure, Option.some.injEq, Nat.mul_one, List.drop_succ_cons, List.drop_zero, List.take_succ_cons, List.take_zero]
  exact ⟨_, kl_int_mk hT.u8 b0, _, ⟨_, kl_int_mk hT.u8 b1, _, ⟨_, kl_int_mk hT.u8 b2, _, ⟨_, kl_int_mk hT.u8 b3, _, ⟨_, kl_int_mk hT.u8 b4, _, ⟨_, kl_int_mk hT.u8 b5, _, rfl, rfl⟩, rfl⟩, rfl⟩, rfl⟩, rfl⟩, rfl⟩

/-! ### Entries -/

@[ext] structure Ent where
  vlan : Int
  mac : Mac
  port : Int
  at_ : Int
  static : Bool
  deriving DecidableEq, Inhabited

def Ent.cells (e : Ent) : List Value := [i64 e.vlan, u8 e.mac.b0, u8 e.mac.b1, u8 e.mac.b2, u8 e.mac.b3, u8 e.mac.b4, u8 e.mac.b5, i64 e.port, i64 e.at_, .bool e.static]
def Ent.lits (e : Ent) : List Lit := [.int .i64 e.vlan, .int .u8 e.mac.b0, .int .u8 e.mac.b1, .int .u8 e.mac.b2, .int .u8 e.mac.b3, .int .u8 e.mac.b4, .int .u8 e.mac.b5, .int .i64 e.port, .int .i64 e.at_, .bool e.static]
def Ent.ok (e : Ent) : Prop := isI e.vlan ∧ e.mac.ok ∧ isI e.port ∧ isI e.at_

theorem Ent.lits_inj {a b : Ent} : a.lits = b.lits ↔ a = b := by
  constructor
  · intro h
    simp only [Ent.lits, List.cons.injEq, Lit.int.injEq, Lit.bool.injEq, true_and, and_true] at h
    obtain ⟨h0, h1, h2, h3, h4, h5, h6, h7, h8, h9⟩ := h
    exact Ent.ext h0 (Mac.ext h1 h2 h3 h4 h5 h6) h7 h8 h9
  · rintro rfl; rfl
theorem Ent.cells_length (e : Ent) : e.cells.length = 10 := rfl
theorem Ent.cells_one (e : Ent) : e.cells.all S.oneCell = true := rfl

class EntT (P : Program) (T : TypeId) (I M B : outParam TypeId) : Prop where
  und : ∃ n0 n1 n2 n3 n4 : String, ∃ p0 p1 p2 p3 p4 : String, ∃ o0 o1 o2 o3 o4 : Nat, P.underlying T = some (.struct #[{ name := n0, type := I, offset := 0, embedded := false, tag := "", pkgPath := p0, byteOffset := o0 }, { name := n1, type := M, offset := 1, embedded := false, tag := "", pkgPath := p1, byteOffset := o1 },
    { name := n2, type := I, offset := 7, embedded := false, tag := "", pkgPath := p2, byteOffset := o2 }, { name := n3, type := I, offset := 8, embedded := false, tag := "", pkgPath := p3, byteOffset := o3 }, { name := n4, type := B, offset := 9, embedded := false, tag := "", pkgPath := p4, byteOffset := o4 }]) ∧
    n0 ≠ "_" ∧ n1 ≠ "_" ∧ n2 ≠ "_" ∧ n3 ≠ "_" ∧ n4 ≠ "_"
  int : P.underlying I = some (.int .i64)
  bool : P.underlying B = some .bool
  cI : P.cellsOf I = 1
  cB : P.cellsOf B = 1
  cT : P.cellsOf T = 10

theorem EntT.dec {P : Program} {T I M B E d : Nat} [hT : EntT P T I M B] [hM : MacT P M E] {cs : List Value} {l : List Lit} (h : P.keyLits (d + 3) T cs = some l) : ∃ m : Ent, m.ok ∧ cs = m.cells ∧ l = m.lits := by
  obtain ⟨n0, n1, n2, n3, n4, p0, p1, p2, p3, p4, o0, o1, o2, o3, o4, hu, _⟩ := hT.und
  obtain ⟨hl, ls, h1, rfl⟩ := kl_struct hu h
  rw [hT.cT] at hl
  match cs, hl with
  | [c0, c1, c2, c3, c4, c5, c6, c7, c8, c9], _ =>
  simp only [List.mapM_cons, List.mapM_nil, hT.cI, hT.cB, hM.six, bind, Option.bind_eq_some_iff, pure, Option.some.injEq, List.drop_succ_cons, List.drop_zero, List.take_succ_cons, List.take_zero] at h1
  obtain ⟨y0, g0, _, ⟨y1, g1, _, ⟨y2, g2, _, ⟨y3, g3, _, ⟨y4, g4, _, rfl, rfl⟩, rfl⟩, rfl⟩, rfl⟩, rfl⟩ := h1
  obtain ⟨k0, e0, rfl, b0⟩ := kl_int hT.int g0
  obtain ⟨m, hm, e1, rfl⟩ := MacT.dec (d := d) g1
  obtain ⟨k2, e2, rfl, b2⟩ := kl_int hT.int g2
  obtain ⟨k3, e3, rfl, b3⟩ := kl_int hT.int g3
  obtain ⟨k4, e4, rfl⟩ := kl_bool hT.bool g4
  simp only [Mac.cells, List.cons.injEq, and_true] at e0 e1 e2 e3 e4
  obtain ⟨f0, f1, f2, f3, f4, f5⟩ := e1
  subst e0 f0 f1 f2 f3 f4 f5 e2 e3 e4
  exact ⟨⟨k0, m, k2, k3, k4⟩, ⟨b0, hm, b2, b3⟩, rfl, rfl⟩

theorem EntT.enc {P : Program} {T I M B E d : Nat} [hT : EntT P T I M B] [hM : MacT P M E] {m : Ent} (h : m.ok) : P.keyLits (d + 3) T m.cells = some m.lits := by
  obtain ⟨n0, n1, n2, n3, n4, p0, p1, p2, p3, p4, o0, o1, o2, o3, o4, hu, m0, m1, m2, m3, m4⟩ := hT.und
  obtain ⟨b0, b1, b2, b3⟩ := h
  refine kl_struct_mk (ls := [[_], m.mac.lits, [_], [_], [_]]) hu (by simp [m0, m1, m2, m3, m4]) (by rw [hT.cT]; rfl) ?_
  simp only [List.mapM_cons, List.mapM_nil, hT.cI, hT.cB, hM.six, Ent.cells, bind, Option.bind_eq_some_iff, pure, Option.some.injEq, List.drop_succ_cons, List.drop_zero, List.take_succ_cons, List.take_zero]
  exact ⟨_, kl_int_mk hT.int b0, _, ⟨_, MacT.enc (d := d) b1, _, ⟨_, kl_int_mk hT.int b2, _, ⟨_, kl_int_mk hT.int b3, _, ⟨_, kl_bool_mk hT.bool, _, rfl, rfl⟩, rfl⟩, rfl⟩, rfl⟩, rfl⟩

end Go.Gx
end

section
/- What the functions of this program ask. -/
set_option linter.unusedVariables false
set_option maxRecDepth 100000
namespace Go.Gx.S
open Go Go.Gx Go.Proofs
instance sz2 : Sz Try.prog 2 1 false := ⟨Try.sizeOf2, Try.isAgg2⟩
instance by2 : By Try.prog 2 8 := ⟨_, Try.typeInfo2, rfl⟩
instance zv2 : ZV Try.prog 2 (.int .i64 0) := ⟨Try.zeroValue2⟩
instance sz3 : Sz Try.prog 3 1 false := ⟨Try.sizeOf3, Try.isAgg3⟩
instance by3 : By Try.prog 3 8 := ⟨_, Try.typeInfo3, rfl⟩
instance zv3 : ZV Try.prog 3 (.int .i64 0) := ⟨Try.zeroValue3⟩
instance sz4 : Sz Try.prog 4 1 false := ⟨Try.sizeOf4, Try.isAgg4⟩
instance by4 : By Try.prog 4 1 := ⟨_, Try.typeInfo4, rfl⟩
instance zv4 : ZV Try.prog 4 (.bool false) := ⟨Try.zeroValue4⟩
instance sz5 : Sz Try.prog 5 1 false := ⟨Try.sizeOf5, Try.isAgg5⟩
instance by5 : By Try.prog 5 1 := ⟨_, Try.typeInfo5, rfl⟩
instance zv5 : ZV Try.prog 5 (.int .u8 0) := ⟨Try.zeroValue5⟩
instance sz6 : Sz Try.prog 6 1 false := ⟨Try.sizeOf6, Try.isAgg6⟩
instance by6 : By Try.prog 6 1 := ⟨_, Try.typeInfo6, rfl⟩
instance zv6 : ZV Try.prog 6 (.int .u8 0) := ⟨Try.zeroValue6⟩
instance sz7 : Sz Try.prog 7 4 true := ⟨Try.sizeOf7, Try.isAgg7⟩
instance by7 : By Try.prog 7 24 := ⟨_, Try.typeInfo7, rfl⟩
instance zv7 : ZV Try.prog 7 (.agg #[.int .i64 0, .int .i64 0, .bool false, .int .u8 0]) := ⟨Try.zeroValue7⟩
instance eq7 : EqT Try.prog 7 := ⟨by kernel_rfl, Try.eqGuardType7, .inl ⟨_, Try.underlying7⟩⟩
theorem fa7_0 {K : Value → World → Prop} {w : World} (b o : Nat) : opS Try.prog (S.fa 7 (pt b o) 0) K w = K (pt b (o + 0)) w := opS_fa (T := 7) (hT := ⟨Try.underlying7⟩) (fd := ⟨_, 2, 0, _, _, _, _⟩) (n := 1) rfl (hs := sz2) (Nat.succ_ne_zero _) b o
attribute [push_cast] fa7_0
theorem fa7_1 {K : Value → World → Prop} {w : World} (b o : Nat) : opS Try.prog (S.fa 7 (pt b o) 1) K w = K (pt b (o + 1)) w := opS_fa (T := 7) (hT := ⟨Try.underlying7⟩) (fd := ⟨_, 3, 1, _, _, _, _⟩) (n := 1) rfl (hs := sz3) (Nat.succ_ne_zero _) b o
attribute [push_cast] fa7_1
theorem fa7_2 {K : Value → World → Prop} {w : World} (b o : Nat) : opS Try.prog (S.fa 7 (pt b o) 2) K w = K (pt b (o + 2)) w := opS_fa (T := 7) (hT := ⟨Try.underlying7⟩) (fd := ⟨_, 4, 2, _, _, _, _⟩) (n := 1) rfl (hs := sz4) (Nat.succ_ne_zero _) b o
attribute [push_cast] fa7_2
theorem fa7_3 {K : Value → World → Prop} {w : World} (b o : Nat) : opS Try.prog (S.fa 7 (pt b o) 3) K w = K (pt b (o + 3)) w := opS_fa (T := 7) (hT := ⟨Try.underlying7⟩) (fd := ⟨_, 6, 3, _, _, _, _⟩) (n := 1) rfl (hs := sz6) (Nat.succ_ne_zero _) b o
attribute [push_cast] fa7_3
instance bt7 : BT Try.prog 7 [[.int .i64 0], [.int .i64 0], [.bool false], [.int .u8 0]] := BT.ofStruct Try.underlying7 Try.zeroValue7 rfl (fun w => by kernel_rfl)
instance sz8 : Sz Try.prog 8 4 true := ⟨Try.sizeOf8, Try.isAgg8⟩
instance by8 : By Try.prog 8 24 := ⟨_, Try.typeInfo8, rfl⟩
instance zv8 : ZV Try.prog 8 (.agg #[.int .i64 0, .int .i64 0, .bool false, .int .u8 0]) := ⟨Try.zeroValue8⟩
theorem fa8_0 {K : Value → World → Prop} {w : World} (b o : Nat) : opS Try.prog (S.fa 8 (pt b o) 0) K w = K (pt b (o + 0)) w := opS_fa (T := 8) (hT := ⟨Try.underlying8⟩) (fd := ⟨_, 2, 0, _, _, _, _⟩) (n := 1) rfl (hs := sz2) (Nat.succ_ne_zero _) b o
attribute [push_cast] fa8_0
theorem fa8_1 {K : Value → World → Prop} {w : World} (b o : Nat) : opS Try.prog (S.fa 8 (pt b o) 1) K w = K (pt b (o + 1)) w := opS_fa (T := 8) (hT := ⟨Try.underlying8⟩) (fd := ⟨_, 3, 1, _, _, _, _⟩) (n := 1) rfl (hs := sz3) (Nat.succ_ne_zero _) b o
attribute [push_cast] fa8_1
theorem fa8_2 {K : Value → World → Prop} {w : World} (b o : Nat) : opS Try.prog (S.fa 8 (pt b o) 2) K w = K (pt b (o + 2)) w := opS_fa (T := 8) (hT := ⟨Try.underlying8⟩) (fd := ⟨_, 4, 2, _, _, _, _⟩) (n := 1) rfl (hs := sz4) (Nat.succ_ne_zero _) b o
attribute [push_cast] fa8_2
theorem fa8_3 {K : Value → World → Prop} {w : World} (b o : Nat) : opS Try.prog (S.fa 8 (pt b o) 3) K w = K (pt b (o + 3)) w := opS_fa (T := 8) (hT := ⟨Try.underlying8⟩) (fd := ⟨_, 6, 3, _, _, _, _⟩) (n := 1) rfl (hs := sz6) (Nat.succ_ne_zero _) b o
attribute [push_cast] fa8_3
instance bt8 : BT Try.prog 8 [[.int .i64 0], [.int .i64 0], [.bool false], [.int .u8 0]] := BT.ofStruct Try.underlying8 Try.zeroValue8 rfl (fun w => by kernel_rfl)
instance sz9 : Sz Try.prog 9 1 false := ⟨Try.sizeOf9, Try.isAgg9⟩
instance by9 : By Try.prog 9 16 := ⟨_, Try.typeInfo9, rfl⟩
instance zv9 : ZV Try.prog 9 (.string ⟨#[]⟩) := ⟨Try.zeroValue9⟩
instance sz10 : Sz Try.prog 10 1 false := ⟨Try.sizeOf10, Try.isAgg10⟩
instance by10 : By Try.prog 10 16 := ⟨_, Try.typeInfo10, rfl⟩
instance zv10 : ZV Try.prog 10 (.string ⟨#[]⟩) := ⟨Try.zeroValue10⟩
instance sz11 : Sz Try.prog 11 1 false := ⟨Try.sizeOf11, Try.isAgg11⟩
instance by11 : By Try.prog 11 16 := ⟨_, Try.typeInfo11, rfl⟩
instance zv11 : ZV Try.prog 11 (.string ⟨#[]⟩) := ⟨Try.zeroValue11⟩
instance sz12 : Sz Try.prog 12 1 false := ⟨Try.sizeOf12, Try.isAgg12⟩
instance by12 : By Try.prog 12 8 := ⟨_, Try.typeInfo12, rfl⟩
instance zv12 : ZV Try.prog 12 (.int .u64 0) := ⟨Try.zeroValue12⟩
instance sz13 : Sz Try.prog 13 2 true := ⟨Try.sizeOf13, Try.isAgg13⟩
instance by13 : By Try.prog 13 24 := ⟨_, Try.typeInfo13, rfl⟩
instance zv13 : ZV Try.prog 13 (.agg #[.string ⟨#[]⟩, .int .u64 0]) := ⟨Try.zeroValue13⟩
theorem fa13_0 {K : Value → World → Prop} {w : World} (b o : Nat) : opS Try.prog (S.fa 13 (pt b o) 0) K w = K (pt b (o + 0)) w := opS_fa (T := 13) (hT := ⟨Try.underlying13⟩) (fd := ⟨_, 9, 0, _, _, _, _⟩) (n := 1) rfl (hs := sz9) (Nat.succ_ne_zero _) b o
attribute [push_cast] fa13_0
theorem fa13_1 {K : Value → World → Prop} {w : World} (b o : Nat) : opS Try.prog (S.fa 13 (pt b o) 1) K w = K (pt b (o + 1)) w := opS_fa (T := 13) (hT := ⟨Try.underlying13⟩) (fd := ⟨_, 12, 1, _, _, _, _⟩) (n := 1) rfl (hs := sz12) (Nat.succ_ne_zero _) b o
attribute [push_cast] fa13_1
instance bt13 : BT Try.prog 13 [[.string ⟨#[]⟩], [.int .u64 0]] := BT.ofStruct Try.underlying13 Try.zeroValue13 rfl (fun w => by kernel_rfl)
instance sz14 : Sz Try.prog 14 2 true := ⟨Try.sizeOf14, Try.isAgg14⟩
instance by14 : By Try.prog 14 24 := ⟨_, Try.typeInfo14, rfl⟩
instance zv14 : ZV Try.prog 14 (.agg #[.string ⟨#[]⟩, .int .u64 0]) := ⟨Try.zeroValue14⟩
theorem fa14_0 {K : Value → World → Prop} {w : World} (b o : Nat) : opS Try.prog (S.fa 14 (pt b o) 0) K w = K (pt b (o + 0)) w := opS_fa (T := 14) (hT := ⟨Try.underlying14⟩) (fd := ⟨_, 9, 0, _, _, _, _⟩) (n := 1) rfl (hs := sz9) (Nat.succ_ne_zero _) b o
attribute [push_cast] fa14_0
theorem fa14_1 {K : Value → World → Prop} {w : World} (b o : Nat) : opS Try.prog (S.fa 14 (pt b o) 1) K w = K (pt b (o + 1)) w := opS_fa (T := 14) (hT := ⟨Try.underlying14⟩) (fd := ⟨_, 12, 1, _, _, _, _⟩) (n := 1) rfl (hs := sz12) (Nat.succ_ne_zero _) b o
attribute [push_cast] fa14_1
instance bt14 : BT Try.prog 14 [[.string ⟨#[]⟩], [.int .u64 0]] := BT.ofStruct Try.underlying14 Try.zeroValue14 rfl (fun w => by kernel_rfl)
instance sz15 : Sz Try.prog 15 1 false := ⟨Try.sizeOf15, Try.isAgg15⟩
instance by15 : By Try.prog 15 8 := ⟨_, Try.typeInfo15, rfl⟩
instance zv15 : ZV Try.prog 15 (.pointer none) := ⟨Try.zeroValue15⟩
instance sz16 : Sz Try.prog 16 1 false := ⟨Try.sizeOf16, Try.isAgg16⟩
instance by16 : By Try.prog 16 8 := ⟨_, Try.typeInfo16, rfl⟩
instance zv16 : ZV Try.prog 16 (.pointer none) := ⟨Try.zeroValue16⟩
instance sz17 : Sz Try.prog 17 1 false := ⟨Try.sizeOf17, Try.isAgg17⟩
instance by17 : By Try.prog 17 8 := ⟨_, Try.typeInfo17, rfl⟩
instance zv17 : ZV Try.prog 17 (.pointer none) := ⟨Try.zeroValue17⟩
instance sz18 : Sz Try.prog 18 1 true := ⟨Try.sizeOf18, Try.isAgg18⟩
instance by18 : By Try.prog 18 8 := ⟨_, Try.typeInfo18, rfl⟩
instance zv18 : ZV Try.prog 18 (.agg #[.pointer none]) := ⟨Try.zeroValue18⟩
theorem fa18_0 {K : Value → World → Prop} {w : World} (b o : Nat) : opS Try.prog (S.fa 18 (pt b o) 0) K w = K (pt b (o + 0)) w := opS_fa (T := 18) (hT := ⟨Try.underlying18⟩) (fd := ⟨_, 17, 0, _, _, _, _⟩) (n := 1) rfl (hs := sz17) (Nat.succ_ne_zero _) b o
attribute [push_cast] fa18_0
instance bt18 : BT Try.prog 18 [[.pointer none]] := BT.ofStruct Try.underlying18 Try.zeroValue18 rfl (fun w => by kernel_rfl)
instance sz19 : Sz Try.prog 19 1 true := ⟨Try.sizeOf19, Try.isAgg19⟩
instance by19 : By Try.prog 19 8 := ⟨_, Try.typeInfo19, rfl⟩
instance zv19 : ZV Try.prog 19 (.agg #[.pointer none]) := ⟨Try.zeroValue19⟩
theorem fa19_0 {K : Value → World → Prop} {w : World} (b o : Nat) : opS Try.prog (S.fa 19 (pt b o) 0) K w = K (pt b (o + 0)) w := opS_fa (T := 19) (hT := ⟨Try.underlying19⟩) (fd := ⟨_, 17, 0, _, _, _, _⟩) (n := 1) rfl (hs := sz17) (Nat.succ_ne_zero _) b o
attribute [push_cast] fa19_0
instance bt19 : BT Try.prog 19 [[.pointer none]] := BT.ofStruct Try.underlying19 Try.zeroValue19 rfl (fun w => by kernel_rfl)
instance sz21 : Sz Try.prog 21 1 false := ⟨Try.sizeOf21, Try.isAgg21⟩
instance by21 : By Try.prog 21 4 := ⟨_, Try.typeInfo21, rfl⟩
instance zv21 : ZV Try.prog 21 (.int .i32 0) := ⟨Try.zeroValue21⟩
instance sz22 : Sz Try.prog 22 1 false := ⟨Try.sizeOf22, Try.isAgg22⟩
instance by22 : By Try.prog 22 24 := ⟨_, Try.typeInfo22, rfl⟩
instance zv22 : ZV Try.prog 22 (.slice none 0 0) := ⟨Try.zeroValue22⟩
instance sl22 : SlT Try.prog 22 36 := ⟨Try.underlying22⟩
instance sz23 : Sz Try.prog 23 1 false := ⟨Try.sizeOf23, Try.isAgg23⟩
instance by23 : By Try.prog 23 8 := ⟨_, Try.typeInfo23, rfl⟩
instance zv23 : ZV Try.prog 23 (.pointer none) := ⟨Try.zeroValue23⟩
instance sz24 : Sz Try.prog 24 1 false := ⟨Try.sizeOf24, Try.isAgg24⟩
instance by24 : By Try.prog 24 8 := ⟨_, Try.typeInfo24, rfl⟩
instance zv24 : ZV Try.prog 24 (.int .i64 0) := ⟨Try.zeroValue24⟩
instance sz27 : Sz Try.prog 27 1 false := ⟨Try.sizeOf27, Try.isAgg27⟩
instance by27 : By Try.prog 27 8 := ⟨_, Try.typeInfo27, rfl⟩
instance zv27 : ZV Try.prog 27 (.pointer none) := ⟨Try.zeroValue27⟩
instance sz30 : Sz Try.prog 30 1 false := ⟨Try.sizeOf30, Try.isAgg30⟩
instance by30 : By Try.prog 30 24 := ⟨_, Try.typeInfo30, rfl⟩
instance zv30 : ZV Try.prog 30 (.slice none 0 0) := ⟨Try.zeroValue30⟩
instance sl30 : SlT Try.prog 30 40 := ⟨Try.underlying30⟩
instance sz33 : Sz Try.prog 33 6 true := ⟨Try.sizeOf33, Try.isAgg33⟩
instance by33 : By Try.prog 33 6 := ⟨_, Try.typeInfo33, rfl⟩
instance zv33 : ZV Try.prog 33 (.agg #[.int .u8 0, .int .u8 0, .int .u8 0, .int .u8 0, .int .u8 0, .int .u8 0]) := ⟨Try.zeroValue33⟩
instance eq33 : EqT Try.prog 33 := ⟨by kernel_rfl, Try.eqGuardType33, .inr ⟨_, _, Try.underlying33⟩⟩
instance ar33 : ArT Try.prog 33 6 5 := ⟨Try.underlying33⟩
instance bt33 : BT Try.prog 33 (List.replicate 6 [.int .u8 0]) := BT.ofArray Try.underlying33 Try.zeroValue33 rfl sz5 rfl
instance sz34 : Sz Try.prog 34 6 true := ⟨Try.sizeOf34, Try.isAgg34⟩
instance by34 : By Try.prog 34 6 := ⟨_, Try.typeInfo34, rfl⟩
instance zv34 : ZV Try.prog 34 (.agg #[.int .u8 0, .int .u8 0, .int .u8 0, .int .u8 0, .int .u8 0, .int .u8 0]) := ⟨Try.zeroValue34⟩
instance eq34 : EqT Try.prog 34 := ⟨by kernel_rfl, Try.eqGuardType34, .inr ⟨_, _, Try.underlying34⟩⟩
instance ar34 : ArT Try.prog 34 6 5 := ⟨Try.underlying34⟩
instance bt34 : BT Try.prog 34 (List.replicate 6 [.int .u8 0]) := BT.ofArray Try.underlying34 Try.zeroValue34 rfl sz5 rfl
instance sz35 : Sz Try.prog 35 11 true := ⟨Try.sizeOf35, Try.isAgg35⟩
instance by35 : By Try.prog 35 48 := ⟨_, Try.typeInfo35, rfl⟩
instance zv35 : ZV Try.prog 35 (.agg #[.int .i64 0, .int .i64 0, .int .u8 0, .int .u8 0, .int .u8 0, .int .u8 0, .int .u8 0, .int .u8 0, .int .i64 0, .int .i64 0, .int .i64 0]) := ⟨Try.zeroValue35⟩
instance eq35 : EqT Try.prog 35 := ⟨by kernel_rfl, Try.eqGuardType35, .inl ⟨_, Try.underlying35⟩⟩
theorem fa35_0 {K : Value → World → Prop} {w : World} (b o : Nat) : opS Try.prog (S.fa 35 (pt b o) 0) K w = K (pt b (o + 0)) w := opS_fa (T := 35) (hT := ⟨Try.underlying35⟩) (fd := ⟨_, 3, 0, _, _, _, _⟩) (n := 1) rfl (hs := sz3) (Nat.succ_ne_zero _) b o
attribute [push_cast] fa35_0
theorem fa35_1 {K : Value → World → Prop} {w : World} (b o : Nat) : opS Try.prog (S.fa 35 (pt b o) 1) K w = K (pt b (o + 1)) w := opS_fa (T := 35) (hT := ⟨Try.underlying35⟩) (fd := ⟨_, 3, 1, _, _, _, _⟩) (n := 1) rfl (hs := sz3) (Nat.succ_ne_zero _) b o
attribute [push_cast] fa35_1
theorem fa35_2 {K : Value → World → Prop} {w : World} (b o : Nat) : opS Try.prog (S.fa 35 (pt b o) 2) K w = K (pt b (o + 2)) w := opS_fa (T := 35) (hT := ⟨Try.underlying35⟩) (fd := ⟨_, 34, 2, _, _, _, _⟩) (n := 6) rfl (hs := sz34) (Nat.succ_ne_zero _) b o
attribute [push_cast] fa35_2
theorem fa35_3 {K : Value → World → Prop} {w : World} (b o : Nat) : opS Try.prog (S.fa 35 (pt b o) 3) K w = K (pt b (o + 8)) w := opS_fa (T := 35) (hT := ⟨Try.underlying35⟩) (fd := ⟨_, 3, 8, _, _, _, _⟩) (n := 1) rfl (hs := sz3) (Nat.succ_ne_zero _) b o
attribute [push_cast] fa35_3
theorem fa35_4 {K : Value → World → Prop} {w : World} (b o : Nat) : opS Try.prog (S.fa 35 (pt b o) 4) K w = K (pt b (o + 9)) w := opS_fa (T := 35) (hT := ⟨Try.underlying35⟩) (fd := ⟨_, 3, 9, _, _, _, _⟩) (n := 1) rfl (hs := sz3) (Nat.succ_ne_zero _) b o
attribute [push_cast] fa35_4
theorem fa35_5 {K : Value → World → Prop} {w : World} (b o : Nat) : opS Try.prog (S.fa 35 (pt b o) 5) K w = K (pt b (o + 10)) w := opS_fa (T := 35) (hT := ⟨Try.underlying35⟩) (fd := ⟨_, 3, 10, _, _, _, _⟩) (n := 1) rfl (hs := sz3) (Nat.succ_ne_zero _) b o
attribute [push_cast] fa35_5
instance bt35 : BT Try.prog 35 [[.int .i64 0], [.int .i64 0], [.int .u8 0, .int .u8 0, .int .u8 0, .int .u8 0, .int .u8 0, .int .u8 0], [.int .i64 0], [.int .i64 0], [.int .i64 0]] := BT.ofStruct Try.underlying35 Try.zeroValue35 rfl (fun w => by kernel_rfl)
instance sz36 : Sz Try.prog 36 11 true := ⟨Try.sizeOf36, Try.isAgg36⟩
instance by36 : By Try.prog 36 48 := ⟨_, Try.typeInfo36, rfl⟩
instance zv36 : ZV Try.prog 36 (.agg #[.int .i64 0, .int .i64 0, .int .u8 0, .int .u8 0, .int .u8 0, .int .u8 0, .int .u8 0, .int .u8 0, .int .i64 0, .int .i64 0, .int .i64 0]) := ⟨Try.zeroValue36⟩
instance eq36 : EqT Try.prog 36 := ⟨by kernel_rfl, Try.eqGuardType36, .inl ⟨_, Try.underlying36⟩⟩
theorem fa36_0 {K : Value → World → Prop} {w : World} (b o : Nat) : opS Try.prog (S.fa 36 (pt b o) 0) K w = K (pt b (o + 0)) w := opS_fa (T := 36) (hT := ⟨Try.underlying36⟩) (fd := ⟨_, 3, 0, _, _, _, _⟩) (n := 1) rfl (hs := sz3) (Nat.succ_ne_zero _) b o
attribute [push_cast] fa36_0
theorem fa36_1 {K : Value → World → Prop} {w : World} (b o : Nat) : opS Try.prog (S.fa 36 (pt b o) 1) K w = K (pt b (o + 1)) w := opS_fa (T := 36) (hT := ⟨Try.underlying36⟩) (fd := ⟨_, 3, 1, _, _, _, _⟩) (n := 1) rfl (hs := sz3) (Nat.succ_ne_zero _) b o
attribute [push_cast] fa36_1
theorem fa36_2 {K : Value → World → Prop} {w : World} (b o : Nat) : opS Try.prog (S.fa 36 (pt b o) 2) K w = K (pt b (o + 2)) w := opS_fa (T := 36) (hT := ⟨Try.underlying36⟩) (fd := ⟨_, 34, 2, _, _, _, _⟩) (n := 6) rfl (hs := sz34) (Nat.succ_ne_zero _) b o
attribute [push_cast] fa36_2
theorem fa36_3 {K : Value → World → Prop} {w : World} (b o : Nat) : opS Try.prog (S.fa 36 (pt b o) 3) K w = K (pt b (o + 8)) w := opS_fa (T := 36) (hT := ⟨Try.underlying36⟩) (fd := ⟨_, 3, 8, _, _, _, _⟩) (n := 1) rfl (hs := sz3) (Nat.succ_ne_zero _) b o
attribute [push_cast] fa36_3
theorem fa36_4 {K : Value → World → Prop} {w : World} (b o : Nat) : opS Try.prog (S.fa 36 (pt b o) 4) K w = K (pt b (o + 9)) w := opS_fa (T := 36) (hT := ⟨Try.underlying36⟩) (fd := ⟨_, 3, 9, _, _, _, _⟩) (n := 1) rfl (hs := sz3) (Nat.succ_ne_zero _) b o
attribute [push_cast] fa36_4
theorem fa36_5 {K : Value → World → Prop} {w : World} (b o : Nat) : opS Try.prog (S.fa 36 (pt b o) 5) K w = K (pt b (o + 10)) w := opS_fa (T := 36) (hT := ⟨Try.underlying36⟩) (fd := ⟨_, 3, 10, _, _, _, _⟩) (n := 1) rfl (hs := sz3) (Nat.succ_ne_zero _) b o
attribute [push_cast] fa36_5
instance bt36 : BT Try.prog 36 [[.int .i64 0], [.int .i64 0], [.int .u8 0, .int .u8 0, .int .u8 0, .int .u8 0, .int .u8 0, .int .u8 0], [.int .i64 0], [.int .i64 0], [.int .i64 0]] := BT.ofStruct Try.underlying36 Try.zeroValue36 rfl (fun w => by kernel_rfl)
instance sz39 : Sz Try.prog 39 10 true := ⟨Try.sizeOf39, Try.isAgg39⟩
instance by39 : By Try.prog 39 40 := ⟨_, Try.typeInfo39, rfl⟩
instance zv39 : ZV Try.prog 39 (.agg #[.int .i64 0, .int .u8 0, .int .u8 0, .int .u8 0, .int .u8 0, .int .u8 0, .int .u8 0, .int .i64 0, .int .i64 0, .bool false]) := ⟨Try.zeroValue39⟩
instance eq39 : EqT Try.prog 39 := ⟨by kernel_rfl, Try.eqGuardType39, .inl ⟨_, Try.underlying39⟩⟩
theorem fa39_0 {K : Value → World → Prop} {w : World} (b o : Nat) : opS Try.prog (S.fa 39 (pt b o) 0) K w = K (pt b (o + 0)) w := opS_fa (T := 39) (hT := ⟨Try.underlying39⟩) (fd := ⟨_, 3, 0, _, _, _, _⟩) (n := 1) rfl (hs := sz3) (Nat.succ_ne_zero _) b o
attribute [push_cast] fa39_0
theorem fa39_1 {K : Value → World → Prop} {w : World} (b o : Nat) : opS Try.prog (S.fa 39 (pt b o) 1) K w = K (pt b (o + 1)) w := opS_fa (T := 39) (hT := ⟨Try.underlying39⟩) (fd := ⟨_, 34, 1, _, _, _, _⟩) (n := 6) rfl (hs := sz34) (Nat.succ_ne_zero _) b o
attribute [push_cast] fa39_1
theorem fa39_2 {K : Value → World → Prop} {w : World} (b o : Nat) : opS Try.prog (S.fa 39 (pt b o) 2) K w = K (pt b (o + 7)) w := opS_fa (T := 39) (hT := ⟨Try.underlying39⟩) (fd := ⟨_, 3, 7, _, _, _, _⟩) (n := 1) rfl (hs := sz3) (Nat.succ_ne_zero _) b o
attribute [push_cast] fa39_2
theorem fa39_3 {K : Value → World → Prop} {w : World} (b o : Nat) : opS Try.prog (S.fa 39 (pt b o) 3) K w = K (pt b (o + 8)) w := opS_fa (T := 39) (hT := ⟨Try.underlying39⟩) (fd := ⟨_, 3, 8, _, _, _, _⟩) (n := 1) rfl (hs := sz3) (Nat.succ_ne_zero _) b o
attribute [push_cast] fa39_3
theorem fa39_4 {K : Value → World → Prop} {w : World} (b o : Nat) : opS Try.prog (S.fa 39 (pt b o) 4) K w = K (pt b (o + 9)) w := opS_fa (T := 39) (hT := ⟨Try.underlying39⟩) (fd := ⟨_, 4, 9, _, _, _, _⟩) (n := 1) rfl (hs := sz4) (Nat.succ_ne_zero _) b o
attribute [push_cast] fa39_4
instance bt39 : BT Try.prog 39 [[.int .i64 0], [.int .u8 0, .int .u8 0, .int .u8 0, .int .u8 0, .int .u8 0, .int .u8 0], [.int .i64 0], [.int .i64 0], [.bool false]] := BT.ofStruct Try.underlying39 Try.zeroValue39 rfl (fun w => by kernel_rfl)
instance sz40 : Sz Try.prog 40 10 true := ⟨Try.sizeOf40, Try.isAgg40⟩
instance by40 : By Try.prog 40 40 := ⟨_, Try.typeInfo40, rfl⟩
instance zv40 : ZV Try.prog 40 (.agg #[.int .i64 0, .int .u8 0, .int .u8 0, .int .u8 0, .int .u8 0, .int .u8 0, .int .u8 0, .int .i64 0, .int .i64 0, .bool false]) := ⟨Try.zeroValue40⟩
instance eq40 : EqT Try.prog 40 := ⟨by kernel_rfl, Try.eqGuardType40, .inl ⟨_, Try.underlying40⟩⟩
theorem fa40_0 {K : Value → World → Prop} {w : World} (b o : Nat) : opS Try.prog (S.fa 40 (pt b o) 0) K w = K (pt b (o + 0)) w := opS_fa (T := 40) (hT := ⟨Try.underlying40⟩) (fd := ⟨_, 3, 0, _, _, _, _⟩) (n := 1) rfl (hs := sz3) (Nat.succ_ne_zero _) b o
attribute [push_cast] fa40_0
theorem fa40_1 {K : Value → World → Prop} {w : World} (b o : Nat) : opS Try.prog (S.fa 40 (pt b o) 1) K w = K (pt b (o + 1)) w := opS_fa (T := 40) (hT := ⟨Try.underlying40⟩) (fd := ⟨_, 34, 1, _, _, _, _⟩) (n := 6) rfl (hs := sz34) (Nat.succ_ne_zero _) b o
attribute [push_cast] fa40_1
theorem fa40_2 {K : Value → World → Prop} {w : World} (b o : Nat) : opS Try.prog (S.fa 40 (pt b o) 2) K w = K (pt b (o + 7)) w := opS_fa (T := 40) (hT := ⟨Try.underlying40⟩) (fd := ⟨_, 3, 7, _, _, _, _⟩) (n := 1) rfl (hs := sz3) (Nat.succ_ne_zero _) b o
attribute [push_cast] fa40_2
theorem fa40_3 {K : Value → World → Prop} {w : World} (b o : Nat) : opS Try.prog (S.fa 40 (pt b o) 3) K w = K (pt b (o + 8)) w := opS_fa (T := 40) (hT := ⟨Try.underlying40⟩) (fd := ⟨_, 3, 8, _, _, _, _⟩) (n := 1) rfl (hs := sz3) (Nat.succ_ne_zero _) b o
attribute [push_cast] fa40_3
theorem fa40_4 {K : Value → World → Prop} {w : World} (b o : Nat) : opS Try.prog (S.fa 40 (pt b o) 4) K w = K (pt b (o + 9)) w := opS_fa (T := 40) (hT := ⟨Try.underlying40⟩) (fd := ⟨_, 4, 9, _, _, _, _⟩) (n := 1) rfl (hs := sz4) (Nat.succ_ne_zero _) b o
attribute [push_cast] fa40_4
instance bt40 : BT Try.prog 40 [[.int .i64 0], [.int .u8 0, .int .u8 0, .int .u8 0, .int .u8 0, .int .u8 0, .int .u8 0], [.int .i64 0], [.int .i64 0], [.bool false]] := BT.ofStruct Try.underlying40 Try.zeroValue40 rfl (fun w => by kernel_rfl)
instance sz47 : Sz Try.prog 47 1 false := ⟨Try.sizeOf47, Try.isAgg47⟩
instance by47 : By Try.prog 47 24 := ⟨_, Try.typeInfo47, rfl⟩
instance zv47 : ZV Try.prog 47 (.slice none 0 0) := ⟨Try.zeroValue47⟩
instance sl47 : SlT Try.prog 47 86 := ⟨Try.underlying47⟩
instance sz53 : Sz Try.prog 53 2 true := ⟨Try.sizeOf53, Try.isAgg53⟩
instance by53 : By Try.prog 53 16 := ⟨_, Try.typeInfo53, rfl⟩
instance zv53 : ZV Try.prog 53 (.agg #[.int .i64 0, .int .i64 0]) := ⟨Try.zeroValue53⟩
instance eq53 : EqT Try.prog 53 := ⟨by kernel_rfl, Try.eqGuardType53, .inr ⟨_, _, Try.underlying53⟩⟩
instance ar53 : ArT Try.prog 53 2 3 := ⟨Try.underlying53⟩
instance bt53 : BT Try.prog 53 (List.replicate 2 [.int .i64 0]) := BT.ofArray Try.underlying53 Try.zeroValue53 rfl sz3 rfl
instance sz54 : Sz Try.prog 54 1 false := ⟨Try.sizeOf54, Try.isAgg54⟩
instance by54 : By Try.prog 54 8 := ⟨_, Try.typeInfo54, rfl⟩
instance zv54 : ZV Try.prog 54 (.pointer none) := ⟨Try.zeroValue54⟩
instance sz57 : Sz Try.prog 57 7 true := ⟨Try.sizeOf57, Try.isAgg57⟩
instance by57 : By Try.prog 57 16 := ⟨_, Try.typeInfo57, rfl⟩
instance zv57 : ZV Try.prog 57 (.agg #[.int .i64 0, .int .u8 0, .int .u8 0, .int .u8 0, .int .u8 0, .int .u8 0, .int .u8 0]) := ⟨Try.zeroValue57⟩
instance eq57 : EqT Try.prog 57 := ⟨by kernel_rfl, Try.eqGuardType57, .inl ⟨_, Try.underlying57⟩⟩
theorem fa57_0 {K : Value → World → Prop} {w : World} (b o : Nat) : opS Try.prog (S.fa 57 (pt b o) 0) K w = K (pt b (o + 0)) w := opS_fa (T := 57) (hT := ⟨Try.underlying57⟩) (fd := ⟨_, 3, 0, _, _, _, _⟩) (n := 1) rfl (hs := sz3) (Nat.succ_ne_zero _) b o
attribute [push_cast] fa57_0
theorem fa57_1 {K : Value → World → Prop} {w : World} (b o : Nat) : opS Try.prog (S.fa 57 (pt b o) 1) K w = K (pt b (o + 1)) w := opS_fa (T := 57) (hT := ⟨Try.underlying57⟩) (fd := ⟨_, 34, 1, _, _, _, _⟩) (n := 6) rfl (hs := sz34) (Nat.succ_ne_zero _) b o
attribute [push_cast] fa57_1
instance bt57 : BT Try.prog 57 [[.int .i64 0], [.int .u8 0, .int .u8 0, .int .u8 0, .int .u8 0, .int .u8 0, .int .u8 0]] := BT.ofStruct Try.underlying57 Try.zeroValue57 rfl (fun w => by kernel_rfl)
instance sz58 : Sz Try.prog 58 7 true := ⟨Try.sizeOf58, Try.isAgg58⟩
instance by58 : By Try.prog 58 16 := ⟨_, Try.typeInfo58, rfl⟩
instance zv58 : ZV Try.prog 58 (.agg #[.int .i64 0, .int .u8 0, .int .u8 0, .int .u8 0, .int .u8 0, .int .u8 0, .int .u8 0]) := ⟨Try.zeroValue58⟩
instance eq58 : EqT Try.prog 58 := ⟨by kernel_rfl, Try.eqGuardType58, .inl ⟨_, Try.underlying58⟩⟩
theorem fa58_0 {K : Value → World → Prop} {w : World} (b o : Nat) : opS Try.prog (S.fa 58 (pt b o) 0) K w = K (pt b (o + 0)) w := opS_fa (T := 58) (hT := ⟨Try.underlying58⟩) (fd := ⟨_, 3, 0, _, _, _, _⟩) (n := 1) rfl (hs := sz3) (Nat.succ_ne_zero _) b o
attribute [push_cast] fa58_0
theorem fa58_1 {K : Value → World → Prop} {w : World} (b o : Nat) : opS Try.prog (S.fa 58 (pt b o) 1) K w = K (pt b (o + 1)) w := opS_fa (T := 58) (hT := ⟨Try.underlying58⟩) (fd := ⟨_, 34, 1, _, _, _, _⟩) (n := 6) rfl (hs := sz34) (Nat.succ_ne_zero _) b o
attribute [push_cast] fa58_1
instance bt58 : BT Try.prog 58 [[.int .i64 0], [.int .u8 0, .int .u8 0, .int .u8 0, .int .u8 0, .int .u8 0, .int .u8 0]] := BT.ofStruct Try.underlying58 Try.zeroValue58 rfl (fun w => by kernel_rfl)
instance sz59 : Sz Try.prog 59 1 false := ⟨Try.sizeOf59, Try.isAgg59⟩
instance by59 : By Try.prog 59 24 := ⟨_, Try.typeInfo59, rfl⟩
instance zv59 : ZV Try.prog 59 (.slice none 0 0) := ⟨Try.zeroValue59⟩
instance sl59 : SlT Try.prog 59 3 := ⟨Try.underlying59⟩
instance sz61 : Sz Try.prog 61 1 false := ⟨Try.sizeOf61, Try.isAgg61⟩
instance by61 : By Try.prog 61 24 := ⟨_, Try.typeInfo61, rfl⟩
instance zv61 : ZV Try.prog 61 (.slice none 0 0) := ⟨Try.zeroValue61⟩
instance sl61 : SlT Try.prog 61 125 := ⟨Try.underlying61⟩
instance sz68 : Sz Try.prog 68 2 true := ⟨Try.sizeOf68, Try.isAgg68⟩
instance by68 : By Try.prog 68 32 := ⟨_, Try.typeInfo68, rfl⟩
instance zv68 : ZV Try.prog 68 (.agg #[.slice none 0 0, .int .i64 0]) := ⟨Try.zeroValue68⟩
theorem fa68_0 {K : Value → World → Prop} {w : World} (b o : Nat) : opS Try.prog (S.fa 68 (pt b o) 0) K w = K (pt b (o + 0)) w := opS_fa (T := 68) (hT := ⟨Try.underlying68⟩) (fd := ⟨_, 30, 0, _, _, _, _⟩) (n := 1) rfl (hs := sz30) (Nat.succ_ne_zero _) b o
attribute [push_cast] fa68_0
theorem fa68_1 {K : Value → World → Prop} {w : World} (b o : Nat) : opS Try.prog (S.fa 68 (pt b o) 1) K w = K (pt b (o + 1)) w := opS_fa (T := 68) (hT := ⟨Try.underlying68⟩) (fd := ⟨_, 3, 1, _, _, _, _⟩) (n := 1) rfl (hs := sz3) (Nat.succ_ne_zero _) b o
attribute [push_cast] fa68_1
instance bt68 : BT Try.prog 68 [[.slice none 0 0], [.int .i64 0]] := BT.ofStruct Try.underlying68 Try.zeroValue68 rfl (fun w => by kernel_rfl)
instance sz69 : Sz Try.prog 69 2 true := ⟨Try.sizeOf69, Try.isAgg69⟩
instance by69 : By Try.prog 69 32 := ⟨_, Try.typeInfo69, rfl⟩
instance zv69 : ZV Try.prog 69 (.agg #[.slice none 0 0, .int .i64 0]) := ⟨Try.zeroValue69⟩
theorem fa69_0 {K : Value → World → Prop} {w : World} (b o : Nat) : opS Try.prog (S.fa 69 (pt b o) 0) K w = K (pt b (o + 0)) w := opS_fa (T := 69) (hT := ⟨Try.underlying69⟩) (fd := ⟨_, 30, 0, _, _, _, _⟩) (n := 1) rfl (hs := sz30) (Nat.succ_ne_zero _) b o
attribute [push_cast] fa69_0
theorem fa69_1 {K : Value → World → Prop} {w : World} (b o : Nat) : opS Try.prog (S.fa 69 (pt b o) 1) K w = K (pt b (o + 1)) w := opS_fa (T := 69) (hT := ⟨Try.underlying69⟩) (fd := ⟨_, 3, 1, _, _, _, _⟩) (n := 1) rfl (hs := sz3) (Nat.succ_ne_zero _) b o
attribute [push_cast] fa69_1
instance bt69 : BT Try.prog 69 [[.slice none 0 0], [.int .i64 0]] := BT.ofStruct Try.underlying69 Try.zeroValue69 rfl (fun w => by kernel_rfl)
instance sz70 : Sz Try.prog 70 2 true := ⟨Try.sizeOf70, Try.isAgg70⟩
instance by70 : By Try.prog 70 32 := ⟨_, Try.typeInfo70, rfl⟩
instance zv70 : ZV Try.prog 70 (.agg #[.slice none 0 0, .int .i64 0]) := ⟨Try.zeroValue70⟩
theorem fa70_0 {K : Value → World → Prop} {w : World} (b o : Nat) : opS Try.prog (S.fa 70 (pt b o) 0) K w = K (pt b (o + 0)) w := opS_fa (T := 70) (hT := ⟨Try.underlying70⟩) (fd := ⟨_, 47, 0, _, _, _, _⟩) (n := 1) rfl (hs := sz47) (Nat.succ_ne_zero _) b o
attribute [push_cast] fa70_0
theorem fa70_1 {K : Value → World → Prop} {w : World} (b o : Nat) : opS Try.prog (S.fa 70 (pt b o) 1) K w = K (pt b (o + 1)) w := opS_fa (T := 70) (hT := ⟨Try.underlying70⟩) (fd := ⟨_, 3, 1, _, _, _, _⟩) (n := 1) rfl (hs := sz3) (Nat.succ_ne_zero _) b o
attribute [push_cast] fa70_1
instance bt70 : BT Try.prog 70 [[.slice none 0 0], [.int .i64 0]] := BT.ofStruct Try.underlying70 Try.zeroValue70 rfl (fun w => by kernel_rfl)
instance sz71 : Sz Try.prog 71 2 true := ⟨Try.sizeOf71, Try.isAgg71⟩
instance by71 : By Try.prog 71 32 := ⟨_, Try.typeInfo71, rfl⟩
instance zv71 : ZV Try.prog 71 (.agg #[.slice none 0 0, .int .i64 0]) := ⟨Try.zeroValue71⟩
theorem fa71_0 {K : Value → World → Prop} {w : World} (b o : Nat) : opS Try.prog (S.fa 71 (pt b o) 0) K w = K (pt b (o + 0)) w := opS_fa (T := 71) (hT := ⟨Try.underlying71⟩) (fd := ⟨_, 47, 0, _, _, _, _⟩) (n := 1) rfl (hs := sz47) (Nat.succ_ne_zero _) b o
attribute [push_cast] fa71_0
theorem fa71_1 {K : Value → World → Prop} {w : World} (b o : Nat) : opS Try.prog (S.fa 71 (pt b o) 1) K w = K (pt b (o + 1)) w := opS_fa (T := 71) (hT := ⟨Try.underlying71⟩) (fd := ⟨_, 3, 1, _, _, _, _⟩) (n := 1) rfl (hs := sz3) (Nat.succ_ne_zero _) b o
attribute [push_cast] fa71_1
instance bt71 : BT Try.prog 71 [[.slice none 0 0], [.int .i64 0]] := BT.ofStruct Try.underlying71 Try.zeroValue71 rfl (fun w => by kernel_rfl)
instance sz85 : Sz Try.prog 85 12 true := ⟨Try.sizeOf85, Try.isAgg85⟩
instance by85 : By Try.prog 85 56 := ⟨_, Try.typeInfo85, rfl⟩
instance zv85 : ZV Try.prog 85 (.agg #[.int .i64 0, .int .i64 0, .int .u8 0, .int .u8 0, .int .u8 0, .int .u8 0, .int .u8 0, .int .u8 0, .int .i64 0, .int .i64 0, .bool false, .bool false]) := ⟨Try.zeroValue85⟩
instance eq85 : EqT Try.prog 85 := ⟨by kernel_rfl, Try.eqGuardType85, .inl ⟨_, Try.underlying85⟩⟩
theorem fa85_0 {K : Value → World → Prop} {w : World} (b o : Nat) : opS Try.prog (S.fa 85 (pt b o) 0) K w = K (pt b (o + 0)) w := opS_fa (T := 85) (hT := ⟨Try.underlying85⟩) (fd := ⟨_, 3, 0, _, _, _, _⟩) (n := 1) rfl (hs := sz3) (Nat.succ_ne_zero _) b o
attribute [push_cast] fa85_0
theorem fa85_1 {K : Value → World → Prop} {w : World} (b o : Nat) : opS Try.prog (S.fa 85 (pt b o) 1) K w = K (pt b (o + 1)) w := opS_fa (T := 85) (hT := ⟨Try.underlying85⟩) (fd := ⟨_, 40, 1, _, _, _, _⟩) (n := 10) rfl (hs := sz40) (Nat.succ_ne_zero _) b o
attribute [push_cast] fa85_1
theorem fa85_2 {K : Value → World → Prop} {w : World} (b o : Nat) : opS Try.prog (S.fa 85 (pt b o) 2) K w = K (pt b (o + 11)) w := opS_fa (T := 85) (hT := ⟨Try.underlying85⟩) (fd := ⟨_, 4, 11, _, _, _, _⟩) (n := 1) rfl (hs := sz4) (Nat.succ_ne_zero _) b o
attribute [push_cast] fa85_2
instance bt85 : BT Try.prog 85 [[.int .i64 0], [.int .i64 0, .int .u8 0, .int .u8 0, .int .u8 0, .int .u8 0, .int .u8 0, .int .u8 0, .int .i64 0, .int .i64 0, .bool false], [.bool false]] := BT.ofStruct Try.underlying85 Try.zeroValue85 rfl (fun w => by kernel_rfl)
instance sz86 : Sz Try.prog 86 12 true := ⟨Try.sizeOf86, Try.isAgg86⟩
instance by86 : By Try.prog 86 56 := ⟨_, Try.typeInfo86, rfl⟩
instance zv86 : ZV Try.prog 86 (.agg #[.int .i64 0, .int .i64 0, .int .u8 0, .int .u8 0, .int .u8 0, .int .u8 0, .int .u8 0, .int .u8 0, .int .i64 0, .int .i64 0, .bool false, .bool false]) := ⟨Try.zeroValue86⟩
instance eq86 : EqT Try.prog 86 := ⟨by kernel_rfl, Try.eqGuardType86, .inl ⟨_, Try.underlying86⟩⟩
theorem fa86_0 {K : Value → World → Prop} {w : World} (b o : Nat) : opS Try.prog (S.fa 86 (pt b o) 0) K w = K (pt b (o + 0)) w := opS_fa (T := 86) (hT := ⟨Try.underlying86⟩) (fd := ⟨_, 3, 0, _, _, _, _⟩) (n := 1) rfl (hs := sz3) (Nat.succ_ne_zero _) b o
attribute [push_cast] fa86_0
theorem fa86_1 {K : Value → World → Prop} {w : World} (b o : Nat) : opS Try.prog (S.fa 86 (pt b o) 1) K w = K (pt b (o + 1)) w := opS_fa (T := 86) (hT := ⟨Try.underlying86⟩) (fd := ⟨_, 40, 1, _, _, _, _⟩) (n := 10) rfl (hs := sz40) (Nat.succ_ne_zero _) b o
attribute [push_cast] fa86_1
theorem fa86_2 {K : Value → World → Prop} {w : World} (b o : Nat) : opS Try.prog (S.fa 86 (pt b o) 2) K w = K (pt b (o + 11)) w := opS_fa (T := 86) (hT := ⟨Try.underlying86⟩) (fd := ⟨_, 4, 11, _, _, _, _⟩) (n := 1) rfl (hs := sz4) (Nat.succ_ne_zero _) b o
attribute [push_cast] fa86_2
instance bt86 : BT Try.prog 86 [[.int .i64 0], [.int .i64 0, .int .u8 0, .int .u8 0, .int .u8 0, .int .u8 0, .int .u8 0, .int .u8 0, .int .i64 0, .int .i64 0, .bool false], [.bool false]] := BT.ofStruct Try.underlying86 Try.zeroValue86 rfl (fun w => by kernel_rfl)
instance sz92 : Sz Try.prog 92 1 false := ⟨Try.sizeOf92, Try.isAgg92⟩
instance by92 : By Try.prog 92 8 := ⟨_, Try.typeInfo92, rfl⟩
instance zv92 : ZV Try.prog 92 (.map none) := ⟨Try.zeroValue92⟩
instance mp92 : MpT Try.prog 92 94 40 := ⟨Try.underlying92⟩
instance sz93 : Sz Try.prog 93 7 true := ⟨Try.sizeOf93, Try.isAgg93⟩
instance by93 : By Try.prog 93 16 := ⟨_, Try.typeInfo93, rfl⟩
instance zv93 : ZV Try.prog 93 (.agg #[.int .i64 0, .int .u8 0, .int .u8 0, .int .u8 0, .int .u8 0, .int .u8 0, .int .u8 0]) := ⟨Try.zeroValue93⟩
instance eq93 : EqT Try.prog 93 := ⟨by kernel_rfl, Try.eqGuardType93, .inl ⟨_, Try.underlying93⟩⟩
theorem fa93_0 {K : Value → World → Prop} {w : World} (b o : Nat) : opS Try.prog (S.fa 93 (pt b o) 0) K w = K (pt b (o + 0)) w := opS_fa (T := 93) (hT := ⟨Try.underlying93⟩) (fd := ⟨_, 3, 0, _, _, _, _⟩) (n := 1) rfl (hs := sz3) (Nat.succ_ne_zero _) b o
attribute [push_cast] fa93_0
theorem fa93_1 {K : Value → World → Prop} {w : World} (b o : Nat) : opS Try.prog (S.fa 93 (pt b o) 1) K w = K (pt b (o + 1)) w := opS_fa (T := 93) (hT := ⟨Try.underlying93⟩) (fd := ⟨_, 34, 1, _, _, _, _⟩) (n := 6) rfl (hs := sz34) (Nat.succ_ne_zero _) b o
attribute [push_cast] fa93_1
instance bt93 : BT Try.prog 93 [[.int .i64 0], [.int .u8 0, .int .u8 0, .int .u8 0, .int .u8 0, .int .u8 0, .int .u8 0]] := BT.ofStruct Try.underlying93 Try.zeroValue93 rfl (fun w => by kernel_rfl)
instance sz94 : Sz Try.prog 94 7 true := ⟨Try.sizeOf94, Try.isAgg94⟩
instance by94 : By Try.prog 94 16 := ⟨_, Try.typeInfo94, rfl⟩
instance zv94 : ZV Try.prog 94 (.agg #[.int .i64 0, .int .u8 0, .int .u8 0, .int .u8 0, .int .u8 0, .int .u8 0, .int .u8 0]) := ⟨Try.zeroValue94⟩
instance eq94 : EqT Try.prog 94 := ⟨by kernel_rfl, Try.eqGuardType94, .inl ⟨_, Try.underlying94⟩⟩
theorem fa94_0 {K : Value → World → Prop} {w : World} (b o : Nat) : opS Try.prog (S.fa 94 (pt b o) 0) K w = K (pt b (o + 0)) w := opS_fa (T := 94) (hT := ⟨Try.underlying94⟩) (fd := ⟨_, 3, 0, _, _, _, _⟩) (n := 1) rfl (hs := sz3) (Nat.succ_ne_zero _) b o
attribute [push_cast] fa94_0
theorem fa94_1 {K : Value → World → Prop} {w : World} (b o : Nat) : opS Try.prog (S.fa 94 (pt b o) 1) K w = K (pt b (o + 1)) w := opS_fa (T := 94) (hT := ⟨Try.underlying94⟩) (fd := ⟨_, 34, 1, _, _, _, _⟩) (n := 6) rfl (hs := sz34) (Nat.succ_ne_zero _) b o
attribute [push_cast] fa94_1
instance bt94 : BT Try.prog 94 [[.int .i64 0], [.int .u8 0, .int .u8 0, .int .u8 0, .int .u8 0, .int .u8 0, .int .u8 0]] := BT.ofStruct Try.underlying94 Try.zeroValue94 rfl (fun w => by kernel_rfl)
instance sz100 : Sz Try.prog 100 1 false := ⟨Try.sizeOf100, Try.isAgg100⟩
instance by100 : By Try.prog 100 24 := ⟨_, Try.typeInfo100, rfl⟩
instance zv100 : ZV Try.prog 100 (.slice none 0 0) := ⟨Try.zeroValue100⟩
instance sl100 : SlT Try.prog 100 108 := ⟨Try.underlying100⟩
instance sz101 : Sz Try.prog 101 2 true := ⟨Try.sizeOf101, Try.isAgg101⟩
instance by101 : By Try.prog 101 32 := ⟨_, Try.typeInfo101, rfl⟩
instance zv101 : ZV Try.prog 101 (.agg #[.slice none 0 0, .int .i64 0]) := ⟨Try.zeroValue101⟩
theorem fa101_0 {K : Value → World → Prop} {w : World} (b o : Nat) : opS Try.prog (S.fa 101 (pt b o) 0) K w = K (pt b (o + 0)) w := opS_fa (T := 101) (hT := ⟨Try.underlying101⟩) (fd := ⟨_, 100, 0, _, _, _, _⟩) (n := 1) rfl (hs := sz100) (Nat.succ_ne_zero _) b o
attribute [push_cast] fa101_0
theorem fa101_1 {K : Value → World → Prop} {w : World} (b o : Nat) : opS Try.prog (S.fa 101 (pt b o) 1) K w = K (pt b (o + 1)) w := opS_fa (T := 101) (hT := ⟨Try.underlying101⟩) (fd := ⟨_, 3, 1, _, _, _, _⟩) (n := 1) rfl (hs := sz3) (Nat.succ_ne_zero _) b o
attribute [push_cast] fa101_1
instance bt101 : BT Try.prog 101 [[.slice none 0 0], [.int .i64 0]] := BT.ofStruct Try.underlying101 Try.zeroValue101 rfl (fun w => by kernel_rfl)
instance sz102 : Sz Try.prog 102 2 true := ⟨Try.sizeOf102, Try.isAgg102⟩
instance by102 : By Try.prog 102 32 := ⟨_, Try.typeInfo102, rfl⟩
instance zv102 : ZV Try.prog 102 (.agg #[.slice none 0 0, .int .i64 0]) := ⟨Try.zeroValue102⟩
theorem fa102_0 {K : Value → World → Prop} {w : World} (b o : Nat) : opS Try.prog (S.fa 102 (pt b o) 0) K w = K (pt b (o + 0)) w := opS_fa (T := 102) (hT := ⟨Try.underlying102⟩) (fd := ⟨_, 100, 0, _, _, _, _⟩) (n := 1) rfl (hs := sz100) (Nat.succ_ne_zero _) b o
attribute [push_cast] fa102_0
theorem fa102_1 {K : Value → World → Prop} {w : World} (b o : Nat) : opS Try.prog (S.fa 102 (pt b o) 1) K w = K (pt b (o + 1)) w := opS_fa (T := 102) (hT := ⟨Try.underlying102⟩) (fd := ⟨_, 3, 1, _, _, _, _⟩) (n := 1) rfl (hs := sz3) (Nat.succ_ne_zero _) b o
attribute [push_cast] fa102_1
instance bt102 : BT Try.prog 102 [[.slice none 0 0], [.int .i64 0]] := BT.ofStruct Try.underlying102 Try.zeroValue102 rfl (fun w => by kernel_rfl)
instance sz103 : Sz Try.prog 103 1 false := ⟨Try.sizeOf103, Try.isAgg103⟩
instance by103 : By Try.prog 103 8 := ⟨_, Try.typeInfo103, rfl⟩
instance zv103 : ZV Try.prog 103 (.pointer none) := ⟨Try.zeroValue103⟩
instance sz106 : Sz Try.prog 106 11 true := ⟨Try.sizeOf106, Try.isAgg106⟩
instance by106 : By Try.prog 106 48 := ⟨_, Try.typeInfo106, rfl⟩
instance zv106 : ZV Try.prog 106 (.agg #[.int .i64 0, .int .u8 0, .int .u8 0, .int .u8 0, .int .u8 0, .int .u8 0, .int .u8 0, .int .i64 0, .int .i64 0, .int .i64 0, .int .i64 0]) := ⟨Try.zeroValue106⟩
instance eq106 : EqT Try.prog 106 := ⟨by kernel_rfl, Try.eqGuardType106, .inl ⟨_, Try.underlying106⟩⟩
theorem fa106_0 {K : Value → World → Prop} {w : World} (b o : Nat) : opS Try.prog (S.fa 106 (pt b o) 0) K w = K (pt b (o + 0)) w := opS_fa (T := 106) (hT := ⟨Try.underlying106⟩) (fd := ⟨_, 3, 0, _, _, _, _⟩) (n := 1) rfl (hs := sz3) (Nat.succ_ne_zero _) b o
attribute [push_cast] fa106_0
theorem fa106_1 {K : Value → World → Prop} {w : World} (b o : Nat) : opS Try.prog (S.fa 106 (pt b o) 1) K w = K (pt b (o + 1)) w := opS_fa (T := 106) (hT := ⟨Try.underlying106⟩) (fd := ⟨_, 34, 1, _, _, _, _⟩) (n := 6) rfl (hs := sz34) (Nat.succ_ne_zero _) b o
attribute [push_cast] fa106_1
theorem fa106_2 {K : Value → World → Prop} {w : World} (b o : Nat) : opS Try.prog (S.fa 106 (pt b o) 2) K w = K (pt b (o + 7)) w := opS_fa (T := 106) (hT := ⟨Try.underlying106⟩) (fd := ⟨_, 3, 7, _, _, _, _⟩) (n := 1) rfl (hs := sz3) (Nat.succ_ne_zero _) b o
attribute [push_cast] fa106_2
theorem fa106_3 {K : Value → World → Prop} {w : World} (b o : Nat) : opS Try.prog (S.fa 106 (pt b o) 3) K w = K (pt b (o + 8)) w := opS_fa (T := 106) (hT := ⟨Try.underlying106⟩) (fd := ⟨_, 3, 8, _, _, _, _⟩) (n := 1) rfl (hs := sz3) (Nat.succ_ne_zero _) b o
attribute [push_cast] fa106_3
theorem fa106_4 {K : Value → World → Prop} {w : World} (b o : Nat) : opS Try.prog (S.fa 106 (pt b o) 4) K w = K (pt b (o + 9)) w := opS_fa (T := 106) (hT := ⟨Try.underlying106⟩) (fd := ⟨_, 3, 9, _, _, _, _⟩) (n := 1) rfl (hs := sz3) (Nat.succ_ne_zero _) b o
attribute [push_cast] fa106_4
theorem fa106_5 {K : Value → World → Prop} {w : World} (b o : Nat) : opS Try.prog (S.fa 106 (pt b o) 5) K w = K (pt b (o + 10)) w := opS_fa (T := 106) (hT := ⟨Try.underlying106⟩) (fd := ⟨_, 3, 10, _, _, _, _⟩) (n := 1) rfl (hs := sz3) (Nat.succ_ne_zero _) b o
attribute [push_cast] fa106_5
instance bt106 : BT Try.prog 106 [[.int .i64 0], [.int .u8 0, .int .u8 0, .int .u8 0, .int .u8 0, .int .u8 0, .int .u8 0], [.int .i64 0], [.int .i64 0], [.int .i64 0], [.int .i64 0]] := BT.ofStruct Try.underlying106 Try.zeroValue106 rfl (fun w => by kernel_rfl)
instance sz107 : Sz Try.prog 107 11 true := ⟨Try.sizeOf107, Try.isAgg107⟩
instance by107 : By Try.prog 107 48 := ⟨_, Try.typeInfo107, rfl⟩
instance zv107 : ZV Try.prog 107 (.agg #[.int .i64 0, .int .u8 0, .int .u8 0, .int .u8 0, .int .u8 0, .int .u8 0, .int .u8 0, .int .i64 0, .int .i64 0, .int .i64 0, .int .i64 0]) := ⟨Try.zeroValue107⟩
instance eq107 : EqT Try.prog 107 := ⟨by kernel_rfl, Try.eqGuardType107, .inl ⟨_, Try.underlying107⟩⟩
theorem fa107_0 {K : Value → World → Prop} {w : World} (b o : Nat) : opS Try.prog (S.fa 107 (pt b o) 0) K w = K (pt b (o + 0)) w := opS_fa (T := 107) (hT := ⟨Try.underlying107⟩) (fd := ⟨_, 3, 0, _, _, _, _⟩) (n := 1) rfl (hs := sz3) (Nat.succ_ne_zero _) b o
attribute [push_cast] fa107_0
theorem fa107_1 {K : Value → World → Prop} {w : World} (b o : Nat) : opS Try.prog (S.fa 107 (pt b o) 1) K w = K (pt b (o + 1)) w := opS_fa (T := 107) (hT := ⟨Try.underlying107⟩) (fd := ⟨_, 34, 1, _, _, _, _⟩) (n := 6) rfl (hs := sz34) (Nat.succ_ne_zero _) b o
attribute [push_cast] fa107_1
theorem fa107_2 {K : Value → World → Prop} {w : World} (b o : Nat) : opS Try.prog (S.fa 107 (pt b o) 2) K w = K (pt b (o + 7)) w := opS_fa (T := 107) (hT := ⟨Try.underlying107⟩) (fd := ⟨_, 3, 7, _, _, _, _⟩) (n := 1) rfl (hs := sz3) (Nat.succ_ne_zero _) b o
attribute [push_cast] fa107_2
theorem fa107_3 {K : Value → World → Prop} {w : World} (b o : Nat) : opS Try.prog (S.fa 107 (pt b o) 3) K w = K (pt b (o + 8)) w := opS_fa (T := 107) (hT := ⟨Try.underlying107⟩) (fd := ⟨_, 3, 8, _, _, _, _⟩) (n := 1) rfl (hs := sz3) (Nat.succ_ne_zero _) b o
attribute [push_cast] fa107_3
theorem fa107_4 {K : Value → World → Prop} {w : World} (b o : Nat) : opS Try.prog (S.fa 107 (pt b o) 4) K w = K (pt b (o + 9)) w := opS_fa (T := 107) (hT := ⟨Try.underlying107⟩) (fd := ⟨_, 3, 9, _, _, _, _⟩) (n := 1) rfl (hs := sz3) (Nat.succ_ne_zero _) b o
attribute [push_cast] fa107_4
theorem fa107_5 {K : Value → World → Prop} {w : World} (b o : Nat) : opS Try.prog (S.fa 107 (pt b o) 5) K w = K (pt b (o + 10)) w := opS_fa (T := 107) (hT := ⟨Try.underlying107⟩) (fd := ⟨_, 3, 10, _, _, _, _⟩) (n := 1) rfl (hs := sz3) (Nat.succ_ne_zero _) b o
attribute [push_cast] fa107_5
instance bt107 : BT Try.prog 107 [[.int .i64 0], [.int .u8 0, .int .u8 0, .int .u8 0, .int .u8 0, .int .u8 0, .int .u8 0], [.int .i64 0], [.int .i64 0], [.int .i64 0], [.int .i64 0]] := BT.ofStruct Try.underlying107 Try.zeroValue107 rfl (fun w => by kernel_rfl)
instance sz108 : Sz Try.prog 108 1 false := ⟨Try.sizeOf108, Try.isAgg108⟩
instance by108 : By Try.prog 108 8 := ⟨_, Try.typeInfo108, rfl⟩
instance zv108 : ZV Try.prog 108 (.pointer none) := ⟨Try.zeroValue108⟩
instance sz109 : Sz Try.prog 109 1 false := ⟨Try.sizeOf109, Try.isAgg109⟩
instance by109 : By Try.prog 109 8 := ⟨_, Try.typeInfo109, rfl⟩
instance zv109 : ZV Try.prog 109 (.pointer none) := ⟨Try.zeroValue109⟩
instance sz111 : Sz Try.prog 111 6 true := ⟨Try.sizeOf111, Try.isAgg111⟩
instance by111 : By Try.prog 111 40 := ⟨_, Try.typeInfo111, rfl⟩
instance zv111 : ZV Try.prog 111 (.agg #[.pointer none, .pointer none, .int .i64 0, .bool false, .bool false, .int .i64 0]) := ⟨Try.zeroValue111⟩
theorem fa111_0 {K : Value → World → Prop} {w : World} (b o : Nat) : opS Try.prog (S.fa 111 (pt b o) 0) K w = K (pt b (o + 0)) w := opS_fa (T := 111) (hT := ⟨Try.underlying111⟩) (fd := ⟨_, 103, 0, _, _, _, _⟩) (n := 1) rfl (hs := sz103) (Nat.succ_ne_zero _) b o
attribute [push_cast] fa111_0
theorem fa111_1 {K : Value → World → Prop} {w : World} (b o : Nat) : opS Try.prog (S.fa 111 (pt b o) 1) K w = K (pt b (o + 1)) w := opS_fa (T := 111) (hT := ⟨Try.underlying111⟩) (fd := ⟨_, 109, 1, _, _, _, _⟩) (n := 1) rfl (hs := sz109) (Nat.succ_ne_zero _) b o
attribute [push_cast] fa111_1
theorem fa111_2 {K : Value → World → Prop} {w : World} (b o : Nat) : opS Try.prog (S.fa 111 (pt b o) 2) K w = K (pt b (o + 2)) w := opS_fa (T := 111) (hT := ⟨Try.underlying111⟩) (fd := ⟨_, 3, 2, _, _, _, _⟩) (n := 1) rfl (hs := sz3) (Nat.succ_ne_zero _) b o
attribute [push_cast] fa111_2
theorem fa111_3 {K : Value → World → Prop} {w : World} (b o : Nat) : opS Try.prog (S.fa 111 (pt b o) 3) K w = K (pt b (o + 3)) w := opS_fa (T := 111) (hT := ⟨Try.underlying111⟩) (fd := ⟨_, 4, 3, _, _, _, _⟩) (n := 1) rfl (hs := sz4) (Nat.succ_ne_zero _) b o
attribute [push_cast] fa111_3
theorem fa111_4 {K : Value → World → Prop} {w : World} (b o : Nat) : opS Try.prog (S.fa 111 (pt b o) 4) K w = K (pt b (o + 4)) w := opS_fa (T := 111) (hT := ⟨Try.underlying111⟩) (fd := ⟨_, 4, 4, _, _, _, _⟩) (n := 1) rfl (hs := sz4) (Nat.succ_ne_zero _) b o
attribute [push_cast] fa111_4
theorem fa111_5 {K : Value → World → Prop} {w : World} (b o : Nat) : opS Try.prog (S.fa 111 (pt b o) 5) K w = K (pt b (o + 5)) w := opS_fa (T := 111) (hT := ⟨Try.underlying111⟩) (fd := ⟨_, 3, 5, _, _, _, _⟩) (n := 1) rfl (hs := sz3) (Nat.succ_ne_zero _) b o
attribute [push_cast] fa111_5
instance bt111 : BT Try.prog 111 [[.pointer none], [.pointer none], [.int .i64 0], [.bool false], [.bool false], [.int .i64 0]] := BT.ofStruct Try.underlying111 Try.zeroValue111 rfl (fun w => by kernel_rfl)
instance sz112 : Sz Try.prog 112 6 true := ⟨Try.sizeOf112, Try.isAgg112⟩
instance by112 : By Try.prog 112 40 := ⟨_, Try.typeInfo112, rfl⟩
instance zv112 : ZV Try.prog 112 (.agg #[.pointer none, .pointer none, .int .i64 0, .bool false, .bool false, .int .i64 0]) := ⟨Try.zeroValue112⟩
theorem fa112_0 {K : Value → World → Prop} {w : World} (b o : Nat) : opS Try.prog (S.fa 112 (pt b o) 0) K w = K (pt b (o + 0)) w := opS_fa (T := 112) (hT := ⟨Try.underlying112⟩) (fd := ⟨_, 103, 0, _, _, _, _⟩) (n := 1) rfl (hs := sz103) (Nat.succ_ne_zero _) b o
attribute [push_cast] fa112_0
theorem fa112_1 {K : Value → World → Prop} {w : World} (b o : Nat) : opS Try.prog (S.fa 112 (pt b o) 1) K w = K (pt b (o + 1)) w := opS_fa (T := 112) (hT := ⟨Try.underlying112⟩) (fd := ⟨_, 109, 1, _, _, _, _⟩) (n := 1) rfl (hs := sz109) (Nat.succ_ne_zero _) b o
attribute [push_cast] fa112_1
theorem fa112_2 {K : Value → World → Prop} {w : World} (b o : Nat) : opS Try.prog (S.fa 112 (pt b o) 2) K w = K (pt b (o + 2)) w := opS_fa (T := 112) (hT := ⟨Try.underlying112⟩) (fd := ⟨_, 3, 2, _, _, _, _⟩) (n := 1) rfl (hs := sz3) (Nat.succ_ne_zero _) b o
attribute [push_cast] fa112_2
theorem fa112_3 {K : Value → World → Prop} {w : World} (b o : Nat) : opS Try.prog (S.fa 112 (pt b o) 3) K w = K (pt b (o + 3)) w := opS_fa (T := 112) (hT := ⟨Try.underlying112⟩) (fd := ⟨_, 4, 3, _, _, _, _⟩) (n := 1) rfl (hs := sz4) (Nat.succ_ne_zero _) b o
attribute [push_cast] fa112_3
theorem fa112_4 {K : Value → World → Prop} {w : World} (b o : Nat) : opS Try.prog (S.fa 112 (pt b o) 4) K w = K (pt b (o + 4)) w := opS_fa (T := 112) (hT := ⟨Try.underlying112⟩) (fd := ⟨_, 4, 4, _, _, _, _⟩) (n := 1) rfl (hs := sz4) (Nat.succ_ne_zero _) b o
attribute [push_cast] fa112_4
theorem fa112_5 {K : Value → World → Prop} {w : World} (b o : Nat) : opS Try.prog (S.fa 112 (pt b o) 5) K w = K (pt b (o + 5)) w := opS_fa (T := 112) (hT := ⟨Try.underlying112⟩) (fd := ⟨_, 3, 5, _, _, _, _⟩) (n := 1) rfl (hs := sz3) (Nat.succ_ne_zero _) b o
attribute [push_cast] fa112_5
instance bt112 : BT Try.prog 112 [[.pointer none], [.pointer none], [.int .i64 0], [.bool false], [.bool false], [.int .i64 0]] := BT.ofStruct Try.underlying112 Try.zeroValue112 rfl (fun w => by kernel_rfl)
instance sz122 : Sz Try.prog 122 23 true := ⟨Try.sizeOf122, Try.isAgg122⟩
instance by122 : By Try.prog 122 104 := ⟨_, Try.typeInfo122, rfl⟩
instance zv122 : ZV Try.prog 122 (.agg #[.int .i64 0, .int .u8 0, .int .u8 0, .int .u8 0, .int .u8 0, .int .u8 0, .int .u8 0, .int .i64 0, .int .i64 0, .int .i64 0, .int .i64 0, .int .i64 0, .int .u8 0, .int .u8 0, .int .u8 0, .int .u8 0, .int .u8 0, .int .u8 0, .int .i64 0, .int .i64 0, .int .i64 0, .int .i64 0, .int .i64 0]) := ⟨Try.zeroValue122⟩
instance eq122 : EqT Try.prog 122 := ⟨by kernel_rfl, Try.eqGuardType122, .inl ⟨_, Try.underlying122⟩⟩
theorem fa122_0 {K : Value → World → Prop} {w : World} (b o : Nat) : opS Try.prog (S.fa 122 (pt b o) 0) K w = K (pt b (o + 0)) w := opS_fa (T := 122) (hT := ⟨Try.underlying122⟩) (fd := ⟨_, 107, 0, _, _, _, _⟩) (n := 11) rfl (hs := sz107) (Nat.succ_ne_zero _) b o
attribute [push_cast] fa122_0
theorem fa122_1 {K : Value → World → Prop} {w : World} (b o : Nat) : opS Try.prog (S.fa 122 (pt b o) 1) K w = K (pt b (o + 11)) w := opS_fa (T := 122) (hT := ⟨Try.underlying122⟩) (fd := ⟨_, 107, 11, _, _, _, _⟩) (n := 11) rfl (hs := sz107) (Nat.succ_ne_zero _) b o
attribute [push_cast] fa122_1
theorem fa122_2 {K : Value → World → Prop} {w : World} (b o : Nat) : opS Try.prog (S.fa 122 (pt b o) 2) K w = K (pt b (o + 22)) w := opS_fa (T := 122) (hT := ⟨Try.underlying122⟩) (fd := ⟨_, 3, 22, _, _, _, _⟩) (n := 1) rfl (hs := sz3) (Nat.succ_ne_zero _) b o
attribute [push_cast] fa122_2
instance bt122 : BT Try.prog 122 [[.int .i64 0, .int .u8 0, .int .u8 0, .int .u8 0, .int .u8 0, .int .u8 0, .int .u8 0, .int .i64 0, .int .i64 0, .int .i64 0, .int .i64 0], [.int .i64 0, .int .u8 0, .int .u8 0, .int .u8 0, .int .u8 0, .int .u8 0, .int .u8 0, .int .i64 0, .int .i64 0, .int .i64 0, .int .i64 0], [.int .i64 0]] := BT.ofStruct Try.underlying122 Try.zeroValue122 rfl (fun w => by kernel_rfl)
instance sz123 : Sz Try.prog 123 23 true := ⟨Try.sizeOf123, Try.isAgg123⟩
instance by123 : By Try.prog 123 104 := ⟨_, Try.typeInfo123, rfl⟩
instance zv123 : ZV Try.prog 123 (.agg #[.int .i64 0, .int .u8 0, .int .u8 0, .int .u8 0, .int .u8 0, .int .u8 0, .int .u8 0, .int .i64 0, .int .i64 0, .int .i64 0, .int .i64 0, .int .i64 0, .int .u8 0, .int .u8 0, .int .u8 0, .int .u8 0, .int .u8 0, .int .u8 0, .int .i64 0, .int .i64 0, .int .i64 0, .int .i64 0, .int .i64 0]) := ⟨Try.zeroValue123⟩
instance eq123 : EqT Try.prog 123 := ⟨by kernel_rfl, Try.eqGuardType123, .inl ⟨_, Try.underlying123⟩⟩
theorem fa123_0 {K : Value → World → Prop} {w : World} (b o : Nat) : opS Try.prog (S.fa 123 (pt b o) 0) K w = K (pt b (o + 0)) w := opS_fa (T := 123) (hT := ⟨Try.underlying123⟩) (fd := ⟨_, 107, 0, _, _, _, _⟩) (n := 11) rfl (hs := sz107) (Nat.succ_ne_zero _) b o
attribute [push_cast] fa123_0
theorem fa123_1 {K : Value → World → Prop} {w : World} (b o : Nat) : opS Try.prog (S.fa 123 (pt b o) 1) K w = K (pt b (o + 11)) w := opS_fa (T := 123) (hT := ⟨Try.underlying123⟩) (fd := ⟨_, 107, 11, _, _, _, _⟩) (n := 11) rfl (hs := sz107) (Nat.succ_ne_zero _) b o
attribute [push_cast] fa123_1
theorem fa123_2 {K : Value → World → Prop} {w : World} (b o : Nat) : opS Try.prog (S.fa 123 (pt b o) 2) K w = K (pt b (o + 22)) w := opS_fa (T := 123) (hT := ⟨Try.underlying123⟩) (fd := ⟨_, 3, 22, _, _, _, _⟩) (n := 1) rfl (hs := sz3) (Nat.succ_ne_zero _) b o
attribute [push_cast] fa123_2
instance bt123 : BT Try.prog 123 [[.int .i64 0, .int .u8 0, .int .u8 0, .int .u8 0, .int .u8 0, .int .u8 0, .int .u8 0, .int .i64 0, .int .i64 0, .int .i64 0, .int .i64 0], [.int .i64 0, .int .u8 0, .int .u8 0, .int .u8 0, .int .u8 0, .int .u8 0, .int .u8 0, .int .i64 0, .int .i64 0, .int .i64 0, .int .i64 0], [.int .i64 0]] := BT.ofStruct Try.underlying123 Try.zeroValue123 rfl (fun w => by kernel_rfl)
instance sz124 : Sz Try.prog 124 24 true := ⟨Try.sizeOf124, Try.isAgg124⟩
instance by124 : By Try.prog 124 112 := ⟨_, Try.typeInfo124, rfl⟩
instance zv124 : ZV Try.prog 124 (.agg #[.int .i64 0, .int .i64 0, .int .u8 0, .int .u8 0, .int .u8 0, .int .u8 0, .int .u8 0, .int .u8 0, .int .i64 0, .int .i64 0, .int .i64 0, .int .i64 0, .int .i64 0, .int .u8 0, .int .u8 0, .int .u8 0, .int .u8 0, .int .u8 0, .int .u8 0, .int .i64 0, .int .i64 0, .int .i64 0, .int .i64 0, .int .i64 0]) := ⟨Try.zeroValue124⟩
instance eq124 : EqT Try.prog 124 := ⟨by kernel_rfl, Try.eqGuardType124, .inl ⟨_, Try.underlying124⟩⟩
theorem fa124_0 {K : Value → World → Prop} {w : World} (b o : Nat) : opS Try.prog (S.fa 124 (pt b o) 0) K w = K (pt b (o + 0)) w := opS_fa (T := 124) (hT := ⟨Try.underlying124⟩) (fd := ⟨_, 3, 0, _, _, _, _⟩) (n := 1) rfl (hs := sz3) (Nat.succ_ne_zero _) b o
attribute [push_cast] fa124_0
theorem fa124_1 {K : Value → World → Prop} {w : World} (b o : Nat) : opS Try.prog (S.fa 124 (pt b o) 1) K w = K (pt b (o + 1)) w := opS_fa (T := 124) (hT := ⟨Try.underlying124⟩) (fd := ⟨_, 123, 1, _, _, _, _⟩) (n := 23) rfl (hs := sz123) (Nat.succ_ne_zero _) b o
attribute [push_cast] fa124_1
instance bt124 : BT Try.prog 124 [[.int .i64 0], [.int .i64 0, .int .u8 0, .int .u8 0, .int .u8 0, .int .u8 0, .int .u8 0, .int .u8 0, .int .i64 0, .int .i64 0, .int .i64 0, .int .i64 0, .int .i64 0, .int .u8 0, .int .u8 0, .int .u8 0, .int .u8 0, .int .u8 0, .int .u8 0, .int .i64 0, .int .i64 0, .int .i64 0, .int .i64 0, .int .i64 0]] := BT.ofStruct Try.underlying124 Try.zeroValue124 rfl (fun w => by kernel_rfl)
instance sz125 : Sz Try.prog 125 24 true := ⟨Try.sizeOf125, Try.isAgg125⟩
instance by125 : By Try.prog 125 112 := ⟨_, Try.typeInfo125, rfl⟩
instance zv125 : ZV Try.prog 125 (.agg #[.int .i64 0, .int .i64 0, .int .u8 0, .int .u8 0, .int .u8 0, .int .u8 0, .int .u8 0, .int .u8 0, .int .i64 0, .int .i64 0, .int .i64 0, .int .i64 0, .int .i64 0, .int .u8 0, .int .u8 0, .int .u8 0, .int .u8 0, .int .u8 0, .int .u8 0, .int .i64 0, .int .i64 0, .int .i64 0, .int .i64 0, .int .i64 0]) := ⟨Try.zeroValue125⟩
instance eq125 : EqT Try.prog 125 := ⟨by kernel_rfl, Try.eqGuardType125, .inl ⟨_, Try.underlying125⟩⟩
theorem fa125_0 {K : Value → World → Prop} {w : World} (b o : Nat) : opS Try.prog (S.fa 125 (pt b o) 0) K w = K (pt b (o + 0)) w := opS_fa (T := 125) (hT := ⟨Try.underlying125⟩) (fd := ⟨_, 3, 0, _, _, _, _⟩) (n := 1) rfl (hs := sz3) (Nat.succ_ne_zero _) b o
attribute [push_cast] fa125_0
theorem fa125_1 {K : Value → World → Prop} {w : World} (b o : Nat) : opS Try.prog (S.fa 125 (pt b o) 1) K w = K (pt b (o + 1)) w := opS_fa (T := 125) (hT := ⟨Try.underlying125⟩) (fd := ⟨_, 123, 1, _, _, _, _⟩) (n := 23) rfl (hs := sz123) (Nat.succ_ne_zero _) b o
attribute [push_cast] fa125_1
instance bt125 : BT Try.prog 125 [[.int .i64 0], [.int .i64 0, .int .u8 0, .int .u8 0, .int .u8 0, .int .u8 0, .int .u8 0, .int .u8 0, .int .i64 0, .int .i64 0, .int .i64 0, .int .i64 0, .int .i64 0, .int .u8 0, .int .u8 0, .int .u8 0, .int .u8 0, .int .u8 0, .int .u8 0, .int .i64 0, .int .i64 0, .int .i64 0, .int .i64 0, .int .i64 0]] := BT.ofStruct Try.underlying125 Try.zeroValue125 rfl (fun w => by kernel_rfl)
instance sz126 : Sz Try.prog 126 1 false := ⟨Try.sizeOf126, Try.isAgg126⟩
instance by126 : By Try.prog 126 24 := ⟨_, Try.typeInfo126, rfl⟩
instance zv126 : ZV Try.prog 126 (.slice none 0 0) := ⟨Try.zeroValue126⟩
instance sl126 : SlT Try.prog 126 5 := ⟨Try.underlying126⟩
instance sz140 : Sz Try.prog 140 1 false := ⟨Try.sizeOf140, Try.isAgg140⟩
instance by140 : By Try.prog 140 8 := ⟨_, Try.typeInfo140, rfl⟩
instance zv140 : ZV Try.prog 140 (.int .u64 0) := ⟨Try.zeroValue140⟩
instance sz148 : Sz Try.prog 148 25 true := ⟨Try.sizeOf148, Try.isAgg148⟩
instance by148 : By Try.prog 148 120 := ⟨_, Try.typeInfo148, rfl⟩
instance zv148 : ZV Try.prog 148 (.agg #[.int .i64 0, .int .u8 0, .int .u8 0, .int .u8 0, .int .u8 0, .int .u8 0, .int .u8 0, .int .i64 0, .int .i64 0, .int .i64 0, .int .i64 0, .int .i64 0, .int .u8 0, .int .u8 0, .int .u8 0, .int .u8 0, .int .u8 0, .int .u8 0, .int .i64 0, .int .i64 0, .int .i64 0, .int .i64 0, .int .i64 0, .int .i64 0, .int .i64 0]) := ⟨Try.zeroValue148⟩
instance eq148 : EqT Try.prog 148 := ⟨by kernel_rfl, Try.eqGuardType148, .inl ⟨_, Try.underlying148⟩⟩
theorem fa148_0 {K : Value → World → Prop} {w : World} (b o : Nat) : opS Try.prog (S.fa 148 (pt b o) 0) K w = K (pt b (o + 0)) w := opS_fa (T := 148) (hT := ⟨Try.underlying148⟩) (fd := ⟨_, 107, 0, _, _, _, _⟩) (n := 11) rfl (hs := sz107) (Nat.succ_ne_zero _) b o
attribute [push_cast] fa148_0
theorem fa148_1 {K : Value → World → Prop} {w : World} (b o : Nat) : opS Try.prog (S.fa 148 (pt b o) 1) K w = K (pt b (o + 11)) w := opS_fa (T := 148) (hT := ⟨Try.underlying148⟩) (fd := ⟨_, 107, 11, _, _, _, _⟩) (n := 11) rfl (hs := sz107) (Nat.succ_ne_zero _) b o
attribute [push_cast] fa148_1
theorem fa148_2 {K : Value → World → Prop} {w : World} (b o : Nat) : opS Try.prog (S.fa 148 (pt b o) 2) K w = K (pt b (o + 22)) w := opS_fa (T := 148) (hT := ⟨Try.underlying148⟩) (fd := ⟨_, 3, 22, _, _, _, _⟩) (n := 1) rfl (hs := sz3) (Nat.succ_ne_zero _) b o
attribute [push_cast] fa148_2
theorem fa148_3 {K : Value → World → Prop} {w : World} (b o : Nat) : opS Try.prog (S.fa 148 (pt b o) 3) K w = K (pt b (o + 23)) w := opS_fa (T := 148) (hT := ⟨Try.underlying148⟩) (fd := ⟨_, 3, 23, _, _, _, _⟩) (n := 1) rfl (hs := sz3) (Nat.succ_ne_zero _) b o
attribute [push_cast] fa148_3
theorem fa148_4 {K : Value → World → Prop} {w : World} (b o : Nat) : opS Try.prog (S.fa 148 (pt b o) 4) K w = K (pt b (o + 24)) w := opS_fa (T := 148) (hT := ⟨Try.underlying148⟩) (fd := ⟨_, 3, 24, _, _, _, _⟩) (n := 1) rfl (hs := sz3) (Nat.succ_ne_zero _) b o
attribute [push_cast] fa148_4
instance bt148 : BT Try.prog 148 [[.int .i64 0, .int .u8 0, .int .u8 0, .int .u8 0, .int .u8 0, .int .u8 0, .int .u8 0, .int .i64 0, .int .i64 0, .int .i64 0, .int .i64 0], [.int .i64 0, .int .u8 0, .int .u8 0, .int .u8 0, .int .u8 0, .int .u8 0, .int .u8 0, .int .i64 0, .int .i64 0, .int .i64 0, .int .i64 0], [.int .i64 0], [.int .i64 0], [.int .i64 0]] := BT.ofStruct Try.underlying148 Try.zeroValue148 rfl (fun w => by kernel_rfl)
instance sz149 : Sz Try.prog 149 25 true := ⟨Try.sizeOf149, Try.isAgg149⟩
instance by149 : By Try.prog 149 120 := ⟨_, Try.typeInfo149, rfl⟩
instance zv149 : ZV Try.prog 149 (.agg #[.int .i64 0, .int .u8 0, .int .u8 0, .int .u8 0, .int .u8 0, .int .u8 0, .int .u8 0, .int .i64 0, .int .i64 0, .int .i64 0, .int .i64 0, .int .i64 0, .int .u8 0, .int .u8 0, .int .u8 0, .int .u8 0, .int .u8 0, .int .u8 0, .int .i64 0, .int .i64 0, .int .i64 0, .int .i64 0, .int .i64 0, .int .i64 0, .int .i64 0]) := ⟨Try.zeroValue149⟩
instance eq149 : EqT Try.prog 149 := ⟨by kernel_rfl, Try.eqGuardType149, .inl ⟨_, Try.underlying149⟩⟩
theorem fa149_0 {K : Value → World → Prop} {w : World} (b o : Nat) : opS Try.prog (S.fa 149 (pt b o) 0) K w = K (pt b (o + 0)) w := opS_fa (T := 149) (hT := ⟨Try.underlying149⟩) (fd := ⟨_, 107, 0, _, _, _, _⟩) (n := 11) rfl (hs := sz107) (Nat.succ_ne_zero _) b o
attribute [push_cast] fa149_0
theorem fa149_1 {K : Value → World → Prop} {w : World} (b o : Nat) : opS Try.prog (S.fa 149 (pt b o) 1) K w = K (pt b (o + 11)) w := opS_fa (T := 149) (hT := ⟨Try.underlying149⟩) (fd := ⟨_, 107, 11, _, _, _, _⟩) (n := 11) rfl (hs := sz107) (Nat.succ_ne_zero _) b o
attribute [push_cast] fa149_1
theorem fa149_2 {K : Value → World → Prop} {w : World} (b o : Nat) : opS Try.prog (S.fa 149 (pt b o) 2) K w = K (pt b (o + 22)) w := opS_fa (T := 149) (hT := ⟨Try.underlying149⟩) (fd := ⟨_, 3, 22, _, _, _, _⟩) (n := 1) rfl (hs := sz3) (Nat.succ_ne_zero _) b o
attribute [push_cast] fa149_2
theorem fa149_3 {K : Value → World → Prop} {w : World} (b o : Nat) : opS Try.prog (S.fa 149 (pt b o) 3) K w = K (pt b (o + 23)) w := opS_fa (T := 149) (hT := ⟨Try.underlying149⟩) (fd := ⟨_, 3, 23, _, _, _, _⟩) (n := 1) rfl (hs := sz3) (Nat.succ_ne_zero _) b o
attribute [push_cast] fa149_3
theorem fa149_4 {K : Value → World → Prop} {w : World} (b o : Nat) : opS Try.prog (S.fa 149 (pt b o) 4) K w = K (pt b (o + 24)) w := opS_fa (T := 149) (hT := ⟨Try.underlying149⟩) (fd := ⟨_, 3, 24, _, _, _, _⟩) (n := 1) rfl (hs := sz3) (Nat.succ_ne_zero _) b o
attribute [push_cast] fa149_4
instance bt149 : BT Try.prog 149 [[.int .i64 0, .int .u8 0, .int .u8 0, .int .u8 0, .int .u8 0, .int .u8 0, .int .u8 0, .int .i64 0, .int .i64 0, .int .i64 0, .int .i64 0], [.int .i64 0, .int .u8 0, .int .u8 0, .int .u8 0, .int .u8 0, .int .u8 0, .int .u8 0, .int .i64 0, .int .i64 0, .int .i64 0, .int .i64 0], [.int .i64 0], [.int .i64 0], [.int .i64 0]] := BT.ofStruct Try.underlying149 Try.zeroValue149 rfl (fun w => by kernel_rfl)
instance sz150 : Sz Try.prog 150 2 true := ⟨Try.sizeOf150, Try.isAgg150⟩
instance by150 : By Try.prog 150 16 := ⟨_, Try.typeInfo150, rfl⟩
instance zv150 : ZV Try.prog 150 (.agg #[.int .i64 0, .int .i64 0]) := ⟨Try.zeroValue150⟩
instance eq150 : EqT Try.prog 150 := ⟨by kernel_rfl, Try.eqGuardType150, .inl ⟨_, Try.underlying150⟩⟩
theorem fa150_0 {K : Value → World → Prop} {w : World} (b o : Nat) : opS Try.prog (S.fa 150 (pt b o) 0) K w = K (pt b (o + 0)) w := opS_fa (T := 150) (hT := ⟨Try.underlying150⟩) (fd := ⟨_, 3, 0, _, _, _, _⟩) (n := 1) rfl (hs := sz3) (Nat.succ_ne_zero _) b o
attribute [push_cast] fa150_0
theorem fa150_1 {K : Value → World → Prop} {w : World} (b o : Nat) : opS Try.prog (S.fa 150 (pt b o) 1) K w = K (pt b (o + 1)) w := opS_fa (T := 150) (hT := ⟨Try.underlying150⟩) (fd := ⟨_, 3, 1, _, _, _, _⟩) (n := 1) rfl (hs := sz3) (Nat.succ_ne_zero _) b o
attribute [push_cast] fa150_1
instance bt150 : BT Try.prog 150 [[.int .i64 0], [.int .i64 0]] := BT.ofStruct Try.underlying150 Try.zeroValue150 rfl (fun w => by kernel_rfl)
instance sz151 : Sz Try.prog 151 2 true := ⟨Try.sizeOf151, Try.isAgg151⟩
instance by151 : By Try.prog 151 16 := ⟨_, Try.typeInfo151, rfl⟩
instance zv151 : ZV Try.prog 151 (.agg #[.int .i64 0, .int .i64 0]) := ⟨Try.zeroValue151⟩
instance eq151 : EqT Try.prog 151 := ⟨by kernel_rfl, Try.eqGuardType151, .inl ⟨_, Try.underlying151⟩⟩
theorem fa151_0 {K : Value → World → Prop} {w : World} (b o : Nat) : opS Try.prog (S.fa 151 (pt b o) 0) K w = K (pt b (o + 0)) w := opS_fa (T := 151) (hT := ⟨Try.underlying151⟩) (fd := ⟨_, 3, 0, _, _, _, _⟩) (n := 1) rfl (hs := sz3) (Nat.succ_ne_zero _) b o
attribute [push_cast] fa151_0
theorem fa151_1 {K : Value → World → Prop} {w : World} (b o : Nat) : opS Try.prog (S.fa 151 (pt b o) 1) K w = K (pt b (o + 1)) w := opS_fa (T := 151) (hT := ⟨Try.underlying151⟩) (fd := ⟨_, 3, 1, _, _, _, _⟩) (n := 1) rfl (hs := sz3) (Nat.succ_ne_zero _) b o
attribute [push_cast] fa151_1
instance bt151 : BT Try.prog 151 [[.int .i64 0], [.int .i64 0]] := BT.ofStruct Try.underlying151 Try.zeroValue151 rfl (fun w => by kernel_rfl)
instance sz160 : Sz Try.prog 160 1 false := ⟨Try.sizeOf160, Try.isAgg160⟩
instance by160 : By Try.prog 160 24 := ⟨_, Try.typeInfo160, rfl⟩
instance zv160 : ZV Try.prog 160 (.slice none 0 0) := ⟨Try.zeroValue160⟩
instance sl160 : SlT Try.prog 160 5 := ⟨Try.underlying160⟩
instance sz166 : Sz Try.prog 166 1 false := ⟨Try.sizeOf166, Try.isAgg166⟩
instance by166 : By Try.prog 166 8 := ⟨_, Try.typeInfo166, rfl⟩
instance zv166 : ZV Try.prog 166 (.int .i64 0) := ⟨Try.zeroValue166⟩
instance sz173 : Sz Try.prog 173 1 false := ⟨Try.sizeOf173, Try.isAgg173⟩
instance by173 : By Try.prog 173 4 := ⟨_, Try.typeInfo173, rfl⟩
instance zv173 : ZV Try.prog 173 (.int .u32 0) := ⟨Try.zeroValue173⟩
instance sz175 : Sz Try.prog 175 1 false := ⟨Try.sizeOf175, Try.isAgg175⟩
instance by175 : By Try.prog 175 8 := ⟨_, Try.typeInfo175, rfl⟩
instance zv175 : ZV Try.prog 175 (.int .u64 0) := ⟨Try.zeroValue175⟩
instance sz185 : Sz Try.prog 185 1 false := ⟨Try.sizeOf185, Try.isAgg185⟩
instance by185 : By Try.prog 185 24 := ⟨_, Try.typeInfo185, rfl⟩
instance zv185 : ZV Try.prog 185 (.slice none 0 0) := ⟨Try.zeroValue185⟩
instance sl185 : SlT Try.prog 185 188 := ⟨Try.underlying185⟩
instance sz187 : Sz Try.prog 187 2 true := ⟨Try.sizeOf187, Try.isAgg187⟩
instance by187 : By Try.prog 187 16 := ⟨_, Try.typeInfo187, rfl⟩
instance zv187 : ZV Try.prog 187 (.agg #[.bool false, .int .i64 0]) := ⟨Try.zeroValue187⟩
instance eq187 : EqT Try.prog 187 := ⟨by kernel_rfl, Try.eqGuardType187, .inl ⟨_, Try.underlying187⟩⟩
theorem fa187_0 {K : Value → World → Prop} {w : World} (b o : Nat) : opS Try.prog (S.fa 187 (pt b o) 0) K w = K (pt b (o + 0)) w := opS_fa (T := 187) (hT := ⟨Try.underlying187⟩) (fd := ⟨_, 4, 0, _, _, _, _⟩) (n := 1) rfl (hs := sz4) (Nat.succ_ne_zero _) b o
attribute [push_cast] fa187_0
theorem fa187_1 {K : Value → World → Prop} {w : World} (b o : Nat) : opS Try.prog (S.fa 187 (pt b o) 1) K w = K (pt b (o + 1)) w := opS_fa (T := 187) (hT := ⟨Try.underlying187⟩) (fd := ⟨_, 3, 1, _, _, _, _⟩) (n := 1) rfl (hs := sz3) (Nat.succ_ne_zero _) b o
attribute [push_cast] fa187_1
instance bt187 : BT Try.prog 187 [[.bool false], [.int .i64 0]] := BT.ofStruct Try.underlying187 Try.zeroValue187 rfl (fun w => by kernel_rfl)
instance sz188 : Sz Try.prog 188 2 true := ⟨Try.sizeOf188, Try.isAgg188⟩
instance by188 : By Try.prog 188 16 := ⟨_, Try.typeInfo188, rfl⟩
instance zv188 : ZV Try.prog 188 (.agg #[.bool false, .int .i64 0]) := ⟨Try.zeroValue188⟩
instance eq188 : EqT Try.prog 188 := ⟨by kernel_rfl, Try.eqGuardType188, .inl ⟨_, Try.underlying188⟩⟩
theorem fa188_0 {K : Value → World → Prop} {w : World} (b o : Nat) : opS Try.prog (S.fa 188 (pt b o) 0) K w = K (pt b (o + 0)) w := opS_fa (T := 188) (hT := ⟨Try.underlying188⟩) (fd := ⟨_, 4, 0, _, _, _, _⟩) (n := 1) rfl (hs := sz4) (Nat.succ_ne_zero _) b o
attribute [push_cast] fa188_0
theorem fa188_1 {K : Value → World → Prop} {w : World} (b o : Nat) : opS Try.prog (S.fa 188 (pt b o) 1) K w = K (pt b (o + 1)) w := opS_fa (T := 188) (hT := ⟨Try.underlying188⟩) (fd := ⟨_, 3, 1, _, _, _, _⟩) (n := 1) rfl (hs := sz3) (Nat.succ_ne_zero _) b o
attribute [push_cast] fa188_1
instance bt188 : BT Try.prog 188 [[.bool false], [.int .i64 0]] := BT.ofStruct Try.underlying188 Try.zeroValue188 rfl (fun w => by kernel_rfl)
instance sz189 : Sz Try.prog 189 0 true := ⟨Try.sizeOf189, Try.isAgg189⟩
instance by189 : By Try.prog 189 0 := ⟨_, Try.typeInfo189, rfl⟩
instance zv189 : ZV Try.prog 189 (.agg #[]) := ⟨Try.zeroValue189⟩
instance eq189 : EqT Try.prog 189 := ⟨by kernel_rfl, Try.eqGuardType189, .inl ⟨_, Try.underlying189⟩⟩
instance bt189 : BT Try.prog 189 [] := BT.ofStruct Try.underlying189 Try.zeroValue189 rfl (fun w => by kernel_rfl)
instance sz190 : Sz Try.prog 190 0 true := ⟨Try.sizeOf190, Try.isAgg190⟩
instance by190 : By Try.prog 190 0 := ⟨_, Try.typeInfo190, rfl⟩
instance zv190 : ZV Try.prog 190 (.agg #[]) := ⟨Try.zeroValue190⟩
instance eq190 : EqT Try.prog 190 := ⟨by kernel_rfl, Try.eqGuardType190, .inl ⟨_, Try.underlying190⟩⟩
instance bt190 : BT Try.prog 190 [] := BT.ofStruct Try.underlying190 Try.zeroValue190 rfl (fun w => by kernel_rfl)
instance sz192 : Sz Try.prog 192 1 false := ⟨Try.sizeOf192, Try.isAgg192⟩
instance by192 : By Try.prog 192 8 := ⟨_, Try.typeInfo192, rfl⟩
instance zv192 : ZV Try.prog 192 (.pointer none) := ⟨Try.zeroValue192⟩
instance sz195 : Sz Try.prog 195 1 false := ⟨Try.sizeOf195, Try.isAgg195⟩
instance by195 : By Try.prog 195 8 := ⟨_, Try.typeInfo195, rfl⟩
instance zv195 : ZV Try.prog 195 (.int .u64 0) := ⟨Try.zeroValue195⟩
instance sz199 : Sz Try.prog 199 1 false := ⟨Try.sizeOf199, Try.isAgg199⟩
instance by199 : By Try.prog 199 8 := ⟨_, Try.typeInfo199, rfl⟩
instance zv199 : ZV Try.prog 199 (.pointer none) := ⟨Try.zeroValue199⟩
instance sz203 : Sz Try.prog 203 1 false := ⟨Try.sizeOf203, Try.isAgg203⟩
instance by203 : By Try.prog 203 8 := ⟨_, Try.typeInfo203, rfl⟩
instance zv203 : ZV Try.prog 203 (.pointer none) := ⟨Try.zeroValue203⟩
instance sz208 : Sz Try.prog 208 4 true := ⟨Try.sizeOf208, Try.isAgg208⟩
instance by208 : By Try.prog 208 40 := ⟨_, Try.typeInfo208, rfl⟩
instance zv208 : ZV Try.prog 208 (.agg #[.pointer none, .pointer none, .pointer none, .string ⟨#[]⟩]) := ⟨Try.zeroValue208⟩
theorem fa208_0 {K : Value → World → Prop} {w : World} (b o : Nat) : opS Try.prog (S.fa 208 (pt b o) 0) K w = K (pt b (o + 0)) w := opS_fa (T := 208) (hT := ⟨Try.underlying208⟩) (fd := ⟨_, 17, 0, _, _, _, _⟩) (n := 1) rfl (hs := sz17) (Nat.succ_ne_zero _) b o
attribute [push_cast] fa208_0
theorem fa208_1 {K : Value → World → Prop} {w : World} (b o : Nat) : opS Try.prog (S.fa 208 (pt b o) 1) K w = K (pt b (o + 1)) w := opS_fa (T := 208) (hT := ⟨Try.underlying208⟩) (fd := ⟨_, 17, 1, _, _, _, _⟩) (n := 1) rfl (hs := sz17) (Nat.succ_ne_zero _) b o
attribute [push_cast] fa208_1
theorem fa208_2 {K : Value → World → Prop} {w : World} (b o : Nat) : opS Try.prog (S.fa 208 (pt b o) 2) K w = K (pt b (o + 2)) w := opS_fa (T := 208) (hT := ⟨Try.underlying208⟩) (fd := ⟨_, 17, 2, _, _, _, _⟩) (n := 1) rfl (hs := sz17) (Nat.succ_ne_zero _) b o
attribute [push_cast] fa208_2
theorem fa208_3 {K : Value → World → Prop} {w : World} (b o : Nat) : opS Try.prog (S.fa 208 (pt b o) 3) K w = K (pt b (o + 3)) w := opS_fa (T := 208) (hT := ⟨Try.underlying208⟩) (fd := ⟨_, 9, 3, _, _, _, _⟩) (n := 1) rfl (hs := sz9) (Nat.succ_ne_zero _) b o
attribute [push_cast] fa208_3
instance bt208 : BT Try.prog 208 [[.pointer none], [.pointer none], [.pointer none], [.string ⟨#[]⟩]] := BT.ofStruct Try.underlying208 Try.zeroValue208 rfl (fun w => by kernel_rfl)
instance sz209 : Sz Try.prog 209 4 true := ⟨Try.sizeOf209, Try.isAgg209⟩
instance by209 : By Try.prog 209 40 := ⟨_, Try.typeInfo209, rfl⟩
instance zv209 : ZV Try.prog 209 (.agg #[.pointer none, .pointer none, .pointer none, .string ⟨#[]⟩]) := ⟨Try.zeroValue209⟩
theorem fa209_0 {K : Value → World → Prop} {w : World} (b o : Nat) : opS Try.prog (S.fa 209 (pt b o) 0) K w = K (pt b (o + 0)) w := opS_fa (T := 209) (hT := ⟨Try.underlying209⟩) (fd := ⟨_, 17, 0, _, _, _, _⟩) (n := 1) rfl (hs := sz17) (Nat.succ_ne_zero _) b o
attribute [push_cast] fa209_0
theorem fa209_1 {K : Value → World → Prop} {w : World} (b o : Nat) : opS Try.prog (S.fa 209 (pt b o) 1) K w = K (pt b (o + 1)) w := opS_fa (T := 209) (hT := ⟨Try.underlying209⟩) (fd := ⟨_, 17, 1, _, _, _, _⟩) (n := 1) rfl (hs := sz17) (Nat.succ_ne_zero _) b o
attribute [push_cast] fa209_1
theorem fa209_2 {K : Value → World → Prop} {w : World} (b o : Nat) : opS Try.prog (S.fa 209 (pt b o) 2) K w = K (pt b (o + 2)) w := opS_fa (T := 209) (hT := ⟨Try.underlying209⟩) (fd := ⟨_, 17, 2, _, _, _, _⟩) (n := 1) rfl (hs := sz17) (Nat.succ_ne_zero _) b o
attribute [push_cast] fa209_2
theorem fa209_3 {K : Value → World → Prop} {w : World} (b o : Nat) : opS Try.prog (S.fa 209 (pt b o) 3) K w = K (pt b (o + 3)) w := opS_fa (T := 209) (hT := ⟨Try.underlying209⟩) (fd := ⟨_, 9, 3, _, _, _, _⟩) (n := 1) rfl (hs := sz9) (Nat.succ_ne_zero _) b o
attribute [push_cast] fa209_3
instance bt209 : BT Try.prog 209 [[.pointer none], [.pointer none], [.pointer none], [.string ⟨#[]⟩]] := BT.ofStruct Try.underlying209 Try.zeroValue209 rfl (fun w => by kernel_rfl)
instance sz210 : Sz Try.prog 210 0 true := ⟨Try.sizeOf210, Try.isAgg210⟩
instance by210 : By Try.prog 210 0 := ⟨_, Try.typeInfo210, rfl⟩
instance zv210 : ZV Try.prog 210 (.agg #[]) := ⟨Try.zeroValue210⟩
instance ar210 : ArT Try.prog 210 0 16 := ⟨Try.underlying210⟩
instance bt210 : BT Try.prog 210 (List.replicate 0 [.pointer none]) := BT.ofArray Try.underlying210 Try.zeroValue210 rfl sz16 rfl
instance sz211 : Sz Try.prog 211 0 true := ⟨Try.sizeOf211, Try.isAgg211⟩
instance by211 : By Try.prog 211 0 := ⟨_, Try.typeInfo211, rfl⟩
instance zv211 : ZV Try.prog 211 (.agg #[]) := ⟨Try.zeroValue211⟩
instance sz212 : Sz Try.prog 212 0 true := ⟨Try.sizeOf212, Try.isAgg212⟩
instance by212 : By Try.prog 212 0 := ⟨_, Try.typeInfo212, rfl⟩
instance zv212 : ZV Try.prog 212 (.agg #[]) := ⟨Try.zeroValue212⟩
instance sz213 : Sz Try.prog 213 1 false := ⟨Try.sizeOf213, Try.isAgg213⟩
instance by213 : By Try.prog 213 1 := ⟨_, Try.typeInfo213, rfl⟩
instance zv213 : ZV Try.prog 213 (.int .u8 0) := ⟨Try.zeroValue213⟩
instance sz214 : Sz Try.prog 214 1 false := ⟨Try.sizeOf214, Try.isAgg214⟩
instance by214 : By Try.prog 214 1 := ⟨_, Try.typeInfo214, rfl⟩
instance zv214 : ZV Try.prog 214 (.int .u8 0) := ⟨Try.zeroValue214⟩
instance sz216 : Sz Try.prog 216 1 false := ⟨Try.sizeOf216, Try.isAgg216⟩
instance by216 : By Try.prog 216 8 := ⟨_, Try.typeInfo216, rfl⟩
instance zv216 : ZV Try.prog 216 (.pointer none) := ⟨Try.zeroValue216⟩
instance sz217 : Sz Try.prog 217 1 false := ⟨Try.sizeOf217, Try.isAgg217⟩
instance by217 : By Try.prog 217 4 := ⟨_, Try.typeInfo217, rfl⟩
instance zv217 : ZV Try.prog 217 (.int .i32 0) := ⟨Try.zeroValue217⟩
instance sz218 : Sz Try.prog 218 1 false := ⟨Try.sizeOf218, Try.isAgg218⟩
instance by218 : By Try.prog 218 4 := ⟨_, Try.typeInfo218, rfl⟩
instance zv218 : ZV Try.prog 218 (.int .i32 0) := ⟨Try.zeroValue218⟩
instance sz219 : Sz Try.prog 219 11 true := ⟨Try.sizeOf219, Try.isAgg219⟩
instance by219 : By Try.prog 219 48 := ⟨_, Try.typeInfo219, rfl⟩
instance zv219 : ZV Try.prog 219 (.agg #[.int .u64 0, .int .u64 0, .int .u32 0, .int .u8 0, .int .u8 0, .int .u8 0, .int .u8 0, .nilFunc, .pointer none, .int .i32 0, .int .i32 0]) := ⟨Try.zeroValue219⟩
instance sz220 : Sz Try.prog 220 11 true := ⟨Try.sizeOf220, Try.isAgg220⟩
instance by220 : By Try.prog 220 48 := ⟨_, Try.typeInfo220, rfl⟩
instance zv220 : ZV Try.prog 220 (.agg #[.int .u64 0, .int .u64 0, .int .u32 0, .int .u8 0, .int .u8 0, .int .u8 0, .int .u8 0, .nilFunc, .pointer none, .int .i32 0, .int .i32 0]) := ⟨Try.zeroValue220⟩
theorem mixed : Try.prog.follows .mixedOrders = true := by kernel_rfl
end Go.Gx.S
end

section
/- What the functions of this program ask. -/
set_option linter.unusedVariables false
set_option maxRecDepth 100000
namespace Go.Gx.S
open Go Go.Gx Go.Proofs
-- gemel/gemelref07.SameInts
def p22 (P : Program) (K : Value → World → Prop) (x0 : Value) (x1 : Value) : World → Prop :=
  opS P (S.len x0) fun x2 =>
  opS P (S.len x1) fun x3 =>
  opS P (S.binI .neq x2 x3) fun x4 =>
  brn x4 (
    K (.bool false)
  ) (
    jnJ 0 (
      K (.bool true)
    ) fun j0 =>
    loopJ 1 (fun j1 x5 =>
      opS P (S.len x0) fun x6 =>
      opS P (S.binI .lss x5 x6) fun x7 =>
      brn x7 (
        drw <|
        opS P (S.ia 59 x0 x5) fun x8 =>
        opS P (S.ld 3 x8) fun x9 =>
        opS P (S.ia 59 x1 x5) fun x10 =>
        opS P (S.ld 3 x10) fun x11 =>
        opS P (S.binI .neq x9 x11) fun x12 =>
        brn x12 (
          K (.bool false)
        ) (
          opS P (S.binI .add x5 (.int .i64 1)) fun x13 =>
          j1 x13
        )
      ) (
        j0
      )
    ) (.int .i64 0)
  )
instance fnb22 : FnB Try.prog 22 := ⟨Try.call22⟩
theorem e22 : p22 Try.prog = fun K x0 x1 => denF Try.prog Try.f22 [x0, x1] K := by kernel_rfl
theorem c22 {K : Value → World → Prop} {x0 x1 : Value} {w : World} (h : p22 Try.prog K x0 x1 w) : CallsR Try.prog 22 #[x0, x1] K w := by
  rw [e22] at h
  exact denF_sound mixed Try.func22 h

end Go.Gx.S
-- 22
end

section
/- What the functions of this program ask. -/
set_option linter.unusedVariables false
set_option maxRecDepth 100000
namespace Go.Gx.S
open Go Go.Gx Go.Proofs
-- gemel/agg.New
def p18 (P : Program) (K : Value → World → Prop) (x0 : Value) (x1 : Value) (x2 : Value) (x3 : Value) : World → Prop :=
  opS P (S.box 58 x0) fun x4 =>
  opS P (S.len x2) fun x5 =>
  opS P (S.binI .lss x5 (.int .i64 1)) fun x6 =>
  brn x6 (
    K (.tuple #[(.pointer none), (.int .i64 1)])
  ) (
    opS P (S.len x2) fun x7 =>
    opS P (S.binI .gtr x7 (.int .i64 32)) fun x8 =>
    brn x8 (
      K (.tuple #[(.pointer none), (.int .i64 1)])
    ) (
      opS P (S.binI .lss x3 (.int .i64 1)) fun x9 =>
      brn x9 (
        K (.tuple #[(.pointer none), (.int .i64 1)])
      ) (
        opS P (S.binI .gtr x3 (.int .i64 32)) fun x10 =>
        brn x10 (
          K (.tuple #[(.pointer none), (.int .i64 1)])
        ) (
          opS P (S.cl 44 [x2]) fun x11 =>
          opS P (S.binI .lss x11 (.int .i64 1)) fun x12 =>
          brn x12 (
            K (.tuple #[(.pointer none), (.int .i64 1)])
          ) (
            opS P (S.build 102 [(1, x3)]) fun x13 =>
            opS P (S.box 102 x13) fun x14 =>
            opS P (S.len x2) fun x15 =>
            jnJ 0 (
              opS P (S.nc x14) fun x16 =>
              opS P (S.fa 102 x16 0) fun x17 =>
              opS P (S.ld 100 x17) fun x18 =>
              opS P (S.cl 47 [x18, (.func (.func 48) #[] #[])]) fun x19 =>
              opS P (S.nc x14) fun x20 =>
              opS P (S.fa 102 x20 0) fun x21 =>
              opS P (S.ld 100 x21) fun x22 =>
              opS P (S.cl 51 [x22]) fun x23 =>
              opS P (S.cl 50 [x23, (.func (.func 49) #[] #[])]) fun x24 =>
              opS P (S.len x24) fun x25 =>
              opS P (S.len x2) fun x26 =>
              opS P (S.binI .lss x25 x26) fun x27 =>
              brn x27 (
                K (.tuple #[(.pointer none), (.int .i64 5)])
              ) (
                K (.tuple #[x14, (.int .i64 0)])
              )
            ) fun j0 =>
            loopJ 1 (fun j1 x16 =>
              opS P (S.binI .lss x16 x15) fun x17 =>
              brn x17 (
                opS P (S.ia 59 x2 x16) fun x18 =>
                opS P (S.ld 3 x18) fun x19 =>
                opS P (S.fa 58 x4 0) fun x20 =>
                opS P (S.ld 3 x20) fun x21 =>
                opS P (S.fa 58 x4 1) fun x22 =>
                opS P (S.ld 34 x22) fun x23 =>
                opS P (S.build 107 [(0, x21), (1, x23), (2, x1), (3, (.int .i64 128)), (4, x19), (5, (.int .i64 7))]) fun x24 =>
                opS P (S.cl 45 [x24]) fun x25 =>
                opS P (S.ext x25 0) fun x26 =>
                opS P (S.ext x25 1) fun x27 =>
                opS P (S.binI .neq x27 (.int .i64 0)) fun x28 =>
                brn x28 (
                  K (.tuple #[(.pointer none), x27])
                ) (
                  drw <|
                  opS P (S.nc x14) fun x29 =>
                  opS P (S.fa 102 x29 0) fun x30 =>
                  allW (
                    opS P (S.ld 100 x30) fun x31 =>
                    opS P (S.cl 46 []) fun x32 =>
                    opS P (S.build 112 [(0, x26), (1, x32), (2, x19), (5, (.int .i64 (-1)))]) fun x33 =>
                    opS P (S.box 112 x33) fun x34 =>
                    opS P (S.buildS 100 1 [(0, x34)]) fun x35 =>
                    opS P (S.bi .append #[100, 100] 100 [x31, x35]) fun x36 =>
                    opS P (S.nc x14) fun x37 =>
                    opS P (S.fa 102 x37 0) fun x38 =>
                    opS P (S.st 100 x38 x36) fun x39 =>
                    opS P (S.binI .add x16 (.int .i64 1)) fun x40 =>
                    j1 x40
                  ) (
                    opS P (S.cl 46 []) fun x31 =>
                    opS P (S.build 112 [(0, x26), (1, x31), (2, x19), (5, (.int .i64 (-1)))]) fun x32 =>
                    allW (
                      opS P (S.ld 100 x30) fun x33 =>
                      opS P (S.box 112 x32) fun x34 =>
                      opS P (S.buildS 100 1 [(0, x34)]) fun x35 =>
                      opS P (S.bi .append #[100, 100] 100 [x33, x35]) fun x36 =>
                      opS P (S.nc x14) fun x37 =>
                      opS P (S.fa 102 x37 0) fun x38 =>
                      opS P (S.st 100 x38 x36) fun x39 =>
                      opS P (S.binI .add x16 (.int .i64 1)) fun x40 =>
                      j1 x40
                    ) (
                      opS P (S.box 112 x32) fun x33 =>
                      allW (
                        opS P (S.ld 100 x30) fun x34 =>
                        opS P (S.buildS 100 1 [(0, x33)]) fun x35 =>
                        opS P (S.bi .append #[100, 100] 100 [x34, x35]) fun x36 =>
                        opS P (S.nc x14) fun x37 =>
                        opS P (S.fa 102 x37 0) fun x38 =>
                        opS P (S.st 100 x38 x36) fun x39 =>
                        opS P (S.binI .add x16 (.int .i64 1)) fun x40 =>
                        j1 x40
                      ) (
                        opS P (S.buildS 100 1 [(0, x33)]) fun x34 =>
                        opS P (S.ld 100 x30) fun x35 =>
                        opS P (S.bi .append #[100, 100] 100 [x35, x34]) fun x36 =>
                        opS P (S.nc x14) fun x37 =>
                        opS P (S.fa 102 x37 0) fun x38 =>
                        opS P (S.st 100 x38 x36) fun x39 =>
                        opS P (S.binI .add x16 (.int .i64 1)) fun x40 =>
                        j1 x40
                      )
                    )
                  )
                )
              ) (
                j0
              )
            ) (.int .i64 0)
          )
        )
      )
    )
  )
instance fnb18 : FnB Try.prog 18 := ⟨Try.call18⟩
theorem e18 : p18 Try.prog = fun K x0 x1 x2 x3 => denF Try.prog Try.f18 [x0, x1, x2, x3] K := by kernel_rfl
theorem c18 {K : Value → World → Prop} {x0 x1 x2 x3 : Value} {w : World} (h : p18 Try.prog K x0 x1 x2 x3 w) : CallsR Try.prog 18 #[x0, x1, x2, x3] K w := by
  rw [e18] at h
  exact denF_sound mixed Try.func18 h

end Go.Gx.S
-- 18
end

section
/- What the functions of this program ask. -/
set_option linter.unusedVariables false
set_option maxRecDepth 100000
namespace Go.Gx.S
open Go Go.Gx Go.Proofs
-- cmp.Compare[int]
def p30 (P : Program) (K : Value → World → Prop) (x0 : Value) (x1 : Value) : World → Prop :=
  opS P (S.cl 71 [x0]) fun x2 =>
  opS P (S.cl 71 [x1]) fun x3 =>
  brn x2 (
    brn x3 (
      K (.int .i64 0)
    ) (
      K (.int .i64 (-1))
    )
  ) (
    brn x3 (
      K (.int .i64 1)
    ) (
      opS P (S.binI .lss x0 x1) fun x4 =>
      brn x4 (
        K (.int .i64 (-1))
      ) (
        opS P (S.binI .gtr x0 x1) fun x5 =>
        brn x5 (
          K (.int .i64 1)
        ) (
          K (.int .i64 0)
        )
      )
    )
  )
instance fnb30 : FnB Try.prog 30 := ⟨Try.call30⟩
theorem e30 : p30 Try.prog = fun K x0 x1 => denF Try.prog Try.f30 [x0, x1] K := by kernel_rfl
theorem c30 {K : Value → World → Prop} {x0 x1 : Value} {w : World} (h : p30 Try.prog K x0 x1 w) : CallsR Try.prog 30 #[x0, x1] K w := by
  rw [e30] at h
  exact denF_sound mixed Try.func30 h

-- slices.Min[[]int,int]
def p44 (P : Program) (K : Value → World → Prop) (x0 : Value) : World → Prop :=
  jnJ 0 (
    opS P (S.ia 59 x0 (.int .i64 0)) fun x1 =>
    opS P (S.ld 3 x1) fun x2 =>
    jnJ 1 (fun x3 =>
      K x3
    ) fun j0 =>
    loopJ 2 (fun j1 x3 x4 =>
      opS P (S.len x0) fun x5 =>
      opS P (S.binI .lss x4 x5) fun x6 =>
      brn x6 (
        opS P (S.ia 59 x0 x4) fun x7 =>
        opS P (S.ld 3 x7) fun x8 =>
        opS P (S.bi .min #[3, 3] 3 [x3, x8]) fun x9 =>
        opS P (S.binI .add x4 (.int .i64 1)) fun x10 =>
        j1 x9 x10
      ) (
        j0 x3
      )
    ) x2 (.int .i64 1)
  ) fun j0 =>
  opS P (S.len x0) fun x1 =>
  opS P (S.binI .lss x1 (.int .i64 1)) fun x2 =>
  brn x2 (
    opS P (S.iface 9 (.string ⟨#[115, 108, 105, 99, 101, 115, 46, 77, 105, 110, 58, 32, 101, 109, 112, 116, 121, 32, 108, 105, 115, 116]⟩)) fun x3 =>
    fun _ => False
  ) (
    j0
  )
instance fnb44 : FnB Try.prog 44 := ⟨Try.call44⟩
theorem e44 : p44 Try.prog = fun K x0 => denF Try.prog Try.f44 [x0] K := by kernel_rfl
theorem c44 {K : Value → World → Prop} {x0 : Value} {w : World} (h : p44 Try.prog K x0 w) : CallsR Try.prog 44 #[x0] K w := by
  rw [e44] at h
  exact denF_sound mixed Try.func44 h

-- gemel/agg.New$1
def p48 (P : Program) (K : Value → World → Prop) (x0 : Value) (x1 : Value) : World → Prop :=
  drw <|
  opS P (S.nc x0) fun x2 =>
  opS P (S.fa 112 x2 2) fun x3 =>
  opS P (S.ld 3 x3) fun x4 =>
  opS P (S.nc x1) fun x5 =>
  opS P (S.fa 112 x5 2) fun x6 =>
  opS P (S.ld 3 x6) fun x7 =>
  opS P (S.cl 30 [x4, x7]) fun x8 =>
  K x8
instance fnb48 : FnB Try.prog 48 := ⟨Try.call48⟩
theorem e48 : p48 Try.prog = fun K x0 x1 => denF Try.prog Try.f48 [x0, x1] K := by kernel_rfl
theorem c48 {K : Value → World → Prop} {x0 x1 : Value} {w : World} (h : p48 Try.prog K x0 x1 w) : CallsR Try.prog 48 #[x0, x1] K w := by
  rw [e48] at h
  exact denF_sound mixed Try.func48 h

-- gemel/agg.New$2
def p49 (P : Program) (K : Value → World → Prop) (x0 : Value) (x1 : Value) : World → Prop :=
  drw <|
  opS P (S.nc x0) fun x2 =>
  opS P (S.fa 112 x2 2) fun x3 =>
  opS P (S.ld 3 x3) fun x4 =>
  opS P (S.nc x1) fun x5 =>
  opS P (S.fa 112 x5 2) fun x6 =>
  opS P (S.ld 3 x6) fun x7 =>
  opS P (S.binI .eql x4 x7) fun x8 =>
  K x8
instance fnb49 : FnB Try.prog 49 := ⟨Try.call49⟩
theorem e49 : p49 Try.prog = fun K x0 x1 => denF Try.prog Try.f49 [x0, x1] K := by kernel_rfl
theorem c49 {K : Value → World → Prop} {x0 x1 : Value} {w : World} (h : p49 Try.prog K x0 x1 w) : CallsR Try.prog 49 #[x0, x1] K w := by
  rw [e49] at h
  exact denF_sound mixed Try.func49 h

-- slices.CompactFunc[[]*gemel/agg.link,*gemel/agg.link]
def p50 (P : Program) (K : Value → World → Prop) (x0 : Value) (x1 : Value) : World → Prop :=
  opS P (S.len x0) fun x2 =>
  opS P (S.binI .lss x2 (.int .i64 2)) fun x3 =>
  brn x3 (
    K x0
  ) (
    jnJ 0 (
      K x0
    ) fun j0 =>
    loopJ 1 (fun j1 x4 =>
      opS P (S.len x0) fun x5 =>
      opS P (S.binI .lss x4 x5) fun x6 =>
      brn x6 (
        jnJ 1 (fun x7 =>
          opS P (S.binI .add x7 (.int .i64 1)) fun x8 =>
          j1 x8
        ) fun j2 =>
        drw <|
        opS P (S.ia 100 x0 x4) fun x7 =>
        opS P (S.ld 108 x7) fun x8 =>
        opS P (S.binI .sub x4 (.int .i64 1)) fun x9 =>
        opS P (S.ia 100 x0 x9) fun x10 =>
        opS P (S.ld 108 x10) fun x11 =>
        opS P (S.call x1 [x8, x11]) fun x12 =>
        brn x12 (
          opS P (S.slc 100 x0 (some x4) none none) fun x13 =>
          jnJ 1 (fun x14 =>
            opS P (S.slc 100 x0 (some x14) none none) fun x15 =>
            opS P (S.bi .clear #[100] 0 [x15]) fun x16 =>
            opS P (S.slc 100 x0 none (some x14) none) fun x17 =>
            K x17
          ) fun j3 =>
          loopJ 2 (fun j4 x14 x15 =>
            opS P (S.len x13) fun x16 =>
            opS P (S.binI .lss x15 x16) fun x17 =>
            brn x17 (
              drw <|
              opS P (S.ia 100 x13 x15) fun x18 =>
              opS P (S.ld 108 x18) fun x19 =>
              opS P (S.binI .sub x15 (.int .i64 1)) fun x20 =>
              opS P (S.ia 100 x13 x20) fun x21 =>
              opS P (S.ld 108 x21) fun x22 =>
              opS P (S.call x1 [x19, x22]) fun x23 =>
              opS P (S.un .not x23) fun x24 =>
              brn x24 (
                opS P (S.ia 100 x13 x15) fun x25 =>
                opS P (S.ld 108 x25) fun x26 =>
                opS P (S.ia 100 x0 x14) fun x27 =>
                opS P (S.st 108 x27 x26) fun x28 =>
                opS P (S.binI .add x14 (.int .i64 1)) fun x29 =>
                opS P (S.binI .add x15 (.int .i64 1)) fun x30 =>
                j4 x29 x30
              ) (
                opS P (S.binI .add x15 (.int .i64 1)) fun x25 =>
                j4 x14 x25
              )
            ) (
              j3 x14
            )
          ) x4 (.int .i64 1)
        ) (
          j2 x4
        )
      ) (
        j0
      )
    ) (.int .i64 1)
  )
instance fnb50 : FnB Try.prog 50 := ⟨Try.call50⟩
theorem e50 : p50 Try.prog = fun K x0 x1 => denF Try.prog Try.f50 [x0, x1] K := by kernel_rfl
theorem c50 {K : Value → World → Prop} {x0 x1 : Value} {w : World} (h : p50 Try.prog K x0 x1 w) : CallsR Try.prog 50 #[x0, x1] K w := by
  rw [e50] at h
  exact denF_sound mixed Try.func50 h

-- slices.Clone[[]*gemel/agg.link,*gemel/agg.link]
def p51 (P : Program) (K : Value → World → Prop) (x0 : Value) : World → Prop :=
  opS P (S.binN .eql (S.isNilS x0)) fun x1 =>
  brn x1 (
    K (.slice none 0 0)
  ) (
    opS P (S.buildS 100 0 []) fun x2 =>
    opS P (S.bi .append #[100, 100] 100 [x2, x0]) fun x3 =>
    K x3
  )
instance fnb51 : FnB Try.prog 51 := ⟨Try.call51⟩
theorem e51 : p51 Try.prog = fun K x0 => denF Try.prog Try.f51 [x0] K := by kernel_rfl
theorem c51 {K : Value → World → Prop} {x0 : Value} {w : World} (h : p51 Try.prog K x0 w) : CallsR Try.prog 51 #[x0] K w := by
  rw [e51] at h
  exact denF_sound mixed Try.func51 h

-- cmp.isNaN[int]
def p71 (P : Program) (K : Value → World → Prop) (x0 : Value) : World → Prop :=
  opS P (S.binI .neq x0 x0) fun x1 =>
  K x1
instance fnb71 : FnB Try.prog 71 := ⟨Try.call71⟩
theorem e71 : p71 Try.prog = fun K x0 => denF Try.prog Try.f71 [x0] K := by kernel_rfl
theorem c71 {K : Value → World → Prop} {x0 : Value} {w : World} (h : p71 Try.prog K x0 w) : CallsR Try.prog 71 #[x0] K w := by
  rw [e71] at h
  exact denF_sound mixed Try.func71 h

end Go.Gx.S
-- 44 48 49 30 71 51 50
end
