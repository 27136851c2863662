/- Bytes that are copied, cut out, made; shifts and bits. -/
import Derived.Test.YtclkdldkebjgpaaGxLoop
namespace Go.Gx
open Go
variable {P : Program} {K : Value → World → Prop} {w : World}

/-! ### Numbers -/

theorem wrap_u8 (x : Int) : IntKind.u8.wrap x = x % 256 := by
  unfold IntKind.wrap
  have e1 : (2 : Int) ^ IntKind.u8.bits = 256 := rfl
  have e3 : IntKind.u8.signed = false := rfl
  simp only [e1, e3, Bool.false_and, Bool.false_eq_true, if_false]

theorem opS_shr (k k' : IntKind) (x : Int) (n : Nat) (hn : n ≤ k.bits) : opS P (S.binI .shr (.int k x) (.int k' n)) K w = K (.int k (x / 2 ^ n)) w := by
  have h : ¬ ((n : Int) < 0) := by omega
  have e : x.fdiv (2 ^ n) = x / 2 ^ n := Int.fdiv_eq_ediv_of_nonneg x (Int.le_of_lt (Int.pow_pos (by decide)))
  simp [S.binI, binOp, Op.shift, opS, uponR, Nat.min_eq_left hn, h, e]
theorem opS_shl (k k' : IntKind) (x : Int) (n : Nat) (hn : n ≤ k.bits) : opS P (S.binI .shl (.int k x) (.int k' n)) K w = K (.int k (k.wrap (x * 2 ^ n))) w := by
  have h : ¬ ((n : Int) < 0) := by omega
  simp [S.binI, binOp, Op.shift, opS, uponR, Nat.min_eq_left hn, h]

theorem ofInt_nat {n : Nat} {x : Int} (h0 : 0 ≤ x) : BitVec.ofInt n x = BitVec.ofNat n x.toNat := by
  obtain ⟨k, rfl⟩ := Int.eq_ofNat_of_zero_le h0
  simp

/-- bits that do not meet -/
theorem opS_or {x y : Int} (m : Nat) (hx : 0 ≤ x) (hx2 : x < 2 ^ 62) (hy : 0 ≤ y) (hy2 : y < 2 ^ m) (hm : x % 2 ^ m = 0) (hm2 : m ≤ 62) : opS P (S.binI .or (.int .i64 x) (.int .i64 y)) K w = K (.int .i64 (x + y)) w := by
  obtain ⟨a, rfl⟩ := Int.eq_ofNat_of_zero_le hx
  obtain ⟨b, rfl⟩ := Int.eq_ofNat_of_zero_le hy
  have hb : b < 2 ^ m := by exact_mod_cast hy2
  have ha : a < 2 ^ 62 := by exact_mod_cast hx2
  have hd : a % 2 ^ m = 0 := by exact_mod_cast hm
  have hpm : 2 ^ m ≤ 2 ^ 62 := Nat.pow_le_pow_right (by decide) hm2
  have e : (BitVec.ofInt 64 (a : Int) ||| BitVec.ofInt 64 (b : Int)).toNat = a + b := by
    rw [ofInt_nat (by omega), ofInt_nat (by omega), BitVec.toNat_or]
    simp only [Int.toNat_natCast, BitVec.toNat_ofNat]
    rw [Nat.mod_eq_of_lt (by omega), Nat.mod_eq_of_lt (by omega)]
    have : a = a / 2 ^ m * 2 ^ m := by
      have := Nat.div_add_mod a (2 ^ m)
      rw [hd, Nat.mul_comm] at this
      omega
    rw [this, ← Nat.shiftLeft_eq, ← Nat.shiftLeft_add_eq_or_of_lt hb]
  have hw : IntKind.i64.wrap ((a + b : Nat) : Int) = (a : Int) + b := by
    rw [wrap_i64 (by omega)]; simp
  unfold S.binI
  simp only []
  have : (binOp .or 0 (.int .i64 (a : Int)) (.int .i64 (b : Int))).run P w = .ok (.int .i64 ((a : Int) + b)) w := by
    show (Op.intBits .or .i64 (a : Int) (b : Int)).run P w = _
    unfold Op.intBits
    show Result.ok (Value.int .i64 (IntKind.i64.wrap ((BitVec.ofInt 64 (a : Int) ||| BitVec.ofInt 64 (b : Int)).toNat : Int))) w = _
    rw [e, hw]
  rw [opS_bind, this]

/-- the low bits -/
theorem opS_and {x : Int} (m : Nat) (hx : 0 ≤ x) (hx2 : x < 2 ^ 62) (hm : m ≤ 62) : opS P (S.binI .and (.int .i64 x) (.int .i64 (2 ^ m - 1))) K w = K (.int .i64 (x % 2 ^ m)) w := by
  obtain ⟨a, rfl⟩ := Int.eq_ofNat_of_zero_le hx
  have ha : a < 2 ^ 62 := by exact_mod_cast hx2
  have hpm : 2 ^ m ≤ 2 ^ 62 := Nat.pow_le_pow_right (by decide) hm
  have hp0 : 0 < 2 ^ m := Nat.pow_pos (by decide)
  have eb : ((2 : Int) ^ m - 1) = ((2 ^ m - 1 : Nat) : Int) := by
    rw [Int.natCast_sub (by omega)]; simp
  have e : (BitVec.ofInt 64 (a : Int) &&& BitVec.ofInt 64 ((2 : Int) ^ m - 1)).toNat = a % 2 ^ m := by
    rw [eb, ofInt_nat (by omega), ofInt_nat (by omega), BitVec.toNat_and]
    simp only [Int.toNat_natCast, BitVec.toNat_ofNat]
    rw [Nat.mod_eq_of_lt (by omega), Nat.mod_eq_of_lt (by omega), Nat.and_two_pow_sub_one_eq_mod]
  have hlt : a % 2 ^ m < 2 ^ m := Nat.mod_lt _ hp0
  have hw : IntKind.i64.wrap ((a % 2 ^ m : Nat) : Int) = (a : Int) % 2 ^ m := by
    rw [wrap_i64 (by omega)]; simp
  unfold S.binI
  simp only []
  have : (binOp .and 0 (.int .i64 (a : Int)) (.int .i64 ((2 : Int) ^ m - 1))).run P w = .ok (.int .i64 ((a : Int) % 2 ^ m)) w := by
    show Result.ok (Value.int .i64 (IntKind.i64.wrap ((BitVec.ofInt 64 (a : Int) &&& BitVec.ofInt 64 ((2 : Int) ^ m - 1)).toNat : Int))) w = _
    rw [e, hw]
  rw [opS_bind, this]

/-! ### Parts of arrays; room -/

theorem opS_slcA {T E n sz : Nat} {ag : Bool} [hT : ArT P T n E] [hs : Sz P E sz ag] (b o : Nat) : opS P (S.slc T (pt b o) none none none) K w = K (.slice (some ⟨b, o, none⟩) n n) w := by
  unfold S.slc
  rw [opS_bind]
  unfold Instr.sliceAt
  rw [Sem.run_bind, run_underlying_of hT.und, Result.andThen_ok]
  simp only []
  have : (Instr.sureAddr (pt b o)).run P w = .ok ⟨b, o, none⟩ w := rfl
  rw [Sem.run_bind, this, Result.andThen_ok]
  have hb : (Instr.sliceBounds false n n none none none).run P w = .ok (0, n, n) w := rfl
  rw [Sem.run_bind, hb, Result.andThen_ok]
  simp only []
  rw [Sem.run_bind, hs.size w, Result.andThen_ok]
  simp only [Nat.zero_mul, add_none, Nat.add_zero, ite_self, Nat.sub_zero]
  rfl

theorem opS_cap {T ty : TypeId} {E : outParam TypeId} [hT : SlT P T E] (a : Option Addr) (n c : Nat) : opS P (S.bi .cap #[T] ty [.slice a n c]) K w = K (.int .i64 c) w := by
  show opS P (do pure (Next.value (← Builtin.cap_ #[T] ty #[.slice a n c]))) K w = _
  rw [opS_bind]
  unfold Builtin.cap_
  simp only [List.getElem?_toArray, List.getElem?_cons_zero]
  rw [Sem.run_bind, run_underlying_of hT.und, Result.andThen_ok]
  rfl

theorem opS_slc0 {T E sz : Nat} {ag : Bool} [hT : SlT P T E] [hs : Sz P E sz ag] {b o n c : Nat} {k : IntKind} : opS P (S.slc T (.slice (some ⟨b, o, none⟩) n c) (some (.int k 0)) none none) K w = K (.slice (some ⟨b, o, none⟩) n c) w := by
  rw [opS_slice (run_boundsL (lo := 0) (by omega) (by omega))]
  simp [add_none]

theorem wr_nil (w : World) (b o : Nat) : wr w b o [] = w := by
  unfold wr
  split
  · rename_i c T fz h
    rw [splice_nil]
    simp only [Array.toArray_toList]
    unfold upd
    have : w.heap.setIfInBounds b (.cells c T fz) = w.heap := by
      apply Array.ext_getElem?
      intro i
      rw [Array.getElem?_setIfInBounds]
      by_cases e : b = i
      · subst e
        rw [if_pos rfl, h, if_pos (lt_of_heap h)]
      · rw [if_neg e]
    rw [this]
  · rfl

/-- 'copy' of as many as there is room for -/
theorem s_copy {T T2 E sz : Nat} {ag : Bool} {ty : TypeId} [hT : SlT P T E] [hs : Sz P E sz ag] {b o n c m : Nat} {u : Value} {k : List Value} {cs : Array Value} {TT : TypeId} (hb : w.heap[b]? = some (.cells cs TT (0, 0)))
    (hu : Rd sz w u m k) (hk : k.all S.oneCell = true) (hm : m ≤ n) (hn : o + n * sz ≤ cs.size) : opS P (S.bi .copy #[T, T2] ty [.slice (some ⟨b, o, none⟩) n c, u]) K w = K (.int .i64 m) (wr w b o k) := by
  show opS P (do pure (Next.value (← Builtin.copy_ #[T, T2] ty #[.slice (some ⟨b, o, none⟩) n c, u]))) K w = _
  rw [opS_bind]
  unfold Builtin.copy_
  simp only [List.getElem?_toArray, List.getElem?_cons_zero, List.getElem?_cons_succ]
  rw [Sem.run_bind, run_underlying_of hT.und, Result.andThen_ok]
  simp only []
  obtain ⟨ua, uc, rfl⟩ := hu.form
  have hlen : (Builtin.lenOf (.slice ua m uc)).run P w = .ok m w := rfl
  have hmin : Nat.min m n = m := Nat.min_eq_left hm
  rw [Sem.run_bind, hlen, Result.andThen_ok, hmin, Sem.run_bind, hs.size w, Result.andThen_ok, Sem.run_bind, run_firstCells hu, Result.andThen_ok]
  have hkl := hu.len
  have hmul : m * sz ≤ n * sz := Nat.mul_le_mul_right _ hm
  have hst := run_storeCells (P := P) k w cs 0 o hb hk (by omega) (fun j hj => by simp)
  rw [Sem.run_bind]
  simp only [Nat.add_zero] at hst
  rw [hst, Result.andThen_ok]
  unfold wr
  rw [hb]
  rfl

theorem opS_mksc {T E n by_ : Nat} {ag : Bool} {z : Value} [hT : SlT P T E] [hs : Sz P E n ag] [hb : By P E by_] [hz : ZV P E z] (k k' : IntKind) (len cap : Int) (h0 : 0 ≤ len) (h0' : len ≤ cap) (h1 : by_ * cap ≤ 2 ^ 48) (h2 : cap < 2 ^ 62)
    (hn : z.cells.size = n) (hn0 : 0 < n) : opS P (S.mks T (.int k len) (.int k' cap)) K w = K (.slice (some ⟨w.heap.size, 0, none⟩) len.toNat cap.toNat) (w.alloc (.cells (zeros cap.toNat z.cells.toList).toArray E)) := by
  obtain ⟨i, hi, hib⟩ := hb.bytes
  unfold S.mks
  rw [opS_bind]
  unfold Instr.makeSlice
  rw [Sem.run_bind, run_underlying_of hT.und, Result.andThen_ok]
  have hw : IntKind.i64.wrap len = len := wrap_i64 (by omega)
  have hw' : IntKind.i64.wrap cap = cap := wrap_i64 (by omega)
  simp only [asInt, asIntOf, pure_bind, hw, hw']
  rw [Sem.run_bind, hi w, Result.andThen_ok]
  have ht : (decide (cap < 0) || decide ((i.bytes : Int) * cap > 2 ^ 48)) = false := by
    rw [hib]; simp; omega
  have hc : ((decide (cap < 0) || decide ((i.bytes : Int) * cap > 2 ^ 48)) || decide (len < 0) || decide (len > cap)) = false := by
    rw [ht]; simp; omega
  simp only [hc, Bool.false_eq_true, if_false]
  have har : (askRoom (cap.toNat * i.bytes)).run P w = .ok () w := by
    unfold askRoom; split <;> rfl
  rw [Sem.run_bind, har, Result.andThen_ok, Sem.run_bind, hs.size w, Result.andThen_ok]
  have hrz := range_zeros cap.toNat z.cells
  rw [hn] at hrz
  by_cases hz0 : cap.toNat * n = 0
  · rw [if_pos hz0, Sem.run_bind]
    have hl0 : cap.toNat = 0 := by
      rcases Nat.mul_eq_zero.1 hz0 with h | h
      · exact h
      · omega
    have e0 : Array.range 0 = #[] := by simp
    simp only [hl0, Nat.zero_mul, e0, Array.map_empty]
    rfl
  · rw [if_neg hz0, Sem.run_bind, hz.zero w, Result.andThen_ok, Sem.run_bind, hn, hrz]
    rfl

/-- 'append([]T(nil), make([]T, n)...)' -/
theorem s_appmk {T T2 E sz by_ : Nat} {ag : Bool} {z : Value} {ty : TypeId} [hT : SlT P T E] (hT2 : P.underlying T2 = some (.int .i64)) [hs : Sz P E sz ag] [hb : By P E by_] [hz : ZV P E z] {n : Nat} (hn : 0 < n) (hzn : z.cells.size = sz) (hsz : 0 < sz) (hby : 0 < by_) (hroom : (2 * n + 192) * by_ ≤ 2 ^ 48)
    (h : ∀ c w', Own E sz w' (.slice (some ⟨w.heap.size, 0, none⟩) n c) n (zeros n z.cells.toList) → c < 2 ^ 63 → Fr none_ w w' → K (.slice (some ⟨w.heap.size, 0, none⟩) n c) w') : opS P (S.bi .append #[T, T2] ty [.slice none 0 0, .int .i64 n]) K w := by
  obtain ⟨inf, hi, hib⟩ := hb.bytes
  show opS P (do pure (Next.value (← Builtin.append_ #[T, T2] ty #[.slice none 0 0, .int .i64 n]))) K w
  rw [opS_bind]
  unfold Builtin.append_
  simp only [List.getElem?_toArray, List.getElem?_cons_zero, List.getElem?_cons_succ]
  rw [Sem.run_bind, run_underlying_of hT.und, Result.andThen_ok]
  simp only []
  rw [Sem.run_bind, hs.size w, Result.andThen_ok, Sem.run_bind, run_underlying_of hT2, Result.andThen_ok]
  have hnn : (2 * n + 192) ≤ 2 ^ 48 := Nat.le_trans (Nat.le_mul_of_pos_right _ hby) hroom
  have hw : IntKind.i64.wrap (n : Int) = n := wrap_i64 (by omega)
  simp only [pure_bind, Bool.not_true, Bool.false_eq_true, if_false, if_true, asInt, asIntOf, hw]
  rw [if_neg (by omega)]
  have hnb : n * by_ ≤ 2 ^ 48 := Nat.le_trans (Nat.mul_le_mul_right by_ (by omega)) hroom
  rw [Sem.run_bind, hi w, Result.andThen_ok, if_neg (by rw [hib]; omega)]
  simp only [Int.toNat_natCast, Nat.zero_add]
  rw [if_neg (by omega)]
  have hg : ¬ (((n : Nat) : Int) > IntKind.i64.max) := by
    have e2 : IntKind.i64.max = 9223372036854775807 := rfl
    rw [e2]; omega
  have hg2 : ¬ (Builtin.nextslicecap n 0 * inf.bytes > 2 ^ 48) := by
    have : Builtin.nextslicecap n 0 = n := by unfold Builtin.nextslicecap; rw [if_pos (by omega)]
    rw [this, hib]; omega
  have har : ∀ x w', (askRoom x).run P w' = .ok () w' := by
    intro x w'; unfold askRoom; split <;> rfl
  rw [Sem.run_bind, hi w, Result.andThen_ok, if_neg (by simp; omega), Sem.run_bind, hi w, Result.andThen_ok, if_neg hg2]
  rw [Sem.run_bind, run_choose rfl, Result.andThen_ok, Sem.run_bind, hi _, Result.andThen_ok, Sem.run_bind, har, Result.andThen_ok]
  have hfc : ∀ w', (Builtin.firstCells sz 0 (.slice none 0 0)).run P w' = .ok #[] w' := fun _ => rfl
  rw [Sem.run_bind, hfc, Result.andThen_ok, if_neg (by have := Nat.mul_pos hn hsz; omega), Sem.run_bind, Sem.run_bind, hz.zero, Result.andThen_ok, Sem.run_pure, Result.andThen_ok, Sem.run_bind, hz.zero, Result.andThen_ok, run_zeroCells_ok, run_zeroCells_ok]
  have hq : ∀ q : Nat, (Question.appendCap n 0 E).cut q = n + q % (2 ^ 63 - n) := fun _ => rfl
  rw [hq]
  have hlt : ∀ q : Nat, q % (2 ^ 63 - n) < 2 ^ 63 - n := fun q => Nat.mod_lt _ (by omega)
  have hx2 := hlt (w.tape w.drawn (Question.appendCap n 0 E))
  generalize w.tape w.drawn (Question.appendCap n 0 E) % (2 ^ 63 - n) = x at *
  have hx : n + x - n = x := by omega
  rw [hx]
  have hnew : ∀ (cs : Array Value) (w' : World), (newRow E cs).run P w' = .ok ⟨w'.heap.size, 0, none⟩ (w'.alloc (.cells cs E)) := fun _ _ => rfl
  rw [Sem.run_bind, hnew, Result.andThen_ok]
  simp only [Sem.run_pure]
  have hcs : (#[] ++ (zeros n z.cells.toList).toArray ++ (zeros x z.cells.toList).toArray).toList = zeros n z.cells.toList ++ zeros x z.cells.toList := by simp
  have hzl : ∀ y, (zeros y z.cells.toList).length = y * sz := fun y => by rw [zeros_length]; simp [hzn]
  refine h _ _ (.inr ⟨w.heap.size, 0, n + x, _, rfl, heap_alloc_new w.drew _, by omega, ?_, ?_⟩) (by omega) ((Fr.drew w).trans (Fr.alloc _ _ rfl))
  · rw [← Array.length_toList, hcs, List.length_append, hzl, hzl, Nat.add_mul]; omega
  · rw [hcs, List.drop_zero, List.take_append_of_le_length (by rw [hzl]; exact Nat.le_refl _), List.take_of_length_le (by rw [hzl]; exact Nat.le_refl _)]

theorem s_bs2o {T E : TypeId} {ag : Bool} {z : Value} [hT : SlT P T E] [hs : Sz P E 1 ag] [hz : ZV P E z] {x y : Value} (hx : S.oneCell x = true) (hy : S.oneCell y = true) (hzn : z.cells.size = 1)
    (h : ∀ v' o, OwnE E 1 (w.alloc o) v' [[x], [y]] → loose o = true → New w v' → K v' (w.alloc o)) : opS P (S.buildS T 2 [(0, x), (1, y)]) K w := by
  have hc : x.cells = #[x] := by cases x <;> first | rfl | cases hx
  have hc' : y.cells = #[y] := by cases y <;> first | rfl | cases hy
  unfold S.buildS
  rw [opS_bind]
  unfold Instr.buildSlice
  rw [Sem.run_bind, run_underlying_of hT.und, Result.andThen_ok]
  simp only []
  rw [Sem.run_bind, hs.size w, Result.andThen_ok]
  simp only [Nat.mul_one]
  rw [if_neg (by omega), if_neg (by omega), Sem.run_bind, hz.zero w, Result.andThen_ok]
  have hr := range_zeros 2 z.cells
  rw [hzn] at hr
  simp only [pure_bind, hzn, Nat.mul_one] at hr ⊢
  rw [hr]
  have hzl : z.cells.toList.length = 1 := by simp [hzn]
  have hz2 : (zeros 2 z.cells.toList).length = 2 := by rw [zeros_length, hzl]
  rw [fill_cons (off := 0) (size := 1) (by simp) (by rw [hc]; rfl) (by simp [hz2]), hc]
  have e1 : (splice (zeros 2 z.cells.toList).toArray.toList 0 #[x].toList).length = 2 := by rw [splice_length] <;> simp [hz2]
  rw [fill_cons (off := 1) (size := 1) (by simp) (by rw [hc']; rfl) (by rw [List.size_toArray, e1]; exact Nat.le_refl _), hc']
  have e : splice (splice (zeros 2 z.cells.toList).toArray.toList 0 #[x].toList).toArray.toList 1 #[y].toList = [x, y] := by
    match hzs : zeros 2 z.cells.toList, hz2 with
    | [a, b], _ => rfl
  rw [e]
  simp only [Instr.fill]
  refine h _ _ ⟨.inr ⟨w.heap.size, 0, 2, #[x, y], rfl, heap_alloc_new _ _, by simp, by simp, by simp⟩, by simp⟩ rfl fun b hb => ?_
  cases hb; exact Nat.le_refl _

theorem s_bs2c {T E : TypeId} {ag : Bool} {z : Value} [hT : SlT P T E] [hs : Sz P E 1 ag] [hz : ZV P E z] {x y : Value} (hx : S.oneCell x = true) (hy : S.oneCell y = true) (hzn : z.cells.size = 1)
    (h : ∀ v' w', OwnE E 1 w' v' [[x], [y]] → Fr none_ w w' → New w v' → K v' w') : opS P (S.buildS T 2 [(0, x), (1, y)]) K w :=
  s_bs2o hx hy hzn fun v' o h1 h2 h3 => h v' _ h1 (Fr.alloc _ _ h2) h3

theorem RdE.cap {sz : Nat} {v : Value} {es : List (List Value)} (h : RdE sz w v es) : ∃ a c, v = .slice a es.length c ∧ es.length ≤ c := by
  rcases h.1 with ⟨⟨a, c, rfl⟩, h2, _⟩ | ⟨b, o, c, cs, T, fz, rfl, _, hc, _⟩
  · exact ⟨a, c, by rw [h2], by omega⟩
  · exact ⟨_, c, rfl, hc⟩

/-- 'v[:k]' -/
theorem s_slcH {T E sz : Nat} {ag : Bool} [hT : SlT P T E] [hs : Sz P E sz ag] {v : Value} {es : List (List Value)} (h : RdE sz w v es) {k : Nat} (hk : k ≤ es.length) (hK : ∀ v', RdE sz w v' (es.take k) → K v' w) : opS P (S.slc T v none (some (.int .i64 k)) none) K w := by
  obtain ⟨a, c, rfl, hc⟩ := h.cap
  rw [opS_slice (run_boundsH (hi := (k : Int)) (by omega) (by omega))]
  have := h.part (l := 0) (m := k) (by omega) hk
  rw [List.drop_zero] at this
  exact hK _ this

/-- 'v[k:]' -/
theorem s_slcL {T E sz : Nat} {ag : Bool} [hT : SlT P T E] [hs : Sz P E sz ag] {v : Value} {es : List (List Value)} (h : RdE sz w v es) {k : Nat} (hk : k ≤ es.length) (hK : ∀ v', RdE sz w v' (es.drop k) → K v' w) : opS P (S.slc T v (some (.int .i64 k)) none none) K w := by
  obtain ⟨a, c, rfl, hc⟩ := h.cap
  rw [opS_slice (run_boundsL (lo := (k : Int)) (by omega) (by omega))]
  have := h.part (l := k) (m := es.length) hk (Nat.le_refl _)
  rw [List.take_length] at this
  exact hK _ this

/-! ### What one holds, by cells -/

/-- a part of what one holds is written -/
theorem Own.copy {E b o c n m : Nat} {l js k : List Value} (h : Own E 1 w (.slice (some ⟨b, o, none⟩) (n + m) c) (n + m) (l ++ js)) (hl : l.length = n) (hk : k.length = m) :
    Own E 1 (wr w b (o + n) k) (.slice (some ⟨b, o, none⟩) (n + m) c) (n + m) (l ++ k) := by
  rcases h with ⟨h, _⟩ | ⟨b', o', c', cs, hv, hb, hc, ho, he⟩
  · cases h
  · simp only [Value.slice.injEq, Option.some.injEq, Addr.mk.injEq, and_true, true_and] at hv
    obtain ⟨⟨rfl, rfl⟩, rfl⟩ := hv
    have hsz : cs.toList.length = cs.size := Array.length_toList
    refine .inr ⟨b, o, c, (splice cs.toList (o + n) k).toArray, rfl, ?_, hc, ?_, ?_⟩
    · rw [heap_wr, if_pos rfl, hb]; rfl
    · rw [List.size_toArray, splice_length (by omega)]; simpa using ho
    · have := splice_window (l := cs.toList) (k := k) (o := o) (a := n) (by omega)
      show l ++ k = List.take _ (List.drop o (splice cs.toList (o + n) k))
      rw [Nat.mul_one, ← hk, this]
      congr 1
      have := congrArg (List.take n) he
      rw [← hl, List.take_left, List.take_take] at this
      rw [hl, Nat.mul_one, Nat.min_eq_left (by omega)] at this
      exact this

theorem Own.splice {E b o c n a : Nat} {l k : List Value} (h : Own E 1 w (.slice (some ⟨b, o, none⟩) n c) n l) (ha : a + k.length ≤ n) :
    Own E 1 (wr w b (o + a) k) (.slice (some ⟨b, o, none⟩) n c) n (Gx.splice l a k) := by
  rcases h with ⟨h, _⟩ | ⟨b', o', c', cs, hv, hb, hc, ho, rfl⟩
  · cases h
  · simp only [Value.slice.injEq, Option.some.injEq, Addr.mk.injEq, and_true, true_and] at hv
    obtain ⟨⟨rfl, rfl⟩, rfl⟩ := hv
    have hsz : cs.toList.length = cs.size := Array.length_toList
    refine .inr ⟨b, o, c, (Gx.splice cs.toList (o + a) k).toArray, rfl, ?_, hc, ?_, ?_⟩
    · rw [heap_wr, if_pos rfl, hb]; rfl
    · rw [List.size_toArray, splice_length (by omega)]; simpa using ho
    · rw [Nat.mul_one, splice_sub (by omega) ha]

/-- more of what one holds, as far as there is room -/
theorem Own.more {E b o c n : Nat} {l : List Value} (h : Own E 1 w (.slice (some ⟨b, o, none⟩) n c) n l) {m : Nat} (hm : n + m ≤ c) :
    ∃ js : List Value, js.length = m ∧ Own E 1 w (.slice (some ⟨b, o, none⟩) (n + m) c) (n + m) (l ++ js) := by
  have hl := h.rd.len
  rcases h with ⟨h, _⟩ | ⟨b', o', c', cs, hv, hb, hc, ho, rfl⟩
  · cases h
  · simp only [Value.slice.injEq, Option.some.injEq, Addr.mk.injEq, and_true, true_and] at hv
    obtain ⟨⟨rfl, rfl⟩, rfl⟩ := hv
    have hsz : cs.toList.length = cs.size := Array.length_toList
    refine ⟨(cs.toList.drop (o + n)).take m, by rw [List.length_take, List.length_drop]; omega, .inr ⟨b, o, c, cs, rfl, hb, hm, ho, ?_⟩⟩
    rw [Nat.mul_one, Nat.mul_one, List.take_add, List.drop_drop]

theorem Own.less {E b o c n m : Nat} {l : List Value} (h : Own E 1 w (.slice (some ⟨b, o, none⟩) n c) n l) (hm : m ≤ n) : Own E 1 w (.slice (some ⟨b, o, none⟩) m c) m (l.take m) := by
  rcases h with ⟨h, _⟩ | ⟨b', o', c', cs, hv, hb, hc, ho, rfl⟩
  · cases h
  · simp only [Value.slice.injEq, Option.some.injEq, Addr.mk.injEq, and_true, true_and] at hv
    obtain ⟨⟨rfl, rfl⟩, rfl⟩ := hv
    refine .inr ⟨b, o, c, cs, rfl, hb, by omega, ho, ?_⟩
    rw [List.take_take, Nat.mul_one, Nat.mul_one, Nat.min_eq_left hm]

theorem Own.cells {E b o c n : Nat} {l : List Value} (h : Own E 1 w (.slice (some ⟨b, o, none⟩) n c) n l) : ∃ cs : Array Value, w.heap[b]? = some (.cells cs E (0, 0)) ∧ n ≤ c ∧ o + c ≤ cs.size := by
  rcases h with ⟨h, _⟩ | ⟨b', o', c', cs, hv, hb, hc, ho, _⟩
  · cases h
  · simp only [Value.slice.injEq, Option.some.injEq, Addr.mk.injEq, and_true, true_and] at hv
    obtain ⟨⟨rfl, rfl⟩, rfl⟩ := hv
    exact ⟨cs, hb, hc, by omega⟩

end Go.Gx
