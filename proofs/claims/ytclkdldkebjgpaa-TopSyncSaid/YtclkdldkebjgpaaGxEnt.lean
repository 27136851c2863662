/- Bytes that are compared; entries in order; what changes make of them. -/
import Derived.Test.YtclkdldkebjgpaaGxFrame
import Derived.Test.YtclkdldkebjgpaaGxList
namespace Go.Gx
open Go
variable {P : Program} {K : Value → World → Prop} {w : World}

/-! ### A function without a body -/

theorem run_extern {f : FuncId} {fn : Func} {e : Array Value → Sem Value} (hf : P.funcs[f]? = some fn) (hn : (fn.name == "runtime.NumGoroutine") = false) (hb : fn.body.isNone = true) (h1 : Extern.findNext fn = none) (h2 : Extern.find fn = some e) (args : Array Value) :
    (callFunc f args).run P w = (do pure (Next.value (← e args)) : Sem Next).run P w := by
  unfold callFunc
  have hp : (program).run P w = .ok P w := rfl
  rw [Sem.run_bind, hp, Result.andThen_ok]
  simp only [hf, hn, hb, h1, h2, Bool.false_eq_true, if_false, if_true]
  rw [Sem.run_bind]
  have hm : (mark (.extern f)).run P w = .ok () w := rfl
  rw [hm, Result.andThen_ok]

theorem s_extern {f : FuncId} {fn : Func} {e : Array Value → Sem Value} (hf : P.funcs[f]? = some fn) (hn : (fn.name == "runtime.NumGoroutine") = false) (hb : fn.body.isNone = true) (h1 : Extern.findNext fn = none) (h2 : Extern.find fn = some e) {args : List Value} {v : Value}
    (hr : (e args.toArray).run P w = .ok v w) (h : K v w) : opS P (S.cl f args) K w := by
  have hx : (S.cl f args).run P w = .ok (.value v) w := by
    have : (S.cl f args).run P w = (callFunc f (#[] ++ args.toArray ++ #[])).run P w := rfl
    rw [this]
    have e2 : (#[] ++ args.toArray ++ #[] : Array Value) = args.toArray := by simp
    rw [e2, run_extern hf hn hb h1 h2, Sem.run_bind, hr]
    rfl
  rw [opS_value hx]
  exact h

theorem run_loadBytes {b : Nat} {c : Array Value} {T : TypeId} {fz : Nat × Nat} (h : w.heap[b]? = some (.cells c T fz)) : ∀ (bs : List Int) (o : Nat) (pre : List Int), o + bs.length ≤ c.size → (c.toList.drop o).take bs.length = bs.map u8 →
    (Extern.Bytes.loadBytes ⟨b, o, none⟩ bs.length (strOf pre)).run P w = .ok (strOf (pre ++ bs)) w
  | [], o, pre, _, _ => by simp [Extern.Bytes.loadBytes]
  | x :: bs, o, pre, hle, he => by
    simp only [List.length_cons] at hle he ⊢
    have hlt : o < c.size := by omega
    have hcl : c.toList.length = c.size := Array.length_toList
    rw [List.drop_eq_getElem_cons (by omega), List.take_succ_cons, List.map_cons, List.cons.injEq] at he
    have hc : w.cell? ⟨b, o, none⟩ = some (u8 x) := by
      rw [cell_rd, rd, h]
      show c[o]? = _
      rw [Array.getElem?_eq_getElem hlt, ← he.1]
      simp
    unfold Extern.Bytes.loadBytes
    rw [Sem.run_bind, run_load, hc]
    simp only [Result.andThen_ok]
    have e1 : (strOf pre).push x.toNat.toUInt8 = strOf (pre ++ [x]) := by simp [strOf, ByteArray.push]
    rw [add_none, e1, run_loadBytes h bs (o + 1) (pre ++ [x]) (by omega) he.2, List.append_assoc]
    rfl

theorem run_bytesOf {v : Value} {bs : List Int} (h : ByR w v bs) : (Extern.Bytes.bytesOf v).run P w = .ok (strOf bs) w := by
  have h1 := h.1.1
  rw [flat_cell1, List.length_map] at h1
  rcases h1 with ⟨⟨a, c, rfl⟩, h2, _⟩ | ⟨b, o, c, cs, T, fz, rfl, hb, hc, ho, hl⟩
  · obtain rfl := List.eq_nil_of_length_eq_zero h2
    cases a <;> rfl
  · have := run_loadBytes (P := P) hb bs o [] (by omega) (by rw [hl, Nat.mul_one])
    exact this

/-! ### Addresses as numbers -/

def macN (m : Mac) : Int := ((((m.b0 * 256 + m.b1) * 256 + m.b2) * 256 + m.b3) * 256 + m.b4) * 256 + m.b5
def macL (m : Mac) : List Int := [m.b0, m.b1, m.b2, m.b3, m.b4, m.b5]
def cmpI (a b : Int) : Int := if a < b then -1 else if b < a then 1 else 0
def cmpM (a b : Mac) : Int := cmpI (macN a) (macN b)

theorem macL_ok {m : Mac} (h : m.ok) : ∀ x ∈ macL m, isB x := by
  obtain ⟨h0, h1, h2, h3, h4, h5⟩ := h
  intro x hx
  simp only [macL, List.mem_cons, List.not_mem_nil, or_false] at hx
  rcases hx with rfl | rfl | rfl | rfl | rfl | rfl <;> assumption

theorem macN_inj {a b : Mac} (ha : a.ok) (hb : b.ok) (h : macN a = macN b) : a = b := by
  obtain ⟨a0, a1, a2, a3, a4, a5⟩ := ha
  obtain ⟨b0, b1, b2, b3, b4, b5⟩ := hb
  unfold macN at h
  unfold isB at *
  apply Mac.ext <;> omega
theorem macN_range {a : Mac} (ha : a.ok) : 0 ≤ macN a ∧ macN a < 281474976710656 := by
  obtain ⟨a0, a1, a2, a3, a4, a5⟩ := ha
  unfold macN
  unfold isB at *
  omega

theorem strOf_size (l : List Int) : (strOf l).size = l.length := by simp [strOf, ByteArray.size]
theorem strOf_get (l : List Int) (i : Nat) (h : i < l.length) : (strOf l)[i]! = UInt8.ofNat (l[i]).toNat := by
  have h2 : i < (strOf l).size := by rw [strOf_size]; exact h
  rw [getElem!_pos _ i h2]
  show (strOf l).data[i] = _
  simp [strOf]

theorem byte_lt {a b : Int} (ha : isB a) (hb : isB b) : UInt8.ofNat a.toNat < UInt8.ofNat b.toNat ↔ a < b := by
  rw [UInt8.lt_iff_toNat_lt]
  simp only [UInt8.toNat_ofNat']
  unfold isB at ha hb
  omega
theorem byte_eq {a b : Int} (ha : isB a) (hb : isB b) : UInt8.ofNat a.toNat = UInt8.ofNat b.toNat ↔ a = b := ⟨byte_inj ha hb, fun h => by rw [h]⟩

theorem cmp_mac {a b : Mac} (ha : a.ok) (hb : b.ok) : Extern.BytealgCompare.cmp (strOf (macL a)) (strOf (macL b)) = cmpM a b := by
  unfold Extern.BytealgCompare.cmp
  have sa : (strOf (macL a)).size = 6 := by rw [strOf_size]; rfl
  have sb : (strOf (macL b)).size = 6 := by rw [strOf_size]; rfl
  rw [sa, sb]
  have gA : ∀ i (h : i < 6), (strOf (macL a))[i]! = UInt8.ofNat ((macL a)[i]'h).toNat := fun i h => strOf_get (macL a) i h
  have gB : ∀ i (h : i < 6), (strOf (macL b))[i]! = UInt8.ofNat ((macL b)[i]'h).toNat := fun i h => strOf_get (macL b) i h
  clear sa sb
  generalize strOf (macL a) = A at *
  generalize strOf (macL b) = B at *
  obtain ⟨a0, a1, a2, a3, a4, a5⟩ := ha
  obtain ⟨b0, b1, b2, b3, b4, b5⟩ := hb
  have hr : List.range (min 6 6) = [0, 1, 2, 3, 4, 5] := rfl
  rw [hr]
  have A0 : A[0]! = UInt8.ofNat a.b0.toNat := gA 0 (by decide)
  have A1 : A[1]! = UInt8.ofNat a.b1.toNat := gA 1 (by decide)
  have A2 : A[2]! = UInt8.ofNat a.b2.toNat := gA 2 (by decide)
  have A3 : A[3]! = UInt8.ofNat a.b3.toNat := gA 3 (by decide)
  have A4 : A[4]! = UInt8.ofNat a.b4.toNat := gA 4 (by decide)
  have A5 : A[5]! = UInt8.ofNat a.b5.toNat := gA 5 (by decide)
  have B0 : B[0]! = UInt8.ofNat b.b0.toNat := gB 0 (by decide)
  have B1 : B[1]! = UInt8.ofNat b.b1.toNat := gB 1 (by decide)
  have B2 : B[2]! = UInt8.ofNat b.b2.toNat := gB 2 (by decide)
  have B3 : B[3]! = UInt8.ofNat b.b3.toNat := gB 3 (by decide)
  have B4 : B[4]! = UInt8.ofNat b.b4.toNat := gB 4 (by decide)
  have B5 : B[5]! = UInt8.ofNat b.b5.toNat := gB 5 (by decide)
  clear gA gB
  simp only [List.find?_cons, List.find?_nil, A0, A1, A2, A3, A4, A5, B0, B1, B2, B3, B4, B5]
  have hne : ∀ x y : Int, isB x → isB y → (UInt8.ofNat x.toNat != UInt8.ofNat y.toNat) = decide (x ≠ y) := by
    intro x y hx hy
    rw [Bool.eq_iff_iff, bne_iff_ne, decide_eq_true_iff, ne_eq, byte_eq hx hy]
  rw [hne _ _ a0 b0, hne _ _ a1 b1, hne _ _ a2 b2, hne _ _ a3 b3, hne _ _ a4 b4, hne _ _ a5 b5]
  unfold cmpM cmpI macN
  have fin : ∀ (x y : Int) (X Y : UInt8), isB x → isB y → X = UInt8.ofNat x.toNat → Y = UInt8.ofNat y.toNat → (if X < Y then (-1 : Int) else 1) = if x < y then -1 else 1 := by
    intro x y X Y hx hy e1 e2
    rw [e1, e2]
    by_cases hxy : x < y
    · rw [if_pos ((byte_lt hx hy).2 hxy), if_pos hxy]
    · rw [if_neg (fun h => hxy ((byte_lt hx hy).1 h)), if_neg hxy]
  by_cases h0 : a.b0 = b.b0
  case neg =>
    simp only [h0, ne_eq, not_false_eq_true, decide_true]
    rw [fin a.b0 b.b0 _ _ a0 b0 A0 B0]
    unfold isB at *
    split <;> split <;> (try split) <;> omega
  by_cases h1 : a.b1 = b.b1
  case neg =>
    simp only [h0, h1, ne_eq, not_true_eq_false, not_false_eq_true, decide_true, decide_false]
    rw [fin a.b1 b.b1 _ _ a1 b1 A1 B1]
    unfold isB at *
    split <;> split <;> (try split) <;> omega
  by_cases h2 : a.b2 = b.b2
  case neg =>
    simp only [h0, h1, h2, ne_eq, not_true_eq_false, not_false_eq_true, decide_true, decide_false]
    rw [fin a.b2 b.b2 _ _ a2 b2 A2 B2]
    unfold isB at *
    split <;> split <;> (try split) <;> omega
  by_cases h3 : a.b3 = b.b3
  case neg =>
    simp only [h0, h1, h2, h3, ne_eq, not_true_eq_false, not_false_eq_true, decide_true, decide_false]
    rw [fin a.b3 b.b3 _ _ a3 b3 A3 B3]
    unfold isB at *
    split <;> split <;> (try split) <;> omega
  by_cases h4 : a.b4 = b.b4
  case neg =>
    simp only [h0, h1, h2, h3, h4, ne_eq, not_true_eq_false, not_false_eq_true, decide_true, decide_false]
    rw [fin a.b4 b.b4 _ _ a4 b4 A4 B4]
    unfold isB at *
    split <;> split <;> (try split) <;> omega
  by_cases h5 : a.b5 = b.b5
  case neg =>
    simp only [h0, h1, h2, h3, h4, h5, ne_eq, not_true_eq_false, not_false_eq_true, decide_true, decide_false]
    rw [fin a.b5 b.b5 _ _ a5 b5 A5 B5]
    unfold isB at *
    split <;> split <;> (try split) <;> omega
  simp [h0, h1, h2, h3, h4, h5]

/-- two slices of bytes that are compared -/
theorem s_bytecmp {f : FuncId} {fn : Func} (hf : P.funcs[f]? = some fn) (hn : (fn.name == "runtime.NumGoroutine") = false) (hb : fn.body.isNone = true) (h1 : Extern.findNext fn = none) (h2 : Extern.find fn = some Extern.BytealgCompare.compare) {a b : Value} {x y : List Int}
    (ha : ByR w a x) (hb2 : ByR w b y) (h : K (.int .i64 (Extern.BytealgCompare.cmp (strOf x) (strOf y))) w) : opS P (S.cl f [a, b]) K w := by
  refine s_extern hf hn hb h1 h2 (v := .int .i64 (Extern.BytealgCompare.cmp (strOf x) (strOf y))) ?_ h
  show (do pure (goInt (Extern.BytealgCompare.cmp (← Extern.Bytes.bytesOf a) (← Extern.Bytes.bytesOf b))) : Sem Value).run P w = _
  rw [Sem.run_bind, run_bytesOf ha, Result.andThen_ok, Sem.run_bind, run_bytesOf hb2, Result.andThen_ok]
  rfl

end Go.Gx
