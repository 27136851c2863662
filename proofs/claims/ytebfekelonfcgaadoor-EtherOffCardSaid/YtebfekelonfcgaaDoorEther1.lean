/- The bytes of a frame. -/
import Derived.Test.YtebfekelonfcgaaDoorEther1T
import Derived.Test.YtebfekelonfcgaaDoorBuf
import Derived.Test.YtebfekelonfcgaaDoorEther0
set_option linter.unusedVariables false
set_option linter.unusedSimpArgs false
set_option maxRecDepth 100000
namespace Go.Gx.S
open Go Go.Gx Go.Proofs
variable {K : Value → World → Prop} {w : World}

def macB (m : Mac) : List Int := [m.b0, m.b1, m.b2, m.b3, m.b4, m.b5]
def two (n : Int) : List Int := [n / 256, n % 256]
/-- a frame's bytes; bs: its body's -/
def Frm.bytes (f : Frm) (bs : List Int) : List Int := macB f.dst ++ macB f.src ++ (if f.tagged then two 33024 ++ two (8192 * f.prio + f.vlan) else []) ++ two f.type ++ bs

theorem macB_ok {m : Mac} (h : m.ok) : ∀ x ∈ macB m, isB x := by
  obtain ⟨h0, h1, h2, h3, h4, h5⟩ := h
  intro x hx
  simp only [macB, List.mem_cons, List.not_mem_nil, or_false] at hx
  rcases hx with rfl | rfl | rfl | rfl | rfl | rfl <;> assumption
theorem two_ok {n : Int} (h0 : 0 ≤ n) (h1 : n ≤ 65535) : ∀ x ∈ two n, isB x := by
  intro x hx
  simp only [two, List.mem_cons, List.not_mem_nil, or_false] at hx
  unfold isB
  rcases hx with rfl | rfl <;> omega
theorem own_by {E : TypeId} {v : Value} {bs : List Int} (h : OwnE E 1 w v (bs.map cell1)) (hb : ∀ x ∈ bs, isB x) : ByR w v bs := ⟨h.rd, hb⟩

theorem by_dst {f : Frm} {b : Nat} {T : TypeId} (hb : w.heap[b]? = some (cellsO f.cells T)) (h : f.ok) : ByR w (.slice (some ⟨b, 0, none⟩) 6 6) (macB f.dst) :=
  ⟨⟨.inr ⟨b, 0, 6, _, T, (0, 0), rfl, hb, Nat.le_refl _, by show 0 + 6 * 1 ≤ 17; decide, rfl⟩, by simp [macB, cell1]⟩, macB_ok h.1⟩
theorem by_src {f : Frm} {b : Nat} {T : TypeId} (hb : w.heap[b]? = some (cellsO f.cells T)) (h : f.ok) : ByR w (.slice (some ⟨b, 6, none⟩) 6 6) (macB f.src) :=
  ⟨⟨.inr ⟨b, 6, 6, _, T, (0, 0), rfl, hb, Nat.le_refl _, by show 6 + 6 * 1 ≤ 17; decide, rfl⟩, by simp [macB, cell1]⟩, macB_ok h.2.1⟩

theorem zalloc_buf : opS Tryd.prog (S.alloc 43) K w = K (pt w.heap.size 0) (w.alloc (cellsO [.slice none 0 0, i64 0, .int .i8 0] 43)) := by
  rw [opS_alloc]; rfl

theorem put_spec {p : Nat} {bs : List Int} {n : Int} (hp : BufR w p bs) (h0 : 0 ≤ n) (h1 : n ≤ 65535) (hl : bs.length ≤ 2 ^ 20) (h : ∀ w', BufR w' p (bs ++ two n) → Fr (fun x => p ≤ x) w w' → K (.tuple #[]) w') :
    CallsR Tryd.prog 22 #[i64 n, pt p 0] K w := by
  apply c22
  unfold p22
  have hlt := hp.lt
  have e : ∀ x, opS Tryd.prog (S.binI .shr (i64 n) (.int .u64 8)) x w = x (i64 (n / 256)) w := fun x => opS_shr .i64 .u64 n 8 (by decide)
  rw [e]
  simp only [push_cast, Nat.reduceAdd, Nat.reduceLeDiff, Nat.reduceLT, Int.reduceToNat, Nat.left_eq_add, Nat.add_eq_left, Nat.add_left_cancel_iff, Nat.reduceEqDiff, Nat.add_assoc, Nat.succ_ne_zero]
  rw [wrap_u8, wrap_u8]
  refine s_bs2c (z := .int .u8 0) rfl rfl rfl fun v w1 hv hF hN => ?_
  refine buf_write (ps := two n) (hp.fr hF fun _ _ h => h) (own_by (E := 5) ?_ (two_ok h0 h1)) (fun _ hb => absurd (hN _ hb) (by omega)) (by simp [two]; omega) fun w2 h2 hF2 => ?_
  · have : n / 256 % 256 = n / 256 := Int.emod_eq_of_lt (by omega) (by omega)
    rw [this] at hv
    exact hv
  · exact h w2 h2 (Fr.trans (hF.mono fun _ _ h => h.elim) hF2)

theorem shl_prio {x : Int} {k : IntKind} (h0 : 0 ≤ x) (h1 : x ≤ 7) (F : Value → World → Prop) : opS Tryd.prog (S.binI .shl (i64 x) (.int k 13)) F w = F (i64 (8192 * x)) w := by
  have := opS_shl (P := Tryd.prog) (K := F) (w := w) .i64 k x 13 (by decide)
  have e : x * 2 ^ 13 = 8192 * x := by omega
  rw [e, wrap_i64 (by omega)] at this
  exact this

theorem enc_spec {f : Frm} {bs : List Int} (hf : FrmR w f bs) (hl : bs.length ≤ 2 ^ 20)
    (h : ∀ v w', ByR w' v (if f.right bs.length then Frm.bytes f bs else []) → New w v → Fr none_ w w' → K (.tuple #[v, i64 (if f.right bs.length then 0 else 1)]) w') : CallsR Tryd.prog 10 #[.agg f.cells.toArray] K w := by
  apply c10
  unfold p10
  obtain ⟨ba, bc, hbd⟩ := hf.2.form
  simp only [push_cast, Nat.reduceAdd, Nat.reduceLeDiff, Nat.reduceLT, Int.reduceToNat, Nat.left_eq_add, Nat.add_eq_left, Nat.add_left_cancel_iff, Nat.reduceEqDiff, Nat.add_assoc, Nat.succ_ne_zero]
  refine right_spec hbd fun w1 hF1 => ?_
  have hb1 := hF1.heap (b := w.heap.size) (o := cellsO f.cells 26) (by simp only [push_cast, Nat.reduceAdd, Nat.reduceLeDiff, Nat.reduceLT, Int.reduceToNat, Nat.left_eq_add, Nat.add_eq_left, Nat.add_left_cancel_iff, Nat.reduceEqDiff, Nat.add_assoc, Nat.succ_ne_zero]) (fun h => h)
  have hF : Fr none_ w w1 := Fr.trans (by repeat' first | with_reducible exact Fr.refl _ _ | with_reducible refine Fr.step_alloc ?_ ?_ | with_reducible refine Fr.step_drew ?_ | with_reducible refine Fr.step_wr ?_ ?_ _ _ | exact rfl | exact Or.inr (by omega) | exact Or.inl rfl | exact Or.inl (Or.inl rfl) | exact Or.inl (Or.inr rfl)) hF1
  have hs1 : w.heap.size < w1.heap.size := lt_of_heap hb1
  clear hF1
  simp only [push_cast, Nat.reduceAdd, Nat.reduceLeDiff, Nat.reduceLT, Int.reduceToNat, Nat.left_eq_add, Nat.add_eq_left, Nat.add_left_cancel_iff, Nat.reduceEqDiff, Nat.add_assoc, Nat.succ_ne_zero]
  refine br_intro (fun hr => ?_) fun hr => ?_
  · rw [if_neg (by simpa using hr), if_neg (by simpa using hr)] at h
    exact h _ _ (ByR.nil _ _ _) (fun b hb => by cases hb) hF
  have hr : f.right bs.length = true := by simpa using hr
  rw [if_pos hr, if_pos hr] at h
  have hok := hf.1
  have hbd1 := hf.2.fr hF fun _ _ h => h
  have hblt : bs ≠ [] → ∀ b, blkS f.body = some b → b < w.heap.size := fun h0 b hb => by
    rcases hf.2.1.1 with ⟨_, e, _⟩ | ⟨b', o, c, cs, T, fz, e, hb', _⟩
    · exact absurd (List.map_eq_nil_iff.1 (List.eq_nil_of_length_eq_zero e)) h0
    · rw [e] at hb; cases hb; exact lt_of_heap hb'
  refine at_w (fun W => W.heap[w.heap.size]? = some (cellsO f.cells 26) ∧ W.heap[w1.heap.size]? = some (cellsO [.slice none 0 0, i64 0, .int .i8 0] 43) ∧ Fr none_ w W) ⟨(heap_alloc_lt hs1).trans hb1, heap_alloc_new _ _, hF.step_alloc rfl⟩ ?_
  rintro w2 ⟨hb2, hp2, hF2⟩
  generalize w1.heap.size = p at *
  simp only [opS_slcA, push_cast, Nat.reduceAdd, Nat.reduceLeDiff, Nat.reduceLT, Int.reduceToNat, Nat.left_eq_add, Nat.add_eq_left, Nat.add_left_cancel_iff, Nat.reduceEqDiff, Nat.add_assoc, Nat.succ_ne_zero]
  refine buf_write0 hp2 (by_dst hb2 hok) (fun e => absurd (Option.some.inj e) (by show w.heap.size ≠ p; omega)) (by show 0 < 6; decide) (by show 6 ≤ 64; decide) fun w3 hp3 hF3 => ?_
  have hb3 := hF3.heap hb2 (by omega)
  have hF3 : Fr none_ w w3 := hF2.trans_new hF3 fun b h1 h2 => by omega
  simp only [push_cast, Nat.reduceAdd, Nat.reduceLeDiff, Nat.reduceLT, Int.reduceToNat, Nat.left_eq_add, Nat.add_eq_left, Nat.add_left_cancel_iff, Nat.reduceEqDiff, Nat.add_assoc, Nat.succ_ne_zero, opS_slcA]
  refine buf_write hp3 (by_src hb3 hok) (fun _ e => absurd (Option.some.inj e) (by show w.heap.size ≠ p; omega)) (by show 6 + 6 ≤ 2 ^ 30; decide) fun w4 hp4 hF4 => ?_
  have hb4 := hF4.heap hb3 (by omega)
  have hF4 : Fr none_ w w4 := hF3.trans_new hF4 fun b h1 h2 => by omega
  simp only [push_cast, Nat.reduceAdd, Nat.reduceLeDiff, Nat.reduceLT, Int.reduceToNat, Nat.left_eq_add, Nat.add_eq_left, Nat.add_left_cancel_iff, Nat.reduceEqDiff, Nat.add_assoc, Nat.succ_ne_zero]
  have hright := hr
  simp only [Frm.right, Bool.and_eq_true, decide_eq_true_eq] at hright
  refine jn0 (fun w' => BufR w' p (macB f.dst ++ macB f.src ++ (if f.tagged then two 33024 ++ two (8192 * f.prio + f.vlan) else [])) ∧ w'.heap[w.heap.size]? = some (cellsO f.cells 26) ∧ Fr none_ w w') ?_ fun j hj => ?_
  · rintro w5 ⟨hp5, hb5, hF5⟩
    have hl5 : (macB f.dst ++ macB f.src ++ (if f.tagged then two 33024 ++ two (8192 * f.prio + f.vlan) else [])).length ≤ 16 := by
      cases f.tagged <;> simp [macB, two]
    simp only [push_cast, Nat.reduceAdd, Nat.reduceLeDiff, Nat.reduceLT, Int.reduceToNat, Nat.left_eq_add, Nat.add_eq_left, Nat.add_left_cancel_iff, Nat.reduceEqDiff, Nat.add_assoc, Nat.succ_ne_zero, hb5]
    refine put_spec hp5 (by omega) (by omega) (by omega) fun w6 hp6 hF6 => ?_
    have hb6 := hF6.heap hb5 (by omega)
    have hF6 : Fr none_ w w6 := hF5.trans_new hF6 fun b h1 h2 => by omega
    simp only [push_cast, Nat.reduceAdd, Nat.reduceLeDiff, Nat.reduceLT, Int.reduceToNat, Nat.left_eq_add, Nat.add_eq_left, Nat.add_left_cancel_iff, Nat.reduceEqDiff, Nat.add_assoc, Nat.succ_ne_zero, hb6]
    refine buf_write hp6 (hf.2.fr hF6 fun _ _ h => h) (fun h0 e => absurd (hblt h0 _ e) (by omega)) ?_ fun w7 hp7 hF7 => ?_
    · rw [List.length_append, show (two f.type).length = 2 from rfl]; omega
    have hF7 : Fr none_ w w7 := hF6.trans_new hF7 fun b h1 h2 => by omega
    simp only [push_cast, Nat.reduceAdd, Nat.reduceLeDiff, Nat.reduceLT, Int.reduceToNat, Nat.left_eq_add, Nat.add_eq_left, Nat.add_left_cancel_iff, Nat.reduceEqDiff, Nat.add_assoc, Nat.succ_ne_zero]
    obtain ⟨b, o, c, z, h1, h2, h3, h4, h5⟩ := hp7
    refine buf_bytes h1 ?_
    have hF8 := hF7.step_drew
    have h2' : Own 5 1 w7.drew _ _ _ := h2
    refine h _ _ ⟨⟨?_, ?_⟩, h5⟩ ?_ hF8
    · rw [flat_cell1, List.length_map]; exact h2'.rd
    · intro e he; obtain ⟨n, _, rfl⟩ := List.mem_map.1 he; rfl
    · intro x hx
      obtain rfl : b = x := Option.some.inj hx
      omega
  · simp only [push_cast, Nat.reduceAdd, Nat.reduceLeDiff, Nat.reduceLT, Int.reduceToNat, Nat.left_eq_add, Nat.add_eq_left, Nat.add_left_cancel_iff, Nat.reduceEqDiff, Nat.add_assoc, Nat.succ_ne_zero, hb4]
    refine br_intro (fun ht => ?_) fun ht => hj _ ⟨by rw [ht]; simpa using hp4, hb4, hF4⟩
    rw [if_pos ht] at hright
    refine put_spec hp4 (by omega) (by omega) (by simp [macB]) fun w5 hp5 hF5 => ?_
    have hb5 := hF5.heap hb4 (by omega)
    have hF5 : Fr none_ w w5 := hF4.trans_new hF5 fun b h1 h2 => by omega
    simp only [push_cast, Nat.reduceAdd, Nat.reduceLeDiff, Nat.reduceLT, Int.reduceToNat, Nat.left_eq_add, Nat.add_eq_left, Nat.add_left_cancel_iff, Nat.reduceEqDiff, Nat.add_assoc, Nat.succ_ne_zero, hb5]
    have h1 := hright.2
    rw [decide_eq_true_eq] at h1
    rw [shl_prio (by omega) (by omega)]
    simp only [push_cast, Nat.reduceAdd, Nat.reduceLeDiff, Nat.reduceLT, Int.reduceToNat, Nat.left_eq_add, Nat.add_eq_left, Nat.add_left_cancel_iff, Nat.reduceEqDiff, Nat.add_assoc, Nat.succ_ne_zero, hb5]
    rw [opS_or 13 (by omega) (by omega) (by omega) (by omega) (by omega) (by omega)]
    refine put_spec hp5 (by omega) (by omega) (by simp [macB, two]) fun w6 hp6 hF6 => ?_
    have hb6 := hF6.heap hb5 (by omega)
    have hF6 : Fr none_ w w6 := hF5.trans_new hF6 fun b h1 h2 => by omega
    refine hj _ ⟨by rw [ht, if_pos rfl, ← List.append_assoc]; exact hp6, hb6, hF6⟩

theorem rtwo_spec {n : Int} (h0 : 0 ≤ n) (h1 : n ≤ 65535) (h : ∀ v w', OwnE 5 1 w' v ((two n).map cell1) → Fr none_ w w' → New w v → K v w') : CallsR Tryd.prog 24 #[i64 n] K w := by
  apply c24
  unfold p24
  rw [opS_quo _ _ _ (by decide), Int.tdiv_eq_ediv_of_nonneg h0, wrap_i64 (by omega)]
  simp only [push_cast, Nat.reduceAdd, Nat.reduceLeDiff, Nat.reduceLT, Int.reduceToNat, Nat.left_eq_add, Nat.add_eq_left, Nat.add_left_cancel_iff, Nat.reduceEqDiff, Nat.add_assoc, Nat.succ_ne_zero]
  rw [opS_rem _ _ _ (by decide), Int.tmod_eq_emod_of_nonneg h0]
  simp only [push_cast, Nat.reduceAdd, Nat.reduceLeDiff, Nat.reduceLT, Int.reduceToNat, Nat.left_eq_add, Nat.add_eq_left, Nat.add_left_cancel_iff, Nat.reduceEqDiff, Nat.add_assoc, Nat.succ_ne_zero]
  rw [wrap_u8, wrap_u8]
  refine s_bs2c (z := .int .u8 0) rfl rfl rfl fun v w1 hv hF hN => h v w1 ?_ hF hN
  have e1 : n / 256 % 256 = n / 256 := Int.emod_eq_of_lt (by omega) (by omega)
  have e2 : n % 256 % 256 = n % 256 := Int.emod_emod_of_dvd n (by decide)
  rw [e1, e2] at hv
  exact hv

theorem macB_take {m : Mac} {k : Nat} (hk : k < 6) : (macB m).take (k + 1) = (macB m).take k ++ [(macB m).getD k 0] := by
  match k, hk with
  | 0, _ | 1, _ | 2, _ | 3, _ | 4, _ | 5, _ => rfl
theorem macB_dst {f : Frm} {k : Nat} (hk : k < 6) : f.cells[0 + k]? = some (u8 ((macB f.dst).getD k 0)) := by
  match k, hk with
  | 0, _ | 1, _ | 2, _ | 3, _ | 4, _ | 5, _ => rfl
theorem macB_src {f : Frm} {k : Nat} (hk : k < 6) : f.cells[6 + k]? = some (u8 ((macB f.src).getD k 0)) := by
  match k, hk with
  | 0, _ | 1, _ | 2, _ | 3, _ | 4, _ | 5, _ => rfl

theorem mac_loop {f : Frm} {m : Mac} {b fi off : Nat} {v : Value} {pre : List Int} {j0 : Value → World → Prop} (hb : w.heap[b]? = some (cellsO f.cells 26)) (hfa : ∀ (K : Value → World → Prop) w, opS Tryd.prog (S.fa 26 (pt b 0) fi) K w = K (pt b off) w)
    (hg : ∀ k, k < 6 → f.cells[off + k]? = some (u8 ((macB m).getD k 0))) (hv : OwnE 5 1 w v (pre.map cell1)) (hn : ∀ x, blkS v = some x → b < x) (hl : pre.length ≤ 2 ^ 20)
    (h : ∀ v' w', OwnE 5 1 w' v' ((pre ++ macB m).map cell1) → (∀ x, blkS v' = some x → b < x) → Fr (fun x => b < x) w w' → j0 v' w') :
    loopJ 2 (fun j1 x6 x7 => opS Tryd.prog (S.binI .lss x7 (.int .i64 6)) fun x8 => brn x8 (
      opS Tryd.prog (S.fa 26 (pt b 0) fi) fun x9 => opS Tryd.prog (S.ia 23 x9 x7) fun x10 => opS Tryd.prog (S.ld 5 x10) fun x11 =>
      opS Tryd.prog (S.buildS 24 1 [(0, x11)]) fun x12 => opS Tryd.prog (S.bi .append #[24, 24] 24 [x6, x12]) fun x13 => opS Tryd.prog (S.binI .add x7 (.int .i64 1)) fun x14 => j1 x13 x14) (j0 x6)) v (.int .i64 0) w := by
  refine loop2 (fun n v' u w' => ∃ k : Nat, k ≤ 6 ∧ n = 6 - k ∧ u = i64 k ∧ OwnE 5 1 w' v' ((pre ++ (macB m).take k).map cell1) ∧ (∀ x, blkS v' = some x → b < x) ∧ Fr (fun x => b < x) w w') ?_ 6 ⟨0, by omega, rfl, rfl, by simpa using hv, hn, Fr.refl _ _⟩
  rintro n v' u w' X ⟨k, hk, rfl, rfl, ho, hnn, hF⟩ hX
  have hb' := hF.heap hb (by omega)
  simp only [push_cast, Nat.reduceAdd, Nat.reduceLeDiff, Nat.reduceLT, Int.reduceToNat, Nat.left_eq_add, Nat.add_eq_left, Nat.add_left_cancel_iff, Nat.reduceEqDiff, Nat.add_assoc, Nat.succ_ne_zero]
  refine br_dec (fun hlt => ?_) fun hge => ?_
  · rw [hfa, opS_iaA b off .i64 (k : Int) (by omega)]
    simp only [push_cast, Nat.reduceAdd, Nat.reduceLeDiff, Nat.reduceLT, Int.reduceToNat, Nat.left_eq_add, Nat.add_eq_left, Nat.add_left_cancel_iff, Nat.reduceEqDiff, Nat.add_assoc, Nat.succ_ne_zero, hb', Int.toNat_natCast, Nat.mul_one]
    rw [hg k (by omega)]
    simp only [push_cast, Nat.reduceAdd, Nat.reduceLeDiff, Nat.reduceLT, Int.reduceToNat, Nat.left_eq_add, Nat.add_eq_left, Nat.add_left_cancel_iff, Nat.reduceEqDiff, Nat.add_assoc, Nat.succ_ne_zero]
    have hlen : ((pre ++ (macB m).take k).map cell1).length ≤ 2 ^ 20 + 6 := by
      rw [List.length_map, List.length_append, List.length_take]; omega
    refine s_app1 (z := .int .u8 0) rfl rfl (by decide) ho (by omega) fun v2 w2 h1 h2 h3 => ?_
    simp only [push_cast, Nat.reduceAdd, Nat.reduceLeDiff, Nat.reduceLT, Int.reduceToNat, Nat.left_eq_add, Nat.add_eq_left, Nat.add_left_cancel_iff, Nat.reduceEqDiff, Nat.add_assoc, Nat.succ_ne_zero]
    rw [wrap_i64 (by omega)]
    refine hX (6 - (k + 1)) _ _ _ (by omega) ⟨k + 1, by omega, rfl, by simp, ?_, ?_, hF.trans_new h3 fun x _ hx => hnn _ hx⟩
    · rw [macB_take (by omega), ← List.append_assoc, List.map_append]; exact h1
    · intro x hx
      rcases h2 with h2 | h2
      · exact hnn x (h2 ▸ hx)
      · have := h2 x hx
        have := lt_of_heap hb'
        omega
  · have e6 : k = 6 := by omega
    subst e6
    have : (macB m).take 6 = macB m := rfl
    rw [this] at ho
    exact h _ _ ho hnn hF

theorem renc_spec {f : Frm} {bs : List Int} (hf : FrmR w f bs) (hl : bs.length ≤ 2 ^ 20)
    (h : ∀ v w', ByR w' v (if f.right bs.length then Frm.bytes f bs else []) → Fr none_ w w' → K (.tuple #[v, i64 (if f.right bs.length then 0 else 1)]) w') : CallsR Tryd.prog 11 #[.agg f.cells.toArray] K w := by
  apply c11
  unfold p11
  obtain ⟨ba, bc, hbd⟩ := hf.2.form
  simp only [push_cast, Nat.reduceAdd, Nat.reduceLeDiff, Nat.reduceLT, Int.reduceToNat, Nat.left_eq_add, Nat.add_eq_left, Nat.add_left_cancel_iff, Nat.reduceEqDiff, Nat.add_assoc, Nat.succ_ne_zero]
  refine rright_spec hbd fun w1 hF1 => ?_
  have hb1 := hF1.heap (b := w.heap.size) (o := cellsO f.cells 26) (by simp only [push_cast, Nat.reduceAdd, Nat.reduceLeDiff, Nat.reduceLT, Int.reduceToNat, Nat.left_eq_add, Nat.add_eq_left, Nat.add_left_cancel_iff, Nat.reduceEqDiff, Nat.add_assoc, Nat.succ_ne_zero]) (fun h => h)
  have hF : Fr none_ w w1 := Fr.trans (by repeat' first | with_reducible exact Fr.refl _ _ | with_reducible refine Fr.step_alloc ?_ ?_ | with_reducible refine Fr.step_drew ?_ | with_reducible refine Fr.step_wr ?_ ?_ _ _ | exact rfl | exact Or.inr (by omega) | exact Or.inl rfl | exact Or.inl (Or.inl rfl) | exact Or.inl (Or.inr rfl)) hF1
  have hs1 : w.heap.size < w1.heap.size := lt_of_heap hb1
  clear hF1
  simp only [push_cast, Nat.reduceAdd, Nat.reduceLeDiff, Nat.reduceLT, Int.reduceToNat, Nat.left_eq_add, Nat.add_eq_left, Nat.add_left_cancel_iff, Nat.reduceEqDiff, Nat.add_assoc, Nat.succ_ne_zero]
  refine br_intro (fun hr => ?_) fun hr => ?_
  · rw [if_neg (by simpa using hr), if_neg (by simpa using hr)] at h
    exact h _ _ (ByR.nil _ _ _) hF
  have hr : f.right bs.length = true := by simpa using hr
  rw [if_pos hr, if_pos hr] at h
  have hok := hf.1
  have hright := hr
  simp only [Frm.right, Bool.and_eq_true, decide_eq_true_eq] at hright
  refine jn1 (fun v w' => OwnE 5 1 w' v ((macB f.dst).map cell1) ∧ (∀ x, blkS v = some x → w.heap.size < x) ∧ w'.heap[w.heap.size]? = some (cellsO f.cells 26) ∧ Fr none_ w w') ?_ fun j hj => ?_
  case' refine_2 =>
    refine mac_loop (pre := []) (m := f.dst) hb1 (fun K w => by simp only [push_cast, Nat.reduceAdd, Nat.reduceLeDiff, Nat.reduceLT, Int.reduceToNat, Nat.left_eq_add, Nat.add_eq_left, Nat.add_left_cancel_iff, Nat.reduceEqDiff, Nat.add_assoc, Nat.succ_ne_zero]) (fun k hk => macB_dst hk) (own_nil _ _ _) (fun x hx => by cases hx) (by decide) fun v' w' h1 h2 h3 => hj _ _ ⟨h1, h2, h3.heap hb1 (by omega), hF.trans_new h3 fun x h4 h5 => by omega⟩
  rintro v2 w2 ⟨ho2, hn2, hb2, hF2⟩
  refine jn1 (fun v w' => OwnE 5 1 w' v ((macB f.dst ++ macB f.src).map cell1) ∧ (∀ x, blkS v = some x → w.heap.size < x) ∧ w'.heap[w.heap.size]? = some (cellsO f.cells 26) ∧ Fr none_ w w') ?_ fun j hj => ?_
  case' refine_2 =>
    refine mac_loop (pre := macB f.dst) (m := f.src) hb2 (fun K w => by simp only [push_cast, Nat.reduceAdd, Nat.reduceLeDiff, Nat.reduceLT, Int.reduceToNat, Nat.left_eq_add, Nat.add_eq_left, Nat.add_left_cancel_iff, Nat.reduceEqDiff, Nat.add_assoc, Nat.succ_ne_zero]) (fun k hk => macB_src hk) ho2 hn2 (by show 6 ≤ 2 ^ 20; decide) fun v' w' h1 h2 h3 => hj _ _ ⟨h1, h2, h3.heap hb2 (by omega), hF2.trans_new h3 fun x h4 h5 => by omega⟩
  rintro v3 w3 ⟨ho3, hn3, hb3, hF3⟩
  -- two more bytes
  have step : ∀ (v : Value) (w' : World) (X : List Int) (n : Int) (k : Value → World → Prop), OwnE 5 1 w' v (X.map cell1) → (∀ x, blkS v = some x → w.heap.size < x) → w'.heap[w.heap.size]? = some (cellsO f.cells 26) → Fr none_ w w' → 0 ≤ n → n ≤ 65535 → X.length ≤ 2 ^ 20 →
      (∀ v' w', OwnE 5 1 w' v' ((X ++ two n).map cell1) → (∀ x, blkS v' = some x → w.heap.size < x) → w'.heap[w.heap.size]? = some (cellsO f.cells 26) → Fr none_ w w' → k v' w') →
      CallsR Tryd.prog 24 #[i64 n] (fun u => opS Tryd.prog (S.bi .append #[24, 24] 24 [v, u]) k) w' := by
    intro v w' X n k h1 h2 h3 h4 h5 h6 h7 h8
    refine rtwo_spec h5 h6 fun u w4 hu hF4 hN4 => ?_
    refine s_app (z := .int .u8 0) rfl (by decide) (h1.fr hF4 fun _ _ h => h) hu.rd (flat_cell1_one _) (by rw [List.length_map, List.length_map]; have : (two n).length = 2 := rfl; omega) fun v5 w5 ho5 hb5 hF5 => ?_
    have hlt := lt_of_heap h3
    have h3' := (hF4.heap h3 fun h => h)
    refine h8 v5 w5 (by rw [List.map_append]; exact ho5) ?_ (hF5.heap h3' fun e => absurd (h2 _ e) (by omega)) ((h4.trans hF4).trans_new hF5 fun x hx e => absurd (h2 _ e) (by omega))
    intro x hx
    rcases hb5 with hb5 | hb5
    · exact h2 x (hb5 ▸ hx)
    · have := hb5 x hx
      have := lt_of_heap h3'
      omega
  refine jn1 (fun v w' => OwnE 5 1 w' v ((macB f.dst ++ macB f.src ++ (if f.tagged then two 33024 ++ two (8192 * f.prio + f.vlan) else [])).map cell1) ∧ (∀ x, blkS v = some x → w.heap.size < x) ∧ w'.heap[w.heap.size]? = some (cellsO f.cells 26) ∧ Fr none_ w w') ?_ fun j hj => ?_
  · rintro v4 w4 ⟨ho4, hn4, hb4, hF4⟩
    simp only [push_cast, Nat.reduceAdd, Nat.reduceLeDiff, Nat.reduceLT, Int.reduceToNat, Nat.left_eq_add, Nat.add_eq_left, Nat.add_left_cancel_iff, Nat.reduceEqDiff, Nat.add_assoc, Nat.succ_ne_zero, hb4]
    refine step _ _ _ _ _ ho4 hn4 hb4 hF4 (by omega) (by omega) (by cases f.tagged <;> simp [macB, two]) fun v5 w5 ho5 hn5 hb5 hF5 => ?_
    simp only [push_cast, Nat.reduceAdd, Nat.reduceLeDiff, Nat.reduceLT, Int.reduceToNat, Nat.left_eq_add, Nat.add_eq_left, Nat.add_left_cancel_iff, Nat.reduceEqDiff, Nat.add_assoc, Nat.succ_ne_zero, hb5]
    have hbody := hf.2.fr hF5 fun _ _ h => h
    refine s_app (z := .int .u8 0) rfl (by decide) ho5 hbody.1 (flat_cell1_one _) (by rw [List.length_map, List.length_map]; cases f.tagged <;> simp [macB, two] <;> omega) fun v6 w6 ho6 _ hF6 => ?_
    refine h v6 w6 ⟨by rw [← List.map_append] at ho6; exact ho6.rd, ?_⟩ (hF5.trans_new hF6 fun x hx e => absurd (hn5 _ e) (by omega))
    intro x hx
    simp only [Frm.bytes, List.mem_append] at hx
    rcases hx with (((hx | hx) | hx) | hx) | hx
    · exact macB_ok hok.1 _ hx
    · exact macB_ok hok.2.1 _ hx
    · by_cases ht : f.tagged = true
      · rw [if_pos ht] at hx hright
        have h1 := hright.2
        rw [decide_eq_true_eq] at h1
        rcases List.mem_append.1 hx with hx | hx
        · exact two_ok (by decide) (by decide) _ hx
        · exact two_ok (by omega) (by omega) _ hx
      · rw [if_neg ht] at hx; cases hx
    · exact two_ok (by omega) (by omega) _ hx
    · exact hf.2.2 _ hx
  · simp only [push_cast, Nat.reduceAdd, Nat.reduceLeDiff, Nat.reduceLT, Int.reduceToNat, Nat.left_eq_add, Nat.add_eq_left, Nat.add_left_cancel_iff, Nat.reduceEqDiff, Nat.add_assoc, Nat.succ_ne_zero, hb3]
    refine br_intro (fun ht => ?_) fun ht => hj _ _ ⟨by rw [ht]; simpa using ho3, hn3, hb3, hF3⟩
    rw [if_pos ht] at hright
    have h1 := hright.2
    rw [decide_eq_true_eq] at h1
    refine step _ _ _ _ _ ho3 hn3 hb3 hF3 (by omega) (by omega) (by simp [macB]) fun v5 w5 ho5 hn5 hb5 hF5 => ?_
    simp only [push_cast, Nat.reduceAdd, Nat.reduceLeDiff, Nat.reduceLT, Int.reduceToNat, Nat.left_eq_add, Nat.add_eq_left, Nat.add_left_cancel_iff, Nat.reduceEqDiff, Nat.add_assoc, Nat.succ_ne_zero, hb5]
    rw [wrap_i64 (x := 8192 * f.prio) (by omega), wrap_i64 (by omega)]
    refine step _ _ _ _ _ ho5 hn5 hb5 hF5 (by omega) (by omega) (by simp [macB, two]) fun v6 w6 ho6 hn6 hb6 hF6 => ?_
    exact hj _ _ ⟨by rw [ht, if_pos rfl, ← List.append_assoc]; exact ho6, hn6, hb6, hF6⟩

end Go.Gx.S
