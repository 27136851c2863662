/- Lists of changes that are compared. -/
import Derived.Test.YtogbkljoganbhaaGx09c
set_option linter.unusedVariables false
set_option linter.unusedSimpArgs false
set_option maxRecDepth 100000
namespace Go.Gx.S09
open Go Go.Gx Go.Proofs
variable {K : Value → World → Prop} {w : World}

theorem same_spec {a b : Value} {es : List (List Value)} (ha : RdE 12 w a es) (hb : RdE 12 w b es) (hl : ∀ e ∈ es, ∃ l, Try.prog.keyLits 8 48 e = some l) (hn : es.length < 2 ^ 62)
    (h : ∀ w', Fr none_ w w' → K (.bool true) w') : CallsR Try.prog 17 #[a, b] K w := by
  apply c17
  unfold p17
  obtain ⟨aa, ac, rfl⟩ := ha.form
  obtain ⟨ba, bc, rfl⟩ := hb.form
  simp only [push_cast]
  have e0 : ((es.length : Int) != (es.length : Int)) = false := by simp
  rw [e0, br_false]
  refine jn0 (fun w' => Fr none_ w w') h fun j hj => ?_
  refine loop1 (fun m v w' => ∃ i : Nat, v = i64 i ∧ i + m = es.length ∧ Fr none_ w w') ?_ es.length ⟨0, rfl, by omega, Fr.refl _ _⟩
  rintro m v w' X ⟨i, rfl, hi, hF⟩ hX
  simp only [push_cast]
  refine br_dec (fun hlt => ?_) fun hge => hj _ hF
  have hi2 : i < es.length := by omega
  have ha' : RdE 12 w'.drew _ es := ha.fr hF.step_drew (fun _ _ h => h)
  have hb' : RdE 12 w'.drew _ es := hb.fr hF.step_drew (fun _ _ h => h)
  refine s_iaE ha' (by omega) (by simpa using hi2) fun b1 o1 c1 _ hE => ?_
  have hel : (es[i]).length = 12 := ha.2 _ (List.getElem_mem hi2)
  simp only [Int.toNat_natCast] at hE ⊢
  rw [s_ldN (by decide), hE.agg0 hel, onS_some]
  refine s_iaE hb' (by omega) (by simpa using hi2) fun b2 o2 c2 _ hE2 => ?_
  simp only [Int.toNat_natCast] at hE2 ⊢
  rw [s_ldN (by decide), hE2.agg0 hel, onS_some]
  obtain ⟨l, hll⟩ := hl _ (List.getElem_mem hi2)
  refine s_neqG hll hll fun r hr => ?_
  rw [hr.2 rfl]
  simp only [push_cast]
  refine hX (m - 1) _ _ (by omega) ⟨i + 1, ?_, by omega, hF.step_drew⟩
  rw [wrap_i64 (by omega)]
  simp

theorem rsince_spec {p room : Nat} {hs : List (List Value × Bool)} {L : Value} {seq : Int} (hj : RRep w p room hs L) (hr2 : room ≤ 1000) (hn : hs.length < 2 ^ 30) (hseq : IntKind.i64.min ≤ seq ∧ seq ≤ IntKind.i64.max)
    (h0 : ¬ (0 ≤ seq ∧ seq ≤ hs.length ∧ hs.length - seq ≤ room) → ∀ w', Fr none_ w w' → K (.tuple #[.slice none 0 0, .bool false]) w')
    (h1 : 0 ≤ seq → seq ≤ hs.length → hs.length - seq ≤ room → ∀ w' v, RdE 12 w' v ((chs hs).drop seq.toNat) → Fr none_ w w' → K (.tuple #[v, .bool true]) w') : CallsR Try.prog 16 #[pt p 0, i64 seq] K w := by
  apply c16
  unfold p16
  have hp := hj.blk
  obtain ⟨a, c, rfl⟩ := hj.lst.form
  have hL : RdE 12 w.drew _ _ := hj.lst
  have hF : Fr none_ w w.drew := Fr.drew w
  have hok := hj.ok
  have e5 : (chs hs).length = hs.length := chs_length hs
  have hold : ((chs hs).drop (hs.length - room)).length = hs.length - (hs.length - room) := by rw [List.length_drop, e5]
  have hlt := lt_of_heap hp
  simp only [push_cast, hp]
  refine br_dec (fun ha => h0 (by omega) _ hF) fun ha => ?_
  refine br_dec (fun hb => h0 (by omega) _ hF) fun hb => ?_
  rw [wrap_i64 (by omega)]
  refine br_dec (fun hc => h0 (by rw [hold] at hc; omega) _ hF) fun hc => ?_
  rw [hold] at hc
  obtain ⟨s, rfl⟩ : ∃ s : Nat, seq = s := ⟨seq.toNat, by omega⟩
  replace hF : Fr none_ w w.drew.drew := hF.step_drew
  replace hL : RdE 12 w.drew.drew _ _ := hL
  replace hp : w.drew.drew.heap[p]? = _ := hp
  have e6 : ((chs hs).drop s).flatten.all S.oneCell = true := flat_one fun e he => chs_one hok (List.mem_of_mem_drop he)
  have e7 : ([] : List (List Value)).length + ((chs hs).drop s).length ≤ 3000 := by rw [List.length_drop, e5]; simp only [List.length_nil]; omega
  obtain ⟨k, hk⟩ : ∃ k : Nat, k = hs.length - (hs.length - room) - (hs.length - s) := ⟨_, rfl⟩
  have hM : ((chs hs).drop (hs.length - room)).drop k = (chs hs).drop s := by rw [List.drop_drop]; congr 1; omega
  have w1 : IntKind.i64.wrap ((hs.length : Int) - s) = hs.length - s := wrap_i64 (by omega)
  have w2 : IntKind.i64.wrap ((((chs hs).drop (hs.length - room)).length : Int) - (hs.length - s)) = k := by rw [hold, wrap_i64 (by omega)]; omega
  have hkl : k ≤ ((chs hs).drop (hs.length - room)).length := by omega
  generalize (chs hs).drop (hs.length - room) = M at *
  have hPart : ∀ W, RdE 12 W (.slice a M.length c) M → RdE 12 W (.slice (if c = k then a else a.map (·.add (k * 12))) (M.length - k) (c - k)) ((chs hs).drop s) := by
    intro W hW
    have := hW.part hkl (Nat.le_refl _)
    rwa [List.take_length, hM] at this
  have S1 : ∀ (K : Value → World → Prop) (w : World), K (.slice (if c = k then a else a.map (·.add (k * 12))) (M.length - k) (c - k)) w → opS Try.prog (S.slc 40 (.slice a M.length c) (some (i64 k)) none none) K w := by
    intro K w h
    rw [opS_slice (run_boundsL (by omega) (by omega)), Int.toNat_natCast]
    exact h
  have B0 : ∀ (K : Value → World → Prop) (w : World), (∀ v' w', OwnE 48 12 w' v' [] → Fr none_ w w' → New w v' → K v' w') → opS Try.prog (S.buildS 40 0 []) K w := fun K w h => s_bs0 h
  have B2 : ∀ (K : Value → World → Prop) (w : World) (v u : Value) (es fs : List (List Value)), OwnE 48 12 w v es → RdE 12 w u fs → fs.flatten.all S.oneCell = true → es.length + fs.length ≤ 3000 →
      (∀ v' w', OwnE 48 12 w' v' (es ++ fs) → (blkS v' = blkS v ∨ New w v') → Fr (fun b => blkS v = some b) w w' → K v' w') → opS Try.prog (S.bi .append #[40, 40] 40 [v, u]) K w :=
    fun K w v u es fs h1 h2 h3 h4 h => s_app (sz := 12) (by_ := 56) (by rfl) (by decide) h1 h2 h3 (by omega) h
  generalize w.drew.drew = W at *
  repeat' first
    | with_reducible refine allW_intro ?_ ?_
    | (with_reducible refine B0 _ _ fun vA WA hA fA nA => ?_
       have hAn : ∀ b, blkS vA = some b → w.heap.size ≤ b := fun b hb => Nat.le_trans hF.size (nA b hb)
       replace hp := fA.heap hp (fun h => h)
       replace hL := hL.fr fA (fun _ _ h => h)
       replace hF := hF.trans_new fA (fun _ _ h => h.elim)
       clear fA nA)
    | with_reducible refine S1 _ _ ?_
    | (with_reducible refine B2 _ _ _ _ _ _ hA (hPart _ hL) e6 e7 fun vC WC hC bC fC => ?_
       rw [List.nil_append] at hC
       replace hF := hF.trans_new fC (fun b hb hh => by have := hAn b hh; omega)
       exact h1 (by omega) (by omega) (by omega) _ _ hC.rd hF)
    | simp only [push_cast, Nat.reduceAdd, Nat.reduceLeDiff, Nat.reduceLT, hp, w1, w2]

end Go.Gx.S09
