/- The journal. -/
import Derived.Test.YtclkdldkebjgpaaTopJT
import Derived.Test.YtclkdldkebjgpaaBaseMac
import Derived.Test.YtclkdldkebjgpaaGxElem
import Derived.Test.YtclkdldkebjgpaaGxRf
set_option linter.unusedVariables false
set_option linter.unusedSimpArgs false
set_option maxRecDepth 100000
namespace Go.Gx.S.Jour
open Go Go.Gx Go.Gx.S Go.Proofs
variable {K : Value → World → Prop} {w : World}

/-- a change's cells -/
def chg (i : Nat) (x : List Value) (g : Bool) : List Value := i64 i :: (x ++ [.bool g])

/-- a journal of the program -/
structure JRep (w : World) (p rb : Nat) (room : Nat) (hs : List (List Value × Bool)) (o c : Nat) (es : List (List Value)) : Prop where
  blk : w.heap[p]? = some (cellsO [.slice (some ⟨rb, o, none⟩) es.length c, i64 hs.length] 71)
  ring : OwnE 86 12 w (.slice (some ⟨rb, o, none⟩) es.length c) es
  len : es.length = room
  ne : p ≠ rb
  said : ∀ i (h : i < hs.length), hs.length ≤ i + room → es[(i + 1) % room]? = some (chg (i + 1) hs[i].1 hs[i].2)

theorem JRep.fr {fp : Nat → Prop} {w w' : World} {p rb room : Nat} {hs : List (List Value × Bool)} {o c : Nat} {es : List (List Value)} (h : JRep w p rb room hs o c es) (hf : Fr fp w w') (h1 : ¬ fp p) (h2 : ¬ fp rb) : JRep w' p rb room hs o c es :=
  ⟨hf.heap h.blk h1, h.ring.fr hf (fun b hb => by cases hb; exact h2), h.len, h.ne, h.said⟩

theorem last_spec {p : Nat} {rv : Value} {n : Int} (hp : w.heap[p]? = some (cellsO [rv, i64 n] 71)) (h : K (i64 n) w) : CallsR Try.prog 8 #[pt p 0] K w := by
  apply c8
  unfold p8
  simp only [push_cast, hp]
  exact h

theorem new_spec (room : Int) (h0 : room < 1 ∨ 1000 < room → K (.tuple #[.pointer none, i64 1]) w)
    (h1 : 1 ≤ room → room ≤ 1000 → ∀ (p rb : Nat) (w' : World) (o c : Nat) (es : List (List Value)), JRep w' p rb room.toNat [] o c es → Fr none_ w w' → w.heap.size ≤ p → w.heap.size ≤ rb → K (.tuple #[pt p 0, i64 0]) w') :
    CallsR Try.prog 6 #[i64 room] K w := by
  apply c6
  unfold p6
  simp only [push_cast]
  refine br_dec (fun ha => h0 (.inl ha)) fun ha => ?_
  refine br_dec (fun hb => h0 (.inr hb)) fun hb => ?_
  rw [opS_mks _ _ _ (by omega) (by omega) (by omega) (by rfl) (by decide)]
  simp only [push_cast]
  rw [opS_build _ rfl]
  simp only [push_cast]
  obtain ⟨r, rfl⟩ : ∃ r : Nat, room = r := ⟨room.toNat, by omega⟩
  simp only [Int.toNat_natCast]
  refine h1 (by omega) (by omega) (w.heap.size + 1) w.heap.size ((w.alloc _).alloc _) 0 r (List.replicate r (Value.agg #[i64 0, i64 0, .int .u8 0, .int .u8 0, .int .u8 0, .int .u8 0, .int .u8 0, .int .u8 0, i64 0, i64 0, .bool false, .bool false]).cells.toList) ⟨?_, ⟨?_, ?_⟩, ?_, by omega, ?_⟩ ?_ (by omega) (by omega)
  · simp only [push_cast, List.length_replicate]; rfl
  · rw [List.length_replicate]
    refine .inr ⟨w.heap.size, 0, r, (zeros r (Value.agg #[i64 0, i64 0, .int .u8 0, .int .u8 0, .int .u8 0, .int .u8 0, .int .u8 0, .int .u8 0, i64 0, i64 0, .bool false, .bool false]).cells.toList).toArray, rfl, ?_, Nat.le_refl _, ?_, ?_⟩
    · simp only [push_cast]
      rw [if_neg (by omega)]; rfl
    · rw [List.size_toArray, zeros_length]; simp [Value.cells]
    · rw [List.drop_zero, List.take_of_length_le (by rw [zeros_length]; simp [Value.cells])]; rfl
  · intro e he
    rw [List.eq_of_mem_replicate he]; rfl
  · simp
  · intro i hi; simp at hi
  · exact ((Fr.refl _ _).step_alloc rfl).step_alloc rfl

set_option linter.unusedSimpArgs false
theorem put_spec {p rb room o c : Nat} {hs : List (List Value × Bool)} {es : List (List Value)} {x : List Value} {g : Bool} (hj : JRep w p rb room hs o c es) (hr : 0 < room) (hr2 : room ≤ 1000) (hx : x.length = 10) (hx1 : x.all S.oneCell = true) (hn : hs.length < 2 ^ 30)
    (h : ∀ w' es', JRep w' p rb room (hs ++ [(x, g)]) o c es' → Fr (fun b => b = p ∨ b = rb) w w' → K (.tuple #[i64 (hs.length + 1), i64 0]) w') : CallsR Try.prog 11 #[pt p 0, .agg x.toArray, .bool g] K w := by
  apply c11
  unfold p11
  have hp := hj.blk
  have hlt := lt_of_heap hp
  have hne : p ≠ w.heap.size := by omega
  simp only [push_cast, hp, hne, if_false]
  refine br_no (by omega) ?_
  rw [wrap_i64 (by omega)]
  have hll : ((es.length : Nat) : Int) ≠ 0 := by rw [hj.len]; omega
  rw [opS_rem _ _ _ hll]
  have hne2 : w.heap.size ≠ p := fun e => hne e.symm
  have hnr : rb ≠ w.heap.size := by have := hj.ring.lt (b := rb) rfl; omega
  have hrp : rb ≠ p := fun e => hj.ne e.symm
  have hpr := hj.ne
  simp only [push_cast, Nat.reduceAdd, Nat.reduceLeDiff, Nat.reduceLT, hp, hne, hne2, hx]
  have e2 : x.drop 0 = x := rfl
  have e3 : x.take 10 = x := List.take_of_length_le (by omega)
  simp only [push_cast, Nat.reduceAdd, Nat.reduceLeDiff, Nat.reduceLT, e2, e3]
  have e4 : mergeF 0 [[.int .i64 0], [.int .i64 0, .int .u8 0, .int .u8 0, .int .u8 0, .int .u8 0, .int .u8 0, .int .u8 0, .int .i64 0, .int .i64 0, .bool false], [.bool false]] [(0, i64 (hs.length + 1)), (1, .agg x.toArray), (2, .bool g)] = some (chg (hs.length + 1) x g) := by
    simp [mergeF, Value.cells, hx, chg]
  rw [opS_build _ (by rw [e4]; rfl), e4]
  simp only [push_cast, Option.getD_some]
  have hm : ((hs.length : Int) + 1).tmod es.length = ((hs.length + 1) % es.length : Nat) := by
    exact Int.ofNat_tmod (hs.length + 1) es.length
  have hi : (hs.length + 1) % es.length < es.length := Nat.mod_lt _ (by rw [hj.len]; exact hr)
  rw [hm]
  have hO : OwnE 86 12 (wr (w.alloc (cellsO x 40)) p 1 [Value.int IntKind.i64 (hs.length + 1)]).drew (Value.slice (some ⟨rb, o, none⟩) es.length c) es :=
    hj.ring.frame fun b hb => by cases hb; simp only [push_cast, hrp, hnr]
  refine s_iaE hO.rd (by omega) (by rw [Int.toNat_natCast]; exact hi) fun b o' c' hv _ => ?_
  simp only [Value.slice.injEq, Option.some.injEq, Addr.mk.injEq] at hv
  obtain ⟨⟨rfl, rfl, _⟩, _, rfl⟩ := hv
  rw [Int.toNat_natCast]
  have hcl : (chg (hs.length + 1) x g).length = 12 := by simp [chg, hx]
  obtain ⟨hok, hput⟩ := hO.put hcl hi
  rw [s_stA _ _ _ hcl (by simp only [chg, List.all_cons, List.all_append, hx1, one_int, one_bool, List.all_nil]; rfl), hok]
  simp only [push_cast, Nat.reduceAdd, Nat.reduceLeDiff, Nat.reduceLT, hp, hne, hpr]
  refine h _ (es.set ((hs.length + 1) % es.length) (chg (hs.length + 1) x g)) ⟨?_, by rw [List.length_set]; exact hput, ?_, hpr, ?_⟩ ?_
  · simp only [push_cast, hp, hne, hpr, List.length_set, List.length_append]
  · rw [List.length_set]; exact hj.len
  · intro i hi2 hi3
    rw [List.length_append] at hi2 hi3
    simp only [List.length_cons, List.length_nil] at hi2 hi3
    by_cases e : i = hs.length
    · subst e
      rw [hj.len, List.getElem?_set_self (by rw [← hj.len]; exact hi)]
      simp
    · have hi4 : i < hs.length := by omega
      have hne3 : (hs.length + 1) % es.length ≠ (i + 1) % room := by
        rw [hj.len]
        intro e2
        have := Nat.sub_mod_eq_zero_of_mod_eq e2
        rw [Nat.mod_eq_of_lt (by omega)] at this
        omega
      rw [List.getElem?_set_ne hne3, hj.said i hi4 (by omega), List.getElem_append_left hi4]
  · exact ((((Fr.refl _ _).step_alloc rfl).step_wr (.inl (.inl rfl)) _ _).step_drew).step_wr (.inl (.inr rfl)) _ _

def chs (hs : List (List Value × Bool)) : List (List Value) := hs.mapIdx fun i h => chg (i + 1) h.1 h.2

theorem chs_length (hs : List (List Value × Bool)) : (chs hs).length = hs.length := by simp [chs]
theorem chs_snoc (hs : List (List Value × Bool)) (x : List Value) (g : Bool) : chs (hs ++ [(x, g)]) = chs hs ++ [chg (hs.length + 1) x g] := by simp [chs]

theorem chg_one {i : Nat} {x : List Value} {g : Bool} (h : x.all S.oneCell = true) : (chg i x g).all S.oneCell = true := by
  simp only [chg, List.all_cons, List.all_append, h, one_int, one_bool, List.all_nil]; rfl
theorem chs_one {hs : List (List Value × Bool)} (h : ∀ e ∈ hs, e.1.length = 10 ∧ e.1.all S.oneCell = true) {e : List Value} (he : e ∈ chs hs) : e.all S.oneCell = true := by
  unfold chs at he
  rw [List.mem_mapIdx] at he
  obtain ⟨i, hi, rfl⟩ := he
  exact chg_one (h _ (List.getElem_mem hi)).2
theorem flat_one {l : List (List Value)} (h : ∀ e ∈ l, e.all S.oneCell = true) : l.flatten.all S.oneCell = true := by
  simp only [List.all_eq_true] at h ⊢
  intro v hv
  obtain ⟨e, he, hve⟩ := List.mem_flatten.1 hv
  exact h e he v hve


theorem behind_spec {j : Value} {seq : Int} (hj1 : j.cells = #[j]) (h : K (.func (.func 77) #[] #[pt (w.heap.size + 1) 0, pt w.heap.size 0]) ((w.alloc (cellsO [j] 27)).alloc (cellsO [i64 seq] 3))) : CallsR Try.prog 40 #[j, i64 seq] K w := by
  apply c40
  unfold p40
  simp only [push_cast, hj1]
  exact h

/-- the rounds: 'I i w' holds when i of the changes have been told -/
theorem behind1_spec {p rb room o c sb jb seq : Nat} {hs : List (List Value × Bool)} {es : List (List Value)} {y : Value} (I : Nat → World → Prop) (hr : 0 < room) (hn : hs.length < 2 ^ 30)
    (hI : ∀ i w, I i w → JRep w p rb room hs o c es ∧ w.heap[sb]? = some (cellsO [i64 seq] 3) ∧ w.heap[jb]? = some (cellsO [pt p 0] 27) ∧ I i w.drew)
    (hs1 : seq ≤ hs.length) (hs2 : hs.length ≤ seq + room)
    (hy : ∀ i w KY (hi : seq + i < hs.length), I i w → (∀ w', I (i + 1) w' → KY (.bool true) w') → opS Try.prog (S.call y [.agg (chg (seq + i + 1) hs[seq + i].1 hs[seq + i].2).toArray]) KY w)
    (h0 : I 0 w) (h : ∀ w', I (hs.length - seq) w' → K (.tuple #[]) w') : CallsR Try.prog 77 #[y, pt sb 0, pt jb 0] K w := by
  apply c77
  unfold p77
  have hI0 := hI 0 w h0
  simp only [push_cast, hI0.2.1]
  refine jn0 (fun w' => I (hs.length - seq) w') h fun jj hjj => ?_
  refine loop1 (fun m v w' => ∃ i : Nat, v = i64 (seq + i + 1) ∧ i + m = hs.length - seq ∧ I i w') ?_ (hs.length - seq) ⟨0, ?_, by omega, h0⟩
  · rintro m v w' X ⟨i, rfl, hi, hIi⟩ hX
    obtain ⟨hJ, hsb, hjb, hId⟩ := hI i w' hIi
    have hp := hJ.blk
    simp only [push_cast, hjb, hp]
    refine br_dec (fun hle => ?_) fun hgt => hjj _ (by rw [show hs.length - seq = i by omega]; exact hIi)
    have hll : ((es.length : Nat) : Int) ≠ 0 := by rw [hJ.len]; omega
    rw [opS_rem _ _ _ hll]
    have hm : ((seq : Int) + i + 1).tmod es.length = ((seq + i + 1) % es.length : Nat) := Int.ofNat_tmod (seq + i + 1) es.length
    have hlt : (seq + i + 1) % es.length < es.length := Nat.mod_lt _ (by rw [hJ.len]; exact hr)
    have hsi : seq + i < hs.length := by omega
    rw [hm]
    have hO : RdE 12 w'.drew _ es := hJ.ring.rd
    refine s_iaE hO (by omega) (by rw [Int.toNat_natCast]; exact hlt) fun b1 o1 c1 _ hE => ?_
    simp only [Int.toNat_natCast] at hE ⊢
    have hsaid := hJ.said (seq + i) hsi (by omega)
    rw [← hJ.len, List.getElem?_eq_getElem hlt, Option.some.injEq] at hsaid
    rw [s_ldN (by decide), hE.agg0 (hO.2 _ (List.getElem_mem hlt)), onS_some, hsaid]
    refine hy i w'.drew _ hsi hId fun w2 hI2 => ?_
    simp only [push_cast]
    refine hX (m - 1) _ _ (by omega) ⟨i + 1, ?_, by omega, hI2⟩
    rw [wrap_i64 (by omega)]
    congr 1
  · rw [wrap_i64 (by omega)]
    simp


theorem heap_upd' (w : World) (b b' : Nat) (o : Obj) : (upd w b o).heap[b']? = if b = b' then (w.heap[b]?).map (fun _ => o) else w.heap[b']? := heap_upd w b b' o
attribute [push_cast] heap_upd' size_upd Option.map_some

theorem splice_full {l vs : List Value} (h : vs.length = l.length) : splice l 0 vs = vs := by simp [splice, h]

/-- what holds at the head of each round -/
structure SInv (w0 : World) (p rb room : Nat) (hs : List (List Value × Bool)) (o c : Nat) (es : List (List Value)) (s : Nat) (L : Loop) (q i : Nat) (w : World) : Prop where
  j : JRep w p rb room hs o c es
  sb : w.heap[q + 2]? = some (cellsO [i64 s] 3)
  jb : w.heap[q + 1]? = some (cellsO [pt p 0] 27)
  out : ∃ v, w.heap[q]? = some (cellsO [v] 47) ∧ OwnE 86 12 w v (((chs hs).drop s).take i) ∧ ∀ b, blkS v = some b → q + 4 < b
  lb : ∃ L', w.heap[q + 4]? = some (.loop L') ∧ LoopSame L' L ∧ L'.state = .ready ∧ L'.pending = none
  db : w.heap[q + 3]? = some (.deferred (some []))
  fr : Fr none_ w0 w
  q0 : q = w0.heap.size

theorem since_spec {p rb room o c : Nat} {hs : List (List Value × Bool)} {es : List (List Value)} {seq : Int} (hj : JRep w p rb room hs o c es) (hr : 0 < room) (hr2 : room ≤ 1000) (hn : hs.length < 2 ^ 30)
    (hok : ∀ h ∈ hs, h.1.length = 10 ∧ h.1.all S.oneCell = true)
    (h0 : ¬ (0 ≤ seq ∧ seq ≤ hs.length ∧ hs.length - seq ≤ room) → ∀ w', Fr none_ w w' → K (.tuple #[.slice none 0 0, .bool false]) w')
    (h1 : 0 ≤ seq → seq ≤ hs.length → hs.length - seq ≤ room → ∀ w' v, RdE 12 w' v ((chs hs).drop seq.toNat) → Fr none_ w w' → K (.tuple #[v, .bool true]) w') : CallsR Try.prog 15 #[pt p 0, i64 seq] K w := by
  apply c15
  unfold p15
  have hp := hj.blk
  have hF : Fr none_ w w.drew := Fr.drew w
  have hlt := lt_of_heap hp
  have hrlt := hj.ring.lt (b := rb) rfl
  simp only [push_cast, hp]
  refine br_dec (fun ha => h0 (by omega) _ hF) fun ha => ?_
  refine br_dec (fun hb => h0 (by omega) _ hF) fun hb => ?_
  rw [wrap_i64 (by omega)]
  have hlen := hj.len
  refine br_dec (fun hc => h0 (by omega) _ hF) fun hc => ?_
  obtain ⟨s, rfl⟩ : ∃ s : Nat, seq = s := ⟨seq.toNat, by omega⟩
  refine behind_spec rfl ?_
  simp only [push_cast]
  intro L hLs hLp hLn hyield
  rw [enterS_call]
  have hne : ∀ k, p ≠ w.heap.size + k := fun k => by omega
  have hne0 : p ≠ w.heap.size := by omega
  have hrne : ∀ k, rb ≠ w.heap.size + k := fun k => by omega
  have hrne0 : rb ≠ w.heap.size := by omega
  have hsz : (((w.drew.alloc (cellsO [Value.slice none 0 0] 47)).alloc (cellsO [pt p 0] 27)).alloc (cellsO [i64 s] 3)).heap.size = w.heap.size + 3 := by simp only [push_cast]
  rw [hsz] at hyield ⊢
  have hF3 : Fr none_ w (((((w.drew.alloc (cellsO [Value.slice none 0 0] 47)).alloc (cellsO [pt p 0] 27)).alloc (cellsO [i64 s] 3)).alloc (.deferred (some []))).alloc (.loop L)) :=
    ((((hF.step_alloc rfl).step_alloc rfl).step_alloc rfl).step_alloc rfl).step_alloc rfl
  show CallsR Try.prog 77 #[_, pt (w.heap.size + 2) 0, pt (w.heap.size + 1) 0] _ _
  refine behind1_spec (SInv w p rb room hs o c es s L w.heap.size) hr hn (fun i w' hI => ⟨hI.j, hI.sb, hI.jb, ⟨hI.j.fr (Fr.drew (fp := none_) w') (fun h => h) (fun h => h), hI.sb, hI.jb, hI.out, hI.lb, hI.db, hI.fr.step_drew, hI.q0⟩⟩) (by omega) (by omega) ?_ ?_ ?_
  · intro i w' KY hi hI hK
    obtain ⟨L', hlb, hsame, hst, hpd⟩ := hI.lb
    have hlb' : w'.heap[w.heap.size + 3 + 1]? = some (.loop L') := hlb
    have hgoal := hyield KY [.agg (chg (s + i + 1) hs[s + i].1 hs[s + i].2).toArray] w' L' hst hsame hlb' rfl
    refine hgoal ?_
    clear hgoal hyield
    show opS Try.prog (S.alloc 86) (fun x20 =>
                        opS Try.prog (S.st 86 x20 (.agg (chg (s + i + 1) hs[s + i].1 hs[s + i].2).toArray)) fun x21 =>
                          opS Try.prog (S.beginR (pt (w.heap.size + 3 + 1) 0)) fun x22 =>
                            opS Try.prog (S.ld 47 (pt w.heap.size 0)) fun x23 =>
                              opS Try.prog (S.ld 86 x20) fun x24 =>
                                opS Try.prog (S.buildS 47 1 [(0, x24)]) fun x25 =>
                                  opS Try.prog (S.bi Builtin.append #[47, 47] 47 [x23, x25]) fun x26 =>
                                    opS Try.prog (S.st 47 (pt w.heap.size 0) x26) fun x27 =>
                                      opS Try.prog (S.endR (pt (w.heap.size + 3 + 1) 0) none) fun x28 => KY x28) w'
    have hx : (chg (s + i + 1) hs[s + i].1 hs[s + i].2).length = 12 := by simp [chg, (hok _ (List.getElem_mem hi)).1]
    have hx1 : (chg (s + i + 1) hs[s + i].1 hs[s + i].2).all S.oneCell = true := chg_one (hok _ (List.getElem_mem hi)).2
    generalize hX : chg (s + i + 1) hs[s + i].1 hs[s + i].2 = X at hx hx1 ⊢
    simp only [push_cast]
    rw [s_stA _ _ _ hx hx1]
    have f1 : Fr none_ w' (wr (w'.alloc (cellsO [Value.int IntKind.i64 0, Value.int IntKind.i64 0, Value.int IntKind.u8 0, Value.int IntKind.u8 0, Value.int IntKind.u8 0, Value.int IntKind.u8 0, Value.int IntKind.u8 0, Value.int IntKind.u8 0, Value.int IntKind.i64 0, Value.int IntKind.i64 0, Value.bool false, Value.bool false] 86)) w'.heap.size 0 X) :=
      ((Fr.refl none_ w').step_alloc rfl).step_wr (.inr (Nat.le_refl _)) _ _
    have g1 : (wr (w'.alloc (cellsO [Value.int IntKind.i64 0, Value.int IntKind.i64 0, Value.int IntKind.u8 0, Value.int IntKind.u8 0, Value.int IntKind.u8 0, Value.int IntKind.u8 0, Value.int IntKind.u8 0, Value.int IntKind.u8 0, Value.int IntKind.i64 0, Value.int IntKind.i64 0, Value.bool false, Value.bool false] 86)) w'.heap.size 0 X).heap[w'.heap.size]? = some (cellsO X 86) := by
      simp only [push_cast]
      rw [splice_full (by rw [hx]; rfl)]
    simp only [push_cast, Nat.reduceAdd, Nat.reduceLeDiff]
    generalize wr (w'.alloc _) w'.heap.size 0 X = W1 at f1 g1 ⊢
    obtain ⟨v, hv, hvO, hvb⟩ := hI.out
    have hlt1 := lt_of_heap hlb
    -- the round begins
    rw [opS_beginR (f1.heap hlb' (fun h => h)) hst]
    have f2 : Fr (fun b => b = w.heap.size + 4) w' (upd W1 (w.heap.size + 3 + 1) (.loop { L' with state := .busy })) :=
      (f1.mono (fun _ _ h => h.elim)).step_upd (f1.heap hlb' (fun h => h)) rfl _ rfl (.inl rfl)
    have g2 : (upd W1 (w.heap.size + 3 + 1) (.loop { L' with state := .busy })).heap[w'.heap.size]? = some (cellsO X 86) := by
      rw [heap_upd_ne (by omega)]; exact g1
    have l2 : (upd W1 (w.heap.size + 3 + 1) (.loop { L' with state := .busy })).heap[w.heap.size + 3 + 1]? = some (.loop { L' with state := .busy }) :=
      heap_upd_same (by rw [f1.heap hlb' (fun h => h)]; rfl)
    generalize upd W1 (w.heap.size + 3 + 1) (.loop { L' with state := .busy }) = W2 at f2 g2 l2 ⊢
    have v2 : W2.heap[w.heap.size]? = some (cellsO [v] 47) := f2.heap hv (by omega)
    have hX12 : X.drop 0 = X := rfl
    have hXt : X.take 12 = X := List.take_of_length_le (by omega)
    simp only [push_cast, Nat.reduceAdd, Nat.reduceLeDiff, Nat.reduceLT, v2, g2, hx, hX12, hXt]
    refine s_bs1 (sz := 12) hx (by rfl) (by decide) (by decide) fun vG W3 hG f3 nG => ?_
    have o2 : OwnE 86 12 W2 v _ := hvO.fr f2 (fun b hb => by have := hvb b hb; omega)
    have o3 : OwnE 86 12 W3 v _ := o2.fr f3 (fun _ _ h => h)
    have hci : (chs hs).length = hs.length := chs_length hs
    refine s_app (sz := 12) (by_ := 56) (by rfl) (by decide) o3 hG.rd (by simpa using hx1) (by rw [List.length_take, List.length_drop]; simp only [List.length_cons, List.length_nil]; omega) fun vH W4 hH bH f4 => ?_
    have hvH : ∀ b, blkS vH = some b → w.heap.size + 4 < b := fun b hb => by
      rcases bH with bH | bH
      · exact hvb b (bH ▸ hb)
      · have := bH b hb; have := f3.size; have := f2.size; omega
    have v4 : W4.heap[w.heap.size]? = some (cellsO [v] 47) := f4.heap (f3.heap v2 (fun h => h)) (fun h => by have := hvb _ h; omega)
    have l4 : W4.heap[w.heap.size + 3 + 1]? = some (.loop { L' with state := .busy }) := f4.heap (f3.heap l2 (fun h => h)) (fun h => by have := hvb _ h; omega)
    have f5 : Fr (fun b => b = w.heap.size + 4 ∨ blkS v = some b ∨ b = w.heap.size) w' (wr W4 w.heap.size 0 [vH]) := by
      refine Fr.step_wr ?_ (.inl (.inr (.inr rfl))) _ _
      refine Fr.trans_new ?_ f4 (fun b _ h => .inr (.inl h))
      exact (f2.mono (fun b _ h => .inl h)).trans_new f3 (fun _ _ h => h.elim)
    have hone := hH.one
    simp only [push_cast, Nat.reduceAdd, Nat.reduceLeDiff, Nat.reduceLT, v4, hone]
    have v5 : (wr W4 w.heap.size 0 [vH]).heap[w.heap.size]? = some (cellsO [vH] 47) := by simp only [push_cast, v4]
    have l5 : (wr W4 w.heap.size 0 [vH]).heap[w.heap.size + 3 + 1]? = some (.loop { L' with state := .busy }) := by
      rw [heap_wr, if_neg (by omega)]; exact l4
    have o5 : OwnE 86 12 (wr W4 w.heap.size 0 [vH]) vH _ := hH.fr (Fr.wr (fp := fun b => b = w.heap.size) W4 _ 0 [vH] rfl) (fun b hb e => by have := hvH b hb; omega)
    generalize wr W4 w.heap.size 0 [vH] = W5 at f5 v5 l5 o5 ⊢
    rw [opS_endR l5]
    have f6 := f5.step_upd l5 rfl (.loop { L' with state := .ready, pending := none }) rfl (.inl (.inl rfl))
    have hfr : Fr none_ w (upd W5 (w.heap.size + 3 + 1) (.loop { L' with state := .ready, pending := none })) :=
      hI.fr.trans_new f6 (fun b hb h => by
        rcases h with h | h | h
        · omega
        · have := hvb b h; omega
        · omega)
    have hno : ∀ k, 1 ≤ k → k ≤ 3 → ¬ (w.heap.size + k = w.heap.size + 4 ∨ blkS v = some (w.heap.size + k) ∨ w.heap.size + k = w.heap.size) := by
      rintro k h1 h2 (h | h | h)
      · omega
      · have := hvb _ h
        omega
      · omega
    refine hK _ ⟨?_, ?_, ?_, ⟨vH, ?_, ?_, hvH⟩, ⟨{ L' with state := .ready, pending := none }, ?_, hsame, rfl, rfl⟩, ?_, hfr, rfl⟩
    · exact hj.fr hfr (fun h => h) (fun h => h)
    · exact f6.heap hI.sb (hno 2 (by omega) (by omega))
    · exact f6.heap hI.jb (hno 1 (by omega) (by omega))
    · rw [heap_upd_ne (by omega)]; exact v5
    · have hi3 : i < ((chs hs).drop s).length := by rw [List.length_drop]; omega
      have hX2 : ((chs hs).drop s)[i] = X := by rw [← hX, List.getElem_drop]; simp [chs]
      rw [List.take_succ_eq_append_getElem hi3, hX2]
      exact o5.frame fun b hb => heap_upd_ne (by have := hvH b hb; omega)
    · exact heap_upd_same (by rw [l5]; rfl)
    · exact f6.heap hI.db (hno 3 (by omega) (by omega))
  · refine ⟨hj.fr hF3 (fun h => h) (fun h => h), ?_, ?_, ⟨.slice none 0 0, ?_, ⟨.inl ⟨rfl, by simp, by simp⟩, by simp⟩, fun b hb => by cases hb⟩, ⟨L, ?_, ⟨rfl, rfl, rfl, rfl, rfl⟩, hLs, by simpa using hLn⟩, ?_, hF3, rfl⟩
    all_goals simp only [push_cast]
    all_goals repeat' first | rw [if_neg (by omega)] | rw [if_pos (by omega)]
  · intro w' hI
    obtain ⟨L', hlb, hsame, hst, hpd⟩ := hI.lb
    obtain ⟨v, hv, hvO, hvb⟩ := hI.out
    replace hlb : w'.heap[w.heap.size + 3 + 1]? = some (.loop L') := hlb
    refine ⟨L'.pending, _, run_endLoop hlb (by rw [hst]; decide), ?_⟩
    rw [hpd]
    show opS Try.prog (S.ld 47 (pt w.heap.size 0)) _ _
    have e1 : (upd w' (w.heap.size + 3 + 1) (.loop { L' with state := .exhausted, pending := none })).heap[w.heap.size]? = some (cellsO [v] 47) := by
      rw [heap_upd_ne (by omega)]; exact hv
    have e2 : (upd w' (w.heap.size + 3 + 1) (.loop { L' with state := .exhausted, pending := none })).heap[w.heap.size + 3]? = some (.deferred (some [])) := by
      rw [heap_upd_ne (by omega)]; exact hI.db
    have f1 : Fr none_ w (upd w' (w.heap.size + 3 + 1) (.loop { L' with state := .exhausted, pending := none })) := hI.fr.step_upd hlb rfl _ rfl (.inr (by omega))
    have o1 : OwnE 86 12 (upd w' (w.heap.size + 3 + 1) (.loop { L' with state := .exhausted, pending := none })) v _ := hvO.frame fun b hb => heap_upd_ne (by have := hvb b hb; omega)
    generalize upd w' (w.heap.size + 3 + 1) (.loop { L' with state := .exhausted, pending := none }) = W at e1 e2 f1 o1 ⊢
    simp only [push_cast, e1]
    show opS Try.prog (S.take (pt (w.heap.size + 3) 0)) _ _
    rw [opS_take e2]
    refine h1 (by omega) (by omega) (by omega) _ v ?_ (f1.step_upd e2 rfl _ rfl (.inr (by omega)))
    rw [Int.toNat_natCast]
    have hci : (chs hs).length = hs.length := chs_length hs
    rw [List.take_of_length_le (by rw [List.length_drop]; omega)] at o1
    exact (o1.frame fun b hb => heap_upd_ne (by have := hvb b hb; omega)).rd


end Go.Gx.S.Jour
