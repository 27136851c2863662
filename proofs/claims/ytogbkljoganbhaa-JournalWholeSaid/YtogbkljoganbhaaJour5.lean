/- Since, of the program: the whole. -/
import Derived.Test.YtogbkljoganbhaaJour5T
import Derived.Test.YtogbkljoganbhaaJour4
set_option linter.unusedVariables false
set_option linter.unusedSimpArgs false
set_option maxRecDepth 100000
namespace Go.Gx.S.Jour
open Go Go.Gx Go.Gx.S Go.Proofs
variable {K : Value → World → Prop} {w : World}

theorem heap_upd' (w : World) (b b' : Nat) (o : Obj) : (upd w b o).heap[b']? = if b = b' then (w.heap[b]?).map (fun _ => o) else w.heap[b']? := heap_upd w b b' o
attribute [push_cast] heap_upd' size_upd Option.map_some

theorem splice_full {l vs : List Value} (h : vs.length = l.length) : splice l 0 vs = vs := by simp [splice, h]

/-- what holds at the head of each round -/
structure SInv (w0 : World) (p rb room : Nat) (hs : List (List Value × Bool)) (o c : Nat) (es : List (List Value)) (s : Nat) (L : Loop) (q i : Nat) (w : World) : Prop where
  j : JRep w p rb room hs o c es
  sb : w.heap[q + 2]? = some (cellsO [i64 s] 3)
  jb : w.heap[q + 1]? = some (cellsO [pt p 0] 24)
  out : ∃ v, w.heap[q]? = some (cellsO [v] 40) ∧ OwnE 48 12 w v (((chs hs).drop s).take i) ∧ ∀ b, blkS v = some b → q + 4 < b
  lb : ∃ L', w.heap[q + 4]? = some (.loop L') ∧ LoopSame L' L ∧ L'.state = .ready ∧ L'.pending = none
  db : w.heap[q + 3]? = some (.deferred (some []))
  fr : Fr none_ w0 w
  q0 : q = w0.heap.size

theorem since_spec {p rb room o c : Nat} {hs : List (List Value × Bool)} {es : List (List Value)} {seq : Int} (hj : JRep w p rb room hs o c es) (hr : 0 < room) (hr2 : room ≤ 1000) (hn : hs.length < 2 ^ 30)
    (hok : ∀ h ∈ hs, h.1.length = 10 ∧ h.1.all S.oneCell = true)
    (h0 : ¬ (0 ≤ seq ∧ seq ≤ hs.length ∧ hs.length - seq ≤ room) → ∀ w', Fr none_ w w' → K (.tuple #[.slice none 0 0, .bool false]) w')
    (h1 : 0 ≤ seq → seq ≤ hs.length → hs.length - seq ≤ room → ∀ w' v, RdE 12 w' v ((chs hs).drop seq.toNat) → Fr none_ w w' → K (.tuple #[v, .bool true]) w') : CallsR Try.prog 15 #[pt p 0, i64 seq] K w := by
  apply c15
  unfold p15
  have hp := hj.blk
  have hF : Fr none_ w w.drew := Fr.drew w
  have hlt := lt_of_heap hp
  have hrlt := hj.ring.lt (b := rb) rfl
  simp only [push_cast, hp]
  refine br_dec (fun ha => h0 (by omega) _ hF) fun ha => ?_
  refine br_dec (fun hb => h0 (by omega) _ hF) fun hb => ?_
  rw [wrap_i64 (by omega)]
  have hlen := hj.len
  refine br_dec (fun hc => h0 (by omega) _ hF) fun hc => ?_
  obtain ⟨s, rfl⟩ : ∃ s : Nat, seq = s := ⟨seq.toNat, by omega⟩
  refine behind_spec rfl ?_
  simp only [push_cast]
  intro L hLs hLp hLn hyield
  rw [enterS_call]
  have hne : ∀ k, p ≠ w.heap.size + k := fun k => by omega
  have hne0 : p ≠ w.heap.size := by omega
  have hrne : ∀ k, rb ≠ w.heap.size + k := fun k => by omega
  have hrne0 : rb ≠ w.heap.size := by omega
  have hsz : (((w.drew.alloc (cellsO [Value.slice none 0 0] 40)).alloc (cellsO [pt p 0] 24)).alloc (cellsO [i64 s] 3)).heap.size = w.heap.size + 3 := by simp only [push_cast]
  rw [hsz] at hyield ⊢
  have hF3 : Fr none_ w (((((w.drew.alloc (cellsO [Value.slice none 0 0] 40)).alloc (cellsO [pt p 0] 24)).alloc (cellsO [i64 s] 3)).alloc (.deferred (some []))).alloc (.loop L)) :=
    ((((hF.step_alloc rfl).step_alloc rfl).step_alloc rfl).step_alloc rfl).step_alloc rfl
  show CallsR Try.prog 32 #[_, pt (w.heap.size + 2) 0, pt (w.heap.size + 1) 0] _ _
  refine behind1_spec (SInv w p rb room hs o c es s L w.heap.size) hr hn (fun i w' hI => ⟨hI.j, hI.sb, hI.jb, ⟨hI.j.fr (Fr.drew (fp := none_) w') (fun h => h) (fun h => h), hI.sb, hI.jb, hI.out, hI.lb, hI.db, hI.fr.step_drew, hI.q0⟩⟩) (by omega) (by omega) ?_ ?_ ?_
  · intro i w' KY hi hI hK
    obtain ⟨L', hlb, hsame, hst, hpd⟩ := hI.lb
    have hlb' : w'.heap[w.heap.size + 3 + 1]? = some (.loop L') := hlb
    have hgoal := hyield KY [.agg (chg (s + i + 1) hs[s + i].1 hs[s + i].2).toArray] w' L' hst hsame hlb' rfl
    refine hgoal ?_
    clear hgoal hyield
    show opS Try.prog (S.alloc 48) (fun x20 =>
                        opS Try.prog (S.st 48 x20 (.agg (chg (s + i + 1) hs[s + i].1 hs[s + i].2).toArray)) fun x21 =>
                          opS Try.prog (S.beginR (pt (w.heap.size + 3 + 1) 0)) fun x22 =>
                            opS Try.prog (S.ld 40 (pt w.heap.size 0)) fun x23 =>
                              opS Try.prog (S.ld 48 x20) fun x24 =>
                                opS Try.prog (S.buildS 40 1 [(0, x24)]) fun x25 =>
                                  opS Try.prog (S.bi Builtin.append #[40, 40] 40 [x23, x25]) fun x26 =>
                                    opS Try.prog (S.st 40 (pt w.heap.size 0) x26) fun x27 =>
                                      opS Try.prog (S.endR (pt (w.heap.size + 3 + 1) 0) none) fun x28 => KY x28) w'
    have hx : (chg (s + i + 1) hs[s + i].1 hs[s + i].2).length = 12 := by simp [chg, (hok _ (List.getElem_mem hi)).1]
    have hx1 : (chg (s + i + 1) hs[s + i].1 hs[s + i].2).all S.oneCell = true := chg_one (hok _ (List.getElem_mem hi)).2
    generalize hX : chg (s + i + 1) hs[s + i].1 hs[s + i].2 = X at hx hx1 ⊢
    simp only [push_cast]
    rw [s_stA _ _ _ hx hx1]
    have f1 : Fr none_ w' (wr (w'.alloc (cellsO [Value.int IntKind.i64 0, Value.int IntKind.i64 0, Value.int IntKind.u8 0, Value.int IntKind.u8 0, Value.int IntKind.u8 0, Value.int IntKind.u8 0, Value.int IntKind.u8 0, Value.int IntKind.u8 0, Value.int IntKind.i64 0, Value.int IntKind.i64 0, Value.bool false, Value.bool false] 48)) w'.heap.size 0 X) :=
      ((Fr.refl none_ w').step_alloc rfl).step_wr (.inr (Nat.le_refl _)) _ _
    have g1 : (wr (w'.alloc (cellsO [Value.int IntKind.i64 0, Value.int IntKind.i64 0, Value.int IntKind.u8 0, Value.int IntKind.u8 0, Value.int IntKind.u8 0, Value.int IntKind.u8 0, Value.int IntKind.u8 0, Value.int IntKind.u8 0, Value.int IntKind.i64 0, Value.int IntKind.i64 0, Value.bool false, Value.bool false] 48)) w'.heap.size 0 X).heap[w'.heap.size]? = some (cellsO X 48) := by
      simp only [push_cast]
      rw [splice_full (by rw [hx]; rfl)]
    simp only [push_cast, Nat.reduceAdd, Nat.reduceLeDiff]
    generalize wr (w'.alloc _) w'.heap.size 0 X = W1 at f1 g1 ⊢
    obtain ⟨v, hv, hvO, hvb⟩ := hI.out
    have hlt1 := lt_of_heap hlb
    -- the round begins
    rw [opS_beginR (f1.heap hlb' (fun h => h)) hst]
    have f2 : Fr (fun b => b = w.heap.size + 4) w' (upd W1 (w.heap.size + 3 + 1) (.loop { L' with state := .busy })) :=
      (f1.mono (fun _ _ h => h.elim)).step_upd (f1.heap hlb' (fun h => h)) rfl _ rfl (.inl rfl)
    have g2 : (upd W1 (w.heap.size + 3 + 1) (.loop { L' with state := .busy })).heap[w'.heap.size]? = some (cellsO X 48) := by
      rw [heap_upd_ne (by omega)]; exact g1
    have l2 : (upd W1 (w.heap.size + 3 + 1) (.loop { L' with state := .busy })).heap[w.heap.size + 3 + 1]? = some (.loop { L' with state := .busy }) :=
      heap_upd_same (by rw [f1.heap hlb' (fun h => h)]; rfl)
    generalize upd W1 (w.heap.size + 3 + 1) (.loop { L' with state := .busy }) = W2 at f2 g2 l2 ⊢
    have v2 : W2.heap[w.heap.size]? = some (cellsO [v] 40) := f2.heap hv (by omega)
    have hX12 : X.drop 0 = X := rfl
    have hXt : X.take 12 = X := List.take_of_length_le (by omega)
    simp only [push_cast, Nat.reduceAdd, Nat.reduceLeDiff, Nat.reduceLT, v2, g2, hx, hX12, hXt]
    refine s_bs1 (sz := 12) hx (by rfl) (by decide) (by decide) fun vG W3 hG f3 nG => ?_
    have o2 : OwnE 48 12 W2 v _ := hvO.fr f2 (fun b hb => by have := hvb b hb; omega)
    have o3 : OwnE 48 12 W3 v _ := o2.fr f3 (fun _ _ h => h)
    have hci : (chs hs).length = hs.length := chs_length hs
    refine s_app (sz := 12) (by_ := 56) (by rfl) (by decide) o3 hG.rd (by simpa using hx1) (by rw [List.length_take, List.length_drop]; simp only [List.length_cons, List.length_nil]; omega) fun vH W4 hH bH f4 => ?_
    have hvH : ∀ b, blkS vH = some b → w.heap.size + 4 < b := fun b hb => by
      rcases bH with bH | bH
      · exact hvb b (bH ▸ hb)
      · have := bH b hb; have := f3.size; have := f2.size; omega
    have v4 : W4.heap[w.heap.size]? = some (cellsO [v] 40) := f4.heap (f3.heap v2 (fun h => h)) (fun h => by have := hvb _ h; omega)
    have l4 : W4.heap[w.heap.size + 3 + 1]? = some (.loop { L' with state := .busy }) := f4.heap (f3.heap l2 (fun h => h)) (fun h => by have := hvb _ h; omega)
    have f5 : Fr (fun b => b = w.heap.size + 4 ∨ blkS v = some b ∨ b = w.heap.size) w' (wr W4 w.heap.size 0 [vH]) := by
      refine Fr.step_wr ?_ (.inl (.inr (.inr rfl))) _ _
      refine Fr.trans_new ?_ f4 (fun b _ h => .inr (.inl h))
      exact (f2.mono (fun b _ h => .inl h)).trans_new f3 (fun _ _ h => h.elim)
    have hone := hH.one
    simp only [push_cast, Nat.reduceAdd, Nat.reduceLeDiff, Nat.reduceLT, v4, hone]
    have v5 : (wr W4 w.heap.size 0 [vH]).heap[w.heap.size]? = some (cellsO [vH] 40) := by simp only [push_cast, v4]
    have l5 : (wr W4 w.heap.size 0 [vH]).heap[w.heap.size + 3 + 1]? = some (.loop { L' with state := .busy }) := by
      rw [heap_wr, if_neg (by omega)]; exact l4
    have o5 : OwnE 48 12 (wr W4 w.heap.size 0 [vH]) vH _ := hH.fr (Fr.wr (fp := fun b => b = w.heap.size) W4 _ 0 [vH] rfl) (fun b hb e => by have := hvH b hb; omega)
    generalize wr W4 w.heap.size 0 [vH] = W5 at f5 v5 l5 o5 ⊢
    rw [opS_endR l5]
    have f6 := f5.step_upd l5 rfl (.loop { L' with state := .ready, pending := none }) rfl (.inl (.inl rfl))
    have hfr : Fr none_ w (upd W5 (w.heap.size + 3 + 1) (.loop { L' with state := .ready, pending := none })) :=
      hI.fr.trans_new f6 (fun b hb h => by
        rcases h with h | h | h
        · omega
        · have := hvb b h; omega
        · omega)
    have hno : ∀ k, 1 ≤ k → k ≤ 3 → ¬ (w.heap.size + k = w.heap.size + 4 ∨ blkS v = some (w.heap.size + k) ∨ w.heap.size + k = w.heap.size) := by
      rintro k h1 h2 (h | h | h)
      · omega
      · have := hvb _ h
        omega
      · omega
    refine hK _ ⟨?_, ?_, ?_, ⟨vH, ?_, ?_, hvH⟩, ⟨{ L' with state := .ready, pending := none }, ?_, hsame, rfl, rfl⟩, ?_, hfr, rfl⟩
    · exact hj.fr hfr (fun h => h) (fun h => h)
    · exact f6.heap hI.sb (hno 2 (by omega) (by omega))
    · exact f6.heap hI.jb (hno 1 (by omega) (by omega))
    · rw [heap_upd_ne (by omega)]; exact v5
    · have hi3 : i < ((chs hs).drop s).length := by rw [List.length_drop]; omega
      have hX2 : ((chs hs).drop s)[i] = X := by rw [← hX, List.getElem_drop]; simp [chs]
      rw [List.take_succ_eq_append_getElem hi3, hX2]
      exact o5.frame fun b hb => heap_upd_ne (by have := hvH b hb; omega)
    · exact heap_upd_same (by rw [l5]; rfl)
    · exact f6.heap hI.db (hno 3 (by omega) (by omega))
  · refine ⟨hj.fr hF3 (fun h => h) (fun h => h), ?_, ?_, ⟨.slice none 0 0, ?_, ⟨.inl ⟨rfl, by simp, by simp⟩, by simp⟩, fun b hb => by cases hb⟩, ⟨L, ?_, ⟨rfl, rfl, rfl, rfl, rfl⟩, hLs, by simpa using hLn⟩, ?_, hF3, rfl⟩
    all_goals simp only [push_cast]
    all_goals repeat' first | rw [if_neg (by omega)] | rw [if_pos (by omega)]
  · intro w' hI
    obtain ⟨L', hlb, hsame, hst, hpd⟩ := hI.lb
    obtain ⟨v, hv, hvO, hvb⟩ := hI.out
    replace hlb : w'.heap[w.heap.size + 3 + 1]? = some (.loop L') := hlb
    refine ⟨L'.pending, _, run_endLoop hlb (by rw [hst]; decide), ?_⟩
    rw [hpd]
    show opS Try.prog (S.ld 40 (pt w.heap.size 0)) _ _
    have e1 : (upd w' (w.heap.size + 3 + 1) (.loop { L' with state := .exhausted, pending := none })).heap[w.heap.size]? = some (cellsO [v] 40) := by
      rw [heap_upd_ne (by omega)]; exact hv
    have e2 : (upd w' (w.heap.size + 3 + 1) (.loop { L' with state := .exhausted, pending := none })).heap[w.heap.size + 3]? = some (.deferred (some [])) := by
      rw [heap_upd_ne (by omega)]; exact hI.db
    have f1 : Fr none_ w (upd w' (w.heap.size + 3 + 1) (.loop { L' with state := .exhausted, pending := none })) := hI.fr.step_upd hlb rfl _ rfl (.inr (by omega))
    have o1 : OwnE 48 12 (upd w' (w.heap.size + 3 + 1) (.loop { L' with state := .exhausted, pending := none })) v _ := hvO.frame fun b hb => heap_upd_ne (by have := hvb b hb; omega)
    generalize upd w' (w.heap.size + 3 + 1) (.loop { L' with state := .exhausted, pending := none }) = W at e1 e2 f1 o1 ⊢
    simp only [push_cast, e1]
    show opS Try.prog (S.take (pt (w.heap.size + 3) 0)) _ _
    rw [opS_take e2]
    refine h1 (by omega) (by omega) (by omega) _ v ?_ (f1.step_upd e2 rfl _ rfl (.inr (by omega)))
    rw [Int.toNat_natCast]
    have hci : (chs hs).length = hs.length := chs_length hs
    rw [List.take_of_length_le (by rw [List.length_drop]; omega)] at o1
    exact (o1.frame fun b hb => heap_upd_ne (by have := hvb b hb; omega)).rd

end Go.Gx.S.Jour
