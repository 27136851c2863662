/- What a loop over a function collects. -/
import Derived.Test.YtclkdldkebjgpaaGxLoop
import Derived.Test.YtclkdldkebjgpaaGxRf
namespace Go.Gx
open Go
variable {P : Program} {K : Value → World → Prop} {w : World}

theorem upd_own {E sz b0 : Nat} {v : Value} {es : List (List Value)} {o : Obj} (h : OwnE E sz w v es) (hn : ∀ b, blkS v = some b → b0 ≠ b) : OwnE E sz (upd w b0 o) v es :=
  h.frame fun b hb => heap_upd_ne (hn b hb)

/-- while a loop collects into the slot q: its marks lie at s, its own block behind; 'it' is another's -/
structure CI (E sz : Nat) (T : TypeId) (w0 : World) (q s : Nat) (L : Loop) (it : Nat) (es : List (List Value)) (w : World) : Prop where
  slot : ∃ v, w.heap[q]? = some (cellsO [v] T) ∧ OwnE E sz w v es ∧ ∀ b, blkS v = some b → s + 1 < b ∧ b ≠ it
  loop : ∃ L', w.heap[s + 1]? = some (.loop L') ∧ LoopSame L' L ∧ L'.state = .ready ∧ L'.pending = none
  dfr : w.heap[s]? = some (.deferred (some []))
  fr : Fr none_ w0 w
  q0 : w0.heap.size ≤ q
  qs : q < s
  its : s + 1 < it

theorem CI.stay {E sz : Nat} {T : TypeId} {w0 w' : World} {q s it : Nat} {L : Loop} {es : List (List Value)} (h : CI E sz T w0 q s L it es w) (hF : Fr (fun b => b = it) w w') : CI E sz T w0 q s L it es w' := by
  obtain ⟨⟨v, h1, h2, h3⟩, ⟨L', h4, h5⟩, h6, h7, h8, h9, h10⟩ := h
  refine ⟨⟨v, hF.heap h1 (by omega), h2.fr hF (fun b hb => (h3 b hb).2), h3⟩, ⟨L', hF.heap h4 (by omega), h5⟩, hF.heap h6 (by omega), h7.trans_new hF fun b hb e => ?_, h8, h9, h10⟩
  omega

/-- at its start -/
theorem CI.start {E sz : Nat} {T : TypeId} {w0 w' : World} {q it : Nat} {L : Loop} {v : Value} {es : List (List Value)} (hL1 : L.state = .ready) (hL2 : L.pending.isNone = true) (hs : w.heap[q]? = some (cellsO [v] T)) (hv : OwnE E sz w v es) (hvn : blkS v = none)
    (hF : Fr none_ w0 w) (hq : w0.heap.size ≤ q) (hF' : Fr none_ ((w.alloc (.deferred (some []))).alloc (.loop L)) w') (hit : w.heap.size + 2 ≤ it) : CI E sz T w0 q w.heap.size L it es w' := by
  have hlt := lt_of_heap hs
  have hF2 : Fr none_ w ((w.alloc (.deferred (some []))).alloc (.loop L)) := ((Fr.refl _ _).step_alloc rfl).step_alloc rfl
  refine ⟨⟨v, hF'.heap (hF2.heap hs fun h => h) fun h => h, hv.fr (hF2.trans hF') (fun _ _ h => h), fun b hb => by rw [hvn] at hb; cases hb⟩, ⟨L, hF'.heap ?_ fun h => h, ⟨rfl, rfl, rfl, rfl, rfl⟩, hL1, by simpa using hL2⟩, hF'.heap ?_ fun h => h, (hF.trans hF2).trans hF', hq, hlt, by omega⟩
  · have := heap_alloc_new (w.alloc (.deferred (some []))) (.loop L)
    rwa [size_alloc] at this
  · rw [heap_alloc_lt (by rw [size_alloc]; omega)]
    exact heap_alloc_new _ _

/-- a round -/
theorem coll_roundM {T E sz by_ : Nat} {ag : Bool} {z : Value} {ty : TypeId} [hT : SlT P T E] [hs : Sz P E sz ag] [hsT : Sz P T 1 false] [hb : By P E by_] [hz : ZV P E z] {w0 : World} {q s it : Nat} {L : Loop} {es : List (List Value)} {x : List Value} {mid : (Value → World → Prop) → World → Prop}
    (hx : ∀ (K : Value → World → Prop) w1, Fr (fun b => b = s + 1) w w1 → (∀ v' w', OwnE E sz w' v' [x] → Fr none_ w1 w' → New w1 v' → K v' w') → mid K w1) (hone : x.all S.oneCell = true) (hzn : z.cells.size = sz) (hby : 0 < by_) (hroom : (2 * (es.length + 1) + 192) * by_ ≤ 2 ^ 48)
    (h : CI E sz T w0 q s L it es w) (hit : it < w.heap.size) (hK : ∀ w', CI E sz T w0 q s L it (es ++ [x]) w' → Fr (fun b => b ≠ it ∧ w0.heap.size ≤ b) w w' → K (.bool true) w') :
    opS P (S.beginR (pt (s + 1) 0)) (fun _ => opS P (S.ld T (pt q 0)) fun x6 => mid fun x7 => opS P (S.bi .append #[T, T] ty [x6, x7]) fun x8 => opS P (S.st T (pt q 0) x8) fun _ => opS P (S.endR (pt (s + 1) 0) none) K) w := by
  obtain ⟨⟨v, hv, hvO, hvb⟩, ⟨L', hlb, hsame, hst, hpd⟩, hd, hfr, hq, hqs, hits⟩ := h
  have hlt1 := lt_of_heap hlb
  have hsz := hfr.size
  rw [opS_beginR hlb hst]
  have f2 : Fr (fun b => b = s + 1) w (upd w (s + 1) (.loop { L' with state := .busy })) := Fr.upd' hlb rfl _ rfl rfl
  have l2 : (upd w (s + 1) (.loop { L' with state := .busy })).heap[s + 1]? = some (.loop { L' with state := .busy }) := heap_upd_same (by rw [hlb]; rfl)
  generalize upd w (s + 1) (.loop { L' with state := .busy }) = W2 at f2 l2 ⊢
  have v2 : W2.heap[q]? = some (cellsO [v] T) := f2.heap hv (by omega)
  rw [s_ld1, v2, cellAt_cells, List.getElem?_cons_zero, onS_some]
  refine hx _ _ f2 fun vG W3 hG f3 nG => ?_
  have o2 : OwnE E sz W2 v es := hvO.fr f2 (fun b hb => by have := (hvb b hb).1; omega)
  have o3 : OwnE E sz W3 v es := o2.fr f3 (fun _ _ h => h)
  refine s_app (T := T) (T2 := T) (sz := sz) (by_ := by_) hzn hby o3 hG.rd (by simpa using hone) (by simpa using hroom) fun vH W4 hH bH f4 => ?_
  have hvH : ∀ b, blkS vH = some b → s + 1 < b ∧ b ≠ it := fun b hb => by
    rcases bH with bH | bH
    · exact hvb b (bH ▸ hb)
    · have := bH b hb; have := f3.size; have := f2.size; omega
  have v4 : W4.heap[q]? = some (cellsO [v] T) := f4.heap (f3.heap v2 (fun h => h)) (fun h => by have := hvb _ h; omega)
  have l4 : W4.heap[s + 1]? = some (.loop { L' with state := .busy }) := f4.heap (f3.heap l2 (fun h => h)) (fun h => by have := hvb _ h; omega)
  have f5 : Fr (fun b => b = s + 1 ∨ blkS v = some b ∨ b = q) w (wr W4 q 0 [vH]) := by
    refine Fr.step_wr ?_ (.inl (.inr (.inr rfl))) _ _
    refine Fr.trans_new ?_ f4 (fun b _ h => .inr (.inl h))
    exact (f2.mono (fun b _ h => .inl h)).trans_new f3 (fun _ _ h => h.elim)
  rw [s_st1 _ _ _ hH.one, v4, okAt_cells]
  have ok : decide (0 + 1 ≤ [v].length) = true := rfl
  rw [ok, onB_true]
  have v5 : (wr W4 q 0 [vH]).heap[q]? = some (cellsO [vH] T) := by rw [heap_wr, if_pos rfl, v4, putAt_cells]; rfl
  have l5 : (wr W4 q 0 [vH]).heap[s + 1]? = some (.loop { L' with state := .busy }) := by
    rw [heap_wr, if_neg (by omega)]; exact l4
  have o5 : OwnE E sz (wr W4 q 0 [vH]) vH (es ++ [x]) := hH.fr (Fr.wr (fp := fun b => b = q) W4 _ 0 [vH] rfl) (fun b hb e => by have := hvH b hb; omega)
  generalize wr W4 q 0 [vH] = W5 at f5 v5 l5 o5 ⊢
  rw [opS_endR l5]
  have f6 := f5.step_upd l5 rfl (.loop { L' with state := .ready, pending := none }) rfl (.inl (.inl rfl))
  have hfr2 : Fr none_ w0 (upd W5 (s + 1) (.loop { L' with state := .ready, pending := none })) :=
    hfr.trans_new f6 (fun b hb h => by
      rcases h with h | h | h
      · omega
      · have := hvb b h; omega
      · omega)
  refine hK _ ⟨⟨vH, ?_, upd_own o5 (fun b hb => by have := hvH b hb; omega), hvH⟩, ⟨{ L' with state := .ready, pending := none }, heap_upd_same (by rw [l5]; rfl), hsame, rfl, rfl⟩, f6.heap hd ?_, hfr2, hq, hqs, hits⟩ (f6.mono fun b _ h => ?_)
  · rw [heap_upd_ne (by omega)]; exact v5
  · rintro (h | h | h)
    · omega
    · have := hvb _ h; omega
    · omega
  · rcases h with h | h | h
    · omega
    · have := hvb _ h; exact ⟨this.2, by omega⟩
    · omega

theorem coll_round {T E sz by_ : Nat} {ag : Bool} {z : Value} {ty : TypeId} [hT : SlT P T E] [hs : Sz P E sz ag] [hsT : Sz P T 1 false] [hb : By P E by_] [hz : ZV P E z] {w0 : World} {q s it : Nat} {L : Loop} {es : List (List Value)} {x : List Value} {xv : Value}
    (hx : ∀ (K : Value → World → Prop) w, (∀ v' w', OwnE E sz w' v' [x] → Fr none_ w w' → New w v' → K v' w') → opS P (S.buildS T 1 [(0, xv)]) K w) (hone : x.all S.oneCell = true) (hzn : z.cells.size = sz) (hby : 0 < by_) (hroom : (2 * (es.length + 1) + 192) * by_ ≤ 2 ^ 48)
    (h : CI E sz T w0 q s L it es w) (hit : it < w.heap.size) (hK : ∀ w', CI E sz T w0 q s L it (es ++ [x]) w' → Fr (fun b => b ≠ it ∧ w0.heap.size ≤ b) w w' → K (.bool true) w') :
    opS P (S.beginR (pt (s + 1) 0)) (fun _ => opS P (S.ld T (pt q 0)) fun x6 => opS P (S.buildS T 1 [(0, xv)]) fun x7 => opS P (S.bi .append #[T, T] ty [x6, x7]) fun x8 => opS P (S.st T (pt q 0) x8) fun _ => opS P (S.endR (pt (s + 1) 0) none) K) w :=
  coll_roundM (mid := fun K => opS P (S.buildS T 1 [(0, xv)]) K) (fun K w1 _ hk => hx K w1 hk) hone hzn hby hroom h hit hK

/-- at its end -/
theorem coll_end (P : Program) {E sz : Nat} {T : TypeId} {w0 : World} {q s it : Nat} {L : Loop} {es : List (List Value)} (h : CI E sz T w0 q s L it es w) :
    ∃ v w', (Instr.endLoop (s + 1)).run P w = .ok none w' ∧ w'.heap[q]? = some (cellsO [v] T) ∧ OwnE E sz w' v es ∧ (∀ b, blkS v = some b → s + 1 < b) ∧ w'.heap[s]? = some (.deferred (some [])) ∧ Fr none_ w0 w' ∧ q < s ∧ w0.heap.size ≤ q := by
  obtain ⟨⟨v, hv, hvO, hvb⟩, ⟨L', hlb, hsame, hst, hpd⟩, hd, hfr, hq, hqs, hits⟩ := h
  refine ⟨v, _, by rw [run_endLoop hlb (by rw [hst]; decide), hpd], ?_, upd_own hvO fun b hb => by have := (hvb b hb).1; omega, fun b hb => (hvb b hb).1, ?_, hfr.step_upd hlb rfl _ rfl (.inr (by omega)), hqs, hq⟩
  · rw [heap_upd_ne (by omega)]; exact hv
  · rw [heap_upd_ne (by omega)]; exact hd

end Go.Gx
