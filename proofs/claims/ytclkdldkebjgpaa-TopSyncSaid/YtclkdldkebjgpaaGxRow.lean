/- A law's row: what is left behind its walk. -/
import Derived.Test.YtclkdldkebjgpaaGxRf
import Derived.ChangeSame
import Derived.Carry
import Derived.WalkKit
import Derived.ProofKit
import Derived.OpenShut
import Derived.JoinedOf
import Derived.JoinedAt
import Derived.MapViews
import Derived.DeepKeys2
import Derived.ChangeSlices
namespace Go.Gx
open Go Go.ChangeShapes Go.WideShapes Go.ChangeAt Go.RowKit

theorem Fr.below {w w' : World} (h : Fr none_ w w') : RowKit.Below w.heap.size w w' := ⟨h.os, h.tape, h.out, h.size, fun k hk => h.old k hk (fun x => x)⟩

section
variable {H : Type} {enc : TypeId × Value → H} {P : Program}

theorem trodAll_carry (hl : laidOutB P = true) {W W' : World} (hb : RowKit.Below W.heap.size W W') : ∀ {ts : List TypeId} {vs : List Value} {ds : List (DataW H)} {ps : List MemPlace},
    (∀ t ∈ ts, P.readableRec t = true ∧ t < P.types.size) → DataW.TrodAll enc P W 0 (fun _ => true) true ts vs ds ps → (∀ x ∈ ps, x.block < W.heap.size) →
    ∀ sp : Nat → Bool, (∀ p ∈ ps, sp p.block = true) → DataW.TrodAll enc P W' 0 sp true ts vs ds ps
  | [], _, _, _, _, h, _, _, _ => by
    obtain ⟨rfl, rfl, rfl⟩ := trodAll_nil h
    exact trodAll_mk0
  | t :: ts, _, _, _, ht, h, hlt, sp, hsp => by
    obtain ⟨v, vs1, d, ds1, a, b, rfl, rfl, rfl, h1, h2⟩ := trodAll_cons h
    obtain ⟨hr, hrow⟩ := ht t (List.mem_cons_self ..)
    exact ⟨a, b, WideElems.Trod_stays hl hr hrow h1 (fun x hx => hb.same (hlt x (List.mem_append_left _ hx))) (fun x hx => hsp x (List.mem_append_left _ hx)),
      trodAll_carry hl hb (fun t' h' => ht t' (List.mem_cons_of_mem _ h')) h2 (fun x hx => hlt x (List.mem_append_right _ hx)) sp (fun x hx => hsp x (List.mem_append_right _ hx)), rfl⟩

/-- **a law that answers true, and leaves all as it was** -/
theorem law_post {f : Func} {s : ChangeSpec} {fresh handsOn : Bool} {W W' : World} {args : Array Value} {ds gs : List (DataW H)} {before : List MemPlace} {tb : TypeId}
    (hl : laidOutB P = true) (hts : ∀ t ∈ f.params.toList, P.readableRec t = true ∧ t < P.types.size)
    (hrt : f.resultTypes = #[tb]) (htb : P.underlying tb = some .bool) (hvar : s.vars = [])
    (hspec : s.fn H (ds ++ gs) = { results := [.lit (.bool true)], args := ds })
    (hW : DataW.Whole enc P f.params.toList s.vars false W args.toList ds gs before) (hF : Fr none_ W W') :
    s.post enc P f false fresh handsOn false W args (.bool true) W' := by
  have hW' := hW
  obtain ⟨p, q, hA, hV, hps, hfz, hnd⟩ := hW
  rw [hvar] at hV
  obtain ⟨rfl, rfl⟩ := trodVars_none hV
  have hb := hF.below
  have hlt : ∀ x ∈ before, x.block < W.heap.size := fun x hx => by simpa using hW'.lt x hx
  rw [List.append_nil] at hps
  subst hps
  refine ⟨ds, [], before, [], before, [], hW', ?_, ?_, ?_, ?_, fun h => by cases h⟩
  · rw [hspec, hrt]
    exact trodAll_cons_mk (shut_bool htb _) trodAll_mk0
  · rw [hspec]
    exact trodAll_carry hl hb hts hA hlt _ (fun x hx => by simpa using hlt x hx)
  · rw [hspec, hvar]
    rfl
  · exact hb.frame _

/-! ### Slices that come in -/

theorem cells_of {w : World} {base b o n : Nat} {l : List Value} (h : w.cells? base ⟨b, o, none⟩ n = some l) (hn : 0 < n) :
    ∃ cs T fz, w.heap[b]? = some (.cells cs T fz) ∧ o + n ≤ cs.size ∧ l = (cs.toList.drop o).take n := by
  unfold World.cells? at h
  split at h
  · have hlen := mapM_some_length h
    have hget : ∀ i, i < n → w.cell? ⟨b, o + i, none⟩ = l[i]? := by
      intro i hi
      have := mapM_some_get h i i (by simp [hi])
      rwa [add_none] at this
    have h0 := hget 0 hn
    simp only [List.length_range] at hlen
    rw [Nat.add_zero, List.getElem?_eq_getElem (by omega)] at h0
    unfold World.cell? at h0
    split at h0
    · rename_i cs T fz hb
      have hb : w.heap[b]? = some (.cells cs T fz) := hb
      have hle : o + n ≤ cs.size := by
        have := hget (n - 1) (by omega)
        rw [List.getElem?_eq_getElem (by omega), cell_rd, rd, hb] at this
        simp only [] at this
        have := (Array.getElem?_eq_some_iff.1 this).1
        omega
      refine ⟨cs, T, fz, hb, hle, ?_⟩
      apply List.ext_getElem?
      intro i
      by_cases hi : i < n
      · rw [← hget i hi, List.getElem?_take_of_lt hi, List.getElem?_drop, cell_rd, rd, hb]
        simp
      · rw [List.getElem?_eq_none (by omega), List.getElem?_eq_none (by rw [List.length_take]; omega)]
    · cases h0
  · cases h

theorem cells_spot {w : World} {base : Nat} {a : Addr} {n : Nat} {l : List Value} (h : w.cells? base a n = some l) (hn : 0 < n) : a = ⟨a.block, a.off, none⟩ := by
  unfold World.cells? at h
  split at h
  · have hlen := mapM_some_length h
    have := mapM_some_get h 0 0 (by simp [hn])
    simp only [List.length_range] at hlen
    rw [List.getElem?_eq_getElem (by omega)] at this
    have e : a.add 0 = a := by simp [Addr.add]
    rw [e] at this
    unfold World.cell? at this
    split at this
    · split at this
      · cases this
      · rename_i hs
        obtain ⟨b, o, s⟩ := a
        simp at hs
        rw [hs]
    · cases this
  · cases h

theorem flat_chunks (l : List Value) (o sz : Nat) : ∀ n, o + n * sz ≤ l.length → ((List.range n).map fun i => (l.drop (o + i * sz)).take sz).flatten = (l.drop o).take (n * sz)
  | 0, _ => by simp
  | n + 1, h => by
    rw [Nat.succ_mul] at h ⊢
    rw [List.range_succ, List.map_append, List.flatten_append, flat_chunks l o sz n (by omega), List.map_singleton, List.flatten_singleton, List.take_add, List.drop_drop]

variable {w : World} {base : Nat} {spare : Nat → Bool} {held : Bool}

theorem open_rd {t e sz fuel : Nat} {v : Value} {x : DataW H × List MemPlace} (ht : P.underlying t = some (.slice e)) (hsz : P.cellsOf e = sz) (h0 : 0 < sz) (h : DataW.trod enc P w base spare held fuel t [v] = some x) :
    ∃ es, RdE sz w v es ∧ es.length ≤ maxLen ∧ ∀ c ∈ es, ∃ n y, DataW.trod enc P w base spare held n e c = some y := by
  rcases DataW.trod_slice ht h with ⟨hv, _⟩ | ⟨a, len, cap, elems, rest, n, _, hv, rfl, hb, hl, hm, hlen, hel, hsp, hns⟩
  · rw [List.cons.injEq] at hv
    rw [hv.1]
    exact ⟨[], ⟨.inl ⟨⟨_, _, rfl⟩, rfl, rfl⟩, by simp⟩, by simp, by simp⟩
  · rw [List.cons.injEq] at hv
    rw [hv.1]
    rw [hsz] at hel
    by_cases hz : len = 0
    · subst hz
      exact ⟨[], ⟨.inl ⟨⟨_, _, rfl⟩, rfl, rfl⟩, by simp⟩, by simp, by simp⟩
    · have key : ∀ i, i < len → ∃ l, w.cells? base (a.add (i * sz)) sz = some l ∧ ∃ y, DataW.trod enc P w base spare held n e l = some y := by
        intro i hi
        have := hel i hi
        rw [List.getElem?_eq_getElem (by omega)] at this
        obtain ⟨l, h1, h2⟩ := Option.bind_eq_some_iff.1 this
        exact ⟨l, h1, _, h2⟩
      have ha : a = ⟨a.block, a.off, none⟩ := by
        obtain ⟨l, h1, _⟩ := key 0 (by omega)
        have e : a.add (0 * sz) = a := by simp [Addr.add]
        rw [e] at h1
        exact cells_spot h1 h0
      obtain ⟨b, o, s⟩ := a
      simp only [Addr.mk.injEq, true_and] at ha
      subst ha
      have key2 : ∀ i, i < len → ∃ cs T fz, w.heap[b]? = some (.cells cs T fz) ∧ o + i * sz + sz ≤ cs.size ∧ ∃ y, DataW.trod enc P w base spare held n e ((cs.toList.drop (o + i * sz)).take sz) = some y := by
        intro i hi
        obtain ⟨l, h1, h2⟩ := key i hi
        rw [add_none] at h1
        obtain ⟨cs, T, fz, h3, h4, rfl⟩ := cells_of h1 h0
        exact ⟨cs, T, fz, h3, h4, h2⟩
      obtain ⟨cs, T, fz, hb', hle, _⟩ := key2 (len - 1) (by omega)
      have hlen2 : o + len * sz ≤ cs.size := by
        have e : (len - 1) * sz + sz = len * sz := by rw [← Nat.succ_mul]; congr 1; omega
        omega
      refine ⟨(List.range len).map fun i => (cs.toList.drop (o + i * sz)).take sz, ⟨.inr ⟨b, o, cap, cs, T, fz, ?_, hb', ?_, ?_, ?_⟩, ?_⟩, ?_, ?_⟩
      · simp
      · simpa using hl
      · simpa using hlen2
      · rw [flat_chunks _ _ _ _ (by simpa using hlen2)]; simp
      · intro c hc
        rw [List.mem_map] at hc
        obtain ⟨i, hi, rfl⟩ := hc
        rw [List.mem_range] at hi
        have : i * sz + sz ≤ len * sz := by rw [← Nat.succ_mul]; exact Nat.mul_le_mul_right _ hi
        rw [List.length_take, List.length_drop, Array.length_toList]; omega
      · simp; omega
      · intro c hc
        rw [List.mem_map] at hc
        obtain ⟨i, hi, rfl⟩ := hc
        rw [List.mem_range] at hi
        obtain ⟨cs', T', fz', h1, _, h2⟩ := key2 i hi
        rw [hb', Option.some.injEq, Obj.cells.injEq] at h1
        obtain ⟨rfl, _, _⟩ := h1
        exact ⟨n, h2⟩

theorem okWide_slice {t e : TypeId} {v : Value} {r : Reach} (ht : P.underlying t = some (.slice e)) (h : Value.okWide P w r base t v) : v.cells.toList = [v] := by
  unfold Value.okWide at h
  simp only [ht] at h
  unfold Cell.okWide at h
  simp only [ht] at h
  unfold Cell.ok at h
  simp only [ht] at h
  cases v <;> first | rfl | exact h.elim

/-- a slice that comes in -/
theorem arg_slice {t e sz base' : Nat} {v : Value} {d : DataW H} {ps : List MemPlace} {r : Reach} (ht : P.underlying t = some (.slice e)) (hsz : P.cellsOf e = sz) (h0 : 0 < sz) (hok : Value.okWide P w r base' t v) (h : DataW.Trod enc P w base spare held t v d ps) :
    ∃ es, RdE sz w v es ∧ es.length ≤ maxLen ∧ ∀ c ∈ es, ∃ n y, DataW.trod enc P w base spare held n e c = some y := by
  obtain ⟨fuel, h⟩ := h
  rw [okWide_slice ht hok] at h
  exact open_rd ht hsz h0 h

/-- .. whose elements may be keys -/
theorem arg_keys {t e sz base' : Nat} {v : Value} {d : DataW H} {ps : List MemPlace} {r : Reach} (ht : P.underlying t = some (.slice e)) (hk : P.keyTypeAt 8 e = true) (hsz : P.cellsOf e = sz) (h0 : 0 < sz) (hok : Value.okWide P w r base' t v) (h : DataW.Trod enc P w base spare held t v d ps) :
    ∃ es, RdE sz w v es ∧ es.length ≤ maxLen ∧ ∀ c ∈ es, ∃ l, P.keyLits 8 e c = some l := by
  obtain ⟨es, h1, h2, h3⟩ := arg_slice ht hsz h0 hok h
  refine ⟨es, h1, h2, fun c hc => ?_⟩
  obtain ⟨n, y, hy⟩ := h3 c hc
  exact ⟨_, (keyLits_of_trod 8 e hk n c y hy).1⟩

theorem arg_int {t base' : TypeId} {k : IntKind} {v : Value} {d : DataW H} {ps : List MemPlace} {r : Reach} (ht : P.underlying t = some (.int k)) (hok : Value.okWide P w r base' t v) (h : DataW.Trod enc P w base spare held t v d ps) :
    ∃ n, v = .int k n ∧ k.min ≤ n ∧ n ≤ k.max := by
  unfold Value.okWide at hok
  simp only [ht] at hok
  unfold Cell.okWide at hok
  simp only [ht] at hok
  unfold Cell.ok at hok
  simp only [ht] at hok
  cases v <;> first | exact hok.elim | skip
  rename_i k' n
  obtain ⟨rfl, h1, h2⟩ := hok
  exact ⟨n, rfl, h1, h2⟩

/-- **a law's row: what is left is that it answers true, and touches nothing that was there** -/
theorem law_lifted {C : Checked} {os : Os} {f : FuncId} {fn : Func} {s : ChangeSpec} {conds : List PathCond} {fresh handsOn : Bool} {tb n : Nat}
    (own : ownKnob C.prog.godebug = none) (started : os.Started) (noInit : C.prog.inits.idxOf? f = none) (hfn : C.prog.funcs[f]? = some fn)
    (witness : ∃ (w : World) (tape : Tape) (i : Input), w.os = os ∧ (w.forCall tape i).Shaped C.prog ∧ i.vars = [] ∧ Input.okWide C.prog (w.forCall tape i) .any w.heap.size f i ∧
      s.pre6 enc C.prog fn conds false (w.forCall tape i).memory i.args ∧ Assume.holds {} C.prog (lone (Frame.enter C.prog f i.args .normal) [] (w.forCall tape i)))
    (hl : laidOutB C.prog = true) (hts : ∀ t ∈ fn.params.toList, C.prog.readableRec t = true ∧ t < C.prog.types.size)
    (hrt : fn.resultTypes = #[tb]) (htb : C.prog.underlying tb = some .bool) (hvar : s.vars = []) (hn : fn.params.size = n)
    (hspec : ∀ ds : List (DataW H), ds.length = n → s.fn H ds = { results := [.lit (.bool true)], args := ds })
    (walk : ∀ (W : World) (base : Nat) (args : Array Value) (ds : List (DataW H)) (ps : List MemPlace),
      (∀ (j : Nat) t v, fn.params[j]? = some t → args[j]? = some v → Value.okWide C.prog W .any base t v) →
      DataW.TrodAll enc C.prog W 0 (fun _ => true) true fn.params.toList args.toList ds ps →
      CallsR C.prog f args (fun v W' => v = .bool true ∧ Fr none_ W W') W) :
    ReturnsInHanded {} C os f .any (s.pre6 enc C.prog fn conds false) (s.post enc C.prog fn false fresh handsOn false) := by
  refine returnsInHanded_of_change own started noInit hfn witness ?_
  intro W base args ds gs before hval hW _ _
  have hW' := hW
  obtain ⟨p, q, hA, hV, hps, hfz, hnd⟩ := hW
  rw [hvar] at hV
  obtain ⟨rfl, _⟩ := trodVars_none hV
  refine Calls.mono (walk W base args ds p hval hA) fun e W' ⟨v, he, hv, hF⟩ => ?_
  refine ⟨v, he, ?_⟩
  subst hv
  have hlen : ds.length = n := by
    have key : ∀ {ts : List TypeId} {vs : List Value} {ds : List (DataW H)} {ps : List MemPlace}, DataW.TrodAll enc C.prog W 0 (fun _ => true) true ts vs ds ps → ds.length = ts.length := by
      intro ts
      induction ts with
      | nil => intro vs ds ps h; obtain ⟨rfl, rfl, rfl⟩ := trodAll_nil h; rfl
      | cons t ts ih =>
        intro vs ds ps h
        obtain ⟨v, vs1, d, ds1, a, b, rfl, rfl, rfl, h1, h2⟩ := trodAll_cons h
        simp [ih h2]
    rw [key hA, Array.length_toList, hn]
  exact law_post hl hts hrt htb hvar (by rw [List.append_nil]; exact hspec ds hlen) hW' hF

end
end Go.Gx
