/- The reference's journal. -/
import Derived.Test.YtogbkljoganbhaaJour2T
import Derived.Test.YtogbkljoganbhaaJour1
set_option linter.unusedVariables false
set_option linter.unusedSimpArgs false
set_option maxRecDepth 100000
namespace Go.Gx.S.Jour
open Go Go.Gx Go.Gx.S Go.Proofs
variable {K : Value → World → Prop} {w : World}

def chs (hs : List (List Value × Bool)) : List (List Value) := hs.mapIdx fun i h => chg (i + 1) h.1 h.2

theorem chs_length (hs : List (List Value × Bool)) : (chs hs).length = hs.length := by simp [chs]
theorem chs_snoc (hs : List (List Value × Bool)) (x : List Value) (g : Bool) : chs (hs ++ [(x, g)]) = chs hs ++ [chg (hs.length + 1) x g] := by simp [chs]

/-- a journal of the reference -/
structure RRep (w : World) (p : Nat) (room : Nat) (hs : List (List Value × Bool)) (L : Value) : Prop where
  blk : w.heap[p]? = some (cellsO [i64 room, i64 hs.length, L] 42)
  lst : RdE 12 w L ((chs hs).drop (hs.length - room))
  ne : ∀ b, blkS L = some b → b ≠ p
  ok : ∀ h ∈ hs, h.1.length = 10 ∧ h.1.all S.oneCell = true

theorem chg_one {i : Nat} {x : List Value} {g : Bool} (h : x.all S.oneCell = true) : (chg i x g).all S.oneCell = true := by
  simp only [chg, List.all_cons, List.all_append, h, one_int, one_bool, List.all_nil]; rfl
theorem chs_one {hs : List (List Value × Bool)} (h : ∀ e ∈ hs, e.1.length = 10 ∧ e.1.all S.oneCell = true) {e : List Value} (he : e ∈ chs hs) : e.all S.oneCell = true := by
  unfold chs at he
  rw [List.mem_mapIdx] at he
  obtain ⟨i, hi, rfl⟩ := he
  exact chg_one (h _ (List.getElem_mem hi)).2
theorem flat_one {l : List (List Value)} (h : ∀ e ∈ l, e.all S.oneCell = true) : l.flatten.all S.oneCell = true := by
  simp only [List.all_eq_true] at h ⊢
  intro v hv
  obtain ⟨e, he, hve⟩ := List.mem_flatten.1 hv
  exact h e he v hve

theorem RRep.fr {fp : Nat → Prop} {w w' : World} {p room : Nat} {hs : List (List Value × Bool)} {L : Value} (h : RRep w p room hs L) (hf : Fr fp w w') (h1 : ¬ fp p) (h2 : ∀ b, blkS L = some b → ¬ fp b) : RRep w' p room hs L :=
  ⟨hf.heap h.blk h1, h.lst.fr hf h2, h.ne, h.ok⟩

theorem rnew_spec (room : Int) (h0 : room < 1 ∨ 1000 < room → K (.tuple #[.pointer none, i64 1]) w)
    (h1 : 1 ≤ room → room ≤ 1000 → ∀ (p : Nat) (w' : World) (L : Value), RRep w' p room.toNat [] L → Fr none_ w w' → w.heap.size ≤ p → (∀ b, blkS L = some b → w.heap.size ≤ b) → K (.tuple #[pt p 0, i64 0]) w') :
    CallsR Try.prog 11 #[i64 room] K w := by
  apply c11
  unfold p11
  simp only [push_cast]
  refine br_dec (fun ha => h0 (.inl ha)) fun ha => ?_
  refine br_dec (fun hb => h0 (.inr hb)) fun hb => ?_
  rw [opS_build _ rfl]
  simp only [push_cast]
  obtain ⟨r, rfl⟩ : ∃ r : Nat, room = r := ⟨room.toNat, by omega⟩
  refine h1 (by omega) (by omega) w.heap.size (w.alloc _) (.slice none 0 0) ⟨?_, ⟨.inl ⟨⟨_, _, rfl⟩, by simp [chs], by simp [chs]⟩, fun e he => ?_⟩, fun b hb => (by cases hb), fun h hh => by cases hh⟩ ?_ (Nat.le_refl _) (fun b hb => by cases hb)
  · simp only [push_cast, Int.toNat_natCast]; rfl
  · simp [chs] at he
  · exact (Fr.refl _ _).step_alloc rfl

theorem rput_spec {p room : Nat} {hs : List (List Value × Bool)} {L : Value} {x : List Value} {g : Bool} (hj : RRep w p room hs L) (hr : 0 < room) (hr2 : room ≤ 1000) (hx : x.length = 10) (hx1 : x.all S.oneCell = true) (hn : hs.length < 2 ^ 30)
    (h : ∀ w' L', RRep w' p room (hs ++ [(x, g)]) L' → Fr (fun b => b = p) w w' → (∀ b, blkS L' = some b → w.heap.size ≤ b) → K (.tuple #[i64 (hs.length + 1), i64 0]) w') : CallsR Try.prog 13 #[pt p 0, .agg x.toArray, .bool g] K w := by
  apply c13
  unfold p13
  have hp := hj.blk
  have hlt := lt_of_heap hp
  have hne : p ≠ w.heap.size := by omega
  simp only [push_cast, Nat.reduceAdd, Nat.reduceLeDiff, hp, hne, if_false]
  refine br_no (by omega) ?_
  rw [wrap_i64 (by omega)]
  have hne2 : w.heap.size ≠ p := fun e => hne e.symm
  generalize hW : wr (w.alloc (cellsO x 36)) p 1 [Value.int IntKind.i64 (hs.length + 1)] = W
  have hF0 : Fr (fun b => b = p) w W := hW ▸ ((Fr.refl (fun b => b = p) w).step_alloc rfl).step_wr (.inl rfl) _ _
  have hp0 : W.heap[p]? = some (cellsO [i64 room, i64 (hs.length + 1), L] 42) := by
    rw [← hW]; simp only [push_cast, hp, hne]
  have hx0 : W.heap[w.heap.size]? = some (cellsO x 36) := by
    rw [← hW]; simp only [push_cast, hne2]
  have hL0 : RdE 12 W L ((chs hs).drop (hs.length - room)) := hj.lst.fr hF0 hj.ne
  clear hW hp
  have e2 : x.drop 0 = x := rfl
  have e3 : x.take 10 = x := List.take_of_length_le (by omega)
  have e4 : mergeF 0 [[.int .i64 0], [.int .i64 0, .int .u8 0, .int .u8 0, .int .u8 0, .int .u8 0, .int .u8 0, .int .u8 0, .int .i64 0, .int .i64 0, .bool false], [.bool false]] [(0, i64 (hs.length + 1)), (1, .agg x.toArray), (2, .bool g)] = some (chg (hs.length + 1) x g) := by
    simp [mergeF, Value.cells, hx, chg]
  have hcl : (chg (hs.length + 1) x g).length = 12 := by simp [chg, hx]
  have hca : (chg (hs.length + 1) x g).all S.oneCell = true := by simp only [chg, List.all_cons, List.all_append, hx1, one_int, one_bool, List.all_nil]; rfl
  refine jn0 (fun W' => ∃ L', W'.heap[p]? = some (cellsO [i64 room, i64 (hs.length + 1), L'] 42) ∧ OwnE 48 12 W' L' ((chs hs).drop (hs.length - room) ++ [chg (hs.length + 1) x g]) ∧ New w L' ∧ Fr (fun b => b = p) w W') ?_ ?_
  · rintro W' ⟨L', hp', hL', hN, hF'⟩
    have hsn : (hs ++ [(x, g)]).length = hs.length + 1 := by simp
    have hlen : ((chs hs).drop (hs.length - room) ++ [chg (hs.length + 1) x g]).length = hs.length - (hs.length - room) + 1 := by simp [chs_length]
    have hMA : room ≤ hs.length → (chs (hs ++ [(x, g)])).drop ((hs ++ [(x, g)]).length - room) = ((chs hs).drop (hs.length - room) ++ [chg (hs.length + 1) x g]).drop 1 := by
      intro hle
      have hcl := chs_length hs
      rw [chs_snoc, hsn, List.drop_append_of_le_length (by omega), List.drop_append_of_le_length (by rw [List.length_drop]; omega), List.drop_drop]
      congr 2
      omega
    have hMB : hs.length < room → (chs (hs ++ [(x, g)])).drop ((hs ++ [(x, g)]).length - room) = ((chs hs).drop (hs.length - room) ++ [chg (hs.length + 1) x g]) := by
      intro hle
      rw [chs_snoc, hsn, show hs.length + 1 - room = 0 by omega, show hs.length - room = 0 by omega]
      rfl
    obtain ⟨a, c, rfl⟩ := hL'.rd.form
    have hlt' := lt_of_heap hp'
    have hok' : ∀ h ∈ hs ++ [(x, g)], h.1.length = 10 ∧ h.1.all S.oneCell = true := by
      intro h hh
      rcases List.mem_append.1 hh with hh | hh
      · exact hj.ok h hh
      · simp at hh; subst hh; exact ⟨hx, hx1⟩
    have hrd : RdE 12 W'.drew _ _ := hL'.rd
    have hFd : Fr (fun b => b = p) w W'.drew := hF'.step_drew
    generalize (chs hs).drop (hs.length - room) ++ [chg (hs.length + 1) x g] = M at *
    have hNb : ∀ b, blkS (.slice a M.length c) = some b → b ≠ p := fun b hb e => by have := hN b hb; omega
    simp only [push_cast, Nat.reduceAdd, Nat.reduceLeDiff, hp']
    refine br_dec (fun hgt => ?_) fun hgt => ?_
    · rw [opS_slice (run_boundsL (by omega) (by omega))]
      simp only [push_cast, Nat.reduceAdd, Nat.reduceLeDiff, hp', Int.reduceToNat]
      have hpart := hrd.part (l := 1) (m := M.length) (by omega) (Nat.le_refl _)
      have hbp := blkS_part a M.length c (M.length - 1) (c - 1) 1 12
      generalize hv : Value.slice (if c = 1 then a else Option.map (fun x => x.add (1 * 12)) a) (M.length - 1) (c - 1) = v at *
      have hFw : Fr (fun b => b = p) w (wr W'.drew p 2 [v]) := hFd.step_wr (.inl rfl) _ _
      refine h _ v ⟨?_, ?_, ?_, hok'⟩ hFw ?_
      · simp only [push_cast, hp', hsn]
      · rw [hMA (by omega), ← List.take_length (l := M)]
        rw [List.take_length] at hpart ⊢
        exact hpart.frame fun b hb => by
          have := hNb b (hbp ▸ hb)
          simp only [push_cast, this]
      · intro b hb; exact hNb b (hbp ▸ hb)
      · intro b hb; exact hN b (hbp ▸ hb)
    · refine h _ _ ⟨?_, ?_, hNb, hok'⟩ hFd hN
      · simp only [push_cast, hp', hsn]
      · rw [hMB (by omega)]
        exact hrd
  · intro j hj0
    rw [drw_eq]
    have hp : W.drew.heap[p]? = _ := hp0
    have hxx : W.drew.heap[w.heap.size]? = _ := hx0
    have hL : RdE 12 W.drew L _ := hL0
    have hF : Fr (fun b => b = p) w W.drew := hF0.step_drew
    clear hp0 hx0 hL0 hF0
    generalize W.drew = V at *
    have hok := hj.ok
    clear W hj
    have e5 : (chs hs).length = hs.length := chs_length hs
    have e6 : ((chs hs).drop (hs.length - room)).flatten.all S.oneCell = true := flat_one fun e he => chs_one hok (List.mem_of_mem_drop he)
    have e7 : ([] : List (List Value)).length + ((chs hs).drop (hs.length - room)).length ≤ 3000 := by rw [List.length_drop, e5]; simp only [List.length_nil, List.length_cons]; omega
    have e8 : ([chg (hs.length + 1) x g] : List (List Value)).flatten.all S.oneCell = true := by simpa using hca
    have e9 : ((chs hs).drop (hs.length - room)).length + ([chg (hs.length + 1) x g] : List (List Value)).length ≤ 3000 := by rw [List.length_drop, e5]; simp only [List.length_nil, List.length_cons]; omega
    generalize (chs hs).drop (hs.length - room) = old at *
    have B0 : ∀ (K : Value → World → Prop) (w : World), (∀ v' w', OwnE 48 12 w' v' [] → Fr none_ w w' → New w v' → K v' w') → opS Try.prog (S.buildS 40 0 []) K w := fun K w h => s_bs0 h
    have B1 : ∀ (K : Value → World → Prop) (w : World), (∀ v' w', OwnE 48 12 w' v' [chg (hs.length + 1) x g] → Fr none_ w w' → New w v' → K v' w') → opS Try.prog (S.buildS 40 1 [(0, .agg (chg (hs.length + 1) x g).toArray)]) K w :=
      fun K w h => s_bs1 (sz := 12) hcl (by rfl) (by decide) (by decide) h
    have B2 : ∀ (K : Value → World → Prop) (w : World) (v u : Value) (es fs : List (List Value)), OwnE 48 12 w v es → RdE 12 w u fs → fs.flatten.all S.oneCell = true → es.length + fs.length ≤ 3000 →
        (∀ v' w', OwnE 48 12 w' v' (es ++ fs) → (blkS v' = blkS v ∨ New w v') → Fr (fun b => blkS v = some b) w w' → K v' w') → opS Try.prog (S.bi .append #[40, 40] 40 [v, u]) K w :=
      fun K w v u es fs h1 h2 h3 h4 h => s_app (sz := 12) (by_ := 56) (by rfl) (by decide) h1 h2 h3 (by omega) h
    simp only [push_cast]
    repeat' first
      | with_reducible refine allW_intro ?_ ?_
      | (with_reducible refine B0 _ _ fun vA WA hA fA nA => ?_
         have hAn : ∀ b, blkS vA = some b → w.heap.size < b := fun b hb => Nat.lt_of_lt_of_le (lt_of_heap hxx) (nA b hb)
         try have hAG : ∀ b, blkS vA = some b → blkS vG ≠ some b := fun b h1 h2 => Nat.lt_irrefl _ (Nat.lt_of_lt_of_le (hG.lt h2) (nA b h1))
         replace hp := fA.heap hp (fun h => h)
         replace hxx := fA.heap hxx (fun h => h)
         replace hL := hL.fr fA (fun _ _ h => h)
         replace hF := hF.trans_new fA (fun _ _ h => h.elim)
         try replace hG := hG.fr fA (fun _ _ h => h)
         clear fA nA)
      | (with_reducible refine B1 _ _ fun vG WG hG fG nG => ?_
         try have hAG : ∀ b, blkS vA = some b → blkS vG ≠ some b := fun b h1 h2 => Nat.lt_irrefl _ (Nat.lt_of_lt_of_le (hA.lt h1) (nG b h2))
         replace hp := fG.heap hp (fun h => h)
         replace hxx := fG.heap hxx (fun h => h)
         try replace hL := hL.fr fG (fun _ _ h => h)
         replace hF := hF.trans_new fG (fun _ _ h => h.elim)
         try replace hA := hA.fr fG (fun _ _ h => h)
         try replace hC := hC.fr fG (fun _ _ h => h)
         clear fG nG)
      | (with_reducible refine B2 _ _ _ _ _ _ hA hL e6 e7 fun vC WC hC bC fC => ?_
         rw [List.nil_append] at hC
         have hCn : ∀ b, blkS vC = some b → w.heap.size < b := fun b hb => by
           rcases bC with bC | bC
           · exact hAn b (bC ▸ hb)
           · exact Nat.lt_of_lt_of_le (lt_of_heap hxx) (bC b hb)
         replace hp := fC.heap hp (fun hh => by have := hAn _ hh; omega)
         replace hxx := fC.heap hxx (fun hh => by have := hAn _ hh; omega)
         replace hF := hF.trans_new fC (fun b hb hh => by have := hAn b hh; omega)
         try replace hG := hG.fr fC (fun b h1 h2 => hAG b h2 h1)
         clear fC bC hA hL)
      | (with_reducible refine B2 _ _ _ _ _ _ hC hG.rd e8 e9 fun vH WH hH bH fH => ?_
         have hHn : New w vH := fun b hb => by
           rcases bH with bH | bH
           · exact Nat.le_of_lt (hCn b (bH ▸ hb))
           · exact Nat.le_trans hF.size (bH b hb)
         replace hp := fH.heap hp (fun hh => by have := hCn _ hh; omega)
         replace hF := hF.trans_new fH (fun b hb hh => by have := hCn b hh; omega)
         have hH1 := hH.one
         clear fH bH hC hG)
      | (with_reducible refine hj0 _ ⟨vH, ?_, ?_, hHn, ?_⟩
         · simp only [push_cast, hp]
         · exact hH.fr (Fr.wr (fp := fun b => b = p) WH p 2 [vH] rfl) (fun b hb e => by have := hHn b hb; omega)
         · exact hF.step_wr (.inl rfl) _ _)
      | simp only [push_cast, opS_build, Option.isSome_some, Option.getD_some, Nat.reduceAdd, Nat.reduceLeDiff, Nat.reduceLT, hp, hxx, hx, e2, e3, e4]
      | simp only [push_cast, Nat.reduceAdd, Nat.reduceLeDiff, hp, hH1]

end Go.Gx.S.Jour
