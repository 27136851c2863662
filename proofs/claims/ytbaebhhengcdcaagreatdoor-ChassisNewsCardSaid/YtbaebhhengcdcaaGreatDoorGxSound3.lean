/- What 'comp' tells of code is so: a range over a function; a function. -/
import Derived.Test.YtbaebhhengcdcaaGreatDoorGxSound2
namespace Go.Gx
open Go
variable {P : Program}

theorem getD_len {env : List Value} {v : Value} {r : List Value} : (env ++ v :: r).getD env.length undef = v := by
  rw [List.getD_eq_getElem?_getD, List.getElem?_append_right (Nat.le_refl _)]
  simp

theorem setParams_agree : ∀ (ps : List Nat) (args : List Value) (env : List Value) (rest : List Value) (fr : List (Option Operand)) (vs : List Value), ps.length = args.length → AgL (env ++ args ++ rest) fr vs →
    AgL (env ++ args ++ rest) (setParams ps env.length fr) ((ps.zip args).foldl (fun t x => t.set x.1 x.2) vs)
  | [], [], env, rest, fr, vs, _, h => h
  | p :: ps, x :: args, env, rest, fr, vs, hl, h => by
    have e1 : env ++ x :: args ++ rest = (env ++ [x]) ++ args ++ rest := by simp
    have h1 : AgL (env ++ x :: args ++ rest) (fr.set p (some (.tmp env.length))) (vs.set p x) := by
      refine AgL.set (fun z hz => ?_) p h
      cases hz
      refine ⟨by simp [okO], ?_⟩
      show (env ++ x :: args ++ rest).getD env.length undef = x
      rw [List.append_assoc, List.cons_append]
      exact getD_len
    simp only [setParams, List.zip_cons_cons, List.foldl_cons]
    rw [e1] at h1 ⊢
    have h2 := setParams_agree ps args (env ++ [x]) rest _ _ (by simpa using hl) h1
    simpa using h2
  | [], _ :: _, _, _, _, _, hl, _ => by simp at hl
  | _ :: _, [], _, _, _, _, hl, _ => by simp at hl

theorem foldl_toList (ps : List (Nat × Value)) : ∀ (tmps : Array Value), (ps.foldl (fun (t : Array Value) x => t.setIfInBounds x.1 x.2) tmps).toList = ps.foldl (fun t x => t.set x.1 x.2) tmps.toList := by
  induction ps with
  | nil => intro tmps; rfl
  | cons p ps ih => intro tmps; simp only [List.foldl_cons, ih, Array.toList_setIfInBounds]

theorem run_yield {w : World} {l : Nat} {L : Loop} (h : w.heap[l]? = some (.loop L)) (args : Array Value) (hs : args.size = L.params.size) :
    (Instr.yield l args).run P w = .ok (.round l L.fn ((L.params.zip args).foldl (fun tmps x => tmps.setIfInBounds x.1 x.2) L.tmps) L.assign L.body) w := by
  simp [Instr.yield, Instr.getLoop, getObj, Sem.run, h, hs, bind, Sem.bind, pure]

theorem run_enterLoop {w : World} {fn : FuncId} {tmps : Array Value} {ps : Array Tmp} {assign body : Code} :
    (Instr.enterLoop fn tmps ps assign body none).run P w =
      .ok (w.heap.size + 1, [{ target := .collected w.heap.size, args := #[] }]) ((w.alloc (.deferred (some []))).alloc (.loop { state := .ready, pending := none, fn, tmps, params := ps, assign, body, defers := w.heap.size })) := by
  simp [Instr.enterLoop, newObj, Sem.run, bind, Sem.bind, pure]
  rfl

theorem endR_ok {l : Nat} {c : Option Code} {env : List Value} {J : JL} {K : KZ} {lv : Nat} (hl : lv < env.length) (hv : env.getD lv undef = ptr l) :
    KOk P (endR lv c) env J K fun _ w => ∃ v w', (Instr.endRound l c).run P w = .ok v w' ∧ ∃ u, Ending.returned v = .returned u ∧ K.k u w' := by
  intro sf ir env' J' a w h hp hJ ha hd
  cases h
  simp only [den, sopS, SOp.sem] at hd
  have e1 : ev env' (.tmp lv) = ptr l := (ev_prefix hp (x := .tmp lv) hl).trans hv
  rw [e1] at hd
  unfold opS S.endR at hd
  rw [Sem.run_bind] at hd
  have e2 : blk (ptr l) = l := rfl
  rw [e2] at hd
  cases hr : (Instr.endRound l c).run P w with
  | halt x w' => rw [hr] at hd; exact hd.elim
  | ok v w' =>
    rw [hr] at hd
    refine ⟨v, w', rfl, v, rfl, ?_⟩
    have hd' : K.k ((env' ++ [v]).getD env'.length undef) w' := hd
    rwa [getD_len] at hd'

theorem sound_rf {f : Operand} {ps : Array Tmp} {assign body : Code} (hA : Sound P assign) (hB : Sound P body) : Sound P (.rangeFunc f ps assign body) := by
  intro ro sf ctx out big k env J K Q a w ir h hk hc ha hd
  simp only [comp] at h
  split at h
  · cases h
  rename_i hround
  have hro : ro = none := hc.round (by simpa using hround)
  subst hro
  obtain ⟨f', hf', h⟩ := bind_some h
  obtain ⟨b, hb, h⟩ := bind_some h
  obtain ⟨kn, hkn, h⟩ := bind_some h
  cases h
  obtain ⟨_, hfev⟩ := tr_eval ha hf'
  simp only [den] at hd
  refine wpIn_rangeFunc (F := FW none) fun fn _ => ?_
  let L : Loop := { state := .ready, pending := none, fn, tmps := a.tmps, params := ps, assign, body, defers := w.heap.size }
  have hcall := hd L rfl rfl rfl ?_
  · -- the call, and what stands behind it
    unfold enterS at hcall
    split at hcall
    · rename_i g args w2 hrun
      have hcl : (S.call (ev env f') [.func (.yield (w.heap.size + 1)) #[] #[]]).run P ((w.alloc (.deferred (some []))).alloc (.loop L)) = ((do
          let d ← resolve a.eval (rangeCall f (w.heap.size + 1)) 0
          invoke d.target d.args : Sem Next)).run P ((w.alloc (.deferred (some []))).alloc (.loop L)) := by
        have : resolve a.eval (rangeCall f (w.heap.size + 1)) 0 = Deferred.ofValue (ev env f') #[.func (.yield (w.heap.size + 1)) #[] #[]] := by
          simp only [resolve, hfev]
          congr 1
          simp [Act.eval]
        rw [this]; rfl
      rw [hcl, Sem.run_bind] at hrun
      cases hres : (resolve a.eval (rangeCall f (w.heap.size + 1)) 0).run P ((w.alloc (.deferred (some []))).alloc (.loop L)) with
      | halt x w' => rw [hres] at hrun; cases hrun
      | ok d w1' =>
        rw [hres] at hrun
        refine ⟨_, _, _, d, w1', g, args, w2, run_enterLoop, hres, fun _ _ => trivial, hrun, fun hh => (by cases hh), ?_⟩
        refine callsIn_FW (Calls.mono hcall ?_)
        rintro e w3 ⟨v, rfl, jump, w4, hend, hj⟩
        refine ⟨jump, w4, hend, ?_⟩
        have hag : Ag (env ++ [ptr w.heap.size]) { sf with ms := .tmp env.length :: sf.ms } { a with defers := [{ target := .collected w.heap.size, args := #[] }] ++ a.defers } := by
          have hp : env <+: env ++ [ptr w.heap.size] := List.prefix_append _ _
          have hm := ha.mono hp
          refine ⟨hm.fr, ?_, fun m hmm => ?_, hm.kb⟩
          · have : markOf (env ++ [ptr w.heap.size]) (.tmp env.length) = { target := .collected w.heap.size, args := #[] } := by
              simp only [markOf, ev, getD_len]; rfl
            simp only [List.map_cons, this, hm.ms]; rfl
          · rcases List.mem_cons.1 hmm with rfl | hmm
            · simp [okO]
            · exact hm.mok m hmm
        split at hj
        · exact hk _ kn (env ++ [ptr w.heap.size]) J _ w4 (by simpa using hkn) (List.prefix_append _ _) (List.prefix_refl _) hag hj
        · refine wpIn_ret ?_
          cases hrr : ctx.ret { sf with ms := .tmp env.length :: sf.ms } (env.length + 1) J.length with
          | none => rw [hrr] at hj; exact hj.elim
          | some irr =>
            rw [hrr] at hj
            exact hc.ret _ irr (env ++ [ptr w.heap.size]) J _ w4 (by simpa using hrr) (List.prefix_append _ _) (List.prefix_refl _) hag hj
        · rename_i i
          split at hj
          · rename_i hi
            refine wpIn_exit ?_
            cases hfx : freeExit body with
            | none => rw [hfx] at hj; exact hj.elim
            | some x =>
              rw [hfx] at hj hi
              have hi' : i = x := hi
              subst hi'
              simp only [Option.bind_some] at hj
              cases hrr : ctx.exit i { sf with ms := .tmp env.length :: sf.ms } (env.length + 1) J.length with
              | none => rw [hrr] at hj; exact hj.elim
              | some irr =>
                rw [hrr] at hj
                exact hc.exit i _ irr (env ++ [ptr w.heap.size]) J _ w4 (by simpa using hrr) (List.prefix_append _ _) (List.prefix_refl _) hag hj
          · exact hj.elim
        · exact hj.elim
    · exact hcall.elim
  · -- a round
    intro KY args w' L' hst hsame hheap hargs hbody0
    have hbody := hbody0
    rw [JT.app_mk _ _ _ _ (by simp [hargs])] at hbody
    obtain ⟨s1, s2, s3, s4, s5⟩ := hsame
    have hsz : args.toArray.size = L'.params.size := by rw [s3]; simpa using hargs
    have hrun : (S.call (.func (.yield (w.heap.size + 1)) #[] #[]) args).run P w' =
        .ok (.round (w.heap.size + 1) fn ((ps.zip args.toArray).foldl (fun tmps x => tmps.setIfInBounds x.1 x.2) a.tmps) assign body) w' := by
      have := run_yield (P := P) hheap args.toArray hsz
      rw [s1, s2, s3, s4, s5] at this
      rw [← this]
      simp [S.call, Deferred.ofValue, invoke]
    unfold opS
    rw [hrun]
    refine roundIn_of_wpIn (F := Fence.wide) trivial ?_
    have hl : env.length < (env ++ ptr (w.heap.size + 1) :: args).length := by simp
    have hv : (env ++ ptr (w.heap.size + 1) :: args).getD env.length undef = ptr (w.heap.size + 1) := getD_len
    have hag : Ag (env ++ ptr (w.heap.size + 1) :: args) { fr := setParams ps.toList (env.length + 1) sf.fr, ms := [], kb := sf.kb }
        { tmps := (ps.zip args.toArray).foldl (fun tmps x => tmps.setIfInBounds x.1 x.2) a.tmps, defers := [] } := by
      have hm := ha.mono (List.prefix_append env (ptr (w.heap.size + 1) :: args))
      refine ⟨?_, rfl, fun m hmm => (by cases hmm), hm.kb⟩
      have e1 : ((ps.zip args.toArray).foldl (fun tmps x => tmps.setIfInBounds x.1 x.2) a.tmps).toList = (ps.toList.zip args).foldl (fun t x => t.set x.1 x.2) a.tmps.toList := by
        rw [← Array.foldl_toList, Array.toList_zip, foldl_toList]
      have hfr := hm.fr
      have e2 : env ++ ptr (w.heap.size + 1) :: args = (env ++ [ptr (w.heap.size + 1)]) ++ args ++ [] := by simp
      simp only [e1]
      rw [e2] at hfr ⊢
      have h3 := setParams_agree ps.toList args (env ++ [ptr (w.heap.size + 1)]) [] sf.fr a.tmps.toList (by simpa using hargs.symm) hfr
      simpa using h3
    have hnone : ∀ (Q' : Act → World → Prop), KOk P (fun _ _ _ => none) (env ++ ptr (w.heap.size + 1) :: args) [] (KZ.of KY) Q' := fun Q' sf ir env J a w h => by cases h
    refine hA (some (w.heap.size + 1)) _ { ret := fun _ _ _ => none, retLive := 0, exits := [], other := fun _ _ _ _ => none, round := true } _ _ _ (env ++ ptr (w.heap.size + 1) :: args) [] (KZ.of KY) _ _ w' b (by
      simp only [List.length_append, List.length_cons, hargs, List.length_nil]
      rw [← hb]; congr 1; omega) ?_ ⟨hnone _, fun id => hnone _, (fun hh => by cases hh), .no, trivial, rfl, fun z hz => by cases hz⟩ hag hbody
    -- behind the assignment
    intro sf2 ir2 env2 J2 a2 w2 h2 hp2 hJ2 ha2 hd2
    obtain ⟨ir3, h3, h2⟩ := bind_some h2
    cases h2
    simp only [den, sopS, SOp.sem] at hd2
    have e3 : ev env2 (.tmp env.length) = ptr (w.heap.size + 1) := (ev_prefix hp2 (x := .tmp env.length) hl).trans hv
    rw [e3] at hd2
    unfold opS S.beginR at hd2
    rw [Sem.run_bind] at hd2
    have e4 : blk (ptr (w.heap.size + 1)) = w.heap.size + 1 := rfl
    rw [e4] at hd2
    cases hr : (Instr.beginRound (w.heap.size + 1)).run P w2 with
    | halt x w3 => rw [hr] at hd2; exact hd2.elim
    | ok u w3 =>
      rw [hr] at hd2
      refine ⟨w3, hr, ?_⟩
      have hd3 : den P ir3 (env2 ++ [undef]) J2 (KZ.of KY) w3 := hd2
      have hp3 : env2 <+: env2 ++ [undef] := List.prefix_append _ _
      have hl3 : env.length < (env2 ++ [undef]).length := Nat.lt_of_lt_of_le (Nat.lt_of_lt_of_le hl hp2.length_le) hp3.length_le
      have hv3 : (env2 ++ [undef]).getD env.length undef = ptr (w.heap.size + 1) := (ev_prefix (hp2.trans hp3) (x := .tmp env.length) hl).trans hv
      refine hB (some (w.heap.size + 1)) sf2 _ _ _ _ (env2 ++ [undef]) J2 (KZ.of KY) (roundPost P (w.heap.size + 1) fun e w'' => ∃ v, e = .returned v ∧ KY v w'') a2 w3 ir3 (by simpa using h3) ?_ ⟨?_, fun id => ?_, (fun hh => by cases hh), ?_⟩ (ha2.mono hp3) hd3
      · exact endR_ok hl3 hv3
      · exact endR_ok hl3 hv3
      · exact endR_ok hl3 hv3
      · exact ⟨.no, trivial, rfl, fun z hz => by cases hz⟩

theorem stepR_scope' {b : Frame} {a : Act} {k : List Item} {cs : List Frame} {w : World} {c : Code} : step P (lone (b.atR a (.code (.scope c) :: k)) cs w) = .next (lone (b.atR a (.code c :: .inScope c :: k)) cs w) :=
  step_lone_go (by simp [stepG, stepG.exec, Frame.atR])
theorem stepR_inScope' {b : Frame} {a : Act} {k : List Item} {cs : List Frame} {w : World} {c : Code} : step P (lone (b.atR a (.inScope c :: k)) cs w) = .next (lone (b.atR a k) cs w) :=
  step_lone_go (by simp [stepG, stepG.exec, Frame.atR])

def noGoto' (Q : Exit → Act → World → Prop) : Exit → Act → World → Prop
  | .goto _, _, _ => False
  | e, a, w => Q e a w

theorem wpIn_scope' {F : Fence} {n : Nat} {c : Code} {Q : Exit → Act → World → Prop} {a : Act} {w : World} (h : c.wpIn F n P (noGoto' Q) a w) : (Code.scope c).wpIn F n P Q a w := by
  intro b k cs hro hb hr
  have h0 : (lone (b.atR a (.code (.scope c) :: k)) cs w).fenced P F := fenced_calm hb hr rfl
  obtain ⟨e, a₁, w₁, hq, harr⟩ := h b (.inScope c :: k) cs hro hb hr
  cases e with
  | normal => exact ⟨.normal, a₁, w₁, hq, .head h0 stepR_scope' (StepsIn.trans harr (.one (fenced_calm hb hr rfl) stepR_inScope'))⟩
  | exit id' =>
    have hx : exitTo id' (.inScope c :: k) = exitTo id' k := by simp [exitTo]
    exact ⟨.exit id', a₁, w₁, hq, fun k' hk => .head h0 stepR_scope' (harr.1 k' (by rw [hx]; exact hk)),
      fun hr' hk => let ⟨k₁, h1, h2⟩ := harr.2 hr' (by rw [hx]; exact hk); ⟨k₁, h1, .head h0 stepR_scope' h2⟩⟩
  | goto l => exact hq.elim
  | ret => exact ⟨_, a₁, w₁, hq, .of_steps (.one h0 stepR_scope') harr⟩
  | panic ch => exact ⟨_, a₁, w₁, hq, .of_steps (.one h0 stepR_scope') harr⟩
  | outgrown => exact ⟨_, a₁, w₁, hq, .of_steps (.one h0 stepR_scope') harr⟩

theorem sound_scope {c : Code} (hb : Sound P c) : Sound P (.scope c) := by
  intro ro sf ctx out big k env J K Q a w ir h hk hc ha hd
  simp only [comp] at h
  exact wpIn_scope' (hb ro sf ctx out big k env J K (noGoto' Q) a w ir h hk (hc.weak (fun _ _ hq => hq) (fun _ _ _ hq => hq) fun _ _ _ hq => hq) ha hd)

theorem sound (hm : P.follows .mixedOrders = true) (c : Code) : Sound P c ∧ ∀ c0 x y, c = .cond c0 x y → Sound P x ∧ Sound P y := by
  have none_sound : ∀ c : Code, (∀ sf lvl dep ctx out big k, comp P c sf lvl dep ctx out big k = none) → Sound P c := by
    intro c hc ro sf ctx out big k env J K Q a w ir h
    rw [hc] at h; cases h
  induction c with
  | skip =>
    refine ⟨fun ro sf ctx out big k env J K Q a w ir h hk hc ha hd => ?_, fun _ _ _ h => by cases h⟩
    exact wpIn_skip (hk sf ir env J a w h (List.prefix_refl _) (List.prefix_refl _) ha hd)
  | label l =>
    refine ⟨fun ro sf ctx out big k env J K Q a w ir h hk hc ha hd => ?_, fun _ _ _ h => by cases h⟩
    exact wpIn_label (hk sf ir env J a w h (List.prefix_refl _) (List.prefix_refl _) ha hd)
  | region id ops draw => exact ⟨sound_region hm id ops draw, fun _ _ _ h => by cases h⟩
  | seq x y ihx ihy =>
    refine ⟨?_, fun _ _ _ h => by cases h⟩
    by_cases hs : ∃ id ops draw c x' y', x = .region id ops draw ∧ y = .cond c x' y'
    · obtain ⟨id, ops, draw, c, x', y', rfl, rfl⟩ := hs
      obtain ⟨hx', hy'⟩ := ihy.2 c x' y' rfl
      exact sound_seq_cond hm id ops draw hx' hy'
    · intro ro sf ctx out big k env J K Q a w ir h hk hc ha hd
      rw [comp] at h
      · exact sound_seq ihx.1 ihy.1 h hk hc ha hd
      · intro id ops draw c x' y' h1 h2
        exact hs ⟨id, ops, draw, c, x', y', h1, h2⟩
  | cond c x y ihx ihy => exact ⟨sound_cond ihx.1 ihy.1, fun c0 x' y' h => by cases h; exact ⟨ihx.1, ihy.1⟩⟩
  | block id b ih => exact ⟨sound_block ih.1, fun _ _ _ h => by cases h⟩
  | loop b ih => exact ⟨sound_loop ih.1, fun _ _ _ h => by cases h⟩
  | rangeFunc f ps a b iha ihb => exact ⟨sound_rf iha.1 ihb.1, fun _ _ _ h => by cases h⟩
  | exit id =>
    refine ⟨fun ro sf ctx out big k env J K Q a w ir h hk hc ha hd => ?_, fun _ _ _ h => by cases h⟩
    exact wpIn_exit (hc.exit id sf ir env J a w h (List.prefix_refl _) (List.prefix_refl _) ha hd)
  | ret =>
    refine ⟨fun ro sf ctx out big k env J K Q a w ir h hk hc ha hd => ?_, fun _ _ _ h => by cases h⟩
    exact wpIn_ret (hc.ret sf ir env J a w h (List.prefix_refl _) (List.prefix_refl _) ha hd)
  | scope b ih => exact ⟨sound_scope ih.1, fun _ _ _ h => by cases h⟩
  | goto l => exact ⟨none_sound _ fun _ _ _ _ _ _ _ => rfl, fun _ _ _ h => by cases h⟩
  | refuse y => exact ⟨none_sound _ fun _ _ _ _ _ _ _ => rfl, fun _ _ _ h => by cases h⟩

end Go.Gx
