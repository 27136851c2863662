/- What 'denF' tells of a function is so. -/
import Derived.Test.YtbaebhhengcdcaaGreatDoorGxSound3
namespace Go.Gx
open Go
variable {P : Program}

/-- one result -/
def getR (tmps : Array Value) : ResultVar → Sem Value
  | .tmp t => pure (tmps.getD t undef)
  | .cell a t => do loadVar t (← asAddr (tmps.getD a undef))

theorem run_results (fn : Func) (tmps : Array Value) (vs : List Value) (w : World) (h : (fn.results.toList.mapM (getR tmps)).run P w = .ok vs w) : (results fn tmps).run P w = .ok (resV vs) w := by
  have e : results fn tmps = (do
      let vs ← fn.results.mapM (getR tmps)
      pure (if h : vs.size = 1 then vs[0] else .tuple vs)) := by
    unfold results
    congr 1
  rw [e, Array.mapM_eq_mapM_toList]
  simp only [Sem.run_bind, Sem.run_map, h, Result.andThen_ok, Sem.run_pure]
  congr 1
  match vs with
  | [] => rfl
  | [v] => rfl
  | v :: u :: r => simp [resV]

theorem rets_sound {sf : SF} {J : JL} {K : KZ} {a : Act} : ∀ (rs : List ResultVar) (acc : List Operand) (env : List Value) (ir : IR) (w : World), rets sf rs env.length acc = some ir → Ag env sf a → den P ir env J K w →
    (∀ x ∈ acc, okO env.length x) → ∃ vs, (rs.mapM (getR a.tmps)).run P w = .ok vs w ∧ K.k (resV (acc.reverse.map (ev env) ++ vs)) w
  | [], acc, env, ir, w, h, ha, hd, hok => by
    cases h
    exact ⟨[], rfl, by simpa [den] using hd⟩
  | .tmp t :: rs, acc, env, ir, w, h, ha, hd, hok => by
    simp only [rets] at h
    obtain ⟨x, hx, h⟩ := bind_some h
    obtain ⟨h1, h2⟩ := tr_eval ha hx
    obtain ⟨vs, hr, hk⟩ := rets_sound rs (x :: acc) env ir w h ha hd (fun y hy => by
      rcases List.mem_cons.1 hy with rfl | hy
      · exact h1
      · exact hok y hy)
    refine ⟨ev env x :: vs, ?_, by simpa using hk⟩
    rw [List.mapM_cons, Sem.run_bind]
    have : (getR a.tmps (.tmp t)).run P w = .ok (ev env x) w := by
      have h2' : a.tmps.getD t undef = ev env x := h2
      simp only [getR, h2']; rfl
    rw [this, Result.andThen_ok, Sem.run_bind, hr]; rfl
  | .cell c t :: rs, acc, env, ir, w, h, ha, hd, hok => by
    simp only [rets] at h
    obtain ⟨x, hx, h⟩ := bind_some h
    obtain ⟨ir', hir, h⟩ := bind_some h
    cases h
    obtain ⟨h1, h2⟩ := tr_eval ha hx
    simp only [den, semL] at hd
    obtain ⟨nx, w', hrun⟩ := opS_ok hd
    obtain ⟨v, rfl⟩ := VL.ld _ _ _ _ _ hrun
    obtain rfl := RO.ld _ _ _ _ _ hrun
    rw [opS_value hrun] at hd
    have hp : env <+: env ++ [v] := List.prefix_append _ _
    obtain ⟨vs, hr, hk⟩ := rets_sound rs (.tmp env.length :: acc) (env ++ [v]) ir' w' (by simpa using hir) (ha.mono hp) hd (fun y hy => by
      rcases List.mem_cons.1 hy with rfl | hy
      · simp [okO]
      · exact (hok y hy).mono hp.length_le)
    have hev : (acc.reverse.map (ev (env ++ [v]))) = acc.reverse.map (ev env) := List.map_congr_left fun y hy => ev_append (hok y (by simpa using hy))
    refine ⟨v :: vs, ?_, ?_⟩
    · rw [List.mapM_cons, Sem.run_bind]
      have : (getR a.tmps (.cell c t)).run P w' = .ok v w' := by
        have h2' : a.tmps.getD c undef = ev env x := h2
        simp only [getR, h2']
        unfold S.ld at hrun
        generalize ev env x = y at hrun
        split at hrun
        · rename_i b o
          simp only [asAddr, pure_bind]
          rw [Sem.run_bind] at hrun
          have hs : (shape b).run P w' = .ok (w'.shape? b) w' := rfl
          rw [hs, Result.andThen_ok] at hrun
          split at hrun
          · rw [Sem.run_bind] at hrun
            cases hl : (loadVar t ⟨b, o, none⟩).run P w' with
            | halt e w2 => rw [hl] at hrun; cases hrun
            | ok u w2 => rw [hl] at hrun; cases hrun; rfl
          · cases hrun
        · cases hrun
      rw [this, Result.andThen_ok, Sem.run_bind, hr]; rfl
    · have : (env ++ [v]).getD env.length undef = v := getD_len
      simpa [hev, ev, this] using hk

theorem takes_sound {fn : Func} {tmps : Array Value} {J : JL} {K : KZ} {R : Ending → World → Prop} {k : Nat → Option IR} : ∀ (ms : List Operand) (env : List Value) (ir : IR) (w : World), takes ms env.length k = some ir → den P ir env J K w →
    (∀ m ∈ ms, okO env.length m) → (∀ ir' env' w', k env'.length = some ir' → env <+: env' → den P ir' env' J K w' → LeavesInM Fence.wide 0 P fn tmps R [] .returning w') →
    LeavesInM Fence.wide 0 P fn tmps R (ms.map (markOf env)) .returning w
  | [], env, ir, w, h, hd, hok, hk => hk ir env w h (List.prefix_refl _) hd
  | m :: ms, env, ir, w, h, hd, hok, hk => by
    simp only [takes] at h
    obtain ⟨ir', hir, h⟩ := bind_some h
    cases h
    have hp : ∀ v, env <+: env ++ [v] := fun v => List.prefix_append _ _
    have next : ∀ (v : Value) (w' : World), den P ir' (env ++ [v]) J K w' → LeavesInM Fence.wide 0 P fn tmps R (ms.map (markOf env)) .returning w' := by
      intro v w' hd'
      have ih := takes_sound (fn := fn) (tmps := tmps) (R := R) ms (env ++ [v]) ir' w' (by simpa using hir) hd' (fun m' hm' => (hok m' (by simp [hm'])).mono (hp v).length_le)
        (fun ir2 env2 w2 h2 hp2 hd2 => hk ir2 env2 w2 h2 ((hp v).trans hp2) hd2)
      have : ms.map (markOf (env ++ [v])) = ms.map (markOf env) := List.map_congr_left fun m' hm' => by rw [markOf, markOf, ev_append (hok m' (by simp [hm']))]
      rw [← this]; exact ih
    simp only [den, sopS] at hd
    unfold takeD at hd
    split at hd
    · rename_i fv first cap hv
      obtain ⟨f, args, hinv, hcall⟩ := hd
      have hmk : markOf env m = { target := .fn fv cap, args := first } := by unfold markOf; rw [hv]; rfl
      rw [List.map_cons, hmk]
      refine ⟨by simp, .inr ⟨fun h => by simp [Fence.wide] at h, fv, cap, f, args, rfl, hinv, fun _ _ => trivial, ?_⟩⟩
      refine CallsDIn.mono hcall ?_
      rintro e u' w' ⟨⟨v, rfl⟩, rfl, hk'⟩
      exact next undef w' hk'
    · rename_i hnf
      have hmk : markOf env m = { target := .collected (blk (ev env m)), args := #[] } := by
        unfold markOf markD
        split
        · rename_i fv first cap hv; exact absurd hv (hnf fv first cap)
        · rfl
      unfold opS S.take at hd
      rw [Sem.run_bind] at hd
      cases hr : (Instr.takeDeferred (blk (ev env m))).run P w with
      | halt x w' => rw [hr] at hd; exact hd.elim
      | ok ds w' =>
        rw [hr] at hd
        cases ds with
        | cons d ds => exact hd.elim
        | nil =>
          have hd' : den P ir' (env ++ [undef]) J K w' := hd
          rw [List.map_cons, hmk]
          exact ⟨by simp, .inl ⟨_, w', rfl, hr, next undef w' hd'⟩⟩

/-- how a function leaves -/
def RZ (K : KZ) : Ending → World → Prop := fun e w' => (∃ v, e = .returned v ∧ K.k v w') ∨ ∃ v, e = .panicked [{ v, recovered := false }] ∧ K.z v w'

theorem retC_ok {fn : Func} {env : List Value} {J : JL} {K : KZ} :
    KOk P (retC fn.results.toList) env J K (bodyPostM Fence.wide 0 P fn (RZ K) .ret) := by
  intro sf ir env' J' a w h hp hJ ha hd
  show LeavesInM Fence.wide 0 P fn a.tmps _ a.defers .returning w
  rw [ha.ms]
  refine takes_sound sf.ms env' ir w h hd ha.mok fun ir2 env2 w2 h2 hp2 hd2 => ?_
  obtain ⟨vs, hr, hk⟩ := rets_sound (J := J') _ [] env2 ir2 w2 h2 (ha.mono hp2) hd2 (fun x hx => by cases hx)
  exact ⟨_, run_results fn a.tmps vs w2 hr, .inl ⟨_, rfl, by simpa using hk⟩⟩

theorem args_agree : ∀ (args : List Value) (n : Nat), AgL args ((List.range args.length).map (fun i => some (.tmp i)) ++ List.replicate n none) (args ++ List.replicate n undef) := by
  intro args n
  have gen : ∀ (pre rest : List Value), AgL (pre ++ rest) ((List.range' pre.length rest.length).map (fun i => some (Operand.tmp i)) ++ List.replicate n none) (rest ++ List.replicate n undef) := by
    intro pre rest
    induction rest generalizing pre with
    | nil =>
      simp only [List.length_nil, List.range'_zero, List.map_nil, List.nil_append, List.append_nil]
      induction n with
      | zero => exact trivial
      | succ n ih => exact ⟨fun x hx => (by cases hx), ih⟩
    | cons v rest ih =>
      simp only [List.length_cons, List.range'_succ, List.map_cons, List.cons_append]
      refine ⟨fun x hx => ?_, ?_⟩
      · cases hx
        exact ⟨by simp [okO], getD_len⟩
      · have := ih (pre ++ [v])
        simpa using this
  have := gen [] args
  simpa [List.range_eq_range'] using this

theorem panC_ok {fn : Func} {env : List Value} {K : KZ} : ∃ zq, PzOk P (.pan (panC fn.results.toList)) env K zq ∧ ZOk zq (bodyPostM Fence.wide 0 P fn (RZ K)) := by
  refine ⟨.pan fun a v w => LeavesInM Fence.wide 0 P fn a.tmps (RZ K) a.defers (.panicking [{ v, recovered := false }]) w, ?_, rfl, fun z hz a v w h => by cases hz; exact h⟩
  intro sf ir env' J a w x h hp ha hx hd
  show LeavesInM Fence.wide 0 P fn a.tmps (RZ K) a.defers _ w
  rw [ha.ms]
  unfold panC at h
  split at h
  · rename_i hms
    cases h
    rw [hms]
    exact .inr ⟨_, rfl, hd⟩
  · rename_i m ms hms
    obtain ⟨ir', hir, h⟩ := bind_some h
    cases h
    rw [hms, List.map_cons]
    simp only [den] at hd
    unfold dpanS at hd
    split at hd
    · rename_i fv first cap hv
      obtain ⟨f, args, hinv, hcall⟩ := hd
      have hmk : markOf env' m = { target := .fn fv cap, args := first } := by unfold markOf; rw [hv]; rfl
      rw [hmk]
      refine ⟨by simp, .inr ⟨fun h => by simp [Fence.wide] at h, fv, cap, f, args, rfl, hinv, fun _ _ => trivial, ?_⟩⟩
      refine CallsDIn.mono hcall ?_
      rintro e u' w' ⟨⟨v, rfl⟩, hu, hk'⟩
      simp only [hu]
      have hp2 : env' <+: env' ++ [undef] := List.prefix_append _ _
      have e1 : ms.map (markOf env') = ms.map (markOf (env' ++ [undef])) := List.map_congr_left fun m' hm' => by rw [markOf, markOf, ev_append (ha.mok m' (by rw [hms]; simp [hm']))]
      rw [e1]
      refine takes_sound ms (env' ++ [undef]) ir' w' (by simpa using hir) hk' (fun m' hm' => (ha.mok m' (by rw [hms]; simp [hm'])).mono hp2.length_le) fun ir2 env2 w2 h2 hp3 hd2 => ?_
      obtain ⟨vs, hr, hk⟩ := rets_sound (J := J) _ [] env2 ir2 w2 h2 (ha.mono (hp2.trans hp3)) hd2 (fun x hx => by cases hx)
      exact ⟨_, run_results fn a.tmps vs w2 hr, .inl ⟨_, rfl, by simpa using hk⟩⟩
    · exact hd.elim

theorem denG_sound (hm : P.follows .mixedOrders = true) {f : FuncId} {fn : Func} (hf : P.funcs[f]? = some fn) {args : List Value} {K : KZ} {w : World} {z : Bool} {ir : IR} (hir : compG P fn args.length z = some ir) (h : den P ir args [] K w) : Calls P f args.toArray w (RZ K) := by
  unfold compG at hir
  split at hir
  · cases hir
  · rename_i c hc
    refine callsIn_wide.1 (callsIn_of_wp_marks (n := 0) hf hc trivial ?_)
    have hret := retC_ok (P := P) (fn := fn) (env := args) (J := []) (K := K)
    have hnone : ∀ (Q' : Act → World → Prop), KOk P (fun _ _ _ => none) args [] K Q' := fun Q' sf ir env J a w h => by cases h
    refine (sound hm c).1 none _ { ret := retC fn.results.toList, retLive := resMask fn.results.toList, exits := [], other := fun _ _ _ _ => none, round := false, pz := if z then .pan (panC fn.results.toList) else .no } _ _ _ args [] K _ _ w ir hir hret ⟨hret, fun id => hnone _, (fun _ => rfl), ?_⟩ ?_ h
    · cases z with
      | false => exact ⟨.no, trivial, rfl, fun z hz => by cases hz⟩
      | true => exact panC_ok
    · refine ⟨?_, rfl, fun m hm => (by cases hm), fun x b hx => (by cases hx)⟩
      have := args_agree args (fn.ntmps - args.length)
      simpa using this

/-- **what is told of a function is so** -/
theorem denF_sound (hm : P.follows .mixedOrders = true) {f : FuncId} {fn : Func} (hf : P.funcs[f]? = some fn) {args : List Value} {K : Value → World → Prop} {w : World} (h : denF P fn args K w) : CallsR P f args.toArray K w := by
  unfold denF at h
  cases hir : compF P fn args.length with
  | none => rw [hir] at h; exact h.elim
  | some ir =>
    rw [hir] at h
    refine Calls.mono (denG_sound hm hf (z := false) hir h) fun e w' hh => ?_
    rcases hh with hh | ⟨v, _, hz⟩
    · exact hh
    · exact hz.elim

/-- **and of one that may panic** -/
theorem denZ_sound (hm : P.follows .mixedOrders = true) {f : FuncId} {fn : Func} (hf : P.funcs[f]? = some fn) {args : List Value} {K Z : Value → World → Prop} {w : World} (h : denZ P fn args K Z w) : CallsZ P f args.toArray K Z w := by
  unfold denZ at h
  cases hir : compG P fn args.length true with
  | none => rw [hir] at h; exact h.elim
  | some ir =>
    rw [hir] at h
    exact denG_sound hm hf (z := true) hir h

/-- where it is told that nothing panics -/
theorem CallsZ.calm {f : FuncId} {args : Array Value} {K : Value → World → Prop} {w : World} (h : CallsZ P f args K (fun _ _ => False) w) : CallsR P f args K w :=
  Calls.mono h fun e w' hh => by
    rcases hh with hh | ⟨v, _, hz⟩
    · exact hh
    · exact hz.elim

end Go.Gx
