/- Regions: one operation at a time, in whatever order the model picks. -/
import Derived.Test.YtebfekelonfcgaaDoorGxSem
namespace Go.Gx
open Go

/-! ### What is told is a value -/

def VL (P : Program) (s : Sem Next) : Prop := ∀ w n w1, s.run P w = .ok n w1 → ∃ v, n = .value v

theorem VL.val {P : Program} (s : Sem Value) : VL P (s >>= fun v => Pure.pure (Next.value v)) := by
  intro w n w1 h
  rw [Sem.run_bind] at h
  cases hr : s.run P w with
  | halt x w' => rw [hr] at h; cases h
  | ok v w' => rw [hr] at h; cases h; exact ⟨v, rfl⟩
theorem VL.pure {P : Program} (v : Value) : VL P (Pure.pure (Next.value v)) := fun w n w1 h => by cases h; exact ⟨v, rfl⟩
theorem VL.stuck {P : Program} (y : String) : VL P (Go.stuck y) := fun w n w1 h => by cases h

theorem VL.ld {P : Program} (t : TypeId) (a : Value) : VL P (S.ld t a) := by
  unfold S.ld
  split
  · rename_i b o
    intro w n w1 h
    rw [Sem.run_bind] at h
    have hs : (shape b).run P w = .ok (w.shape? b) w := rfl
    rw [hs, Result.andThen_ok] at h
    split at h
    · exact VL.val _ _ _ _ h
    · cases h
  · exact VL.stuck _
theorem VL.len {P : Program} (x : Value) : VL P (S.len x) := by unfold S.len; split <;> first | exact VL.pure _ | exact VL.stuck _
theorem VL.lenT {P : Program} (x : Value) : VL P (S.lenT x) := by unfold S.lenT; split <;> first | exact VL.pure _ | exact VL.stuck _

theorem vl_semL {P : Program} {o : Oper} (h : kindOf P o.op ≠ .act) (ρ : Operand → Value) : VL P (semL ρ (howOf P o.op) o.type o.op) := by
  obtain ⟨dst, op, ty, pos, after, guard⟩ := o
  cases op with
  | move x => exact VL.pure _
  | assign x => exact VL.pure _
  | pick c a b =>
    intro w n w1 h
    simp only [semL, S.pick, Sem.run_bind] at h
    cases hr : (asBool (ρ c)).run P w with
    | halt x w' => rw [hr] at h; cases h
    | ok v w' => rw [hr] at h; cases h; exact ⟨_, rfl⟩
  | nilCheck x => simp only [semL, S.nc]; split <;> first | exact VL.pure _ | exact VL.stuck _
  | makeFunc fn x y => exact VL.pure _
  | extract x i => exact VL.val _
  | field t x f => exact VL.val _
  | indexAddr t x i => exact VL.val _
  | load t a => exact VL.ld _ _
  | fieldAddr t x f => exact VL.val _
  | unOp op t x => exact VL.val _
  | build t ps => exact VL.val _
  | makeInterface t x => exact VL.val _
  | slice t x lo hi mx => exact VL.val _
  | binOp op t x y yt =>
    simp only [kindOf, howOf] at h
    show VL P (semL ρ (howBin P t y) ty (.binOp op t x y yt))
    generalize howBin P t y = q at h
    cases q <;> simp at h <;> simp only [semL]
    · unfold S.binI; split <;> first | exact VL.val _ | exact VL.stuck _
    · unfold S.binB; split <;> first | exact VL.pure _ | exact VL.stuck _
    · unfold S.binS; split <;> first | exact VL.val _ | exact VL.stuck _
    all_goals unfold S.binN; split <;> first | exact VL.pure _ | exact VL.stuck _
  | convert s d x =>
    simp only [kindOf, howOf] at h
    show VL P (semL ρ (howConv P s d) ty (.convert s d x))
    generalize howConv P s d = q at h
    cases q <;> simp at h
    simp only [semL]
    unfold S.convI; split <;> first | exact VL.pure _ | exact VL.stuck _
  | call c =>
    obtain ⟨callee, args, ats⟩ := c
    cases callee with
    | builtin b =>
      simp only [kindOf] at h
      show VL P (semL ρ (howLen P b ats) ty (.call { callee := .builtin b, args, argTypes := ats }))
      generalize howLen P b ats = q at h
      cases q <;> simp at h <;> simp only [semL]
      all_goals
        generalize args.toList.map ρ = xs
        match xs with
        | [] => exact VL.stuck _
        | [x] => first | exact VL.len _ | exact VL.lenT _
        | x :: y :: r => exact VL.stuck _
    | _ => simp [kindOf] at h
  | _ => simp [kindOf] at h

theorem semL_congr {ρ ρ' : Operand → Value} {how : How} {ty : TypeId} (op : Op) (h : ∀ x ∈ op.operands, ρ x = ρ' x) : semL ρ how ty op = semL ρ' how ty op := by
  have pairs : ∀ ps : Array (Nat × Operand), (∀ x ∈ (ps.toList.map (·.2)).toArray, ρ x = ρ' x) →
      (ps.toList.map fun p => (p.1, ρ p.2)) = (ps.toList.map fun p => (p.1, ρ' p.2)) := fun ps hp =>
    List.map_congr_left fun p hm => by
      obtain ⟨i, x⟩ := p
      simp only [hp x (by simp only [List.mem_toArray]; exact List.mem_map.2 ⟨(i, x), hm, rfl⟩)]
  have list : ∀ ps : Array Operand, (∀ x ∈ ps, ρ x = ρ' x) → ps.toList.map ρ = ps.toList.map ρ' := fun ps hp =>
    List.map_congr_left fun p hm => hp p (by simpa using hm)
  cases op with
  | call c =>
    obtain ⟨callee, args, ats⟩ := c
    have ha := list args fun x hx => h x (by simp [Op.operands, Call.operands, hx])
    cases callee with
    | value f => have hf : ρ f = ρ' f := h f (by simp [Op.operands, Call.operands]); simp only [semL, ha, hf]
    | invoke r m => rfl
    | builtin b => simp only [semL, ha]
  | build t ps => simp only [semL, pairs ps h]
  | buildSlice t n ps => simp only [semL, pairs ps h]
  | makeFunc fn x y => simp only [semL, list x fun z hz => h z (by simp [Op.operands, hz]), list y fun z hz => h z (by simp [Op.operands, hz])]
  | makeMap t r => cases r <;> simp_all [semL, optV, Op.operands]
  | slice t x lo hi mx => cases lo <;> cases hi <;> cases mx <;> simp_all [semL, optV, Op.operands]
  | _ => first | rfl | (simp only [Op.operands] at h; simp only [semL]; simp_all; done)

/-! ### One operation -/

/-- what a panic of an operation leads to; none: it may not panic -/
abbrev ZQ := Option (Act → Value → World → Prop)

/-- may it panic, where that is allowed? -/
def panicky : Op → Bool
  | .call { callee := .value _, .. } => true
  | .panic _ => true
  | _ => false

/-- a call that tells a value, or panics -/
def CallsZ (P : Program) (f : FuncId) (args : Array Value) (K Z : Value → World → Prop) (w : World) : Prop :=
  Calls P f args w fun e w' => (∃ v, e = .returned v ∧ K v w') ∨ ∃ v, e = .panicked [{ v, recovered := false }] ∧ Z v w'

def uponZ (P : Program) (K Z : Value → World → Prop) : Result Next → Prop
  | .ok (.enter f args) w => CallsZ P f args K Z w
  | r => uponR P K r

/-- an operation, what comes behind it, and what comes of its panic -/
def opZ (P : Program) (s : Sem Next) (K Z : Value → World → Prop) (w : World) : Prop := uponZ P K Z (s.run P w)

theorem CallsZ.mono {P : Program} {f : FuncId} {args : Array Value} {K K' Z Z' : Value → World → Prop} {w : World} (h : CallsZ P f args K Z w) (hk : ∀ v w, K v w → K' v w) (hz : ∀ v w, Z v w → Z' v w) : CallsZ P f args K' Z' w :=
  Calls.mono h fun _ _ h => by
    rcases h with ⟨v, he, hv⟩ | ⟨v, he, hv⟩
    · exact .inl ⟨v, he, hk _ _ hv⟩
    · exact .inr ⟨v, he, hz _ _ hv⟩

theorem CallsZ.of {P : Program} {f : FuncId} {args : Array Value} {K Z : Value → World → Prop} {w : World} (h : CallsR P f args K w) : CallsZ P f args K Z w :=
  Calls.mono h fun _ _ ⟨v, he, hv⟩ => .inl ⟨v, he, hv⟩

theorem opZ_mono {P : Program} {s : Sem Next} {K K' Z Z' : Value → World → Prop} {w : World} (h : opZ P s K Z w) (hk : ∀ v w, K v w → K' v w) (hz : ∀ v w, Z v w → Z' v w) : opZ P s K' Z' w := by
  unfold opZ at h ⊢
  generalize s.run P w = r at h
  cases r with
  | halt x w => exact h
  | ok n w => cases n <;> first | exact hk _ _ h | exact CallsZ.mono h hk hz | exact RoundR.mono h hk | exact h

theorem opZ_ref {P : Program} {s t : Sem Next} (hr : Ref P s t) {K Z : Value → World → Prop} {w : World} (h : opZ P s K Z w) : opZ P t K Z w := by
  unfold opZ at h ⊢
  cases hs : s.run P w with
  | halt x w' => rw [hs] at h; exact h.elim
  | ok n w' => rw [hr _ _ _ hs, ← hs]; exact h

/-- an operation whose panic is allowed -/
def wpP (P : Program) (z : Act → Value → World → Prop) (o : Oper) (K : Act → World → Prop) (a : Act) (w : World) : Prop :=
  match o.op with
  | .panic x => ∃ t v, a.eval x = .iface t v ∧ z a (a.eval x) w
  | op => opZ P (semL a.eval (howOf P op) o.type op) (fun v w' => K (a.put o.dst v) w') (z a) w

/-- an operation that is carried out -/
def wpR (P : Program) (zq : ZQ) (o : Oper) (K : Act → World → Prop) (a : Act) (w : World) : Prop :=
  match zq with
  | some z => if panicky o.op then wpP P z o K a w else opS P (semL a.eval (howOf P o.op) o.type o.op) (fun v w' => K (a.put o.dst v) w') w
  | none => opS P (semL a.eval (howOf P o.op) o.type o.op) (fun v w' => K (a.put o.dst v) w') w

def wpS (P : Program) (zq : ZQ) (ops : Array Oper) (i : Nat) (K : Act → World → Prop) (a : Act) (w : World) : Prop :=
  match ops[i]? with
  | none => K a w
  | some o =>
    if Region.wanted o (yielded ops a.tmps) then wpR P zq o K a w
    else K (a.put o.dst undef) w

/-- no panic of it is reckoned with -/
def tame (z : Bool) (o : Op) : Bool := !z || !panicky o

section
variable {P : Program} {zq : ZQ} {ops : Array Oper}

theorem wpR_tame {o : Oper} (h : tame zq.isSome o.op = true) {K : Act → World → Prop} {a : Act} {w : World} :
    wpR P zq o K a w = opS P (semL a.eval (howOf P o.op) o.type o.op) (fun v w' => K (a.put o.dst v) w') w := by
  unfold wpR
  cases zq with
  | none => rfl
  | some z =>
    have : panicky o.op = false := by simpa [tame] using h
    simp only [this, Bool.false_eq_true, if_false]

theorem wpP_mono {z : Act → Value → World → Prop} {o : Oper} {a : Act} {w : World} {K K' : Act → World → Prop} (h : ∀ a w, K a w → K' a w) (hh : wpP P z o K a w) : wpP P z o K' a w := by
  unfold wpP at *
  split
  · simpa [*] using hh
  · rename_i op hop
    have hh' : opZ P (semL a.eval (howOf P o.op) o.type o.op) (fun v w' => K (a.put o.dst v) w') (z a) w := by
      split at hh
      · rename_i x hx; exact absurd hx (hop x)
      · exact hh
    exact opZ_mono hh' (fun _ _ => h _ _) fun _ _ h => h

theorem wpR_mono {o : Oper} {a : Act} {w : World} {K K' : Act → World → Prop} (h : ∀ a w, K a w → K' a w) (hh : wpR P zq o K a w) : wpR P zq o K' a w := by
  unfold wpR at *
  cases zq with
  | none => exact opS_mono hh fun _ _ => h _ _
  | some z =>
    simp only at hh ⊢
    split
    · rename_i hp; rw [if_pos hp] at hh; exact wpP_mono h hh
    · rename_i hp; rw [if_neg hp] at hh; exact opS_mono hh fun _ _ => h _ _

theorem wpS_mono {i : Nat} {a : Act} {w : World} {K K' : Act → World → Prop} (h : ∀ a w, K a w → K' a w)
    (hh : wpS P zq ops i K a w) : wpS P zq ops i K' a w := by
  unfold wpS at *
  split
  · rename_i ho; simp only [ho] at hh; exact h _ _ hh
  · rename_i o ho
    simp only [ho] at hh
    split
    · rename_i hw; simp only [hw, if_true] at hh; exact wpR_mono h hh
    · rename_i hw; simp only [hw] at hh; exact h _ _ hh

theorem wpS_some {i : Nat} {a : Act} {w : World} {K : Act → World → Prop} (ht : ∀ o, ops[i]? = some o → tame zq.isSome o.op = true) (hh : wpS P zq ops i K a w) : ∃ a w, K a w := by
  unfold wpS at hh
  split at hh
  · exact ⟨_, _, hh⟩
  · rename_i o ho
    split at hh
    · rw [wpR_tame (ht o ho)] at hh
      obtain ⟨v, w', h⟩ := uponR_some hh; exact ⟨_, _, h⟩
    · exact ⟨_, _, hh⟩

/-- the fence that keeps nothing out, for a frame of a function, or of a round -/
def FW (ro : Option Nat) : Fence := { Fence.wide with round := ro }

theorem callsIn_FW {ro : Option Nat} {n : Nat} {f : FuncId} {args : Array Value} {w : World} {R : Ending → World → Prop} (h : Calls P f args w R) : CallsIn (FW ro) n P f args w R := by
  have h' : CallsIn Fence.wide n P f args w R := callsIn_wide.2 h
  exact h'

theorem roundIn_FW {ro : Option Nat} {n m : Nat} {l : Nat} {f : FuncId} {tmps : Array Value} {assign body : Code} {w : World} {R : Ending → World → Prop}
    (h : RoundIn Fence.wide m P l f tmps assign body w R) : RoundIn (FW ro) n P l f tmps assign body w R :=
  ⟨trivial, fun c cs _ => h.2 c cs (room_wide _)⟩

theorem wpR_none_sound {ro : Option Nat} {n : Nat} {Q : Exit → Act → World → Prop} {o : Oper} {K : Act → World → Prop} {a : Act} {w : World}
    (h : opS P (semL a.eval (howOf P o.op) o.type o.op) (fun v w' => K (a.put o.dst v) w') w) : o.wpIn (FW ro) n P a w K Q := by
  refine ⟨fun _ _ => trivial, ?_⟩
  have hd : ∀ c, o.op ≠ .defer c := by
    intro c hc
    rw [hc] at h
    exact h.elim
  rw [Oper.semAt_eq _ _ _ hd]
  have h2 := opS_ref (ref_semL P a.eval (fun _ => rfl) o) h
  unfold opS at h2
  generalize (execOp a.eval o).run P w = r at h2
  cases r with
  | halt x w' => exact h2.elim
  | ok n w' =>
    cases n <;> first | exact h2 | exact h2.elim | skip
    · refine ⟨fun hh => (by cases hh), ?_⟩
      exact callsIn_FW (Calls.mono h2 fun e w'' ⟨v, he, hv⟩ => by subst he; exact hv)
    · refine ⟨fun hh => (by cases hh), ?_⟩
      exact roundIn_FW (RoundIn.mono h2 fun e w'' ⟨v, he, hv⟩ => by subst he; exact hv)

/-- what a panic is to lead to -/
def ZOk (zq : ZQ) (Q : Exit → Act → World → Prop) : Prop := ∀ z, zq = some z → ∀ a v w, z a v w → Q (.panic [{ v, recovered := false }]) a w

theorem wpR_sound {ro : Option Nat} {n : Nat} {Q : Exit → Act → World → Prop} {o : Oper} {K : Act → World → Prop} {a : Act} {w : World} (hz : ZOk zq Q) (h : wpR P zq o K a w) : o.wpIn (FW ro) n P a w K Q := by
  unfold wpR at h
  cases zq with
  | none => exact wpR_none_sound h
  | some z =>
    simp only at h
    split at h
    · rename_i hp
      unfold wpP at h
      split at h
      · rename_i x hop
        obtain ⟨t, v, hx, hzz⟩ := h
        refine ⟨fun _ _ => trivial, ?_⟩
        have hd : ∀ c, o.op ≠ .defer c := by intro c hc; rw [hc] at hop; cases hop
        rw [Oper.semAt_eq _ _ _ hd]
        have hr : (execOp a.eval o).run P w = .halt (.panic (a.eval x)) w := by
          unfold execOp
          rw [hop]
          simp only [hx]
          rfl
        rw [hr]
        exact hz z rfl _ _ _ hzz
      · refine ⟨fun _ _ => trivial, ?_⟩
        have hd : ∀ c, o.op ≠ .defer c := by intro c hc; rw [hc] at hp; cases hp
        rw [Oper.semAt_eq _ _ _ hd]
        have h2 := opZ_ref (ref_semL P a.eval (fun _ => rfl) o) h
        unfold opZ at h2
        generalize (execOp a.eval o).run P w = r at h2
        cases r with
        | halt x w' => exact h2.elim
        | ok n w' =>
          cases n <;> first | exact h2 | exact h2.elim | skip
          · refine ⟨fun hh => (by cases hh), ?_⟩
            refine callsIn_FW (Calls.mono h2 fun e w'' hh => ?_)
            rcases hh with ⟨v, rfl, hv⟩ | ⟨v, rfl, hv⟩
            · exact hv
            · exact hz z rfl _ _ _ hv
          · refine ⟨fun hh => (by cases hh), ?_⟩
            exact roundIn_FW (RoundIn.mono h2 fun e w'' ⟨v, he, hv⟩ => by subst he; exact hv)
    · exact wpR_none_sound h

theorem wpS_sound {ro : Option Nat} {n : Nat} {Q : Exit → Act → World → Prop} {i : Nat} {K : Act → World → Prop} {a : Act} {w : World} (hz : ZOk zq Q) (h : wpS P zq ops i K a w) :
    wpOpIn (FW ro) n P ops Q i K a w := by
  unfold wpS at h
  unfold wpOpIn
  split
  · rename_i ho; simp only [ho] at h; exact h
  · rename_i o ho
    simp only [ho] at h
    split
    · rename_i hw
      simp only [hw, if_true] at h
      exact wpR_sound hz h
    · rename_i hw
      simp only [hw] at h
      exact ⟨fun _ _ => trivial, h⟩

/-! ### Two operations, in either order -/

theorem opS_value {s : Sem Next} {v : Value} {w w' : World} {K : Value → World → Prop} (h : s.run P w = .ok (.value v) w') : opS P s K w = K v w' := by
  unfold opS; rw [h]; rfl

theorem opS_ok {s : Sem Next} {w : World} {K : Value → World → Prop} (h : opS P s K w) : ∃ n w', s.run P w = .ok n w' := by
  unfold opS at h
  cases hr : s.run P w with
  | halt x w' => rw [hr] at h; exact h.elim
  | ok n w' => exact ⟨n, w', rfl⟩

theorem opS_swap {s t : Sem Next} {R : Value → Value → World → Prop} {w : World}
    (hk : (WI P s ∧ VL P s) ∨ (WI P t ∧ VL P t) ∨ (RO P s ∧ VL P s ∧ RO P t ∧ VL P t))
    (h : opS P s (fun v w1 => opS P t (fun u w2 => R v u w2) w1) w) : opS P t (fun u w1 => opS P s (fun v w2 => R v u w2) w1) w := by
  rcases hk with ⟨hw, hv⟩ | ⟨hw, hv⟩ | ⟨hs, hsv, ht, htv⟩
  · obtain ⟨n, w', hr⟩ := opS_ok h
    obtain ⟨v, rfl⟩ := hv _ _ _ hr
    obtain ⟨rfl, hall⟩ := hw _ _ _ hr
    rw [opS_value hr] at h
    exact opS_mono h fun u w1 hu => by rw [opS_value (hall w1)]; exact hu
  · obtain ⟨v0, w0, h0⟩ := uponR_some h
    obtain ⟨n, w', hr⟩ := opS_ok h0
    obtain ⟨u, rfl⟩ := hv _ _ _ hr
    obtain ⟨_, hall⟩ := hw _ _ _ hr
    rw [opS_value (hall w)]
    exact opS_mono h fun v w1 hu => by rw [opS_value (hall w1)] at hu; exact hu
  · obtain ⟨n, w', hr⟩ := opS_ok h
    obtain ⟨v, rfl⟩ := hsv _ _ _ hr
    obtain rfl := hs _ _ _ hr
    rw [opS_value hr] at h
    obtain ⟨m, w'', hr2⟩ := opS_ok h
    obtain ⟨u, rfl⟩ := htv _ _ _ hr2
    obtain rfl := ht _ _ _ hr2
    rw [opS_value hr2] at h
    rw [opS_value hr2, opS_value hr]
    exact h

/-- nothing hangs on which of two comes first -/
def indep (P : Program) (z : Bool) (ops : Array Oper) (i j : Nat) : Bool :=
  match ops[i]?, ops[j]? with
  | some x, some y =>
    tame z x.op && tame z y.op && x.apart ops y &&
    (match kindOf P x.op, kindOf P y.op with
     | .calm, _ | _, .calm | .look, .look => true
     | _, _ => false)
  | _, _ => false

theorem semL_put (o : Oper) (how : How) (a : Act) (dst : Option Tmp) (v : Value) (h : ∀ d, dst = some d → d ∉ o.looksAt ops) :
    semL (a.put dst v).eval how o.type o.op = semL a.eval how o.type o.op :=
  semL_congr o.op fun x hx => Act.eval_put fun d hd hxd => h d hd (by
    subst hxd
    exact List.mem_append_left _ (List.mem_filterMap.2 ⟨.tmp d, by simpa using hx, rfl⟩))

theorem wpS_swap {i j : Nat} {K : Act → World → Prop} {a : Act} {w : World} (hin : indep P zq.isSome ops i j = true)
    (h : wpS P zq ops i (wpS P zq ops j K) a w) : wpS P zq ops j (wpS P zq ops i K) a w := by
  unfold indep at hin
  split at hin
  case h_2 => cases hin
  rename_i x y hx hy
  rw [Bool.and_eq_true, Bool.and_eq_true, Bool.and_eq_true] at hin
  obtain ⟨⟨⟨htx, hty⟩, hap⟩, hk⟩ := hin
  obtain ⟨h1, h2, h3⟩ := Oper.apart_spec hap
  have hkk : ∀ ρ ρ', (WI P (semL ρ (howOf P x.op) x.type x.op) ∧ VL P (semL ρ (howOf P x.op) x.type x.op)) ∨ (WI P (semL ρ' (howOf P y.op) y.type y.op) ∧ VL P (semL ρ' (howOf P y.op) y.type y.op)) ∨
      (RO P (semL ρ (howOf P x.op) x.type x.op) ∧ VL P (semL ρ (howOf P x.op) x.type x.op) ∧ RO P (semL ρ' (howOf P y.op) y.type y.op) ∧ VL P (semL ρ' (howOf P y.op) y.type y.op)) := by
    intro ρ ρ'
    cases hkx : kindOf P x.op with
    | calm => exact .inl ⟨calm_semL hkx ρ, vl_semL (by rw [hkx]; simp) ρ⟩
    | look =>
      cases hky : kindOf P y.op with
      | calm => exact .inr (.inl ⟨calm_semL hky ρ', vl_semL (by rw [hky]; simp) ρ'⟩)
      | look => exact .inr (.inr ⟨look_semL hkx ρ, vl_semL (by rw [hkx]; simp) ρ, look_semL hky ρ', vl_semL (by rw [hky]; simp) ρ'⟩)
      | act => rw [hkx, hky] at hk; cases hk
    | act =>
      cases hky : kindOf P y.op with
      | calm => exact .inr (.inl ⟨calm_semL hky ρ', vl_semL (by rw [hky]; simp) ρ'⟩)
      | look => rw [hkx, hky] at hk; cases hk
      | act => rw [hkx, hky] at hk; cases hk
  -- the second one's value and the first one's, in either order
  have ey : ∀ (a : Act) v, semL (a.put x.dst v).eval (howOf P y.op) y.type y.op = semL a.eval (howOf P y.op) y.type y.op := fun a v => semL_put y _ a x.dst v h1
  have ex : ∀ (a : Act) v, semL (a.put y.dst v).eval (howOf P x.op) x.type x.op = semL a.eval (howOf P x.op) x.type x.op := fun a v => semL_put x _ a y.dst v h3
  have wy : ∀ (a : Act) v, Region.wanted y (yielded ops (a.put x.dst v).tmps) = Region.wanted y (yielded ops a.tmps) := fun a v => wanted_put y a x.dst v h1
  have wx : ∀ (a : Act) v, Region.wanted x (yielded ops (a.put y.dst v).tmps) = Region.wanted x (yielded ops a.tmps) := fun a v => wanted_put x a y.dst v h3
  have pc : ∀ (a : Act) v u, (a.put x.dst v).put y.dst u = (a.put y.dst u).put x.dst v := fun a v u => Act.put_comm a v u h2
  unfold wpS at h ⊢
  have rx : ∀ (K : Act → World → Prop) a w, wpR P zq x K a w = opS P (semL a.eval (howOf P x.op) x.type x.op) (fun v w' => K (a.put x.dst v) w') w := fun K a w => wpR_tame htx
  have ry : ∀ (K : Act → World → Prop) a w, wpR P zq y K a w = opS P (semL a.eval (howOf P y.op) y.type y.op) (fun v w' => K (a.put y.dst v) w') w := fun K a w => wpR_tame hty
  simp only [hx, hy, rx, ry, ey, ex, wy, wx, pc] at h ⊢
  by_cases hwx : Region.wanted x (yielded ops a.tmps) = true
  · by_cases hwy : Region.wanted y (yielded ops a.tmps) = true
    · simp only [hwx, hwy, if_true] at h ⊢
      exact opS_swap (hkk _ _) h
    · simp only [hwx, hwy, if_true] at h ⊢
      exact h
  · by_cases hwy : Region.wanted y (yielded ops a.tmps) = true
    · simp only [hwx, hwy, if_true] at h ⊢
      exact h
    · simp only [hwx, hwy] at h ⊢
      exact h

/-! ### Whatever order is picked -/

def wpAnyS (P : Program) (zq : ZQ) (ops : Array Oper) (K : Act → World → Prop) : Nat → Array Bool → Act → World → Prop
  | 0, listed, a, w => Region.ready .any ops listed = [] ∧ K a w
  | fuel + 1, listed, a, w =>
    (Region.ready .any ops listed = [] → K a w) ∧
    ∀ i ∈ Region.ready .any ops listed, wpS P zq ops i (wpAnyS P zq ops K fuel (listed.setIfInBounds i true)) a w

theorem wpAnyS_sound {ro : Option Nat} {n : Nat} {Q : Exit → Act → World → Prop} {K : Act → World → Prop} (hz : ZOk zq Q) (hK : ∀ a w, K a w → Q .normal a w) : ∀ (fuel : Nat) (listed : Array Bool) (a : Act) (w : World),
    wpAnyS P zq ops K fuel listed a w → wpAnyIn (FW ro) n P .any ops Q fuel listed a w
  | 0, _, _, _, h => ⟨h.1, hK _ _ h.2⟩
  | fuel + 1, _, _, _, h => ⟨fun h0 => hK _ _ (h.1 h0), fun i hi => wpOpIn_mono (fun a w => wpAnyS_sound hz hK fuel _ a w) (wpS_sound hz (h.2 i hi))⟩

/-- 'i' comes ahead of 'j' in every order -/
inductive Ahead (ops : Array Oper) (i : Nat) : Nat → Prop
  | one {j : Nat} {o : Oper} {e : Edge} (ho : ops[j]? = some o) (he : e ∈ o.after) (hb : Region.binds .any e = true) (h : e.on = i) : Ahead ops i j
  | more {j : Nat} {o : Oper} {e : Edge} (ho : ops[j]? = some o) (he : e ∈ o.after) (hb : Region.binds .any e = true) (h : Ahead ops i e.on) : Ahead ops i j

def maskOf (acc : List Nat) : List Edge → Nat
  | [] => 0
  | e :: r => (if Region.binds .any e then 2 ^ e.on ||| acc.getD e.on 0 else 0) ||| maskOf acc r

def masksFrom : List Oper → List Nat → List Nat
  | [], acc => acc
  | o :: r, acc => masksFrom r (acc ++ [maskOf acc o.after.toList])

/-- of each operation those that come ahead of it -/
def masks (ops : Array Oper) : List Nat := masksFrom ops.toList []

theorem maskOf_bit {ops : Array Oper} {acc : List Nat} {i j : Nat} {o : Oper} (ho : ops[j]? = some o) (hacc : ∀ k, (acc.getD k 0).testBit i = true → Ahead ops i k) :
    ∀ es : List Edge, (∀ e ∈ es, e ∈ o.after) → (maskOf acc es).testBit i = true → Ahead ops i j
  | [], _, h => by simp [maskOf] at h
  | e :: r, hes, h => by
    simp only [maskOf, Nat.testBit_or, Bool.or_eq_true] at h
    rcases h with h | h
    · split at h
      · rename_i hb
        simp only [Nat.testBit_or, Bool.or_eq_true] at h
        rcases h with h | h
        · have : e.on = i := by
            rw [Nat.testBit_two_pow] at h
            exact of_decide_eq_true h
          exact .one ho (hes e (by simp)) hb this
        · exact .more ho (hes e (by simp)) hb (hacc _ h)
      · simp at h
    · exact maskOf_bit ho hacc r (fun e he => hes e (by simp [he])) h

theorem masksFrom_bit {ops : Array Oper} {i : Nat} : ∀ (l : List Oper) (acc : List Nat), (∀ k, l[k]? = ops[acc.length + k]?) → (∀ k, (acc.getD k 0).testBit i = true → Ahead ops i k) →
    ∀ k, ((masksFrom l acc).getD k 0).testBit i = true → Ahead ops i k
  | [], acc, _, h => h
  | o :: r, acc, hl, h => by
    refine masksFrom_bit r _ (fun k => ?_) ?_
    · have := hl (k + 1)
      simp only [List.getElem?_cons_succ] at this
      rw [this, List.length_append, List.length_singleton]; congr 1; omega
    · intro k hk
      have ho : ops[acc.length]? = some o := by have := hl 0; simpa using this.symm
      rw [List.getD_eq_getElem?_getD, List.getElem?_append] at hk
      split at hk
      · exact h k (by rw [List.getD_eq_getElem?_getD]; exact hk)
      · rename_i hge
        by_cases he : k = acc.length
        · subst he
          simp only [Nat.sub_self, List.getElem?_cons_zero, Option.getD_some] at hk
          exact maskOf_bit ho h _ (fun e he => by simpa using he) hk
        · have : [maskOf acc o.after.toList][k - acc.length]? = none := by
            rw [List.getElem?_eq_none_iff]; simp; omega
          rw [this] at hk; simp at hk

theorem masks_bit {ops : Array Oper} {i k : Nat} (h : ((masks ops).getD k 0).testBit i = true) : Ahead ops i k :=
  masksFrom_bit ops.toList [] (fun k => by simp) (fun k h => by simp at h) k h

def Closed (ops : Array Oper) (listed : Array Bool) : Prop :=
  ∀ j o, ops[j]? = some o → listed.getD j false = true → ∀ e ∈ o.after, Region.binds .any e = true → listed.getD e.on false = true

theorem mem_ready {listed : Array Bool} {i : Nat} (h : i ∈ Region.ready .any ops listed) :
    i < ops.size ∧ listed.getD i true = false ∧ ∃ o, ops[i]? = some o ∧ ∀ e ∈ o.after, Region.binds .any e = true → listed.getD e.on false = true := by
  unfold Region.ready at h
  rw [List.mem_filter] at h
  obtain ⟨hr, h⟩ := h
  rw [Bool.and_eq_true] at h
  obtain ⟨h1, h2⟩ := h
  refine ⟨by simpa using hr, by simpa using h1, ?_⟩
  cases ho : ops[i]? with
  | none => rw [ho] at h2; simp at h2
  | some o =>
    rw [ho] at h2
    refine ⟨o, rfl, fun e he hb => ?_⟩
    simp only [Option.map_some, Option.getD_some, Array.all_eq_true_iff_forall_mem] at h2
    have := h2 e he
    simpa [hb] using this

theorem ready_of {listed : Array Bool} {i : Nat} {o : Oper} (hi : i < ops.size) (hl : listed.getD i true = false) (ho : ops[i]? = some o)
    (h : ∀ e ∈ o.after, Region.binds .any e = true → listed.getD e.on false = true) : i ∈ Region.ready .any ops listed := by
  unfold Region.ready
  rw [List.mem_filter]
  refine ⟨by simpa using hi, ?_⟩
  rw [Bool.and_eq_true]
  refine ⟨by simpa using hl, ?_⟩
  simp only [ho, Option.map_some, Option.getD_some, Array.all_eq_true_iff_forall_mem]
  intro e he
  cases hb : Region.binds .any e
  · rfl
  · simpa [hb] using h e he hb

theorem getD_set {listed : Array Bool} {i j : Nat} (h : listed.getD i false = true) : (listed.setIfInBounds j true).getD i false = true := by
  simp only [Array.getD_eq_getD_getElem?, Array.getElem?_setIfInBounds] at h ⊢
  split
  · rename_i e
    subst e
    split
    · rfl
    · rename_i hlt
      have : listed[j]? = none := Array.getElem?_eq_none (by omega)
      rw [this] at h; cases h
  · exact h

theorem getD_set_ne {listed : Array Bool} {i j : Nat} {b : Bool} (h : j ≠ i) : (listed.setIfInBounds j true).getD i b = listed.getD i b := by
  simp only [Array.getD_eq_getD_getElem?, Array.getElem?_setIfInBounds_ne h]

theorem Closed.set {listed : Array Bool} {j : Nat} (h : Closed ops listed) (hj : j ∈ Region.ready .any ops listed) : Closed ops (listed.setIfInBounds j true) := by
  intro k o ho hk e he hb
  by_cases hjk : j = k
  · subst hjk
    obtain ⟨_, _, o', ho', hall⟩ := mem_ready hj
    rw [ho] at ho'; cases ho'
    exact getD_set (hall e he hb)
  · rw [getD_set_ne hjk] at hk
    exact getD_set (h k o ho hk e he hb)

theorem ahead_listed {listed : Array Bool} (hc : Closed ops listed) {i j : Nat} (h : Ahead ops i j) :
    (∀ o, ops[j]? = some o → ∀ e ∈ o.after, Region.binds .any e = true → listed.getD e.on false = true) → listed.getD i false = true := by
  induction h with
  | one ho he hb h => intro hl; rw [← h]; exact hl _ ho _ he hb
  | more ho he hb _ ih => intro hl; exact ih fun o' ho' e' he' hb' => hc _ o' ho' (hl _ ho _ he hb) e' he' hb'

/-- it may be taken first: whatever else could come ahead of it would be as well behind it -/
def free (P : Program) (z : Bool) (ops : Array Oper) (ms : List Nat) (listed : Array Bool) (i : Nat) : Bool :=
  (List.range ops.size).all fun j => j == i || listed.getD j true || (ms.getD j 0).testBit i || indep P z ops i j

theorem ready_set {listed : Array Bool} {i j : Nat} (hij : i ≠ j) (hj : j ∈ Region.ready .any ops listed) : j ∈ Region.ready .any ops (listed.setIfInBounds i true) := by
  obtain ⟨h1, h2, o, ho, h3⟩ := mem_ready hj
  exact ready_of h1 (by rw [getD_set_ne hij]; exact h2) ho fun e he hb => getD_set (h3 e he hb)

theorem indep_of {z : Bool} {listed : Array Bool} {i j : Nat} (hc : Closed ops listed) (hi : i ∈ Region.ready .any ops listed) (hj : j ∈ Region.ready .any ops listed) (hij : i ≠ j) (hf : free P z ops (masks ops) listed i = true) : indep P z ops i j = true := by
  obtain ⟨hjs, hjl, o, ho, hall⟩ := mem_ready hj
  have hf' := hf
  unfold free at hf'
  rw [List.all_eq_true] at hf'
  have := hf' j (by simpa using hjs)
  simp only [Bool.or_eq_true, beq_iff_eq] at this
  rcases this with ((h | h) | h) | h
  case inr => exact h
  · exact absurd h.symm hij
  · rw [hjl] at h; cases h
  · have hl := ahead_listed hc (masks_bit h) (fun o' ho' => by rw [ho] at ho'; cases ho'; exact hall)
    obtain ⟨_, hil, _⟩ := mem_ready hi
    rw [Array.getD_eq_getD_getElem?] at hl hil
    cases hq : listed[i]? with
    | none => rw [hq] at hl; cases hl
    | some b => rw [hq] at hl hil; simp at hl hil; rw [hl] at hil; cases hil

theorem take_first {K : Act → World → Prop} : ∀ (fuel : Nat) (listed : Array Bool) (i : Nat) (a : Act) (w : World), Closed ops listed → i ∈ Region.ready .any ops listed → free P zq.isSome ops (masks ops) listed i = true →
    wpS P zq ops i (wpAnyS P zq ops K fuel (listed.setIfInBounds i true)) a w → wpAnyS P zq ops K (fuel + 1) listed a w := by
  intro fuel
  induction fuel with
  | zero =>
    intro listed i a w hc hi hf h
    refine ⟨fun h0 => (by rw [h0] at hi; cases hi), fun j hj => ?_⟩
    by_cases hij : i = j
    · subst hij; exact h
    · have hin : indep P zq.isSome ops i j = true := indep_of hc hi hj hij hf
      have ht : ∀ o, ops[i]? = some o → tame zq.isSome o.op = true := by
        intro o ho
        unfold indep at hin
        rw [ho] at hin
        split at hin
        · rename_i x y hx hy
          cases hx
          rw [Bool.and_eq_true, Bool.and_eq_true, Bool.and_eq_true] at hin
          exact hin.1.1.1
        · cases hin
      obtain ⟨a', w', h', _⟩ := wpS_some ht h
      have := ready_set hij hj
      rw [h'] at this; cases this
  | succ fuel ih =>
    intro listed i a w hc hi hf h
    refine ⟨fun h0 => (by rw [h0] at hi; cases hi), fun j hj => ?_⟩
    by_cases hij : i = j
    · subst hij; exact h
    · have hj' := ready_set hij hj
      have h2 : wpS P zq ops i (wpS P zq ops j (wpAnyS P zq ops K fuel ((listed.setIfInBounds i true).setIfInBounds j true))) a w := wpS_mono (fun a w hh => hh.2 j hj') h
      have hin : indep P zq.isSome ops i j = true := indep_of hc hi hj hij hf
      have h3 := wpS_swap hin h2
      refine wpS_mono (fun a w hh => ?_) h3
      refine ih (listed.setIfInBounds j true) i a w (hc.set hj) (ready_set (fun e => hij e.symm) hi) ?_ ?_
      · unfold free at hf ⊢
        rw [List.all_eq_true] at hf ⊢
        intro k hk
        have := hf k hk
        by_cases hjk : j = k
        · subst hjk
          have hlt : j < listed.size ∨ listed.size ≤ j := by omega
          simp only [Bool.or_eq_true]
          rcases hlt with hlt | hlt
          · exact .inl (.inl (.inr (by simp [Array.getD_eq_getD_getElem?, hlt])))
          · exact .inl (.inl (.inr (by simp [Array.getD_eq_getD_getElem?, hlt])))
        · rw [getD_set_ne hjk]; exact this
      · rw [Array.setIfInBounds_comm _ _ (fun e => hij e.symm)]; exact hh

end
end Go.Gx
