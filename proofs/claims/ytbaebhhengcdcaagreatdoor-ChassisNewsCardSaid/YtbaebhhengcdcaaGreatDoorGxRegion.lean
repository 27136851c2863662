/- Regions: one operation at a time, in whatever order the model picks. -/
import Derived.Test.YtbaebhhengcdcaaGreatDoorGxSem
namespace Go.Gx
open Go

/-! ### What is told is a value -/

def VL (P : Program) (s : Sem Next) : Prop := ∀ w n w1, s.run P w = .ok n w1 → ∃ v, n = .value v

theorem VL.val {P : Program} (s : Sem Value) : VL P (s >>= fun v => Pure.pure (Next.value v)) := by
  intro w n w1 h
  rw [Sem.run_bind] at h
  cases hr : s.run P w with
  | halt x w' => rw [hr] at h; cases h
  | ok v w' => rw [hr] at h; cases h; exact ⟨v, rfl⟩
theorem VL.pure {P : Program} (v : Value) : VL P (Pure.pure (Next.value v)) := fun w n w1 h => by cases h; exact ⟨v, rfl⟩
theorem VL.stuck {P : Program} (y : String) : VL P (Go.stuck y) := fun w n w1 h => by cases h

theorem VL.ld {P : Program} (t : TypeId) (a : Value) : VL P (S.ld t a) := by
  unfold S.ld
  split
  · rename_i b o
    intro w n w1 h
    rw [Sem.run_bind] at h
    have hs : (shape b).run P w = .ok (w.shape? b) w := rfl
    rw [hs, Result.andThen_ok] at h
    split at h
    · exact VL.val _ _ _ _ h
    · cases h
  · exact VL.stuck _
theorem VL.len {P : Program} (x : Value) : VL P (S.len x) := by unfold S.len; split <;> first | exact VL.pure _ | exact VL.stuck _
theorem VL.lenT {P : Program} (x : Value) : VL P (S.lenT x) := by unfold S.lenT; split <;> first | exact VL.pure _ | exact VL.stuck _

theorem vl_semL {P : Program} {o : Oper} (h : kindOf P o.op ≠ .act) (ρ : Operand → Value) : VL P (semL ρ (howOf P o.op) o.type o.op) := by
  obtain ⟨dst, op, ty, pos, after, guard⟩ := o
  cases op with
  | move x => exact VL.pure _
  | assign x => exact VL.pure _
  | pick c a b =>
    intro w n w1 h
    simp only [semL, S.pick, Sem.run_bind] at h
    cases hr : (asBool (ρ c)).run P w with
    | halt x w' => rw [hr] at h; cases h
    | ok v w' => rw [hr] at h; cases h; exact ⟨_, rfl⟩
  | nilCheck x => simp only [semL, S.nc]; split <;> first | exact VL.pure _ | exact VL.stuck _
  | makeFunc fn x y => exact VL.pure _
  | extract x i => exact VL.val _
  | field t x f => exact VL.val _
  | indexAddr t x i => exact VL.val _
  | load t a => exact VL.ld _ _
  | fieldAddr t x f => exact VL.val _
  | unOp op t x => exact VL.val _
  | build t ps => exact VL.val _
  | makeInterface t x => exact VL.val _
  | slice t x lo hi mx => exact VL.val _
  | binOp op t x y yt =>
    simp only [kindOf, howOf] at h
    show VL P (semL ρ (howBin P t y) ty (.binOp op t x y yt))
    generalize howBin P t y = q at h
    cases q <;> simp at h <;> simp only [semL]
    · unfold S.binI; split <;> first | exact VL.val _ | exact VL.stuck _
    · unfold S.binB; split <;> first | exact VL.pure _ | exact VL.stuck _
    · unfold S.binS; split <;> first | exact VL.val _ | exact VL.stuck _
    all_goals unfold S.binN; split <;> first | exact VL.pure _ | exact VL.stuck _
  | convert s d x =>
    simp only [kindOf, howOf] at h
    show VL P (semL ρ (howConv P s d) ty (.convert s d x))
    generalize howConv P s d = q at h
    cases q <;> simp at h
    simp only [semL]
    unfold S.convI; split <;> first | exact VL.pure _ | exact VL.stuck _
  | call c =>
    obtain ⟨callee, args, ats⟩ := c
    cases callee with
    | builtin b =>
      simp only [kindOf] at h
      show VL P (semL ρ (howLen P b ats) ty (.call { callee := .builtin b, args, argTypes := ats }))
      generalize howLen P b ats = q at h
      cases q <;> simp at h <;> simp only [semL]
      all_goals
        generalize args.toList.map ρ = xs
        match xs with
        | [] => exact VL.stuck _
        | [x] => first | exact VL.len _ | exact VL.lenT _
        | x :: y :: r => exact VL.stuck _
    | _ => simp [kindOf] at h
  | _ => simp [kindOf] at h

theorem semL_congr {ρ ρ' : Operand → Value} {how : How} {ty : TypeId} (op : Op) (h : ∀ x ∈ op.operands, ρ x = ρ' x) : semL ρ how ty op = semL ρ' how ty op := by
  have pairs : ∀ ps : Array (Nat × Operand), (∀ x ∈ (ps.toList.map (·.2)).toArray, ρ x = ρ' x) →
      (ps.toList.map fun p => (p.1, ρ p.2)) = (ps.toList.map fun p => (p.1, ρ' p.2)) := fun ps hp =>
    List.map_congr_left fun p hm => by
      obtain ⟨i, x⟩ := p
      simp only [hp x (by simp only [List.mem_toArray]; exact List.mem_map.2 ⟨(i, x), hm, rfl⟩)]
  have list : ∀ ps : Array Operand, (∀ x ∈ ps, ρ x = ρ' x) → ps.toList.map ρ = ps.toList.map ρ' := fun ps hp =>
    List.map_congr_left fun p hm => hp p (by simpa using hm)
  cases op with
  | call c =>
    obtain ⟨callee, args, ats⟩ := c
    have ha := list args fun x hx => h x (by simp [Op.operands, Call.operands, hx])
    cases callee with
    | value f => have hf : ρ f = ρ' f := h f (by simp [Op.operands, Call.operands]); simp only [semL, ha, hf]
    | invoke r m => rfl
    | builtin b => simp only [semL, ha]
  | build t ps => simp only [semL, pairs ps h]
  | buildSlice t n ps => simp only [semL, pairs ps h]
  | makeFunc fn x y => simp only [semL, list x fun z hz => h z (by simp [Op.operands, hz]), list y fun z hz => h z (by simp [Op.operands, hz])]
  | makeMap t r => cases r <;> simp_all [semL, optV, Op.operands]
  | slice t x lo hi mx => cases lo <;> cases hi <;> cases mx <;> simp_all [semL, optV, Op.operands]
  | _ => first | rfl | (simp only [Op.operands] at h; simp only [semL]; simp_all; done)

/-! ### One operation -/

/-- how operations are carried out: none may panic; a panic leads to something; each tells one value in a class of worlds, and stays in it -/
inductive ZQ where
  | no
  | pan (z : Act → Value → World → Prop)
  | quiet (C : World → Prop)

def ZQ.isPan : ZQ → Bool
  | .pan _ => true
  | _ => false
def ZQ.isQuiet : ZQ → Bool
  | .quiet _ => true
  | _ => false

/-- may it panic, where that is allowed? -/
def panicky : Op → Bool
  | .call { callee := .value _, .. } => true
  | .panic _ => true
  | _ => false

/-- a call that tells a value, or panics -/
def CallsZ (P : Program) (f : FuncId) (args : Array Value) (K Z : Value → World → Prop) (w : World) : Prop :=
  Calls P f args w fun e w' => (∃ v, e = .returned v ∧ K v w') ∨ ∃ v, e = .panicked [{ v, recovered := false }] ∧ Z v w'

def uponZ (P : Program) (K Z : Value → World → Prop) : Result Next → Prop
  | .ok (.enter f args) w => CallsZ P f args K Z w
  | r => uponR P K r

/-- an operation, what comes behind it, and what comes of its panic -/
def opZ (P : Program) (s : Sem Next) (K Z : Value → World → Prop) (w : World) : Prop := uponZ P K Z (s.run P w)

theorem CallsZ.mono {P : Program} {f : FuncId} {args : Array Value} {K K' Z Z' : Value → World → Prop} {w : World} (h : CallsZ P f args K Z w) (hk : ∀ v w, K v w → K' v w) (hz : ∀ v w, Z v w → Z' v w) : CallsZ P f args K' Z' w :=
  Calls.mono h fun _ _ h => by
    rcases h with ⟨v, he, hv⟩ | ⟨v, he, hv⟩
    · exact .inl ⟨v, he, hk _ _ hv⟩
    · exact .inr ⟨v, he, hz _ _ hv⟩

theorem CallsZ.of {P : Program} {f : FuncId} {args : Array Value} {K Z : Value → World → Prop} {w : World} (h : CallsR P f args K w) : CallsZ P f args K Z w :=
  Calls.mono h fun _ _ ⟨v, he, hv⟩ => .inl ⟨v, he, hv⟩

theorem opZ_mono {P : Program} {s : Sem Next} {K K' Z Z' : Value → World → Prop} {w : World} (h : opZ P s K Z w) (hk : ∀ v w, K v w → K' v w) (hz : ∀ v w, Z v w → Z' v w) : opZ P s K' Z' w := by
  unfold opZ at h ⊢
  generalize s.run P w = r at h
  cases r with
  | halt x w => exact h
  | ok n w => cases n <;> first | exact hk _ _ h | exact CallsZ.mono h hk hz | exact RoundR.mono h hk | exact h

theorem opZ_ref {P : Program} {s t : Sem Next} (hr : Ref P s t) {K Z : Value → World → Prop} {w : World} (h : opZ P s K Z w) : opZ P t K Z w := by
  unfold opZ at h ⊢
  cases hs : s.run P w with
  | halt x w' => rw [hs] at h; exact h.elim
  | ok n w' => rw [hr _ _ _ hs, ← hs]; exact h

/-- an operation whose panic is allowed -/
def wpP (P : Program) (z : Act → Value → World → Prop) (o : Oper) (K : Act → World → Prop) (a : Act) (w : World) : Prop :=
  match o.op with
  | .panic x => ∃ t v, a.eval x = .iface t v ∧ z a (a.eval x) w
  | op => opZ P (semL a.eval (howOf P op) o.type op) (fun v w' => K (a.put o.dst v) w') (z a) w

/-- an operation that is carried out -/
def wpR (P : Program) (zq : ZQ) (o : Oper) (K : Act → World → Prop) (a : Act) (w : World) : Prop :=
  match zq with
  | .pan z => if panicky o.op then wpP P z o K a w else opS P (semL a.eval (howOf P o.op) o.type o.op) (fun v w' => K (a.put o.dst v) w') w
  | .no => opS P (semL a.eval (howOf P o.op) o.type o.op) (fun v w' => K (a.put o.dst v) w') w
  | .quiet C => ∃ v, (∀ w', C w' → opS P (semL a.eval (howOf P o.op) o.type o.op) (fun u w'' => u = v ∧ C w'') w') ∧ K (a.put o.dst v) w

def wpS (P : Program) (zq : ZQ) (ops : Array Oper) (i : Nat) (K : Act → World → Prop) (a : Act) (w : World) : Prop :=
  match ops[i]? with
  | none => K a w
  | some o =>
    if Region.wanted o (yielded ops a.tmps) then wpR P zq o K a w
    else K (a.put o.dst undef) w

/-- no panic of it is reckoned with -/
def tame (z : Bool) (o : Op) : Bool := !z || !panicky o

section
variable {P : Program} {zq : ZQ} {ops : Array Oper}

theorem wpR_tame {o : Oper} (hq : zq.isQuiet = false) (h : tame zq.isPan o.op = true) {K : Act → World → Prop} {a : Act} {w : World} :
    wpR P zq o K a w = opS P (semL a.eval (howOf P o.op) o.type o.op) (fun v w' => K (a.put o.dst v) w') w := by
  unfold wpR
  cases zq with
  | no => rfl
  | pan z =>
    have : panicky o.op = false := by simpa [tame, ZQ.isPan] using h
    simp only [this, Bool.false_eq_true, if_false]
  | quiet C => cases hq

theorem wpP_mono {z : Act → Value → World → Prop} {o : Oper} {a : Act} {w : World} {K K' : Act → World → Prop} (h : ∀ a w, K a w → K' a w) (hh : wpP P z o K a w) : wpP P z o K' a w := by
  unfold wpP at *
  split
  · simpa [*] using hh
  · rename_i op hop
    have hh' : opZ P (semL a.eval (howOf P o.op) o.type o.op) (fun v w' => K (a.put o.dst v) w') (z a) w := by
      split at hh
      · rename_i x hx; exact absurd hx (hop x)
      · exact hh
    exact opZ_mono hh' (fun _ _ => h _ _) fun _ _ h => h

theorem wpR_mono {o : Oper} {a : Act} {w : World} {K K' : Act → World → Prop} (h : ∀ a w, K a w → K' a w) (hh : wpR P zq o K a w) : wpR P zq o K' a w := by
  unfold wpR at *
  cases zq with
  | no => exact opS_mono hh fun _ _ => h _ _
  | pan z =>
    simp only at hh ⊢
    split
    · rename_i hp; rw [if_pos hp] at hh; exact wpP_mono h hh
    · rename_i hp; rw [if_neg hp] at hh; exact opS_mono hh fun _ _ => h _ _
  | quiet C => exact let ⟨v, h1, h2⟩ := hh; ⟨v, h1, h _ _ h2⟩

theorem wpS_mono {i : Nat} {a : Act} {w : World} {K K' : Act → World → Prop} (h : ∀ a w, K a w → K' a w)
    (hh : wpS P zq ops i K a w) : wpS P zq ops i K' a w := by
  unfold wpS at *
  split
  · rename_i ho; simp only [ho] at hh; exact h _ _ hh
  · rename_i o ho
    simp only [ho] at hh
    split
    · rename_i hw; simp only [hw, if_true] at hh; exact wpR_mono h hh
    · rename_i hw; simp only [hw] at hh; exact h _ _ hh

theorem wpS_some {i : Nat} {a : Act} {w : World} {K : Act → World → Prop} (hq : zq.isQuiet = false) (ht : ∀ o, ops[i]? = some o → tame zq.isPan o.op = true) (hh : wpS P zq ops i K a w) : ∃ a w, K a w := by
  unfold wpS at hh
  split at hh
  · exact ⟨_, _, hh⟩
  · rename_i o ho
    split at hh
    · rw [wpR_tame hq (ht o ho)] at hh
      obtain ⟨v, w', h⟩ := uponR_some hh; exact ⟨_, _, h⟩
    · exact ⟨_, _, hh⟩

/-- the fence that keeps nothing out, for a frame of a function, or of a round -/
def FW (ro : Option Nat) : Fence := { Fence.wide with round := ro }

theorem callsIn_FW {ro : Option Nat} {n : Nat} {f : FuncId} {args : Array Value} {w : World} {R : Ending → World → Prop} (h : Calls P f args w R) : CallsIn (FW ro) n P f args w R := by
  have h' : CallsIn Fence.wide n P f args w R := callsIn_wide.2 h
  exact h'

theorem roundIn_FW {ro : Option Nat} {n m : Nat} {l : Nat} {f : FuncId} {tmps : Array Value} {assign body : Code} {w : World} {R : Ending → World → Prop}
    (h : RoundIn Fence.wide m P l f tmps assign body w R) : RoundIn (FW ro) n P l f tmps assign body w R :=
  ⟨trivial, fun c cs _ => h.2 c cs (room_wide _)⟩

theorem wpR_none_sound {ro : Option Nat} {n : Nat} {Q : Exit → Act → World → Prop} {o : Oper} {K : Act → World → Prop} {a : Act} {w : World}
    (h : opS P (semL a.eval (howOf P o.op) o.type o.op) (fun v w' => K (a.put o.dst v) w') w) : o.wpIn (FW ro) n P a w K Q := by
  refine ⟨fun _ _ => trivial, ?_⟩
  have hd : ∀ c, o.op ≠ .defer c := by
    intro c hc
    rw [hc] at h
    exact h.elim
  rw [Oper.semAt_eq _ _ _ hd]
  have h2 := opS_ref (ref_semL P a.eval (fun _ => rfl) o) h
  unfold opS at h2
  generalize (execOp a.eval o).run P w = r at h2
  cases r with
  | halt x w' => exact h2.elim
  | ok n w' =>
    cases n <;> first | exact h2 | exact h2.elim | skip
    · refine ⟨fun hh => (by cases hh), ?_⟩
      exact callsIn_FW (Calls.mono h2 fun e w'' ⟨v, he, hv⟩ => by subst he; exact hv)
    · refine ⟨fun hh => (by cases hh), ?_⟩
      exact roundIn_FW (RoundIn.mono h2 fun e w'' ⟨v, he, hv⟩ => by subst he; exact hv)

/-- what a panic is to lead to -/
def ZOk (zq : ZQ) (Q : Exit → Act → World → Prop) : Prop := zq.isQuiet = false ∧ ∀ z, zq = .pan z → ∀ a v w, z a v w → Q (.panic [{ v, recovered := false }]) a w

theorem wpR_sound {ro : Option Nat} {n : Nat} {Q : Exit → Act → World → Prop} {o : Oper} {K : Act → World → Prop} {a : Act} {w : World} (hz : ZOk zq Q) (h : wpR P zq o K a w) : o.wpIn (FW ro) n P a w K Q := by
  unfold wpR at h
  cases zq with
  | no => exact wpR_none_sound h
  | quiet C => cases hz.1
  | pan z =>
    simp only at h
    split at h
    · rename_i hp
      unfold wpP at h
      split at h
      · rename_i x hop
        obtain ⟨t, v, hx, hzz⟩ := h
        refine ⟨fun _ _ => trivial, ?_⟩
        have hd : ∀ c, o.op ≠ .defer c := by intro c hc; rw [hc] at hop; cases hop
        rw [Oper.semAt_eq _ _ _ hd]
        have hr : (execOp a.eval o).run P w = .halt (.panic (a.eval x)) w := by
          unfold execOp
          rw [hop]
          simp only [hx]
          rfl
        rw [hr]
        exact hz.2 z rfl _ _ _ hzz
      · refine ⟨fun _ _ => trivial, ?_⟩
        have hd : ∀ c, o.op ≠ .defer c := by intro c hc; rw [hc] at hp; cases hp
        rw [Oper.semAt_eq _ _ _ hd]
        have h2 := opZ_ref (ref_semL P a.eval (fun _ => rfl) o) h
        unfold opZ at h2
        generalize (execOp a.eval o).run P w = r at h2
        cases r with
        | halt x w' => exact h2.elim
        | ok n w' =>
          cases n <;> first | exact h2 | exact h2.elim | skip
          · refine ⟨fun hh => (by cases hh), ?_⟩
            refine callsIn_FW (Calls.mono h2 fun e w'' hh => ?_)
            rcases hh with ⟨v, rfl, hv⟩ | ⟨v, rfl, hv⟩
            · exact hv
            · exact hz.2 z rfl _ _ _ hv
          · refine ⟨fun hh => (by cases hh), ?_⟩
            exact roundIn_FW (RoundIn.mono h2 fun e w'' ⟨v, he, hv⟩ => by subst he; exact hv)
    · exact wpR_none_sound h

theorem wpS_sound {ro : Option Nat} {n : Nat} {Q : Exit → Act → World → Prop} {i : Nat} {K : Act → World → Prop} {a : Act} {w : World} (hz : ZOk zq Q) (h : wpS P zq ops i K a w) :
    wpOpIn (FW ro) n P ops Q i K a w := by
  unfold wpS at h
  unfold wpOpIn
  split
  · rename_i ho; simp only [ho] at h; exact h
  · rename_i o ho
    simp only [ho] at h
    split
    · rename_i hw
      simp only [hw, if_true] at h
      exact wpR_sound hz h
    · rename_i hw
      simp only [hw] at h
      exact ⟨fun _ _ => trivial, h⟩

/-! ### Two operations, in either order -/

theorem opS_value {s : Sem Next} {v : Value} {w w' : World} {K : Value → World → Prop} (h : s.run P w = .ok (.value v) w') : opS P s K w = K v w' := by
  unfold opS; rw [h]; rfl

theorem opS_ok {s : Sem Next} {w : World} {K : Value → World → Prop} (h : opS P s K w) : ∃ n w', s.run P w = .ok n w' := by
  unfold opS at h
  cases hr : s.run P w with
  | halt x w' => rw [hr] at h; exact h.elim
  | ok n w' => exact ⟨n, w', rfl⟩

theorem opS_swap {s t : Sem Next} {R : Value → Value → World → Prop} {w : World}
    (hk : (WI P s ∧ VL P s) ∨ (WI P t ∧ VL P t) ∨ (RO P s ∧ VL P s ∧ RO P t ∧ VL P t))
    (h : opS P s (fun v w1 => opS P t (fun u w2 => R v u w2) w1) w) : opS P t (fun u w1 => opS P s (fun v w2 => R v u w2) w1) w := by
  rcases hk with ⟨hw, hv⟩ | ⟨hw, hv⟩ | ⟨hs, hsv, ht, htv⟩
  · obtain ⟨n, w', hr⟩ := opS_ok h
    obtain ⟨v, rfl⟩ := hv _ _ _ hr
    obtain ⟨rfl, hall⟩ := hw _ _ _ hr
    rw [opS_value hr] at h
    exact opS_mono h fun u w1 hu => by rw [opS_value (hall w1)]; exact hu
  · obtain ⟨v0, w0, h0⟩ := uponR_some h
    obtain ⟨n, w', hr⟩ := opS_ok h0
    obtain ⟨u, rfl⟩ := hv _ _ _ hr
    obtain ⟨_, hall⟩ := hw _ _ _ hr
    rw [opS_value (hall w)]
    exact opS_mono h fun v w1 hu => by rw [opS_value (hall w1)] at hu; exact hu
  · obtain ⟨n, w', hr⟩ := opS_ok h
    obtain ⟨v, rfl⟩ := hsv _ _ _ hr
    obtain rfl := hs _ _ _ hr
    rw [opS_value hr] at h
    obtain ⟨m, w'', hr2⟩ := opS_ok h
    obtain ⟨u, rfl⟩ := htv _ _ _ hr2
    obtain rfl := ht _ _ _ hr2
    rw [opS_value hr2] at h
    rw [opS_value hr2, opS_value hr]
    exact h

/-- nothing hangs on which of two comes first -/
def indep (P : Program) (z : Bool) (ops : Array Oper) (i j : Nat) : Bool :=
  match ops[i]?, ops[j]? with
  | some x, some y =>
    tame z x.op && tame z y.op && x.apart ops y &&
    (match kindOf P x.op, kindOf P y.op with
     | .calm, _ | _, .calm | .look, .look => true
     | _, _ => false)
  | _, _ => false

theorem semL_put (o : Oper) (how : How) (a : Act) (dst : Option Tmp) (v : Value) (h : ∀ d, dst = some d → d ∉ o.looksAt ops) :
    semL (a.put dst v).eval how o.type o.op = semL a.eval how o.type o.op :=
  semL_congr o.op fun x hx => Act.eval_put fun d hd hxd => h d hd (by
    subst hxd
    exact List.mem_append_left _ (List.mem_filterMap.2 ⟨.tmp d, by simpa using hx, rfl⟩))

theorem wpS_swap (hq : zq.isQuiet = false) {i j : Nat} {K : Act → World → Prop} {a : Act} {w : World} (hin : indep P zq.isPan ops i j = true)
    (h : wpS P zq ops i (wpS P zq ops j K) a w) : wpS P zq ops j (wpS P zq ops i K) a w := by
  unfold indep at hin
  split at hin
  case h_2 => cases hin
  rename_i x y hx hy
  rw [Bool.and_eq_true, Bool.and_eq_true, Bool.and_eq_true] at hin
  obtain ⟨⟨⟨htx, hty⟩, hap⟩, hk⟩ := hin
  obtain ⟨h1, h2, h3⟩ := Oper.apart_spec hap
  have hkk : ∀ ρ ρ', (WI P (semL ρ (howOf P x.op) x.type x.op) ∧ VL P (semL ρ (howOf P x.op) x.type x.op)) ∨ (WI P (semL ρ' (howOf P y.op) y.type y.op) ∧ VL P (semL ρ' (howOf P y.op) y.type y.op)) ∨
      (RO P (semL ρ (howOf P x.op) x.type x.op) ∧ VL P (semL ρ (howOf P x.op) x.type x.op) ∧ RO P (semL ρ' (howOf P y.op) y.type y.op) ∧ VL P (semL ρ' (howOf P y.op) y.type y.op)) := by
    intro ρ ρ'
    cases hkx : kindOf P x.op with
    | calm => exact .inl ⟨calm_semL hkx ρ, vl_semL (by rw [hkx]; simp) ρ⟩
    | look =>
      cases hky : kindOf P y.op with
      | calm => exact .inr (.inl ⟨calm_semL hky ρ', vl_semL (by rw [hky]; simp) ρ'⟩)
      | look => exact .inr (.inr ⟨look_semL hkx ρ, vl_semL (by rw [hkx]; simp) ρ, look_semL hky ρ', vl_semL (by rw [hky]; simp) ρ'⟩)
      | act => rw [hkx, hky] at hk; cases hk
    | act =>
      cases hky : kindOf P y.op with
      | calm => exact .inr (.inl ⟨calm_semL hky ρ', vl_semL (by rw [hky]; simp) ρ'⟩)
      | look => rw [hkx, hky] at hk; cases hk
      | act => rw [hkx, hky] at hk; cases hk
  -- the second one's value and the first one's, in either order
  have ey : ∀ (a : Act) v, semL (a.put x.dst v).eval (howOf P y.op) y.type y.op = semL a.eval (howOf P y.op) y.type y.op := fun a v => semL_put y _ a x.dst v h1
  have ex : ∀ (a : Act) v, semL (a.put y.dst v).eval (howOf P x.op) x.type x.op = semL a.eval (howOf P x.op) x.type x.op := fun a v => semL_put x _ a y.dst v h3
  have wy : ∀ (a : Act) v, Region.wanted y (yielded ops (a.put x.dst v).tmps) = Region.wanted y (yielded ops a.tmps) := fun a v => wanted_put y a x.dst v h1
  have wx : ∀ (a : Act) v, Region.wanted x (yielded ops (a.put y.dst v).tmps) = Region.wanted x (yielded ops a.tmps) := fun a v => wanted_put x a y.dst v h3
  have pc : ∀ (a : Act) v u, (a.put x.dst v).put y.dst u = (a.put y.dst u).put x.dst v := fun a v u => Act.put_comm a v u h2
  unfold wpS at h ⊢
  have rx : ∀ (K : Act → World → Prop) a w, wpR P zq x K a w = opS P (semL a.eval (howOf P x.op) x.type x.op) (fun v w' => K (a.put x.dst v) w') w := fun K a w => wpR_tame hq htx
  have ry : ∀ (K : Act → World → Prop) a w, wpR P zq y K a w = opS P (semL a.eval (howOf P y.op) y.type y.op) (fun v w' => K (a.put y.dst v) w') w := fun K a w => wpR_tame hq hty
  simp only [hx, hy, rx, ry, ey, ex, wy, wx, pc] at h ⊢
  by_cases hwx : Region.wanted x (yielded ops a.tmps) = true
  · by_cases hwy : Region.wanted y (yielded ops a.tmps) = true
    · simp only [hwx, hwy, if_true] at h ⊢
      exact opS_swap (hkk _ _) h
    · simp only [hwx, hwy, if_true] at h ⊢
      exact h
  · by_cases hwy : Region.wanted y (yielded ops a.tmps) = true
    · simp only [hwx, hwy, if_true] at h ⊢
      exact h
    · simp only [hwx, hwy] at h ⊢
      exact h

/-! ### Whatever order is picked -/

def wpAnyS (P : Program) (zq : ZQ) (ops : Array Oper) (K : Act → World → Prop) : Nat → Array Bool → Act → World → Prop
  | 0, listed, a, w => Region.ready .any ops listed = [] ∧ K a w
  | fuel + 1, listed, a, w =>
    (Region.ready .any ops listed = [] → K a w) ∧
    ∀ i ∈ Region.ready .any ops listed, wpS P zq ops i (wpAnyS P zq ops K fuel (listed.setIfInBounds i true)) a w

theorem wpAnyS_sound {ro : Option Nat} {n : Nat} {Q : Exit → Act → World → Prop} {K : Act → World → Prop} (hz : ZOk zq Q) (hK : ∀ a w, K a w → Q .normal a w) : ∀ (fuel : Nat) (listed : Array Bool) (a : Act) (w : World),
    wpAnyS P zq ops K fuel listed a w → wpAnyIn (FW ro) n P .any ops Q fuel listed a w
  | 0, _, _, _, h => ⟨h.1, hK _ _ h.2⟩
  | fuel + 1, _, _, _, h => ⟨fun h0 => hK _ _ (h.1 h0), fun i hi => wpOpIn_mono (fun a w => wpAnyS_sound hz hK fuel _ a w) (wpS_sound hz (h.2 i hi))⟩

/-- 'i' comes ahead of 'j' in every order -/
inductive Ahead (ops : Array Oper) (i : Nat) : Nat → Prop
  | one {j : Nat} {o : Oper} {e : Edge} (ho : ops[j]? = some o) (he : e ∈ o.after) (hb : Region.binds .any e = true) (h : e.on = i) : Ahead ops i j
  | more {j : Nat} {o : Oper} {e : Edge} (ho : ops[j]? = some o) (he : e ∈ o.after) (hb : Region.binds .any e = true) (h : Ahead ops i e.on) : Ahead ops i j

def maskOf (acc : List Nat) : List Edge → Nat
  | [] => 0
  | e :: r => (if Region.binds .any e then 2 ^ e.on ||| acc.getD e.on 0 else 0) ||| maskOf acc r

def masksFrom : List Oper → List Nat → List Nat
  | [], acc => acc
  | o :: r, acc => masksFrom r (acc ++ [maskOf acc o.after.toList])

/-- of each operation those that come ahead of it -/
def masks (ops : Array Oper) : List Nat := masksFrom ops.toList []

theorem maskOf_bit {ops : Array Oper} {acc : List Nat} {i j : Nat} {o : Oper} (ho : ops[j]? = some o) (hacc : ∀ k, (acc.getD k 0).testBit i = true → Ahead ops i k) :
    ∀ es : List Edge, (∀ e ∈ es, e ∈ o.after) → (maskOf acc es).testBit i = true → Ahead ops i j
  | [], _, h => by simp [maskOf] at h
  | e :: r, hes, h => by
    simp only [maskOf, Nat.testBit_or, Bool.or_eq_true] at h
    rcases h with h | h
    · split at h
      · rename_i hb
        simp only [Nat.testBit_or, Bool.or_eq_true] at h
        rcases h with h | h
        · have : e.on = i := by
            rw [Nat.testBit_two_pow] at h
            exact of_decide_eq_true h
          exact .one ho (hes e (by simp)) hb this
        · exact .more ho (hes e (by simp)) hb (hacc _ h)
      · simp at h
    · exact maskOf_bit ho hacc r (fun e he => hes e (by simp [he])) h

theorem masksFrom_bit {ops : Array Oper} {i : Nat} : ∀ (l : List Oper) (acc : List Nat), (∀ k, l[k]? = ops[acc.length + k]?) → (∀ k, (acc.getD k 0).testBit i = true → Ahead ops i k) →
    ∀ k, ((masksFrom l acc).getD k 0).testBit i = true → Ahead ops i k
  | [], acc, _, h => h
  | o :: r, acc, hl, h => by
    refine masksFrom_bit r _ (fun k => ?_) ?_
    · have := hl (k + 1)
      simp only [List.getElem?_cons_succ] at this
      rw [this, List.length_append, List.length_singleton]; congr 1; omega
    · intro k hk
      have ho : ops[acc.length]? = some o := by have := hl 0; simpa using this.symm
      rw [List.getD_eq_getElem?_getD, List.getElem?_append] at hk
      split at hk
      · exact h k (by rw [List.getD_eq_getElem?_getD]; exact hk)
      · rename_i hge
        by_cases he : k = acc.length
        · subst he
          simp only [Nat.sub_self, List.getElem?_cons_zero, Option.getD_some] at hk
          exact maskOf_bit ho h _ (fun e he => by simpa using he) hk
        · have : [maskOf acc o.after.toList][k - acc.length]? = none := by
            rw [List.getElem?_eq_none_iff]; simp; omega
          rw [this] at hk; simp at hk

theorem masks_bit {ops : Array Oper} {i k : Nat} (h : ((masks ops).getD k 0).testBit i = true) : Ahead ops i k :=
  masksFrom_bit ops.toList [] (fun k => by simp) (fun k h => by simp at h) k h

def Closed (ops : Array Oper) (listed : Array Bool) : Prop :=
  ∀ j o, ops[j]? = some o → listed.getD j false = true → ∀ e ∈ o.after, Region.binds .any e = true → listed.getD e.on false = true

theorem mem_ready {listed : Array Bool} {i : Nat} (h : i ∈ Region.ready .any ops listed) :
    i < ops.size ∧ listed.getD i true = false ∧ ∃ o, ops[i]? = some o ∧ ∀ e ∈ o.after, Region.binds .any e = true → listed.getD e.on false = true := by
  unfold Region.ready at h
  rw [List.mem_filter] at h
  obtain ⟨hr, h⟩ := h
  rw [Bool.and_eq_true] at h
  obtain ⟨h1, h2⟩ := h
  refine ⟨by simpa using hr, by simpa using h1, ?_⟩
  cases ho : ops[i]? with
  | none => rw [ho] at h2; simp at h2
  | some o =>
    rw [ho] at h2
    refine ⟨o, rfl, fun e he hb => ?_⟩
    simp only [Option.map_some, Option.getD_some, Array.all_eq_true_iff_forall_mem] at h2
    have := h2 e he
    simpa [hb] using this

theorem ready_of {listed : Array Bool} {i : Nat} {o : Oper} (hi : i < ops.size) (hl : listed.getD i true = false) (ho : ops[i]? = some o)
    (h : ∀ e ∈ o.after, Region.binds .any e = true → listed.getD e.on false = true) : i ∈ Region.ready .any ops listed := by
  unfold Region.ready
  rw [List.mem_filter]
  refine ⟨by simpa using hi, ?_⟩
  rw [Bool.and_eq_true]
  refine ⟨by simpa using hl, ?_⟩
  simp only [ho, Option.map_some, Option.getD_some, Array.all_eq_true_iff_forall_mem]
  intro e he
  cases hb : Region.binds .any e
  · rfl
  · simpa [hb] using h e he hb

theorem getD_set {listed : Array Bool} {i j : Nat} (h : listed.getD i false = true) : (listed.setIfInBounds j true).getD i false = true := by
  simp only [Array.getD_eq_getD_getElem?, Array.getElem?_setIfInBounds] at h ⊢
  split
  · rename_i e
    subst e
    split
    · rfl
    · rename_i hlt
      have : listed[j]? = none := Array.getElem?_eq_none (by omega)
      rw [this] at h; cases h
  · exact h

theorem getD_set_ne {listed : Array Bool} {i j : Nat} {b : Bool} (h : j ≠ i) : (listed.setIfInBounds j true).getD i b = listed.getD i b := by
  simp only [Array.getD_eq_getD_getElem?, Array.getElem?_setIfInBounds_ne h]

theorem Closed.set {listed : Array Bool} {j : Nat} (h : Closed ops listed) (hj : j ∈ Region.ready .any ops listed) : Closed ops (listed.setIfInBounds j true) := by
  intro k o ho hk e he hb
  by_cases hjk : j = k
  · subst hjk
    obtain ⟨_, _, o', ho', hall⟩ := mem_ready hj
    rw [ho] at ho'; cases ho'
    exact getD_set (hall e he hb)
  · rw [getD_set_ne hjk] at hk
    exact getD_set (h k o ho hk e he hb)

theorem ahead_listed {listed : Array Bool} (hc : Closed ops listed) {i j : Nat} (h : Ahead ops i j) :
    (∀ o, ops[j]? = some o → ∀ e ∈ o.after, Region.binds .any e = true → listed.getD e.on false = true) → listed.getD i false = true := by
  induction h with
  | one ho he hb h => intro hl; rw [← h]; exact hl _ ho _ he hb
  | more ho he hb _ ih => intro hl; exact ih fun o' ho' e' he' hb' => hc _ o' ho' (hl _ ho _ he hb) e' he' hb'

/-- it may be taken first: whatever else could come ahead of it would be as well behind it -/
def free (P : Program) (z : Bool) (ops : Array Oper) (ms : List Nat) (listed : Array Bool) (i : Nat) : Bool :=
  (List.range ops.size).all fun j => j == i || listed.getD j true || (ms.getD j 0).testBit i || indep P z ops i j

theorem ready_set {listed : Array Bool} {i j : Nat} (hij : i ≠ j) (hj : j ∈ Region.ready .any ops listed) : j ∈ Region.ready .any ops (listed.setIfInBounds i true) := by
  obtain ⟨h1, h2, o, ho, h3⟩ := mem_ready hj
  exact ready_of h1 (by rw [getD_set_ne hij]; exact h2) ho fun e he hb => getD_set (h3 e he hb)

theorem indep_of {z : Bool} {listed : Array Bool} {i j : Nat} (hc : Closed ops listed) (hi : i ∈ Region.ready .any ops listed) (hj : j ∈ Region.ready .any ops listed) (hij : i ≠ j) (hf : free P z ops (masks ops) listed i = true) : indep P z ops i j = true := by
  obtain ⟨hjs, hjl, o, ho, hall⟩ := mem_ready hj
  have hf' := hf
  unfold free at hf'
  rw [List.all_eq_true] at hf'
  have := hf' j (by simpa using hjs)
  simp only [Bool.or_eq_true, beq_iff_eq] at this
  rcases this with ((h | h) | h) | h
  case inr => exact h
  · exact absurd h.symm hij
  · rw [hjl] at h; cases h
  · have hl := ahead_listed hc (masks_bit h) (fun o' ho' => by rw [ho] at ho'; cases ho'; exact hall)
    obtain ⟨_, hil, _⟩ := mem_ready hi
    rw [Array.getD_eq_getD_getElem?] at hl hil
    cases hq : listed[i]? with
    | none => rw [hq] at hl; cases hl
    | some b => rw [hq] at hl hil; simp at hl hil; rw [hl] at hil; cases hil

theorem take_first (hq : zq.isQuiet = false) {K : Act → World → Prop} : ∀ (fuel : Nat) (listed : Array Bool) (i : Nat) (a : Act) (w : World), Closed ops listed → i ∈ Region.ready .any ops listed → free P zq.isPan ops (masks ops) listed i = true →
    wpS P zq ops i (wpAnyS P zq ops K fuel (listed.setIfInBounds i true)) a w → wpAnyS P zq ops K (fuel + 1) listed a w := by
  intro fuel
  induction fuel with
  | zero =>
    intro listed i a w hc hi hf h
    refine ⟨fun h0 => (by rw [h0] at hi; cases hi), fun j hj => ?_⟩
    by_cases hij : i = j
    · subst hij; exact h
    · have hin : indep P zq.isPan ops i j = true := indep_of hc hi hj hij hf
      have ht : ∀ o, ops[i]? = some o → tame zq.isPan o.op = true := by
        intro o ho
        unfold indep at hin
        rw [ho] at hin
        split at hin
        · rename_i x y hx hy
          cases hx
          rw [Bool.and_eq_true, Bool.and_eq_true, Bool.and_eq_true] at hin
          exact hin.1.1.1
        · cases hin
      obtain ⟨a', w', h', _⟩ := wpS_some hq ht h
      have := ready_set hij hj
      rw [h'] at this; cases this
  | succ fuel ih =>
    intro listed i a w hc hi hf h
    refine ⟨fun h0 => (by rw [h0] at hi; cases hi), fun j hj => ?_⟩
    by_cases hij : i = j
    · subst hij; exact h
    · have hj' := ready_set hij hj
      have h2 : wpS P zq ops i (wpS P zq ops j (wpAnyS P zq ops K fuel ((listed.setIfInBounds i true).setIfInBounds j true))) a w := wpS_mono (fun a w hh => hh.2 j hj') h
      have hin : indep P zq.isPan ops i j = true := indep_of hc hi hj hij hf
      have h3 := wpS_swap hq hin h2
      refine wpS_mono (fun a w hh => ?_) h3
      refine ih (listed.setIfInBounds j true) i a w (hc.set hj) (ready_set (fun e => hij e.symm) hi) ?_ ?_
      · unfold free at hf ⊢
        rw [List.all_eq_true] at hf ⊢
        intro k hk
        have := hf k hk
        by_cases hjk : j = k
        · subst hjk
          have hlt : j < listed.size ∨ listed.size ≤ j := by omega
          simp only [Bool.or_eq_true]
          rcases hlt with hlt | hlt
          · exact .inl (.inl (.inr (by simp [Array.getD_eq_getD_getElem?, hlt])))
          · exact .inl (.inl (.inr (by simp [Array.getD_eq_getD_getElem?, hlt])))
        · rw [getD_set_ne hjk]; exact this
      · rw [Array.setIfInBounds_comm _ _ (fun e => hij e.symm)]; exact hh

/-! ### Quiet regions: any order is alike -/

def dstOf (ops : Array Oper) (j : Nat) : Option Tmp := (ops[j]?).bind (·.dst)

/-- each slot is written once; what is looked at was written by an operation that comes ahead in every order -/
def quietOk (ops : Array Oper) (ms : List Nat) : Bool :=
  ((List.range ops.size).all fun i => match ops[i]? with | some o => o.after.all fun e => !(Region.binds .any e) || decide (e.on < i) | none => true) &&
  (List.range ops.size).all fun i => (List.range ops.size).all fun j =>
    match ops[i]?, dstOf ops j with
    | some o, some d => (i == j || dstOf ops i != some d) && (!(o.looksAt ops).contains d || (decide (j < i) && (ms.getD i 0).testBit j))
    | _, _ => true

theorem quietOk_dst (h : quietOk ops (masks ops) = true) {i j : Nat} {d : Tmp} (hi : dstOf ops i = some d) (hj : dstOf ops j = some d) : i = j := by
  unfold quietOk at h
  rw [Bool.and_eq_true] at h
  replace h := h.2
  rw [List.all_eq_true] at h
  have lt : ∀ {k}, dstOf ops k = some d → k < ops.size := fun {k} hk => by
    unfold dstOf at hk
    cases ho : ops[k]? with
    | none => rw [ho] at hk; cases hk
    | some o => exact (Array.getElem?_eq_some_iff.1 ho).1
  have h1 := h i (by simpa using lt hi)
  rw [List.all_eq_true] at h1
  have h2 := h1 j (by simpa using lt hj)
  have hii := lt hi
  rw [Array.getElem?_eq_getElem hii, hj] at h2
  simp only [Bool.and_eq_true, Bool.or_eq_true, beq_iff_eq, bne_iff_ne] at h2
  rcases h2.1 with h3 | h3
  · exact h3
  · exact absurd hi h3

theorem quietOk_after (h : quietOk ops (masks ops) = true) {i : Nat} (hi : i < ops.size) : (ops[i].after.all fun e => !(Region.binds .any e) || decide (e.on < i)) = true := by
  unfold quietOk at h
  rw [Bool.and_eq_true] at h
  replace h := h.1
  rw [List.all_eq_true] at h
  have := h i (by simpa using hi)
  rw [Array.getElem?_eq_getElem hi] at this
  exact this

theorem quietOk_look (h : quietOk ops (masks ops) = true) {i j : Nat} {o : Oper} {d : Tmp} (hi : ops[i]? = some o) (hj : dstOf ops j = some d) (hd : d ∈ o.looksAt ops) : j < i ∧ Ahead ops j i := by
  unfold quietOk at h
  rw [Bool.and_eq_true] at h
  replace h := h.2
  rw [List.all_eq_true] at h
  have h1 := h i (by simpa using (Array.getElem?_eq_some_iff.1 hi).1)
  rw [List.all_eq_true] at h1
  have hjl : j < ops.size := by
    unfold dstOf at hj
    cases ho : ops[j]? with
    | none => rw [ho] at hj; cases hj
    | some o => exact (Array.getElem?_eq_some_iff.1 ho).1
  have h2 := h1 j (by simpa using hjl)
  rw [hi, hj] at h2
  simp only [Bool.and_eq_true, Bool.or_eq_true, Bool.not_eq_true', decide_eq_true_eq] at h2
  rcases h2.2 with h3 | h3
  · have : (o.looksAt ops).contains d = true := by simpa using hd
    rw [this] at h3; cases h3
  · exact ⟨h3.1, masks_bit h3.2⟩

/-- what the operations tell: the value of each, one behind the other -/
def tellsV (P : Program) (C : World → Prop) (ops : Array Oper) (a : Act) : List Nat → (Nat → Value) → Prop
  | [], _ => True
  | i :: r, vs => match ops[i]? with
    | none => tellsV P C ops a r vs
    | some o =>
      (if Region.wanted o (yielded ops a.tmps) then ∀ w, C w → opS P (semL a.eval (howOf P o.op) o.type o.op) (fun u w' => u = vs i ∧ C w') w else vs i = undef) ∧ tellsV P C ops (a.put o.dst (vs i)) r vs

def putsV (ops : Array Oper) (vs : Nat → Value) : List Nat → Act → Act
  | [], a => a
  | i :: r, a => match ops[i]? with
    | none => putsV ops vs r a
    | some o => putsV ops vs r (a.put o.dst (vs i))

theorem tellsV_congr {C : World → Prop} {vs us : Nat → Value} : ∀ (l : List Nat) (a : Act), (∀ i ∈ l, vs i = us i) → tellsV P C ops a l vs → tellsV P C ops a l us
  | [], _, _, _ => trivial
  | i :: r, a, h, ht => by
    unfold tellsV at ht ⊢
    have hi := h i (by simp)
    have hr : ∀ j ∈ r, vs j = us j := fun j hj => h j (by simp [hj])
    split
    · rename_i ho; simp only [ho] at ht; exact tellsV_congr r a hr ht
    · rename_i o ho
      simp only [ho] at ht
      rw [← hi]
      exact ⟨ht.1, tellsV_congr r _ hr ht.2⟩
theorem putsV_congr {vs us : Nat → Value} : ∀ (l : List Nat) (a : Act), (∀ i ∈ l, vs i = us i) → putsV ops vs l a = putsV ops us l a
  | [], _, _ => rfl
  | i :: r, a, h => by
    unfold putsV
    have hi := h i (by simp)
    have hr : ∀ j ∈ r, vs j = us j := fun j hj => h j (by simp [hj])
    split
    · exact putsV_congr r a hr
    · rw [hi]; exact putsV_congr r _ hr

/-- one after the other, each quiet -/
def wpQL (P : Program) (C : World → Prop) (ops : Array Oper) (K : Act → World → Prop) : List Nat → Act → World → Prop
  | [], a, w => K a w
  | i :: r, a, w => wpS P (.quiet C) ops i (wpQL P C ops K r) a w

theorem wpQL_tells {C : World → Prop} {K : Act → World → Prop} : ∀ (l : List Nat) (a : Act) (w : World), l.Nodup → wpQL P C ops K l a w → ∃ vs, tellsV P C ops a l vs ∧ K (putsV ops vs l a) w
  | [], a, w, _, h => ⟨fun _ => undef, trivial, h⟩
  | i :: r, a, w, hn, h => by
    rw [List.nodup_cons] at hn
    unfold wpQL wpS at h
    split at h
    · rename_i ho
      obtain ⟨vs, h1, h2⟩ := wpQL_tells r a w hn.2 h
      exact ⟨vs, by unfold tellsV; simp only [ho]; exact h1, by unfold putsV; simp only [ho]; exact h2⟩
    · rename_i o ho
      have key : ∀ v, (if Region.wanted o (yielded ops a.tmps) = true then ∀ w, C w → opS P (semL a.eval (howOf P o.op) o.type o.op) (fun u w' => u = v ∧ C w') w else v = undef) → wpQL P C ops K r (a.put o.dst v) w →
          ∃ vs, tellsV P C ops a (i :: r) vs ∧ K (putsV ops vs (i :: r) a) w := by
        intro v hv hr
        obtain ⟨vs, h1, h2⟩ := wpQL_tells r _ w hn.2 hr
        let us : Nat → Value := fun j => if j = i then v else vs j
        have hu : us i = v := if_pos rfl
        have hne : ∀ j ∈ r, vs j = us j := fun j hj => (if_neg (fun e : j = i => hn.1 (by rw [← e]; exact hj))).symm
        refine ⟨us, ?_, ?_⟩
        · unfold tellsV
          simp only [ho, hu]
          exact ⟨hv, tellsV_congr r _ hne h1⟩
        · unfold putsV
          simp only [ho, hu]
          rw [← putsV_congr r _ hne]; exact h2
      split at h
      · rename_i hw
        obtain ⟨v, hv, hr⟩ := h
        exact key v (by rw [if_pos hw]; exact hv) hr
      · rename_i hw
        exact key undef (by rw [if_neg hw]) h

theorem wanted_same (o : Oper) (a b : Act) (h : ∀ d, d ∈ o.looksAt ops → a.tmps[d]? = b.tmps[d]?) : Region.wanted o (yielded ops a.tmps) = Region.wanted o (yielded ops b.tmps) := by
  unfold Region.wanted
  cases hg : o.guard with
  | none => rfl
  | some gw =>
    obtain ⟨g, want⟩ := gw
    have hy : yielded ops a.tmps g = yielded ops b.tmps g := by
      unfold yielded
      cases ht : (ops[g]?).bind (·.dst) with
      | none => rfl
      | some t =>
        have := h t (by simp [Oper.looksAt, hg, ht])
        simp only [Option.bind_some, this]
    simp only [hy]
theorem semL_same (o : Oper) (how : How) (a b : Act) (h : ∀ d, d ∈ o.looksAt ops → a.tmps[d]? = b.tmps[d]?) : semL a.eval how o.type o.op = semL b.eval how o.type o.op :=
  semL_congr o.op fun x hx => by
    cases x with
    | tmp t =>
      have := h t (List.mem_append_left _ (List.mem_filterMap.2 ⟨.tmp t, by simpa using hx, rfl⟩))
      simp only [Act.eval, Array.getD_eq_getD_getElem?, this]
    | _ => rfl

theorem put_defers (a : Act) (d : Option Tmp) (v : Value) : (a.put d v).defers = a.defers := by unfold Act.put; split <;> rfl
theorem put_size (a : Act) (d : Option Tmp) (v : Value) : (a.put d v).tmps.size = a.tmps.size := by unfold Act.put; split <;> simp
theorem put_get (a : Act) (d : Option Tmp) (v : Value) (s : Tmp) : (a.put d v).tmps[s]? = if d = some s then (a.tmps[s]?).map (fun _ => v) else a.tmps[s]? := by
  unfold Act.put
  cases d with
  | none => simp
  | some d =>
    simp only [Array.getElem?_setIfInBounds, Option.some.injEq]
    split
    · rename_i e
      subst e
      split
      · rename_i hl; rw [Array.getElem?_eq_getElem hl]; rfl
      · rename_i hl; rw [Array.getElem?_eq_none (by omega)]; rfl
    · rfl

/-- the frame where some of them are done -/
structure Done (ops : Array Oper) (vs : Nat → Value) (a : Act) (S : Nat → Prop) (b : Act) : Prop where
  size : b.tmps.size = a.tmps.size
  df : b.defers = a.defers
  in_ : ∀ j d, S j → dstOf ops j = some d → b.tmps[d]? = (a.tmps[d]?).map fun _ => vs j
  out : ∀ d, (∀ j, S j → dstOf ops j ≠ some d) → b.tmps[d]? = a.tmps[d]?

theorem Done.refl (vs : Nat → Value) (a : Act) : Done ops vs a (fun _ => False) a := ⟨rfl, rfl, fun _ _ h => h.elim, fun _ _ => rfl⟩
theorem Done.put {vs : Nat → Value} {a b : Act} {S : Nat → Prop} (hd : ∀ {i j d}, dstOf ops i = some d → dstOf ops j = some d → i = j) (h : Done ops vs a S b) {i : Nat} {o : Oper} (ho : ops[i]? = some o) : Done ops vs a (fun j => S j ∨ j = i) (b.put o.dst (vs i)) := by
  have hdi : dstOf ops i = o.dst := by unfold dstOf; rw [ho]; rfl
  refine ⟨(put_size _ _ _).trans h.size, (put_defers _ _ _).trans h.df, fun j d hj hjd => ?_, fun d hn => ?_⟩
  · rw [put_get]
    by_cases e : o.dst = some d
    · rw [if_pos e]
      obtain rfl : i = j := hd (hdi.trans e) hjd
      have h1 : (b.tmps[d]?).isSome = (a.tmps[d]?).isSome := by
        rw [Bool.eq_iff_iff, Option.isSome_iff_exists, Option.isSome_iff_exists]
        constructor
        · rintro ⟨x, hx⟩; exact ⟨_, Array.getElem?_eq_getElem (by have := (Array.getElem?_eq_some_iff.1 hx).1; rw [h.size] at this; exact this)⟩
        · rintro ⟨x, hx⟩; exact ⟨_, Array.getElem?_eq_getElem (by have := (Array.getElem?_eq_some_iff.1 hx).1; rw [← h.size] at this; exact this)⟩
      cases hb : b.tmps[d]? <;> cases ha : a.tmps[d]? <;> rw [hb, ha] at h1 <;> first | rfl | cases h1
    · rw [if_neg e]
      rcases hj with hj | rfl
      · exact h.in_ j d hj hjd
      · exact absurd (hdi.symm.trans hjd) e
  · rw [put_get, if_neg (by intro e; exact hn i (.inr rfl) (hdi.trans e))]
    exact h.out d fun j hj => hn j (.inl hj)

theorem Done.same {vs : Nat → Value} {a b c : Act} {S T : Nat → Prop} (hb : Done ops vs a S b) (hc : Done ops vs a T c) {d : Tmp} (h : ∀ j, dstOf ops j = some d → S j ∧ T j) : b.tmps[d]? = c.tmps[d]? := by
  by_cases e : ∃ j, dstOf ops j = some d
  · obtain ⟨j, hj⟩ := e
    rw [hb.in_ j d (h j hj).1 hj, hc.in_ j d (h j hj).2 hj]
  · rw [hb.out d fun j _ hj => e ⟨j, hj⟩, hc.out d fun j _ hj => e ⟨j, hj⟩]

theorem Done.eq {vs : Nat → Value} {a b c : Act} {S T : Nat → Prop} (hb : Done ops vs a S b) (hc : Done ops vs a T c) (h : ∀ j, j < ops.size → S j ∧ T j) : b = c := by
  have h1 : b.tmps = c.tmps := by
    refine Array.ext_getElem? fun d => hb.same hc fun j hj => h j ?_
    unfold dstOf at hj
    cases ho : ops[j]? with
    | none => rw [ho] at hj; cases hj
    | some o => exact (Array.getElem?_eq_some_iff.1 ho).1
  have h2 : b.defers = c.defers := hb.df.trans hc.df.symm
  cases b; cases c
  simp only at h1 h2
  rw [h1, h2]

theorem range_succ_split (n : Nat) : List.range n = List.range' 0 n := List.range_eq_range'

theorem putsV_done {vs : Nat → Value} (hd : ∀ {i j d}, dstOf ops i = some d → dstOf ops j = some d → i = j) : ∀ (l : List Nat) (a b : Act) (S : Nat → Prop), Done ops vs a S b → ∃ T, Done ops vs a T (putsV ops vs l b) ∧ (∀ j, S j → T j) ∧ ∀ j ∈ l, j < ops.size → T j
  | [], a, b, S, h => ⟨S, h, fun _ h => h, fun _ h => (by cases h)⟩
  | i :: r, a, b, S, h => by
    unfold putsV
    split
    · rename_i ho
      obtain ⟨T, h1, h2, h3⟩ := putsV_done hd r a b S h
      refine ⟨T, h1, h2, fun j hj hl => ?_⟩
      rcases List.mem_cons.1 hj with rfl | hj
      · rw [Array.getElem?_eq_getElem hl] at ho; cases ho
      · exact h3 j hj hl
    · rename_i o ho
      obtain ⟨T, h1, h2, h3⟩ := putsV_done hd r a _ _ (h.put hd ho)
      refine ⟨T, h1, fun j hj => h2 j (.inl hj), fun j hj hl => ?_⟩
      rcases List.mem_cons.1 hj with rfl | hj
      · exact h2 _ (.inr rfl)
      · exact h3 j hj hl

/-- what is told of one operation holds of any frame that is alike where it looks -/
theorem tells_at {C : World → Prop} {vs : Nat → Value} (hd : ∀ {i j d}, dstOf ops i = some d → dstOf ops j = some d → i = j) : ∀ (n k : Nat) (a b : Act), Done ops vs a (fun j => j < k) b → tellsV P C ops b (List.range' k n) vs → ∀ i, k ≤ i → i < k + n → ∀ o, ops[i]? = some o →
    ∃ c, Done ops vs a (fun j => j < i) c ∧ (if Region.wanted o (yielded ops c.tmps) = true then ∀ w, C w → opS P (semL c.eval (howOf P o.op) o.type o.op) (fun u w' => u = vs i ∧ C w') w else vs i = undef)
  | 0, k, a, b, _, _, i, h1, h2, _, _ => by omega
  | n + 1, k, a, b, hb, ht, i, h1, h2, o, ho => by
    rw [List.range'_succ] at ht
    unfold tellsV at ht
    have step : ∀ o', ops[k]? = some o' → Done ops vs a (fun j => j < k + 1) (b.put o'.dst (vs k)) := fun o' ho' => by
      have := hb.put hd ho'
      have e : (fun j => j < k ∨ j = k) = fun j => j < k + 1 := by funext j; exact propext (by omega)
      rw [e] at this; exact this
    by_cases e : k = i
    · subst e
      simp only [ho] at ht
      exact ⟨b, hb, ht.1⟩
    · cases ho' : ops[k]? with
      | none =>
        have := (Array.getElem?_eq_some_iff.1 ho).1
        rw [Array.getElem?_eq_none_iff] at ho'
        omega
      | some o' =>
        simp only [ho'] at ht
        exact tells_at hd n (k + 1) a _ (step o' ho') ht.2 i (by omega) (by omega) o ho

/-- does it come behind all that are told ahead of it? -/
def fullAt (ms : List Nat) (i : Nat) : Bool := (List.range i).all fun j => (ms.getD i 0).testBit j
/-- from where on all come in their own order -/
def cutOf (ms : List Nat) : Nat → Nat
  | 0 => 0
  | i + 1 => if fullAt ms i then cutOf ms i else i + 1

theorem cutOf_le (ms : List Nat) : ∀ n, cutOf ms n ≤ n
  | 0 => Nat.le_refl _
  | i + 1 => by
    unfold cutOf
    split
    · exact Nat.le_succ_of_le (cutOf_le ms i)
    · exact Nat.le_refl _
theorem cutOf_full (ms : List Nat) : ∀ n i, cutOf ms n ≤ i → i < n → fullAt ms i = true
  | 0, i, _, h => by omega
  | n + 1, i, h1, h2 => by
    unfold cutOf at h1
    split at h1
    · rename_i hf
      by_cases e : i = n
      · subst e; exact hf
      · exact cutOf_full ms n i h1 (by omega)
    · omega
theorem cutOf_ahead {n i j : Nat} (h1 : cutOf (masks ops) n ≤ i) (h2 : i < n) (h3 : j < i) : Ahead ops j i := by
  have := cutOf_full _ n i h1 h2
  unfold fullAt at this
  rw [List.all_eq_true] at this
  exact masks_bit (this j (by simpa using h3))

/-- one after the other -/
def wpNL (P : Program) (ops : Array Oper) (K : Act → World → Prop) : List Nat → Act → World → Prop
  | [], a, w => K a w
  | i :: r, a, w => wpS P .no ops i (wpNL P ops K r) a w

theorem getD_tf {listed : Array Bool} {i : Nat} (hs : listed.size = ops.size) (hi : i < ops.size) : listed.getD i true = listed.getD i false := by
  simp [Array.getD_eq_getD_getElem?, show i < listed.size by omega]

/-- what comes in its own order -/
theorem chain_any {K : Act → World → Prop} {k : Nat} (hok : quietOk ops (masks ops) = true) (hk : ∀ i, k ≤ i → i < ops.size → ∀ j, j < i → Ahead ops j i) : ∀ (d m : Nat) (listed : Array Bool) (b : Act) (w : World), m + d = ops.size → k ≤ m → listed.size = ops.size → Closed ops listed →
    (∀ j, j < ops.size → listed.getD j false = decide (j < m)) → wpNL P ops K (List.range' m d) b w → wpAnyS P .no ops K d listed b w
  | 0, m, listed, b, w, hm, hkm, hs, hc, hl, h => by
    refine ⟨?_, h⟩
    cases hr : Region.ready .any ops listed with
    | nil => rfl
    | cons i r =>
      have hi : i ∈ Region.ready .any ops listed := by rw [hr]; simp
      obtain ⟨h1, h2, _⟩ := mem_ready hi
      rw [getD_tf hs h1, hl i h1] at h2
      have : ¬ i < m := by simpa using h2
      omega
  | d + 1, m, listed, b, w, hm, hkm, hs, hc, hl, h => by
    have hmn : m < ops.size := by omega
    refine ⟨fun h0 => ?_, fun i hi => ?_⟩
    · have hmem : m ∈ Region.ready .any ops listed := ready_of hmn (by rw [getD_tf hs hmn, hl m hmn]; simp) (Array.getElem?_eq_getElem hmn) fun e he hbd => by
        have hb2 := quietOk_after hok hmn
        rw [Array.all_eq_true_iff_forall_mem] at hb2
        have := hb2 e he
        rw [hbd] at this
        have hlt : e.on < m := by simpa using this
        rw [hl e.on (by omega)]; simpa using hlt
      rw [h0] at hmem; cases hmem
    · obtain ⟨h1, h2, o, ho, hall⟩ := mem_ready hi
      rw [getD_tf hs h1, hl i h1] at h2
      have hmi : m ≤ i := by have : ¬ i < m := by simpa using h2
                             omega
      have him : i = m := by
        rcases Nat.lt_or_ge m i with hlt | hge
        · have := ahead_listed hc (hk i (by omega) h1 m hlt) (fun o' ho' => by rw [ho] at ho'; cases ho'; exact hall)
          rw [hl m hmn] at this
          simp at this
        · omega
      subst him
      rw [List.range'_succ] at h
      refine wpS_mono (fun a' w' h' => ?_) h
      refine chain_any hok hk d (i + 1) _ a' w' (by omega) (by omega) (by simpa using hs) (hc.set hi) (fun j hj => ?_) h'
      by_cases e : i = j
      · subst e
        have : i < i + 1 := by omega
        simp [Array.getD_eq_getD_getElem?, show i < listed.size by omega]
      · rw [getD_set_ne e, hl j hj]
        congr 1
        exact propext (by omega)

theorem quiet_any {C : World → Prop} {K : Act → World → Prop} {k : Nat} (hkn : k ≤ ops.size) (hk : ∀ i, k ≤ i → i < ops.size → ∀ j, j < i → Ahead ops j i) (hok : quietOk ops (masks ops) = true) {vs : Nat → Value} {a : Act} (ht : tellsV P C ops a (List.range' 0 k) vs) (hK : ∀ w, C w → wpNL P ops K (List.range' k (ops.size - k)) (putsV ops vs (List.range' 0 k) a) w) :
    ∀ (fuel : Nat) (listed : Array Bool) (b : Act) (w : World), listed.size = ops.size → fuel = (List.range ops.size).countP (fun i => !listed.getD i true) → Closed ops listed → (∀ i, k ≤ i → listed.getD i false = false) → Done ops vs a (fun j => listed.getD j false = true) b → C w → wpAnyS P .no ops K fuel listed b w := by
  have hd : ∀ {i j d}, dstOf ops i = some d → dstOf ops j = some d → i = j := fun hi hj => quietOk_dst hok hi hj
  have getD_eq : ∀ (listed : Array Bool) i, listed.size = ops.size → i < ops.size → listed.getD i true = listed.getD i false := fun listed i hs hi => getD_tf hs hi
  -- the frame where just those ahead of the cut are done
  have putsK : ∃ T : Nat → Prop, Done ops vs a T (putsV ops vs (List.range' 0 k) a) ∧ ∀ j, j < ops.size → (T j ↔ j < k) := by
    have gen : ∀ (d m : Nat) (b : Act), m + d ≤ ops.size → Done ops vs a (fun j => j < m) b → Done ops vs a (fun j => j < m + d) (putsV ops vs (List.range' m d) b) := by
      intro d
      induction d with
      | zero => intro m b _ h; exact h
      | succ d ihd =>
        intro m b hmd h
        rw [List.range'_succ]
        unfold putsV
        have ho : ops[m]? = some ops[m] := Array.getElem?_eq_getElem (by omega)
        simp only [ho]
        have h1 := h.put hd ho
        have e : (fun j => j < m ∨ j = m) = fun j => j < m + 1 := by funext j; exact propext (by omega)
        rw [e] at h1
        have := ihd (m + 1) _ (by omega) h1
        have e2 : (fun j => j < m + 1 + d) = fun j => j < m + (d + 1) := by funext j; exact propext (by omega)
        rw [e2] at this; exact this
    have := gen k 0 a (by omega) ⟨rfl, rfl, fun j d hj => by omega, fun _ _ => rfl⟩
    rw [Nat.zero_add] at this
    exact ⟨_, this, fun j _ => Iff.rfl⟩
  obtain ⟨T, hT, hTk⟩ := putsK
  have done : ∀ (fuel : Nat) (listed : Array Bool) (b : Act) (w : World), listed.size = ops.size → fuel = (List.range ops.size).countP (fun i => !listed.getD i true) → Closed ops listed → (∀ i, k ≤ i → listed.getD i false = false) → Done ops vs a (fun j => listed.getD j false = true) b → C w → (∀ j, j < k → listed.getD j false = true) → wpAnyS P .no ops K fuel listed b w := by
    intro fuel listed b w hs hf hc hlate hb hC hall
    have hl : ∀ j, j < ops.size → listed.getD j false = decide (j < k) := fun j hj => by
      by_cases e : j < k
      · rw [hall j e, decide_eq_true e]
      · rw [hlate j (by omega), decide_eq_false e]
    have hbe : b = putsV ops vs (List.range' 0 k) a := by
      have h1 : b.tmps = (putsV ops vs (List.range' 0 k) a).tmps := by
        refine Array.ext_getElem? fun d => ?_
        by_cases e : ∃ j, dstOf ops j = some d ∧ j < k
        · obtain ⟨j, hj, hjk⟩ := e
          rw [hb.in_ j d (hall j hjk) hj, hT.in_ j d ((hTk j (by omega)).2 hjk) hj]
        · have lt : ∀ {j}, dstOf ops j = some d → j < ops.size := fun {j} hj => by
            unfold dstOf at hj
            cases ho : ops[j]? with
            | none => rw [ho] at hj; cases hj
            | some o => exact (Array.getElem?_eq_some_iff.1 ho).1
          rw [hb.out d fun j hj hjd => e ⟨j, hjd, by have := hl j (lt hjd); rw [hj] at this; simpa using this⟩, hT.out d fun j hj hjd => e ⟨j, hjd, (hTk j (lt hjd)).1 hj⟩]
      have h2 : b.defers = (putsV ops vs (List.range' 0 k) a).defers := hb.df.trans hT.df.symm
      generalize putsV ops vs (List.range' 0 k) a = c at h1 h2
      cases b; cases c
      simp only at h1 h2
      rw [h1, h2]
    have hcount : fuel = ops.size - k := by
      rw [hf]
      have e1 : (List.range ops.size).countP (fun i => !listed.getD i true) = (List.range ops.size).countP (fun i => decide (k ≤ i)) := by
        refine List.countP_congr fun i hi => ?_
        rw [getD_eq listed i hs (by simpa using hi), hl i (by simpa using hi)]
        simp
      rw [e1]
      have e2 : ∀ n, k ≤ n → (List.range n).countP (fun i => decide (k ≤ i)) = n - k := by
        intro n
        induction n with
        | zero => intro h; simp
        | succ n ihn =>
          intro h
          rw [List.range_succ, List.countP_append]
          by_cases e : k ≤ n
          · rw [ihn e]; simp [e]; omega
          · have : k = n + 1 := by omega
            subst this
            have : (List.range n).countP (fun i => decide (n + 1 ≤ i)) = 0 := by
              rw [List.countP_eq_zero]; intro i hi; simp at hi ⊢; omega
            rw [this]; simp
      exact e2 _ hkn
    rw [hcount, hbe]
    exact chain_any hok hk (ops.size - k) k listed _ w (by omega) (Nat.le_refl _) hs hc hl (hK w hC)
  intro fuel
  induction fuel with
  | zero =>
    intro listed b w hs hf hc hlate hb hC
    refine done 0 listed b w hs hf hc hlate hb hC fun j hj => ?_
    have h0 := hf.symm
    rw [List.countP_eq_zero] at h0
    have := h0 j (by simp; omega)
    rw [getD_eq listed j hs (by omega)] at this
    simpa using this
  | succ fuel ih =>
    intro listed b w hs hf hc hlate hb hC
    by_cases hallk : ∀ j, j < k → listed.getD j false = true
    · exact done (fuel + 1) listed b w hs hf hc hlate hb hC hallk
    · obtain ⟨i0, hi0, hni0⟩ : ∃ i0, i0 < k ∧ listed.getD i0 false = false := by
        refine Classical.byContradiction fun hh => hallk fun j hj => ?_
        cases hq : listed.getD j false with
        | true => rfl
        | false => exact absurd ⟨j, hj, hq⟩ hh
      refine ⟨fun h0 => ?_, fun i hi => ?_⟩
      · -- where none is ready all are done
        exfalso
        have least : ∀ n, n < ops.size → listed.getD n true = false → ∃ m, m < ops.size ∧ listed.getD m true = false ∧ ∀ k, k < m → listed.getD k true = true := by
          intro n
          induction n using Nat.strongRecOn with
          | ind n ihn =>
            intro hn hl
            by_cases e : ∃ k, k < n ∧ listed.getD k true = false
            · obtain ⟨k, hk, hkl⟩ := e
              exact ihn k hk (by omega) hkl
            · refine ⟨n, hn, hl, fun k hk => ?_⟩
              cases h : listed.getD k true with
              | true => rfl
              | false => exact absurd ⟨k, hk, h⟩ e
        obtain ⟨m, hm, hml, hmk⟩ := least i0 (by omega) (by rw [getD_eq listed i0 hs (by omega)]; exact hni0)
        have hop : ops[m]? = some ops[m] := Array.getElem?_eq_getElem hm
        have hb2 := quietOk_after hok hm
        have hmem : m ∈ Region.ready .any ops listed := ready_of hm hml hop fun e he hbd => by
          rw [Array.all_eq_true_iff_forall_mem] at hb2
          have := hb2 e he
          rw [hbd] at this
          have hlt : e.on < m := by simpa using this
          have := hmk e.on hlt
          rwa [getD_eq listed e.on hs (by omega)] at this
        rw [h0] at hmem; cases hmem
      · obtain ⟨h1, h2, o, ho, hall⟩ := mem_ready hi
        have hik : i < k := by
          rcases Nat.lt_or_ge i k with h | h
          · exact h
          · have := ahead_listed hc (hk i h h1 i0 (by omega)) (fun o' ho' => by rw [ho] at ho'; cases ho'; exact hall)
            rw [hni0] at this; cases this
        obtain ⟨c, hc1, hc2⟩ := tells_at hd k 0 a a ⟨rfl, rfl, fun j d hj => by omega, fun _ _ => rfl⟩ ht i (by omega) (by omega) o ho
        have same : ∀ d, d ∈ o.looksAt ops → b.tmps[d]? = c.tmps[d]? := fun d hdl => hb.same hc1 fun j hj => by
          obtain ⟨hlt, hah⟩ := quietOk_look hok ho hj hdl
          exact ⟨ahead_listed hc hah (fun o' ho' => by rw [ho] at ho'; cases ho'; exact hall), hlt⟩
        have hsz' : (listed.setIfInBounds i true).size = ops.size := by simpa using hs
        have hcnt : fuel = (List.range ops.size).countP (fun k => !(listed.setIfInBounds i true).getD k true) := by
          have e1 : ∀ k, (!(listed.setIfInBounds i true).getD k true) = (!listed.getD k true && !(k == i)) := fun k => by
            by_cases e : i = k
            · subst e
              simp [Array.getD_eq_getD_getElem?, show i < listed.size by omega]
            · rw [getD_set_ne e]
              have : (k == i) = false := by simpa using fun e' => e e'.symm
              rw [this]; simp
          have e2 : (List.range ops.size).countP (fun k => !listed.getD k true) = (List.range ops.size).countP (fun k => !listed.getD k true && !(k == i)) + 1 := by
            have hmem : i ∈ (List.range ops.size).filter fun k => !listed.getD k true := by
              rw [List.mem_filter]; exact ⟨by simpa using h1, by simp [h2]⟩
            have hnd : ((List.range ops.size).filter fun k => !listed.getD k true).Nodup := List.nodup_range.filter _
            rw [List.countP_eq_length_filter, List.countP_eq_length_filter]
            have e3 : (List.range ops.size).filter (fun k => !listed.getD k true && !(k == i)) = ((List.range ops.size).filter fun k => !listed.getD k true).erase i := by
              rw [hnd.erase_eq_filter, List.filter_filter]
              congr 1
              funext k
              rw [Bool.and_comm]
              rfl
            rw [e3, List.length_erase_of_mem hmem]
            have := List.length_pos_of_mem hmem
            omega
          have e4 : (fun k => !(listed.setIfInBounds i true).getD k true) = fun k => !listed.getD k true && !(k == i) := funext e1
          rw [e4]; omega
        have go : ∀ w, C w → wpAnyS P .no ops K fuel (listed.setIfInBounds i true) (b.put o.dst (vs i)) w := fun w hC => by
          refine ih _ _ w hsz' hcnt (hc.set hi) (fun j hj => ?_) ?_ hC
          · rw [getD_set_ne (by omega)]; exact hlate j hj
          · have := hb.put hd ho
            have e : (fun j => listed.getD j false = true ∨ j = i) = fun j => (listed.setIfInBounds i true).getD j false = true := by
              funext j
              refine propext ⟨fun h => ?_, fun h => ?_⟩
              · rcases h with h | rfl
                · exact getD_set h
                · simp [Array.getD_eq_getD_getElem?, show j < listed.size by omega]
              · by_cases e : i = j
                · exact .inr e.symm
                · rw [getD_set_ne e] at h; exact .inl h
            rw [e] at this; exact this
        unfold wpS
        simp only [ho]
        rw [wanted_same o b c same]
        split
        · rename_i hw
          rw [if_pos hw] at hc2
          show opS P (semL b.eval (howOf P o.op) o.type o.op) _ w
          rw [semL_same o _ b c same]
          refine opS_mono (hc2 w hC) fun u w' hu => ?_
          obtain ⟨rfl, hC'⟩ := hu
          exact go w' hC'
        · rename_i hw
          rw [if_neg hw] at hc2
          have := go w hC
          rw [hc2] at this
          exact this

theorem wpAny_of_quiet {C : World → Prop} {K : Act → World → Prop} (hok : quietOk ops (masks ops) = true) {a : Act} {w w0 : World} (h : wpQL P C ops (fun a _ => ∀ w', C w' → wpNL P ops K (List.range' (cutOf (masks ops) ops.size) (ops.size - cutOf (masks ops) ops.size)) a w') (List.range (cutOf (masks ops) ops.size)) a w) (hC : C w0) :
    wpAnyS P .no ops K ops.size (Array.replicate ops.size false) a w0 := by
  obtain ⟨vs, ht, hK⟩ := wpQL_tells _ _ _ List.nodup_range h
  rw [List.range_eq_range'] at ht hK
  have hg : ∀ i, (Array.replicate ops.size false).getD i false = false := fun i => by
    rw [Array.getD_eq_getD_getElem?, Array.getElem?_replicate]
    split <;> rfl
  refine quiet_any (cutOf_le _ _) (fun i h1 h2 j h3 => cutOf_ahead h1 h2 h3) hok ht hK ops.size _ a w0 (by simp) ?_ (fun j o _ hj => by rw [hg] at hj; cases hj) (fun i _ => hg i) ⟨rfl, rfl, fun j d hj => (by rw [hg] at hj; cases hj), fun _ _ => rfl⟩ hC
  have : ∀ i ∈ List.range ops.size, (!(Array.replicate ops.size false).getD i true) = true := fun i hi => by
    rw [Array.getD_eq_getD_getElem?, Array.getElem?_replicate, if_pos (by simpa using hi)]; rfl
  rw [List.countP_eq_length.2 this, List.length_range]

end
end Go.Gx
