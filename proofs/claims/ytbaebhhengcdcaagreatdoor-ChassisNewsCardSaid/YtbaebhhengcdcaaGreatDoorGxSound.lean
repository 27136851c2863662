/- What 'comp' tells of code is so. -/
import Derived.Test.YtbaebhhengcdcaaGreatDoorGxIr
namespace Go.Gx
open Go

/-! ### Frames and what is known of them -/

def okO (n : Nat) : Operand → Prop
  | .tmp i => i < n
  | _ => True

theorem ev_append {env us : List Value} {x : Operand} (h : okO env.length x) : ev (env ++ us) x = ev env x := by
  cases x with
  | tmp i => simp only [ev, okO] at *; rw [List.getD_eq_getElem?_getD, List.getD_eq_getElem?_getD, List.getElem?_append_left h]
  | _ => rfl

theorem okO.mono {n m : Nat} {x : Operand} (h : okO n x) (hm : n ≤ m) : okO m x := by
  cases x with
  | tmp i => exact Nat.lt_of_lt_of_le (show i < n from h) hm
  | _ => trivial

theorem ev_prefix {env env' : List Value} (hp : env <+: env') {x : Operand} (h : okO env.length x) : ev env' x = ev env x := by
  obtain ⟨t, rfl⟩ := hp
  exact ev_append h

def AgL (env : List Value) : List (Option Operand) → List Value → Prop
  | [], [] => True
  | e :: r, v :: vs => (∀ x, e = some x → okO env.length x ∧ ev env x = v) ∧ AgL env r vs
  | _, _ => False

theorem AgL.length {env : List Value} : ∀ {fr : List (Option Operand)} {vs : List Value}, AgL env fr vs → fr.length = vs.length
  | [], [], _ => rfl
  | _ :: _, _ :: _, h => by simp [AgL.length h.2]
  | [], _ :: _, h => h.elim
  | _ :: _, [], h => h.elim

theorem AgL.mono {env env' : List Value} (hp : env <+: env') : ∀ {fr : List (Option Operand)} {vs : List Value}, AgL env fr vs → AgL env' fr vs
  | [], [], _ => trivial
  | _ :: _, _ :: _, h => ⟨fun x hx => by
      obtain ⟨h1, h2⟩ := h.1 x hx
      exact ⟨h1.mono hp.length_le, by rw [ev_prefix hp h1]; exact h2⟩, AgL.mono hp h.2⟩
  | [], _ :: _, h => h.elim
  | _ :: _, [], h => h.elim

theorem AgL.get {env : List Value} {x : Operand} : ∀ {fr : List (Option Operand)} {vs : List Value} {t : Nat}, AgL env fr vs → fr[t]? = some (some x) → okO env.length x ∧ vs[t]? = some (ev env x)
  | [], [], _, _, h => by simp at h
  | e :: r, v :: vs, 0, h, hx => by
      simp at hx
      obtain ⟨h1, h2⟩ := h.1 x hx
      exact ⟨h1, by simp [h2]⟩
  | e :: r, v :: vs, t + 1, h, hx => by
      simp only [List.getElem?_cons_succ] at hx ⊢
      exact AgL.get h.2 hx
  | [], _ :: _, _, h, _ => h.elim
  | _ :: _, [], _, h, _ => h.elim

theorem AgL.set {env : List Value} {e : Option Operand} {v : Value} (he : ∀ x, e = some x → okO env.length x ∧ ev env x = v) : ∀ {fr : List (Option Operand)} {vs : List Value} (d : Nat), AgL env fr vs → AgL env (fr.set d e) (vs.set d v)
  | [], [], _, _ => trivial
  | _ :: _, _ :: _, 0, h => ⟨he, h.2⟩
  | _ :: _, _ :: _, d + 1, h => ⟨h.1, AgL.set he d h.2⟩
  | [], _ :: _, _, h => h.elim
  | _ :: _, [], _, h => h.elim

def markD (v : Value) : Deferred :=
  match v with
  | .func fv first cap => { target := .fn fv cap, args := first }
  | v => { target := .collected (blk v), args := #[] }
def markOf (env : List Value) (m : Operand) : Deferred := markD (ev env m)

structure Ag (env : List Value) (sf : SF) (a : Act) : Prop where
  fr : AgL env sf.fr a.tmps.toList
  ms : a.defers = sf.ms.map (markOf env)
  mok : ∀ m ∈ sf.ms, okO env.length m
  kb : ∀ x b, (x, b) ∈ sf.kb → x < env.length ∧ env.getD x undef = .bool b

theorem Ag.mono {env env' : List Value} (hp : env <+: env') {sf : SF} {a : Act} (h : Ag env sf a) : Ag env' sf a where
  fr := h.fr.mono hp
  ms := by
    rw [h.ms]
    exact List.map_congr_left fun m hm => by rw [markOf, markOf, ev_prefix hp (h.mok m hm)]
  mok := fun m hm => (h.mok m hm).mono hp.length_le
  kb := fun x b hx => by
    obtain ⟨h1, h2⟩ := h.kb x b hx
    refine ⟨Nat.lt_of_lt_of_le h1 hp.length_le, ?_⟩
    have := ev_prefix hp (x := .tmp x) h1
    exact this.trans h2

theorem tr_eval {env : List Value} {sf : SF} {a : Act} (h : Ag env sf a) {x y : Operand} (hx : tr sf x = some y) : okO env.length y ∧ a.eval x = ev env y := by
  cases x with
  | tmp t =>
    have h1 : sf.fr[t]? = some (some y) := by
      simp only [tr] at hx
      cases hq : sf.fr[t]? with
      | none => rw [hq] at hx; cases hx
      | some e => rw [hq] at hx; simp at hx; rw [hx]
    obtain ⟨h2, h3⟩ := h.fr.get h1
    refine ⟨h2, ?_⟩
    simp only [Act.eval, Array.getD_eq_getD_getElem?]
    rw [← Array.getElem?_toList, h3]; rfl
  | const v => cases hx; exact ⟨trivial, rfl⟩
  | global g => cases hx; exact ⟨trivial, rfl⟩
  | func f => cases hx; exact ⟨trivial, rfl⟩

theorem Ag.put {env : List Value} {sf : SF} {a : Act} (h : Ag env sf a) (dst : Option Tmp) {e : Option Operand} {v : Value} (he : ∀ x, e = some x → okO env.length x ∧ ev env x = v) :
    Ag env (sf.put dst e) (a.put dst v) := by
  cases dst with
  | none => exact h
  | some d => exact ⟨by simpa [SF.put, Act.put] using h.fr.set he d, h.ms, h.mok, h.kb⟩

theorem Ag.know {env : List Value} {sf : SF} {a : Act} (h : Ag env sf a) {x : Nat} {b : Bool} (hx : x < env.length) (hb : env.getD x undef = .bool b) : Ag env (sf.know x b) a where
  fr := h.fr
  ms := h.ms
  mok := h.mok
  kb := fun y c hy => by
    simp only [SF.know, List.mem_cons, Prod.mk.injEq] at hy
    rcases hy with ⟨rfl, rfl⟩ | hy
    · exact ⟨hx, hb⟩
    · exact h.kb y c hy

theorem lookup_mem {x : Nat} {b : Bool} : ∀ {l : List (Nat × Bool)}, l.lookup x = some b → (x, b) ∈ l
  | [], h => by simp at h
  | (y, c) :: l, h => by
    rw [List.lookup_cons] at h
    split at h
    · rename_i e
      rw [beq_iff_eq] at e
      cases h; subst e; simp
    · exact List.mem_cons_of_mem _ (lookup_mem h)

theorem static_ev {env : List Value} {sf : SF} {a : Act} (h : Ag env sf a) {g : Operand} {b : Bool} (hs : staticB sf g = some b) : ev env g = .bool b := by
  unfold staticB at hs
  split at hs
  · cases hs; rfl
  · exact (h.kb _ _ (lookup_mem hs)).2
  · cases hs

/-! ### Operations -/

theorem trList_map {f : Operand → Option Operand} {env : List Value} {ρ : Operand → Value} (hf : ∀ x y, f x = some y → ρ x = ev env y) :
    ∀ {l l' : List Operand}, trList f l = some l' → l.map ρ = l'.map (ev env)
  | [], l', h => by cases h; rfl
  | x :: r, l', h => by
    simp only [trList] at h
    obtain ⟨y, hy, h⟩ := bind_some h
    obtain ⟨r', hr, h⟩ := bind_some h
    cases h
    simp only [List.map_cons, hf x y hy, trList_map hf hr]

theorem trPairs_map {f : Operand → Option Operand} {env : List Value} {ρ : Operand → Value} (hf : ∀ x y, f x = some y → ρ x = ev env y) :
    ∀ {l l' : List (Nat × Operand)}, trPairs f l = some l' → (l.map fun p => (p.1, ρ p.2)) = l'.map fun p => (p.1, ev env p.2)
  | [], l', h => by cases h; rfl
  | x :: r, l', h => by
    simp only [trPairs] at h
    obtain ⟨y, hy, h⟩ := bind_some h
    obtain ⟨r', hr, h⟩ := bind_some h
    cases h
    simp only [List.map_cons, hf _ y hy, trPairs_map hf hr]

theorem trOpt_map {f : Operand → Option Operand} {env : List Value} {ρ : Operand → Value} (hf : ∀ x y, f x = some y → ρ x = ev env y) {l l' : Option Operand} (h : trOpt f l = some l') :
    optV ρ l = optV (ev env) l' := by
  cases l with
  | none => cases h; rfl
  | some x =>
    simp only [trOpt] at h
    obtain ⟨y, hy, h⟩ := bind_some h
    cases h
    simp only [optV, hf x y hy]

theorem trOp_sem {f : Operand → Option Operand} {env : List Value} {ρ : Operand → Value} (hf : ∀ x y, f x = some y → ρ x = ev env y) {how : How} {ty : TypeId} {op op' : Op} (h : trOp f op = some op') :
    semL ρ how ty op = semL (ev env) how ty op' := by
  cases op with
  | call c =>
    obtain ⟨callee, args, ats⟩ := c
    cases callee with
    | value g =>
      simp only [trOp] at h
      obtain ⟨y, hy, h⟩ := bind_some h
      obtain ⟨l, hl, h⟩ := bind_some h
      cases h
      simp only [semL, hf g y hy, trList_map hf hl]
    | invoke r m => cases h
    | builtin b =>
      simp only [trOp] at h
      obtain ⟨l, hl, h⟩ := bind_some h
      cases h
      simp only [semL, trList_map hf hl]
  | build t ps =>
    simp only [trOp] at h
    obtain ⟨l, hl, h⟩ := bind_some h
    cases h
    simp only [semL, trPairs_map hf hl]
  | buildSlice t n ps =>
    simp only [trOp] at h
    obtain ⟨l, hl, h⟩ := bind_some h
    cases h
    simp only [semL, trPairs_map hf hl]
  | makeFunc fn a b =>
    simp only [trOp] at h
    obtain ⟨l, hl, h⟩ := bind_some h
    obtain ⟨l', hl', h⟩ := bind_some h
    cases h
    simp only [semL, trList_map hf hl, trList_map hf hl']
  | makeMap t r =>
    simp only [trOp] at h
    obtain ⟨l, hl, h⟩ := bind_some h
    cases h
    simp only [semL, trOpt_map hf hl]
  | slice t x lo hi mx =>
    simp only [trOp] at h
    obtain ⟨x', hx, h⟩ := bind_some h
    obtain ⟨l, hl, h⟩ := bind_some h
    obtain ⟨l', hl', h⟩ := bind_some h
    obtain ⟨l'', hl'', h⟩ := bind_some h
    cases h
    simp only [semL, hf _ _ hx, trOpt_map hf hl, trOpt_map hf hl', trOpt_map hf hl'']
  | alloc e => cases h; rfl
  | pick a b c | mapUpdate _ a b c | insert _ a b c | entryStore _ a b c =>
    simp only [trOp] at h
    obtain ⟨x, hx, h⟩ := bind_some h
    obtain ⟨y, hy, h⟩ := bind_some h
    obtain ⟨z, hz, h⟩ := bind_some h
    cases h
    simp only [semL, hf _ _ hx, hf _ _ hy, hf _ _ hz]
  | store _ a b | binOp _ _ a b _ | makeSlice _ a b | indexAddr _ a b | index _ a b | lookup _ a b _ | mapEntry _ a b =>
    simp only [trOp] at h
    obtain ⟨x, hx, h⟩ := bind_some h
    obtain ⟨y, hy, h⟩ := bind_some h
    cases h
    simp only [semL, hf _ _ hx, hf _ _ hy]
  | move a | assign a | box _ a | load _ a | nilCheck a | unOp _ _ a | convert _ _ a | makeInterface _ a | fieldAddr _ a _ | field _ a _ | range _ a | next a _ | entry a | typeAssert a _ _ _ | extract a _ =>
    simp only [trOp] at h
    obtain ⟨x, hx, h⟩ := bind_some h
    cases h
    simp only [semL, hf _ _ hx]
  | _ => cases h

variable {P : Program}

/-- what stands behind is as it is told -/
def KOk1 (P : Program) (k : SF → Nat → Option IR) (env0 : List Value) (J : JL) (K : KZ) (Q : Act → World → Prop) : Prop :=
  ∀ sf ir env a w, k sf env.length = some ir → env0 <+: env → Ag env sf a → den P ir env J K w → Q a w

theorem KOk1.mono {k : SF → Nat → Option IR} {env0 env1 : List Value} {J : JL} {K : KZ} {Q : Act → World → Prop} (h : KOk1 P k env0 J K Q) (hp : env0 <+: env1) : KOk1 P k env1 J K Q :=
  fun sf ir env a w hk hp' ha hd => h sf ir env a w hk (hp.trans hp') ha hd

/-- what comes of a panic is as it is told -/
def PzOk (P : Program) (pz : PZ) (env0 : List Value) (K : KZ) (zq : ZQ) : Prop :=
  match pz, zq with
  | .no, .no => True
  | .quiet, .quiet C => topC K.c = C
  | .pan h, .pan z => ∀ sf ir env J a w x, h sf x env.length = some ir → env0 <+: env → Ag env sf a → okO env.length x → den P ir env J K w → z a (ev env x) w
  | _, _ => False

theorem PzOk.mono {pz : PZ} {env0 env1 : List Value} {K : KZ} {zq : ZQ} (h : PzOk P pz env0 K zq) (hp : env0 <+: env1) : PzOk P pz env1 K zq := by
  unfold PzOk at *
  split at h
  · trivial
  · exact h
  · intro sf ir env J a w x hh hp' ha hx hd
    exact h sf ir env J a w x hh (hp.trans hp') ha hx hd
  · exact h.elim

theorem PzOk.some_eq {pz : PZ} {env0 : List Value} {K : KZ} {zq : ZQ} (h : PzOk P pz env0 K zq) : zq.isPan = pz.isPan := by
  unfold PzOk at h
  split at h
  · rfl
  · rfl
  · rfl
  · exact h.elim

theorem emitOp_sound {zq : ZQ} {pz : PZ} {o : Oper} {sf : SF} {k : SF → Nat → Option IR} {env : List Value} {J : JL} {K : KZ} {Q : Act → World → Prop} {a : Act} {w : World} {ir : IR}
    (h : emitOp P pz o sf env.length k = some ir) (hpz : PzOk P pz env K zq) (ha : Ag env sf a) (hk : KOk1 P k env J K Q) (hd : den P ir env J K w) :
    wpR P zq o Q a w := by
  unfold emitOp at h
  obtain ⟨op, hop, h⟩ := bind_some h
  obtain ⟨ir', hir, h⟩ := bind_some h
  have next : ∀ v w', den P ir' (env ++ [v]) J K w' → Q (a.put o.dst v) w' := fun v w' hd' => by
    refine hk _ ir' (env ++ [v]) _ w' (by simpa using hir) (List.prefix_append _ _) ?_ hd'
    refine (ha.mono (List.prefix_append env [v])).put o.dst fun x hx => ?_
    cases hx
    exact ⟨by simp [okO], by simp [ev]⟩
  have plain : ir = .op (howOf P o.op) o.type op ir' → opS P (semL a.eval (howOf P o.op) o.type o.op) (fun v w' => Q (a.put o.dst v) w') w := by
    intro e
    subst e
    rw [trOp_sem (fun x y hx => (tr_eval ha hx).2) hop]
    exact opS_mono hd next
  unfold PzOk at hpz
  split at hpz
  · cases h
    exact plain rfl
  · rename_i C
    cases h
    obtain ⟨v, h1, h2⟩ := hd
    refine ⟨v, fun w' hC => ?_, next v w h2⟩
    rw [trOp_sem (fun x y hx => (tr_eval ha hx).2) hop]
    rw [← hpz] at hC ⊢
    exact h1 w' hC
  · rename_i h0 z
    simp only at h
    unfold wpR
    simp only
    split at h
    · rename_i hpk
      rw [if_pos hpk]
      obtain ⟨kp, hkp, h⟩ := bind_some h
      cases h
      unfold wpP
      split
      · rename_i x hx; rw [hx] at hop; cases hop
      · rw [trOp_sem (fun x y hx => (tr_eval ha hx).2) hop]
        refine opZ_mono hd next fun v w' hd' => ?_
        have := hpz sf kp (env ++ [v]) J a w' (.tmp env.length) (by simpa using hkp) (List.prefix_append _ _) (ha.mono (List.prefix_append env [v])) (by simp [okO]) hd'
        simpa [ev] using this
    · rename_i hpk
      rw [if_neg hpk]
      cases h
      exact plain rfl
  · exact hpz.elim

theorem opS_pure {v : Value} {K : Value → World → Prop} {w : World} : opS P (pure (.value v)) K w = K v w := rfl

theorem runOp_sound {zq : ZQ} {pz : PZ} {o : Oper} {sf : SF} {k : SF → Nat → Option IR} {env : List Value} {J : JL} {K : KZ} {Q : Act → World → Prop} {a : Act} {w : World} {ir : IR}
    (h : runOp P pz o sf env.length k = some ir) (hpz : PzOk P pz env K zq) (ha : Ag env sf a) (hk : KOk1 P k env J K Q) (hd : den P ir env J K w) :
    wpR P zq o Q a w := by
  -- an operation that but tells a value, whatever lies there
  have calm : ∀ {op : Op} (v : Value), o.op = op → panicky op = false → (∀ w, (semL a.eval (howOf P op) o.type op).run P w = .ok (.value v) w) → Q (a.put o.dst v) w → wpR P zq o Q a w := by
    intro op v he hp hr hq
    subst he
    cases hz : zq with
    | quiet C => exact ⟨v, fun w' hC => by rw [opS_value (hr w')]; exact ⟨rfl, hC⟩, hq⟩
    | no => rw [wpR_tame rfl rfl, opS_value (hr w)]; exact hq
    | pan z => rw [wpR_tame rfl (by simp [tame, ZQ.isPan, hp]), opS_value (hr w)]; exact hq
  unfold runOp at h
  split at h
  · rename_i x ho
    obtain ⟨e, he, h⟩ := bind_some h
    obtain ⟨h1, h2⟩ := tr_eval ha he
    exact calm (a.eval x) ho rfl (fun _ => rfl) (hk _ ir env _ w h (List.prefix_refl _) (ha.put o.dst fun y hy => by cases hy; exact ⟨h1, h2.symm⟩) hd)
  · rename_i x ho
    obtain ⟨e, he, h⟩ := bind_some h
    obtain ⟨h1, h2⟩ := tr_eval ha he
    exact calm (a.eval x) ho rfl (fun _ => rfl) (hk _ ir env _ w h (List.prefix_refl _) (ha.put o.dst fun y hy => by cases hy; exact ⟨h1, h2.symm⟩) hd)
  · rename_i c x y ho
    split at h
    · rename_i t ht
      obtain ⟨g, hg, ht⟩ := bind_some ht
      obtain ⟨e, he, h⟩ := bind_some h
      obtain ⟨h1, h2⟩ := tr_eval ha he
      have hc : a.eval c = .bool t := by rw [(tr_eval ha hg).2]; exact static_ev ha ht
      refine calm (if t then a.eval x else a.eval y) ho rfl (fun w => ?_) ?_
      · simp only [semL, S.pick, hc, asBool]; rfl
      · refine hk _ ir env _ w h (List.prefix_refl _) (ha.put o.dst fun z hz => ?_) hd
        cases hz
        refine ⟨h1, h2.symm.trans ?_⟩
        cases t <;> rfl
    · exact emitOp_sound h hpz ha hk hd
  · rename_i x ho
    unfold PzOk at hpz
    split at hpz
    · cases h; exact hd.elim
    · cases h
    · rename_i h0 z
      simp only at h
      obtain ⟨e, he, h⟩ := bind_some h
      obtain ⟨kp, hkp, h⟩ := bind_some h
      cases h
      obtain ⟨h1, h2⟩ := tr_eval ha he
      simp only [den] at hd
      unfold wpR
      simp only
      rw [if_pos (by rw [ho]; rfl)]
      unfold wpP
      rw [ho]
      simp only
      cases hev : ev env e with
      | iface t v =>
        have hd' : den P kp env J K w := by rw [hev] at hd; exact hd
        exact ⟨t, v, h2.trans hev, by rw [h2]; exact hpz sf kp env J a w e hkp (List.prefix_refl _) ha h1 hd'⟩
      | _ => rw [hev] at hd; exact hd.elim
    · exact hpz.elim
  · exact emitOp_sound h hpz ha hk hd

theorem yielded_eq {ops : Array Oper} {tmps : Array Value} {j : Nat} {d : Tmp} (hd : (ops[j]?).bind (·.dst) = some d) :
    yielded ops tmps j = (match tmps.getD d undef with | .bool b => some b | _ => none) := by
  unfold yielded
  rw [hd]
  simp only [Option.bind_some, Array.getD_eq_getD_getElem?]
  cases tmps[d]? with
  | none => rfl
  | some v => cases v <;> rfl

theorem brn_elim {c : Value} {a b : World → Prop} {w : World} (h : brn c a b w) : ∃ t, c = .bool t ∧ (if t then a w else b w) := by
  unfold brn at h
  split at h
  · rename_i t; exact ⟨t, rfl, by cases t <;> exact h⟩
  · exact h.elim

theorem gqtS_elim {C : World → Prop} {g : Value} {want : Bool} {s : Sem Next} {K : Value → World → Prop} {w : World} (h : gqtS P C g want s K w) :
    (∃ b, g = .bool b ∧ b = want ∧ qtS P C s K w) ∨ ((∀ b, g = .bool b → b ≠ want) ∧ K undef w) := by
  unfold gqtS at h
  cases g with
  | bool b =>
    simp only at h
    by_cases e : b = want
    · rw [if_pos e] at h; exact .inl ⟨b, rfl, e, h⟩
    · rw [if_neg e] at h; exact .inr ⟨fun c hc => by cases hc; exact e, h⟩
  | _ => exact .inr ⟨fun c hc => (by cases hc), h⟩

theorem stepOp_sound {zq : ZQ} {pz : PZ} {ops : Array Oper} {i : Nat} {sf : SF} {k : SF → Nat → Option IR} {env : List Value} {J : JL} {K : KZ} {Q : Act → World → Prop} {a : Act} {w : World} {ir : IR}
    (h : stepOp P pz ops i sf env.length k = some ir) (hpz : PzOk P pz env K zq) (ha : Ag env sf a) (hk : KOk1 P k env J K Q) (hd : den P ir env J K w) : wpS P zq ops i Q a w := by
  unfold stepOp at h
  unfold wpS
  split at h
  · rename_i ho
    simp only [ho]
    exact hk _ ir env a w h (List.prefix_refl _) ha hd
  · rename_i o ho
    simp only [ho]
    -- the two ways, of a frame of which some more is known
    have run : ∀ (sf' : SF) (ir' : IR), Ag env sf' a → runOp P pz o sf' env.length k = some ir' → den P ir' env J K w → Region.wanted o (yielded ops a.tmps) = true →
        (if Region.wanted o (yielded ops a.tmps) = true then wpR P zq o Q a w else Q (a.put o.dst undef) w) := by
      intro sf' ir' ha' h' hd' hw
      rw [if_pos hw]
      exact runOp_sound h' hpz ha' hk hd'
    have skip : ∀ (sf' : SF) (ir' : IR), Ag env sf' a → k (sf'.put o.dst (some (.const undef))) env.length = some ir' → den P ir' env J K w → Region.wanted o (yielded ops a.tmps) = false →
        (if Region.wanted o (yielded ops a.tmps) = true then wpR P zq o Q a w else Q (a.put o.dst undef) w) := by
      intro sf' ir' ha' h' hd' hw
      rw [if_neg (by rw [hw]; simp)]
      exact hk _ ir' env _ w h' (List.prefix_refl _) (ha'.put o.dst fun z hz => by cases hz; exact ⟨trivial, rfl⟩) hd'
    split at h
    · rename_i hg
      exact run sf ir ha h hd (by simp [Region.wanted, hg])
    · rename_i j want hg
      obtain ⟨g, hgg, h⟩ := bind_some h
      obtain ⟨d, hdst, hgd⟩ := bind_some hgg
      obtain ⟨hok, hev⟩ := tr_eval ha hgd
      have hy := yielded_eq (tmps := a.tmps) hdst
      have hev' : a.tmps.getD d undef = ev env g := hev
      rw [hev'] at hy
      have wb : ∀ b, ev env g = .bool b → Region.wanted o (yielded ops a.tmps) = (b == want) := by
        intro b hb
        rw [hb] at hy
        simp only [Region.wanted, hg, hy]
        cases b <;> cases want <;> rfl
      split at h
      · rename_i b
        split at h
        · rename_i hw; exact run sf ir ha h hd (by rw [wb b rfl]; exact hw)
        · rename_i hw; exact skip sf ir ha h hd (by rw [wb b rfl]; simpa using hw)
      · refine skip sf ir ha h hd ?_
        simp only [ev] at hy
        simp [Region.wanted, hg, hy]
      · rename_i x
        split at h
        · rename_i b hb
          have hx := (ha.kb _ _ (lookup_mem hb)).2
          split at h
          · rename_i hw; exact run sf ir ha h hd (by rw [wb b hx]; exact hw)
          · rename_i hw; exact skip sf ir ha h hd (by rw [wb b hx]; simpa using hw)
        · split at h
          · -- quietly
            unfold emitG at h
            obtain ⟨op, hop, h⟩ := bind_some h
            obtain ⟨ir', hir, h⟩ := bind_some h
            cases h
            have hq : ∃ C, zq = .quiet C ∧ topC K.c = C := by
              cases zq with
              | quiet C => exact ⟨C, rfl, hpz⟩
              | no => exact hpz.elim
              | pan z => exact hpz.elim
            clear hpz
            obtain ⟨C, rfl, hpz⟩ := hq
            · have next : ∀ v w', den P ir' (env ++ [v]) J K w' → Q (a.put o.dst v) w' := fun v w' hd' => by
                refine hk _ ir' (env ++ [v]) _ w' (by simpa using hir) (List.prefix_append _ _) ?_ hd'
                refine (ha.mono (List.prefix_append env [v])).put o.dst fun x hx => ?_
                cases hx
                exact ⟨by simp [okO], by simp [ev]⟩
              have none_ : Region.wanted o (yielded ops a.tmps) = false → den P ir' (env ++ [undef]) J K w → (if Region.wanted o (yielded ops a.tmps) = true then wpR P (.quiet C) o Q a w else Q (a.put o.dst undef) w) := fun hw hd' => by
                rw [if_neg (by rw [hw]; simp)]
                exact next _ _ hd'
              have hd : gqtS P (topC K.c) (ev env (.tmp x)) want (semL (ev env) (howOf P o.op) o.type op) (fun v => den P ir' (env ++ [v]) J K) w := hd
              rcases gqtS_elim hd with ⟨b, hb, hbw, v, h1, h2⟩ | ⟨hnb, hd⟩
              · rw [if_pos (by rw [wb b hb]; simpa using hbw)]
                refine ⟨v, fun w' hC => ?_, next v w h2⟩
                rw [trOp_sem (fun x y hx => (tr_eval ha hx).2) hop]
                rw [← hpz] at hC ⊢
                exact h1 w' hC
              · refine none_ ?_ hd
                cases hv : ev env (.tmp x) with
                | bool b => rw [wb b hv]; simpa using hnb b hv
                | _ =>
                  have : yielded ops a.tmps j = none := by rw [hy, hv]
                  simp [Region.wanted, hg, this]
          obtain ⟨irt, ht, h⟩ := bind_some h
          obtain ⟨irf, hf, h⟩ := bind_some h
          cases h
          obtain ⟨t, hc, hd⟩ := brn_elim hd
          have hc' : env.getD x undef = .bool t := hc
          cases t with
          | true =>
            have hk1 := ha.know (x := x) (b := true) hok hc'
            cases want with
            | true => exact run _ irt hk1 (by simpa using ht) hd (wb true hc)
            | false => exact skip _ irt hk1 (by simpa using ht) hd (wb true hc)
          | false =>
            have hk1 := ha.know (x := x) (b := false) hok hc'
            cases want with
            | true => exact skip _ irf hk1 (by simpa using hf) hd (wb false hc)
            | false => exact run _ irf hk1 (by simpa using hf) hd (wb false hc)
      · cases h

/-! ### Regions -/

def wpSD (P : Program) (zq : ZQ) (top : Bool) (ops : Array Oper) (i : Nat) (K : Act → World → Prop) (a : Act) (w : World) : Prop :=
  match (if top then deferOf ops i else none) with
  | some (o, g) => ∃ fv first cap, a.eval g = .func fv first cap ∧ K ({ a with defers := { target := .fn fv cap, args := first } :: a.defers }.put o.dst undef) w
  | none => wpS P zq ops i K a w

def wpSL (P : Program) (zq : ZQ) (top : Bool) (ops : Array Oper) (Q : Act → World → Prop) : List Nat → Act → World → Prop
  | [], a, w => Q a w
  | i :: r, a, w => wpSD P zq top ops i (wpSL P zq top ops Q r) a w

theorem deferOf_some {ops : Array Oper} {i : Nat} {o : Oper} {g : Operand} (h : deferOf ops i = some (o, g)) : ops[i]? = some o ∧ o.guard = none ∧ ∃ args ats, o.op = .defer { callee := .value g, args, argTypes := ats } ∧ args = #[] := by
  unfold deferOf at h
  split at h
  · rename_i o' ho
    split at h
    · rename_i g' args ats hg hop
      split at h
      · rename_i hs
        cases h
        exact ⟨ho, hg, args, ats, hop, Array.eq_empty_of_size_eq_zero hs⟩
      · cases h
    · cases h
  · cases h

theorem wpSD_sound {zq : ZQ} {ro : Option Nat} {n : Nat} {top : Bool} {ops : Array Oper} {Q : Exit → Act → World → Prop} {i : Nat} {K : Act → World → Prop} {a : Act} {w : World} (hz : ZOk zq Q) (ht : top = true → ro = none) (h : wpSD P zq top ops i K a w) : wpOpIn (FW ro) n P ops Q i K a w := by
  unfold wpSD at h
  split at h
  · rename_i o g hd
    have ht1 : top = true := by
      cases top with
      | true => rfl
      | false => simp at hd
    obtain rfl := ht ht1
    rw [ht1, if_pos rfl] at hd
    obtain ⟨ho, hg, args, ats, hop, rfl⟩ := deferOf_some hd
    obtain ⟨fv, first, cap, hev, hk⟩ := h
    unfold wpOpIn
    simp only [ho]
    have hw : Region.wanted o (yielded ops a.tmps) = true := by simp [Region.wanted, hg]
    rw [if_pos hw]
    refine ⟨fun _ _ => trivial, ?_⟩
    have hrun : (o.semAt none a.eval).run P w = .ok (.defer { target := .fn fv cap, args := first }) w := by
      rw [Oper.semAt_none]
      unfold execOp
      rw [hop]
      simp only [resolve, hev, Deferred.ofValue]
      simp
    have e : (FW none).round = none := rfl
    rw [e, hrun]
    exact hk
  · exact wpS_sound hz h

theorem wpSL_sound {zq : ZQ} {ops : Array Oper} {ro : Option Nat} {n : Nat} {top : Bool} {Q : Exit → Act → World → Prop} (hz : ZOk zq Q) (ht : top = true → ro = none) : ∀ (l : List Nat) (a : Act) (w : World), wpSL P zq top ops (Q .normal) l a w → wpOpsIn (FW ro) n P ops Q l a w
  | [], _, _, h => h
  | i :: r, a, w, h => by
    rw [wpOpsIn_cons]
    exact wpOpIn_mono (fun a w => wpSL_sound hz ht r a w) (wpSD_sound hz ht h)

theorem compL_sound {zq : ZQ} {pz : PZ} {ops : Array Oper} {top : Bool} {J : JL} {K : KZ} {Q : Act → World → Prop} : ∀ (l : List Nat) (sf : SF) (k : SF → Nat → Option IR) (env : List Value) (a : Act) (w : World) (ir : IR),
    compL P pz top ops l sf env.length k = some ir → PzOk P pz env K zq → Ag env sf a → KOk1 P k env J K Q → den P ir env J K w → wpSL P zq top ops Q l a w
  | [], sf, k, env, a, w, ir, h, hpz, ha, hk, hd => hk sf ir env a w h (List.prefix_refl _) ha hd
  | i :: r, sf, k, env, a, w, ir, h, hpz, ha, hk, hd => by
    show wpSD P zq top ops i (wpSL P zq top ops Q r) a w
    unfold compL at h
    unfold wpSD
    split at h
    · rename_i o g hdo
      simp only [hdo]
      obtain ⟨g', hg', h⟩ := bind_some h
      obtain ⟨ir', hir, h⟩ := bind_some h
      cases h
      obtain ⟨h1, h2⟩ := tr_eval ha hg'
      simp only [den, sopS, SOp.sem] at hd
      have hf : ∃ fv first cap, ev env g' = .func fv first cap ∧ den P ir' (env ++ [undef]) J K w := by
        unfold S.isF at hd
        cases hv : ev env g' with
        | func fv first cap => rw [hv] at hd; exact ⟨fv, first, cap, rfl, hd⟩
        | _ => rw [hv] at hd; exact hd.elim
      obtain ⟨fv, first, cap, hv, hd⟩ := hf
      refine ⟨fv, first, cap, h2.trans hv, ?_⟩
      have hp : env <+: env ++ [undef] := List.prefix_append _ _
      have ha1 := (ha.put o.dst (e := some (.const undef)) (v := undef) fun z hz => by cases hz; exact ⟨trivial, rfl⟩).mono hp
      have hmk : markOf (env ++ [undef]) g' = { target := .fn fv cap, args := first } := by
        unfold markOf
        rw [ev_append h1, hv]
        rfl
      refine compL_sound r _ k (env ++ [undef]) _ w ir' (by simpa using hir) (hpz.mono hp) ?_ (hk.mono hp) hd
      have hms : (sf.put o.dst (some (.const undef))).ms = sf.ms := by unfold SF.put; split <;> rfl
      have hds : (a.put o.dst undef).defers = a.defers := by unfold Act.put; split <;> rfl
      have htm : ({ a with defers := { target := .fn fv cap, args := first } :: a.defers }.put o.dst undef).tmps = (a.put o.dst undef).tmps := by unfold Act.put; split <;> rfl
      have hdf : ({ a with defers := { target := .fn fv cap, args := first } :: a.defers }.put o.dst undef).defers = { target := .fn fv cap, args := first } :: a.defers := by unfold Act.put; split <;> rfl
      have e1 := ha1.ms
      have e2 := ha1.mok
      rw [hds, hms] at e1
      rw [hms] at e2
      refine ⟨by rw [htm]; exact ha1.fr, ?_, ?_, ha1.kb⟩
      · rw [hdf, List.map_cons, hmk, e1]
      · intro m hm
        rcases List.mem_cons.1 hm with rfl | hm
        · exact h1.mono hp.length_le
        · exact e2 m hm
    · rename_i hdo
      simp only [hdo]
      refine stepOp_sound h hpz ha ?_ hd
      intro sf' ir' env' a' w' h' hp ha' hd'
      exact compL_sound r sf' k env' a' w' ir' h' (hpz.mono hp) ha' (hk.mono hp) hd'

theorem bothAll_all {J : JL} {K : KZ} {env : List Value} {w : World} : ∀ {l : List (Option IR)} {ir : IR}, bothAll l = some ir → den P ir env J K w → ∀ x ∈ l, ∃ i, x = some i ∧ den P i env J K w
  | [], _, h, _ => by cases h
  | [x], ir, h, hd => by
    intro y hy
    simp only [List.mem_singleton] at hy
    subst hy
    exact ⟨ir, h, hd⟩
  | x :: y :: r, ir, h, hd => by
    simp only [bothAll] at h
    obtain ⟨a, ha, h⟩ := bind_some h
    obtain ⟨b, hb, h⟩ := bind_some h
    cases h
    intro z hz
    rcases List.mem_cons.1 hz with rfl | hz
    · exact ⟨a, ha, hd.1⟩
    · exact bothAll_all hb hd.2 z hz

theorem compA_sound {zq : ZQ} (hq : zq.isQuiet = false) {pz : PZ} {ops : Array Oper} {J : JL} {K : KZ} {Q : Act → World → Prop} : ∀ (fuel : Nat) (listed : Array Bool) (sf : SF) (k : SF → Nat → Option IR) (env : List Value) (a : Act) (w : World) (ir : IR),
    compA P pz ops (masks ops) fuel listed sf env.length k = some ir → PzOk P pz env K zq → Closed ops listed → Ag env sf a → KOk1 P k env J K Q → den P ir env J K w → wpAnyS P zq ops Q fuel listed a w
  | 0, listed, sf, k, env, a, w, ir, h, hpz, hc, ha, hk, hd => by
    unfold compA at h
    split at h
    · rename_i h0; exact ⟨h0, hk sf ir env a w h (List.prefix_refl _) ha hd⟩
    · cases h
  | fuel + 1, listed, sf, k, env, a, w, ir, h, hpz, hc, ha, hk, hd => by
    unfold compA at h
    have step : ∀ (i : Nat) (ir' : IR), i ∈ Region.ready .any ops listed →
        stepOp P pz ops i sf env.length (fun sf lvl => compA P pz ops (masks ops) fuel (listed.setIfInBounds i true) sf lvl k) = some ir' → den P ir' env J K w →
        wpS P zq ops i (wpAnyS P zq ops Q fuel (listed.setIfInBounds i true)) a w := by
      intro i ir' hi h' hd'
      refine stepOp_sound h' hpz ha ?_ hd'
      intro sf2 ir2 env2 a2 w2 h2 hp ha2 hd2
      exact compA_sound hq fuel _ sf2 k env2 a2 w2 ir2 h2 (hpz.mono hp) (hc.set hi) ha2 (hk.mono hp) hd2
    split at h
    · rename_i h0
      exact ⟨fun _ => hk sf ir env a w h (List.prefix_refl _) ha hd, fun i hi => by rw [h0] at hi; cases hi⟩
    · rename_i hne
      split at h
      · rename_i i hf
        have hi : i ∈ Region.ready .any ops listed := List.mem_of_find?_eq_some hf
        have hfree : free P zq.isPan ops (masks ops) listed i = true := by rw [hpz.some_eq]; simpa using List.find?_some hf
        exact take_first hq fuel listed i a w hc hi hfree (step i ir hi h hd)
      · refine ⟨fun h0 => absurd h0 hne, fun i hi => ?_⟩
        obtain ⟨ir', h', hd'⟩ := bothAll_all h hd _ (List.mem_map.2 ⟨i, hi, rfl⟩)
        exact step i ir' hi h' hd'

theorem closed_none (ops : Array Oper) : Closed ops (Array.replicate ops.size false) := by
  intro j o _ hj
  rw [Array.getD_eq_getD_getElem?, Array.getElem?_replicate] at hj
  split at hj <;> simp at hj

theorem compR_sound {zq : ZQ} {pz : PZ} {id : Nat} {ops : Array Oper} {draw : Bool} {ro : Option Nat} {n : Nat} {Q : Exit → Act → World → Prop} {sf : SF} {k : SF → Nat → Option IR} {env : List Value} {J : JL} {K : KZ} {a : Act} {w : World} {ir : IR}
    {top : Bool} (ht : top = true → ro = none) (hm : P.follows .mixedOrders = true) (h : compR P pz top ops draw sf env.length k = some ir) (hpz : PzOk P pz env K zq) (hz : ZOk zq Q) (ha : Ag env sf a) (hk : KOk1 P k env J K (Q .normal)) (hd : den P ir env J K w) : (Code.region id ops draw).wpIn (FW ro) n P Q a w := by
  unfold compR at h
  split at h
  · rename_i hdr
    subst hdr
    split at h
    · rename_i hmany
      obtain ⟨ir', h', h⟩ := bind_some h
      cases h
      obtain ⟨C, hC, hd⟩ := hd
      have hmany' : pz = .no ∧ quietOk ops (masks ops) = true := by
        unfold manyOrders at hmany
        split at hmany
        · simp only [Bool.and_eq_true] at hmany
          exact ⟨rfl, hmany.2⟩
        · cases hmany
      obtain ⟨rfl, hok⟩ := hmany'
      refine wpIn_region_any hm (wpAnyS_sound (zq := .no) ⟨rfl, fun z hz => by cases hz⟩ (fun _ _ h => h) _ _ _ _ ?_)
      have convN : ∀ (l : List Nat) (a : Act) (w : World), wpSL P .no false ops (Q .normal) l a w → wpNL P ops (Q .normal) l a w := by
        intro l
        induction l with
        | nil => intro a w h; exact h
        | cons i r ih =>
          intro a w h
          exact wpS_mono (fun a w => ih a w) h
      have hL := compL_sound (zq := .quiet C) (K := ⟨K.k, K.z, C :: K.c⟩) (Q := fun a _ => ∀ w', C w' → wpNL P ops (Q .normal) (List.range' (cutOf (masks ops) ops.size) (ops.size - cutOf (masks ops) ops.size)) a w') _ sf _ env a w.drew ir' h' rfl ha (fun sf2 ir2 env2 a2 w2 h2 hp2 ha2 hd2 => by
        obtain ⟨ir3, h3, h2⟩ := bind_some h2
        cases h2
        intro w' hC'
        exact convN _ _ _ (compL_sound (zq := .no) (pz := .no) _ sf2 k env2 a2 w' ir3 h3 trivial ha2 (hk.mono hp2) (hd2 w' hC'))) hd
      refine wpAny_of_quiet hok (w := w.drew) ?_ hC
      have conv : ∀ (K' : Act → World → Prop) (l : List Nat) (a : Act) (w : World), wpSL P (.quiet C) false ops K' l a w → wpQL P C ops K' l a w := by
        intro K' l
        induction l with
        | nil => intro a w h; exact h
        | cons i r ih =>
          intro a w h
          exact wpS_mono (fun a w => ih a w) h
      exact conv _ _ _ _ hL
    · obtain ⟨ir', h', h⟩ := bind_some h
      cases h
      refine wpIn_region_any hm (wpAnyS_sound hz (fun _ _ h => h) _ _ _ _ ?_)
      exact compA_sound hz.1 _ _ sf k env a _ ir' h' hpz (closed_none ops) ha hk hd
  · rename_i hdr
    have : draw = false := by simpa using hdr
    subst this
    exact wpIn_region (wpSL_sound hz ht _ _ _ (compL_sound _ sf k env a w ir h hpz ha hk hd))

end Go.Gx
