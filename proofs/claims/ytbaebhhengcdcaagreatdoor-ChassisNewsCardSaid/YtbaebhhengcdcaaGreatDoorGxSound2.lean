/- What 'comp' tells of code is so: joins, loops, statements, functions. -/
import Derived.Test.YtbaebhhengcdcaaGreatDoorGxSound
namespace Go.Gx
open Go
variable {P : Program}

/-! ### Where ways meet -/

theorem ceq_eq {a b : Value} (h : ceq a b = true) : a = b := by
  unfold ceq at h
  split at h
  · rw [beq_iff_eq] at h; rw [h]
  · rw [Bool.and_eq_true, beq_iff_eq, beq_iff_eq] at h; rw [h.1, h.2]
  · rfl
  · rw [Bool.and_eq_true, beq_iff_eq, beq_iff_eq] at h; rw [h.1, h.2]
  · rfl
  · rfl
  · rfl
  · rename_i f a b g c d
    simp only [Bool.and_eq_true, beq_iff_eq] at h
    obtain ⟨⟨⟨⟨rfl, h1⟩, h2⟩, h3⟩, h4⟩ := h
    rw [Array.size_eq_zero_iff.1 h1, Array.size_eq_zero_iff.1 h2, Array.size_eq_zero_iff.1 h3, Array.size_eq_zero_iff.1 h4]
  · cases h

theorem same_ev {x y : Operand} (h : same x y = true) {env env' : List Value} (hp : env <+: env') (hx : okO env.length x) : ev env x = ev env' y := by
  unfold same at h
  split at h
  · rw [beq_iff_eq] at h; subst h; exact (ev_prefix hp hx).symm
  · exact ceq_eq h
  · rw [beq_iff_eq] at h; subst h; rfl
  · rw [beq_iff_eq] at h; subst h; rfl
  · cases h

theorem keep_some {e : Option Operand} {x : Operand} (h : keep e = some x) : e = some x := by
  unfold keep at h
  split at h
  · split at h
    · exact h
    · cases h
  · cases h

theorem values_agree {md lv : Nat} {all : Bool} {env env' : List Value} (hp : env <+: env') : ∀ (fr fr' : List (Option Operand)) (i : Nat) (pre : List Value) (xs : List Operand) (vs vs0 : List Value),
    values md lv all i fr fr' = some xs → AgL env' fr' vs → AgL env fr vs0 → AgL (env ++ pre ++ xs.map (ev env')) (target md lv all i (env.length + pre.length) fr) vs
  | [], [], i, pre, xs, vs, vs0, h, ha, h0 => by
    cases vs with
    | nil => exact trivial
    | cons => exact ha.elim
  | e :: r, s :: q, i, pre, xs, [], vs0, h, ha, h0 => ha.elim
  | e :: r, s :: q, i, pre, xs, v :: vs, [], h, ha, h0 => h0.elim
  | e :: r, s :: q, i, pre, xs, v :: vs, v0 :: vs0, h, ha, h0 => by
    unfold values at h
    unfold target
    split at h
    · rename_i hc
      rw [if_pos hc]
      split at h
      · rename_i x
        obtain ⟨ys, hys, h⟩ := bind_some h
        cases h
        have ih := values_agree hp r q (i + 1) (pre ++ [ev env' x]) ys vs vs0 hys ha.2 h0.2
        have e1 : env ++ pre ++ List.map (ev env') (x :: ys) = env ++ (pre ++ [ev env' x]) ++ List.map (ev env') ys := by simp
        have e2 : env.length + pre.length + 1 = env.length + (pre ++ [ev env' x]).length := by simp; omega
        rw [e1, e2]
        refine ⟨fun z hz => ?_, ih⟩
        cases hz
        obtain ⟨_, hx2⟩ := ha.1 x rfl
        refine ⟨by simp [okO], ?_⟩
        rw [← hx2]
        simp only [ev, List.getD_eq_getElem?_getD]
        rw [List.getElem?_append_left (by simp), ← List.append_assoc, List.getElem?_append_right (by simp)]
        simp
      · cases h
    · rename_i hc
      rw [if_neg hc]
      split at h
      · rename_i hm
        rw [if_pos hm]
        exact ⟨fun z hz => (by cases hz), values_agree hp r q (i + 1) pre xs vs vs0 h ha.2 h0.2⟩
      · rename_i hm
        rw [if_neg hm]
        split at h
        · rename_i hk
          refine ⟨fun z hz => ?_, values_agree hp r q (i + 1) pre xs vs vs0 h ha.2 h0.2⟩
          rw [hk] at hz; cases hz
        · rename_i x y hk
          split at h
          · rename_i hs
            refine ⟨fun z hz => ?_, values_agree hp r q (i + 1) pre xs vs vs0 h ha.2 h0.2⟩
            rw [hk] at hz
            cases hz
            obtain ⟨hx1, _⟩ := h0.1 x (keep_some hk)
            obtain ⟨_, hy2⟩ := ha.1 y rfl
            have hpp : env <+: env ++ pre ++ List.map (ev env') xs := by rw [List.append_assoc]; exact List.prefix_append _ _
            exact ⟨hx1.mono hpp.length_le, by rw [ev_prefix hpp hx1, same_ev hs hp hx1]; exact hy2⟩
          · cases h
        · cases h
  | [], _ :: _, _, _, _, _, _, h, _, _ => by cases h
  | _ :: _, [], _, _, _, _, _, h, _, _ => by cases h

theorem values_len {md lv : Nat} {all : Bool} : ∀ (fr fr' : List (Option Operand)) (i : Nat) (xs : List Operand), values md lv all i fr fr' = some xs → xs.length = count md lv all i fr
  | [], [], i, xs, h => by cases h; rfl
  | e :: r, s :: q, i, xs, h => by
    unfold values at h
    unfold count
    split at h
    · rename_i hc
      rw [if_pos hc]
      split at h
      · obtain ⟨ys, hys, h⟩ := bind_some h
        cases h
        simp only [List.length_cons, values_len r q (i + 1) ys hys]; omega
      · cases h
    · rename_i hc
      rw [if_neg hc, Nat.zero_add]
      split at h
      · exact values_len r q (i + 1) xs h
      · split at h
        · exact values_len r q (i + 1) xs h
        · split at h
          · exact values_len r q (i + 1) xs h
          · cases h
        · cases h
  | [], _ :: _, _, _, h => by cases h
  | _ :: _, [], _, _, h => by cases h

theorem sameAll_marks {env env' : List Value} (hp : env <+: env') : ∀ {l l' : List Operand}, sameAll l l' = true → (∀ m ∈ l, okO env.length m) → l'.map (markOf env') = l.map (markOf env)
  | [], [], _, _ => rfl
  | x :: r, y :: q, h, hok => by
    simp only [sameAll, Bool.and_eq_true] at h
    simp only [List.map_cons, markOf]
    rw [same_ev h.1 hp (hok x (by simp)), ← sameAll_marks hp h.2 fun m hm => hok m (by simp [hm])]
  | [], _ :: _, h, _ => by cases h
  | _ :: _, [], h, _ => by cases h

/-- what stands behind is as it is told -/
def KOk (P : Program) (k : Clo) (env0 : List Value) (J0 : JL) (K : KZ) (Q : Act → World → Prop) : Prop :=
  ∀ sf ir env J a w, k sf env.length J.length = some ir → env0 <+: env → J0 <+: J → Ag env sf a → den P ir env J K w → Q a w

theorem KOk.mono {k : Clo} {env0 env1 : List Value} {J0 J1 : JL} {K : KZ} {Q : Act → World → Prop} (h : KOk P k env0 J0 K Q) (hp : env0 <+: env1) (hJ : J0 <+: J1) : KOk P k env1 J1 K Q :=
  fun sf ir env J a w hk hp' hJ' ha hd => h sf ir env J a w hk (hp.trans hp') (hJ.trans hJ') ha hd

theorem KOk.weak {k : Clo} {env0 : List Value} {J0 : JL} {K : KZ} {Q Q' : Act → World → Prop} (h : KOk P k env0 J0 K Q) (hq : ∀ a w, Q a w → Q' a w) : KOk P k env0 J0 K Q' :=
  fun sf ir env J a w hk hp hJ ha hd => hq _ _ (h sf ir env J a w hk hp hJ ha hd)

theorem KOk.one {k : Clo} {env0 : List Value} {J0 : JL} {K : KZ} {Q : Act → World → Prop} (h : KOk P k env0 J0 K Q) {J : JL} (hJ : J0 <+: J) : KOk1 P (fun sf lvl => k sf lvl J.length) env0 J K Q :=
  fun sf ir env a w hk hp ha hd => h sf ir env J a w hk hp hJ ha hd

/-- the frame behind a jump -/
theorem jump_agree {md lv : Nat} {all : Bool} {env env' : List Value} (hp : env <+: env') {sf sf' : SF} {a0 a : Act} (h0 : Ag env sf a0) (ha : Ag env' sf' a) {xs : List Operand}
    (hms : sf'.ms.map (markOf env') = sf.ms.map (markOf env)) (h : values md lv all 0 sf.fr sf'.fr = some xs) :
    Ag (env ++ xs.map (ev env')) { sf with fr := target md lv all 0 env.length sf.fr } a where
  fr := by
    have := values_agree hp sf.fr sf'.fr 0 [] xs _ _ h ha.fr h0.fr
    simpa using this
  ms := by
    have hpp : env <+: env ++ xs.map (ev env') := List.prefix_append _ _
    rw [ha.ms, hms]
    exact List.map_congr_left fun m hm => by rw [markOf, markOf, ev_prefix hpp (h0.mok m hm)]
  mok := fun m hm => (h0.mok m hm).mono (List.prefix_append _ _).length_le
  kb := fun x b hx => by
    have hpp : env <+: env ++ xs.map (ev env') := List.prefix_append _ _
    obtain ⟨h1, h2⟩ := h0.kb x b hx
    exact ⟨Nat.lt_of_lt_of_le h1 hpp.length_le, (ev_prefix hpp (x := .tmp x) h1).trans h2⟩

theorem getElem_prefix {α : Type} {l l' : List α} {x : α} (h : l ++ [x] <+: l') : l'[l.length]? = some x := by
  obtain ⟨t, rfl⟩ := h
  rw [List.append_assoc, List.getElem?_append_right (Nat.le_refl _)]
  simp

theorem jumpC_ok {md lv : Nat} {all : Bool} {env : List Value} {J : JL} {K : KZ} {Q : Act → World → Prop} {sf : SF} {a0 : Act} (h0 : Ag env sf a0) {n : Nat} {X : JT n} (hn : n = count md lv all 0 sf.fr)
    (hX : ∀ vs a w, vs.length = n → JT.app n X vs w → Ag (env ++ vs) { sf with fr := target md lv all 0 env.length sf.fr } a → Q a w) :
    KOk P (jumpC md lv all J.length sf) env (J ++ [⟨n, X⟩]) K Q := by
  intro sf' ir env' J' a w h hp hJ ha hd
  unfold jumpC at h
  split at h
  · rename_i hms
    obtain ⟨xs, hxs, h⟩ := bind_some h
    cases h
    simp only [den, jumpTo, getElem_prefix hJ] at hd
    exact hX _ a w (by rw [List.length_map, values_len _ _ _ _ hxs, hn]) hd (jump_agree hp h0 ha (sameAll_marks hp hms h0.mok) hxs)
  · cases h

theorem joinW_sound {md lv : Nat} {sf : SF} {env : List Value} {J : JL} {K : KZ} {Q : Act → World → Prop} {m : Clo → Nat → Option IR} {k : Clo} {a : Act} {w : World} {ir : IR} {R : Prop}
    (h : joinW md lv sf env.length J.length m k = some ir) (ha : Ag env sf a) (hk : KOk P k env J K Q) (hd : den P ir env J K w)
    (hm : ∀ (k1 : Clo) (J1 : JL) (ir1 : IR), J <+: J1 → KOk P k1 env J1 K Q → m k1 J1.length = some ir1 → den P ir1 env J1 K w → R) : R := by
  unfold joinW at h
  obtain ⟨ir1, h1, h⟩ := bind_some h
  obtain ⟨ir2, h2, h⟩ := bind_some h
  cases h
  simp only [den, jnJ_eq] at hd
  refine hm (jumpC md lv true J.length sf) _ ir1 (List.prefix_append _ _) ?_ (by simpa using h1) hd
  refine jumpC_ok ha rfl fun vs a' w' hlen happ hag => ?_
  rw [JT.app_mk _ _ _ _ hlen] at happ
  exact hk _ ir2 (env ++ vs) J a' w' (by rw [List.length_append, hlen]; exact h2) (List.prefix_append _ _) (List.prefix_refl _) hag happ

theorem joinIf_sound {c : Bool} {md lv : Nat} {sf : SF} {env : List Value} {J : JL} {K : KZ} {Q : Act → World → Prop} {m : Clo → Nat → Option IR} {k : Clo} {a : Act} {w : World} {ir : IR} {R : Prop}
    (h : joinIf c md lv sf env.length J.length m k = some ir) (ha : Ag env sf a) (hk : KOk P k env J K Q) (hd : den P ir env J K w)
    (hm : ∀ (k1 : Clo) (J1 : JL) (ir1 : IR), J <+: J1 → KOk P k1 env J1 K Q → m k1 J1.length = some ir1 → den P ir1 env J1 K w → R) : R := by
  unfold joinIf at h
  split at h
  · exact joinW_sound h ha hk hd hm
  · exact hm k J ir (List.prefix_refl _) hk h hd

theorem dispatch_ok {c : Operand} {x y : Clo} {env : List Value} {J : JL} {K : KZ} {Q : Act → World → Prop}
    (hx : KOk P x env J K fun a w => a.eval c = .bool true → Q a w) (hy : KOk P y env J K fun a w => a.eval c = .bool false → Q a w) : KOk P (dispatch c x y) env J K Q := by
  intro sf ir env' J' a w h hp hJ ha hd
  unfold dispatch at h
  obtain ⟨g, hg, h⟩ := bind_some h
  obtain ⟨hok, hev⟩ := tr_eval ha hg
  split at h
  · rename_i hs; exact hx sf ir env' J' a w h hp hJ ha hd (by rw [hev]; exact static_ev ha hs)
  · rename_i hs; exact hy sf ir env' J' a w h hp hJ ha hd (by rw [hev]; exact static_ev ha hs)
  · split at h
    · rename_i v _
      obtain ⟨t, ht, h⟩ := bind_some h
      obtain ⟨f, hf, h⟩ := bind_some h
      cases h
      obtain ⟨b, hc, hd⟩ := brn_elim hd
      have hc' : env'.getD v undef = .bool b := hc
      cases b with
      | true => exact hx _ t env' J' a w ht hp hJ (ha.know hok hc') hd (by rw [hev]; exact hc)
      | false => exact hy _ f env' J' a w hf hp hJ (ha.know hok hc') hd (by rw [hev]; exact hc)
    · cases h

/-! ### Loops -/

/-- at the head of a round -/
def LoopWp (P : Program) (ro : Option Nat) (c : Code) (Q : Exit → Act → World → Prop) (a : Act) (w : World) : Prop :=
  ∀ (b : Frame) (k : List Item) (cs : List Frame), b.roundOf = ro →
    ∃ e a' w', Q e a' w' ∧ ArrivesIn (Machine.fenced P (FW ro)) P (lone (b.atR a (.code c :: .inLoop c :: k)) cs w) b k cs e a' w'

theorem fenced_FW {ro : Option Nat} (m : Machine) : Machine.fenced P (FW ro) m := fenced_wide P m
theorem room_FW {ro : Option Nat} (n : Nat) : (FW ro).room n := room_wide n

theorem loopWp_round {ro : Option Nat} {n : Nat} {c : Code} {Q : Exit → Act → World → Prop} {a : Act} {w : World}
    (h : c.wpIn (FW ro) n P (Exit.then (LoopWp P ro c Q) Q) a w) : LoopWp P ro c Q a w := by
  intro b k cs hro
  obtain ⟨e, a₁, w₁, hq, harr⟩ := h b (.inLoop c :: k) cs hro trivial (room_FW _)
  cases e with
  | normal =>
    obtain ⟨e₂, a₂, w₂, hq₂, harr₂⟩ := hq b k cs hro
    exact ⟨e₂, a₂, w₂, hq₂, .of_steps (StepsIn.trans harr (.one (fenced_FW _) stepR_inLoop)) harr₂⟩
  | exit id => exact ⟨_, a₁, w₁, hq, .pass (x := .inLoop c) rfl (fun _ _ => .inl (by simp)) harr⟩
  | goto l => exact ⟨_, a₁, w₁, hq, .pass (x := .inLoop c) rfl (fun _ _ => .inl (by simp)) harr⟩
  | ret => exact ⟨_, a₁, w₁, hq, .pass (x := .inLoop c) rfl (fun _ _ => .inl (by simp)) harr⟩
  | panic ch => exact ⟨_, a₁, w₁, hq, .pass (x := .inLoop c) rfl (fun _ _ => .inl (by simp)) harr⟩
  | outgrown => exact ⟨_, a₁, w₁, hq, .pass (x := .inLoop c) rfl (fun _ _ => .inl (by simp)) harr⟩

theorem loop_of_loopWp {ro : Option Nat} {n : Nat} {c : Code} {Q : Exit → Act → World → Prop} {a : Act} {w : World} (h : LoopWp P ro c Q a w) : (Code.loop c).wpIn (FW ro) n P Q a w := by
  intro b k cs hro _ _
  obtain ⟨e, a', w', hq, harr⟩ := h b k cs hro
  exact ⟨e, a', w', hq, .of_steps (.one (fenced_FW _) stepR_loop) harr⟩

/-! ### Statements -/

structure CtxOk (P : Program) (ctx : Ctx) (ro : Option Nat) (env : List Value) (J : JL) (K : KZ) (Q : Exit → Act → World → Prop) : Prop where
  ret : KOk P ctx.ret env J K (Q .ret)
  exit : ∀ id, KOk P (ctx.exit id) env J K (Q (.exit id))
  round : ctx.round = false → ro = none
  pan : ∃ zq, PzOk P ctx.pz env K zq ∧ ZOk zq Q

theorem CtxOk.mono {ctx : Ctx} {ro : Option Nat} {env env' : List Value} {J J' : JL} {K : KZ} {Q : Exit → Act → World → Prop} (h : CtxOk P ctx ro env J K Q) (hp : env <+: env') (hJ : J <+: J') : CtxOk P ctx ro env' J' K Q :=
  ⟨h.ret.mono hp hJ, fun id => (h.exit id).mono hp hJ, h.round, let ⟨zq, h1, h2⟩ := h.pan; ⟨zq, h1.mono hp, h2⟩⟩

theorem CtxOk.weak {ctx : Ctx} {ro : Option Nat} {env : List Value} {J : JL} {K : KZ} {Q Q' : Exit → Act → World → Prop} (h : CtxOk P ctx ro env J K Q) (hr : ∀ a w, Q .ret a w → Q' .ret a w)
    (he : ∀ id a w, Q (.exit id) a w → Q' (.exit id) a w) (hp : ∀ ch a w, Q (.panic ch) a w → Q' (.panic ch) a w) : CtxOk P ctx ro env J K Q' :=
  ⟨h.ret.weak hr, fun id => (h.exit id).weak (he id), h.round, let ⟨zq, h1, h2⟩ := h.pan; ⟨zq, h1, h2.1, fun z hz a v w hh => hp _ _ _ (h2.2 z hz a v w hh)⟩⟩

theorem CtxOk.with {ctx : Ctx} {ro : Option Nat} {env : List Value} {J : JL} {K : KZ} {Q : Exit → Act → World → Prop} (h : CtxOk P ctx ro env J K Q) (id out : Nat) {k : Clo} (hk : KOk P k env J K (Q .normal)) :
    CtxOk P (ctx.with id out k) ro env J K (Exit.inBlock id Q) := by
  refine ⟨h.ret, fun id' => ?_, h.round, h.pan⟩
  by_cases e : id' = id
  · subst e
    have h1 : (ctx.with id' out k).exit id' = k := by simp [Ctx.exit, Ctx.with]
    rw [h1]
    exact hk.weak fun a w hq => by simp only [Exit.inBlock, if_true]; exact hq
  · have h1 : (ctx.with id out k).exit id' = ctx.exit id' := by
      have : (id' == id) = false := by simpa using e
      simp [Ctx.exit, Ctx.with, List.lookup_cons, this]
    rw [h1]
    exact (h.exit id').weak fun a w hq => by simp only [Exit.inBlock, e, if_false]; exact hq

def Sound (P : Program) (c : Code) : Prop :=
  ∀ (ro : Option Nat) (sf : SF) (ctx : Ctx) (out : Nat) (big : Bool) (k : Clo) (env : List Value) (J : JL) (K : KZ) (Q : Exit → Act → World → Prop) (a : Act) (w : World) (ir : IR),
    comp P c sf env.length J.length ctx out big k = some ir → KOk P k env J K (Q .normal) → CtxOk P ctx ro env J K Q → Ag env sf a → den P ir env J K w → c.wpIn (FW ro) 0 P Q a w

/-- a statement, as what stands behind another one -/
theorem Sound.ok {c : Code} (h : Sound P c) {ro : Option Nat} {ctx : Ctx} {out : Nat} {big : Bool} {k : Clo} {env : List Value} {J : JL} {K : KZ} {Q : Exit → Act → World → Prop}
    (hk : KOk P k env J K (Q .normal)) (hc : CtxOk P ctx ro env J K Q) :
    KOk P (fun sf lvl dep => comp P c sf lvl dep ctx out big k) env J K (c.wpIn (FW ro) 0 P Q) :=
  fun sf ir env' J' a w h' hp hJ ha hd => h ro sf ctx out big k env' J' K Q a w ir h' (hk.mono hp hJ) (hc.mono hp hJ) ha hd

theorem sound_region (hm : P.follows .mixedOrders = true) (id : Nat) (ops : Array Oper) (draw : Bool) : Sound P (.region id ops draw) := by
  intro ro sf ctx out big k env J K Q a w ir h hk hc ha hd
  simp only [comp] at h
  refine joinIf_sound h ha hk hd fun k1 J1 ir1 hJ1 hk1 h1 hd1 => ?_
  obtain ⟨zq, hz1, hz2⟩ := hc.pan
  exact compR_sound (fun ht => hc.round (by simpa using ht)) hm h1 hz1 hz2 ha (hk1.one (List.prefix_refl _)) hd1

theorem sound_cond {c : Operand} {x y : Code} (hx : Sound P x) (hy : Sound P y) : Sound P (.cond c x y) := by
  intro ro sf ctx out big k env J K Q a w ir h hk hc ha hd
  simp only [comp] at h
  refine joinIf_sound h ha hk hd fun k1 J1 ir1 hJ1 hk1 h1 hd1 => ?_
  have hc1 := hc.mono (List.prefix_refl env) hJ1
  exact dispatch_ok (Q := (Code.cond c x y).wpIn (FW ro) 0 P Q) ((hx.ok hk1 hc1).weak fun a w hq hcc => wpIn_cond_true hcc hq) ((hy.ok hk1 hc1).weak fun a w hq hcc => wpIn_cond_false hcc hq)
    sf ir1 env J1 a w h1 (List.prefix_refl _) (List.prefix_refl _) ha hd1

theorem sound_seq {x y : Code} (hx : Sound P x) (hy : Sound P y) {ro : Option Nat} {sf : SF} {ctx : Ctx} {out : Nat} {big : Bool} {k : Clo} {env : List Value} {J : JL} {K : KZ} {Q : Exit → Act → World → Prop} {a : Act} {w : World} {ir : IR} {o1 : Nat} {b1 : Bool}
    (h : comp P x sf env.length J.length ctx o1 b1 (fun sf lvl dep => comp P y sf lvl dep ctx out big k) = some ir) (hk : KOk P k env J K (Q .normal)) (hc : CtxOk P ctx ro env J K Q) (ha : Ag env sf a) (hd : den P ir env J K w) :
    (Code.seq x y).wpIn (FW ro) 0 P Q a w :=
  wpIn_seq (hx ro sf ctx o1 b1 _ env J K _ a w ir h ((hy.ok hk hc).weak fun _ _ hq => hq) (hc.weak (fun _ _ hq => hq) (fun _ _ _ hq => hq) fun _ _ _ hq => hq) ha hd)

theorem sound_seq_cond (hm : P.follows .mixedOrders = true) (id : Nat) (ops : Array Oper) (draw : Bool) {c : Operand} {x y : Code} (hx : Sound P x) (hy : Sound P y) : Sound P (.seq (.region id ops draw) (.cond c x y)) := by
  intro ro sf ctx out big k env J K Q a w ir h hk hc ha hd
  simp only [comp] at h
  refine joinIf_sound h ha hk hd fun k1 J1 ir1 hJ1 hk1 h1 hd1 => ?_
  have hc1 := hc.mono (List.prefix_refl env) hJ1
  refine joinIf_sound h1 ha ((hx.ok hk1 hc1)) hd1 fun k2 J2 ir2 hJ2 hk2 h2 hd2 => ?_
  refine joinIf_sound h2 ha ((hy.ok hk1 hc1).mono (List.prefix_refl env) hJ2) hd2 fun k3 J3 ir3 hJ3 hk3 h3 hd3 => ?_
  obtain ⟨zq, hz1, hz2⟩ := hc.pan
  refine wpIn_seq (compR_sound (fun ht => hc.round (by simpa using ht)) hm h3 hz1 ⟨hz2.1, fun z hz a v w hh => hz2.2 z hz a v w hh⟩ ha ?_ hd3)
  have hdis : KOk P (dispatch c k2 k3) env J3 K ((Code.cond c x y).wpIn (FW ro) 0 P Q) :=
    dispatch_ok ((hk2.mono (List.prefix_refl env) hJ3).weak fun a w hq hcc => wpIn_cond_true hcc hq) (hk3.weak fun a w hq hcc => wpIn_cond_false hcc hq)
  exact (hdis.weak fun _ _ hq => hq).one (List.prefix_refl _)

theorem sound_block {id : Nat} {b : Code} (hb : Sound P b) : Sound P (.block id b) := by
  intro ro sf ctx out big k env J K Q a w ir h hk hc ha hd
  simp only [comp] at h
  refine joinIf_sound h ha hk hd fun k1 J1 ir1 hJ1 hk1 h1 hd1 => ?_
  have hc1 := hc.mono (List.prefix_refl env) hJ1
  exact wpIn_block (hb ro sf _ _ _ _ env J1 K _ a w ir1 h1 (hk1.weak fun _ _ hq => hq) (hc1.with id out hk1) ha hd1)

theorem sound_loop {b : Code} (hb : Sound P b) : Sound P (.loop b) := by
  intro ro sf ctx out big k env J K Q a w ir h hk hc ha hd
  simp only [comp, loopW] at h
  obtain ⟨init, hinit, h⟩ := bind_some h
  obtain ⟨b', hb', h⟩ := bind_some h
  cases h
  simp only [den] at hd
  have hlen : (init.map (ev env)).length = count (mods b) (live b 0 ctx.lives ctx.retLive) false 0 sf.fr := by rw [List.length_map, values_len _ _ _ _ hinit]
  rw [loopJ, JT.app_mk _ _ _ _ hlen] at hd
  -- the predicate: what the machine does from the head of a round
  have key := hd (JT.mk _ fun vs w => ∀ a, Ag (env ++ vs) { sf with fr := target (mods b) (live b 0 ctx.lives ctx.retLive) false 0 env.length sf.fr } a → LoopWp P ro b Q a w) ?_
  · rw [JT.app_mk _ _ _ _ hlen] at key
    exact loop_of_loopWp (key a (jump_agree (List.prefix_refl env) ha ha rfl hinit))
  · refine (JT.all_iff _ _).2 fun vs hvs w' hB => ?_
    rw [JT.app_mk _ _ _ _ hvs] at hB ⊢
    intro a' ha'
    refine loopWp_round (hb ro _ ctx (live b 0 ctx.lives ctx.retLive) false (jumpC (mods b) (live b 0 ctx.lives ctx.retLive) false J.length sf) (env ++ vs) _ K (Exit.then (LoopWp P ro b Q) Q) a' w' b' ?_ ?_ ?_ ha' hB)
    · simp only [List.length_append, List.length_singleton, hvs]; exact hb'
    · exact (jumpC_ok ha rfl fun us a2 w2 hus happ hag => (by rw [JT.app_mk _ _ _ _ hus] at happ; exact happ a2 hag)).mono (List.prefix_append _ _) (List.prefix_refl _)
    · exact (hc.mono (List.prefix_append _ _) (List.prefix_append _ _)).weak (fun _ _ hq => hq) (fun _ _ _ hq => hq) fun _ _ _ hq => hq

end Go.Gx
