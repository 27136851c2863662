/- A function's code as a predicate transformer on values alone: no frame, no machine. 'comp' turns code into 'IR', 'den' says what that asks. -/
import Derived.Test.YtbaebhhengcdcaaGreatDoorGxRegion
namespace Go.Gx
open Go

/-! ### Predicates of several values -/

@[reducible] def JT : Nat → Type
  | 0 => World → Prop
  | n + 1 => Value → JT n

def JT.app : (n : Nat) → JT n → List Value → World → Prop
  | 0, f, [] => f
  | n + 1, f, v :: vs => JT.app n (f v) vs
  | _, _, _ => fun _ => False

def JT.mk : (n : Nat) → (List Value → World → Prop) → JT n
  | 0, f => f []
  | n + 1, f => fun v => JT.mk n fun vs => f (v :: vs)

def JT.all : (n : Nat) → (List Value → Prop) → Prop
  | 0, p => p []
  | n + 1, p => ∀ v, JT.all n fun vs => p (v :: vs)

theorem JT.app_mk : ∀ (n : Nat) (f : List Value → World → Prop) (vs : List Value) (w : World), vs.length = n → JT.app n (JT.mk n f) vs w = f vs w
  | 0, _, [], _, _ => rfl
  | n + 1, f, v :: vs, w, h => JT.app_mk n (fun us => f (v :: us)) vs w (by simpa using h)
  | 0, _, _ :: _, _, h => by simp at h
  | _ + 1, _, [], _, h => by simp at h

theorem JT.app_len : ∀ (n : Nat) (f : JT n) (vs : List Value) (w : World), JT.app n f vs w → vs.length = n
  | 0, _, [], _, _ => rfl
  | n + 1, f, v :: vs, w, h => by simpa using JT.app_len n (f v) vs w h
  | 0, _, _ :: _, _, h => h.elim
  | _ + 1, _, [], _, h => h.elim

theorem JT.all_iff : ∀ (n : Nat) (p : List Value → Prop), JT.all n p ↔ ∀ vs, vs.length = n → p vs
  | 0, p => ⟨fun h vs hv => by cases vs with | nil => exact h | cons => simp at hv, fun h => h [] rfl⟩
  | n + 1, p => ⟨fun h vs hv => by
      cases vs with
      | nil => simp at hv
      | cons v vs => exact (JT.all_iff n _).1 (h v) vs (by simpa using hv),
    fun h v => (JT.all_iff n _).2 fun vs hv => h (v :: vs) (by simpa using hv)⟩

/-- a way back to the head of a loop: the least predicate that what a round asks leads to -/
def loopJ (n : Nat) (B : JT n → JT n) : JT n :=
  JT.mk n fun vs w => ∀ X : JT n, (JT.all n fun us => ∀ w, JT.app n (B X) us w → JT.app n X us w) → JT.app n X vs w

/-- where ways meet -/
theorem jn_ex : ∃ f : (n : Nat) → JT n → (JT n → World → Prop) → World → Prop, ∀ n k m, f n k m = m k := ⟨fun _ k m => m k, fun _ _ _ => rfl⟩
/-- 'm k', but that no comparing of terms unfolds it: what stands at a meeting point is not put in at each jump -/
noncomputable def jnJ (n : Nat) (k : JT n) (m : JT n → World → Prop) : World → Prop := Classical.choose jn_ex n k m
theorem jnJ_eq (n : Nat) (k : JT n) (m : JT n → World → Prop) : jnJ n k m = m k := Classical.choose_spec jn_ex n k m

abbrev JL := List (Σ n, JT n)

def jumpTo (J : JL) (l : Nat) (vs : List Value) : World → Prop :=
  match J[l]? with
  | some ⟨n, f⟩ => JT.app n f vs
  | none => fun _ => False

def brn (c : Value) (a b : World → Prop) : World → Prop :=
  match c with
  | .bool t => if t then a else b
  | _ => fun _ => False

/-- an order has been drawn -/
def drw (k : World → Prop) : World → Prop := fun w => k w.drew

def allW (a b : World → Prop) : World → Prop := fun w => a w ∧ b w

/-! ### The code's own small steps that are no operations -/

def blk : Value → Nat
  | .pointer (some a) => a.block
  | _ => 0

namespace S
def take (v : Value) : Sem Next := do
  match ← Instr.takeDeferred (blk v) with
  | [] => pure .skip
  | _ => stuck "take"
def isF (v : Value) : Sem Next :=
  match v with
  | .func .. => pure .skip
  | _ => stuck "isF"
def beginR (v : Value) : Sem Next := do Instr.beginRound (blk v); pure .skip
def endR (v : Value) (jump : Option Code) : Sem Next := do pure (.value (← Instr.endRound (blk v) jump))
end S

inductive SOp where
  | take (v : Operand)
  | isF (v : Operand)
  | beginR (v : Operand)
  | endR (v : Operand) (jump : Option Code)
  deriving Inhabited

def ev (env : List Value) : Operand → Value
  | .tmp i => env.getD i undef
  | .const v => v
  | .global g => .pointer (some ⟨g, 0, none⟩)
  | .func f => .func (.func f) #[] #[]

def SOp.sem (env : List Value) : SOp → Sem Next
  | .take v => S.take (ev env v)
  | .isF v => S.isF (ev env v)
  | .beginR v => S.beginR (ev env v)
  | .endR v j => S.endR (ev env v) j

/-- a closure that was put off is called -/
def dcallS (P : Program) (fv : Fn) (first cap : Array Value) (K : Value → World → Prop) (w : World) : Prop :=
  ∃ f args, (invoke (.fn fv cap) first).run P w = .ok (.enter f args) w ∧ CallsDIn Fence.wide 0 P f args .returning w fun e u' w' => (∃ v, e = .returned v) ∧ u' = .returning ∧ K undef w'

/-- what was put off: a loop's mark is taken, a closure is called -/
def takeD (P : Program) (v : Value) (K : Value → World → Prop) (w : World) : Prop :=
  match v with
  | .func fv first cap => dcallS P fv first cap K w
  | v => opS P (S.take v) K w

def sopS (P : Program) (env : List Value) (s : SOp) (K : Value → World → Prop) (w : World) : Prop :=
  match s with
  | .take v => takeD P (ev env v) K w
  | s => opS P (s.sem env) K w

/-- a closure that was put off is called while something is in panic, and lets that go -/
def dpanS (P : Program) (m x : Value) (K : Value → World → Prop) (w : World) : Prop :=
  match m with
  | .func fv first cap => ∃ f args, (invoke (.fn fv cap) first).run P w = .ok (.enter f args) w ∧
      CallsDIn Fence.wide 0 P f args (.panicking [{ v := x, recovered := false }]) w fun e u' w' => (∃ v, e = .returned v) ∧ settle u' = .returning ∧ K undef w'
  | _ => False

inductive IR where
  | ret (vs : List Operand)
  | opz (how : How) (ty : TypeId) (o : Op) (k kp : IR)
  | pif (x : Operand) (k : IR)
  | pan (x : Operand)
  | dpan (m x : Operand) (k : IR)
  | quiet (k : IR)
  | opq (how : How) (ty : TypeId) (o : Op) (k : IR)
  | gopq (g : Operand) (want : Bool) (how : How) (ty : TypeId) (o : Op) (k : IR)
  | qend (k : IR)
  | op (how : How) (ty : TypeId) (o : Op) (k : IR)
  | sop (s : SOp) (k : IR)
  | ite (c : Operand) (a b : IR)
  | both (a b : IR)
  | draw (k : IR)
  | join (n : Nat) (m k : IR)
  | jump (l : Nat) (vs : List Operand)
  | loop (n : Nat) (init : List Operand) (body : IR)
  | rf (f : Operand) (np : Nat) (body k kret : IR) (xid : Nat) (kx : IR)
  | fail
  deriving Inhabited

def resV : List Value → Value
  | [v] => v
  | vs => .tuple vs.toArray

def LoopSame (a b : Loop) : Prop := a.fn = b.fn ∧ a.tmps = b.tmps ∧ a.params = b.params ∧ a.assign = b.assign ∧ a.body = b.body

def ptr (b : Nat) : Value := .pointer (some ⟨b, 0, none⟩)

/-- a call that enters a function -/
def enterS (P : Program) (s : Sem Next) (K : Value → World → Prop) (w : World) : Prop :=
  match s.run P w with
  | .ok (.enter f args) w' => CallsR P f args K w'
  | _ => False

/-- 'for .. := range f { body }' -/
def rfS (P : Program) (f : Value) (np : Nat) (body : List Value → (Value → World → Prop) → World → Prop) (kn kr : Value → World → Prop) (xid : Nat) (kx : Value → World → Prop) (w : World) : Prop :=
  ∀ L : Loop, L.state = .ready → L.params.size = np → L.pending.isNone = true →
    (∀ (KY : Value → World → Prop) (args : List Value) (w' : World) (L' : Loop), L'.state = .ready → LoopSame L' L → w'.heap[w.heap.size + 1]? = some (.loop L') → args.length = np →
      body (ptr (w.heap.size + 1) :: args) KY w' → opS P (S.call (.func (.yield (w.heap.size + 1)) #[] #[]) args) KY w') →
    enterS P (S.call f [.func (.yield (w.heap.size + 1)) #[] #[]]) (fun _ w3 => ∃ jump w4, (Instr.endLoop (w.heap.size + 1)).run P w3 = .ok jump w4 ∧
      (match jump with
       | none => kn (ptr w.heap.size) w4
       | some .ret => kr (ptr w.heap.size) w4
       | some (.exit i) => if i = xid then kx (ptr w.heap.size) w4 else False
       | _ => False)) ((w.alloc (.deferred (some []))).alloc (.loop L))

/-- what comes of a value that is told, and of a panic -/
structure KZ where
  k : Value → World → Prop
  z : Value → World → Prop
  c : List (World → Prop)

def KZ.of (K : Value → World → Prop) : KZ := ⟨K, fun _ _ => False, []⟩

def topC : List (World → Prop) → World → Prop
  | C :: _ => C
  | [] => fun _ => False

/-- a class of worlds in which operations tell one value each, and stay -/
def quietS (b : (World → Prop) → World → Prop) : World → Prop := fun w => ∃ C : World → Prop, C w ∧ b C w
/-- an operation that tells one value in a class of worlds, and stays in it -/
def qtS (P : Program) (C : World → Prop) (s : Sem Next) (K : Value → World → Prop) : World → Prop := fun w => ∃ v, (∀ w', C w' → opS P s (fun u w'' => u = v ∧ C w'') w') ∧ K v w
/-- one that is guarded: where it is not wanted its value is none -/
def gqtS (P : Program) (C : World → Prop) (g : Value) (want : Bool) (s : Sem Next) (K : Value → World → Prop) : World → Prop :=
  match g with
  | .bool b => if b = want then qtS P C s K else K undef
  | _ => K undef
/-- what comes behind, in any world of the class -/
def qendS (C : World → Prop) (k : World → Prop) : World → Prop := fun _ => ∀ w', C w' → k w'

/-- is it a value of an interface, that is not nil? -/
def pifS (x : Value) (k : World → Prop) : World → Prop :=
  match x with
  | .iface .. => k
  | _ => fun _ => False

def den (P : Program) : IR → List Value → JL → KZ → World → Prop
  | .ret vs, env, _, K => K.k (resV (vs.map (ev env)))
  | .opz how ty o k kp, env, J, K => opZ P (semL (ev env) how ty o) (fun v => den P k (env ++ [v]) J K) fun v => den P kp (env ++ [v]) J K
  | .quiet k, env, J, K => quietS fun C => den P k env J ⟨K.k, K.z, C :: K.c⟩
  | .opq how ty o k, env, J, K => qtS P (topC K.c) (semL (ev env) how ty o) fun v => den P k (env ++ [v]) J K
  | .gopq g want how ty o k, env, J, K => gqtS P (topC K.c) (ev env g) want (semL (ev env) how ty o) fun v => den P k (env ++ [v]) J K
  | .qend k, env, J, K => qendS (topC K.c) (den P k env J ⟨K.k, K.z, K.c.tail⟩)
  | .pif x k, env, J, K => pifS (ev env x) (den P k env J K)
  | .pan x, env, _, K => K.z (ev env x)
  | .dpan m x k, env, J, K => dpanS P (ev env m) (ev env x) fun v => den P k (env ++ [v]) J K
  | .op how ty o k, env, J, K => opS P (semL (ev env) how ty o) fun v => den P k (env ++ [v]) J K
  | .sop s k, env, J, K => sopS P env s fun v => den P k (env ++ [v]) J K
  | .ite c a b, env, J, K => brn (ev env c) (den P a env J K) (den P b env J K)
  | .draw k, env, J, K => drw (den P k env J K)
  | .both a b, env, J, K => allW (den P a env J K) (den P b env J K)
  | .join n m k, env, J, K => jnJ n (JT.mk n fun vs => den P k (env ++ vs) J K) fun j => den P m env (J ++ [⟨n, j⟩]) K
  | .jump l vs, env, J, _ => jumpTo J l (vs.map (ev env))
  | .loop n init body, env, J, K => JT.app n (loopJ n fun X => JT.mk n fun vs => den P body (env ++ vs) (J ++ [⟨n, X⟩]) K) (init.map (ev env))
  | .rf f np body k kret xid kx, env, J, K => rfS P (ev env f) np (fun bs KY => JT.app (np + 1) (JT.mk (np + 1) fun vs => den P body (env ++ vs) [] (KZ.of KY)) bs) (fun m => den P k (env ++ [m]) J K) (fun m => den P kret (env ++ [m]) J K) xid (fun m => den P kx (env ++ [m]) J K)
  | .fail, _, _, _ => fun _ => False

/-! ### From code to IR -/

/-- what the slots hold; the marks among the deferred calls; which values are known to be which bool -/
structure SF where
  fr : List (Option Operand)
  ms : List Operand
  kb : List (Nat × Bool)

/-- is it known to be true, or false? -/
def staticB (sf : SF) : Operand → Option Bool
  | .const (.bool b) => some b
  | .tmp x => sf.kb.lookup x
  | _ => none

def SF.know (sf : SF) (x : Nat) (b : Bool) : SF := { sf with kb := (x, b) :: sf.kb }

def tr (sf : SF) : Operand → Option Operand
  | .tmp t => (sf.fr[t]?).join
  | x => some x

def SF.put (sf : SF) (dst : Option Tmp) (e : Option Operand) : SF :=
  match dst with
  | some d => { sf with fr := sf.fr.set d e }
  | none => sf

def trPairs (f : Operand → Option Operand) : List (Nat × Operand) → Option (List (Nat × Operand))
  | [] => some []
  | p :: r => (f p.2).bind fun x => (trPairs f r).bind fun r' => some ((p.1, x) :: r')

def trList (f : Operand → Option Operand) : List Operand → Option (List Operand)
  | [] => some []
  | p :: r => (f p).bind fun x => (trList f r).bind fun r' => some (x :: r')

def trOpt (f : Operand → Option Operand) : Option Operand → Option (Option Operand)
  | none => some none
  | some x => (f x).bind fun y => some (some y)

def trOp (f : Operand → Option Operand) : Op → Option Op
  | .move x => (f x).bind fun x => some (.move x)
  | .assign x => (f x).bind fun x => some (.assign x)
  | .pick c a b => (f c).bind fun c => (f a).bind fun a => (f b).bind fun b => some (.pick c a b)
  | .alloc e => some (.alloc e)
  | .box e x => (f x).bind fun x => some (.box e x)
  | .build t ps => (trPairs f ps.toList).bind fun ps => some (.build t ps.toArray)
  | .buildSlice t n ps => (trPairs f ps.toList).bind fun ps => some (.buildSlice t n ps.toArray)
  | .load t a => (f a).bind fun a => some (.load t a)
  | .store t a x => (f a).bind fun a => (f x).bind fun x => some (.store t a x)
  | .nilCheck x => (f x).bind fun x => some (.nilCheck x)
  | .binOp op t x y yt => (f x).bind fun x => (f y).bind fun y => some (.binOp op t x y yt)
  | .unOp op t x => (f x).bind fun x => some (.unOp op t x)
  | .convert s d x => (f x).bind fun x => some (.convert s d x)
  | .makeInterface t x => (f x).bind fun x => some (.makeInterface t x)
  | .makeFunc fn a b => (trList f a.toList).bind fun a => (trList f b.toList).bind fun b => some (.makeFunc fn a.toArray b.toArray)
  | .makeMap t r => (trOpt f r).bind fun r => some (.makeMap t r)
  | .makeSlice t l c => (f l).bind fun l => (f c).bind fun c => some (.makeSlice t l c)
  | .slice t x lo hi mx => (f x).bind fun x => (trOpt f lo).bind fun lo => (trOpt f hi).bind fun hi => (trOpt f mx).bind fun mx => some (.slice t x lo hi mx)
  | .fieldAddr t x i => (f x).bind fun x => some (.fieldAddr t x i)
  | .field t x i => (f x).bind fun x => some (.field t x i)
  | .indexAddr t x i => (f x).bind fun x => (f i).bind fun i => some (.indexAddr t x i)
  | .index t x i => (f x).bind fun x => (f i).bind fun i => some (.index t x i)
  | .lookup t x i ok => (f x).bind fun x => (f i).bind fun i => some (.lookup t x i ok)
  | .mapUpdate t m k x => (f m).bind fun m => (f k).bind fun k => (f x).bind fun x => some (.mapUpdate t m k x)
  | .insert t m k x => (f m).bind fun m => (f k).bind fun k => (f x).bind fun x => some (.insert t m k x)
  | .mapEntry t m k => (f m).bind fun m => (f k).bind fun k => some (.mapEntry t m k)
  | .entryStore t m k x => (f m).bind fun m => (f k).bind fun k => (f x).bind fun x => some (.entryStore t m k x)
  | .range t x => (f x).bind fun x => some (.range t x)
  | .next it s => (f it).bind fun it => some (.next it s)
  | .entry it => (f it).bind fun it => some (.entry it)
  | .typeAssert x t u ok => (f x).bind fun x => some (.typeAssert x t u ok)
  | .extract x i => (f x).bind fun x => some (.extract x i)
  | .call { callee := .value g, args, argTypes } => (f g).bind fun g => (trList f args.toList).bind fun args => some (.call { callee := .value g, args := args.toArray, argTypes })
  | .call { callee := .builtin b, args, argTypes } => (trList f args.toList).bind fun args => some (.call { callee := .builtin b, args := args.toArray, argTypes })
  | _ => none

/-- how operations are carried out: none may panic; what comes of a panic, of a frame, and the value; quietly -/
inductive PZ where
  | no
  | pan (h : SF → Operand → Nat → Option IR)
  | quiet

def PZ.isPan : PZ → Bool
  | .pan _ => true
  | _ => false

def emitOp (P : Program) (pz : PZ) (o : Oper) (sf : SF) (lvl : Nat) (k : SF → Nat → Option IR) : Option IR :=
  (trOp (tr sf) o.op).bind fun op => (k (sf.put o.dst (some (.tmp lvl))) (lvl + 1)).bind fun ir =>
    match pz with
    | .pan h => if panicky o.op then (h sf (.tmp lvl) (lvl + 1)).bind fun kp => some (.opz (howOf P o.op) o.type op ir kp) else some (.op (howOf P o.op) o.type op ir)
    | .no => some (.op (howOf P o.op) o.type op ir)
    | .quiet => some (.opq (howOf P o.op) o.type op ir)

/-- a guarded one, quietly -/
def emitG (P : Program) (o : Oper) (g : Operand) (want : Bool) (sf : SF) (lvl : Nat) (k : SF → Nat → Option IR) : Option IR :=
  (trOp (tr sf) o.op).bind fun op => (k (sf.put o.dst (some (.tmp lvl))) (lvl + 1)).bind fun ir => some (.gopq g want (howOf P o.op) o.type op ir)

/-- one operation that is carried out -/
def runOp (P : Program) (pz : PZ) (o : Oper) (sf : SF) (lvl : Nat) (k : SF → Nat → Option IR) : Option IR :=
  match o.op with
  | .move x | .assign x => (tr sf x).bind fun e => k (sf.put o.dst (some e)) lvl
  | .pick c a b =>
    match (tr sf c).bind (staticB sf) with
    | some t => (tr sf (if t then a else b)).bind fun e => k (sf.put o.dst (some e)) lvl
    | none => emitOp P pz o sf lvl k
  | .panic x =>
    match pz with
    | .pan h => (tr sf x).bind fun e => (h sf e lvl).bind fun kp => some (.pif e kp)
    | .no => some .fail
    | .quiet => none
  | _ => emitOp P pz o sf lvl k

def stepOp (P : Program) (pz : PZ) (ops : Array Oper) (i : Nat) (sf : SF) (lvl : Nat) (k : SF → Nat → Option IR) : Option IR :=
  match ops[i]? with
  | none => k sf lvl
  | some o =>
    match o.guard with
    | none => runOp P pz o sf lvl k
    | some (j, want) =>
      (((ops[j]?).bind (·.dst)).bind fun d => tr sf (.tmp d)).bind fun g =>
        match g with
        | .const (.bool b) => if b == want then runOp P pz o sf lvl k else k (sf.put o.dst (some (.const undef))) lvl
        | .const (.tuple _) => k (sf.put o.dst (some (.const undef))) lvl
        | .tmp x =>
          match sf.kb.lookup x with
          | some b => if b == want then runOp P pz o sf lvl k else k (sf.put o.dst (some (.const undef))) lvl
          | none =>
            match pz with
            | .quiet => emitG P o (.tmp x) want sf lvl k
            | _ =>
              (if want then runOp P pz o (sf.know x true) lvl k else k ((sf.know x true).put o.dst (some (.const undef))) lvl).bind fun t =>
              (if want then k ((sf.know x false).put o.dst (some (.const undef))) lvl else runOp P pz o (sf.know x false) lvl k).bind fun f => some (.ite (.tmp x) t f)
        | _ => none

/-- a closure without arguments that is put off -/
def deferOf (ops : Array Oper) (i : Nat) : Option (Oper × Operand) :=
  match ops[i]? with
  | some o =>
    match o.guard, o.op with
    | none, .defer { callee := .value g, args, argTypes := _ } => if args.size = 0 then some (o, g) else none
    | _, _ => none
  | none => none

/-- top: no round of a loop over a function -/
def compL (P : Program) (pz : PZ) (top : Bool) (ops : Array Oper) : List Nat → SF → Nat → (SF → Nat → Option IR) → Option IR
  | [], sf, lvl, k => k sf lvl
  | i :: r, sf, lvl, k =>
    match (if top then deferOf ops i else none) with
    | some (o, g) => (tr sf g).bind fun g' => (compL P pz top ops r { (sf.put o.dst (some (.const undef))) with ms := g' :: sf.ms } (lvl + 1) k).bind fun ir => some (.sop (.isF g') ir)
    | none => stepOp P pz ops i sf lvl fun sf lvl => compL P pz top ops r sf lvl k

def bothAll : List (Option IR) → Option IR
  | [] => none
  | [x] => x
  | x :: r => x.bind fun a => (bothAll r).bind fun b => some (.both a b)

def compA (P : Program) (pz : PZ) (ops : Array Oper) (mk : List Nat) : Nat → Array Bool → SF → Nat → (SF → Nat → Option IR) → Option IR
  | 0, listed, sf, lvl, k =>
    match Region.ready .any ops listed with
    | [] => k sf lvl
    | _ => none
  | fuel + 1, listed, sf, lvl, k =>
    match Region.ready .any ops listed with
    | [] => k sf lvl
    | rs =>
      match rs.find? (free P pz.isPan ops mk listed) with
      | some i => stepOp P pz ops i sf lvl fun sf lvl => compA P pz ops mk fuel (listed.setIfInBounds i true) sf lvl k
      | none => bothAll (rs.map fun i => stepOp P pz ops i sf lvl fun sf lvl => compA P pz ops mk fuel (listed.setIfInBounds i true) sf lvl k)

/-- how many orders are there? reckoned up to a bound -/
def orders (P : Program) (z : Bool) (ops : Array Oper) (mk : List Nat) : Nat → Array Bool → Nat → Nat
  | 0, _, b => b - 1
  | fuel + 1, listed, b =>
    if b = 0 then 0 else
    match Region.ready .any ops listed with
    | [] => b - 1
    | rs =>
      match rs.find? (free P z ops mk listed) with
      | some i => orders P z ops mk fuel (listed.setIfInBounds i true) b
      | none => rs.foldl (fun b i => orders P z ops mk fuel (listed.setIfInBounds i true) b) b

/-- no guard is guarded itself (its value would be none where it is not wanted) -/
def plainG (ops : Array Oper) : Bool :=
  ops.all fun o => match o.guard with
    | some (j, _) => match ops[j]? with | some g => g.guard.isNone | none => true
    | none => true

/-- so many that it is to be told quietly -/
def manyOrders (P : Program) (pz : PZ) (ops : Array Oper) : Bool :=
  match pz with
  | .no => ((((decide (20 ≤ ops.size) && ops.all fun o => o.guard.isNone) && orders P false ops (masks ops) ops.size (Array.replicate ops.size false) 100 == 0) || decide (12 ≤ (ops.toList.filter (·.guard.isSome)).length)) && plainG ops) && quietOk ops (masks ops)
  | _ => false

def compR (P : Program) (pz : PZ) (top : Bool) (ops : Array Oper) (draw : Bool) (sf : SF) (lvl : Nat) (k : SF → Nat → Option IR) : Option IR :=
  if draw then
    if manyOrders P pz ops then (compL P .quiet false ops (List.range (cutOf (masks ops) ops.size)) sf lvl fun sf lvl => (compL P .no false ops (List.range' (cutOf (masks ops) ops.size) (ops.size - cutOf (masks ops) ops.size)) sf lvl k).bind fun ir => some (.qend ir)).bind fun ir => some (.draw (.quiet ir))
    else (compA P pz ops (masks ops) ops.size (Array.replicate ops.size false) sf lvl k).bind fun ir => some (.draw ir)
  else compL P pz top ops (List.range ops.size) sf lvl k

/-! ### Which slots are set, and which are wanted behind: heuristics; nothing rests on them -/

def bit (t : Nat) : Nat := 1 <<< t
def without (a b : Nat) : Nat := a ^^^ (a &&& b)

def dstMask (o : Oper) : Nat := match o.dst with | some d => bit d | none => 0
def opMask (o : Op) : Nat := o.operands.toList.foldl (fun m x => match x with | .tmp t => m ||| bit t | _ => m) 0

def modsR (ops : Array Oper) : Nat := ops.toList.foldl (fun m o => m ||| dstMask o) 0

def mods : Code → Nat
  | .region _ ops _ => modsR ops
  | .seq a b | .cond _ a b => mods a ||| mods b
  | .block _ b | .loop b | .scope b => mods b
  | _ => 0

def liveR (ops : Array Oper) (out : Nat) : Nat :=
  ops.toList.foldr (fun o m =>
    let g := match o.guard with | some (j, _) => (match (ops[j]?).bind (·.dst) with | some d => bit d | none => 0) | none => 0
    without m (dstMask o) ||| opMask o.op ||| g) out

def opd (x : Operand) : Nat := match x with | .tmp t => bit t | _ => 0

def live : Code → Nat → List (Nat × Nat) → Nat → Nat
  | .region _ ops _, out, _, _ => liveR ops out
  | .seq a b, out, ex, rt => live a (live b out ex rt) ex rt
  | .cond c a b, out, ex, rt => opd c ||| live a out ex rt ||| live b out ex rt
  | .block id b, out, ex, rt => live b out ((id, out) :: ex) rt
  | .loop b, _, ex, rt => live b 0 ex rt
  | .scope b, out, ex, rt => live b out ex rt
  | .rangeFunc f _ a b, out, ex, rt => opd f ||| out ||| rt ||| live a (live b 0 ex rt) ex rt
  | .exit id, _, ex, _ => (ex.lookup id).getD 0
  | .ret, _, _, rt => rt
  | _, out, _, _ => out

def weight : Code → Nat
  | .region _ ops _ => ops.size
  | .seq a b => weight a + weight b
  | .cond _ a b => 1 + weight a + weight b
  | .block _ b => weight b
  | .loop b | .scope b => 20 + weight b
  | .rangeFunc .. => 40
  | .refuse _ => 0
  | _ => 0

def hasLoop : Code → Bool
  | .seq a b | .cond _ a b => hasLoop a || hasLoop b
  | .block _ b | .scope b => hasLoop b
  | .loop _ => true
  | _ => false

/-- can it be left by its end? -/
def ends : Code → Bool
  | .seq a b => ends a && ends b
  | .cond _ a b => ends a || ends b
  | .block _ _ => true
  | .scope b => ends b
  | .loop _ | .exit _ | .ret | .goto _ | .refuse _ => false
  | _ => true

def exitsTo (id : Nat) : Code → Nat
  | .seq a b | .cond _ a b => exitsTo id a + exitsTo id b
  | .block _ b | .loop b | .scope b => exitsTo id b
  | .exit i => if i == id then 1 else 0
  | _ => 0

def freeExit : Code → Option Nat
  | .seq a b | .cond _ a b => (freeExit a).or (freeExit b)
  | .block i b => (freeExit b).bind fun x => if x == i then none else some x
  | .loop b | .scope b => freeExit b
  | .exit i => some i
  | _ => none

def guarded (ops : Array Oper) : Bool := ops.any (·.guard.isSome)

def anyBoth (P : Program) (z : Bool) (ops : Array Oper) (mk : List Nat) : Nat → Array Bool → Bool
  | 0, _ => false
  | fuel + 1, listed =>
    match Region.ready .any ops listed with
    | [] => false
    | rs =>
      match rs.find? (free P z ops mk listed) with
      | some i => anyBoth P z ops mk fuel (listed.setIfInBounds i true)
      | none => true

/-- how the ways through a region end as to a condition: true, false, open -/
def condEnds (ops : Array Oper) (c : Nat) : Nat × Nat × Nat :=
  -- of '(a || b || c)' and its like: the last pick that sets the condition, and the guards on the way
  let g := ops.toList.filter (·.guard.isSome)
  let f := (g.filter fun o => match o.guard with | some (_, b) => !b | none => false).length
  let t := g.length - f
  let _ := c
  (if f = 0 then 0 else 2, if t = 0 then 0 else 2, 1)

/-! ### Where ways meet -/

def ceq : Value → Value → Bool
  | .bool a, .bool b => a == b
  | .int k a, .int j b => k == j && a == b
  | .pointer none, .pointer none => true
  | .slice none a b, .slice none c d => a == c && b == d
  | .map none, .map none => true
  | .nilFunc, .nilFunc => true
  | .nilIface, .nilIface => true
  | .func (.func f) a b, .func (.func g) c d => f == g && a.size == 0 && b.size == 0 && c.size == 0 && d.size == 0
  | _, _ => false

def same : Operand → Operand → Bool
  | .tmp i, .tmp j => i == j
  | .const x, .const y => ceq x y
  | .global i, .global j => i == j
  | .func i, .func j => i == j
  | _, _ => false

def keep : Option Operand → Option Operand
  | some x => if same x x then some x else none
  | none => none

/-- which slots are handed on -/
def carries (md lv : Nat) (all : Bool) (i : Nat) (e : Option Operand) : Bool := md.testBit i && (lv.testBit i && (all || e.isSome))

def target (md lv : Nat) (all : Bool) : Nat → Nat → List (Option Operand) → List (Option Operand)
  | _, _, [] => []
  | i, v, e :: r =>
    if carries md lv all i e then some (.tmp v) :: target md lv all (i + 1) (v + 1) r
    else if md.testBit i then none :: target md lv all (i + 1) v r
    else keep e :: target md lv all (i + 1) v r

def count (md lv : Nat) (all : Bool) : Nat → List (Option Operand) → Nat
  | _, [] => 0
  | i, e :: r => (if carries md lv all i e then 1 else 0) + count md lv all (i + 1) r

def values (md lv : Nat) (all : Bool) : Nat → List (Option Operand) → List (Option Operand) → Option (List Operand)
  | _, [], [] => some []
  | i, e :: r, s :: q =>
    if carries md lv all i e then
      match s with
      | some x => (values md lv all (i + 1) r q).bind fun xs => some (x :: xs)
      | none => none
    else if md.testBit i then values md lv all (i + 1) r q
    else
      match keep e, s with
      | none, _ => values md lv all (i + 1) r q
      | some x, some y => if same x y then values md lv all (i + 1) r q else none
      | some _, none => none
  | _, _, _ => none

def sameAll : List Operand → List Operand → Bool
  | [], [] => true
  | x :: r, y :: q => same x y && sameAll r q
  | _, _ => false

abbrev Clo := SF → Nat → Nat → Option IR

/-- a jump to what stands at 'l': the values of the slots that are handed on -/
def jumpC (md lv : Nat) (all : Bool) (l : Nat) (sf : SF) : Clo := fun sf' _ _ =>
  if sameAll sf.ms sf'.ms then (values md lv all 0 sf.fr sf'.fr).bind fun vs => some (.jump l vs) else none

def joinW (md lv : Nat) (sf : SF) (lvl dep : Nat) (m : Clo → Nat → Option IR) (k : Clo) : Option IR :=
  let n := count md lv true 0 sf.fr
  (m (jumpC md lv true dep sf) (dep + 1)).bind fun a =>
    (k { sf with fr := target md lv true 0 lvl sf.fr } (lvl + n) dep).bind fun b => some (.join n a b)

structure Ctx where
  ret : Clo
  retLive : Nat
  exits : List (Nat × Nat × Clo)
  other : Nat → Clo
  round : Bool
  pz : PZ := .no

def Ctx.lives (c : Ctx) : List (Nat × Nat) := c.exits.map fun x => (x.1, x.2.1)

def Ctx.exit (c : Ctx) (id : Nat) : Clo :=
  match c.exits.lookup id with
  | some (_, k) => k
  | none => c.other id

def Ctx.with (c : Ctx) (id out : Nat) (k : Clo) : Ctx := { c with exits := (id, out, k) :: c.exits }

def loopW (md lv : Nat) (sf : SF) (lvl dep : Nat) (b : SF → Nat → Nat → Clo → Option IR) : Option IR :=
  let n := count md lv false 0 sf.fr
  (values md lv false 0 sf.fr sf.fr).bind fun init =>
    (b { sf with fr := target md lv false 0 lvl sf.fr } (lvl + n) (dep + 1) (jumpC md lv false dep sf)).bind fun b => some (.loop n init b)

def endR (l : Nat) (c : Option Code) : Clo := fun _ lvl _ => some (.sop (.endR (.tmp l) c) (.ret [.tmp lvl]))

/-- the parameters of a round -/
def setParams : List Nat → Nat → List (Option Operand) → List (Option Operand)
  | [], _, fr => fr
  | t :: r, v, fr => setParams r (v + 1) (fr.set t (some (.tmp v)))

/-- two ways on a condition -/
def dispatch (c : Operand) (a b : Clo) : Clo := fun sf lvl dep =>
  (tr sf c).bind fun g =>
    match staticB sf g with
    | some true => a sf lvl dep
    | some false => b sf lvl dep
    | none =>
      match g with
      | .tmp x => (a (sf.know x true) lvl dep).bind fun t => (b (sf.know x false) lvl dep).bind fun f => some (.ite (.tmp x) t f)
      | _ => none

/-- with a meeting point, or without -/
def joinIf (c : Bool) (md lv : Nat) (sf : SF) (lvl dep : Nat) (m : Clo → Nat → Option IR) (k : Clo) : Option IR :=
  if c then joinW md lv sf lvl dep m k else m k dep

def comp (P : Program) : Code → SF → Nat → Nat → Ctx → Nat → Bool → Clo → Option IR
  | .skip, sf, lvl, dep, _, _, _, k => k sf lvl dep
  | .label _, sf, lvl, dep, _, _, _, k => k sf lvl dep
  | .scope b, sf, lvl, dep, ctx, out, big, k => comp P b sf lvl dep ctx out big k
  | .region _ ops draw, sf, lvl, dep, ctx, out, big, k =>
    joinIf (big && (guarded ops || (draw && anyBoth P ctx.pz.isPan ops (masks ops) ops.size (Array.replicate ops.size false)))) (modsR ops) out sf lvl dep
      (fun j dep' => compR P ctx.pz (!ctx.round) ops draw sf lvl fun sf lvl => j sf lvl dep') k
  | .seq (.region _ ops draw) (.cond c x y), sf, lvl, dep, ctx, out, big, k =>
    let rt := ctx.retLive
    let lx := live x out ctx.lives rt
    let ly := live y out ctx.lives rt
    let ways := guarded ops || (draw && anyBoth P ctx.pz.isPan ops (masks ops) ops.size (Array.replicate ops.size false))
    let ors := ops.any fun o => match o.guard with | some (_, b) => !b | none => false
    let ands := ops.any fun o => match o.guard with | some (_, b) => b | none => false
    -- 'a || b' comes to x in several ways, 'a && b' to y
    let bx := decide (weight x > 4) || (ends x && big)
    let bY := decide (weight y > 4) || (ends y && big)
    let both := draw && anyBoth P ctx.pz.isPan ops (masks ops) ops.size (Array.replicate ops.size false)
    joinIf (big && ends x && ends y) (mods (.seq (.region 0 ops draw) (.cond c x y))) out sf lvl dep
      (fun k1 dep1 =>
        joinIf (ways && bx && (ors || both)) (modsR ops) lx sf lvl dep1
          (fun kx dep2 =>
            joinIf (ways && bY && (ands || both)) (modsR ops) ly sf lvl dep2
              (fun ky dep3 => compR P ctx.pz (!ctx.round) ops draw sf lvl fun sf lvl => dispatch c kx ky sf lvl dep3)
              (fun sf lvl dep => comp P y sf lvl dep ctx out big k1))
          (fun sf lvl dep => comp P x sf lvl dep ctx out big k1))
      k
  | .seq a b, sf, lvl, dep, ctx, out, big, k =>
    comp P a sf lvl dep ctx (live b out ctx.lives ctx.retLive) (big || decide (weight b > 6)) fun sf lvl dep => comp P b sf lvl dep ctx out big k
  | .cond c x y, sf, lvl, dep, ctx, out, big, k =>
    joinIf (big && ends x && ends y) (mods (.cond c x y)) out sf lvl dep
      (fun k1 dep1 => dispatch c (fun sf lvl dep => comp P x sf lvl dep ctx out big k1) (fun sf lvl dep => comp P y sf lvl dep ctx out big k1) sf lvl dep1) k
  | .block id b, sf, lvl, dep, ctx, out, big, k =>
    joinIf (hasLoop b || (big && decide (exitsTo id b + (if ends b then 1 else 0) ≥ 2))) (mods b) out sf lvl dep
      (fun k1 dep1 => comp P b sf lvl dep1 (ctx.with id out k1) out (big && !(hasLoop b)) k1) k
  | .loop b, sf, lvl, dep, ctx, _, _, _ =>
    loopW (mods b) (live b 0 ctx.lives ctx.retLive) sf lvl dep fun sf lvl dep k => comp P b sf lvl dep ctx (live b 0 ctx.lives ctx.retLive) false k
  | .exit id, sf, lvl, dep, ctx, _, _, _ => ctx.exit id sf lvl dep
  | .ret, sf, lvl, dep, ctx, _, _, _ => ctx.ret sf lvl dep
  | .rangeFunc f ps assign body, sf, lvl, dep, ctx, _, _, k =>
    if ctx.round then none else
    let ctx' : Ctx := { ret := endR lvl (some .ret), retLive := 0, exits := [], other := fun id => endR lvl (some (.exit id)), round := true }
    let np := ps.size
    let sfB : SF := { fr := setParams ps.toList (lvl + 1) sf.fr, ms := [], kb := sf.kb }
    let sfA : SF := { sf with ms := .tmp lvl :: sf.ms }
    let xid := (freeExit body).getD 0
    (tr sf f).bind fun f' =>
      (comp P assign sfB (lvl + 1 + np) 0 { ret := fun _ _ _ => none, retLive := 0, exits := [], other := fun _ _ _ _ => none, round := true } (live body 0 [] 0) true fun sf lvl' dep' =>
        (comp P body sf (lvl' + 1) dep' ctx' 0 false (endR lvl none)).bind fun ir => some (.sop (.beginR (.tmp lvl)) ir)).bind fun b =>
        (k sfA (lvl + 1) dep).bind fun kn =>
          some (.rf f' np b kn ((ctx.ret sfA (lvl + 1) dep).getD .fail) xid (((freeExit body).bind fun x => ctx.exit x sfA (lvl + 1) dep).getD .fail))
  | _, _, _, _, _, _, _, _ => none

/-! ### A function -/

def takes : List Operand → Nat → (Nat → Option IR) → Option IR
  | [], lvl, k => k lvl
  | m :: r, lvl, k => (takes r (lvl + 1) k).bind fun ir => some (.sop (.take m) ir)

def rets (sf : SF) : List ResultVar → Nat → List Operand → Option IR
  | [], _, acc => some (.ret acc.reverse)
  | .tmp t :: r, lvl, acc => (tr sf (.tmp t)).bind fun x => rets sf r lvl (x :: acc)
  | .cell a t :: r, lvl, acc => (tr sf (.tmp a)).bind fun x => (rets sf r (lvl + 1) (.tmp lvl :: acc)).bind fun ir => some (.op .gen 0 (.load t x) ir)

def retC (rs : List ResultVar) : Clo := fun sf lvl _ => takes sf.ms lvl fun lvl => rets sf rs lvl []

/-- what comes of a panic in a function: what was put off last lets it go, or it goes on -/
def panC (rs : List ResultVar) : SF → Operand → Nat → Option IR := fun sf x lvl =>
  match sf.ms with
  | [] => some (.pan x)
  | m :: ms => (takes ms (lvl + 1) fun lvl => rets sf rs lvl []).bind fun ir => some (.dpan m x ir)

def resMask (rs : List ResultVar) : Nat := rs.foldl (fun m r => match r with | .tmp t => m ||| bit t | .cell a _ => m ||| bit a) 0

/-- z: it may panic -/
def compG (P : Program) (fn : Func) (nargs : Nat) (z : Bool) : Option IR :=
  match fn.body with
  | none => none
  | some c =>
    let rc := retC fn.results.toList
    comp P c { fr := (List.range nargs).map (fun i => some (.tmp i)) ++ List.replicate (fn.ntmps - nargs) none, ms := [], kb := [] } nargs 0
      { ret := rc, retLive := resMask fn.results.toList, exits := [], other := fun _ _ _ _ => none, round := false, pz := if z then .pan (panC fn.results.toList) else .no } (resMask fn.results.toList) false rc

def compF (P : Program) (fn : Func) (nargs : Nat) : Option IR := compG P fn nargs false

/-- what a function asks, at some arguments -/
def denF (P : Program) (fn : Func) (args : List Value) (K : Value → World → Prop) : World → Prop :=
  match compF P fn args.length with
  | some ir => den P ir args [] (KZ.of K)
  | none => fun _ => False

/-- what a function asks that may panic -/
def denZ (P : Program) (fn : Func) (args : List Value) (K Z : Value → World → Prop) : World → Prop :=
  match compG P fn args.length true with
  | some ir => den P ir args [] ⟨K, Z, []⟩
  | none => fun _ => False

end Go.Gx
