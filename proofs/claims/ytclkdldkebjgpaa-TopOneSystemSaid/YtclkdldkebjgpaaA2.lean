/- Own texts, put together. -/
import Derived.Test.YtclkdldkebjgpaaA1
import Derived.Test.YtclkdldkebjgpaaProg
import Derived.Ground.SlsfProg
import Derived.Shelf.SlSortCmp.Whole1
import Derived.Shelf.SlGeneric
import Derived.Maps.RangeRun
import Derived.Maps.Keyed
import Derived.DeepKeys4
import Derived.Laws.Strings
import Derived.RecoverIn
section
/- Contracts of the library's functions, laid at this program. -/
namespace Go.Proofs
open Go.Shelf
def Try.sortL_ren : Go.Shelf.Ren := ⟨fun | 6 => 47 | 15 => 70 | 14 => 81 | 28 => 110 | 29 => 111 | 20 => 117 | 21 => 118 | 22 => 119 | 23 => 120 | 24 => 121 | 25 => 122 | 26 => 123 | 27 => 124 | 46 => 135 | 47 => 131 | 48 => 132 | 49 => 136 | 50 => 137 | 57 => 141 | n => n, fun | 22 => 100 | 24 => 108 | 25 => 114 | 3 => 3 | 39 => 140 | 0 => 0 | 53 => 173 | 55 => 175 | 4 => 4 | 46 => 167 | 45 => 166 | 50 => 82 | 5 => 5 | 9 => 9 | 66 => 195 | 70 => 199 | 76 => 203 | 77 => 204 | n => n, fun | n => n⟩
theorem Try.sortL : Go.Proofs.SlLaysF.n6 Try.prog Try.sortL_ren := {
  mixed := by kernel_rfl
  f6 := ⟨Try.f47.name, by decide, Try.func47.trans (congrArg some (by kernel_rfl))⟩
  f14 := ⟨Try.f81.name, by decide, Try.func81.trans (congrArg some (by kernel_rfl))⟩
  f15 := Try.func70.trans (congrArg some (by kernel_rfl))
  f20 := ⟨Try.f117.name, by decide, Try.func117.trans (congrArg some (by kernel_rfl))⟩
  f21 := ⟨Try.f118.name, by decide, Try.func118.trans (congrArg some (by kernel_rfl))⟩
  f22 := ⟨Try.f119.name, by decide, Try.func119.trans (congrArg some (by kernel_rfl))⟩
  f23 := ⟨Try.f120.name, by decide, Try.func120.trans (congrArg some (by kernel_rfl))⟩
  f24 := ⟨Try.f121.name, by decide, Try.func121.trans (congrArg some (by kernel_rfl))⟩
  f25 := ⟨Try.f122.name, by decide, Try.func122.trans (congrArg some (by kernel_rfl))⟩
  f26 := ⟨Try.f123.name, by decide, Try.func123.trans (congrArg some (by kernel_rfl))⟩
  f27 := ⟨Try.f124.name, by decide, Try.func124.trans (congrArg some (by kernel_rfl))⟩
  f28 := Try.func110.trans (congrArg some (by kernel_rfl))
  f29 := Try.func111.trans (congrArg some (by kernel_rfl))
  f46 := ⟨Try.f135.name, by decide, Try.func135.trans (congrArg some (by kernel_rfl))⟩
  f47 := Try.func131.trans (congrArg some (by kernel_rfl))
  f48 := Try.func132.trans (congrArg some (by kernel_rfl))
  f49 := ⟨Try.f136.name, by decide, Try.func136.trans (congrArg some (by kernel_rfl))⟩
  f50 := ⟨Try.f137.name, by decide, Try.func137.trans (congrArg some (by kernel_rfl))⟩
  f57 := ⟨Try.f141.name, by decide, Try.func141.trans (congrArg some (by kernel_rfl))⟩
  t0 := Try.underlying0
  a0 := Try.isAgg0
  z0 := Try.sizeOf0
  v0 := Try.zeroValue0
  t3 := Try.underlying3
  a3 := Try.isAgg3
  z3 := Try.sizeOf3
  v3 := Try.zeroValue3
  t4 := Try.underlying4
  a4 := Try.isAgg4
  z4 := Try.sizeOf4
  v4 := Try.zeroValue4
  t5 := Try.underlying5
  a5 := Try.isAgg5
  z5 := Try.sizeOf5
  v5 := Try.zeroValue5
  t9 := Try.underlying9
  a9 := Try.isAgg9
  z9 := Try.sizeOf9
  v9 := Try.zeroValue9
  t22 := Try.underlying100
  a22 := Try.isAgg100
  z22 := Try.sizeOf100
  v22 := Try.zeroValue100
  a24 := Try.isAgg108
  z24 := Try.sizeOf108
  t25 := Try.underlying114
  a25 := Try.isAgg114
  z25 := Try.sizeOf114
  v25 := Try.zeroValue114
  t39 := Try.underlying140
  a39 := Try.isAgg140
  z39 := Try.sizeOf140
  v39 := Try.zeroValue140
  t45 := Try.underlying166
  a45 := Try.isAgg166
  z45 := Try.sizeOf166
  v45 := Try.zeroValue166
  t46 := Try.underlying167
  a46 := Try.isAgg167
  z46 := Try.sizeOf167
  v46 := Try.zeroValue167
  t50 := Try.underlying82
  a50 := Try.isAgg82
  z50 := Try.sizeOf82
  v50 := Try.zeroValue82
  t53 := Try.underlying173
  a53 := Try.isAgg173
  z53 := Try.sizeOf173
  v53 := Try.zeroValue173
  t55 := Try.underlying175
  a55 := Try.isAgg175
  z55 := Try.sizeOf175
  v55 := Try.zeroValue175
  t66 := Try.underlying195
  a66 := Try.isAgg195
  z66 := Try.sizeOf195
  v66 := Try.zeroValue195
  t70 := Try.underlying199
  a70 := Try.isAgg199
  z70 := Try.sizeOf199
  v70 := Try.zeroValue199
  t76 := Try.underlying203
  a76 := Try.isAgg203
  z76 := Try.sizeOf203
  v76 := Try.zeroValue203
  t77 := Try.underlying204
  a77 := Try.isAgg204
  z77 := Try.sizeOf204
  v77 := Try.zeroValue204 }
end Go.Proofs
-- 8b2c3c31c5101587c04aee407faf6b539235ce1e4511b1a1e45eb3f90c323e63
end

section
/- What the functions of this program ask. -/
set_option linter.unusedVariables false
set_option maxRecDepth 100000
namespace Go.Gx.S
open Go Go.Gx Go.Proofs
-- (*gemel/agg.Group).Tick
def p20 (P : Program) (K : Value → World → Prop) (x0 : Value) (x1 : Value) : World → Prop :=
  opS P (S.binI .lss x1 (.int .i64 0)) fun x2 =>
  brn x2 (
    K (.tuple #[(.slice none 0 0), (.int .i64 1)])
  ) (
    opS P (S.binI .gtr x1 (.int .i64 1099511627776)) fun x3 =>
    brn x3 (
      K (.tuple #[(.slice none 0 0), (.int .i64 1)])
    ) (
      opS P (S.nc x0) fun x4 =>
      opS P (S.fa 102 x4 0) fun x5 =>
      opS P (S.ld 100 x5) fun x6 =>
      opS P (S.len x6) fun x7 =>
      jnJ 0 (
        opS P (S.cl 56 [x0]) fun x8 =>
        opS P (S.nc x0) fun x9 =>
        opS P (S.fa 102 x9 0) fun x10 =>
        opS P (S.ld 100 x10) fun x11 =>
        opS P (S.len x11) fun x12 =>
        jnJ 1 (fun x13 =>
          K (.tuple #[x13, (.int .i64 0)])
        ) fun j0 =>
        loopJ 2 (fun j1 x13 x14 =>
          opS P (S.binI .lss x14 x12) fun x15 =>
          brn x15 (
            opS P (S.ia 100 x11 x14) fun x16 =>
            opS P (S.ld 108 x16) fun x17 =>
            opS P (S.cl 57 [x17, x1]) fun x18 =>
            opS P (S.cl 58 [x17, x1]) fun x19 =>
            brn x19 (
              jnJ 1 (fun x20 =>
                opS P (S.nc x17) fun x21 =>
                opS P (S.fa 112 x21 4) fun x22 =>
                opS P (S.st 4 x22 (.bool false)) fun x23 =>
                opS P (S.nc x17) fun x24 =>
                opS P (S.fa 112 x24 5) fun x25 =>
                opS P (S.st 3 x25 x1) fun x26 =>
                opS P (S.binI .add x14 (.int .i64 1)) fun x27 =>
                j1 x20 x27
              ) fun j2 =>
              drw <|
              opS P (S.nc x17) fun x20 =>
              opS P (S.fa 112 x20 2) fun x21 =>
              opS P (S.nc x17) fun x22 =>
              opS P (S.fa 112 x22 0) fun x23 =>
              opS P (S.ld 103 x23) fun x24 =>
              opS P (S.nc x17) fun x25 =>
              opS P (S.fa 112 x25 0) fun x26 =>
              allW (
                opS P (S.ld 3 x21) fun x27 =>
                allW (
                  opS P (S.cl 59 [x24]) fun x28 =>
                  opS P (S.ld 103 x26) fun x29 =>
                  opS P (S.cl 60 [x29]) fun x30 =>
                  opS P (S.build 123 [(0, x28), (1, x30)]) fun x31 =>
                  opS P (S.build 125 [(0, x27), (1, x31)]) fun x32 =>
                  opS P (S.buildS 61 1 [(0, x32)]) fun x33 =>
                  opS P (S.bi .append #[61, 61] 61 [x13, x33]) fun x34 =>
                  j2 x34
                ) (
                  opS P (S.ld 103 x26) fun x28 =>
                  opS P (S.cl 59 [x24]) fun x29 =>
                  opS P (S.cl 60 [x28]) fun x30 =>
                  opS P (S.build 123 [(0, x29), (1, x30)]) fun x31 =>
                  opS P (S.build 125 [(0, x27), (1, x31)]) fun x32 =>
                  opS P (S.buildS 61 1 [(0, x32)]) fun x33 =>
                  opS P (S.bi .append #[61, 61] 61 [x13, x33]) fun x34 =>
                  j2 x34
                )
              ) (
                allW (
                  opS P (S.cl 59 [x24]) fun x27 =>
                  opS P (S.ld 103 x26) fun x28 =>
                  allW (
                    opS P (S.ld 3 x21) fun x29 =>
                    opS P (S.cl 60 [x28]) fun x30 =>
                    opS P (S.build 123 [(0, x27), (1, x30)]) fun x31 =>
                    opS P (S.build 125 [(0, x29), (1, x31)]) fun x32 =>
                    opS P (S.buildS 61 1 [(0, x32)]) fun x33 =>
                    opS P (S.bi .append #[61, 61] 61 [x13, x33]) fun x34 =>
                    j2 x34
                  ) (
                    opS P (S.cl 60 [x28]) fun x29 =>
                    opS P (S.ld 3 x21) fun x30 =>
                    opS P (S.build 123 [(0, x27), (1, x29)]) fun x31 =>
                    opS P (S.build 125 [(0, x30), (1, x31)]) fun x32 =>
                    opS P (S.buildS 61 1 [(0, x32)]) fun x33 =>
                    opS P (S.bi .append #[61, 61] 61 [x13, x33]) fun x34 =>
                    j2 x34
                  )
                ) (
                  opS P (S.ld 103 x26) fun x27 =>
                  allW (
                    opS P (S.ld 3 x21) fun x28 =>
                    opS P (S.cl 59 [x24]) fun x29 =>
                    opS P (S.cl 60 [x27]) fun x30 =>
                    opS P (S.build 123 [(0, x29), (1, x30)]) fun x31 =>
                    opS P (S.build 125 [(0, x28), (1, x31)]) fun x32 =>
                    opS P (S.buildS 61 1 [(0, x32)]) fun x33 =>
                    opS P (S.bi .append #[61, 61] 61 [x13, x33]) fun x34 =>
                    j2 x34
                  ) (
                    opS P (S.cl 59 [x24]) fun x28 =>
                    allW (
                      opS P (S.ld 3 x21) fun x29 =>
                      opS P (S.cl 60 [x27]) fun x30 =>
                      opS P (S.build 123 [(0, x28), (1, x30)]) fun x31 =>
                      opS P (S.build 125 [(0, x29), (1, x31)]) fun x32 =>
                      opS P (S.buildS 61 1 [(0, x32)]) fun x33 =>
                      opS P (S.bi .append #[61, 61] 61 [x13, x33]) fun x34 =>
                      j2 x34
                    ) (
                      opS P (S.cl 60 [x27]) fun x29 =>
                      opS P (S.ld 3 x21) fun x30 =>
                      opS P (S.build 123 [(0, x28), (1, x29)]) fun x31 =>
                      opS P (S.build 125 [(0, x30), (1, x31)]) fun x32 =>
                      opS P (S.buildS 61 1 [(0, x32)]) fun x33 =>
                      opS P (S.bi .append #[61, 61] 61 [x13, x33]) fun x34 =>
                      j2 x34
                    )
                  )
                )
              )
            ) (
              opS P (S.binI .add x14 (.int .i64 1)) fun x20 =>
              j1 x13 x20
            )
          ) (
            j0 x13
          )
        ) (.slice none 0 0) (.int .i64 0)
      ) fun j0 =>
      loopJ 1 (fun j1 x8 =>
        opS P (S.binI .lss x8 x7) fun x9 =>
        brn x9 (
          opS P (S.ia 100 x6 x8) fun x10 =>
          opS P (S.ld 108 x10) fun x11 =>
          opS P (S.nc x11) fun x12 =>
          opS P (S.fa 112 x12 0) fun x13 =>
          opS P (S.ld 103 x13) fun x14 =>
          opS P (S.cl 53 [x14]) fun x15 =>
          opS P (S.nc x11) fun x16 =>
          opS P (S.fa 112 x16 0) fun x17 =>
          opS P (S.ld 103 x17) fun x18 =>
          opS P (S.cl 55 [x18, x1]) fun x19 =>
          opS P (S.nc x11) fun x20 =>
          opS P (S.fa 112 x20 4) fun x21 =>
          opS P (S.ld 4 x21) fun x22 =>
          brn x22 (
            opS P (S.nc x11) fun x23 =>
            opS P (S.fa 112 x23 4) fun x24 =>
            opS P (S.st 4 x24 (.bool true)) fun x25 =>
            opS P (S.binI .add x8 (.int .i64 1)) fun x26 =>
            j1 x26
          ) (
            opS P (S.binI .eql x15 (.int .i64 3)) fun x23 =>
            brn x23 (
              opS P (S.nc x11) fun x24 =>
              opS P (S.fa 112 x24 0) fun x25 =>
              opS P (S.ld 103 x25) fun x26 =>
              opS P (S.cl 53 [x26]) fun x27 =>
              opS P (S.binI .eql x27 (.int .i64 1)) fun x28 =>
              opS P (S.nc x11) fun x29 =>
              opS P (S.fa 112 x29 4) fun x30 =>
              opS P (S.st 4 x30 x28) fun x31 =>
              opS P (S.binI .add x8 (.int .i64 1)) fun x32 =>
              j1 x32
            ) (
              opS P (S.nc x11) fun x24 =>
              opS P (S.fa 112 x24 4) fun x25 =>
              opS P (S.st 4 x25 (.bool false)) fun x26 =>
              opS P (S.binI .add x8 (.int .i64 1)) fun x27 =>
              j1 x27
            )
          )
        ) (
          j0
        )
      ) (.int .i64 0)
    )
  )
instance fnb20 : FnB Try.prog 20 := ⟨Try.call20⟩
theorem e20 : p20 Try.prog = fun K x0 x1 => denF Try.prog Try.f20 [x0, x1] K := by kernel_rfl
theorem c20 {K : Value → World → Prop} {x0 x1 : Value} {w : World} (h : p20 Try.prog K x0 x1 w) : CallsR Try.prog 20 #[x0, x1] K w := by
  rw [e20] at h
  exact denF_sound mixed Try.func20 h

end Go.Gx.S
-- 20
end

section
/- Maps: what they hold; looking up, putting, deleting, going through. -/
namespace Go.Gx
open Go Go.Maps
variable {P : Program} {K : Value → World → Prop} {w : World}

/-- keys of a type, as values of a Lean type -/
class KeyC (P : Program) (T : TypeId) (κ : outParam Type) (kc : outParam (κ → Value)) (ok : outParam (κ → Prop)) : Prop where
  law : Keyed P T
  of : ∀ k, ok k → ∃ l, keyOf P T (kc k) = some l
  inj : ∀ a b, kc a = kc b → a = b

section
variable {κ ν : Type} {kc : κ → Value} {vc : ν → Value} {kok : κ → Prop}

structure MHolds (kc : κ → Value) (vc : ν → Value) (kok : κ → Prop) (es : List MapEntry) (clock : Nat) (l : List (κ × ν)) : Prop where
  same : es.map (fun e => (e.key, e.val)) = l.map fun p => (kc p.1, vc p.2)
  nd : (l.map Prod.fst).Nodup
  ok : ∀ p ∈ l, kok p.1
  born : (es.map (·.born)).Nodup
  lt : ∀ e ∈ es, e.born < clock

/-- a map, in the order in which its keys came -/
def MapR (kc : κ → Value) (vc : ν → Value) (kok : κ → Prop) (w : World) (m : Nat) (l : List (κ × ν)) : Prop :=
  ∃ es clock, w.heap[m]? = some (.map es clock) ∧ MHolds kc vc kok es.toList clock l

theorem MapR.fr {fp : Nat → Prop} {w w' : World} {m : Nat} {l : List (κ × ν)} (h : MapR kc vc kok w m l) (hf : Fr fp w w') (hn : ¬ fp m) : MapR kc vc kok w' m l := by
  obtain ⟨es, clock, hb, hh⟩ := h
  exact ⟨es, clock, hf.heap hb hn, hh⟩
theorem MapR.lt {m : Nat} {l : List (κ × ν)} (h : MapR kc vc kok w m l) : m < w.heap.size := by
  obtain ⟨es, clock, hb, hh⟩ := h
  exact lt_of_heap hb
theorem MapR.drew {m : Nat} {l : List (κ × ν)} (h : MapR kc vc kok w m l) : MapR kc vc kok w.drew m l := h

theorem MHolds.len {es : List MapEntry} {clock : Nat} {l : List (κ × ν)} (h : MHolds kc vc kok es clock l) : es.length = l.length := by
  have := congrArg List.length h.same
  simpa using this
theorem MHolds.at {es : List MapEntry} {clock : Nat} {l : List (κ × ν)} (h : MHolds kc vc kok es clock l) {j : Nat} {e : MapEntry} (he : es[j]? = some e) : ∃ p, l[j]? = some p ∧ e.key = kc p.1 ∧ e.val = vc p.2 := by
  have := congrArg (fun l => l[j]?) h.same
  simp only [List.getElem?_map, he, Option.map_some] at this
  cases hl : l[j]? with
  | none => rw [hl] at this; cases this
  | some p =>
    rw [hl, Option.map_some, Option.some.injEq, Prod.mk.injEq] at this
    exact ⟨p, rfl, this.1, this.2⟩
theorem MHolds.mem {es : List MapEntry} {clock : Nat} {l : List (κ × ν)} (h : MHolds kc vc kok es clock l) {e : MapEntry} (he : e ∈ es) : ∃ p ∈ l, e.key = kc p.1 ∧ e.val = vc p.2 := by
  obtain ⟨j, hj⟩ := List.mem_iff_getElem?.1 he
  obtain ⟨p, hp, h1, h2⟩ := h.at hj
  exact ⟨p, List.mem_of_getElem? hp, h1, h2⟩

variable [DecidableEq κ]

/-- what a key has -/
def getL {κ ν : Type} [DecidableEq κ] : List (κ × ν) → κ → Option ν
  | [], _ => none
  | q :: l, k => match @BEq.beq κ instBEqOfDecidableEq k q.1 with
    | true => some q.2
    | false => getL l k

theorem lookup_of_mem : ∀ {l : List (κ × ν)}, (l.map Prod.fst).Nodup → ∀ {p : κ × ν}, p ∈ l → getL l p.1 = some p.2
  | [], _, _, h => by cases h
  | q :: l, hn, p, h => by
    rw [List.map_cons, List.nodup_cons] at hn
    rcases List.mem_cons.1 h with rfl | h
    · simp [getL]
    · have hne : p.1 ≠ q.1 := fun e => hn.1 (e ▸ List.mem_map_of_mem h)
      have : (p.1 == q.1) = false := by simpa using hne
      rw [getL, this]
      exact lookup_of_mem hn.2 h
theorem lookup_none : ∀ {l : List (κ × ν)} {k : κ}, (∀ p ∈ l, p.1 ≠ k) → getL l k = none
  | [], _, _ => rfl
  | q :: l, k, h => by
    have hne : (k == q.1) = false := by simpa using (h q (List.mem_cons_self ..)).symm
    rw [getL, hne]
    exact lookup_none fun p hp => h p (List.mem_cons_of_mem _ hp)
theorem lookup_some_mem : ∀ {l : List (κ × ν)} {k : κ} {v : ν}, getL l k = some v → (k, v) ∈ l
  | [], _, _, h => by cases h
  | q :: l, k, v, h => by
    rw [getL] at h
    split at h
    · rename_i he
      rw [beq_iff_eq] at he
      cases h
      subst he
      exact List.mem_cons_self ..
    · exact List.mem_cons_of_mem _ (lookup_some_mem h)

/-- a value is put in -/
def setL (l : List (κ × ν)) (k : κ) (v : ν) : List (κ × ν) := if (getL l k).isSome then l.map fun p => if p.1 = k then (k, v) else p else l ++ [(k, v)]
def delL (l : List (κ × ν)) (k : κ) : List (κ × ν) := l.filter fun p => decide (p.1 ≠ k)

theorem lookup_setL (l : List (κ × ν)) (k : κ) (v : ν) (k' : κ) : getL (setL l k v) k' = if k' = k then some v else getL l k' := by
  unfold setL
  split
  · rename_i hs
    by_cases e : k' = k
    · subst e
      rw [if_pos rfl]
      obtain ⟨u, hu⟩ := Option.isSome_iff_exists.1 hs
      clear hs
      induction l with
      | nil => cases hu
      | cons q l ih =>
        rw [getL] at hu
        rw [List.map_cons]
        by_cases hq : q.1 = k'
        · rw [if_pos hq]; simp [getL]
        · have : (k' == q.1) = false := by simpa using fun h => hq h.symm
          rw [this] at hu
          rw [if_neg hq, getL, this]
          exact ih hu
    · rw [if_neg e]
      clear hs
      induction l with
      | nil => rfl
      | cons q l ih =>
        rw [List.map_cons]
        by_cases hq : q.1 = k
        · have h1 : (k' == k) = false := by simpa using e
          have h2 : (k' == q.1) = false := by rw [hq]; exact h1
          rw [if_pos hq, getL, h1, getL, h2]
          exact ih
        · rw [if_neg hq, getL, getL]
          cases (k' == q.1)
          · exact ih
          · rfl
  · rename_i hs
    have hn : getL l k = none := by
      cases hl : getL l k with
      | none => rfl
      | some v => rw [hl] at hs; exact absurd rfl hs
    clear hs
    induction l with
    | nil =>
      by_cases e : k' = k
      · subst e; simp [getL]
      · have : (k' == k) = false := by simpa using e
        simp [getL, this, e]
    | cons q l ih =>
      rw [getL] at hn
      rw [List.cons_append, getL, getL]
      cases hq : (k == q.1) with
      | true => rw [hq] at hn; cases hn
      | false =>
        rw [hq] at hn
        cases h1 : (k' == q.1) with
        | true =>
          have : k' ≠ k := fun e => by
            subst e; rw [hq] at h1; cases h1
          rw [if_neg this]
        | false => exact ih hn

theorem lookup_delL (l : List (κ × ν)) (k k' : κ) : getL (delL l k) k' = if k' = k then none else getL l k' := by
  unfold delL
  induction l with
  | nil => simp [getL]
  | cons q l ih =>
    rw [List.filter_cons]
    by_cases hq : q.1 = k
    · rw [if_neg (by simp [hq]), ih]
      by_cases e : k' = k
      · rw [if_pos e, if_pos e]
      · have : (k' == q.1) = false := by rw [hq]; simpa using e
        rw [if_neg e, if_neg e, getL, this]
    · rw [if_pos (by simpa using hq), getL, getL]
      cases h1 : (k' == q.1) with
      | true =>
        have : k' ≠ k := fun e => hq (by rw [← e]; exact (beq_iff_eq.1 h1).symm)
        rw [if_neg this]
      | false => exact ih

theorem setL_keys (l : List (κ × ν)) (k : κ) (v : ν) : (setL l k v).map Prod.fst = if (getL l k).isSome then l.map Prod.fst else l.map Prod.fst ++ [k] := by
  unfold setL
  split
  · rw [List.map_map]
    apply List.map_congr_left
    intro p _
    simp only [Function.comp]
    split
    · rename_i h; exact h.symm
    · rfl
  · simp

theorem not_key {l : List (κ × ν)} {k : κ} (h : getL l k = none) : ∀ p ∈ l, p.1 ≠ k := by
  intro p hp e
  subst e
  induction l with
  | nil => cases hp
  | cons q l ih =>
    rw [getL] at h
    split at h
    · cases h
    · rename_i hq
      rcases List.mem_cons.1 hp with rfl | hp
      · simp at hq
      · exact ih hp h

/-! ### What is found -/

theorem run_getObj {b : Nat} {o : Obj} (h : w.heap[b]? = some o) (ho : ∀ c T fz, o ≠ .cells c T fz) : (getObj b).run P w = .ok o w := by
  cases o with
  | cells c T fz => exact absurd rfl (ho c T fz)
  | _ => simp [getObj, Sem.run, h]
theorem run_getMap {b : Nat} {es : Array MapEntry} {c : Nat} (h : w.heap[b]? = some (.map es c)) : (getObj b).run P w = .ok (.map es c) w := run_getObj h (by intro c T fz e; cases e)

theorem run_find {KT : TypeId} [hK : KeyC P KT κ kc kok] {es : List MapEntry} {clock : Nat} {l : List (κ × ν)} (h : MHolds kc vc kok es clock l) {k : κ} (hk : kok k) :
    (getL l k = none ∧ (Instr.findKey KT (kc k) es).run P w = .ok none w ∧ ∀ p ∈ l, p.1 ≠ k) ∨
    ∃ j p, l[j]? = some p ∧ p.1 = k ∧ getL l k = some p.2 ∧ (Instr.findKey KT (kc k) es).run P w = .ok (some (j, vc p.2)) w := by
  obtain ⟨lx, hlx⟩ := hK.of k hk
  rcases hK.law.find w hlx es (fun e he => by
    obtain ⟨p, hp, h1, h2⟩ := h.mem he
    rw [h1]; exact hK.of _ (h.ok p hp)) with ⟨h1, h2⟩ | ⟨j, e, h1, h2, h3⟩
  · have hne : ∀ p ∈ l, p.1 ≠ k := by
      intro p hp e
      obtain ⟨j, hj⟩ := List.mem_iff_getElem?.1 hp
      have hlt : j < es.length := by rw [h.len]; exact (List.getElem?_eq_some_iff.1 hj).1
      obtain ⟨p', hp', h3, h4⟩ := h.at (List.getElem?_eq_getElem hlt)
      rw [hj] at hp'
      cases hp'
      exact h2 _ (List.getElem_mem hlt) (by rw [h3, e])
    exact .inl ⟨lookup_none hne, h1, hne⟩
  · obtain ⟨p, hp, h4, h5⟩ := h.at h2
    have hpk : p.1 = k := hK.inj _ _ (by rw [← h4, h3])
    refine .inr ⟨j, p, hp, hpk, ?_, by rw [h1, h5]⟩
    rw [← hpk]
    exact lookup_of_mem h.nd (List.mem_of_getElem? hp)

/-- what is told of a key -/
def got (vc : ν → Value) (z : Value) : Option ν → Value
  | some v => vc v
  | none => z

omit [DecidableEq κ] in
theorem run_check {KT : TypeId} [hK : KeyC P KT κ kc kok] {k : κ} (hk : kok k) (em : Bool) : (Instr.checkKey em 10000 KT (kc k)).run P w = .ok () w := by
  obtain ⟨lx, hlx⟩ := hK.of k hk
  exact hK.law.check w em hlx

theorem s_lk {T KT VT : TypeId} {z : Value} [hT : MpT P T KT VT] [hK : KeyC P KT κ kc kok] [hz : ZV P VT z] {m : Nat} {l : List (κ × ν)} {k : κ} {ok : Bool} (h : MapR kc vc kok w m l) (hk : kok k)
    (hh : K (if ok then .tuple #[got vc z (getL l k), .bool (getL l k).isSome] else got vc z (getL l k)) w) : opS P (S.lk T (.map (some m)) (kc k) ok) K w := by
  obtain ⟨es, clock, hb, hh'⟩ := h
  unfold S.lk
  rw [opS_bind]
  unfold Instr.lookup
  rw [Sem.run_bind, run_underlying_of hT.und, Result.andThen_ok]
  simp only []
  rw [Sem.run_bind, run_getMap hb, Result.andThen_ok]
  simp only [pure_bind]
  rw [Sem.run_bind, run_check hk, Result.andThen_ok]
  rcases run_find (P := P) (w := w) (KT := KT) hh' hk with ⟨h1, h2, _⟩ | ⟨j, p, h1, h2, h3, h4⟩
  · rw [h1] at hh
    simp only [Sem.run_bind, h2, hz.zero w, Result.andThen_ok, Sem.run_pure]
    cases ok <;> exact hh
  · rw [h3] at hh
    simp only [Sem.run_bind, h4, Result.andThen_ok, Sem.run_pure]
    cases ok <;> exact hh

/-! ### What is put in -/

theorem modify_map (es : Array MapEntry) (j : Nat) (f : MapEntry → MapEntry) : (es.modify j f).toList = es.toList.mapIdx fun i e => if i = j then f e else e := by
  apply List.ext_getElem?
  intro i
  rw [List.getElem?_mapIdx, Array.getElem?_toList, Array.getElem?_toList, Array.getElem?_modify]
  by_cases h : j = i
  · subst h; simp
  · have : ¬ i = j := fun e => h e.symm
    simp [h, this]

theorem MHolds.put {es : Array MapEntry} {clock : Nat} {l : List (κ × ν)} (h : MHolds kc vc kok es.toList clock l) {k : κ} {v : ν} {j : Nat} {p : κ × ν} (hj : l[j]? = some p) (hp : p.1 = k) :
    MHolds kc vc kok (es.modify j fun e => { e with key := kc k, val := vc v }).toList clock (setL l k v) := by
  have hl : getL l k = some p.2 := by rw [← hp]; exact lookup_of_mem h.nd (List.mem_of_getElem? hj)
  have hjl := (List.getElem?_eq_some_iff.1 hj).1
  have hset : setL l k v = l.mapIdx fun i q => if i = j then (k, v) else q := by
    unfold setL
    rw [if_pos (by rw [hl]; rfl)]
    apply List.ext_getElem?
    intro i
    rw [List.getElem?_map, List.getElem?_mapIdx]
    cases hq : l[i]? with
    | none => rfl
    | some q =>
      simp only [Option.map_some, Option.some.injEq]
      by_cases e : i = j
      · subst e
        rw [hj] at hq; cases hq
        rw [if_pos hp, if_pos rfl]
      · rw [if_neg e, if_neg]
        intro hqk
        have hi := (List.getElem?_eq_some_iff.1 hq).1
        have h1 : (l.map Prod.fst)[i]'(by simpa using hi) = (l.map Prod.fst)[j]'(by simpa using hjl) := by
          have a1 := (List.getElem?_eq_some_iff.1 hq).2
          have a2 := (List.getElem?_eq_some_iff.1 hj).2
          simp only [List.getElem_map]
          rw [a1, a2, hqk, hp]
        exact e ((List.getElem_inj h.nd).1 h1)
  refine ⟨?_, ?_, ?_, ?_, ?_⟩
  · rw [modify_map, hset]
    apply List.ext_getElem?
    intro i
    have := congrArg (fun l => l[i]?) h.same
    simp only [List.getElem?_map, List.getElem?_mapIdx] at this ⊢
    cases h1 : es.toList[i]? <;> cases h2 : l[i]? <;> rw [h1, h2] at this
    · rfl
    · cases this
    · cases this
    · simp only [Option.map_some, Option.some.injEq] at this ⊢
      split
      · rfl
      · exact this
  · rw [setL_keys, if_pos (by rw [hl]; rfl)]; exact h.nd
  · intro q hq
    rw [hset, List.mem_mapIdx] at hq
    obtain ⟨i, hi, rfl⟩ := hq
    split
    · rw [← hp]; exact h.ok p (List.mem_of_getElem? hj)
    · exact h.ok _ (List.getElem_mem hi)
  · rw [modify_map]
    have : (es.toList.mapIdx fun i e => if i = j then ({ e with key := kc k, val := vc v } : MapEntry) else e).map (·.born) = es.toList.map (·.born) := by
      apply List.ext_getElem?
      intro i
      simp only [List.getElem?_map, List.getElem?_mapIdx]
      cases es.toList[i]? with
      | none => rfl
      | some e => simp only [Option.map_some, Option.some.injEq]; split <;> rfl
    rw [this]; exact h.born
  · intro e he
    rw [modify_map, List.mem_mapIdx] at he
    obtain ⟨i, hi, rfl⟩ := he
    have := h.lt _ (List.getElem_mem hi)
    split <;> exact this

theorem MHolds.add {es : Array MapEntry} {clock : Nat} {l : List (κ × ν)} (h : MHolds kc vc kok es.toList clock l) {k : κ} {v : ν} (hk : kok k) (hn : ∀ p ∈ l, p.1 ≠ k) (hl : getL l k = none) :
    MHolds kc vc kok (es.push { key := kc k, val := vc v, born := clock }).toList (clock + 1) (setL l k v) := by
  have hset : setL l k v = l ++ [(k, v)] := by unfold setL; rw [if_neg (by rw [hl]; simp)]
  rw [hset, Array.toList_push]
  refine ⟨by simp [h.same], ?_, ?_, ?_, ?_⟩
  · rw [List.map_append, List.nodup_append]
    refine ⟨h.nd, by simp, ?_⟩
    intro a ha b hb
    simp at hb
    subst hb
    obtain ⟨p, hp, rfl⟩ := List.mem_map.1 ha
    exact hn p hp
  · intro p hp
    rcases List.mem_append.1 hp with hp | hp
    · exact h.ok p hp
    · simp at hp; subst hp; exact hk
  · rw [List.map_append, List.nodup_append]
    refine ⟨h.born, by simp, ?_⟩
    intro a ha b hb
    simp at hb
    subst hb
    obtain ⟨e, he, rfl⟩ := List.mem_map.1 ha
    have := h.lt e he
    omega
  · intro e he
    rcases List.mem_append.1 he with he | he
    · have := h.lt e he; omega
    · simp at he; subst he; simp

theorem s_mu {T KT VT : TypeId} [hT : MpT P T KT VT] [hK : KeyC P KT κ kc kok] {m : Nat} {l : List (κ × ν)} {k : κ} {v : ν} (h : MapR kc vc kok w m l) (hk : kok k)
    (hh : ∀ w', MapR kc vc kok w' m (setL l k v) → Fr (fun b => b = m) w w' → K undef w') : opS P (S.mu T (.map (some m)) (kc k) (vc v)) K w := by
  obtain ⟨es, clock, hb, hh'⟩ := h
  have key : ∃ es' clock', (Instr.mapUpdate T (.map (some m)) (kc k) (vc v)).run P w = .ok () (upd w m (.map es' clock')) ∧ MHolds kc vc kok es'.toList clock' (setL l k v) := by
    unfold Instr.mapUpdate
    rw [Sem.run_bind, run_underlying_of hT.und, Result.andThen_ok]
    simp only []
    rw [Sem.run_bind, run_getMap hb, Result.andThen_ok]
    simp only []
    rw [Sem.run_bind, run_check hk, Result.andThen_ok]
    rcases run_find (P := P) (w := w) (KT := KT) hh' hk with ⟨h1, h2, h3⟩ | ⟨j, p, h1, h2, h3, h4⟩
    · rw [Sem.run_bind, h2, Result.andThen_ok]
      simp only []
      exact ⟨_, _, run_setObj hb (by intro c T fz e; cases e), hh'.add hk h3 h1⟩
    · rw [Sem.run_bind, h4, Result.andThen_ok]
      simp only []
      have hje : ∃ e, es[j]? = some e ∧ e.key = kc k := by
        have hlt : j < es.size := by
          have := (List.getElem?_eq_some_iff.1 h1).1
          rw [← hh'.len, Array.length_toList] at this; exact this
        refine ⟨es[j], Array.getElem?_eq_getElem hlt, ?_⟩
        obtain ⟨q, hq, hk1, _⟩ := hh'.at (j := j) (e := es[j]) (by rw [Array.getElem?_toList]; exact Array.getElem?_eq_getElem hlt)
        rw [h1] at hq; cases hq
        rw [hk1, h2]
      obtain ⟨e, he, hke⟩ := hje
      obtain ⟨lx, hlx⟩ := hK.of k hk
      have hst := hK.law.stays w hlx
      rw [he]
      simp only [Option.map_some, Option.getD_some, hke]
      rw [Sem.run_bind, hst, Result.andThen_ok]
      exact ⟨_, _, run_setObj hb (by intro c T fz e; cases e), hh'.put h1 h2⟩
  obtain ⟨es', clock', hr, hM⟩ := key
  unfold S.mu opS
  rw [Sem.run_bind, hr, Result.andThen_ok]
  exact hh _ ⟨es', clock', heap_upd_same (by rw [hb]; rfl), hM⟩ (Fr.upd' hb rfl _ rfl rfl)

/-! ### What is taken out -/

omit [DecidableEq κ] in
theorem map_eraseIdx' {α β : Type} (f : α → β) : ∀ (l : List α) (i : Nat), (l.eraseIdx i).map f = (l.map f).eraseIdx i
  | [], _ => rfl
  | _ :: _, 0 => rfl
  | a :: l, i + 1 => by simp [map_eraseIdx' f l i]

theorem MHolds.del {es : Array MapEntry} {clock : Nat} {l : List (κ × ν)} (h : MHolds kc vc kok es.toList clock l) {k : κ} {j : Nat} {p : κ × ν} (hj : l[j]? = some p) (hp : p.1 = k) :
    MHolds kc vc kok (es.eraseIdxIfInBounds j).toList clock (delL l k) := by
  have hjl := (List.getElem?_eq_some_iff.1 hj).1
  have hje : j < es.size := by rw [← Array.length_toList, h.len]; exact hjl
  have hd : delL l k = l.eraseIdx j := by
    unfold delL
    have hnd := h.nd
    clear h hje hjl
    induction l generalizing j with
    | nil => cases hj
    | cons q l ih =>
      rw [List.map_cons, List.nodup_cons] at hnd
      cases j with
      | zero =>
        cases hj
        rw [List.filter_cons, if_neg (by simp [hp]), List.eraseIdx_cons_zero]
        apply List.filter_eq_self.2
        intro a ha
        simp only [decide_eq_true_eq]
        intro e
        exact hnd.1 (by rw [hp, ← e]; exact List.mem_map_of_mem ha)
      | succ j =>
        rw [List.getElem?_cons_succ] at hj
        have hne : q.1 ≠ k := fun e => hnd.1 (by rw [e, ← hp]; exact List.mem_map_of_mem (List.mem_of_getElem? hj))
        rw [List.filter_cons, if_pos (by simpa using hne), List.eraseIdx_cons_succ, ih hj hnd.2]
  have he : (es.eraseIdxIfInBounds j).toList = es.toList.eraseIdx j := by
    unfold Array.eraseIdxIfInBounds
    rw [dif_pos hje, Array.toList_eraseIdx]
  rw [hd, he]
  have sub := List.eraseIdx_sublist l j
  have sub2 := List.eraseIdx_sublist es.toList j
  refine ⟨?_, ?_, fun q hq => h.ok q (sub.subset hq), ?_, fun e hm => h.lt e (sub2.subset hm)⟩
  · rw [map_eraseIdx', map_eraseIdx', h.same]
  · exact h.nd.sublist (sub.map _)
  · exact h.born.sublist (sub2.map _)

theorem delL_none {l : List (κ × ν)} {k : κ} (h : ∀ p ∈ l, p.1 ≠ k) : delL l k = l :=
  List.filter_eq_self.2 fun p hp => by simpa using h p hp

theorem s_del {T KT VT KT' ty : TypeId} [hT : MpT P T KT VT] [hK : KeyC P KT κ kc kok] {m : Nat} {l : List (κ × ν)} {k : κ} (h : MapR kc vc kok w m l) (hk : kok k)
    (hh : ∀ w', MapR kc vc kok w' m (delL l k) → Fr (fun b => b = m) w w' → K (.tuple #[]) w') : opS P (S.bi .delete #[T, KT'] ty [.map (some m), kc k]) K w := by
  obtain ⟨es, clock, hb, hh'⟩ := h
  have key : ∃ es' clock', (Builtin.delete_ #[T, KT'] ty #[.map (some m), kc k]).run P w = .ok (.tuple #[]) (upd w m (.map es' clock')) ∧ MHolds kc vc kok es'.toList clock' (delL l k) := by
    unfold Builtin.delete_
    simp only [List.getElem?_toArray, List.getElem?_cons_zero, List.getElem?_cons_succ]
    rw [Sem.run_bind, run_underlying_of hT.und, Result.andThen_ok]
    simp only []
    rw [Sem.run_bind, run_getMap hb, Result.andThen_ok]
    simp only []
    rw [Sem.run_bind, run_check hk, Result.andThen_ok]
    rcases run_find (P := P) (w := w) (KT := KT) hh' hk with ⟨h1, h2, h3⟩ | ⟨j, p, h1, h2, h3, h4⟩
    · rw [Sem.run_bind, h2, Result.andThen_ok]
      simp only []
      rw [Sem.run_bind, run_setObj hb (by intro c T fz e; cases e), Result.andThen_ok]
      exact ⟨_, _, rfl, by rw [delL_none h3]; exact hh'⟩
    · rw [Sem.run_bind, h4, Result.andThen_ok]
      simp only []
      rw [Sem.run_bind, run_setObj hb (by intro c T fz e; cases e), Result.andThen_ok]
      exact ⟨_, _, rfl, hh'.del h1 h2⟩
  obtain ⟨es', clock', hr, hM⟩ := key
  show opS P (do pure (Next.value (← Builtin.delete_ #[T, KT'] ty #[.map (some m), kc k]))) K w
  rw [opS_bind, hr]
  exact hh _ ⟨es', clock', heap_upd_same (by rw [hb]; rfl), hM⟩ (Fr.upd' hb rfl _ rfl rfl)

omit [DecidableEq κ] in
theorem s_mkm {T : TypeId} (hh : ∀ w', MapR kc vc kok w' w.heap.size ([] : List (κ × ν)) → Fr none_ w w' → w'.heap.size = w.heap.size + 1 → K (.map (some w.heap.size)) w') : opS P (S.mkm T none) K w := by
  have : (Instr.makeMap T none).run P w = .ok (.map (some w.heap.size)) (w.alloc (.map #[] 0)) := rfl
  unfold S.mkm
  rw [opS_bind, this]
  exact hh _ ⟨#[], 0, heap_alloc_new _ _, rfl, List.nodup_nil, by simp, List.nodup_nil, by simp⟩ (Fr.alloc _ _ rfl) (size_alloc _ _)

/-! ### What is gone through -/

/-- an iterator over a map: what is left -/
def IterR (kc : κ → Value) (vc : ν → Value) (kok : κ → Prop) (w : World) (it m : Nat) (l todo : List (κ × ν)) : Prop :=
  it ≠ m ∧ ∃ es clock seen, w.heap[m]? = some (.map es clock) ∧ MHolds kc vc kok es.toList clock l ∧ w.heap[it]? = some (.mapIter (some m) clock seen clock) ∧
    (leftOf es seen).toList.map (fun e => (e.key, e.val)) = todo.map fun p => (kc p.1, vc p.2)

omit [DecidableEq κ] in
theorem IterR.map {it m : Nat} {l todo : List (κ × ν)} (h : IterR kc vc kok w it m l todo) : MapR kc vc kok w m l := by
  obtain ⟨_, es, clock, seen, h1, h2, _⟩ := h
  exact ⟨es, clock, h1, h2⟩
omit [DecidableEq κ] in
theorem IterR.fr {fp : Nat → Prop} {w w' : World} {it m : Nat} {l todo : List (κ × ν)} (h : IterR kc vc kok w it m l todo) (hf : Fr fp w w') (h1 : ¬ fp it) (h2 : ¬ fp m) : IterR kc vc kok w' it m l todo := by
  obtain ⟨hne, es, clock, seen, a1, a2, a3, a4⟩ := h
  exact ⟨hne, es, clock, seen, hf.heap a1 h2, a2, hf.heap a3 h1, a4⟩
omit [DecidableEq κ] in
theorem IterR.ne {it m : Nat} {l todo : List (κ × ν)} (h : IterR kc vc kok w it m l todo) : it ≠ m := h.1
omit [DecidableEq κ] in
theorem IterR.lt {it m : Nat} {l todo : List (κ × ν)} (h : IterR kc vc kok w it m l todo) : it < w.heap.size := by
  obtain ⟨hne, es, clock, seen, a1, a2, a3, a4⟩ := h
  exact lt_of_heap a3

omit [DecidableEq κ] in
theorem s_rng {T KT VT : TypeId} [hT : MpT P T KT VT] {m : Nat} {l : List (κ × ν)} (h : MapR kc vc kok w m l)
    (hh : ∀ w', IterR kc vc kok w' w.heap.size m l l → Fr none_ w w' → w'.heap.size = w.heap.size + 1 → K (pt w.heap.size 0) w') : opS P (S.rng T (.map (some m))) K w := by
  obtain ⟨es, clock, hb, hM⟩ := h
  have hr : (Instr.range T (.map (some m))).run P w = .ok (pt w.heap.size 0) (w.alloc (.mapIter (some m) clock #[] clock)) := by
    unfold Instr.range
    rw [Sem.run_bind, run_underlying_of hT.und, Result.andThen_ok]
    simp only []
    rw [Sem.run_bind, run_getMap hb, Result.andThen_ok]
    rfl
  unfold S.rng
  rw [opS_bind, hr]
  have hlt := lt_of_heap hb
  refine hh _ ⟨by omega, es, clock, #[], ?_, hM, heap_alloc_new _ _, ?_⟩ (Fr.alloc _ _ rfl) (size_alloc _ _)
  · rw [heap_alloc_lt hlt]; exact hb
  · rw [← hM.same]
    have : leftOf es #[] = es := by
      unfold leftOf
      simp
    rw [this]

omit [DecidableEq κ] in
theorem filter_seen {l : List MapEntry} {seen : Array Nat} {e : MapEntry} (hn : (l.map (·.born)).Nodup) : ∀ {i : Nat}, (l.filter fun x => !seen.contains x.born)[i]? = some e →
    (l.filter fun x => !(seen.push e.born).contains x.born) = (l.filter fun x => !seen.contains x.born).eraseIdx i := by
  induction l with
  | nil => intro i h; cases h
  | cons q l ih =>
    intro i h
    rw [List.map_cons, List.nodup_cons] at hn
    by_cases hq : q.born ∈ seen
    · rw [List.filter_cons, if_neg (by simp [hq])] at h
      rw [List.filter_cons, if_neg (by simp [hq]), List.filter_cons, if_neg (by simp [hq])]
      exact ih hn.2 h
    · rw [List.filter_cons, if_pos (by simp [hq])] at h
      cases i with
      | zero =>
        cases h
        rw [List.filter_cons, if_neg (by simp), List.filter_cons, if_pos (by simp [hq]), List.eraseIdx_cons_zero]
        apply List.filter_congr
        intro x hx
        have : x.born ≠ e.born := fun h2 => hn.1 (by rw [← h2]; exact List.mem_map_of_mem hx)
        simp [this]
      | succ i =>
        rw [List.getElem?_cons_succ] at h
        have hmem : e ∈ l := (List.mem_filter.1 (List.mem_of_getElem? h)).1
        have hne : q.born ≠ e.born := fun he => hn.1 (by rw [he]; exact List.mem_map_of_mem hmem)
        rw [List.filter_cons, if_pos (by simp [hq, hne]), ih hn.2 h, List.filter_cons, if_pos (by simp [hq]), List.eraseIdx_cons_succ]

omit [DecidableEq κ] in
/-- a step: nothing is left, or one that is left comes out -/
theorem s_nxt {ty it m : Nat} {l todo : List (κ × ν)} (h : IterR kc vc kok w it m l todo) (h0 : todo = [] → K (.tuple #[.bool false]) w)
    (h1 : ∀ i p w', todo[i]? = some p → IterR kc vc kok w' it m l (todo.eraseIdx i) → Fr (fun b => b = it) w w' → w'.heap.size = w.heap.size →
      (∀ w2, Fr (fun b => b ≠ it ∧ b ≠ m) w' w2 → (Instr.entry (pt it 0)).run P w2 = .ok (.tuple #[kc p.1, vc p.2]) w2) → K (.tuple #[.bool true, kc p.1, vc p.2]) w') :
    opS P (S.nxt (pt it 0) false ty) K w := by
  obtain ⟨hne, es, clock, seen, a1, a2, a3, a4⟩ := h
  unfold S.nxt
  rw [opS_bind]
  rcases run_next_at (P := P) w ty it m clock clock seen es clock a3 a1 (fun x hx => a2.lt x hx) (Nat.le_refl _) with ⟨g1, g2⟩ | ⟨e, he, w1, hw1, hr⟩
  · rw [show (pt it 0) = .pointer (some ⟨it, 0, none⟩) from rfl, g2]
    refine h0 ?_
    have : (leftOf es seen).toList = [] := List.eq_nil_of_length_eq_zero (by rw [Array.length_toList]; exact g1)
    rw [this] at a4
    exact List.map_eq_nil_iff.1 a4.symm
  · rw [show (pt it 0) = .pointer (some ⟨it, 0, none⟩) from rfl, hr]
    obtain ⟨i, hi⟩ := List.mem_iff_getElem?.1 he
    have hp : ∃ p, todo[i]? = some p ∧ e.key = kc p.1 ∧ e.val = vc p.2 := by
      have := congrArg (fun l => l[i]?) a4
      simp only [List.getElem?_map, hi, Option.map_some] at this
      cases hl : todo[i]? with
      | none => rw [hl] at this; cases this
      | some p =>
        rw [hl, Option.map_some, Option.some.injEq, Prod.mk.injEq] at this
        exact ⟨p, rfl, this.1, this.2⟩
    obtain ⟨p, hp, hk, hv⟩ := hp
    have hheap : w1.heap = w.heap := by rcases hw1 with rfl | rfl <;> rfl
    have hset : ChangeMaps.setBlock w1 it (.mapIter (some m) clock (seen.push e.born) clock) = upd w1 it (.mapIter (some m) clock (seen.push e.born) clock) := rfl
    rw [hset, hk, hv]
    have b1 : (upd w1 it (.mapIter (some m) clock (seen.push e.born) clock)).heap[m]? = some (.map es clock) := by rw [heap_upd_ne hne, hheap]; exact a1
    have b3 : (upd w1 it (.mapIter (some m) clock (seen.push e.born) clock)).heap[it]? = some (.mapIter (some m) clock (seen.push e.born) clock) := heap_upd_same (by rw [hheap, a3]; rfl)
    have hem : e ∈ es.toList := by
      unfold leftOf at he
      rw [Array.toList_filter] at he
      exact (List.mem_filter.1 he).1
    refine h1 i p _ hp ⟨hne, es, clock, seen.push e.born, b1, a2, b3, ?_⟩ ?_ ?_ ?_
    · have : (leftOf es (seen.push e.born)).toList = (leftOf es seen).toList.eraseIdx i := by
        unfold leftOf at hi ⊢
        rw [Array.toList_filter] at hi ⊢
        rw [Array.toList_filter]
        exact filter_seen a2.born hi
      rw [this, map_eraseIdx', map_eraseIdx', a4]
    · have hF : Fr (fun b => b = it) w w1 := by
        rcases hw1 with rfl | rfl
        · exact Fr.refl _ _
        · exact Fr.drew _
      exact hF.trans (Fr.upd' (x := .mapIter (some m) clock seen clock) (by rw [hheap]; exact a3) rfl _ rfl rfl)
    · rw [size_upd, hheap]
    · intro w2 hF
      have := run_entry_at (P := P) w2 it m clock seen es clock e (hF.heap b3 (fun h => h.1 rfl)) (hF.heap b1 (fun h => h.2 rfl)) hem a2.born
      rw [← hk, ← hv]
      exact this

theorem s_ent {it : Nat} {v : Value} (h : (Instr.entry (pt it 0)).run P w = .ok v w) (hh : K v w) : opS P (S.ent (pt it 0)) K w := by
  unfold S.ent
  rw [opS_bind, h]
  exact hh

end
end Go.Gx
end

section
/- Bytes, texts of bytes, frames. -/
namespace Go.Gx
open Go
variable {P : Program} {K : Value → World → Prop} {w : World}

/-! ### Bytes -/

def cell1 (n : Int) : List Value := [u8 n]
/-- bytes that can be read -/
def ByR (w : World) (v : Value) (bs : List Int) : Prop := RdE 1 w v (bs.map cell1) ∧ ∀ b ∈ bs, isB b
theorem ByR.fr {fp : Nat → Prop} {w w' : World} {v : Value} {bs : List Int} (h : ByR w v bs) (hf : Fr fp w w') (hn : ∀ b, blkS v = some b → ¬ fp b) : ByR w' v bs := ⟨h.1.fr hf hn, h.2⟩
theorem ByR.form {v : Value} {bs : List Int} (h : ByR w v bs) : ∃ a c, v = .slice a bs.length c := by
  obtain ⟨a, c, rfl⟩ := h.1.form
  exact ⟨a, c, by simp⟩
theorem ByR.nil (w : World) (a : Option Addr) (c : Nat) : ByR w (.slice a 0 c) [] := ⟨⟨.inl ⟨⟨_, _, rfl⟩, rfl, rfl⟩, by simp⟩, by simp⟩
theorem flat_cell1 (bs : List Int) : (bs.map cell1).flatten = bs.map u8 := by
  induction bs with
  | nil => rfl
  | cons b bs ih => simp [cell1, ih]
theorem flat_cell1_one (bs : List Int) : (bs.map cell1).flatten.all S.oneCell = true := by
  rw [flat_cell1, List.all_map, List.all_eq_true]
  intro x _
  rfl

/-- bytes as_ a text -/
def strOf (bs : List Int) : ByteArray := ⟨(bs.map fun n => UInt8.ofNat n.toNat).toArray⟩

theorem byte_inj {a b : Int} (ha : isB a) (hb : isB b) (h : UInt8.ofNat a.toNat = UInt8.ofNat b.toNat) : a = b := by
  have := congrArg UInt8.toNat h
  simp only [UInt8.toNat_ofNat'] at this
  unfold isB at ha hb
  omega

theorem strOf_inj : ∀ {a b : List Int}, (∀ x ∈ a, isB x) → (∀ x ∈ b, isB x) → ((strOf a).data.toList = (strOf b).data.toList ↔ a = b)
  | [], [], _, _ => by simp [strOf]
  | [], b :: bs, _, _ => by simp [strOf]
  | a :: as_, [], _, _ => by simp [strOf]
  | a :: as_, b :: bs, ha, hb => by
    have ih := @strOf_inj as_ bs (fun x hx => ha x (List.mem_cons_of_mem _ hx)) (fun x hx => hb x (List.mem_cons_of_mem _ hx))
    simp only [strOf] at ih ⊢
    simp only [List.map_cons, List.cons.injEq]
    constructor
    · rintro ⟨h1, h2⟩
      exact ⟨byte_inj (ha a (List.mem_cons_self ..)) (hb b (List.mem_cons_self ..)) h1, ih.1 h2⟩
    · rintro ⟨rfl, rfl⟩
      exact ⟨rfl, rfl⟩

class StrT (P : Program) (T : TypeId) : Prop where
  und : P.underlying T = some .string
class ByT (P : Program) (T : TypeId) : Prop where
  und : ∃ e, P.underlying T = some (.slice e) ∧ P.underlying e = some (.int .u8)

theorem push_strOf (bs cs : List Int) : cs.foldl (fun (s : ByteArray) n => s.push (UInt8.ofNat n.toNat)) (strOf bs) = strOf (bs ++ cs) := by
  induction cs generalizing bs with
  | nil => simp
  | cons c cs ih =>
    rw [List.foldl_cons]
    have : (strOf bs).push (UInt8.ofNat c.toNat) = strOf (bs ++ [c]) := by
      simp [strOf, ByteArray.push]
    rw [this, ih]
    simp

theorem run_b2s {v : Value} {bs : List Int} (h : ByR w v bs) : (Conv.bytesToString v).run P w = .ok (.string (strOf bs)) w := by
  obtain ⟨a, c, rfl⟩ := h.form
  have hf : (Builtin.firstCells 1 bs.length (.slice a bs.length c)).run P w = .ok (bs.map u8).toArray w := by
    have h1 := h.1.1
    rw [flat_cell1, List.length_map] at h1
    exact run_firstCells h1
  cases a with
  | none =>
    have hn : bs = [] := by
      rcases h.1.1 with ⟨_, h2, _⟩ | ⟨b, o, c', cs, T, fz, hv, _⟩
      · exact List.map_eq_nil_iff.1 (List.eq_nil_of_length_eq_zero h2)
      · cases hv
    subst hn
    rfl
  | some a =>
    unfold Conv.bytesToString
    have hl : (loadCells a bs.length).run P w = .ok (bs.map u8).toArray w := by
      have e : Builtin.firstCells 1 bs.length (.slice (some a) bs.length c) = loadCells a (bs.length * 1) := rfl
      rw [e, Nat.mul_one] at hf
      exact hf
    simp only []
    rw [Sem.run_bind, hl, Result.andThen_ok]
    have key : ∀ (F : Value → ByteArray → Sem (ForInStep ByteArray)), (∀ n r, F (u8 n) r = pure (ForInStep.yield (r.push (UInt8.ofNat n.toNat)))) →
        ∀ (cs ds : List Int), (forIn (cs.map u8) (strOf ds) F).run P w = .ok (strOf (ds ++ cs)) w := by
      intro F hF cs
      induction cs with
      | nil => intro ds; simp
      | cons c cs ih =>
        intro ds
        rw [List.map_cons, List.forIn_cons, hF]
        simp only [pure_bind]
        have : (strOf ds).push (UInt8.ofNat c.toNat) = strOf (ds ++ [c]) := by simp [strOf, ByteArray.push]
        rw [this]
        have := ih (ds ++ [c])
        rw [List.append_assoc] at this
        exact this
    rw [← Array.forIn_toList, Sem.run_bind]
    have e0 : ByteArray.empty = strOf [] := rfl
    rw [e0, key _ (fun n r => rfl) bs []]
    rfl

theorem s_b2s {T S' : TypeId} [hT : ByT P T] [hS : StrT P S'] {v : Value} {bs : List Int} (h : ByR w v bs) : opS P (S.conv T S' v) K w = K (.string (strOf bs)) w := by
  unfold S.conv
  rw [opS_bind]
  obtain ⟨e, h1, h2⟩ := hT.und
  have hr : (convert T S' v).run P w = .ok (.string (strOf bs)) w := by
    have hb := run_b2s (P := P) h
    obtain ⟨a, c, rfl⟩ := h.form
    unfold convert
    rw [Sem.run_bind, run_underlying_of h1, Result.andThen_ok, Sem.run_bind, run_underlying_of hS.und, Result.andThen_ok]
    simp only []
    rw [Sem.run_bind, run_underlying_of h2, Result.andThen_ok]
    exact hb
  rw [hr]

theorem s_eqS {a b : List Int} (ha : ∀ x ∈ a, isB x) (hb : ∀ x ∈ b, isB x) : opS P (S.binS .eql (.string (strOf a)) (.string (strOf b))) K w = K (.bool (decide (a = b))) w := by
  unfold S.binS
  simp only []
  rw [opS_bind]
  have : (Op.stringOp .eql (strOf a) (strOf b)).run P w = .ok (.bool (decide (a = b))) w := by
    unfold Op.stringOp
    simp only [Sem.run_pure]
    congr 2
    have e : ∀ x : List Int, (strOf x).toList = (strOf x).data.toList := fun x => by
      exact ByteArray.toList_eq _
    rw [e, e]
    have := strOf_inj ha hb
    by_cases h : a = b
    · subst h; simp
    · rw [decide_eq_false h]
      simpa using fun h2 => h (this.1 h2)
  rw [this]

/-! ### Frames -/

@[ext] structure Frm where
  dst : Mac
  src : Mac
  tagged : Bool
  vlan : Int
  prio : Int
  type : Int
  body : Value

def Frm.cells (f : Frm) : List Value :=
  [u8 f.dst.b0, u8 f.dst.b1, u8 f.dst.b2, u8 f.dst.b3, u8 f.dst.b4, u8 f.dst.b5, u8 f.src.b0, u8 f.src.b1, u8 f.src.b2, u8 f.src.b3, u8 f.src.b4, u8 f.src.b5, .bool f.tagged, i64 f.vlan, i64 f.prio, i64 f.type, f.body]
/-- a frame's numbers are of their kinds -/
def Frm.ok (f : Frm) : Prop := f.dst.ok ∧ f.src.ok ∧ isI f.vlan ∧ isI f.prio ∧ isI f.type
/-- a frame that can be read, and the bytes of its body -/
def FrmR (w : World) (f : Frm) (bs : List Int) : Prop := f.ok ∧ ByR w f.body bs
theorem FrmR.fr {fp : Nat → Prop} {w w' : World} {f : Frm} {bs : List Int} (h : FrmR w f bs) (hf : Fr fp w w') (hn : ∀ b, blkS f.body = some b → ¬ fp b) : FrmR w' f bs := ⟨h.1, h.2.fr hf hn⟩
theorem FrmR.fr0 {w w' : World} {f : Frm} {bs : List Int} (h : FrmR w f bs) (hf : Fr none_ w w') : FrmR w' f bs := h.fr hf fun _ _ h => h

def zMac : Mac := ⟨0, 0, 0, 0, 0, 0⟩
def zFrm : Frm := ⟨zMac, zMac, false, 0, 0, 0, .slice none 0 0⟩
theorem zFrmR (w : World) : FrmR w zFrm [] := ⟨⟨by simp [zFrm, zMac, Mac.ok, isB], by simp [zFrm, zMac, Mac.ok, isB], isI_iff.2 (by simp [zFrm]), isI_iff.2 (by simp [zFrm]), isI_iff.2 (by simp [zFrm])⟩, ByR.nil _ _ _⟩

/-- may it be? n: how long its body is -/
def Frm.right (f : Frm) (n : Nat) : Bool :=
  decide (1536 ≤ f.type ∧ f.type ≤ 65535 ∧ f.type ≠ 33024 ∧ n ≤ 1500) && (if f.tagged then decide (0 ≤ f.vlan ∧ f.vlan ≤ 4094 ∧ 0 ≤ f.prio ∧ f.prio ≤ 7) else decide (f.vlan = 0 ∧ f.prio = 0))

def Frm.tag (f : Frm) (v p : Int) : Frm := { f with tagged := true, vlan := v, prio := p }
def Frm.untag (f : Frm) : Frm := { f with tagged := false, vlan := 0, prio := 0 }

theorem Frm.len (f : Frm) : f.cells.length = 17 := id rfl
theorem Frm.g12 (f : Frm) : f.cells[12]? = some (.bool f.tagged) := id rfl
theorem Frm.g13 (f : Frm) : f.cells[13]? = some (i64 f.vlan) := id rfl
theorem Frm.g14 (f : Frm) : f.cells[14]? = some (i64 f.prio) := id rfl
theorem Frm.g15 (f : Frm) : f.cells[15]? = some (i64 f.type) := id rfl
theorem Frm.g16 (f : Frm) : f.cells[16]? = some f.body := id rfl
theorem Frm.d0 (f : Frm) : (f.cells.drop 0).take 6 = f.dst.cells := id rfl
theorem Frm.d6 (f : Frm) : (f.cells.drop 6).take 6 = f.src.cells := id rfl
theorem Frm.dw (f : Frm) : (f.cells.drop 0).take 17 = f.cells := id rfl
theorem Frm.s12 (f : Frm) (b : Bool) : splice f.cells 12 [.bool b] = { f with tagged := b }.cells := id rfl
theorem Frm.s13 (f : Frm) (n : Int) : splice f.cells 13 [i64 n] = { f with vlan := n }.cells := id rfl
theorem Frm.s14 (f : Frm) (n : Int) : splice f.cells 14 [i64 n] = { f with prio := n }.cells := id rfl
theorem Frm.s15 (f : Frm) (n : Int) : splice f.cells 15 [i64 n] = { f with type := n }.cells := id rfl
theorem Frm.s16 (f : Frm) (v : Value) : splice f.cells 16 [v] = { f with body := v }.cells := id rfl
theorem Frm.s0 (f : Frm) (m : Mac) : splice f.cells 0 m.cells = { f with dst := m }.cells := id rfl
theorem Frm.s6 (f : Frm) (m : Mac) : splice f.cells 6 m.cells = { f with src := m }.cells := id rfl
theorem Frm.sw (f g : Frm) : splice f.cells 0 g.cells = g.cells := id rfl
theorem Frm.one (f : Frm) (h : S.oneCell f.body = true) : f.cells.all S.oneCell = true := by
  simp only [Frm.cells, List.all_cons, one_int, one_bool, h, List.all_nil, Bool.and_self]
theorem Mac.one (m : Mac) : m.cells.all S.oneCell = true := id rfl
theorem Mac.len (m : Mac) : m.cells.length = 6 := id rfl
theorem ByR.one {v : Value} {bs : List Int} (h : ByR w v bs) : S.oneCell v = true := h.1.one
theorem FrmR.one {f : Frm} {bs : List Int} (h : FrmR w f bs) : f.cells.all S.oneCell = true := Frm.one _ h.2.one
attribute [push_cast] Frm.len Frm.g12 Frm.g13 Frm.g14 Frm.g15 Frm.g16 Frm.d0 Frm.d6 Frm.dw Frm.s12 Frm.s13 Frm.s14 Frm.s15 Frm.s16 Frm.s0 Frm.s6 Frm.sw Mac.one Mac.len

/-- what comes behind is small: it may stand in each way -/
theorem jn_1 {k : Value → World → Prop} {m : (Value → World → Prop) → World → Prop} : jnJ 1 k m = m k := jnJ_eq 1 k m
theorem jn_0 {k : World → Prop} {m : (World → Prop) → World → Prop} : jnJ 0 k m = m k := jnJ_eq 0 k m

end Go.Gx
end

section
/- Tables of VLANs: what they come to, in plain Lean. -/
namespace Go.Gx
open Go

/-- members, in the order in which they came, and the native VLANs of the ports -/
structure VT where
  tab : List ((Int × Int) × Bool)
  nat : List Int

namespace VT
def port (t : VT) (p : Int) : Prop := 0 ≤ p ∧ p < t.nat.length
instance (t : VT) (p : Int) : Decidable (t.port p) := by unfold port; infer_instance
def right (t : VT) (v p : Int) : Prop := 1 ≤ v ∧ v ≤ 4094 ∧ t.port p
instance (t : VT) (v p : Int) : Decidable (t.right v p) := by unfold right; infer_instance
structure ok (t : VT) : Prop where
  len : t.nat.length ≤ 64
  key : ∀ x ∈ t.tab, t.right x.1.1 x.1.2
  nat : ∀ n ∈ t.nat, 0 ≤ n ∧ n ≤ 4094
  nd : (t.tab.map Prod.fst).Nodup

def new (n : Nat) : VT := ⟨[], List.replicate n 0⟩
def add (t : VT) (v p : Int) (b : Bool) : VT × Int := if t.right v p then ({ t with tab := setL t.tab (v, p) b }, 0) else (t, 1)
def remove (t : VT) (v p : Int) : VT × Int := if t.right v p then (if (getL t.tab (v, p)).isSome then ({ t with tab := delL t.tab (v, p) }, 0) else (t, 4)) else (t, 1)
def native (t : VT) (p v : Int) : VT × Int := if t.port p ∧ 0 ≤ v ∧ v ≤ 4094 then ({ t with nat := t.nat.set p.toNat v }, 0) else (t, 1)
def is (t : VT) (v p : Int) : Bool := (getL t.tab (v, p)).isSome
def members (t : VT) (v : Int) : List Int := ((List.range t.nat.length).map Int.ofNat).filter fun p => t.is v p
def inn (t : VT) (p : Int) (f : Frm) (n : Nat) : Int × Int :=
  if t.port p ∧ f.right n = true then
    let v := if f.vlan = 0 then t.nat.getD p.toNat 0 else f.vlan
    if t.is v p then (v, 0) else (0, 4)
  else (0, 1)
def out (t : VT) (v p : Int) (f : Frm) (n : Nat) : Frm × Int :=
  if t.right v p ∧ f.right n = true then
    match getL t.tab (v, p) with
    | none => (zFrm, 4)
    | some true => (f.tag v f.prio, 0)
    | some false => (f.untag, 0)
  else (zFrm, 1)

theorem ok_new {n : Nat} (h : n ≤ 64) : (new n).ok := ⟨by simpa [new] using h, by simp [new], by simp [new], by simp [new]⟩

theorem setL_mem {κ ν : Type} [DecidableEq κ] {l : List (κ × ν)} {k : κ} {v : ν} {x : κ × ν} (h : x ∈ setL l k v) : x = (k, v) ∨ x ∈ l := by
  unfold setL at h
  split at h
  · rw [List.mem_map] at h
    obtain ⟨p, hp, rfl⟩ := h
    split
    · exact .inl rfl
    · exact .inr hp
  · rcases List.mem_append.1 h with h | h
    · exact .inr h
    · simp at h; exact .inl h

theorem setL_nodup {κ ν : Type} [DecidableEq κ] {l : List (κ × ν)} {k : κ} {v : ν} (h : (l.map Prod.fst).Nodup) : ((setL l k v).map Prod.fst).Nodup := by
  rw [setL_keys]
  split
  · exact h
  · rename_i hn
    rw [List.nodup_append]
    refine ⟨h, by simp, ?_⟩
    intro a ha b hb
    simp at hb
    subst hb
    obtain ⟨p, hp, rfl⟩ := List.mem_map.1 ha
    refine not_key ?_ p hp
    cases hl : getL l b with
    | none => rfl
    | some v => rw [hl] at hn; exact absurd rfl hn

theorem delL_sub {κ ν : Type} [DecidableEq κ] (l : List (κ × ν)) (k : κ) : (delL l k).Sublist l := List.filter_sublist

theorem ok_add {t : VT} (h : t.ok) (v p : Int) (b : Bool) : (t.add v p b).1.ok := by
  unfold add
  split
  · rename_i hr
    refine ⟨h.len, fun x hx => ?_, h.nat, setL_nodup h.nd⟩
    rcases setL_mem hx with rfl | hx
    · exact hr
    · exact h.key x hx
  · exact h
theorem ok_remove {t : VT} (h : t.ok) (v p : Int) : (t.remove v p).1.ok := by
  unfold remove
  split
  · split
    · exact ⟨h.len, fun x hx => h.key x ((delL_sub _ _).subset hx), h.nat, h.nd.sublist ((delL_sub _ _).map _)⟩
    · exact h
  · exact h
theorem ok_native {t : VT} (h : t.ok) (p v : Int) : (t.native p v).1.ok := by
  unfold native
  split
  · rename_i hr
    refine ⟨by simpa using h.len, fun x hx => ?_, fun n hn => ?_, h.nd⟩
    · have := h.key x hx
      unfold right port at this ⊢
      simpa using this
    · rcases List.mem_or_eq_of_mem_set hn with hn | rfl
      · exact h.nat n hn
      · exact ⟨hr.2.1, hr.2.2⟩
  · exact h
theorem is_right {t : VT} (h : t.ok) {v p : Int} (hi : t.is v p = true) : t.right v p := by
  obtain ⟨b, hb⟩ := Option.isSome_iff_exists.1 hi
  exact h.key _ (lookup_some_mem hb)

theorem tag_right {f : Frm} {n : Nat} (h : f.right n = true) {v : Int} (h1 : 1 ≤ v) (h2 : v ≤ 4094) : (f.tag v f.prio).right n = true := by
  unfold Frm.right Frm.tag at *
  simp only [Bool.and_eq_true, decide_eq_true_eq, if_true] at h ⊢
  obtain ⟨h3, h4⟩ := h
  refine ⟨h3, ?_⟩
  split at h4 <;> simp only [decide_eq_true_eq] at h4 <;> omega

/-! ### Where a key stands -/

theorem get_at {κ ν : Type} [DecidableEq κ] {l : List (κ × ν)} {k : κ} {v : ν} (h : getL l k = some v) : ∃ j : Nat, l[j]? = some (k, v) := by
  obtain ⟨j, hj⟩ := List.mem_iff_getElem?.1 (lookup_some_mem h)
  exact ⟨j, hj⟩

theorem nodup_at {κ ν : Type} {l : List (κ × ν)} (hn : (l.map Prod.fst).Nodup) {i j : Nat} {p q : κ × ν} (hi : l[i]? = some p) (hj : l[j]? = some q) (h : p.1 = q.1) : i = j := by
  have hi' := (List.getElem?_eq_some_iff.1 hi)
  have hj' := (List.getElem?_eq_some_iff.1 hj)
  obtain ⟨h1, h2⟩ := hi'
  obtain ⟨h3, h4⟩ := hj'
  have : (l.map Prod.fst)[i]'(by simpa using h1) = (l.map Prod.fst)[j]'(by simpa using h3) := by
    simp only [List.getElem_map]
    rw [h2, h4, h]
  exact (List.getElem_inj hn).1 this

theorem setL_at {κ ν : Type} [DecidableEq κ] {l : List (κ × ν)} (hn : (l.map Prod.fst).Nodup) {j : Nat} {k : κ} {u : ν} (hj : l[j]? = some (k, u)) (v : ν) : setL l k v = l.set j (k, v) := by
  unfold setL
  rw [if_pos (by rw [lookup_of_mem hn (List.mem_of_getElem? hj)]; rfl)]
  apply List.ext_getElem?
  intro i
  rw [List.getElem?_map, List.getElem?_set]
  have hlt := (List.getElem?_eq_some_iff.1 hj).1
  by_cases e : j = i
  · subst e
    rw [if_pos rfl, if_pos hlt, hj]
    simp
  · rw [if_neg e]
    cases hq : l[i]? with
    | none => rfl
    | some q =>
      rw [Option.map_some, if_neg]
      intro hqk
      exact e (nodup_at hn hj hq hqk.symm)

theorem setL_new {κ ν : Type} [DecidableEq κ] {l : List (κ × ν)} {k : κ} (h : getL l k = none) (v : ν) : setL l k v = l ++ [(k, v)] := by
  unfold setL
  rw [if_neg (by rw [h]; simp)]

theorem delL_at {κ ν : Type} [DecidableEq κ] {l : List (κ × ν)} (hn : (l.map Prod.fst).Nodup) {j : Nat} {k : κ} {u : ν} (hj : l[j]? = some (k, u)) : delL l k = l.take j ++ l.drop (j + 1) := by
  unfold delL
  induction l generalizing j with
  | nil => cases hj
  | cons q l ih =>
    rw [List.map_cons, List.nodup_cons] at hn
    cases j with
    | zero =>
      cases hj
      rw [List.filter_cons, if_neg (by simp), List.take_zero, List.nil_append, List.drop_succ_cons, List.drop_zero]
      apply List.filter_eq_self.2
      intro a ha
      simp only [decide_eq_true_eq]
      intro e
      exact hn.1 (List.mem_map.2 ⟨a, ha, e⟩)
    | succ j =>
      rw [List.getElem?_cons_succ] at hj
      have hne : q.1 ≠ k := fun e => hn.1 (by rw [e]; exact List.mem_map_of_mem (f := Prod.fst) (List.mem_of_getElem? hj))
      rw [List.filter_cons, if_pos (by simpa using hne), List.take_succ_cons, List.drop_succ_cons, List.cons_append, ih hn.2 hj]

theorem nodup_short : ∀ (n : Nat) (l : List Nat), l.Nodup → (∀ x ∈ l, x < n) → l.length ≤ n
  | 0, [], _, _ => Nat.le_refl _
  | 0, x :: l, _, h => by have := h x (List.mem_cons_self ..); omega
  | n + 1, l, hn, h => by
    have ih := nodup_short n (l.filter fun x => decide (x ≠ n)) (hn.filter _) (fun x hx => by
      have h1 := h x (List.mem_filter.1 hx).1
      have h2 : x ≠ n := by simpa using (List.mem_filter.1 hx).2
      omega)
    have key : ∀ l : List Nat, l.Nodup → l.length ≤ (l.filter fun x => decide (x ≠ n)).length + 1 := by
      intro l hn
      induction l with
      | nil => simp
      | cons a l ih =>
        rw [List.nodup_cons] at hn
        rw [List.filter_cons]
        by_cases e : a = n
        · subst e
          rw [if_neg (by simp)]
          have : l.filter (fun x => decide (x ≠ a)) = l := List.filter_eq_self.2 fun x hx => by
            simp only [decide_eq_true_eq]
            intro e
            exact hn.1 (e ▸ hx)
          rw [this]; simp
        · rw [if_pos (by simpa using e)]
          have := ih hn.2
          simp only [List.length_cons]; omega
    have := key l hn
    omega

theorem small {t : VT} (h : t.ok) : t.tab.length ≤ 262144 := by
  have h1 := h.len
  have := nodup_short (4095 * 64) ((t.tab.map Prod.fst).map fun k => k.1.toNat * 64 + k.2.toNat) (by
    refine List.Pairwise.map (R := fun a b : Int × Int => a.1.toNat * 64 + a.2.toNat ≠ b.1.toNat * 64 + b.2.toNat) _ ?_ (List.Pairwise.imp_of_mem ?_ h.nd)
    · exact fun a b (h : a.1.toNat * 64 + a.2.toNat ≠ b.1.toNat * 64 + b.2.toNat) => h
    · intro a b ha hb hab he
      obtain ⟨x, hx, rfl⟩ := List.mem_map.1 ha
      obtain ⟨y, hy, rfl⟩ := List.mem_map.1 hb
      have a1 := h.key x hx
      have a2 := h.key y hy
      unfold right port at a1 a2
      apply hab
      apply Prod.ext <;> omega) (by
    intro n hn
    obtain ⟨k, hk, rfl⟩ := List.mem_map.1 hn
    obtain ⟨x, hx, rfl⟩ := List.mem_map.1 hk
    have a1 := h.key x hx
    unfold right port at a1
    omega)
  simp at this
  omega

end VT
end Go.Gx
end

section
/- Loops with more values, slices of one cell an element. -/
namespace Go.Gx
open Go
variable {P : Program} {K : Value → World → Prop} {w : World}

theorem loop2 {B : (Value → Value → World → Prop) → Value → Value → World → Prop} (I : Nat → Value → Value → World → Prop) (h : ∀ n v u w X, I n v u w → (∀ m v' u' w', m < n → I m v' u' w' → X v' u' w') → B X v u w) (n : Nat) {v u : Value} (h0 : I n v u w) : loopJ 2 B v u w := by
  intro X hX
  have key : ∀ n v u w, (∃ m, m ≤ n ∧ I m v u w) → X v u w := by
    intro n
    induction n with
    | zero =>
      rintro v u w ⟨m, hm, hi⟩
      obtain rfl : m = 0 := by omega
      exact hX v u w (h 0 v u w X hi fun m v' u' w' hm _ => by omega)
    | succ n ih =>
      rintro v u w ⟨m, hm, hi⟩
      exact hX v u w (h m v u w X hi fun k v' u' w' hk hi' => ih v' u' w' ⟨k, by omega, hi'⟩)
  exact key n v u w ⟨n, Nat.le_refl _, h0⟩

theorem loop3 {B : (Value → Value → Value → World → Prop) → Value → Value → Value → World → Prop} (I : Nat → Value → Value → Value → World → Prop) (h : ∀ n v u x w X, I n v u x w → (∀ m v' u' x' w', m < n → I m v' u' x' w' → X v' u' x' w') → B X v u x w) (n : Nat) {v u x : Value} (h0 : I n v u x w) : loopJ 3 B v u x w := by
  intro X hX
  have key : ∀ n v u x w, (∃ m, m ≤ n ∧ I m v u x w) → X v u x w := by
    intro n
    induction n with
    | zero =>
      rintro v u x w ⟨m, hm, hi⟩
      obtain rfl : m = 0 := by omega
      exact hX v u x w (h 0 v u x w X hi fun m v' u' x' w' hm _ => by omega)
    | succ n ih =>
      rintro v u x w ⟨m, hm, hi⟩
      exact hX v u x w (h m v u x w X hi fun k v' u' x' w' hk hi' => ih v' u' x' w' ⟨k, by omega, hi'⟩)
  exact key n v u x w ⟨n, Nat.le_refl _, h0⟩

theorem jn2 {k : Value → Value → World → Prop} {m : (Value → Value → World → Prop) → World → Prop} (Q : Value → Value → World → Prop) (h1 : ∀ v u w', Q v u w' → k v u w') (h2 : ∀ j : Value → Value → World → Prop, (∀ v u w', Q v u w' → j v u w') → m j w) : jnJ 2 k m w := (congrFun (jnJ_eq 2 k m) w).symm ▸ h2 k h1
theorem jn3 {k : Value → Value → Value → World → Prop} {m : (Value → Value → Value → World → Prop) → World → Prop} (Q : Value → Value → Value → World → Prop) (h1 : ∀ v u x w', Q v u x w' → k v u x w') (h2 : ∀ j : Value → Value → Value → World → Prop, (∀ v u x w', Q v u x w' → j v u x w') → m j w) : jnJ 3 k m w := (congrFun (jnJ_eq 3 k m) w).symm ▸ h2 k h1

theorem s_bs1c {T E : TypeId} {ag : Bool} {z : Value} [hT : SlT P T E] [hs : Sz P E 1 ag] [hz : ZV P E z] {x : Value} (hx : S.oneCell x = true) (hzn : z.cells.size = 1)
    (h : ∀ v' w', OwnE E 1 w' v' [[x]] → Fr none_ w w' → New w v' → K v' w') : opS P (S.buildS T 1 [(0, x)]) K w := by
  have hc : x.cells = #[x] := by cases x <;> first | rfl | cases hx
  rw [opS_buildS1 (n := 1) _ (by rw [hc]; rfl) hzn (by decide) (by decide), hc]
  refine h _ _ ⟨.inr ⟨w.heap.size, 0, 1, #[x], rfl, heap_alloc_new _ _, by simp, by simp, by simp⟩, by simp⟩ (Fr.alloc _ _ rfl) fun b hb => ?_
  cases hb; exact Nat.le_refl _

/-- what is known of a world is all that counts -/
theorem at_w (Q : World → Prop) {G : World → Prop} {W : World} (hQ : Q W) (h : ∀ W, Q W → G W) : G W := h W hQ

/-- whole numbers as elements -/
def cellI (n : Int) : List Value := [i64 n]
theorem flat_cellI (l : List Int) : (l.map cellI).flatten = l.map i64 := by
  induction l with
  | nil => rfl
  | cons b bs ih => simp [cellI, ih]
theorem flat_cellI_one (l : List Int) : (l.map cellI).flatten.all S.oneCell = true := by
  rw [flat_cellI, List.all_map, List.all_eq_true]
  intro x _
  rfl

/-- the empty slice -/
theorem own_nil (E sz : Nat) (w : World) : OwnE E sz w (.slice none 0 0) [] := ⟨.inl ⟨rfl, rfl, rfl⟩, by simp⟩

/-- 'append(v, x)': x has one cell -/
theorem s_app1 {T T2 T3 E by_ : TypeId} {ag : Bool} {z : Value} [hT : SlT P T E] [hT2 : SlT P T2 E] [hT3 : SlT P T3 E] [hs : Sz P E 1 ag] [hb : By P E by_] [hz : ZV P E z] {ty : TypeId} {v : Value} {es : List (List Value)} {x : Value}
    (hx : S.oneCell x = true) (hzn : z.cells.size = 1) (hby : 0 < by_) (hv : OwnE E 1 w v es) (hroom : (2 * (es.length + 1) + 192) * by_ ≤ 2 ^ 48)
    (h : ∀ v' w', OwnE E 1 w' v' (es ++ [[x]]) → (blkS v' = blkS v ∨ New w v') → Fr (fun b => blkS v = some b) w w' → K v' w') :
    opS P (S.buildS T3 1 [(0, x)]) (fun y => opS P (S.bi .append #[T, T2] ty [v, y]) K) w := by
  refine s_bs1c hx hzn fun y w1 hy hF1 hN => ?_
  have hv1 := hv.fr hF1 (fun _ _ h => h)
  refine s_app hzn hby hv1 hy.rd (by simp [hx]) (by simpa using hroom) fun v' w' h1 h2 h3 => h v' w' h1 ?_ (Fr.trans (hF1.mono fun _ _ h => h.elim) h3)
  rcases h2 with h2 | h2
  · exact .inl h2
  · exact .inr fun b hb => Nat.le_trans hF1.size (h2 b hb)

theorem splice_get {l vs : List Value} {o : Nat} (h : o + vs.length ≤ l.length) (j : Nat) : (splice l o vs)[j]? = if j < o then l[j]? else if j < o + vs.length then vs[j - o]? else l[j]? := by
  unfold splice
  have ht : (l.take o).length = o := by rw [List.length_take]; omega
  by_cases h1 : j < o
  · rw [if_pos h1, List.append_assoc, List.getElem?_append_left (by omega), List.getElem?_take_of_lt h1]
  · rw [if_neg h1]
    by_cases h2 : j < o + vs.length
    · rw [if_pos h2, List.append_assoc, List.getElem?_append_right (by omega), ht, List.getElem?_append_left (by omega)]
    · rw [if_neg h2, List.getElem?_append_right (by rw [List.length_append]; omega), List.length_append, ht, List.getElem?_drop]
      congr 1
      omega

/-- one cell of an element -/
theorem splice_field {l e : List Value} {p f : Nat} {v : Value} (h : p + e.length ≤ l.length) (he : (l.drop p).take e.length = e) (hf : f < e.length) : splice l (p + f) [v] = splice l p (e.set f v) := by
  apply List.ext_getElem?
  intro j
  rw [splice_get (by simp; omega), splice_get (by simp; omega)]
  simp only [List.length_singleton, List.length_set]
  by_cases h1 : j < p
  · rw [if_pos (by omega), if_pos h1]
  · rw [if_neg h1]
    by_cases h2 : j < p + e.length
    · rw [if_pos h2, List.getElem?_set]
      have hj : l[j]? = e[j - p]? := by
        have : ((l.drop p).take e.length)[j - p]? = e[j - p]? := by rw [he]
        rw [List.getElem?_take_of_lt (by omega), List.getElem?_drop] at this
        rw [← this]; congr 1; omega
      by_cases h3 : j < p + f
      · rw [if_pos h3, if_neg (by omega), hj]
      · rw [if_neg h3]
        by_cases h4 : j = p + f
        · subst h4
          rw [if_pos (by omega), if_pos (by omega), if_pos hf]
          simp
        · rw [if_neg (by omega), if_neg (by omega), hj]
    · rw [if_neg (by omega), if_neg (by omega), if_neg h2]

/-- one cell of an element is written -/
theorem OwnE.putF {E sz : Nat} {b o c i f : Nat} {es : List (List Value)} (h : OwnE E sz w (.slice (some ⟨b, o, none⟩) es.length c) es) (hi : i < es.length) (hf : f < sz) (v : Value) :
    okAt w.heap[b]? (o + i * sz + f) 1 = true ∧ OwnE E sz (wr w b (o + i * sz + f) [v]) (.slice (some ⟨b, o, none⟩) es.length c) (es.set i (es[i].set f v)) := by
  have hlen := h.2 _ (List.getElem_mem hi)
  obtain ⟨h1, h2⟩ := h.put (i := i) (e := es[i].set f v) (by rw [List.length_set, hlen]) hi
  obtain ⟨g1, g2⟩ := h
  rcases g1 with ⟨g1, _⟩ | ⟨b', o', c', cs, hv, hb, hc, ho, hl⟩
  · cases g1
  · simp only [Value.slice.injEq, Option.some.injEq, Addr.mk.injEq] at hv
    obtain ⟨⟨rfl, rfl, _⟩, _, rfl⟩ := hv
    have hm : i * sz + sz ≤ es.length * sz := by rw [← Nat.succ_mul]; exact Nat.mul_le_mul_right _ hi
    have hm2 : es.length * sz ≤ c * sz := Nat.mul_le_mul_right _ hc
    have hel : (cs.toList.drop (o + i * sz)).take es[i].length = es[i] := by
      have := flatten_elem g2 hi 0 sz (by omega)
      rw [hl, Nat.add_zero, List.drop_zero, List.drop_take, List.drop_drop, List.take_take, Nat.min_eq_left (by omega)] at this
      rw [hlen, this, List.take_of_length_le (by omega)]
    refine ⟨?_, ?_⟩
    · rw [hb]
      show (decide (o + i * sz + f + 1 ≤ cs.size) && _) = true
      simp only [Bool.and_eq_true, decide_eq_true_eq, List.all_eq_true]
      exact ⟨by omega, fun x _ => by simp⟩
    · have hw : wr w b (o + i * sz + f) [v] = wr w b (o + i * sz) (es[i].set f v) := by
        unfold wr
        rw [hb]
        simp only []
        have hle : o + i * sz + es[i].length ≤ cs.toList.length := by have e2 : cs.toList.length = cs.size := Array.length_toList; omega
        rw [splice_field hle hel (by omega)]
      rw [hw]
      exact h2

end Go.Gx
end

section
/- Bytes that are copied, cut out, made; shifts and bits. -/
namespace Go.Gx
open Go
variable {P : Program} {K : Value → World → Prop} {w : World}

/-! ### Numbers -/

theorem wrap_u8 (x : Int) : IntKind.u8.wrap x = x % 256 := by
  unfold IntKind.wrap
  have e1 : (2 : Int) ^ IntKind.u8.bits = 256 := rfl
  have e3 : IntKind.u8.signed = false := rfl
  simp only [e1, e3, Bool.false_and, Bool.false_eq_true, if_false]

theorem opS_shr (k k' : IntKind) (x : Int) (n : Nat) (hn : n ≤ k.bits) : opS P (S.binI .shr (.int k x) (.int k' n)) K w = K (.int k (x / 2 ^ n)) w := by
  have h : ¬ ((n : Int) < 0) := by omega
  have e : x.fdiv (2 ^ n) = x / 2 ^ n := Int.fdiv_eq_ediv_of_nonneg x (Int.le_of_lt (Int.pow_pos (by decide)))
  simp [S.binI, binOp, Op.shift, opS, uponR, Nat.min_eq_left hn, h, e]
theorem opS_shl (k k' : IntKind) (x : Int) (n : Nat) (hn : n ≤ k.bits) : opS P (S.binI .shl (.int k x) (.int k' n)) K w = K (.int k (k.wrap (x * 2 ^ n))) w := by
  have h : ¬ ((n : Int) < 0) := by omega
  simp [S.binI, binOp, Op.shift, opS, uponR, Nat.min_eq_left hn, h]

theorem ofInt_nat {n : Nat} {x : Int} (h0 : 0 ≤ x) : BitVec.ofInt n x = BitVec.ofNat n x.toNat := by
  obtain ⟨k, rfl⟩ := Int.eq_ofNat_of_zero_le h0
  simp

/-- bits that do not meet -/
theorem opS_or {x y : Int} (m : Nat) (hx : 0 ≤ x) (hx2 : x < 2 ^ 62) (hy : 0 ≤ y) (hy2 : y < 2 ^ m) (hm : x % 2 ^ m = 0) (hm2 : m ≤ 62) : opS P (S.binI .or (.int .i64 x) (.int .i64 y)) K w = K (.int .i64 (x + y)) w := by
  obtain ⟨a, rfl⟩ := Int.eq_ofNat_of_zero_le hx
  obtain ⟨b, rfl⟩ := Int.eq_ofNat_of_zero_le hy
  have hb : b < 2 ^ m := by exact_mod_cast hy2
  have ha : a < 2 ^ 62 := by exact_mod_cast hx2
  have hd : a % 2 ^ m = 0 := by exact_mod_cast hm
  have hpm : 2 ^ m ≤ 2 ^ 62 := Nat.pow_le_pow_right (by decide) hm2
  have e : (BitVec.ofInt 64 (a : Int) ||| BitVec.ofInt 64 (b : Int)).toNat = a + b := by
    rw [ofInt_nat (by omega), ofInt_nat (by omega), BitVec.toNat_or]
    simp only [Int.toNat_natCast, BitVec.toNat_ofNat]
    rw [Nat.mod_eq_of_lt (by omega), Nat.mod_eq_of_lt (by omega)]
    have : a = a / 2 ^ m * 2 ^ m := by
      have := Nat.div_add_mod a (2 ^ m)
      rw [hd, Nat.mul_comm] at this
      omega
    rw [this, ← Nat.shiftLeft_eq, ← Nat.shiftLeft_add_eq_or_of_lt hb]
  have hw : IntKind.i64.wrap ((a + b : Nat) : Int) = (a : Int) + b := by
    rw [wrap_i64 (by omega)]; simp
  unfold S.binI
  simp only []
  have : (binOp .or 0 (.int .i64 (a : Int)) (.int .i64 (b : Int))).run P w = .ok (.int .i64 ((a : Int) + b)) w := by
    show (Op.intBits .or .i64 (a : Int) (b : Int)).run P w = _
    unfold Op.intBits
    show Result.ok (Value.int .i64 (IntKind.i64.wrap ((BitVec.ofInt 64 (a : Int) ||| BitVec.ofInt 64 (b : Int)).toNat : Int))) w = _
    rw [e, hw]
  rw [opS_bind, this]

/-- the low bits -/
theorem opS_and {x : Int} (m : Nat) (hx : 0 ≤ x) (hx2 : x < 2 ^ 62) (hm : m ≤ 62) : opS P (S.binI .and (.int .i64 x) (.int .i64 (2 ^ m - 1))) K w = K (.int .i64 (x % 2 ^ m)) w := by
  obtain ⟨a, rfl⟩ := Int.eq_ofNat_of_zero_le hx
  have ha : a < 2 ^ 62 := by exact_mod_cast hx2
  have hpm : 2 ^ m ≤ 2 ^ 62 := Nat.pow_le_pow_right (by decide) hm
  have hp0 : 0 < 2 ^ m := Nat.pow_pos (by decide)
  have eb : ((2 : Int) ^ m - 1) = ((2 ^ m - 1 : Nat) : Int) := by
    rw [Int.natCast_sub (by omega)]; simp
  have e : (BitVec.ofInt 64 (a : Int) &&& BitVec.ofInt 64 ((2 : Int) ^ m - 1)).toNat = a % 2 ^ m := by
    rw [eb, ofInt_nat (by omega), ofInt_nat (by omega), BitVec.toNat_and]
    simp only [Int.toNat_natCast, BitVec.toNat_ofNat]
    rw [Nat.mod_eq_of_lt (by omega), Nat.mod_eq_of_lt (by omega), Nat.and_two_pow_sub_one_eq_mod]
  have hlt : a % 2 ^ m < 2 ^ m := Nat.mod_lt _ hp0
  have hw : IntKind.i64.wrap ((a % 2 ^ m : Nat) : Int) = (a : Int) % 2 ^ m := by
    rw [wrap_i64 (by omega)]; simp
  unfold S.binI
  simp only []
  have : (binOp .and 0 (.int .i64 (a : Int)) (.int .i64 ((2 : Int) ^ m - 1))).run P w = .ok (.int .i64 ((a : Int) % 2 ^ m)) w := by
    show Result.ok (Value.int .i64 (IntKind.i64.wrap ((BitVec.ofInt 64 (a : Int) &&& BitVec.ofInt 64 ((2 : Int) ^ m - 1)).toNat : Int))) w = _
    rw [e, hw]
  rw [opS_bind, this]

/-! ### Parts of arrays; room -/

theorem opS_slcA {T E n sz : Nat} {ag : Bool} [hT : ArT P T n E] [hs : Sz P E sz ag] (b o : Nat) : opS P (S.slc T (pt b o) none none none) K w = K (.slice (some ⟨b, o, none⟩) n n) w := by
  unfold S.slc
  rw [opS_bind]
  unfold Instr.sliceAt
  rw [Sem.run_bind, run_underlying_of hT.und, Result.andThen_ok]
  simp only []
  have : (Instr.sureAddr (pt b o)).run P w = .ok ⟨b, o, none⟩ w := rfl
  rw [Sem.run_bind, this, Result.andThen_ok]
  have hb : (Instr.sliceBounds false n n none none none).run P w = .ok (0, n, n) w := rfl
  rw [Sem.run_bind, hb, Result.andThen_ok]
  simp only []
  rw [Sem.run_bind, hs.size w, Result.andThen_ok]
  simp only [Nat.zero_mul, add_none, Nat.add_zero, ite_self, Nat.sub_zero]
  rfl

theorem opS_cap {T ty : TypeId} {E : outParam TypeId} [hT : SlT P T E] (a : Option Addr) (n c : Nat) : opS P (S.bi .cap #[T] ty [.slice a n c]) K w = K (.int .i64 c) w := by
  show opS P (do pure (Next.value (← Builtin.cap_ #[T] ty #[.slice a n c]))) K w = _
  rw [opS_bind]
  unfold Builtin.cap_
  simp only [List.getElem?_toArray, List.getElem?_cons_zero]
  rw [Sem.run_bind, run_underlying_of hT.und, Result.andThen_ok]
  rfl

theorem opS_slc0 {T E sz : Nat} {ag : Bool} [hT : SlT P T E] [hs : Sz P E sz ag] {b o n c : Nat} {k : IntKind} : opS P (S.slc T (.slice (some ⟨b, o, none⟩) n c) (some (.int k 0)) none none) K w = K (.slice (some ⟨b, o, none⟩) n c) w := by
  rw [opS_slice (run_boundsL (lo := 0) (by omega) (by omega))]
  simp [add_none]

theorem wr_nil (w : World) (b o : Nat) : wr w b o [] = w := by
  unfold wr
  split
  · rename_i c T fz h
    rw [splice_nil]
    simp only [Array.toArray_toList]
    unfold upd
    have : w.heap.setIfInBounds b (.cells c T fz) = w.heap := by
      apply Array.ext_getElem?
      intro i
      rw [Array.getElem?_setIfInBounds]
      by_cases e : b = i
      · subst e
        rw [if_pos rfl, h, if_pos (lt_of_heap h)]
      · rw [if_neg e]
    rw [this]
  · rfl

/-- 'copy' of as many as there is room for -/
theorem s_copy {T T2 E sz : Nat} {ag : Bool} {ty : TypeId} [hT : SlT P T E] [hs : Sz P E sz ag] {b o n c m : Nat} {u : Value} {k : List Value} {cs : Array Value} {TT : TypeId} (hb : w.heap[b]? = some (.cells cs TT (0, 0)))
    (hu : Rd sz w u m k) (hk : k.all S.oneCell = true) (hm : m ≤ n) (hn : o + n * sz ≤ cs.size) : opS P (S.bi .copy #[T, T2] ty [.slice (some ⟨b, o, none⟩) n c, u]) K w = K (.int .i64 m) (wr w b o k) := by
  show opS P (do pure (Next.value (← Builtin.copy_ #[T, T2] ty #[.slice (some ⟨b, o, none⟩) n c, u]))) K w = _
  rw [opS_bind]
  unfold Builtin.copy_
  simp only [List.getElem?_toArray, List.getElem?_cons_zero, List.getElem?_cons_succ]
  rw [Sem.run_bind, run_underlying_of hT.und, Result.andThen_ok]
  simp only []
  obtain ⟨ua, uc, rfl⟩ := hu.form
  have hlen : (Builtin.lenOf (.slice ua m uc)).run P w = .ok m w := rfl
  have hmin : Nat.min m n = m := Nat.min_eq_left hm
  rw [Sem.run_bind, hlen, Result.andThen_ok, hmin, Sem.run_bind, hs.size w, Result.andThen_ok, Sem.run_bind, run_firstCells hu, Result.andThen_ok]
  have hkl := hu.len
  have hmul : m * sz ≤ n * sz := Nat.mul_le_mul_right _ hm
  have hst := run_storeCells (P := P) k w cs 0 o hb hk (by omega) (fun j hj => by simp)
  rw [Sem.run_bind]
  simp only [Nat.add_zero] at hst
  rw [hst, Result.andThen_ok]
  unfold wr
  rw [hb]
  rfl

theorem opS_mksc {T E n by_ : Nat} {ag : Bool} {z : Value} [hT : SlT P T E] [hs : Sz P E n ag] [hb : By P E by_] [hz : ZV P E z] (k k' : IntKind) (len cap : Int) (h0 : 0 ≤ len) (h0' : len ≤ cap) (h1 : by_ * cap ≤ 2 ^ 48) (h2 : cap < 2 ^ 62)
    (hn : z.cells.size = n) (hn0 : 0 < n) : opS P (S.mks T (.int k len) (.int k' cap)) K w = K (.slice (some ⟨w.heap.size, 0, none⟩) len.toNat cap.toNat) (w.alloc (.cells (zeros cap.toNat z.cells.toList).toArray E)) := by
  obtain ⟨i, hi, hib⟩ := hb.bytes
  unfold S.mks
  rw [opS_bind]
  unfold Instr.makeSlice
  rw [Sem.run_bind, run_underlying_of hT.und, Result.andThen_ok]
  have hw : IntKind.i64.wrap len = len := wrap_i64 (by omega)
  have hw' : IntKind.i64.wrap cap = cap := wrap_i64 (by omega)
  simp only [asInt, asIntOf, pure_bind, hw, hw']
  rw [Sem.run_bind, hi w, Result.andThen_ok]
  have ht : (decide (cap < 0) || decide ((i.bytes : Int) * cap > 2 ^ 48)) = false := by
    rw [hib]; simp; omega
  have hc : ((decide (cap < 0) || decide ((i.bytes : Int) * cap > 2 ^ 48)) || decide (len < 0) || decide (len > cap)) = false := by
    rw [ht]; simp; omega
  simp only [hc, Bool.false_eq_true, if_false]
  have har : (askRoom (cap.toNat * i.bytes)).run P w = .ok () w := by
    unfold askRoom; split <;> rfl
  rw [Sem.run_bind, har, Result.andThen_ok, Sem.run_bind, hs.size w, Result.andThen_ok]
  have hrz := range_zeros cap.toNat z.cells
  rw [hn] at hrz
  by_cases hz0 : cap.toNat * n = 0
  · rw [if_pos hz0, Sem.run_bind]
    have hl0 : cap.toNat = 0 := by
      rcases Nat.mul_eq_zero.1 hz0 with h | h
      · exact h
      · omega
    have e0 : Array.range 0 = #[] := by simp
    simp only [hl0, Nat.zero_mul, e0, Array.map_empty]
    rfl
  · rw [if_neg hz0, Sem.run_bind, hz.zero w, Result.andThen_ok, Sem.run_bind, hn, hrz]
    rfl

/-- 'append([]T(nil), make([]T, n)...)' -/
theorem s_appmk {T T2 E sz by_ : Nat} {ag : Bool} {z : Value} {ty : TypeId} [hT : SlT P T E] (hT2 : P.underlying T2 = some (.int .i64)) [hs : Sz P E sz ag] [hb : By P E by_] [hz : ZV P E z] {n : Nat} (hn : 0 < n) (hzn : z.cells.size = sz) (hsz : 0 < sz) (hby : 0 < by_) (hroom : (2 * n + 192) * by_ ≤ 2 ^ 48)
    (h : ∀ c w', Own E sz w' (.slice (some ⟨w.heap.size, 0, none⟩) n c) n (zeros n z.cells.toList) → c < 2 ^ 63 → Fr none_ w w' → K (.slice (some ⟨w.heap.size, 0, none⟩) n c) w') : opS P (S.bi .append #[T, T2] ty [.slice none 0 0, .int .i64 n]) K w := by
  obtain ⟨inf, hi, hib⟩ := hb.bytes
  show opS P (do pure (Next.value (← Builtin.append_ #[T, T2] ty #[.slice none 0 0, .int .i64 n]))) K w
  rw [opS_bind]
  unfold Builtin.append_
  simp only [List.getElem?_toArray, List.getElem?_cons_zero, List.getElem?_cons_succ]
  rw [Sem.run_bind, run_underlying_of hT.und, Result.andThen_ok]
  simp only []
  rw [Sem.run_bind, hs.size w, Result.andThen_ok, Sem.run_bind, run_underlying_of hT2, Result.andThen_ok]
  have hnn : (2 * n + 192) ≤ 2 ^ 48 := Nat.le_trans (Nat.le_mul_of_pos_right _ hby) hroom
  have hw : IntKind.i64.wrap (n : Int) = n := wrap_i64 (by omega)
  simp only [pure_bind, Bool.not_true, Bool.false_eq_true, if_false, if_true, asInt, asIntOf, hw]
  rw [if_neg (by omega)]
  have hnb : n * by_ ≤ 2 ^ 48 := Nat.le_trans (Nat.mul_le_mul_right by_ (by omega)) hroom
  rw [Sem.run_bind, hi w, Result.andThen_ok, if_neg (by rw [hib]; omega)]
  simp only [Int.toNat_natCast, Nat.zero_add]
  rw [if_neg (by omega)]
  have hg : ¬ (((n : Nat) : Int) > IntKind.i64.max) := by
    have e2 : IntKind.i64.max = 9223372036854775807 := rfl
    rw [e2]; omega
  have hg2 : ¬ (Builtin.nextslicecap n 0 * inf.bytes > 2 ^ 48) := by
    have : Builtin.nextslicecap n 0 = n := by unfold Builtin.nextslicecap; rw [if_pos (by omega)]
    rw [this, hib]; omega
  have har : ∀ x w', (askRoom x).run P w' = .ok () w' := by
    intro x w'; unfold askRoom; split <;> rfl
  rw [Sem.run_bind, hi w, Result.andThen_ok, if_neg (by simp; omega), Sem.run_bind, hi w, Result.andThen_ok, if_neg hg2]
  rw [Sem.run_bind, run_choose rfl, Result.andThen_ok, Sem.run_bind, hi _, Result.andThen_ok, Sem.run_bind, har, Result.andThen_ok]
  have hfc : ∀ w', (Builtin.firstCells sz 0 (.slice none 0 0)).run P w' = .ok #[] w' := fun _ => rfl
  rw [Sem.run_bind, hfc, Result.andThen_ok, if_neg (by have := Nat.mul_pos hn hsz; omega), Sem.run_bind, Sem.run_bind, hz.zero, Result.andThen_ok, Sem.run_pure, Result.andThen_ok, Sem.run_bind, hz.zero, Result.andThen_ok, run_zeroCells_ok, run_zeroCells_ok]
  have hq : ∀ q : Nat, (Question.appendCap n 0 E).cut q = n + q % (2 ^ 63 - n) := fun _ => rfl
  rw [hq]
  have hlt : ∀ q : Nat, q % (2 ^ 63 - n) < 2 ^ 63 - n := fun q => Nat.mod_lt _ (by omega)
  have hx2 := hlt (w.tape w.drawn (Question.appendCap n 0 E))
  generalize w.tape w.drawn (Question.appendCap n 0 E) % (2 ^ 63 - n) = x at *
  have hx : n + x - n = x := by omega
  rw [hx]
  have hnew : ∀ (cs : Array Value) (w' : World), (newRow E cs).run P w' = .ok ⟨w'.heap.size, 0, none⟩ (w'.alloc (.cells cs E)) := fun _ _ => rfl
  rw [Sem.run_bind, hnew, Result.andThen_ok]
  simp only [Sem.run_pure]
  have hcs : (#[] ++ (zeros n z.cells.toList).toArray ++ (zeros x z.cells.toList).toArray).toList = zeros n z.cells.toList ++ zeros x z.cells.toList := by simp
  have hzl : ∀ y, (zeros y z.cells.toList).length = y * sz := fun y => by rw [zeros_length]; simp [hzn]
  refine h _ _ (.inr ⟨w.heap.size, 0, n + x, _, rfl, heap_alloc_new w.drew _, by omega, ?_, ?_⟩) (by omega) ((Fr.drew w).trans (Fr.alloc _ _ rfl))
  · rw [← Array.length_toList, hcs, List.length_append, hzl, hzl, Nat.add_mul]; omega
  · rw [hcs, List.drop_zero, List.take_append_of_le_length (by rw [hzl]; exact Nat.le_refl _), List.take_of_length_le (by rw [hzl]; exact Nat.le_refl _)]

theorem s_bs2o {T E : TypeId} {ag : Bool} {z : Value} [hT : SlT P T E] [hs : Sz P E 1 ag] [hz : ZV P E z] {x y : Value} (hx : S.oneCell x = true) (hy : S.oneCell y = true) (hzn : z.cells.size = 1)
    (h : ∀ v' o, OwnE E 1 (w.alloc o) v' [[x], [y]] → loose o = true → New w v' → K v' (w.alloc o)) : opS P (S.buildS T 2 [(0, x), (1, y)]) K w := by
  have hc : x.cells = #[x] := by cases x <;> first | rfl | cases hx
  have hc' : y.cells = #[y] := by cases y <;> first | rfl | cases hy
  unfold S.buildS
  rw [opS_bind]
  unfold Instr.buildSlice
  rw [Sem.run_bind, run_underlying_of hT.und, Result.andThen_ok]
  simp only []
  rw [Sem.run_bind, hs.size w, Result.andThen_ok]
  simp only [Nat.mul_one]
  rw [if_neg (by omega), if_neg (by omega), Sem.run_bind, hz.zero w, Result.andThen_ok]
  have hr := range_zeros 2 z.cells
  rw [hzn] at hr
  simp only [pure_bind, hzn, Nat.mul_one] at hr ⊢
  rw [hr]
  have hzl : z.cells.toList.length = 1 := by simp [hzn]
  have hz2 : (zeros 2 z.cells.toList).length = 2 := by rw [zeros_length, hzl]
  rw [fill_cons (off := 0) (size := 1) (by simp) (by rw [hc]; rfl) (by simp [hz2]), hc]
  have e1 : (splice (zeros 2 z.cells.toList).toArray.toList 0 #[x].toList).length = 2 := by rw [splice_length] <;> simp [hz2]
  rw [fill_cons (off := 1) (size := 1) (by simp) (by rw [hc']; rfl) (by rw [List.size_toArray, e1]; exact Nat.le_refl _), hc']
  have e : splice (splice (zeros 2 z.cells.toList).toArray.toList 0 #[x].toList).toArray.toList 1 #[y].toList = [x, y] := by
    match hzs : zeros 2 z.cells.toList, hz2 with
    | [a, b], _ => rfl
  rw [e]
  simp only [Instr.fill]
  refine h _ _ ⟨.inr ⟨w.heap.size, 0, 2, #[x, y], rfl, heap_alloc_new _ _, by simp, by simp, by simp⟩, by simp⟩ rfl fun b hb => ?_
  cases hb; exact Nat.le_refl _

theorem s_bs2c {T E : TypeId} {ag : Bool} {z : Value} [hT : SlT P T E] [hs : Sz P E 1 ag] [hz : ZV P E z] {x y : Value} (hx : S.oneCell x = true) (hy : S.oneCell y = true) (hzn : z.cells.size = 1)
    (h : ∀ v' w', OwnE E 1 w' v' [[x], [y]] → Fr none_ w w' → New w v' → K v' w') : opS P (S.buildS T 2 [(0, x), (1, y)]) K w :=
  s_bs2o hx hy hzn fun v' o h1 h2 h3 => h v' _ h1 (Fr.alloc _ _ h2) h3

theorem RdE.cap {sz : Nat} {v : Value} {es : List (List Value)} (h : RdE sz w v es) : ∃ a c, v = .slice a es.length c ∧ es.length ≤ c := by
  rcases h.1 with ⟨⟨a, c, rfl⟩, h2, _⟩ | ⟨b, o, c, cs, T, fz, rfl, _, hc, _⟩
  · exact ⟨a, c, by rw [h2], by omega⟩
  · exact ⟨_, c, rfl, hc⟩

/-- 'v[:k]' -/
theorem s_slcH {T E sz : Nat} {ag : Bool} [hT : SlT P T E] [hs : Sz P E sz ag] {v : Value} {es : List (List Value)} (h : RdE sz w v es) {k : Nat} (hk : k ≤ es.length) (hK : ∀ v', RdE sz w v' (es.take k) → K v' w) : opS P (S.slc T v none (some (.int .i64 k)) none) K w := by
  obtain ⟨a, c, rfl, hc⟩ := h.cap
  rw [opS_slice (run_boundsH (hi := (k : Int)) (by omega) (by omega))]
  have := h.part (l := 0) (m := k) (by omega) hk
  rw [List.drop_zero] at this
  exact hK _ this

/-- 'v[k:]' -/
theorem s_slcL {T E sz : Nat} {ag : Bool} [hT : SlT P T E] [hs : Sz P E sz ag] {v : Value} {es : List (List Value)} (h : RdE sz w v es) {k : Nat} (hk : k ≤ es.length) (hK : ∀ v', RdE sz w v' (es.drop k) → K v' w) : opS P (S.slc T v (some (.int .i64 k)) none none) K w := by
  obtain ⟨a, c, rfl, hc⟩ := h.cap
  rw [opS_slice (run_boundsL (lo := (k : Int)) (by omega) (by omega))]
  have := h.part (l := k) (m := es.length) hk (Nat.le_refl _)
  rw [List.take_length] at this
  exact hK _ this

/-! ### What one holds, by cells -/

/-- a part of what one holds is written -/
theorem Own.copy {E b o c n m : Nat} {l js k : List Value} (h : Own E 1 w (.slice (some ⟨b, o, none⟩) (n + m) c) (n + m) (l ++ js)) (hl : l.length = n) (hk : k.length = m) :
    Own E 1 (wr w b (o + n) k) (.slice (some ⟨b, o, none⟩) (n + m) c) (n + m) (l ++ k) := by
  rcases h with ⟨h, _⟩ | ⟨b', o', c', cs, hv, hb, hc, ho, he⟩
  · cases h
  · simp only [Value.slice.injEq, Option.some.injEq, Addr.mk.injEq, and_true, true_and] at hv
    obtain ⟨⟨rfl, rfl⟩, rfl⟩ := hv
    have hsz : cs.toList.length = cs.size := Array.length_toList
    refine .inr ⟨b, o, c, (splice cs.toList (o + n) k).toArray, rfl, ?_, hc, ?_, ?_⟩
    · rw [heap_wr, if_pos rfl, hb]; rfl
    · rw [List.size_toArray, splice_length (by omega)]; simpa using ho
    · have := splice_window (l := cs.toList) (k := k) (o := o) (a := n) (by omega)
      show l ++ k = List.take _ (List.drop o (splice cs.toList (o + n) k))
      rw [Nat.mul_one, ← hk, this]
      congr 1
      have := congrArg (List.take n) he
      rw [← hl, List.take_left, List.take_take] at this
      rw [hl, Nat.mul_one, Nat.min_eq_left (by omega)] at this
      exact this

theorem Own.splice {E b o c n a : Nat} {l k : List Value} (h : Own E 1 w (.slice (some ⟨b, o, none⟩) n c) n l) (ha : a + k.length ≤ n) :
    Own E 1 (wr w b (o + a) k) (.slice (some ⟨b, o, none⟩) n c) n (Gx.splice l a k) := by
  rcases h with ⟨h, _⟩ | ⟨b', o', c', cs, hv, hb, hc, ho, rfl⟩
  · cases h
  · simp only [Value.slice.injEq, Option.some.injEq, Addr.mk.injEq, and_true, true_and] at hv
    obtain ⟨⟨rfl, rfl⟩, rfl⟩ := hv
    have hsz : cs.toList.length = cs.size := Array.length_toList
    refine .inr ⟨b, o, c, (Gx.splice cs.toList (o + a) k).toArray, rfl, ?_, hc, ?_, ?_⟩
    · rw [heap_wr, if_pos rfl, hb]; rfl
    · rw [List.size_toArray, splice_length (by omega)]; simpa using ho
    · rw [Nat.mul_one, splice_sub (by omega) ha]

/-- more of what one holds, as far as there is room -/
theorem Own.more {E b o c n : Nat} {l : List Value} (h : Own E 1 w (.slice (some ⟨b, o, none⟩) n c) n l) {m : Nat} (hm : n + m ≤ c) :
    ∃ js : List Value, js.length = m ∧ Own E 1 w (.slice (some ⟨b, o, none⟩) (n + m) c) (n + m) (l ++ js) := by
  have hl := h.rd.len
  rcases h with ⟨h, _⟩ | ⟨b', o', c', cs, hv, hb, hc, ho, rfl⟩
  · cases h
  · simp only [Value.slice.injEq, Option.some.injEq, Addr.mk.injEq, and_true, true_and] at hv
    obtain ⟨⟨rfl, rfl⟩, rfl⟩ := hv
    have hsz : cs.toList.length = cs.size := Array.length_toList
    refine ⟨(cs.toList.drop (o + n)).take m, by rw [List.length_take, List.length_drop]; omega, .inr ⟨b, o, c, cs, rfl, hb, hm, ho, ?_⟩⟩
    rw [Nat.mul_one, Nat.mul_one, List.take_add, List.drop_drop]

theorem Own.less {E b o c n m : Nat} {l : List Value} (h : Own E 1 w (.slice (some ⟨b, o, none⟩) n c) n l) (hm : m ≤ n) : Own E 1 w (.slice (some ⟨b, o, none⟩) m c) m (l.take m) := by
  rcases h with ⟨h, _⟩ | ⟨b', o', c', cs, hv, hb, hc, ho, rfl⟩
  · cases h
  · simp only [Value.slice.injEq, Option.some.injEq, Addr.mk.injEq, and_true, true_and] at hv
    obtain ⟨⟨rfl, rfl⟩, rfl⟩ := hv
    refine .inr ⟨b, o, c, cs, rfl, hb, by omega, ho, ?_⟩
    rw [List.take_take, Nat.mul_one, Nat.mul_one, Nat.min_eq_left hm]

theorem Own.cells {E b o c n : Nat} {l : List Value} (h : Own E 1 w (.slice (some ⟨b, o, none⟩) n c) n l) : ∃ cs : Array Value, w.heap[b]? = some (.cells cs E (0, 0)) ∧ n ≤ c ∧ o + c ≤ cs.size := by
  rcases h with ⟨h, _⟩ | ⟨b', o', c', cs, hv, hb, hc, ho, _⟩
  · cases h
  · simp only [Value.slice.injEq, Option.some.injEq, Addr.mk.injEq, and_true, true_and] at hv
    obtain ⟨⟨rfl, rfl⟩, rfl⟩ := hv
    exact ⟨cs, hb, hc, by omega⟩

end Go.Gx
end

section
/- What may panic, and is let go. -/
namespace Go.Gx
open Go
variable {P : Program} {K Z : Value → World → Prop} {w : World}

theorem opZ_congr {P : Program} {s s' : Sem Next} (h : s = s') (K Z : Value → World → Prop) (w : World) : opZ P s K Z w = opZ P s' K Z w := by rw [h]
theorem pifS_congr {x x' : Value} (h : x = x') (k : World → Prop) (w : World) : pifS x k w = pifS x' k w := by rw [h]
attribute [congr] opZ_congr pifS_congr

theorem opZ_cl {f : FuncId} [hf : FnB P f] (args : List Value) : opZ P (S.cl f args) K Z w = CallsZ P f args.toArray K Z w := by
  unfold S.cl S.call opZ
  have : (do
      let d ← Deferred.ofValue (.func (.func f) #[] #[]) args.toArray
      invoke d.target d.args : Sem Next) = callFunc f (#[] ++ args.toArray ++ #[]) := rfl
  rw [this, hf.enter]
  simp [uponZ]

theorem opZ_call {f : FuncId} [hf : FnB P f] (cap : Array Value) (args : List Value) : opZ P (S.call (.func (.func f) #[] cap) args) K Z w = CallsZ P f (args.toArray ++ cap) K Z w := by
  unfold S.call opZ
  have : (do
      let d ← Deferred.ofValue (.func (.func f) #[] cap) args.toArray
      invoke d.target d.args : Sem Next) = callFunc f (#[] ++ args.toArray ++ cap) := rfl
  rw [this, hf.enter]
  simp [uponZ]

/-- any other operation panics not -/
theorem opZ_of {s : Sem Next} (h : opS P s K w) : opZ P s K Z w := by
  unfold opZ
  unfold opS at h
  generalize s.run P w = r at h
  cases r with
  | halt x w => exact h
  | ok n w => cases n <;> first | exact h | exact CallsZ.of h

theorem pifS_iface (t : TypeId) (x : Value) (k : World → Prop) (w : World) : pifS (.iface t x) k w = k w := id rfl
attribute [push_cast] opZ_cl opZ_call pifS_iface

theorem opS_iface {t : TypeId} {fs : Array Field} [hT : StT P t fs] (x : Value) : opS P (S.iface t x) K w = K (.iface t x) w := by
  unfold S.iface
  rw [opS_bind]
  have : (Instr.makeInterface t x).run P w = .ok (.iface t x) w := by
    unfold Instr.makeInterface
    rw [Sem.run_bind, run_underlying_of hT.und, Result.andThen_ok]
    rfl
  rw [this]

/-- 'v[:k]' of a slice that was read in a world ahead -/
theorem s_slcH0 {T E sz : Nat} {ag : Bool} [hT : SlT P T E] [hs : Sz P E sz ag] {w0 : World} {v : Value} {es : List (List Value)} (h : RdE sz w0 v es) {k : Nat} (hk : k ≤ es.length) (hK : ∀ v', RdE sz w0 v' (es.take k) → K v' w) : opS P (S.slc T v none (some (.int .i64 k)) none) K w := by
  obtain ⟨a, c, rfl, hc⟩ := h.cap
  rw [opS_slice (run_boundsH (hi := (k : Int)) (by omega) (by omega))]
  have := h.part (l := 0) (m := k) (by omega) hk
  rw [List.drop_zero] at this
  exact hK _ this

/-- 'v[k:]' -/
theorem s_slcL0 {T E sz : Nat} {ag : Bool} [hT : SlT P T E] [hs : Sz P E sz ag] {w0 : World} {v : Value} {es : List (List Value)} (h : RdE sz w0 v es) {k : Nat} (hk : k ≤ es.length) (hK : ∀ v', RdE sz w0 v' (es.drop k) → K v' w) : opS P (S.slc T v (some (.int .i64 k)) none none) K w := by
  obtain ⟨a, c, rfl, hc⟩ := h.cap
  rw [opS_slice (run_boundsL (lo := (k : Int)) (by omega) (by omega))]
  have := h.part (l := k) (m := es.length) hk (Nat.le_refl _)
  rw [List.take_length] at this
  exact hK _ this

end Go.Gx
end

section
/- Operations that tell one value each, in worlds that grow. -/
namespace Go.Gx
open Go
variable {P : Program} {K : Value → World → Prop} {w : World}

theorem quietS_intro (C : World → Prop) {b : (World → Prop) → World → Prop} (hC : C w) (h : b C w) : quietS b w := ⟨C, hC, h⟩
theorem qendS_intro {C k : World → Prop} (h : ∀ w', C w' → k w') : qendS C k w := h
/-- an operation that but tells a value -/
theorem qt_pure {C : World → Prop} {s : Sem Next} {v : Value} (h : ∀ (R : Value → World → Prop) w', C w' → opS P s R w' = R v w') (hk : K v w) : qtS P C s K w :=
  ⟨v, fun w' hC => by rw [h _ w' hC]; exact ⟨rfl, hC⟩, hk⟩
/-- one that tells a value, in a world that may have grown -/
theorem qt_run {C : World → Prop} {s : Sem Next} (v : Value) (h : ∀ (R : Value → World → Prop) w', C w' → (∀ w'', C w'' → R v w'') → opS P s R w') (hk : K v w) : qtS P C s K w :=
  ⟨v, fun w' hC => h _ w' hC fun w'' hC'' => ⟨rfl, hC''⟩, hk⟩

/-- a value as it is -/
def S.mv (v : Value) : Sem Next := pure (.value v)
theorem opS_mv (v : Value) : opS P (S.mv v) K w = K v w := id rfl
attribute [push_cast] opS_mv
theorem qt_mv {C : World → Prop} {v : Value} (hk : K v w) : qtS P C (S.mv v) K w := qt_pure (fun R w' _ => opS_mv v) hk
theorem gqt_yes {C : World → Prop} {b want : Bool} {s : Sem Next} (e : b = want) (h : qtS P C s K w) : gqtS P C (.bool b) want s K w := by unfold gqtS; simp only; rw [if_pos e]; exact h
theorem gqt_no {C : World → Prop} {b want : Bool} {s : Sem Next} (e : b ≠ want) (h : K undef w) : gqtS P C (.bool b) want s K w := by unfold gqtS; simp only; rw [if_neg e]; exact h

variable {W0 : World}
theorem qt_ld1 {T n : Nat} [hs : Sz P T n false] {b o : Nat} {v : Value} {x : Obj} (hb : W0.heap[b]? = some x) (hv : cellAt (some x) o = some v) (hk : K v w) : qtS P (Fr none_ W0) (S.ld T (pt b o)) K w :=
  qt_pure (fun R w' hC => by rw [s_ld1, hC.heap hb (fun h => h), hv, onS_some]) hk
theorem qt_ldN {T n : Nat} [hs : Sz P T n true] {b o : Nat} {v : Value} {x : Obj} (hn : 0 < n) (hb : W0.heap[b]? = some x) (hv : aggAt (some x) o n = some v) (hk : K v w) : qtS P (Fr none_ W0) (S.ld T (pt b o)) K w :=
  qt_pure (fun R w' hC => by rw [s_ldN hn, hC.heap hb (fun h => h), hv, onS_some]) hk
theorem qt_cl {f : FuncId} [hf : FnB P f] {args : List Value} (v : Value) (h : ∀ (R : Value → World → Prop) w', (∀ w'', Fr none_ w' w'' → R v w'') → CallsR P f args.toArray R w') (hk : K v w) : qtS P (Fr none_ W0) (S.cl f args) K w :=
  qt_run v (fun R w' hC hR => by rw [opS_cl]; exact h R w' fun w'' hF => hR w'' (hC.trans hF)) hk
theorem qt_binI {op : BinOp} {x y v : Value} (h : ∀ (R : Value → World → Prop) w', opS P (S.binI op x y) R w' = R v w') (hk : K v w) {C : World → Prop} : qtS P C (S.binI op x y) K w := qt_pure (fun R w' _ => h R w') hk


/-! ### The lesser one -/

theorem opS_min {x y : Int} {k : IntKind} {ats : Array TypeId} {ty : TypeId} : opS P (S.bi .min ats ty [.int k x, .int k y]) K w = K (.int k (if x ≤ y then x else y)) w := by
  show opS P (do pure (Next.value (← Builtin.min_ ats ty #[.int k x, .int k y]))) K w = _
  rw [opS_bind]
  have : (Builtin.min_ ats ty #[.int k x, .int k y]).run P w = .ok (.int k (if x ≤ y then x else y)) w := by
    simp [Builtin.min_, Builtin.min2]
    try (split <;> simp_all <;> omega)
  rw [this]
theorem opS_max {x y : Int} {k : IntKind} {ats : Array TypeId} {ty : TypeId} : opS P (S.bi .max ats ty [.int k x, .int k y]) K w = K (.int k (if x ≤ y then y else x)) w := by
  show opS P (do pure (Next.value (← Builtin.max_ ats ty #[.int k x, .int k y]))) K w = _
  rw [opS_bind]
  have : (Builtin.max_ ats ty #[.int k x, .int k y]).run P w = .ok (.int k (if x ≤ y then y else x)) w := by
    simp [Builtin.max_, Builtin.max2]
    try (split <;> simp_all <;> omega)
  rw [this]
attribute [push_cast] opS_min opS_max

/-! ### Slices of so many elements -/

theorem mergeF_full {z : List Value} : ∀ (vs : List Value) (i : Nat), (∀ v ∈ vs, v.cells.toList.length = z.length) → mergeF i (List.replicate vs.length z) ((List.range' i vs.length).zip vs) = some (vs.flatMap fun v => v.cells.toList)
  | [], i, _ => rfl
  | v :: vs, i, h => by
    simp only [List.length_cons, List.replicate_succ, List.range'_succ, List.zip_cons_cons, mergeF, if_pos]
    rw [if_pos (h v (by simp)), mergeF_full vs (i + 1) fun u hu => h u (by simp [hu])]
    rfl

/-- a slice of elements that are given, all of them -/
theorem s_bsN {T E sz : Nat} {ag : Bool} {z : Value} [hT : SlT P T E] [hs : Sz P E sz ag] [hz : ZV P E z] (vs : List Value) (h0 : 0 < vs.length) (hsz : 0 < sz) (h24 : vs.length * sz ≤ 2 ^ 24) (hzn : z.cells.size = sz) (hv : ∀ v ∈ vs, v.cells.toList.length = sz)
    (h : ∀ v' w', OwnE E sz w' v' (vs.map fun v => v.cells.toList) → Fr none_ w w' → New w v' → K v' w') : opS P (S.buildS T vs.length ((List.range' 0 vs.length).zip vs)) K w := by
  unfold S.buildS
  rw [opS_bind]
  unfold Instr.buildSlice
  rw [Sem.run_bind, run_underlying_of hT.und, Result.andThen_ok]
  simp only []
  rw [Sem.run_bind, hs.size w, Result.andThen_ok]
  have hpos : 0 < vs.length * sz := Nat.mul_pos h0 hsz
  rw [if_neg (by omega), if_neg (by omega), Sem.run_bind, hz.zero w, Result.andThen_ok]
  have hr := range_zeros vs.length z.cells
  rw [hzn] at hr
  simp only [pure_bind, hzn, hr]
  have hzl : z.cells.toList.length = sz := by rw [Array.length_toList, hzn]
  have hm := fill_merge (place := fun i => some (i * sz, sz)) (List.replicate vs.length z.cells.toList) 0 [] ((List.range' 0 vs.length).zip vs) (vs.flatMap fun v => v.cells.toList) (fun k hk => by
    have h2 := offs_rep (z := z.cells.toList) vs.length 0 k (by simpa using hk)
    simp only [List.length_nil] at h2 ⊢
    rw [h2, hzl]; simp) (mergeF_full vs 0 fun v hvv => by rw [hv v hvv, hzl])
  simp only [List.nil_append] at hm
  have e : (zeros vs.length z.cells.toList).toArray = (List.replicate vs.length z.cells.toList).flatten.toArray := rfl
  rw [e, hm]
  have hfl : (vs.map fun v => v.cells.toList).flatten = vs.flatMap fun v => v.cells.toList := rfl
  refine h _ _ ⟨.inr ⟨w.heap.size, 0, vs.length, (vs.flatMap fun v => v.cells.toList).toArray, by rw [List.length_map], heap_alloc_new _ _, by rw [List.length_map]; exact Nat.le_refl _, ?_, ?_⟩, ?_⟩ (Fr.alloc _ _ rfl) fun b hb => by cases hb; exact Nat.le_refl _
  · rw [← hfl, List.size_toArray, flatten_len (sz := sz) (by intro x hx; obtain ⟨v, hvv, rfl⟩ := List.mem_map.1 hx; exact hv v hvv), List.length_map]; omega
  · rw [List.drop_zero, List.length_map, hfl, List.take_of_length_le]
    rw [← hfl, flatten_len (sz := sz) (by intro x hx; obtain ⟨v, hvv, rfl⟩ := List.mem_map.1 hx; exact hv v hvv), List.length_map]
    exact Nat.le_refl _
  · intro x hx; obtain ⟨v, hvv, rfl⟩ := List.mem_map.1 hx; exact hv v hvv

end Go.Gx
end

section
/- What the functions of this program ask. -/
set_option linter.unusedVariables false
set_option maxRecDepth 100000
namespace Go.Gx.S
open Go Go.Gx Go.Proofs
-- (*gemel/agg.Group).pick
def p56 (P : Program) (K : Value → World → Prop) (x0 : Value) : World → Prop :=
  opS P (S.nc x0) fun x1 =>
  opS P (S.fa 102 x1 0) fun x2 =>
  opS P (S.ld 100 x2) fun x3 =>
  opS P (S.len x3) fun x4 =>
  jnJ 0 (
    opS P (S.cl 87 [x0, (.func (.func 88) #[] #[])]) fun x5 =>
    opS P (S.cl 87 [x0, (.func (.func 85) #[] #[])]) fun x6 =>
    opS P (S.buildS 100 2 [(0, x5), (1, x6)]) fun x7 =>
    opS P (S.cl 86 [x7]) fun x8 =>
    opS P (S.alloc 108) fun x9 =>
    opS P (S.st 108 x9 x8) fun x10 =>
    opS P (S.ld 108 x9) fun x11 =>
    opS P (S.binN .eql (S.isNilP x11)) fun x12 =>
    brn x12 (
      K (.tuple #[])
    ) (
      opS P (S.nc x0) fun x13 =>
      opS P (S.fa 102 x13 0) fun x14 =>
      opS P (S.ld 100 x14) fun x15 =>
      opS P (S.len x15) fun x16 =>
      jnJ 0 (
        opS P (S.ld 108 x9) fun x17 =>
        opS P (S.nc x17) fun x18 =>
        opS P (S.fa 112 x18 3) fun x19 =>
        opS P (S.st 4 x19 (.bool true)) fun x20 =>
        opS P (S.nc x0) fun x21 =>
        opS P (S.fa 102 x21 1) fun x22 =>
        opS P (S.ld 3 x22) fun x23 =>
        opS P (S.binI .sub x23 (.int .i64 1)) fun x24 =>
        opS P (S.alloc 3) fun x25 =>
        opS P (S.st 3 x25 x24) fun x26 =>
        opS P (S.cl 65 [x0, (.func (.func 85) #[] #[])]) fun x27 =>
        rfS P x27 1 (fun bs K => JT.app 2 (fun x28 x29 =>
          opS P (S.beginR x28) fun x30 =>
          jnJ 0 (
            opS P (S.nc x29) fun x31 =>
            opS P (S.fa 112 x31 3) fun x32 =>
            opS P (S.st 4 x32 (.bool true)) fun x33 =>
            opS P (S.ld 3 x25) fun x34 =>
            opS P (S.binI .sub x34 (.int .i64 1)) fun x35 =>
            opS P (S.st 3 x25 x35) fun x36 =>
            opS P (S.endR x28 none) fun x37 =>
            K x37
          ) fun j0 =>
          drw <|
          quietS fun C =>
          qtS P C (S.ld 108 x9) fun x31 =>
          qtS P C (S.binG .neq 108 x29 x31) fun x32 =>
          gqtS P C x32 true (S.ld 3 x25) fun x33 =>
          gqtS P C x32 true (S.binI .gtr x33 (.int .i64 0)) fun x34 =>
          qtS P C (S.pick x32 x34 (.bool false)) fun x35 =>
          gqtS P C x35 true (S.mv x29) fun x36 =>
          gqtS P C x35 true (S.nc x36) fun x37 =>
          gqtS P C x35 true (S.fa 112 x37 0) fun x38 =>
          gqtS P C x35 true (S.ld 103 x38) fun x39 =>
          gqtS P C x35 true (S.cl 60 [x39]) fun x40 =>
          gqtS P C x35 true (S.cl 89 [x40]) fun x41 =>
          gqtS P C x35 true (S.ld 108 x9) fun x42 =>
          gqtS P C x35 true (S.nc x42) fun x43 =>
          gqtS P C x35 true (S.fa 112 x43 0) fun x44 =>
          gqtS P C x35 true (S.ld 103 x44) fun x45 =>
          qendS C <|
          brn x35 (
            opS P (S.cl 60 [x45]) fun x46 =>
            opS P (S.cl 89 [x46]) fun x47 =>
            opS P (S.binG .eql 107 x41 x47) fun x48 =>
            brn x48 (
              j0
            ) (
              opS P (S.endR x28 none) fun x49 =>
              K x49
            )
          ) (
            opS P (S.endR x28 none) fun x46 =>
            K x46
          )
        ) bs) (fun x28 =>
          takeD P x28 fun x29 =>
          K (.tuple #[])
        ) (fun x28 =>
          takeD P x28 fun x29 =>
          K (.tuple #[])
        ) 0 (fun x28 =>
          fun _ => False
        )
      ) fun j0 =>
      loopJ 1 (fun j1 x17 =>
        opS P (S.binI .lss x17 x16) fun x18 =>
        brn x18 (
          opS P (S.ia 100 x15 x17) fun x19 =>
          opS P (S.ld 108 x19) fun x20 =>
          opS P (S.nc x20) fun x21 =>
          opS P (S.fa 112 x21 3) fun x22 =>
          opS P (S.st 4 x22 (.bool false)) fun x23 =>
          opS P (S.binI .add x17 (.int .i64 1)) fun x24 =>
          j1 x24
        ) (
          j0
        )
      ) (.int .i64 0)
    )
  ) fun j0 =>
  loopJ 1 (fun j1 x5 =>
    opS P (S.binI .lss x5 x4) fun x6 =>
    brn x6 (
      opS P (S.ia 100 x3 x5) fun x7 =>
      opS P (S.ld 108 x7) fun x8 =>
      opS P (S.nc x8) fun x9 =>
      opS P (S.fa 112 x9 3) fun x10 =>
      opS P (S.ld 4 x10) fun x11 =>
      brn x11 (
        opS P (S.cl 85 [x8]) fun x12 =>
        opS P (S.nc x8) fun x13 =>
        opS P (S.fa 112 x13 3) fun x14 =>
        opS P (S.st 4 x14 x12) fun x15 =>
        opS P (S.binI .add x5 (.int .i64 1)) fun x16 =>
        j1 x16
      ) (
        opS P (S.nc x8) fun x12 =>
        opS P (S.fa 112 x12 3) fun x13 =>
        opS P (S.st 4 x13 (.bool false)) fun x14 =>
        opS P (S.binI .add x5 (.int .i64 1)) fun x15 =>
        j1 x15
      )
    ) (
      j0
    )
  ) (.int .i64 0)
instance fnb56 : FnB Try.prog 56 := ⟨Try.call56⟩
theorem e56 : p56 Try.prog = fun K x0 => denF Try.prog Try.f56 [x0] K := by kernel_rfl
theorem c56 {K : Value → World → Prop} {x0 : Value} {w : World} (h : p56 Try.prog K x0 w) : CallsR Try.prog 56 #[x0] K w := by
  rw [e56] at h
  exact denF_sound mixed Try.func56 h

end Go.Gx.S
-- 56
end

section
/- What the functions of this program ask. -/
set_option linter.unusedVariables false
set_option maxRecDepth 100000
namespace Go.Gx.S
open Go Go.Gx Go.Proofs
-- (*gemel/agg.Group).Up
def p23 (P : Program) (K : Value → World → Prop) (x0 : Value) : World → Prop :=
  opS P (S.cl 65 [x0, (.func (.func 66) #[] #[])]) fun x1 =>
  opS P (S.cl 64 [x1]) fun x2 =>
  K x2
instance fnb23 : FnB Try.prog 23 := ⟨Try.call23⟩
theorem e23 : p23 Try.prog = fun K x0 => denF Try.prog Try.f23 [x0] K := by kernel_rfl
theorem c23 {K : Value → World → Prop} {x0 : Value} {w : World} (h : p23 Try.prog K x0 w) : CallsR Try.prog 23 #[x0] K w := by
  rw [e23] at h
  exact denF_sound mixed Try.func23 h

-- gemel/agg.ports
def p64 (P : Program) (K : Value → World → Prop) (x0 : Value) : World → Prop :=
  opS P (S.alloc 59) fun x1 =>
  rfS P x0 1 (fun bs K => JT.app 2 (fun x2 x3 =>
    opS P (S.beginR x2) fun x4 =>
    drw <|
    opS P (S.nc x3) fun x5 =>
    opS P (S.fa 112 x5 2) fun x6 =>
    opS P (S.ld 3 x6) fun x7 =>
    allW (
      opS P (S.ld 59 x1) fun x8 =>
      opS P (S.buildS 59 1 [(0, x7)]) fun x9 =>
      opS P (S.bi .append #[59, 59] 59 [x8, x9]) fun x10 =>
      opS P (S.st 59 x1 x10) fun x11 =>
      opS P (S.endR x2 none) fun x12 =>
      K x12
    ) (
      opS P (S.buildS 59 1 [(0, x7)]) fun x8 =>
      opS P (S.ld 59 x1) fun x9 =>
      opS P (S.bi .append #[59, 59] 59 [x9, x8]) fun x10 =>
      opS P (S.st 59 x1 x10) fun x11 =>
      opS P (S.endR x2 none) fun x12 =>
      K x12
    )
  ) bs) (fun x2 =>
    opS P (S.ld 59 x1) fun x3 =>
    takeD P x2 fun x4 =>
    K x3
  ) (fun x2 =>
    takeD P x2 fun x3 =>
    K (.slice none 0 0)
  ) 0 (fun x2 =>
    fun _ => False
  )
instance fnb64 : FnB Try.prog 64 := ⟨Try.call64⟩
theorem e64 : p64 Try.prog = fun K x0 => denF Try.prog Try.f64 [x0] K := by kernel_rfl
theorem c64 {K : Value → World → Prop} {x0 : Value} {w : World} (h : p64 Try.prog K x0 w) : CallsR Try.prog 64 #[x0] K w := by
  rw [e64] at h
  exact denF_sound mixed Try.func64 h

end Go.Gx.S
-- 64 23
end

section
/- What the functions of this program ask. -/
set_option linter.unusedVariables false
set_option maxRecDepth 100000
namespace Go.Gx.S
open Go Go.Gx Go.Proofs
-- (*gemel/agg.Group).those
def p65 (P : Program) (K : Value → World → Prop) (x0 : Value) (x1 : Value) : World → Prop :=
  opS P (S.box 54 x0) fun x2 =>
  opS P (S.box 136 x1) fun x3 =>
  opS P (S.mkf (.func 101) [] [x2, x3]) fun x4 =>
  K x4
instance fnb65 : FnB Try.prog 65 := ⟨Try.call65⟩
theorem e65 : p65 Try.prog = fun K x0 x1 => denF Try.prog Try.f65 [x0, x1] K := by kernel_rfl
theorem c65 {K : Value → World → Prop} {x0 x1 : Value} {w : World} (h : p65 Try.prog K x0 x1 w) : CallsR Try.prog 65 #[x0, x1] K w := by
  rw [e65] at h
  exact denF_sound mixed Try.func65 h

-- cmp.Or[*gemel/agg.link]
def p86 (P : Program) (K : Value → World → Prop) (x0 : Value) : World → Prop :=
  opS P (S.len x0) fun x1 =>
  jnJ 0 (
    K (.pointer none)
  ) fun j0 =>
  loopJ 1 (fun j1 x2 =>
    opS P (S.binI .lss x2 x1) fun x3 =>
    brn x3 (
      opS P (S.ia 100 x0 x2) fun x4 =>
      opS P (S.ld 108 x4) fun x5 =>
      opS P (S.binG .neq 108 x5 (.pointer none)) fun x6 =>
      brn x6 (
        K x5
      ) (
        opS P (S.binI .add x2 (.int .i64 1)) fun x7 =>
        j1 x7
      )
    ) (
      j0
    )
  ) (.int .i64 0)
instance fnb86 : FnB Try.prog 86 := ⟨Try.call86⟩
theorem e86 : p86 Try.prog = fun K x0 => denF Try.prog Try.f86 [x0] K := by kernel_rfl
theorem c86 {K : Value → World → Prop} {x0 : Value} {w : World} (h : p86 Try.prog K x0 w) : CallsR Try.prog 86 #[x0] K w := by
  rw [e86] at h
  exact denF_sound mixed Try.func86 h

-- (*gemel/agg.Group).first
def p87 (P : Program) (K : Value → World → Prop) (x0 : Value) (x1 : Value) : World → Prop :=
  opS P (S.alloc 108) fun x2 =>
  opS P (S.cl 65 [x0, x1]) fun x3 =>
  rfS P x3 1 (fun bs K => JT.app 2 (fun x4 x5 =>
    opS P (S.beginR x4) fun x6 =>
    opS P (S.st 108 x2 x5) fun x7 =>
    opS P (S.endR x4 (some .ret)) fun x8 =>
    K x8
  ) bs) (fun x4 =>
    opS P (S.st 108 x2 (.pointer none)) fun x5 =>
    takeD P x4 fun x6 =>
    opS P (S.ld 108 x2) fun x7 =>
    K x7
  ) (fun x4 =>
    takeD P x4 fun x5 =>
    opS P (S.ld 108 x2) fun x6 =>
    K x6
  ) 0 (fun x4 =>
    fun _ => False
  )
instance fnb87 : FnB Try.prog 87 := ⟨Try.call87⟩
theorem e87 : p87 Try.prog = fun K x0 x1 => denF Try.prog Try.f87 [x0, x1] K := by kernel_rfl
theorem c87 {K : Value → World → Prop} {x0 x1 : Value} {w : World} (h : p87 Try.prog K x0 x1 w) : CallsR Try.prog 87 #[x0, x1] K w := by
  rw [e87] at h
  exact denF_sound mixed Try.func87 h

-- (*gemel/agg.Group).those$1
def p101 (P : Program) (K : Value → World → Prop) (x0 : Value) (x1 : Value) (x2 : Value) : World → Prop :=
  opS P (S.ld 54 x1) fun x3 =>
  opS P (S.nc x3) fun x4 =>
  opS P (S.fa 102 x4 0) fun x5 =>
  opS P (S.ld 100 x5) fun x6 =>
  opS P (S.len x6) fun x7 =>
  jnJ 0 (
    K (.tuple #[])
  ) fun j0 =>
  loopJ 1 (fun j1 x8 =>
    opS P (S.binI .lss x8 x7) fun x9 =>
    brn x9 (
      opS P (S.ia 100 x6 x8) fun x10 =>
      opS P (S.ld 108 x10) fun x11 =>
      opS P (S.ld 136 x2) fun x12 =>
      opS P (S.call x12 [x11]) fun x13 =>
      brn x13 (
        opS P (S.call x0 [x11]) fun x14 =>
        opS P (S.un .not x14) fun x15 =>
        brn x15 (
          K (.tuple #[])
        ) (
          opS P (S.binI .add x8 (.int .i64 1)) fun x16 =>
          j1 x16
        )
      ) (
        opS P (S.binI .add x8 (.int .i64 1)) fun x14 =>
        j1 x14
      )
    ) (
      j0
    )
  ) (.int .i64 0)
instance fnb101 : FnB Try.prog 101 := ⟨Try.call101⟩
theorem e101 : p101 Try.prog = fun K x0 x1 x2 => denF Try.prog Try.f101 [x0, x1, x2] K := by kernel_rfl
theorem c101 {K : Value → World → Prop} {x0 x1 x2 : Value} {w : World} (h : p101 Try.prog K x0 x1 x2 w) : CallsR Try.prog 101 #[x0, x1, x2] K w := by
  rw [e101] at h
  exact denF_sound mixed Try.func101 h

end Go.Gx.S
-- 65 101 87 86
end

section
/- What the functions of this program ask. -/
set_option linter.unusedVariables false
set_option maxRecDepth 100000
namespace Go.Gx.S
open Go Go.Gx Go.Proofs
-- (*gemel/agg.Group).Enable
def p19 (P : Program) (K : Value → World → Prop) (x0 : Value) (x1 : Value) (x2 : Value) (x3 : Value) : World → Prop :=
  opS P (S.cl 52 [x0, x1]) fun x4 =>
  opS P (S.binN .eql (S.isNilP x4)) fun x5 =>
  brn x5 (
    K (.int .i64 4)
  ) (
    opS P (S.nc x4) fun x6 =>
    opS P (S.fa 112 x6 0) fun x7 =>
    opS P (S.ld 103 x7) fun x8 =>
    opS P (S.cl 53 [x8]) fun x9 =>
    opS P (S.nc x4) fun x10 =>
    opS P (S.fa 112 x10 0) fun x11 =>
    opS P (S.ld 103 x11) fun x12 =>
    opS P (S.cl 54 [x12, x2, x3]) fun x13 =>
    opS P (S.nc x4) fun x14 =>
    opS P (S.fa 112 x14 4) fun x15 =>
    opS P (S.ld 4 x15) fun x16 =>
    brn x16 (
      opS P (S.nc x4) fun x17 =>
      opS P (S.fa 112 x17 4) fun x18 =>
      opS P (S.st 4 x18 (.bool true)) fun x19 =>
      K x13
    ) (
      opS P (S.binI .eql x9 (.int .i64 0)) fun x17 =>
      brn x17 (
        opS P (S.nc x4) fun x18 =>
        opS P (S.fa 112 x18 0) fun x19 =>
        opS P (S.ld 103 x19) fun x20 =>
        opS P (S.cl 53 [x20]) fun x21 =>
        opS P (S.binI .neq x21 (.int .i64 0)) fun x22 =>
        opS P (S.nc x4) fun x23 =>
        opS P (S.fa 112 x23 4) fun x24 =>
        opS P (S.st 4 x24 x22) fun x25 =>
        K x13
      ) (
        opS P (S.nc x4) fun x18 =>
        opS P (S.fa 112 x18 4) fun x19 =>
        opS P (S.st 4 x19 (.bool false)) fun x20 =>
        K x13
      )
    )
  )
instance fnb19 : FnB Try.prog 19 := ⟨Try.call19⟩
theorem e19 : p19 Try.prog = fun K x0 x1 x2 x3 => denF Try.prog Try.f19 [x0, x1, x2, x3] K := by kernel_rfl
theorem c19 {K : Value → World → Prop} {x0 x1 x2 x3 : Value} {w : World} (h : p19 Try.prog K x0 x1 x2 x3 w) : CallsR Try.prog 19 #[x0, x1, x2, x3] K w := by
  rw [e19] at h
  exact denF_sound mixed Try.func19 h

-- (*gemel/agg.Group).find
def p52 (P : Program) (K : Value → World → Prop) (x0 : Value) (x1 : Value) : World → Prop :=
  opS P (S.nc x0) fun x2 =>
  opS P (S.fa 102 x2 0) fun x3 =>
  opS P (S.ld 100 x3) fun x4 =>
  opS P (S.len x4) fun x5 =>
  jnJ 0 (
    K (.pointer none)
  ) fun j0 =>
  loopJ 1 (fun j1 x6 =>
    opS P (S.binI .lss x6 x5) fun x7 =>
    brn x7 (
      opS P (S.ia 100 x4 x6) fun x8 =>
      opS P (S.ld 108 x8) fun x9 =>
      opS P (S.nc x9) fun x10 =>
      opS P (S.fa 112 x10 2) fun x11 =>
      opS P (S.ld 3 x11) fun x12 =>
      opS P (S.binI .eql x12 x1) fun x13 =>
      brn x13 (
        K x9
      ) (
        opS P (S.binI .add x6 (.int .i64 1)) fun x14 =>
        j1 x14
      )
    ) (
      j0
    )
  ) (.int .i64 0)
instance fnb52 : FnB Try.prog 52 := ⟨Try.call52⟩
theorem e52 : p52 Try.prog = fun K x0 x1 => denF Try.prog Try.f52 [x0, x1] K := by kernel_rfl
theorem c52 {K : Value → World → Prop} {x0 x1 : Value} {w : World} (h : p52 Try.prog K x0 x1 w) : CallsR Try.prog 52 #[x0, x1] K w := by
  rw [e52] at h
  exact denF_sound mixed Try.func52 h

-- (*gemel/agg.Group).Take
def p63 (P : Program) (K : Value → World → Prop) (x0 : Value) (x1 : Value) (x2 : Value) (x3 : Value) : World → Prop :=
  opS P (S.box 123 x2) fun x4 =>
  opS P (S.cl 52 [x0, x1]) fun x5 =>
  opS P (S.binN .eql (S.isNilP x5)) fun x6 =>
  brn x6 (
    K (.int .i64 4)
  ) (
    drw <|
    opS P (S.nc x5) fun x7 =>
    opS P (S.fa 112 x7 0) fun x8 =>
    opS P (S.ld 103 x8) fun x9 =>
    opS P (S.ld 123 x4) fun x10 =>
    opS P (S.cl 100 [x9, x10, x3]) fun x11 =>
    opS P (S.ext x11 0) fun x12 =>
    opS P (S.ext x11 1) fun x13 =>
    opS P (S.nc x5) fun x14 =>
    opS P (S.fa 112 x14 4) fun x15 =>
    opS P (S.ld 4 x15) fun x16 =>
    brn x16 (
      opS P (S.nc x5) fun x17 =>
      opS P (S.fa 112 x17 4) fun x18 =>
      opS P (S.st 4 x18 (.bool true)) fun x19 =>
      K x13
    ) (
      opS P (S.nc x5) fun x17 =>
      opS P (S.fa 112 x17 4) fun x18 =>
      opS P (S.st 4 x18 x12) fun x19 =>
      K x13
    )
  )
instance fnb63 : FnB Try.prog 63 := ⟨Try.call63⟩
theorem e63 : p63 Try.prog = fun K x0 x1 x2 x3 => denF Try.prog Try.f63 [x0, x1, x2, x3] K := by kernel_rfl
theorem c63 {K : Value → World → Prop} {x0 x1 x2 x3 : Value} {w : World} (h : p63 Try.prog K x0 x1 x2 x3 w) : CallsR Try.prog 63 #[x0, x1, x2, x3] K w := by
  rw [e63] at h
  exact denF_sound mixed Try.func63 h

end Go.Gx.S
-- 52 19 63
end

section
/- What the functions of this program ask. -/
set_option linter.unusedVariables false
set_option maxRecDepth 100000
namespace Go.Gx.S
open Go Go.Gx Go.Proofs
-- (*gemel/agg.link).settle
def p57 (P : Program) (K : Value → World → Prop) (x0 : Value) (x1 : Value) : World → Prop :=
  jnJ 0 (
    drw <|
    opS P (S.nc x0) fun x2 =>
    opS P (S.fa 112 x2 0) fun x3 =>
    opS P (S.nc x0) fun x4 =>
    opS P (S.fa 112 x4 1) fun x5 =>
    opS P (S.ld 109 x5) fun x6 =>
    allW (
      opS P (S.ld 103 x3) fun x7 =>
      opS P (S.cl 92 [x6]) fun x8 =>
      opS P (S.cl 91 [x7, x8]) fun x9 =>
      K (.tuple #[])
    ) (
      opS P (S.cl 92 [x6]) fun x7 =>
      opS P (S.ld 103 x3) fun x8 =>
      opS P (S.cl 91 [x8, x7]) fun x9 =>
      K (.tuple #[])
    )
  ) fun j0 =>
  loopJ 0 (fun j1 =>
    jnJ 1 (fun x2 =>
      opS P (S.un .not x2) fun x3 =>
      brn x3 (
        j0
      ) (
        opS P (S.nc x0) fun x4 =>
        opS P (S.fa 112 x4 4) fun x5 =>
        opS P (S.st 4 x5 (.bool true)) fun x6 =>
        j1
      )
    ) fun j2 =>
    drw <|
    opS P (S.nc x0) fun x2 =>
    opS P (S.fa 112 x2 1) fun x3 =>
    opS P (S.nc x0) fun x4 =>
    opS P (S.fa 112 x4 3) fun x5 =>
    opS P (S.nc x0) fun x6 =>
    opS P (S.fa 112 x6 0) fun x7 =>
    opS P (S.ld 103 x7) fun x8 =>
    allW (
      opS P (S.ld 109 x3) fun x9 =>
      allW (
        opS P (S.ld 4 x5) fun x10 =>
        opS P (S.cl 60 [x8]) fun x11 =>
        opS P (S.fld 107 x11 5) fun x12 =>
        opS P (S.cl 90 [x9, x10, x12, x1]) fun x13 =>
        opS P (S.ext x13 0) fun x14 =>
        opS P (S.ext x13 1) fun x15 =>
        j2 x14
      ) (
        opS P (S.cl 60 [x8]) fun x10 =>
        opS P (S.ld 4 x5) fun x11 =>
        opS P (S.fld 107 x10 5) fun x12 =>
        opS P (S.cl 90 [x9, x11, x12, x1]) fun x13 =>
        opS P (S.ext x13 0) fun x14 =>
        opS P (S.ext x13 1) fun x15 =>
        j2 x14
      )
    ) (
      allW (
        opS P (S.ld 4 x5) fun x9 =>
        allW (
          opS P (S.ld 109 x3) fun x10 =>
          opS P (S.cl 60 [x8]) fun x11 =>
          opS P (S.fld 107 x11 5) fun x12 =>
          opS P (S.cl 90 [x10, x9, x12, x1]) fun x13 =>
          opS P (S.ext x13 0) fun x14 =>
          opS P (S.ext x13 1) fun x15 =>
          j2 x14
        ) (
          opS P (S.cl 60 [x8]) fun x10 =>
          opS P (S.ld 109 x3) fun x11 =>
          opS P (S.fld 107 x10 5) fun x12 =>
          opS P (S.cl 90 [x11, x9, x12, x1]) fun x13 =>
          opS P (S.ext x13 0) fun x14 =>
          opS P (S.ext x13 1) fun x15 =>
          j2 x14
        )
      ) (
        opS P (S.cl 60 [x8]) fun x9 =>
        opS P (S.ld 109 x3) fun x10 =>
        opS P (S.ld 4 x5) fun x11 =>
        opS P (S.fld 107 x9 5) fun x12 =>
        opS P (S.cl 90 [x10, x11, x12, x1]) fun x13 =>
        opS P (S.ext x13 0) fun x14 =>
        opS P (S.ext x13 1) fun x15 =>
        j2 x14
      )
    )
  )
instance fnb57 : FnB Try.prog 57 := ⟨Try.call57⟩
theorem e57 : p57 Try.prog = fun K x0 x1 => denF Try.prog Try.f57 [x0, x1] K := by kernel_rfl
theorem c57 {K : Value → World → Prop} {x0 x1 : Value} {w : World} (h : p57 Try.prog K x0 x1 w) : CallsR Try.prog 57 #[x0, x1] K w := by
  rw [e57] at h
  exact denF_sound mixed Try.func57 h

-- (*gemel/agg.link).tells
def p58 (P : Program) (K : Value → World → Prop) (x0 : Value) (x1 : Value) : World → Prop :=
  jnJ 1 (fun x2 =>
    opS P (S.nc x0) fun x3 =>
    opS P (S.fa 112 x3 0) fun x4 =>
    opS P (S.ld 103 x4) fun x5 =>
    opS P (S.cl 53 [x5]) fun x6 =>
    opS P (S.binI .neq x6 (.int .i64 0)) fun x7 =>
    brn x7 (
      opS P (S.nc x0) fun x8 =>
      opS P (S.fa 112 x8 4) fun x9 =>
      opS P (S.ld 4 x9) fun x10 =>
      brn x10 (
        K (.bool true)
      ) (
        opS P (S.nc x0) fun x11 =>
        opS P (S.fa 112 x11 5) fun x12 =>
        opS P (S.ld 3 x12) fun x13 =>
        opS P (S.binI .eql x13 (.int .i64 (-1))) fun x14 =>
        brn x14 (
          K (.bool true)
        ) (
          opS P (S.nc x0) fun x15 =>
          opS P (S.fa 112 x15 5) fun x16 =>
          opS P (S.ld 3 x16) fun x17 =>
          opS P (S.binI .sub x1 x17) fun x18 =>
          opS P (S.binI .geq x18 x2) fun x19 =>
          K x19
        )
      )
    ) (
      K (.bool false)
    )
  ) fun j0 =>
  opS P (S.nc x0) fun x2 =>
  opS P (S.fa 112 x2 0) fun x3 =>
  opS P (S.ld 103 x3) fun x4 =>
  opS P (S.cl 60 [x4]) fun x5 =>
  opS P (S.fld 107 x5 5) fun x6 =>
  opS P (S.binI .and x6 (.int .i64 2)) fun x7 =>
  opS P (S.binI .neq x7 (.int .i64 0)) fun x8 =>
  brn x8 (
    j0 (.int .i64 1)
  ) (
    j0 (.int .i64 30)
  )
instance fnb58 : FnB Try.prog 58 := ⟨Try.call58⟩
theorem e58 : p58 Try.prog = fun K x0 x1 => denF Try.prog Try.f58 [x0, x1] K := by kernel_rfl
theorem c58 {K : Value → World → Prop} {x0 x1 : Value} {w : World} (h : p58 Try.prog K x0 x1 w) : CallsR Try.prog 58 #[x0, x1] K w := by
  rw [e58] at h
  exact denF_sound mixed Try.func58 h

-- (*gemel/agg.Group).Up$1
def p66 (P : Program) (K : Value → World → Prop) (x0 : Value) : World → Prop :=
  opS P (S.nc x0) fun x1 =>
  opS P (S.fa 112 x1 1) fun x2 =>
  opS P (S.ld 109 x2) fun x3 =>
  opS P (S.cl 67 [x3]) fun x4 =>
  opS P (S.binI .eql x4 (.int .i64 4)) fun x5 =>
  K x5
instance fnb66 : FnB Try.prog 66 := ⟨Try.call66⟩
theorem e66 : p66 Try.prog = fun K x0 => denF Try.prog Try.f66 [x0] K := by kernel_rfl
theorem c66 {K : Value → World → Prop} {x0 : Value} {w : World} (h : p66 Try.prog K x0 w) : CallsR Try.prog 66 #[x0] K w := by
  rw [e66] at h
  exact denF_sound mixed Try.func66 h

-- (*gemel/agg.link).sound
def p85 (P : Program) (K : Value → World → Prop) (x0 : Value) : World → Prop :=
  opS P (S.nc x0) fun x1 =>
  opS P (S.fa 112 x1 0) fun x2 =>
  opS P (S.ld 103 x2) fun x3 =>
  opS P (S.cl 53 [x3]) fun x4 =>
  opS P (S.binI .eql x4 (.int .i64 3)) fun x5 =>
  brn x5 (
    opS P (S.nc x0) fun x6 =>
    opS P (S.fa 112 x6 0) fun x7 =>
    opS P (S.ld 103 x7) fun x8 =>
    opS P (S.cl 60 [x8]) fun x9 =>
    opS P (S.fld 107 x9 5) fun x10 =>
    opS P (S.binI .and x10 (.int .i64 4)) fun x11 =>
    opS P (S.binI .neq x11 (.int .i64 0)) fun x12 =>
    K x12
  ) (
    K (.bool false)
  )
instance fnb85 : FnB Try.prog 85 := ⟨Try.call85⟩
theorem e85 : p85 Try.prog = fun K x0 => denF Try.prog Try.f85 [x0] K := by kernel_rfl
theorem c85 {K : Value → World → Prop} {x0 : Value} {w : World} (h : p85 Try.prog K x0 w) : CallsR Try.prog 85 #[x0] K w := by
  rw [e85] at h
  exact denF_sound mixed Try.func85 h

-- (*gemel/agg.link).chosen
def p88 (P : Program) (K : Value → World → Prop) (x0 : Value) : World → Prop :=
  opS P (S.nc x0) fun x1 =>
  opS P (S.fa 112 x1 3) fun x2 =>
  opS P (S.ld 4 x2) fun x3 =>
  K x3
instance fnb88 : FnB Try.prog 88 := ⟨Try.call88⟩
theorem e88 : p88 Try.prog = fun K x0 => denF Try.prog Try.f88 [x0] K := by kernel_rfl
theorem c88 {K : Value → World → Prop} {x0 : Value} {w : World} (h : p88 Try.prog K x0 w) : CallsR Try.prog 88 #[x0] K w := by
  rw [e88] at h
  exact denF_sound mixed Try.func88 h

-- gemel/agg.system
def p89 (P : Program) (K : Value → World → Prop) (x0 : Value) : World → Prop :=
  opS P (S.box 107 x0) fun x1 =>
  opS P (S.alloc 107) fun x2 =>
  opS P (S.fa 107 x1 0) fun x3 =>
  opS P (S.ld 3 x3) fun x4 =>
  opS P (S.fa 107 x1 1) fun x5 =>
  opS P (S.ld 34 x5) fun x6 =>
  opS P (S.fa 107 x1 2) fun x7 =>
  opS P (S.ld 3 x7) fun x8 =>
  opS P (S.build 107 [(0, x4), (1, x6), (2, x8)]) fun x9 =>
  opS P (S.st 107 x2 x9) fun x10 =>
  opS P (S.ld 107 x2) fun x11 =>
  K x11
instance fnb89 : FnB Try.prog 89 := ⟨Try.call89⟩
theorem e89 : p89 Try.prog = fun K x0 => denF Try.prog Try.f89 [x0] K := by kernel_rfl
theorem c89 {K : Value → World → Prop} {x0 : Value} {w : World} (h : p89 Try.prog K x0 w) : CallsR Try.prog 89 #[x0] K w := by
  rw [e89] at h
  exact denF_sound mixed Try.func89 h

end Go.Gx.S
-- 85 88 57 58 89 66
end

section
/- What the functions of this program ask. -/
set_option linter.unusedVariables false
set_option maxRecDepth 100000
namespace Go.Gx.S
open Go Go.Gx Go.Proofs
-- gemel/mux.New
def p46 (P : Program) (K : Value → World → Prop) : World → Prop :=
  opS P (S.build 151 []) fun x0 =>
  opS P (S.box 151 x0) fun x1 =>
  K x1
instance fnb46 : FnB Try.prog 46 := ⟨Try.call46⟩
theorem e46 : p46 Try.prog = fun K => denF Try.prog Try.f46 [] K := by kernel_rfl
theorem c46 {K : Value → World → Prop} {w : World} (h : p46 Try.prog K w) : CallsR Try.prog 46 #[] K w := by
  rw [e46] at h
  exact denF_sound mixed Try.func46 h

-- (*gemel/mux.Mux).State
def p67 (P : Program) (K : Value → World → Prop) (x0 : Value) : World → Prop :=
  opS P (S.nc x0) fun x1 =>
  opS P (S.fa 151 x1 0) fun x2 =>
  opS P (S.ld 3 x2) fun x3 =>
  K x3
instance fnb67 : FnB Try.prog 67 := ⟨Try.call67⟩
theorem e67 : p67 Try.prog = fun K x0 => denF Try.prog Try.f67 [x0] K := by kernel_rfl
theorem c67 {K : Value → World → Prop} {x0 : Value} {w : World} (h : p67 Try.prog K x0 w) : CallsR Try.prog 67 #[x0] K w := by
  rw [e67] at h
  exact denF_sound mixed Try.func67 h

-- (*gemel/mux.Mux).Step
def p90 (P : Program) (K : Value → World → Prop) (x0 : Value) (x1 : Value) (x2 : Value) (x3 : Value) : World → Prop :=
  opS P (S.binI .lss x3 (.int .i64 0)) fun x4 =>
  brn x4 (
    K (.tuple #[(.bool false), (.int .i64 1)])
  ) (
    opS P (S.binI .gtr x3 (.int .i64 1099511627776)) fun x5 =>
    brn x5 (
      K (.tuple #[(.bool false), (.int .i64 1)])
    ) (
      opS P (S.binI .lss x2 (.int .i64 0)) fun x6 =>
      brn x6 (
        K (.tuple #[(.bool false), (.int .i64 1)])
      ) (
        opS P (S.binI .gtr x2 (.int .i64 255)) fun x7 =>
        brn x7 (
          K (.tuple #[(.bool false), (.int .i64 1)])
        ) (
          opS P (S.cl 125 [x0, x1, x2, x3]) fun x8 =>
          opS P (S.len x8) fun x9 =>
          jnJ 0 (
            K (.tuple #[(.bool false), (.int .i64 0)])
          ) fun j0 =>
          loopJ 1 (fun j1 x10 =>
            opS P (S.binI .lss x10 x9) fun x11 =>
            brn x11 (
              opS P (S.ia 185 x8 x10) fun x12 =>
              opS P (S.ld 188 x12) fun x13 =>
              opS P (S.alloc 188) fun x14 =>
              opS P (S.st 188 x14 x13) fun x15 =>
              opS P (S.fa 188 x14 0) fun x16 =>
              opS P (S.ld 4 x16) fun x17 =>
              opS P (S.un .not x17) fun x18 =>
              brn x18 (
                opS P (S.binI .add x10 (.int .i64 1)) fun x19 =>
                j1 x19
              ) (
                opS P (S.fa 188 x14 1) fun x19 =>
                opS P (S.ld 3 x19) fun x20 =>
                opS P (S.nc x0) fun x21 =>
                opS P (S.fa 151 x21 0) fun x22 =>
                opS P (S.st 3 x22 x20) fun x23 =>
                opS P (S.fa 188 x14 1) fun x24 =>
                opS P (S.ld 3 x24) fun x25 =>
                opS P (S.binI .eql x25 (.int .i64 1)) fun x26 =>
                brn x26 (
                  opS P (S.nc x0) fun x27 =>
                  opS P (S.fa 151 x27 1) fun x28 =>
                  opS P (S.st 3 x28 x3) fun x29 =>
                  K (.tuple #[(.bool true), (.int .i64 0)])
                ) (
                  K (.tuple #[(.bool true), (.int .i64 0)])
                )
              )
            ) (
              j0
            )
          ) (.int .i64 0)
        )
      )
    )
  )
instance fnb90 : FnB Try.prog 90 := ⟨Try.call90⟩
theorem e90 : p90 Try.prog = fun K x0 x1 x2 x3 => denF Try.prog Try.f90 [x0, x1, x2, x3] K := by kernel_rfl
theorem c90 {K : Value → World → Prop} {x0 x1 x2 x3 : Value} {w : World} (h : p90 Try.prog K x0 x1 x2 x3 w) : CallsR Try.prog 90 #[x0, x1, x2, x3] K w := by
  rw [e90] at h
  exact denF_sound mixed Try.func90 h

-- (*gemel/mux.Mux).Bits
def p92 (P : Program) (K : Value → World → Prop) (x0 : Value) : World → Prop :=
  opS P (S.nc x0) fun x1 =>
  opS P (S.fa 151 x1 0) fun x2 =>
  opS P (S.ld 3 x2) fun x3 =>
  opS P (S.binI .eql x3 (.int .i64 4)) fun x4 =>
  brn x4 (
    opS P (S.binI .or (.int .i64 0) (.int .i64 32)) fun x5 =>
    opS P (S.binI .or x5 (.int .i64 16)) fun x6 =>
    opS P (S.binI .or x6 (.int .i64 8)) fun x7 =>
    K x7
  ) (
    opS P (S.binI .eql x3 (.int .i64 3)) fun x5 =>
    brn x5 (
      opS P (S.binI .or (.int .i64 0) (.int .i64 16)) fun x6 =>
      opS P (S.binI .or x6 (.int .i64 8)) fun x7 =>
      K x7
    ) (
      opS P (S.binI .eql x3 (.int .i64 2)) fun x6 =>
      brn x6 (
        opS P (S.binI .or (.int .i64 0) (.int .i64 8)) fun x7 =>
        K x7
      ) (
        K (.int .i64 0)
      )
    )
  )
instance fnb92 : FnB Try.prog 92 := ⟨Try.call92⟩
theorem e92 : p92 Try.prog = fun K x0 => denF Try.prog Try.f92 [x0] K := by kernel_rfl
theorem c92 {K : Value → World → Prop} {x0 : Value} {w : World} (h : p92 Try.prog K x0 w) : CallsR Try.prog 92 #[x0] K w := by
  rw [e92] at h
  exact denF_sound mixed Try.func92 h

-- (*gemel/mux.Mux).rules
def p125 (P : Program) (K : Value → World → Prop) (x0 : Value) (x1 : Value) (x2 : Value) (x3 : Value) : World → Prop :=
  opS P (S.box 109 x0) fun x4 =>
  opS P (S.box 3 x2) fun x5 =>
  opS P (S.mkf (.func 138) [] [x5]) fun x6 =>
  opS P (S.mkf (.func 139) [] [x4]) fun x7 =>
  drw <|
  quietS fun C =>
  qtS P C (S.un .not x1) fun x8 =>
  gqtS P C x8 true (S.mv x7) fun x9 =>
  gqtS P C x8 true (S.call x9 [(.int .i64 0)]) fun x10 =>
  gqtS P C x8 true (S.un .not x10) fun x11 =>
  qtS P C (S.pick x8 x11 (.bool false)) fun x12 =>
  qtS P C (S.build 188 [(0, x12), (1, (.int .i64 0))]) fun x13 =>
  gqtS P C x1 true (S.mv x7) fun x14 =>
  gqtS P C x1 true (S.call x14 [(.int .i64 0)]) fun x15 =>
  qtS P C (S.pick x1 x15 (.bool false)) fun x16 =>
  qtS P C (S.build 188 [(0, x16), (1, (.int .i64 1))]) fun x17 =>
  qtS P C (S.call x7 [(.int .i64 1)]) fun x18 =>
  gqtS P C x18 true (S.mv x3) fun x19 =>
  gqtS P C x18 true (S.ld 109 x4) fun x20 =>
  gqtS P C x18 true (S.nc x20) fun x21 =>
  gqtS P C x18 true (S.fa 151 x21 1) fun x22 =>
  gqtS P C x18 true (S.ld 3 x22) fun x23 =>
  gqtS P C x18 true (S.binI .sub x19 x23) fun x24 =>
  gqtS P C x18 true (S.binI .geq x24 (.int .i64 2)) fun x25 =>
  qtS P C (S.pick x18 x25 (.bool false)) fun x26 =>
  qtS P C (S.build 188 [(0, x26), (1, (.int .i64 2))]) fun x27 =>
  qtS P C (S.call x7 [(.int .i64 3)]) fun x28 =>
  gqtS P C x28 false (S.mv x7) fun x29 =>
  gqtS P C x28 false (S.call x29 [(.int .i64 4)]) fun x30 =>
  qtS P C (S.pick x28 (.bool true) x30) fun x31 =>
  gqtS P C x31 true (S.mv x6) fun x32 =>
  gqtS P C x31 true (S.call x32 [(.int .i64 8)]) fun x33 =>
  gqtS P C x31 true (S.un .not x33) fun x34 =>
  qtS P C (S.pick x31 x34 (.bool false)) fun x35 =>
  qtS P C (S.build 188 [(0, x35), (1, (.int .i64 2))]) fun x36 =>
  qtS P C (S.call x7 [(.int .i64 4)]) fun x37 =>
  gqtS P C x37 true (S.mv x6) fun x38 =>
  gqtS P C x37 true (S.call x38 [(.int .i64 16)]) fun x39 =>
  gqtS P C x37 true (S.un .not x39) fun x40 =>
  qtS P C (S.pick x37 x40 (.bool false)) fun x41 =>
  qtS P C (S.build 188 [(0, x41), (1, (.int .i64 3))]) fun x42 =>
  qtS P C (S.call x7 [(.int .i64 2)]) fun x43 =>
  gqtS P C x43 true (S.mv x6) fun x44 =>
  gqtS P C x43 true (S.call x44 [(.int .i64 8)]) fun x45 =>
  qtS P C (S.pick x43 x45 (.bool false)) fun x46 =>
  qtS P C (S.build 188 [(0, x46), (1, (.int .i64 3))]) fun x47 =>
  qtS P C (S.call x7 [(.int .i64 3)]) fun x48 =>
  gqtS P C x48 true (S.mv x6) fun x49 =>
  gqtS P C x48 true (S.call x49 [(.int .i64 16)]) fun x50 =>
  qtS P C (S.pick x48 x50 (.bool false)) fun x51 =>
  qtS P C (S.build 188 [(0, x51), (1, (.int .i64 4))]) fun x52 =>
  qendS C <|
  opS P (S.buildS 185 7 [(0, x13), (1, x17), (2, x27), (3, x36), (4, x42), (5, x47), (6, x52)]) fun x53 =>
  K x53
instance fnb125 : FnB Try.prog 125 := ⟨Try.call125⟩
theorem e125 : p125 Try.prog = fun K x0 x1 x2 x3 => denF Try.prog Try.f125 [x0, x1, x2, x3] K := by kernel_rfl
theorem c125 {K : Value → World → Prop} {x0 x1 x2 x3 : Value} {w : World} (h : p125 Try.prog K x0 x1 x2 x3 w) : CallsR Try.prog 125 #[x0, x1, x2, x3] K w := by
  rw [e125] at h
  exact denF_sound mixed Try.func125 h

-- (*gemel/mux.Mux).rules$1
def p138 (P : Program) (K : Value → World → Prop) (x0 : Value) (x1 : Value) : World → Prop :=
  opS P (S.ld 3 x1) fun x2 =>
  opS P (S.binI .and x2 x0) fun x3 =>
  opS P (S.binI .neq x3 (.int .i64 0)) fun x4 =>
  K x4
instance fnb138 : FnB Try.prog 138 := ⟨Try.call138⟩
theorem e138 : p138 Try.prog = fun K x0 x1 => denF Try.prog Try.f138 [x0, x1] K := by kernel_rfl
theorem c138 {K : Value → World → Prop} {x0 x1 : Value} {w : World} (h : p138 Try.prog K x0 x1 w) : CallsR Try.prog 138 #[x0, x1] K w := by
  rw [e138] at h
  exact denF_sound mixed Try.func138 h

-- (*gemel/mux.Mux).rules$2
def p139 (P : Program) (K : Value → World → Prop) (x0 : Value) (x1 : Value) : World → Prop :=
  opS P (S.ld 109 x1) fun x2 =>
  opS P (S.nc x2) fun x3 =>
  opS P (S.fa 151 x3 0) fun x4 =>
  opS P (S.ld 3 x4) fun x5 =>
  opS P (S.binI .eql x5 x0) fun x6 =>
  K x6
instance fnb139 : FnB Try.prog 139 := ⟨Try.call139⟩
theorem e139 : p139 Try.prog = fun K x0 x1 => denF Try.prog Try.f139 [x0, x1] K := by kernel_rfl
theorem c139 {K : Value → World → Prop} {x0 x1 : Value} {w : World} (h : p139 Try.prog K x0 x1 w) : CallsR Try.prog 139 #[x0, x1] K w := by
  rw [e139] at h
  exact denF_sound mixed Try.func139 h

end Go.Gx.S
-- 125 138 139 90 92 67 46
end

section
/- What the functions of this program ask. -/
set_option linter.unusedVariables false
set_option maxRecDepth 100000
namespace Go.Gx.S
open Go Go.Gx Go.Proofs
-- gemel/rx.New
def p45 (P : Program) (K : Value → World → Prop) (x0 : Value) : World → Prop :=
  opS P (S.box 107 x0) fun x1 =>
  opS P (S.ld 107 x1) fun x2 =>
  opS P (S.build 123 [(0, x2)]) fun x3 =>
  opS P (S.cl 80 [x3]) fun x4 =>
  opS P (S.un .not x4) fun x5 =>
  brn x5 (
    K (.tuple #[(.pointer none), (.int .i64 1)])
  ) (
    opS P (S.fa 107 x1 5) fun x6 =>
    opS P (S.ld 3 x6) fun x7 =>
    opS P (S.binI .andNot x7 (.int .i64 7)) fun x8 =>
    opS P (S.binI .neq x8 (.int .i64 0)) fun x9 =>
    brn x9 (
      K (.tuple #[(.pointer none), (.int .i64 1)])
    ) (
      opS P (S.ld 107 x1) fun x10 =>
      opS P (S.build 149 [(0, x10)]) fun x11 =>
      opS P (S.box 149 x11) fun x12 =>
      K (.tuple #[x12, (.int .i64 0)])
    )
  )
instance fnb45 : FnB Try.prog 45 := ⟨Try.call45⟩
theorem e45 : p45 Try.prog = fun K x0 => denF Try.prog Try.f45 [x0] K := by kernel_rfl
theorem c45 {K : Value → World → Prop} {x0 : Value} {w : World} (h : p45 Try.prog K x0 w) : CallsR Try.prog 45 #[x0] K w := by
  rw [e45] at h
  exact denF_sound mixed Try.func45 h

-- (*gemel/rx.End).State
def p53 (P : Program) (K : Value → World → Prop) (x0 : Value) : World → Prop :=
  opS P (S.nc x0) fun x1 =>
  opS P (S.fa 149 x1 2) fun x2 =>
  opS P (S.ld 3 x2) fun x3 =>
  K x3
instance fnb53 : FnB Try.prog 53 := ⟨Try.call53⟩
theorem e53 : p53 Try.prog = fun K x0 => denF Try.prog Try.f53 [x0] K := by kernel_rfl
theorem c53 {K : Value → World → Prop} {x0 : Value} {w : World} (h : p53 Try.prog K x0 w) : CallsR Try.prog 53 #[x0] K w := by
  rw [e53] at h
  exact denF_sound mixed Try.func53 h

-- (*gemel/rx.End).Enable
def p54 (P : Program) (K : Value → World → Prop) (x0 : Value) (x1 : Value) (x2 : Value) : World → Prop :=
  opS P (S.cl 82 [x2]) fun x3 =>
  opS P (S.un .not x3) fun x4 =>
  brn x4 (
    K (.int .i64 1)
  ) (
    opS P (S.un .not x1) fun x5 =>
    brn x5 (
      opS P (S.nc x0) fun x6 =>
      opS P (S.fa 149 x6 2) fun x7 =>
      opS P (S.st 3 x7 (.int .i64 0)) fun x8 =>
      opS P (S.nc x0) fun x9 =>
      opS P (S.fa 149 x9 1) fun x10 =>
      opS P (S.fa 107 x10 5) fun x11 =>
      opS P (S.ld 3 x11) fun x12 =>
      opS P (S.binI .andNot x12 (.int .i64 8)) fun x13 =>
      opS P (S.nc x0) fun x14 =>
      opS P (S.fa 149 x14 1) fun x15 =>
      opS P (S.fa 107 x15 5) fun x16 =>
      opS P (S.st 3 x16 x13) fun x17 =>
      K (.int .i64 0)
    ) (
      opS P (S.nc x0) fun x6 =>
      opS P (S.fa 149 x6 2) fun x7 =>
      opS P (S.ld 3 x7) fun x8 =>
      opS P (S.binI .eql x8 (.int .i64 0)) fun x9 =>
      brn x9 (
        opS P (S.cl 83 [x0, x2]) fun x10 =>
        K (.int .i64 0)
      ) (
        K (.int .i64 0)
      )
    )
  )
instance fnb54 : FnB Try.prog 54 := ⟨Try.call54⟩
theorem e54 : p54 Try.prog = fun K x0 x1 x2 => denF Try.prog Try.f54 [x0, x1, x2] K := by kernel_rfl
theorem c54 {K : Value → World → Prop} {x0 x1 x2 : Value} {w : World} (h : p54 Try.prog K x0 x1 x2 w) : CallsR Try.prog 54 #[x0, x1, x2] K w := by
  rw [e54] at h
  exact denF_sound mixed Try.func54 h

-- (*gemel/rx.End).Tick
def p55 (P : Program) (K : Value → World → Prop) (x0 : Value) (x1 : Value) : World → Prop :=
  opS P (S.cl 82 [x1]) fun x2 =>
  opS P (S.un .not x2) fun x3 =>
  brn x3 (
    K (.int .i64 1)
  ) (
    jnJ 0 (
      opS P (S.nc x0) fun x4 =>
      opS P (S.fa 149 x4 2) fun x5 =>
      opS P (S.ld 3 x5) fun x6 =>
      opS P (S.binI .eql x6 (.int .i64 3)) fun x7 =>
      brn x7 (
        opS P (S.cl 83 [x0, x1]) fun x8 =>
        K (.int .i64 0)
      ) (
        opS P (S.nc x0) fun x8 =>
        opS P (S.fa 149 x8 2) fun x9 =>
        opS P (S.ld 3 x9) fun x10 =>
        opS P (S.binI .eql x10 (.int .i64 1)) fun x11 =>
        brn x11 (
          opS P (S.build 107 []) fun x12 =>
          opS P (S.nc x0) fun x13 =>
          opS P (S.fa 149 x13 2) fun x14 =>
          opS P (S.st 3 x14 (.int .i64 2)) fun x15 =>
          opS P (S.nc x0) fun x16 =>
          opS P (S.fa 149 x16 1) fun x17 =>
          opS P (S.st 107 x17 x12) fun x18 =>
          K (.int .i64 0)
        ) (
          K (.int .i64 0)
        )
      )
    ) fun j0 =>
    drw <|
    opS P (S.nc x0) fun x4 =>
    opS P (S.fa 149 x4 4) fun x5 =>
    allW (
      opS P (S.ld 3 x5) fun x6 =>
      opS P (S.binI .sub x1 x6) fun x7 =>
      opS P (S.cl 84 [x0]) fun x8 =>
      opS P (S.binI .lss x7 x8) fun x9 =>
      brn x9 (
        K (.int .i64 0)
      ) (
        j0
      )
    ) (
      opS P (S.cl 84 [x0]) fun x6 =>
      opS P (S.ld 3 x5) fun x7 =>
      opS P (S.binI .sub x1 x7) fun x8 =>
      opS P (S.binI .lss x8 x6) fun x9 =>
      brn x9 (
        K (.int .i64 0)
      ) (
        j0
      )
    )
  )
instance fnb55 : FnB Try.prog 55 := ⟨Try.call55⟩
theorem e55 : p55 Try.prog = fun K x0 x1 => denF Try.prog Try.f55 [x0, x1] K := by kernel_rfl
theorem c55 {K : Value → World → Prop} {x0 x1 : Value} {w : World} (h : p55 Try.prog K x0 x1 w) : CallsR Try.prog 55 #[x0, x1] K w := by
  rw [e55] at h
  exact denF_sound mixed Try.func55 h

-- (*gemel/rx.End).Actor
def p59 (P : Program) (K : Value → World → Prop) (x0 : Value) : World → Prop :=
  opS P (S.alloc 107) fun x1 =>
  opS P (S.nc x0) fun x2 =>
  opS P (S.fa 149 x2 0) fun x3 =>
  opS P (S.ld 107 x3) fun x4 =>
  opS P (S.alloc 107) fun x5 =>
  opS P (S.st 107 x5 x4) fun x6 =>
  drw <|
  opS P (S.fa 107 x5 5) fun x7 =>
  opS P (S.ld 3 x7) fun x8 =>
  opS P (S.nc x0) fun x9 =>
  opS P (S.fa 149 x9 3) fun x10 =>
  opS P (S.ld 3 x10) fun x11 =>
  opS P (S.binI .or x8 x11) fun x12 =>
  opS P (S.fa 107 x5 5) fun x13 =>
  opS P (S.st 3 x13 x12) fun x14 =>
  opS P (S.nc x0) fun x15 =>
  opS P (S.fa 149 x15 2) fun x16 =>
  opS P (S.ld 3 x16) fun x17 =>
  opS P (S.binI .eql x17 (.int .i64 2)) fun x18 =>
  brn x18 (
    opS P (S.fa 107 x5 5) fun x19 =>
    opS P (S.ld 3 x19) fun x20 =>
    opS P (S.binI .or x20 (.int .i64 64)) fun x21 =>
    opS P (S.fa 107 x5 5) fun x22 =>
    opS P (S.st 3 x22 x21) fun x23 =>
    opS P (S.ld 107 x5) fun x24 =>
    opS P (S.st 107 x1 x24) fun x25 =>
    opS P (S.ld 107 x1) fun x26 =>
    K x26
  ) (
    opS P (S.binI .eql x17 (.int .i64 1)) fun x19 =>
    brn x19 (
      opS P (S.fa 107 x5 5) fun x20 =>
      opS P (S.ld 3 x20) fun x21 =>
      opS P (S.binI .or x21 (.int .i64 128)) fun x22 =>
      opS P (S.fa 107 x5 5) fun x23 =>
      opS P (S.st 3 x23 x22) fun x24 =>
      opS P (S.ld 107 x5) fun x25 =>
      opS P (S.st 107 x1 x25) fun x26 =>
      opS P (S.ld 107 x1) fun x27 =>
      K x27
    ) (
      opS P (S.ld 107 x5) fun x20 =>
      opS P (S.st 107 x1 x20) fun x21 =>
      opS P (S.ld 107 x1) fun x22 =>
      K x22
    )
  )
instance fnb59 : FnB Try.prog 59 := ⟨Try.call59⟩
theorem e59 : p59 Try.prog = fun K x0 => denF Try.prog Try.f59 [x0] K := by kernel_rfl
theorem c59 {K : Value → World → Prop} {x0 : Value} {w : World} (h : p59 Try.prog K x0 w) : CallsR Try.prog 59 #[x0] K w := by
  rw [e59] at h
  exact denF_sound mixed Try.func59 h

-- (*gemel/rx.End).Partner
def p60 (P : Program) (K : Value → World → Prop) (x0 : Value) : World → Prop :=
  opS P (S.alloc 107) fun x1 =>
  opS P (S.nc x0) fun x2 =>
  opS P (S.fa 149 x2 1) fun x3 =>
  opS P (S.ld 107 x3) fun x4 =>
  opS P (S.st 107 x1 x4) fun x5 =>
  opS P (S.ld 107 x1) fun x6 =>
  K x6
instance fnb60 : FnB Try.prog 60 := ⟨Try.call60⟩
theorem e60 : p60 Try.prog = fun K x0 => denF Try.prog Try.f60 [x0] K := by kernel_rfl
theorem c60 {K : Value → World → Prop} {x0 : Value} {w : World} (h : p60 Try.prog K x0 w) : CallsR Try.prog 60 #[x0] K w := by
  rw [e60] at h
  exact denF_sound mixed Try.func60 h

-- gemel/lacpdu.Right
def p80 (P : Program) (K : Value → World → Prop) (x0 : Value) : World → Prop :=
  opS P (S.box 123 x0) fun x1 =>
  opS P (S.fa 123 x1 0) fun x2 =>
  opS P (S.ld 107 x2) fun x3 =>
  opS P (S.cl 115 [x3]) fun x4 =>
  brn x4 (
    opS P (S.fa 123 x1 1) fun x5 =>
    opS P (S.ld 107 x5) fun x6 =>
    opS P (S.cl 115 [x6]) fun x7 =>
    brn x7 (
      opS P (S.fa 123 x1 2) fun x8 =>
      opS P (S.ld 3 x8) fun x9 =>
      opS P (S.buildS 59 1 [(0, x9)]) fun x10 =>
      opS P (S.cl 116 [(.int .i64 65535), x10]) fun x11 =>
      K x11
    ) (
      K (.bool false)
    )
  ) (
    K (.bool false)
  )
instance fnb80 : FnB Try.prog 80 := ⟨Try.call80⟩
theorem e80 : p80 Try.prog = fun K x0 => denF Try.prog Try.f80 [x0] K := by kernel_rfl
theorem c80 {K : Value → World → Prop} {x0 : Value} {w : World} (h : p80 Try.prog K x0 w) : CallsR Try.prog 80 #[x0] K w := by
  rw [e80] at h
  exact denF_sound mixed Try.func80 h

-- gemel/rx.moment
def p82 (P : Program) (K : Value → World → Prop) (x0 : Value) : World → Prop :=
  opS P (S.binI .geq x0 (.int .i64 0)) fun x1 =>
  brn x1 (
    opS P (S.binI .leq x0 (.int .i64 1099511627776)) fun x2 =>
    K x2
  ) (
    K (.bool false)
  )
instance fnb82 : FnB Try.prog 82 := ⟨Try.call82⟩
theorem e82 : p82 Try.prog = fun K x0 => denF Try.prog Try.f82 [x0] K := by kernel_rfl
theorem c82 {K : Value → World → Prop} {x0 : Value} {w : World} (h : p82 Try.prog K x0 w) : CallsR Try.prog 82 #[x0] K w := by
  rw [e82] at h
  exact denF_sound mixed Try.func82 h

-- (*gemel/rx.End).expire
def p83 (P : Program) (K : Value → World → Prop) (x0 : Value) (x1 : Value) : World → Prop :=
  opS P (S.nc x0) fun x2 =>
  opS P (S.fa 149 x2 2) fun x3 =>
  opS P (S.st 3 x3 (.int .i64 1)) fun x4 =>
  opS P (S.nc x0) fun x5 =>
  opS P (S.fa 149 x5 4) fun x6 =>
  opS P (S.st 3 x6 x1) fun x7 =>
  opS P (S.nc x0) fun x8 =>
  opS P (S.fa 149 x8 1) fun x9 =>
  opS P (S.fa 107 x9 5) fun x10 =>
  opS P (S.ld 3 x10) fun x11 =>
  opS P (S.binI .andNot x11 (.int .i64 8)) fun x12 =>
  opS P (S.binI .or x12 (.int .i64 2)) fun x13 =>
  opS P (S.nc x0) fun x14 =>
  opS P (S.fa 149 x14 1) fun x15 =>
  opS P (S.fa 107 x15 5) fun x16 =>
  opS P (S.st 3 x16 x13) fun x17 =>
  K (.tuple #[])
instance fnb83 : FnB Try.prog 83 := ⟨Try.call83⟩
theorem e83 : p83 Try.prog = fun K x0 x1 => denF Try.prog Try.f83 [x0, x1] K := by kernel_rfl
theorem c83 {K : Value → World → Prop} {x0 x1 : Value} {w : World} (h : p83 Try.prog K x0 x1 w) : CallsR Try.prog 83 #[x0, x1] K w := by
  rw [e83] at h
  exact denF_sound mixed Try.func83 h

-- (*gemel/rx.End).wait
def p84 (P : Program) (K : Value → World → Prop) (x0 : Value) : World → Prop :=
  opS P (S.nc x0) fun x1 =>
  opS P (S.fa 149 x1 2) fun x2 =>
  opS P (S.ld 3 x2) fun x3 =>
  opS P (S.binI .eql x3 (.int .i64 1)) fun x4 =>
  brn x4 (
    K (.int .i64 3)
  ) (
    opS P (S.nc x0) fun x5 =>
    opS P (S.fa 149 x5 0) fun x6 =>
    opS P (S.fa 107 x6 5) fun x7 =>
    opS P (S.ld 3 x7) fun x8 =>
    opS P (S.binI .and x8 (.int .i64 2)) fun x9 =>
    opS P (S.binI .neq x9 (.int .i64 0)) fun x10 =>
    brn x10 (
      K (.int .i64 3)
    ) (
      K (.int .i64 90)
    )
  )
instance fnb84 : FnB Try.prog 84 := ⟨Try.call84⟩
theorem e84 : p84 Try.prog = fun K x0 => denF Try.prog Try.f84 [x0] K := by kernel_rfl
theorem c84 {K : Value → World → Prop} {x0 : Value} {w : World} (h : p84 Try.prog K x0 w) : CallsR Try.prog 84 #[x0] K w := by
  rw [e84] at h
  exact denF_sound mixed Try.func84 h

-- (*gemel/rx.End).Mux
def p91 (P : Program) (K : Value → World → Prop) (x0 : Value) (x1 : Value) : World → Prop :=
  opS P (S.binI .lss x1 (.int .i64 0)) fun x2 =>
  brn x2 (
    K (.int .i64 1)
  ) (
    opS P (S.binI .andNot x1 (.int .i64 56)) fun x3 =>
    opS P (S.binI .neq x3 (.int .i64 0)) fun x4 =>
    brn x4 (
      K (.int .i64 1)
    ) (
      opS P (S.nc x0) fun x5 =>
      opS P (S.fa 149 x5 3) fun x6 =>
      opS P (S.st 3 x6 x1) fun x7 =>
      K (.int .i64 0)
    )
  )
instance fnb91 : FnB Try.prog 91 := ⟨Try.call91⟩
theorem e91 : p91 Try.prog = fun K x0 x1 => denF Try.prog Try.f91 [x0, x1] K := by kernel_rfl
theorem c91 {K : Value → World → Prop} {x0 x1 : Value} {w : World} (h : p91 Try.prog K x0 x1 w) : CallsR Try.prog 91 #[x0, x1] K w := by
  rw [e91] at h
  exact denF_sound mixed Try.func91 h

-- (*gemel/rx.End).Take
def p100 (P : Program) (K : Value → World → Prop) (x0 : Value) (x1 : Value) (x2 : Value) : World → Prop :=
  opS P (S.box 123 x1) fun x3 =>
  opS P (S.cl 59 [x0]) fun x4 =>
  opS P (S.alloc 107) fun x5 =>
  opS P (S.st 107 x5 x4) fun x6 =>
  opS P (S.cl 82 [x2]) fun x7 =>
  opS P (S.un .not x7) fun x8 =>
  brn x8 (
    K (.tuple #[(.bool false), (.int .i64 1)])
  ) (
    opS P (S.nc x0) fun x9 =>
    opS P (S.fa 149 x9 2) fun x10 =>
    opS P (S.ld 3 x10) fun x11 =>
    opS P (S.binI .eql x11 (.int .i64 0)) fun x12 =>
    brn x12 (
      K (.tuple #[(.bool false), (.int .i64 7)])
    ) (
      opS P (S.ld 123 x3) fun x13 =>
      opS P (S.cl 80 [x13]) fun x14 =>
      opS P (S.un .not x14) fun x15 =>
      brn x15 (
        K (.tuple #[(.bool false), (.int .i64 2)])
      ) (
        jnJ 0 (
          opS P (S.fa 123 x3 0) fun x16 =>
          opS P (S.ld 107 x16) fun x17 =>
          opS P (S.nc x0) fun x18 =>
          opS P (S.fa 149 x18 1) fun x19 =>
          opS P (S.st 107 x19 x17) fun x20 =>
          opS P (S.fa 123 x3 0) fun x21 =>
          opS P (S.fa 107 x21 5) fun x22 =>
          opS P (S.ld 3 x22) fun x23 =>
          opS P (S.binI .and x23 (.int .i64 4)) fun x24 =>
          opS P (S.binI .neq x24 (.int .i64 0)) fun x25 =>
          jnJ 0 (
            opS P (S.nc x0) fun x26 =>
            opS P (S.fa 149 x26 2) fun x27 =>
            opS P (S.st 3 x27 (.int .i64 3)) fun x28 =>
            opS P (S.nc x0) fun x29 =>
            opS P (S.fa 149 x29 4) fun x30 =>
            opS P (S.st 3 x30 x2) fun x31 =>
            drw <|
            opS P (S.fa 123 x3 1) fun x32 =>
            opS P (S.ld 107 x32) fun x33 =>
            allW (
              opS P (S.cl 129 [x33]) fun x34 =>
              opS P (S.ld 107 x5) fun x35 =>
              opS P (S.cl 129 [x35]) fun x36 =>
              opS P (S.binG .neq 107 x34 x36) fun x37 =>
              K (.tuple #[x37, (.int .i64 0)])
            ) (
              opS P (S.ld 107 x5) fun x34 =>
              opS P (S.cl 129 [x33]) fun x35 =>
              opS P (S.cl 129 [x34]) fun x36 =>
              opS P (S.binG .neq 107 x35 x36) fun x37 =>
              K (.tuple #[x37, (.int .i64 0)])
            )
          ) fun j0 =>
          jnJ 0 (
            j0
          ) fun j1 =>
          brn x25 (
            opS P (S.fa 123 x3 1) fun x26 =>
            opS P (S.ld 107 x26) fun x27 =>
            opS P (S.ld 107 x5) fun x28 =>
            opS P (S.cl 128 [x27, x28]) fun x29 =>
            opS P (S.un .not x29) fun x30 =>
            brn x30 (
              opS P (S.nc x0) fun x31 =>
              opS P (S.fa 149 x31 1) fun x32 =>
              opS P (S.fa 107 x32 5) fun x33 =>
              opS P (S.ld 3 x33) fun x34 =>
              opS P (S.binI .andNot x34 (.int .i64 8)) fun x35 =>
              opS P (S.nc x0) fun x36 =>
              opS P (S.fa 149 x36 1) fun x37 =>
              opS P (S.fa 107 x37 5) fun x38 =>
              opS P (S.st 3 x38 x35) fun x39 =>
              j0
            ) (
              j1
            )
          ) (
            j1
          )
        ) fun j0 =>
        opS P (S.fa 123 x3 0) fun x16 =>
        opS P (S.fa 107 x16 1) fun x17 =>
        opS P (S.ld 34 x17) fun x18 =>
        opS P (S.fa 107 x5 1) fun x19 =>
        opS P (S.ld 34 x19) fun x20 =>
        opS P (S.binG .eql 34 x18 x20) fun x21 =>
        brn x21 (
          opS P (S.fa 123 x3 0) fun x22 =>
          opS P (S.fa 107 x22 4) fun x23 =>
          opS P (S.ld 3 x23) fun x24 =>
          opS P (S.fa 107 x5 4) fun x25 =>
          opS P (S.ld 3 x25) fun x26 =>
          opS P (S.binI .eql x24 x26) fun x27 =>
          brn x27 (
            K (.tuple #[(.bool false), (.int .i64 5)])
          ) (
            j0
          )
        ) (
          j0
        )
      )
    )
  )
instance fnb100 : FnB Try.prog 100 := ⟨Try.call100⟩
theorem e100 : p100 Try.prog = fun K x0 x1 x2 => denF Try.prog Try.f100 [x0, x1, x2] K := by kernel_rfl
theorem c100 {K : Value → World → Prop} {x0 x1 x2 : Value} {w : World} (h : p100 Try.prog K x0 x1 x2 w) : CallsR Try.prog 100 #[x0, x1, x2] K w := by
  rw [e100] at h
  exact denF_sound mixed Try.func100 h

-- gemel/lacpdu.info
def p115 (P : Program) (K : Value → World → Prop) (x0 : Value) : World → Prop :=
  opS P (S.box 107 x0) fun x1 =>
  opS P (S.fa 107 x1 0) fun x2 =>
  opS P (S.ld 3 x2) fun x3 =>
  opS P (S.fa 107 x1 2) fun x4 =>
  opS P (S.ld 3 x4) fun x5 =>
  opS P (S.fa 107 x1 3) fun x6 =>
  opS P (S.ld 3 x6) fun x7 =>
  opS P (S.fa 107 x1 4) fun x8 =>
  opS P (S.ld 3 x8) fun x9 =>
  opS P (S.buildS 59 4 [(0, x3), (1, x5), (2, x7), (3, x9)]) fun x10 =>
  opS P (S.cl 116 [(.int .i64 65535), x10]) fun x11 =>
  brn x11 (
    opS P (S.fa 107 x1 5) fun x12 =>
    opS P (S.ld 3 x12) fun x13 =>
    opS P (S.buildS 59 1 [(0, x13)]) fun x14 =>
    opS P (S.cl 116 [(.int .i64 255), x14]) fun x15 =>
    K x15
  ) (
    K (.bool false)
  )
instance fnb115 : FnB Try.prog 115 := ⟨Try.call115⟩
theorem e115 : p115 Try.prog = fun K x0 => denF Try.prog Try.f115 [x0] K := by kernel_rfl
theorem c115 {K : Value → World → Prop} {x0 : Value} {w : World} (h : p115 Try.prog K x0 w) : CallsR Try.prog 115 #[x0] K w := by
  rw [e115] at h
  exact denF_sound mixed Try.func115 h

-- gemel/lacpdu.within
def p116 (P : Program) (K : Value → World → Prop) (x0 : Value) (x1 : Value) : World → Prop :=
  opS P (S.len x1) fun x2 =>
  jnJ 0 (
    K (.bool true)
  ) fun j0 =>
  loopJ 1 (fun j1 x3 =>
    opS P (S.binI .lss x3 x2) fun x4 =>
    brn x4 (
      opS P (S.ia 59 x1 x3) fun x5 =>
      opS P (S.ld 3 x5) fun x6 =>
      opS P (S.binI .lss x6 (.int .i64 0)) fun x7 =>
      brn x7 (
        K (.bool false)
      ) (
        opS P (S.binI .gtr x6 x0) fun x8 =>
        brn x8 (
          K (.bool false)
        ) (
          opS P (S.binI .add x3 (.int .i64 1)) fun x9 =>
          j1 x9
        )
      )
    ) (
      j0
    )
  ) (.int .i64 0)
instance fnb116 : FnB Try.prog 116 := ⟨Try.call116⟩
theorem e116 : p116 Try.prog = fun K x0 x1 => denF Try.prog Try.f116 [x0, x1] K := by kernel_rfl
theorem c116 {K : Value → World → Prop} {x0 x1 : Value} {w : World} (h : p116 Try.prog K x0 x1 w) : CallsR Try.prog 116 #[x0, x1] K w := by
  rw [e116] at h
  exact denF_sound mixed Try.func116 h

-- gemel/lacpdu.Knows
def p128 (P : Program) (K : Value → World → Prop) (x0 : Value) (x1 : Value) : World → Prop :=
  opS P (S.box 107 x0) fun x2 =>
  opS P (S.box 107 x1) fun x3 =>
  opS P (S.fa 107 x2 5) fun x4 =>
  opS P (S.ld 3 x4) fun x5 =>
  opS P (S.fa 107 x3 5) fun x6 =>
  opS P (S.ld 3 x6) fun x7 =>
  opS P (S.binI .andNot x5 x7) fun x8 =>
  opS P (S.binI .and x8 (.int .i64 8)) fun x9 =>
  opS P (S.fa 107 x2 5) fun x10 =>
  opS P (S.ld 3 x10) fun x11 =>
  opS P (S.fa 107 x3 5) fun x12 =>
  opS P (S.ld 3 x12) fun x13 =>
  opS P (S.binI .xor x11 x13) fun x14 =>
  opS P (S.binI .and x14 (.int .i64 4)) fun x15 =>
  opS P (S.fa 107 x2 5) fun x16 =>
  opS P (S.st 3 x16 (.int .i64 0)) fun x17 =>
  opS P (S.fa 107 x3 5) fun x18 =>
  opS P (S.st 3 x18 (.int .i64 0)) fun x19 =>
  opS P (S.ld 107 x2) fun x20 =>
  opS P (S.ld 107 x3) fun x21 =>
  opS P (S.binG .eql 107 x20 x21) fun x22 =>
  brn x22 (
    opS P (S.binI .eql x15 (.int .i64 0)) fun x23 =>
    brn x23 (
      opS P (S.binI .eql x9 (.int .i64 0)) fun x24 =>
      K x24
    ) (
      K (.bool false)
    )
  ) (
    K (.bool false)
  )
instance fnb128 : FnB Try.prog 128 := ⟨Try.call128⟩
theorem e128 : p128 Try.prog = fun K x0 x1 => denF Try.prog Try.f128 [x0, x1] K := by kernel_rfl
theorem c128 {K : Value → World → Prop} {x0 x1 : Value} {w : World} (h : p128 Try.prog K x0 x1 w) : CallsR Try.prog 128 #[x0, x1] K w := by
  rw [e128] at h
  exact denF_sound mixed Try.func128 h

-- gemel/rx.bare
def p129 (P : Program) (K : Value → World → Prop) (x0 : Value) : World → Prop :=
  opS P (S.box 107 x0) fun x1 =>
  opS P (S.alloc 107) fun x2 =>
  opS P (S.fa 107 x1 5) fun x3 =>
  opS P (S.ld 3 x3) fun x4 =>
  opS P (S.binI .and x4 (.int .i64 15)) fun x5 =>
  opS P (S.fa 107 x1 5) fun x6 =>
  opS P (S.st 3 x6 x5) fun x7 =>
  opS P (S.ld 107 x1) fun x8 =>
  opS P (S.st 107 x2 x8) fun x9 =>
  opS P (S.ld 107 x2) fun x10 =>
  K x10
instance fnb129 : FnB Try.prog 129 := ⟨Try.call129⟩
theorem e129 : p129 Try.prog = fun K x0 => denF Try.prog Try.f129 [x0] K := by kernel_rfl
theorem c129 {K : Value → World → Prop} {x0 : Value} {w : World} (h : p129 Try.prog K x0 w) : CallsR Try.prog 129 #[x0] K w := by
  rw [e129] at h
  exact denF_sound mixed Try.func129 h

end Go.Gx.S
-- 116 115 80 128 45 82 83 54 129 100 84 55 91 59 60 53
end

section
/- What is asked of the program as a whole. -/
set_option maxRecDepth 100000
namespace Go.Gx.S
open Go Go.Gx Go.Proofs

theorem laidOut : laidOutB Try.prog = true := by kernel_rfl
theorem ctInt : Try.prog.cellsOf 3 = 1 := by kernel_rfl
theorem ctBool : Try.prog.cellsOf 4 = 1 := by kernel_rfl
theorem uInt : Try.prog.underlying 3 = some (.int .i64) := Try.underlying3
theorem uBool : Try.prog.underlying 4 = some .bool := Try.underlying4
theorem own : ownKnob Try.prog.godebug = none := by kernel_rfl

end Go.Gx.S
end

section
/- Addresses, bytes and texts among the program's types. -/
set_option maxRecDepth 100000
namespace Go.Gx.S
open Go Go.Gx Go.Proofs

theorem ctByte : Try.prog.cellsOf 5 = 1 := by kernel_rfl
theorem ctMac : Try.prog.cellsOf 34 = 6 := by kernel_rfl
instance : MacT Try.prog 34 5 := ⟨Try.underlying34, Try.underlying5, ctByte, ctMac⟩
instance : StrT Try.prog 9 := ⟨Try.underlying9⟩
instance : ByT Try.prog 126 := ⟨⟨_, Try.underlying126, Try.underlying5⟩⟩

end Go.Gx.S
end

section
/- Bridges of a tree: what they are, and their cells. -/
namespace Go.Gx
open Go

@[ext] structure Idn where
  prio : Int
  mac : Mac
  deriving DecidableEq, Inhabited

def Idn.cells (x : Idn) : List Value := [i64 x.prio, u8 x.mac.b0, u8 x.mac.b1, u8 x.mac.b2, u8 x.mac.b3, u8 x.mac.b4, u8 x.mac.b5]
theorem Idn.len (x : Idn) : x.cells.length = 7 := id rfl
theorem Idn.one (x : Idn) : x.cells.all S.oneCell = true := id rfl
theorem Idn.dw (x : Idn) : (x.cells.drop 0).take 7 = x.cells := id rfl
theorem Idn.sw (x y : Idn) : splice x.cells 0 y.cells = y.cells := id rfl
theorem Idn.g_prio (x : Idn) : x.cells[0]? = some (i64 x.prio) := id rfl
theorem Idn.s_prio (x : Idn) (v : Int) : splice x.cells 0 [i64 v] = ({ x with prio := v } : Idn).cells := id rfl
theorem Idn.d_mac (x : Idn) : (x.cells.drop 1).take 6 = x.mac.cells := id rfl
theorem Idn.s_mac (x : Idn) (v : Mac) : splice x.cells 1 v.cells = ({ x with mac := v } : Idn).cells := id rfl

@[ext] structure Vec where
  root : Idn
  cost : Int
  br : Idn
  port : Int
  own : Int
  deriving DecidableEq, Inhabited

def Vec.cells (x : Vec) : List Value := [i64 x.root.prio, u8 x.root.mac.b0, u8 x.root.mac.b1, u8 x.root.mac.b2, u8 x.root.mac.b3, u8 x.root.mac.b4, u8 x.root.mac.b5, i64 x.cost, i64 x.br.prio, u8 x.br.mac.b0, u8 x.br.mac.b1, u8 x.br.mac.b2, u8 x.br.mac.b3, u8 x.br.mac.b4, u8 x.br.mac.b5, i64 x.port, i64 x.own]
theorem Vec.len (x : Vec) : x.cells.length = 17 := id rfl
theorem Vec.one (x : Vec) : x.cells.all S.oneCell = true := id rfl
theorem Vec.dw (x : Vec) : (x.cells.drop 0).take 17 = x.cells := id rfl
theorem Vec.sw (x y : Vec) : splice x.cells 0 y.cells = y.cells := id rfl
theorem Vec.d_root (x : Vec) : (x.cells.drop 0).take 7 = x.root.cells := id rfl
theorem Vec.s_root (x : Vec) (v : Idn) : splice x.cells 0 v.cells = ({ x with root := v } : Vec).cells := id rfl
theorem Vec.g_root_prio (x : Vec) : x.cells[0]? = some (i64 x.root.prio) := id rfl
theorem Vec.s_root_prio (x : Vec) (v : Int) : splice x.cells 0 [i64 v] = ({ x with root := { x.root with prio := v } } : Vec).cells := id rfl
theorem Vec.d_root_mac (x : Vec) : (x.cells.drop 1).take 6 = x.root.mac.cells := id rfl
theorem Vec.s_root_mac (x : Vec) (v : Mac) : splice x.cells 1 v.cells = ({ x with root := { x.root with mac := v } } : Vec).cells := id rfl
theorem Vec.g_cost (x : Vec) : x.cells[7]? = some (i64 x.cost) := id rfl
theorem Vec.s_cost (x : Vec) (v : Int) : splice x.cells 7 [i64 v] = ({ x with cost := v } : Vec).cells := id rfl
theorem Vec.d_br (x : Vec) : (x.cells.drop 8).take 7 = x.br.cells := id rfl
theorem Vec.s_br (x : Vec) (v : Idn) : splice x.cells 8 v.cells = ({ x with br := v } : Vec).cells := id rfl
theorem Vec.g_br_prio (x : Vec) : x.cells[8]? = some (i64 x.br.prio) := id rfl
theorem Vec.s_br_prio (x : Vec) (v : Int) : splice x.cells 8 [i64 v] = ({ x with br := { x.br with prio := v } } : Vec).cells := id rfl
theorem Vec.d_br_mac (x : Vec) : (x.cells.drop 9).take 6 = x.br.mac.cells := id rfl
theorem Vec.s_br_mac (x : Vec) (v : Mac) : splice x.cells 9 v.cells = ({ x with br := { x.br with mac := v } } : Vec).cells := id rfl
theorem Vec.g_port (x : Vec) : x.cells[15]? = some (i64 x.port) := id rfl
theorem Vec.s_port (x : Vec) (v : Int) : splice x.cells 15 [i64 v] = ({ x with port := v } : Vec).cells := id rfl
theorem Vec.g_own (x : Vec) : x.cells[16]? = some (i64 x.own) := id rfl
theorem Vec.s_own (x : Vec) (v : Int) : splice x.cells 16 [i64 v] = ({ x with own := v } : Vec).cells := id rfl

@[ext] structure Hrd where
  port : Int
  cost : Int
  up : Bool
  has : Bool
  v : Vec
  deriving DecidableEq, Inhabited

def Hrd.cells (x : Hrd) : List Value := [i64 x.port, i64 x.cost, .bool x.up, .bool x.has, i64 x.v.root.prio, u8 x.v.root.mac.b0, u8 x.v.root.mac.b1, u8 x.v.root.mac.b2, u8 x.v.root.mac.b3, u8 x.v.root.mac.b4, u8 x.v.root.mac.b5, i64 x.v.cost, i64 x.v.br.prio, u8 x.v.br.mac.b0, u8 x.v.br.mac.b1, u8 x.v.br.mac.b2, u8 x.v.br.mac.b3, u8 x.v.br.mac.b4, u8 x.v.br.mac.b5, i64 x.v.port, i64 x.v.own]
theorem Hrd.len (x : Hrd) : x.cells.length = 21 := id rfl
theorem Hrd.one (x : Hrd) : x.cells.all S.oneCell = true := id rfl
theorem Hrd.dw (x : Hrd) : (x.cells.drop 0).take 21 = x.cells := id rfl
theorem Hrd.sw (x y : Hrd) : splice x.cells 0 y.cells = y.cells := id rfl
theorem Hrd.g_port (x : Hrd) : x.cells[0]? = some (i64 x.port) := id rfl
theorem Hrd.s_port (x : Hrd) (v : Int) : splice x.cells 0 [i64 v] = ({ x with port := v } : Hrd).cells := id rfl
theorem Hrd.g_cost (x : Hrd) : x.cells[1]? = some (i64 x.cost) := id rfl
theorem Hrd.s_cost (x : Hrd) (v : Int) : splice x.cells 1 [i64 v] = ({ x with cost := v } : Hrd).cells := id rfl
theorem Hrd.g_up (x : Hrd) : x.cells[2]? = some (.bool x.up) := id rfl
theorem Hrd.s_up (x : Hrd) (v : Bool) : splice x.cells 2 [.bool v] = ({ x with up := v } : Hrd).cells := id rfl
theorem Hrd.g_has (x : Hrd) : x.cells[3]? = some (.bool x.has) := id rfl
theorem Hrd.s_has (x : Hrd) (v : Bool) : splice x.cells 3 [.bool v] = ({ x with has := v } : Hrd).cells := id rfl
theorem Hrd.d_v (x : Hrd) : (x.cells.drop 4).take 17 = x.v.cells := id rfl
theorem Hrd.s_v (x : Hrd) (v : Vec) : splice x.cells 4 v.cells = ({ x with v := v } : Hrd).cells := id rfl
theorem Hrd.d_v_root (x : Hrd) : (x.cells.drop 4).take 7 = x.v.root.cells := id rfl
theorem Hrd.s_v_root (x : Hrd) (v : Idn) : splice x.cells 4 v.cells = ({ x with v := { x.v with root := v } } : Hrd).cells := id rfl
theorem Hrd.g_v_root_prio (x : Hrd) : x.cells[4]? = some (i64 x.v.root.prio) := id rfl
theorem Hrd.s_v_root_prio (x : Hrd) (v : Int) : splice x.cells 4 [i64 v] = ({ x with v := { x.v with root := { x.v.root with prio := v } } } : Hrd).cells := id rfl
theorem Hrd.d_v_root_mac (x : Hrd) : (x.cells.drop 5).take 6 = x.v.root.mac.cells := id rfl
theorem Hrd.s_v_root_mac (x : Hrd) (v : Mac) : splice x.cells 5 v.cells = ({ x with v := { x.v with root := { x.v.root with mac := v } } } : Hrd).cells := id rfl
theorem Hrd.g_v_cost (x : Hrd) : x.cells[11]? = some (i64 x.v.cost) := id rfl
theorem Hrd.s_v_cost (x : Hrd) (v : Int) : splice x.cells 11 [i64 v] = ({ x with v := { x.v with cost := v } } : Hrd).cells := id rfl
theorem Hrd.d_v_br (x : Hrd) : (x.cells.drop 12).take 7 = x.v.br.cells := id rfl
theorem Hrd.s_v_br (x : Hrd) (v : Idn) : splice x.cells 12 v.cells = ({ x with v := { x.v with br := v } } : Hrd).cells := id rfl
theorem Hrd.g_v_br_prio (x : Hrd) : x.cells[12]? = some (i64 x.v.br.prio) := id rfl
theorem Hrd.s_v_br_prio (x : Hrd) (v : Int) : splice x.cells 12 [i64 v] = ({ x with v := { x.v with br := { x.v.br with prio := v } } } : Hrd).cells := id rfl
theorem Hrd.d_v_br_mac (x : Hrd) : (x.cells.drop 13).take 6 = x.v.br.mac.cells := id rfl
theorem Hrd.s_v_br_mac (x : Hrd) (v : Mac) : splice x.cells 13 v.cells = ({ x with v := { x.v with br := { x.v.br with mac := v } } } : Hrd).cells := id rfl
theorem Hrd.g_v_port (x : Hrd) : x.cells[19]? = some (i64 x.v.port) := id rfl
theorem Hrd.s_v_port (x : Hrd) (v : Int) : splice x.cells 19 [i64 v] = ({ x with v := { x.v with port := v } } : Hrd).cells := id rfl
theorem Hrd.g_v_own (x : Hrd) : x.cells[20]? = some (i64 x.v.own) := id rfl
theorem Hrd.s_v_own (x : Hrd) (v : Int) : splice x.cells 20 [i64 v] = ({ x with v := { x.v with own := v } } : Hrd).cells := id rfl

@[ext] structure Prt where
  h : Hrd
  age : Int
  until_ : Int
  edge : Bool
  role : Int
  state : Int
  on : Int
  agreed : Bool
  reply : Bool
  deriving DecidableEq, Inhabited

def Prt.cells (x : Prt) : List Value := [i64 x.h.port, i64 x.h.cost, .bool x.h.up, .bool x.h.has, i64 x.h.v.root.prio, u8 x.h.v.root.mac.b0, u8 x.h.v.root.mac.b1, u8 x.h.v.root.mac.b2, u8 x.h.v.root.mac.b3, u8 x.h.v.root.mac.b4, u8 x.h.v.root.mac.b5, i64 x.h.v.cost, i64 x.h.v.br.prio, u8 x.h.v.br.mac.b0, u8 x.h.v.br.mac.b1, u8 x.h.v.br.mac.b2, u8 x.h.v.br.mac.b3, u8 x.h.v.br.mac.b4, u8 x.h.v.br.mac.b5, i64 x.h.v.port, i64 x.h.v.own, i64 x.age, i64 x.until_, .bool x.edge, i64 x.role, i64 x.state, i64 x.on, .bool x.agreed, .bool x.reply]
theorem Prt.len (x : Prt) : x.cells.length = 29 := id rfl
theorem Prt.one (x : Prt) : x.cells.all S.oneCell = true := id rfl
theorem Prt.dw (x : Prt) : (x.cells.drop 0).take 29 = x.cells := id rfl
theorem Prt.sw (x y : Prt) : splice x.cells 0 y.cells = y.cells := id rfl
theorem Prt.d_h (x : Prt) : (x.cells.drop 0).take 21 = x.h.cells := id rfl
theorem Prt.s_h (x : Prt) (v : Hrd) : splice x.cells 0 v.cells = ({ x with h := v } : Prt).cells := id rfl
theorem Prt.g_h_port (x : Prt) : x.cells[0]? = some (i64 x.h.port) := id rfl
theorem Prt.s_h_port (x : Prt) (v : Int) : splice x.cells 0 [i64 v] = ({ x with h := { x.h with port := v } } : Prt).cells := id rfl
theorem Prt.g_h_cost (x : Prt) : x.cells[1]? = some (i64 x.h.cost) := id rfl
theorem Prt.s_h_cost (x : Prt) (v : Int) : splice x.cells 1 [i64 v] = ({ x with h := { x.h with cost := v } } : Prt).cells := id rfl
theorem Prt.g_h_up (x : Prt) : x.cells[2]? = some (.bool x.h.up) := id rfl
theorem Prt.s_h_up (x : Prt) (v : Bool) : splice x.cells 2 [.bool v] = ({ x with h := { x.h with up := v } } : Prt).cells := id rfl
theorem Prt.g_h_has (x : Prt) : x.cells[3]? = some (.bool x.h.has) := id rfl
theorem Prt.s_h_has (x : Prt) (v : Bool) : splice x.cells 3 [.bool v] = ({ x with h := { x.h with has := v } } : Prt).cells := id rfl
theorem Prt.d_h_v (x : Prt) : (x.cells.drop 4).take 17 = x.h.v.cells := id rfl
theorem Prt.s_h_v (x : Prt) (v : Vec) : splice x.cells 4 v.cells = ({ x with h := { x.h with v := v } } : Prt).cells := id rfl
theorem Prt.d_h_v_root (x : Prt) : (x.cells.drop 4).take 7 = x.h.v.root.cells := id rfl
theorem Prt.s_h_v_root (x : Prt) (v : Idn) : splice x.cells 4 v.cells = ({ x with h := { x.h with v := { x.h.v with root := v } } } : Prt).cells := id rfl
theorem Prt.g_h_v_root_prio (x : Prt) : x.cells[4]? = some (i64 x.h.v.root.prio) := id rfl
theorem Prt.s_h_v_root_prio (x : Prt) (v : Int) : splice x.cells 4 [i64 v] = ({ x with h := { x.h with v := { x.h.v with root := { x.h.v.root with prio := v } } } } : Prt).cells := id rfl
theorem Prt.d_h_v_root_mac (x : Prt) : (x.cells.drop 5).take 6 = x.h.v.root.mac.cells := id rfl
theorem Prt.s_h_v_root_mac (x : Prt) (v : Mac) : splice x.cells 5 v.cells = ({ x with h := { x.h with v := { x.h.v with root := { x.h.v.root with mac := v } } } } : Prt).cells := id rfl
theorem Prt.g_h_v_cost (x : Prt) : x.cells[11]? = some (i64 x.h.v.cost) := id rfl
theorem Prt.s_h_v_cost (x : Prt) (v : Int) : splice x.cells 11 [i64 v] = ({ x with h := { x.h with v := { x.h.v with cost := v } } } : Prt).cells := id rfl
theorem Prt.d_h_v_br (x : Prt) : (x.cells.drop 12).take 7 = x.h.v.br.cells := id rfl
theorem Prt.s_h_v_br (x : Prt) (v : Idn) : splice x.cells 12 v.cells = ({ x with h := { x.h with v := { x.h.v with br := v } } } : Prt).cells := id rfl
theorem Prt.g_h_v_br_prio (x : Prt) : x.cells[12]? = some (i64 x.h.v.br.prio) := id rfl
theorem Prt.s_h_v_br_prio (x : Prt) (v : Int) : splice x.cells 12 [i64 v] = ({ x with h := { x.h with v := { x.h.v with br := { x.h.v.br with prio := v } } } } : Prt).cells := id rfl
theorem Prt.d_h_v_br_mac (x : Prt) : (x.cells.drop 13).take 6 = x.h.v.br.mac.cells := id rfl
theorem Prt.s_h_v_br_mac (x : Prt) (v : Mac) : splice x.cells 13 v.cells = ({ x with h := { x.h with v := { x.h.v with br := { x.h.v.br with mac := v } } } } : Prt).cells := id rfl
theorem Prt.g_h_v_port (x : Prt) : x.cells[19]? = some (i64 x.h.v.port) := id rfl
theorem Prt.s_h_v_port (x : Prt) (v : Int) : splice x.cells 19 [i64 v] = ({ x with h := { x.h with v := { x.h.v with port := v } } } : Prt).cells := id rfl
theorem Prt.g_h_v_own (x : Prt) : x.cells[20]? = some (i64 x.h.v.own) := id rfl
theorem Prt.s_h_v_own (x : Prt) (v : Int) : splice x.cells 20 [i64 v] = ({ x with h := { x.h with v := { x.h.v with own := v } } } : Prt).cells := id rfl
theorem Prt.g_age (x : Prt) : x.cells[21]? = some (i64 x.age) := id rfl
theorem Prt.s_age (x : Prt) (v : Int) : splice x.cells 21 [i64 v] = ({ x with age := v } : Prt).cells := id rfl
theorem Prt.g_until (x : Prt) : x.cells[22]? = some (i64 x.until_) := id rfl
theorem Prt.s_until (x : Prt) (v : Int) : splice x.cells 22 [i64 v] = ({ x with until_ := v } : Prt).cells := id rfl
theorem Prt.g_edge (x : Prt) : x.cells[23]? = some (.bool x.edge) := id rfl
theorem Prt.s_edge (x : Prt) (v : Bool) : splice x.cells 23 [.bool v] = ({ x with edge := v } : Prt).cells := id rfl
theorem Prt.g_role (x : Prt) : x.cells[24]? = some (i64 x.role) := id rfl
theorem Prt.s_role (x : Prt) (v : Int) : splice x.cells 24 [i64 v] = ({ x with role := v } : Prt).cells := id rfl
theorem Prt.g_state (x : Prt) : x.cells[25]? = some (i64 x.state) := id rfl
theorem Prt.s_state (x : Prt) (v : Int) : splice x.cells 25 [i64 v] = ({ x with state := v } : Prt).cells := id rfl
theorem Prt.g_on (x : Prt) : x.cells[26]? = some (i64 x.on) := id rfl
theorem Prt.s_on (x : Prt) (v : Int) : splice x.cells 26 [i64 v] = ({ x with on := v } : Prt).cells := id rfl
theorem Prt.g_agreed (x : Prt) : x.cells[27]? = some (.bool x.agreed) := id rfl
theorem Prt.s_agreed (x : Prt) (v : Bool) : splice x.cells 27 [.bool v] = ({ x with agreed := v } : Prt).cells := id rfl
theorem Prt.g_reply (x : Prt) : x.cells[28]? = some (.bool x.reply) := id rfl
theorem Prt.s_reply (x : Prt) (v : Bool) : splice x.cells 28 [.bool v] = ({ x with reply := v } : Prt).cells := id rfl

@[ext] structure Bpd where
  kind : Int
  flags : Int
  root : Idn
  cost : Int
  br : Idn
  port : Int
  age : Int
  maxAge : Int
  hello : Int
  forward : Int
  deriving DecidableEq, Inhabited

def Bpd.cells (x : Bpd) : List Value := [i64 x.kind, i64 x.flags, i64 x.root.prio, u8 x.root.mac.b0, u8 x.root.mac.b1, u8 x.root.mac.b2, u8 x.root.mac.b3, u8 x.root.mac.b4, u8 x.root.mac.b5, i64 x.cost, i64 x.br.prio, u8 x.br.mac.b0, u8 x.br.mac.b1, u8 x.br.mac.b2, u8 x.br.mac.b3, u8 x.br.mac.b4, u8 x.br.mac.b5, i64 x.port, i64 x.age, i64 x.maxAge, i64 x.hello, i64 x.forward]
theorem Bpd.len (x : Bpd) : x.cells.length = 22 := id rfl
theorem Bpd.one (x : Bpd) : x.cells.all S.oneCell = true := id rfl
theorem Bpd.dw (x : Bpd) : (x.cells.drop 0).take 22 = x.cells := id rfl
theorem Bpd.sw (x y : Bpd) : splice x.cells 0 y.cells = y.cells := id rfl
theorem Bpd.g_kind (x : Bpd) : x.cells[0]? = some (i64 x.kind) := id rfl
theorem Bpd.s_kind (x : Bpd) (v : Int) : splice x.cells 0 [i64 v] = ({ x with kind := v } : Bpd).cells := id rfl
theorem Bpd.g_flags (x : Bpd) : x.cells[1]? = some (i64 x.flags) := id rfl
theorem Bpd.s_flags (x : Bpd) (v : Int) : splice x.cells 1 [i64 v] = ({ x with flags := v } : Bpd).cells := id rfl
theorem Bpd.d_root (x : Bpd) : (x.cells.drop 2).take 7 = x.root.cells := id rfl
theorem Bpd.s_root (x : Bpd) (v : Idn) : splice x.cells 2 v.cells = ({ x with root := v } : Bpd).cells := id rfl
theorem Bpd.g_root_prio (x : Bpd) : x.cells[2]? = some (i64 x.root.prio) := id rfl
theorem Bpd.s_root_prio (x : Bpd) (v : Int) : splice x.cells 2 [i64 v] = ({ x with root := { x.root with prio := v } } : Bpd).cells := id rfl
theorem Bpd.d_root_mac (x : Bpd) : (x.cells.drop 3).take 6 = x.root.mac.cells := id rfl
theorem Bpd.s_root_mac (x : Bpd) (v : Mac) : splice x.cells 3 v.cells = ({ x with root := { x.root with mac := v } } : Bpd).cells := id rfl
theorem Bpd.g_cost (x : Bpd) : x.cells[9]? = some (i64 x.cost) := id rfl
theorem Bpd.s_cost (x : Bpd) (v : Int) : splice x.cells 9 [i64 v] = ({ x with cost := v } : Bpd).cells := id rfl
theorem Bpd.d_br (x : Bpd) : (x.cells.drop 10).take 7 = x.br.cells := id rfl
theorem Bpd.s_br (x : Bpd) (v : Idn) : splice x.cells 10 v.cells = ({ x with br := v } : Bpd).cells := id rfl
theorem Bpd.g_br_prio (x : Bpd) : x.cells[10]? = some (i64 x.br.prio) := id rfl
theorem Bpd.s_br_prio (x : Bpd) (v : Int) : splice x.cells 10 [i64 v] = ({ x with br := { x.br with prio := v } } : Bpd).cells := id rfl
theorem Bpd.d_br_mac (x : Bpd) : (x.cells.drop 11).take 6 = x.br.mac.cells := id rfl
theorem Bpd.s_br_mac (x : Bpd) (v : Mac) : splice x.cells 11 v.cells = ({ x with br := { x.br with mac := v } } : Bpd).cells := id rfl
theorem Bpd.g_port (x : Bpd) : x.cells[17]? = some (i64 x.port) := id rfl
theorem Bpd.s_port (x : Bpd) (v : Int) : splice x.cells 17 [i64 v] = ({ x with port := v } : Bpd).cells := id rfl
theorem Bpd.g_age (x : Bpd) : x.cells[18]? = some (i64 x.age) := id rfl
theorem Bpd.s_age (x : Bpd) (v : Int) : splice x.cells 18 [i64 v] = ({ x with age := v } : Bpd).cells := id rfl
theorem Bpd.g_maxAge (x : Bpd) : x.cells[19]? = some (i64 x.maxAge) := id rfl
theorem Bpd.s_maxAge (x : Bpd) (v : Int) : splice x.cells 19 [i64 v] = ({ x with maxAge := v } : Bpd).cells := id rfl
theorem Bpd.g_hello (x : Bpd) : x.cells[20]? = some (i64 x.hello) := id rfl
theorem Bpd.s_hello (x : Bpd) (v : Int) : splice x.cells 20 [i64 v] = ({ x with hello := v } : Bpd).cells := id rfl
theorem Bpd.g_forward (x : Bpd) : x.cells[21]? = some (i64 x.forward) := id rfl
theorem Bpd.s_forward (x : Bpd) (v : Int) : splice x.cells 21 [i64 v] = ({ x with forward := v } : Bpd).cells := id rfl

@[ext] structure Spk where
  port : Int
  b : Bpd
  deriving DecidableEq, Inhabited

def Spk.cells (x : Spk) : List Value := [i64 x.port, i64 x.b.kind, i64 x.b.flags, i64 x.b.root.prio, u8 x.b.root.mac.b0, u8 x.b.root.mac.b1, u8 x.b.root.mac.b2, u8 x.b.root.mac.b3, u8 x.b.root.mac.b4, u8 x.b.root.mac.b5, i64 x.b.cost, i64 x.b.br.prio, u8 x.b.br.mac.b0, u8 x.b.br.mac.b1, u8 x.b.br.mac.b2, u8 x.b.br.mac.b3, u8 x.b.br.mac.b4, u8 x.b.br.mac.b5, i64 x.b.port, i64 x.b.age, i64 x.b.maxAge, i64 x.b.hello, i64 x.b.forward]
theorem Spk.len (x : Spk) : x.cells.length = 23 := id rfl
theorem Spk.one (x : Spk) : x.cells.all S.oneCell = true := id rfl
theorem Spk.dw (x : Spk) : (x.cells.drop 0).take 23 = x.cells := id rfl
theorem Spk.sw (x y : Spk) : splice x.cells 0 y.cells = y.cells := id rfl
theorem Spk.g_port (x : Spk) : x.cells[0]? = some (i64 x.port) := id rfl
theorem Spk.s_port (x : Spk) (v : Int) : splice x.cells 0 [i64 v] = ({ x with port := v } : Spk).cells := id rfl
theorem Spk.d_b (x : Spk) : (x.cells.drop 1).take 22 = x.b.cells := id rfl
theorem Spk.s_b (x : Spk) (v : Bpd) : splice x.cells 1 v.cells = ({ x with b := v } : Spk).cells := id rfl
theorem Spk.g_b_kind (x : Spk) : x.cells[1]? = some (i64 x.b.kind) := id rfl
theorem Spk.s_b_kind (x : Spk) (v : Int) : splice x.cells 1 [i64 v] = ({ x with b := { x.b with kind := v } } : Spk).cells := id rfl
theorem Spk.g_b_flags (x : Spk) : x.cells[2]? = some (i64 x.b.flags) := id rfl
theorem Spk.s_b_flags (x : Spk) (v : Int) : splice x.cells 2 [i64 v] = ({ x with b := { x.b with flags := v } } : Spk).cells := id rfl
theorem Spk.d_b_root (x : Spk) : (x.cells.drop 3).take 7 = x.b.root.cells := id rfl
theorem Spk.s_b_root (x : Spk) (v : Idn) : splice x.cells 3 v.cells = ({ x with b := { x.b with root := v } } : Spk).cells := id rfl
theorem Spk.g_b_root_prio (x : Spk) : x.cells[3]? = some (i64 x.b.root.prio) := id rfl
theorem Spk.s_b_root_prio (x : Spk) (v : Int) : splice x.cells 3 [i64 v] = ({ x with b := { x.b with root := { x.b.root with prio := v } } } : Spk).cells := id rfl
theorem Spk.d_b_root_mac (x : Spk) : (x.cells.drop 4).take 6 = x.b.root.mac.cells := id rfl
theorem Spk.s_b_root_mac (x : Spk) (v : Mac) : splice x.cells 4 v.cells = ({ x with b := { x.b with root := { x.b.root with mac := v } } } : Spk).cells := id rfl
theorem Spk.g_b_cost (x : Spk) : x.cells[10]? = some (i64 x.b.cost) := id rfl
theorem Spk.s_b_cost (x : Spk) (v : Int) : splice x.cells 10 [i64 v] = ({ x with b := { x.b with cost := v } } : Spk).cells := id rfl
theorem Spk.d_b_br (x : Spk) : (x.cells.drop 11).take 7 = x.b.br.cells := id rfl
theorem Spk.s_b_br (x : Spk) (v : Idn) : splice x.cells 11 v.cells = ({ x with b := { x.b with br := v } } : Spk).cells := id rfl
theorem Spk.g_b_br_prio (x : Spk) : x.cells[11]? = some (i64 x.b.br.prio) := id rfl
theorem Spk.s_b_br_prio (x : Spk) (v : Int) : splice x.cells 11 [i64 v] = ({ x with b := { x.b with br := { x.b.br with prio := v } } } : Spk).cells := id rfl
theorem Spk.d_b_br_mac (x : Spk) : (x.cells.drop 12).take 6 = x.b.br.mac.cells := id rfl
theorem Spk.s_b_br_mac (x : Spk) (v : Mac) : splice x.cells 12 v.cells = ({ x with b := { x.b with br := { x.b.br with mac := v } } } : Spk).cells := id rfl
theorem Spk.g_b_port (x : Spk) : x.cells[18]? = some (i64 x.b.port) := id rfl
theorem Spk.s_b_port (x : Spk) (v : Int) : splice x.cells 18 [i64 v] = ({ x with b := { x.b with port := v } } : Spk).cells := id rfl
theorem Spk.g_b_age (x : Spk) : x.cells[19]? = some (i64 x.b.age) := id rfl
theorem Spk.s_b_age (x : Spk) (v : Int) : splice x.cells 19 [i64 v] = ({ x with b := { x.b with age := v } } : Spk).cells := id rfl
theorem Spk.g_b_maxAge (x : Spk) : x.cells[20]? = some (i64 x.b.maxAge) := id rfl
theorem Spk.s_b_maxAge (x : Spk) (v : Int) : splice x.cells 20 [i64 v] = ({ x with b := { x.b with maxAge := v } } : Spk).cells := id rfl
theorem Spk.g_b_hello (x : Spk) : x.cells[21]? = some (i64 x.b.hello) := id rfl
theorem Spk.s_b_hello (x : Spk) (v : Int) : splice x.cells 21 [i64 v] = ({ x with b := { x.b with hello := v } } : Spk).cells := id rfl
theorem Spk.g_b_forward (x : Spk) : x.cells[22]? = some (i64 x.b.forward) := id rfl
theorem Spk.s_b_forward (x : Spk) (v : Int) : splice x.cells 22 [i64 v] = ({ x with b := { x.b with forward := v } } : Spk).cells := id rfl

attribute [push_cast] Idn.len Idn.one Idn.dw Idn.sw Idn.g_prio Idn.s_prio Idn.d_mac Idn.s_mac Vec.len Vec.one Vec.dw Vec.sw Vec.d_root Vec.s_root Vec.g_root_prio Vec.s_root_prio Vec.d_root_mac Vec.s_root_mac Vec.g_cost Vec.s_cost Vec.d_br Vec.s_br Vec.g_br_prio Vec.s_br_prio Vec.d_br_mac Vec.s_br_mac Vec.g_port Vec.s_port Vec.g_own Vec.s_own Hrd.len Hrd.one Hrd.dw Hrd.sw Hrd.g_port Hrd.s_port Hrd.g_cost Hrd.s_cost Hrd.g_up Hrd.s_up Hrd.g_has Hrd.s_has Hrd.d_v Hrd.s_v Hrd.d_v_root Hrd.s_v_root Hrd.g_v_root_prio Hrd.s_v_root_prio Hrd.d_v_root_mac Hrd.s_v_root_mac Hrd.g_v_cost Hrd.s_v_cost Hrd.d_v_br Hrd.s_v_br Hrd.g_v_br_prio Hrd.s_v_br_prio Hrd.d_v_br_mac Hrd.s_v_br_mac Hrd.g_v_port Hrd.s_v_port Hrd.g_v_own Hrd.s_v_own Prt.len Prt.one Prt.dw Prt.sw Prt.d_h Prt.s_h Prt.g_h_port Prt.s_h_port Prt.g_h_cost Prt.s_h_cost Prt.g_h_up Prt.s_h_up Prt.g_h_has Prt.s_h_has Prt.d_h_v Prt.s_h_v Prt.d_h_v_root Prt.s_h_v_root Prt.g_h_v_root_prio Prt.s_h_v_root_prio Prt.d_h_v_root_mac Prt.s_h_v_root_mac Prt.g_h_v_cost Prt.s_h_v_cost Prt.d_h_v_br Prt.s_h_v_br Prt.g_h_v_br_prio Prt.s_h_v_br_prio Prt.d_h_v_br_mac Prt.s_h_v_br_mac Prt.g_h_v_port Prt.s_h_v_port Prt.g_h_v_own Prt.s_h_v_own Prt.g_age Prt.s_age Prt.g_until Prt.s_until Prt.g_edge Prt.s_edge Prt.g_role Prt.s_role Prt.g_state Prt.s_state Prt.g_on Prt.s_on Prt.g_agreed Prt.s_agreed Prt.g_reply Prt.s_reply Bpd.len Bpd.one Bpd.dw Bpd.sw Bpd.g_kind Bpd.s_kind Bpd.g_flags Bpd.s_flags Bpd.d_root Bpd.s_root Bpd.g_root_prio Bpd.s_root_prio Bpd.d_root_mac Bpd.s_root_mac Bpd.g_cost Bpd.s_cost Bpd.d_br Bpd.s_br Bpd.g_br_prio Bpd.s_br_prio Bpd.d_br_mac Bpd.s_br_mac Bpd.g_port Bpd.s_port Bpd.g_age Bpd.s_age Bpd.g_maxAge Bpd.s_maxAge Bpd.g_hello Bpd.s_hello Bpd.g_forward Bpd.s_forward Spk.len Spk.one Spk.dw Spk.sw Spk.g_port Spk.s_port Spk.d_b Spk.s_b Spk.g_b_kind Spk.s_b_kind Spk.g_b_flags Spk.s_b_flags Spk.d_b_root Spk.s_b_root Spk.g_b_root_prio Spk.s_b_root_prio Spk.d_b_root_mac Spk.s_b_root_mac Spk.g_b_cost Spk.s_b_cost Spk.d_b_br Spk.s_b_br Spk.g_b_br_prio Spk.s_b_br_prio Spk.d_b_br_mac Spk.s_b_br_mac Spk.g_b_port Spk.s_b_port Spk.g_b_age Spk.s_b_age Spk.g_b_maxAge Spk.s_b_maxAge Spk.g_b_hello Spk.s_b_hello Spk.g_b_forward Spk.s_b_forward

def Idn.lits (x : Idn) : List Lit := [.int .i64 x.prio, .int .u8 x.mac.b0, .int .u8 x.mac.b1, .int .u8 x.mac.b2, .int .u8 x.mac.b3, .int .u8 x.mac.b4, .int .u8 x.mac.b5]
def Vec.lits (x : Vec) : List Lit := [.int .i64 x.root.prio, .int .u8 x.root.mac.b0, .int .u8 x.root.mac.b1, .int .u8 x.root.mac.b2, .int .u8 x.root.mac.b3, .int .u8 x.root.mac.b4, .int .u8 x.root.mac.b5, .int .i64 x.cost, .int .i64 x.br.prio, .int .u8 x.br.mac.b0, .int .u8 x.br.mac.b1, .int .u8 x.br.mac.b2, .int .u8 x.br.mac.b3, .int .u8 x.br.mac.b4, .int .u8 x.br.mac.b5, .int .i64 x.port, .int .i64 x.own]
def Bpd.lits (x : Bpd) : List Lit := [.int .i64 x.kind, .int .i64 x.flags, .int .i64 x.root.prio, .int .u8 x.root.mac.b0, .int .u8 x.root.mac.b1, .int .u8 x.root.mac.b2, .int .u8 x.root.mac.b3, .int .u8 x.root.mac.b4, .int .u8 x.root.mac.b5, .int .i64 x.cost, .int .i64 x.br.prio, .int .u8 x.br.mac.b0, .int .u8 x.br.mac.b1, .int .u8 x.br.mac.b2, .int .u8 x.br.mac.b3, .int .u8 x.br.mac.b4, .int .u8 x.br.mac.b5, .int .i64 x.port, .int .i64 x.age, .int .i64 x.maxAge, .int .i64 x.hello, .int .i64 x.forward]
def Spk.lits (x : Spk) : List Lit := [.int .i64 x.port, .int .i64 x.b.kind, .int .i64 x.b.flags, .int .i64 x.b.root.prio, .int .u8 x.b.root.mac.b0, .int .u8 x.b.root.mac.b1, .int .u8 x.b.root.mac.b2, .int .u8 x.b.root.mac.b3, .int .u8 x.b.root.mac.b4, .int .u8 x.b.root.mac.b5, .int .i64 x.b.cost, .int .i64 x.b.br.prio, .int .u8 x.b.br.mac.b0, .int .u8 x.b.br.mac.b1, .int .u8 x.b.br.mac.b2, .int .u8 x.b.br.mac.b3, .int .u8 x.b.br.mac.b4, .int .u8 x.b.br.mac.b5, .int .i64 x.b.port, .int .i64 x.b.age, .int .i64 x.b.maxAge, .int .i64 x.b.hello, .int .i64 x.b.forward]
def Idn.ok (x : Idn) : Prop := isI x.prio ∧ x.mac.ok
def Vec.ok (x : Vec) : Prop := x.root.ok ∧ isI x.cost ∧ x.br.ok ∧ isI x.port ∧ isI x.own
def Hrd.ok (x : Hrd) : Prop := isI x.port ∧ isI x.cost ∧ x.v.ok
def Prt.ok (x : Prt) : Prop := x.h.ok ∧ isI x.age ∧ isI x.until_ ∧ isI x.role ∧ isI x.state ∧ isI x.on
def Bpd.ok (x : Bpd) : Prop := isI x.kind ∧ isI x.flags ∧ x.root.ok ∧ isI x.cost ∧ x.br.ok ∧ isI x.port ∧ isI x.age ∧ isI x.maxAge ∧ isI x.hello ∧ isI x.forward
def Spk.ok (x : Spk) : Prop := isI x.port ∧ x.b.ok

theorem Idn.lits_inj {a b : Idn} : a.lits = b.lits ↔ a = b := by
  constructor
  · intro h
    simp only [Idn.lits, List.cons.injEq, Lit.int.injEq, Lit.bool.injEq, true_and, and_true] at h
    obtain ⟨h0, h1, h2, h3, h4, h5, h6⟩ := h
    exact (Idn.ext h0 (Mac.ext h1 h2 h3 h4 h5 h6))
  · rintro rfl; rfl
theorem Vec.lits_inj {a b : Vec} : a.lits = b.lits ↔ a = b := by
  constructor
  · intro h
    simp only [Vec.lits, List.cons.injEq, Lit.int.injEq, Lit.bool.injEq, true_and, and_true] at h
    obtain ⟨h0, h1, h2, h3, h4, h5, h6, h7, h8, h9, h10, h11, h12, h13, h14, h15, h16⟩ := h
    exact (Vec.ext (Idn.ext h0 (Mac.ext h1 h2 h3 h4 h5 h6)) h7 (Idn.ext h8 (Mac.ext h9 h10 h11 h12 h13 h14)) h15 h16)
  · rintro rfl; rfl
theorem Bpd.lits_inj {a b : Bpd} : a.lits = b.lits ↔ a = b := by
  constructor
  · intro h
    simp only [Bpd.lits, List.cons.injEq, Lit.int.injEq, Lit.bool.injEq, true_and, and_true] at h
    obtain ⟨h0, h1, h2, h3, h4, h5, h6, h7, h8, h9, h10, h11, h12, h13, h14, h15, h16, h17, h18, h19, h20, h21⟩ := h
    exact (Bpd.ext h0 h1 (Idn.ext h2 (Mac.ext h3 h4 h5 h6 h7 h8)) h9 (Idn.ext h10 (Mac.ext h11 h12 h13 h14 h15 h16)) h17 h18 h19 h20 h21)
  · rintro rfl; rfl
theorem Spk.lits_inj {a b : Spk} : a.lits = b.lits ↔ a = b := by
  constructor
  · intro h
    simp only [Spk.lits, List.cons.injEq, Lit.int.injEq, Lit.bool.injEq, true_and, and_true] at h
    obtain ⟨h0, h1, h2, h3, h4, h5, h6, h7, h8, h9, h10, h11, h12, h13, h14, h15, h16, h17, h18, h19, h20, h21, h22⟩ := h
    exact (Spk.ext h0 (Bpd.ext h1 h2 (Idn.ext h3 (Mac.ext h4 h5 h6 h7 h8 h9)) h10 (Idn.ext h11 (Mac.ext h12 h13 h14 h15 h16 h17)) h18 h19 h20 h21 h22))
  · rintro rfl; rfl

end Go.Gx
end
