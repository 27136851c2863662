/- Own texts, put together. -/
import Derived.Test.YtadgfomgnohokaaGreatS2
import Derived.Test.YtadgfomgnohokaaGreatS1
import Derived.Maps.RangeRun
import Derived.Maps.Keyed
import Derived.DeepKeys4
import Derived.Laws.Strings
import Derived.Lib.SlicesCompact
import Derived.Sort.Row
import Derived.Sort.Grow
import Derived.Shelf.SlSortCmp.WholeK
import Derived.Shelf.SlSortCmp.NoneTotal
import Derived.RecoverIn
section
/- What the functions of this program ask. -/
set_option linter.unusedVariables false
set_option maxRecDepth 100000
namespace Go.Gx.S
open Go Go.Gx Go.Proofs
-- gemel/vector.Compare
def p35 (P : Program) (K : Value → World → Prop) (x0 : Value) (x1 : Value) : World → Prop :=
  opS P (S.box 44 x0) fun x2 =>
  opS P (S.box 44 x1) fun x3 =>
  drw <|
  quietS fun C =>
  qtS P C (S.fa 44 x2 0) fun x4 =>
  qtS P C (S.ld 25 x4) fun x5 =>
  qtS P C (S.fa 44 x3 0) fun x6 =>
  qtS P C (S.ld 25 x6) fun x7 =>
  qtS P C (S.cl 63 [x5, x7]) fun x8 =>
  qtS P C (S.fa 44 x2 1) fun x9 =>
  qtS P C (S.ld 3 x9) fun x10 =>
  qtS P C (S.fa 44 x3 1) fun x11 =>
  qtS P C (S.ld 3 x11) fun x12 =>
  qtS P C (S.cl 64 [x10, x12]) fun x13 =>
  qtS P C (S.fa 44 x2 2) fun x14 =>
  qtS P C (S.ld 25 x14) fun x15 =>
  qtS P C (S.fa 44 x3 2) fun x16 =>
  qtS P C (S.ld 25 x16) fun x17 =>
  qtS P C (S.cl 63 [x15, x17]) fun x18 =>
  qtS P C (S.fa 44 x2 3) fun x19 =>
  qtS P C (S.ld 3 x19) fun x20 =>
  qtS P C (S.fa 44 x3 3) fun x21 =>
  qtS P C (S.ld 3 x21) fun x22 =>
  qtS P C (S.cl 64 [x20, x22]) fun x23 =>
  qtS P C (S.fa 44 x2 4) fun x24 =>
  qtS P C (S.ld 3 x24) fun x25 =>
  qtS P C (S.fa 44 x3 4) fun x26 =>
  qtS P C (S.ld 3 x26) fun x27 =>
  qendS C <|
  opS P (S.cl 64 [x25, x27]) fun x28 =>
  opS P (S.buildS 26 5 [(0, x8), (1, x13), (2, x18), (3, x23), (4, x28)]) fun x29 =>
  opS P (S.cl 62 [x29]) fun x30 =>
  K x30
instance fnb35 : FnB Tryz.prog 35 := ⟨Tryz.call35⟩
theorem e35 : p35 Tryz.prog = fun K x0 x1 => denF Tryz.prog Tryz.f35 [x0, x1] K := by kernel_rfl
theorem c35 {K : Value → World → Prop} {x0 x1 : Value} {w : World} (h : p35 Tryz.prog K x0 x1 w) : CallsR Tryz.prog 35 #[x0, x1] K w := by
  rw [e35] at h
  exact denF_sound mixed Tryz.func35 h

-- gemel/bpdu.Compare
def p63 (P : Program) (K : Value → World → Prop) (x0 : Value) (x1 : Value) : World → Prop :=
  opS P (S.box 25 x0) fun x2 =>
  opS P (S.box 25 x1) fun x3 =>
  drw <|
  opS P (S.fa 25 x2 0) fun x4 =>
  opS P (S.ld 3 x4) fun x5 =>
  opS P (S.fa 25 x3 0) fun x6 =>
  opS P (S.ld 3 x6) fun x7 =>
  opS P (S.fa 25 x2 1) fun x8 =>
  opS P (S.fa 25 x3 1) fun x9 =>
  allW (
    opS P (S.cl 64 [x5, x7]) fun x10 =>
    opS P (S.ld 23 x8) fun x11 =>
    opS P (S.ld 23 x9) fun x12 =>
    opS P (S.cl 79 [x11, x12]) fun x13 =>
    opS P (S.buildS 26 2 [(0, x10), (1, x13)]) fun x14 =>
    opS P (S.cl 62 [x14]) fun x15 =>
    K x15
  ) (
    allW (
      opS P (S.ld 23 x8) fun x10 =>
      allW (
        opS P (S.cl 64 [x5, x7]) fun x11 =>
        opS P (S.ld 23 x9) fun x12 =>
        opS P (S.cl 79 [x10, x12]) fun x13 =>
        opS P (S.buildS 26 2 [(0, x11), (1, x13)]) fun x14 =>
        opS P (S.cl 62 [x14]) fun x15 =>
        K x15
      ) (
        opS P (S.ld 23 x9) fun x11 =>
        opS P (S.cl 64 [x5, x7]) fun x12 =>
        opS P (S.cl 79 [x10, x11]) fun x13 =>
        opS P (S.buildS 26 2 [(0, x12), (1, x13)]) fun x14 =>
        opS P (S.cl 62 [x14]) fun x15 =>
        K x15
      )
    ) (
      opS P (S.ld 23 x9) fun x10 =>
      allW (
        opS P (S.cl 64 [x5, x7]) fun x11 =>
        opS P (S.ld 23 x8) fun x12 =>
        opS P (S.cl 79 [x12, x10]) fun x13 =>
        opS P (S.buildS 26 2 [(0, x11), (1, x13)]) fun x14 =>
        opS P (S.cl 62 [x14]) fun x15 =>
        K x15
      ) (
        opS P (S.ld 23 x8) fun x11 =>
        opS P (S.cl 64 [x5, x7]) fun x12 =>
        opS P (S.cl 79 [x11, x10]) fun x13 =>
        opS P (S.buildS 26 2 [(0, x12), (1, x13)]) fun x14 =>
        opS P (S.cl 62 [x14]) fun x15 =>
        K x15
      )
    )
  )
instance fnb63 : FnB Tryz.prog 63 := ⟨Tryz.call63⟩
theorem e63 : p63 Tryz.prog = fun K x0 x1 => denF Tryz.prog Tryz.f63 [x0, x1] K := by kernel_rfl
theorem c63 {K : Value → World → Prop} {x0 x1 : Value} {w : World} (h : p63 Tryz.prog K x0 x1 w) : CallsR Tryz.prog 63 #[x0, x1] K w := by
  rw [e63] at h
  exact denF_sound mixed Tryz.func63 h

-- gemel/gemelref16.Compare
def p72 (P : Program) (K : Value → World → Prop) (x0 : Value) (x1 : Value) : World → Prop :=
  opS P (S.box 44 x0) fun x2 =>
  opS P (S.box 44 x1) fun x3 =>
  opS P (S.fa 44 x2 0) fun x4 =>
  opS P (S.ld 25 x4) fun x5 =>
  opS P (S.fa 44 x3 0) fun x6 =>
  opS P (S.ld 25 x6) fun x7 =>
  opS P (S.cl 82 [x5, x7]) fun x8 =>
  jnJ 1 (fun x9 =>
    jnJ 1 (fun x10 =>
      jnJ 1 (fun x11 =>
        opS P (S.binI .eql x11 (.int .i64 0)) fun x12 =>
        brn x12 (
          opS P (S.fa 44 x2 4) fun x13 =>
          opS P (S.ld 3 x13) fun x14 =>
          opS P (S.fa 44 x3 4) fun x15 =>
          opS P (S.ld 3 x15) fun x16 =>
          opS P (S.cl 83 [x14, x16]) fun x17 =>
          K x17
        ) (
          K x11
        )
      ) fun j0 =>
      opS P (S.binI .eql x10 (.int .i64 0)) fun x11 =>
      brn x11 (
        opS P (S.fa 44 x2 3) fun x12 =>
        opS P (S.ld 3 x12) fun x13 =>
        opS P (S.fa 44 x3 3) fun x14 =>
        opS P (S.ld 3 x14) fun x15 =>
        opS P (S.cl 83 [x13, x15]) fun x16 =>
        j0 x16
      ) (
        j0 x10
      )
    ) fun j0 =>
    opS P (S.binI .eql x9 (.int .i64 0)) fun x10 =>
    brn x10 (
      opS P (S.fa 44 x2 2) fun x11 =>
      opS P (S.ld 25 x11) fun x12 =>
      opS P (S.fa 44 x3 2) fun x13 =>
      opS P (S.ld 25 x13) fun x14 =>
      opS P (S.cl 82 [x12, x14]) fun x15 =>
      j0 x15
    ) (
      j0 x9
    )
  ) fun j0 =>
  opS P (S.binI .eql x8 (.int .i64 0)) fun x9 =>
  brn x9 (
    opS P (S.fa 44 x2 1) fun x10 =>
    opS P (S.ld 3 x10) fun x11 =>
    opS P (S.fa 44 x3 1) fun x12 =>
    opS P (S.ld 3 x12) fun x13 =>
    opS P (S.cl 83 [x11, x13]) fun x14 =>
    j0 x14
  ) (
    j0 x8
  )
instance fnb72 : FnB Tryz.prog 72 := ⟨Tryz.call72⟩
theorem e72 : p72 Tryz.prog = fun K x0 x1 => denF Tryz.prog Tryz.f72 [x0, x1] K := by kernel_rfl
theorem c72 {K : Value → World → Prop} {x0 x1 : Value} {w : World} (h : p72 Tryz.prog K x0 x1 w) : CallsR Tryz.prog 72 #[x0, x1] K w := by
  rw [e72] at h
  exact denF_sound mixed Tryz.func72 h

-- gemel/gemelref05.Compare
def p82 (P : Program) (K : Value → World → Prop) (x0 : Value) (x1 : Value) : World → Prop :=
  opS P (S.box 25 x0) fun x2 =>
  opS P (S.box 25 x1) fun x3 =>
  opS P (S.fa 25 x2 0) fun x4 =>
  opS P (S.ld 3 x4) fun x5 =>
  opS P (S.fa 25 x3 0) fun x6 =>
  opS P (S.ld 3 x6) fun x7 =>
  opS P (S.binI .lss x5 x7) fun x8 =>
  brn x8 (
    K (.int .i64 (-1))
  ) (
    opS P (S.fa 25 x2 0) fun x9 =>
    opS P (S.ld 3 x9) fun x10 =>
    opS P (S.fa 25 x3 0) fun x11 =>
    opS P (S.ld 3 x11) fun x12 =>
    opS P (S.binI .gtr x10 x12) fun x13 =>
    brn x13 (
      K (.int .i64 1)
    ) (
      opS P (S.fa 25 x2 1) fun x14 =>
      opS P (S.ld 23 x14) fun x15 =>
      opS P (S.fa 25 x3 1) fun x16 =>
      opS P (S.ld 23 x16) fun x17 =>
      opS P (S.cl 91 [x15, x17]) fun x18 =>
      K x18
    )
  )
instance fnb82 : FnB Tryz.prog 82 := ⟨Tryz.call82⟩
theorem e82 : p82 Tryz.prog = fun K x0 x1 => denF Tryz.prog Tryz.f82 [x0, x1] K := by kernel_rfl
theorem c82 {K : Value → World → Prop} {x0 x1 : Value} {w : World} (h : p82 Tryz.prog K x0 x1 w) : CallsR Tryz.prog 82 #[x0, x1] K w := by
  rw [e82] at h
  exact denF_sound mixed Tryz.func82 h

-- gemel/gemelref16.number
def p83 (P : Program) (K : Value → World → Prop) (x0 : Value) (x1 : Value) : World → Prop :=
  opS P (S.binI .lss x0 x1) fun x2 =>
  brn x2 (
    K (.int .i64 (-1))
  ) (
    opS P (S.binI .gtr x0 x1) fun x3 =>
    brn x3 (
      K (.int .i64 1)
    ) (
      K (.int .i64 0)
    )
  )
instance fnb83 : FnB Tryz.prog 83 := ⟨Tryz.call83⟩
theorem e83 : p83 Tryz.prog = fun K x0 x1 => denF Tryz.prog Tryz.f83 [x0, x1] K := by kernel_rfl
theorem c83 {K : Value → World → Prop} {x0 x1 : Value} {w : World} (h : p83 Tryz.prog K x0 x1 w) : CallsR Tryz.prog 83 #[x0, x1] K w := by
  rw [e83] at h
  exact denF_sound mixed Tryz.func83 h

end Go.Gx.S
-- 63 82 35 72 83
end

section
/- What the functions of this program ask. -/
set_option linter.unusedVariables false
set_option maxRecDepth 100000
namespace Go.Gx.S
open Go Go.Gx Go.Proofs
-- cmp.Or[int]
def p62 (P : Program) (K : Value → World → Prop) (x0 : Value) : World → Prop :=
  opS P (S.len x0) fun x1 =>
  jnJ 0 (
    K (.int .i64 0)
  ) fun j0 =>
  loopJ 1 (fun j1 x2 =>
    opS P (S.binI .lss x2 x1) fun x3 =>
    brn x3 (
      opS P (S.ia 26 x0 x2) fun x4 =>
      opS P (S.ld 3 x4) fun x5 =>
      opS P (S.binI .neq x5 (.int .i64 0)) fun x6 =>
      brn x6 (
        K x5
      ) (
        opS P (S.binI .add x2 (.int .i64 1)) fun x7 =>
        j1 x7
      )
    ) (
      j0
    )
  ) (.int .i64 0)
instance fnb62 : FnB Tryz.prog 62 := ⟨Tryz.call62⟩
theorem e62 : p62 Tryz.prog = fun K x0 => denF Tryz.prog Tryz.f62 [x0] K := by kernel_rfl
theorem c62 {K : Value → World → Prop} {x0 : Value} {w : World} (h : p62 Tryz.prog K x0 w) : CallsR Tryz.prog 62 #[x0] K w := by
  rw [e62] at h
  exact denF_sound mixed Tryz.func62 h

-- cmp.Compare[int]
def p64 (P : Program) (K : Value → World → Prop) (x0 : Value) (x1 : Value) : World → Prop :=
  opS P (S.cl 80 [x0]) fun x2 =>
  opS P (S.cl 80 [x1]) fun x3 =>
  brn x2 (
    brn x3 (
      K (.int .i64 0)
    ) (
      K (.int .i64 (-1))
    )
  ) (
    brn x3 (
      K (.int .i64 1)
    ) (
      opS P (S.binI .lss x0 x1) fun x4 =>
      brn x4 (
        K (.int .i64 (-1))
      ) (
        opS P (S.binI .gtr x0 x1) fun x5 =>
        brn x5 (
          K (.int .i64 1)
        ) (
          K (.int .i64 0)
        )
      )
    )
  )
instance fnb64 : FnB Tryz.prog 64 := ⟨Tryz.call64⟩
theorem e64 : p64 Tryz.prog = fun K x0 x1 => denF Tryz.prog Tryz.f64 [x0, x1] K := by kernel_rfl
theorem c64 {K : Value → World → Prop} {x0 x1 : Value} {w : World} (h : p64 Tryz.prog K x0 x1 w) : CallsR Tryz.prog 64 #[x0, x1] K w := by
  rw [e64] at h
  exact denF_sound mixed Tryz.func64 h

-- gemel/mac.Compare
def p79 (P : Program) (K : Value → World → Prop) (x0 : Value) (x1 : Value) : World → Prop :=
  opS P (S.box 23 x0) fun x2 =>
  opS P (S.box 23 x1) fun x3 =>
  drw <|
  opS P (S.slc 23 x2 none none none) fun x4 =>
  opS P (S.slc 23 x3 none none none) fun x5 =>
  opS P (S.cl 90 [x4, x5]) fun x6 =>
  K x6
instance fnb79 : FnB Tryz.prog 79 := ⟨Tryz.call79⟩
theorem e79 : p79 Tryz.prog = fun K x0 x1 => denF Tryz.prog Tryz.f79 [x0, x1] K := by kernel_rfl
theorem c79 {K : Value → World → Prop} {x0 x1 : Value} {w : World} (h : p79 Tryz.prog K x0 x1 w) : CallsR Tryz.prog 79 #[x0, x1] K w := by
  rw [e79] at h
  exact denF_sound mixed Tryz.func79 h

-- cmp.isNaN[int]
def p80 (P : Program) (K : Value → World → Prop) (x0 : Value) : World → Prop :=
  opS P (S.binI .neq x0 x0) fun x1 =>
  K x1
instance fnb80 : FnB Tryz.prog 80 := ⟨Tryz.call80⟩
theorem e80 : p80 Tryz.prog = fun K x0 => denF Tryz.prog Tryz.f80 [x0] K := by kernel_rfl
theorem c80 {K : Value → World → Prop} {x0 : Value} {w : World} (h : p80 Tryz.prog K x0 w) : CallsR Tryz.prog 80 #[x0] K w := by
  rw [e80] at h
  exact denF_sound mixed Tryz.func80 h

-- bytes.Compare
def p90 (P : Program) (K : Value → World → Prop) (x0 : Value) (x1 : Value) : World → Prop :=
  opS P (S.cl 103 [x0, x1]) fun x2 =>
  K x2
instance fnb90 : FnB Tryz.prog 90 := ⟨Tryz.call90⟩
theorem e90 : p90 Tryz.prog = fun K x0 x1 => denF Tryz.prog Tryz.f90 [x0, x1] K := by kernel_rfl
theorem c90 {K : Value → World → Prop} {x0 x1 : Value} {w : World} (h : p90 Tryz.prog K x0 x1 w) : CallsR Tryz.prog 90 #[x0, x1] K w := by
  rw [e90] at h
  exact denF_sound mixed Tryz.func90 h

-- gemel/gemelref01.Compare
def p91 (P : Program) (K : Value → World → Prop) (x0 : Value) (x1 : Value) : World → Prop :=
  opS P (S.box 23 x0) fun x2 =>
  opS P (S.box 23 x1) fun x3 =>
  opS P (S.ld 23 x2) fun x4 =>
  opS P (S.cl 104 [x4]) fun x5 =>
  opS P (S.ld 23 x3) fun x6 =>
  opS P (S.cl 104 [x6]) fun x7 =>
  opS P (S.binI .lss x5 x7) fun x8 =>
  brn x8 (
    K (.int .i64 (-1))
  ) (
    opS P (S.binI .gtr x5 x7) fun x9 =>
    brn x9 (
      K (.int .i64 1)
    ) (
      K (.int .i64 0)
    )
  )
instance fnb91 : FnB Tryz.prog 91 := ⟨Tryz.call91⟩
theorem e91 : p91 Tryz.prog = fun K x0 x1 => denF Tryz.prog Tryz.f91 [x0, x1] K := by kernel_rfl
theorem c91 {K : Value → World → Prop} {x0 x1 : Value} {w : World} (h : p91 Tryz.prog K x0 x1 w) : CallsR Tryz.prog 91 #[x0, x1] K w := by
  rw [e91] at h
  exact denF_sound mixed Tryz.func91 h

-- gemel/gemelref01.Number
def p104 (P : Program) (K : Value → World → Prop) (x0 : Value) : World → Prop :=
  opS P (S.box 23 x0) fun x1 =>
  jnJ 1 (fun x2 =>
    K x2
  ) fun j0 =>
  loopJ 2 (fun j1 x2 x3 =>
    opS P (S.binI .lss x3 (.int .i64 6)) fun x4 =>
    brn x4 (
      opS P (S.binI .mul x2 (.int .u64 256)) fun x5 =>
      opS P (S.ia 23 x1 x3) fun x6 =>
      opS P (S.ld 5 x6) fun x7 =>
      opS P (S.convI .u64 x7) fun x8 =>
      opS P (S.binI .add x5 x8) fun x9 =>
      opS P (S.binI .add x3 (.int .i64 1)) fun x10 =>
      j1 x9 x10
    ) (
      j0 x2
    )
  ) (.int .u64 0) (.int .i64 0)
instance fnb104 : FnB Tryz.prog 104 := ⟨Tryz.call104⟩
theorem e104 : p104 Tryz.prog = fun K x0 => denF Tryz.prog Tryz.f104 [x0] K := by kernel_rfl
theorem c104 {K : Value → World → Prop} {x0 : Value} {w : World} (h : p104 Tryz.prog K x0 w) : CallsR Tryz.prog 104 #[x0] K w := by
  rw [e104] at h
  exact denF_sound mixed Tryz.func104 h

end Go.Gx.S
-- 64 80 62 79 90 91 104
end

section
/- Maps: what they hold; looking up, putting, deleting, going through. -/
namespace Go.Gx
open Go Go.Maps
variable {P : Program} {K : Value → World → Prop} {w : World}

/-- keys of a type, as values of a Lean type -/
class KeyC (P : Program) (T : TypeId) (κ : outParam Type) (kc : outParam (κ → Value)) (ok : outParam (κ → Prop)) : Prop where
  law : Keyed P T
  of : ∀ k, ok k → ∃ l, keyOf P T (kc k) = some l
  inj : ∀ a b, kc a = kc b → a = b

section
variable {κ ν : Type} {kc : κ → Value} {vc : ν → Value} {kok : κ → Prop}

structure MHolds (kc : κ → Value) (vc : ν → Value) (kok : κ → Prop) (es : List MapEntry) (clock : Nat) (l : List (κ × ν)) : Prop where
  same : es.map (fun e => (e.key, e.val)) = l.map fun p => (kc p.1, vc p.2)
  nd : (l.map Prod.fst).Nodup
  ok : ∀ p ∈ l, kok p.1
  born : (es.map (·.born)).Nodup
  lt : ∀ e ∈ es, e.born < clock

/-- a map, in the order in which its keys came -/
def MapR (kc : κ → Value) (vc : ν → Value) (kok : κ → Prop) (w : World) (m : Nat) (l : List (κ × ν)) : Prop :=
  ∃ es clock, w.heap[m]? = some (.map es clock) ∧ MHolds kc vc kok es.toList clock l

theorem MapR.fr {fp : Nat → Prop} {w w' : World} {m : Nat} {l : List (κ × ν)} (h : MapR kc vc kok w m l) (hf : Fr fp w w') (hn : ¬ fp m) : MapR kc vc kok w' m l := by
  obtain ⟨es, clock, hb, hh⟩ := h
  exact ⟨es, clock, hf.heap hb hn, hh⟩
theorem MapR.lt {m : Nat} {l : List (κ × ν)} (h : MapR kc vc kok w m l) : m < w.heap.size := by
  obtain ⟨es, clock, hb, hh⟩ := h
  exact lt_of_heap hb
theorem MapR.drew {m : Nat} {l : List (κ × ν)} (h : MapR kc vc kok w m l) : MapR kc vc kok w.drew m l := h

theorem MHolds.len {es : List MapEntry} {clock : Nat} {l : List (κ × ν)} (h : MHolds kc vc kok es clock l) : es.length = l.length := by
  have := congrArg List.length h.same
  simpa using this
theorem MHolds.at {es : List MapEntry} {clock : Nat} {l : List (κ × ν)} (h : MHolds kc vc kok es clock l) {j : Nat} {e : MapEntry} (he : es[j]? = some e) : ∃ p, l[j]? = some p ∧ e.key = kc p.1 ∧ e.val = vc p.2 := by
  have := congrArg (fun l => l[j]?) h.same
  simp only [List.getElem?_map, he, Option.map_some] at this
  cases hl : l[j]? with
  | none => rw [hl] at this; cases this
  | some p =>
    rw [hl, Option.map_some, Option.some.injEq, Prod.mk.injEq] at this
    exact ⟨p, rfl, this.1, this.2⟩
theorem MHolds.mem {es : List MapEntry} {clock : Nat} {l : List (κ × ν)} (h : MHolds kc vc kok es clock l) {e : MapEntry} (he : e ∈ es) : ∃ p ∈ l, e.key = kc p.1 ∧ e.val = vc p.2 := by
  obtain ⟨j, hj⟩ := List.mem_iff_getElem?.1 he
  obtain ⟨p, hp, h1, h2⟩ := h.at hj
  exact ⟨p, List.mem_of_getElem? hp, h1, h2⟩

variable [DecidableEq κ]

/-- what a key has -/
def getL {κ ν : Type} [DecidableEq κ] : List (κ × ν) → κ → Option ν
  | [], _ => none
  | q :: l, k => match @BEq.beq κ instBEqOfDecidableEq k q.1 with
    | true => some q.2
    | false => getL l k

theorem lookup_of_mem : ∀ {l : List (κ × ν)}, (l.map Prod.fst).Nodup → ∀ {p : κ × ν}, p ∈ l → getL l p.1 = some p.2
  | [], _, _, h => by cases h
  | q :: l, hn, p, h => by
    rw [List.map_cons, List.nodup_cons] at hn
    rcases List.mem_cons.1 h with rfl | h
    · simp [getL]
    · have hne : p.1 ≠ q.1 := fun e => hn.1 (e ▸ List.mem_map_of_mem h)
      have : (p.1 == q.1) = false := by simpa using hne
      rw [getL, this]
      exact lookup_of_mem hn.2 h
theorem lookup_none : ∀ {l : List (κ × ν)} {k : κ}, (∀ p ∈ l, p.1 ≠ k) → getL l k = none
  | [], _, _ => rfl
  | q :: l, k, h => by
    have hne : (k == q.1) = false := by simpa using (h q (List.mem_cons_self ..)).symm
    rw [getL, hne]
    exact lookup_none fun p hp => h p (List.mem_cons_of_mem _ hp)
theorem lookup_some_mem : ∀ {l : List (κ × ν)} {k : κ} {v : ν}, getL l k = some v → (k, v) ∈ l
  | [], _, _, h => by cases h
  | q :: l, k, v, h => by
    rw [getL] at h
    split at h
    · rename_i he
      rw [beq_iff_eq] at he
      cases h
      subst he
      exact List.mem_cons_self ..
    · exact List.mem_cons_of_mem _ (lookup_some_mem h)

/-- a value is put in -/
def setL (l : List (κ × ν)) (k : κ) (v : ν) : List (κ × ν) := if (getL l k).isSome then l.map fun p => if p.1 = k then (k, v) else p else l ++ [(k, v)]
def delL (l : List (κ × ν)) (k : κ) : List (κ × ν) := l.filter fun p => decide (p.1 ≠ k)

theorem lookup_setL (l : List (κ × ν)) (k : κ) (v : ν) (k' : κ) : getL (setL l k v) k' = if k' = k then some v else getL l k' := by
  unfold setL
  split
  · rename_i hs
    by_cases e : k' = k
    · subst e
      rw [if_pos rfl]
      obtain ⟨u, hu⟩ := Option.isSome_iff_exists.1 hs
      clear hs
      induction l with
      | nil => cases hu
      | cons q l ih =>
        rw [getL] at hu
        rw [List.map_cons]
        by_cases hq : q.1 = k'
        · rw [if_pos hq]; simp [getL]
        · have : (k' == q.1) = false := by simpa using fun h => hq h.symm
          rw [this] at hu
          rw [if_neg hq, getL, this]
          exact ih hu
    · rw [if_neg e]
      clear hs
      induction l with
      | nil => rfl
      | cons q l ih =>
        rw [List.map_cons]
        by_cases hq : q.1 = k
        · have h1 : (k' == k) = false := by simpa using e
          have h2 : (k' == q.1) = false := by rw [hq]; exact h1
          rw [if_pos hq, getL, h1, getL, h2]
          exact ih
        · rw [if_neg hq, getL, getL]
          cases (k' == q.1)
          · exact ih
          · rfl
  · rename_i hs
    have hn : getL l k = none := by
      cases hl : getL l k with
      | none => rfl
      | some v => rw [hl] at hs; exact absurd rfl hs
    clear hs
    induction l with
    | nil =>
      by_cases e : k' = k
      · subst e; simp [getL]
      · have : (k' == k) = false := by simpa using e
        simp [getL, this, e]
    | cons q l ih =>
      rw [getL] at hn
      rw [List.cons_append, getL, getL]
      cases hq : (k == q.1) with
      | true => rw [hq] at hn; cases hn
      | false =>
        rw [hq] at hn
        cases h1 : (k' == q.1) with
        | true =>
          have : k' ≠ k := fun e => by
            subst e; rw [hq] at h1; cases h1
          rw [if_neg this]
        | false => exact ih hn

theorem lookup_delL (l : List (κ × ν)) (k k' : κ) : getL (delL l k) k' = if k' = k then none else getL l k' := by
  unfold delL
  induction l with
  | nil => simp [getL]
  | cons q l ih =>
    rw [List.filter_cons]
    by_cases hq : q.1 = k
    · rw [if_neg (by simp [hq]), ih]
      by_cases e : k' = k
      · rw [if_pos e, if_pos e]
      · have : (k' == q.1) = false := by rw [hq]; simpa using e
        rw [if_neg e, if_neg e, getL, this]
    · rw [if_pos (by simpa using hq), getL, getL]
      cases h1 : (k' == q.1) with
      | true =>
        have : k' ≠ k := fun e => hq (by rw [← e]; exact (beq_iff_eq.1 h1).symm)
        rw [if_neg this]
      | false => exact ih

theorem setL_keys (l : List (κ × ν)) (k : κ) (v : ν) : (setL l k v).map Prod.fst = if (getL l k).isSome then l.map Prod.fst else l.map Prod.fst ++ [k] := by
  unfold setL
  split
  · rw [List.map_map]
    apply List.map_congr_left
    intro p _
    simp only [Function.comp]
    split
    · rename_i h; exact h.symm
    · rfl
  · simp

theorem not_key {l : List (κ × ν)} {k : κ} (h : getL l k = none) : ∀ p ∈ l, p.1 ≠ k := by
  intro p hp e
  subst e
  induction l with
  | nil => cases hp
  | cons q l ih =>
    rw [getL] at h
    split at h
    · cases h
    · rename_i hq
      rcases List.mem_cons.1 hp with rfl | hp
      · simp at hq
      · exact ih hp h

/-! ### What is found -/

theorem run_getObj {b : Nat} {o : Obj} (h : w.heap[b]? = some o) (ho : ∀ c T fz, o ≠ .cells c T fz) : (getObj b).run P w = .ok o w := by
  cases o with
  | cells c T fz => exact absurd rfl (ho c T fz)
  | _ => simp [getObj, Sem.run, h]
theorem run_getMap {b : Nat} {es : Array MapEntry} {c : Nat} (h : w.heap[b]? = some (.map es c)) : (getObj b).run P w = .ok (.map es c) w := run_getObj h (by intro c T fz e; cases e)

theorem run_find {KT : TypeId} [hK : KeyC P KT κ kc kok] {es : List MapEntry} {clock : Nat} {l : List (κ × ν)} (h : MHolds kc vc kok es clock l) {k : κ} (hk : kok k) :
    (getL l k = none ∧ (Instr.findKey KT (kc k) es).run P w = .ok none w ∧ ∀ p ∈ l, p.1 ≠ k) ∨
    ∃ j p, l[j]? = some p ∧ p.1 = k ∧ getL l k = some p.2 ∧ (Instr.findKey KT (kc k) es).run P w = .ok (some (j, vc p.2)) w := by
  obtain ⟨lx, hlx⟩ := hK.of k hk
  rcases hK.law.find w hlx es (fun e he => by
    obtain ⟨p, hp, h1, h2⟩ := h.mem he
    rw [h1]; exact hK.of _ (h.ok p hp)) with ⟨h1, h2⟩ | ⟨j, e, h1, h2, h3⟩
  · have hne : ∀ p ∈ l, p.1 ≠ k := by
      intro p hp e
      obtain ⟨j, hj⟩ := List.mem_iff_getElem?.1 hp
      have hlt : j < es.length := by rw [h.len]; exact (List.getElem?_eq_some_iff.1 hj).1
      obtain ⟨p', hp', h3, h4⟩ := h.at (List.getElem?_eq_getElem hlt)
      rw [hj] at hp'
      cases hp'
      exact h2 _ (List.getElem_mem hlt) (by rw [h3, e])
    exact .inl ⟨lookup_none hne, h1, hne⟩
  · obtain ⟨p, hp, h4, h5⟩ := h.at h2
    have hpk : p.1 = k := hK.inj _ _ (by rw [← h4, h3])
    refine .inr ⟨j, p, hp, hpk, ?_, by rw [h1, h5]⟩
    rw [← hpk]
    exact lookup_of_mem h.nd (List.mem_of_getElem? hp)

/-- what is told of a key -/
def got (vc : ν → Value) (z : Value) : Option ν → Value
  | some v => vc v
  | none => z

omit [DecidableEq κ] in
theorem run_check {KT : TypeId} [hK : KeyC P KT κ kc kok] {k : κ} (hk : kok k) (em : Bool) : (Instr.checkKey em 10000 KT (kc k)).run P w = .ok () w := by
  obtain ⟨lx, hlx⟩ := hK.of k hk
  exact hK.law.check w em hlx

theorem s_lk {T KT VT : TypeId} {z : Value} [hT : MpT P T KT VT] [hK : KeyC P KT κ kc kok] [hz : ZV P VT z] {m : Nat} {l : List (κ × ν)} {k : κ} {ok : Bool} (h : MapR kc vc kok w m l) (hk : kok k)
    (hh : K (if ok then .tuple #[got vc z (getL l k), .bool (getL l k).isSome] else got vc z (getL l k)) w) : opS P (S.lk T (.map (some m)) (kc k) ok) K w := by
  obtain ⟨es, clock, hb, hh'⟩ := h
  unfold S.lk
  rw [opS_bind]
  unfold Instr.lookup
  rw [Sem.run_bind, run_underlying_of hT.und, Result.andThen_ok]
  simp only []
  rw [Sem.run_bind, run_getMap hb, Result.andThen_ok]
  simp only [pure_bind]
  rw [Sem.run_bind, run_check hk, Result.andThen_ok]
  rcases run_find (P := P) (w := w) (KT := KT) hh' hk with ⟨h1, h2, _⟩ | ⟨j, p, h1, h2, h3, h4⟩
  · rw [h1] at hh
    simp only [Sem.run_bind, h2, hz.zero w, Result.andThen_ok, Sem.run_pure]
    cases ok <;> exact hh
  · rw [h3] at hh
    simp only [Sem.run_bind, h4, Result.andThen_ok, Sem.run_pure]
    cases ok <;> exact hh

/-! ### What is put in -/

theorem modify_map (es : Array MapEntry) (j : Nat) (f : MapEntry → MapEntry) : (es.modify j f).toList = es.toList.mapIdx fun i e => if i = j then f e else e := by
  apply List.ext_getElem?
  intro i
  rw [List.getElem?_mapIdx, Array.getElem?_toList, Array.getElem?_toList, Array.getElem?_modify]
  by_cases h : j = i
  · subst h; simp
  · have : ¬ i = j := fun e => h e.symm
    simp [h, this]

theorem MHolds.put {es : Array MapEntry} {clock : Nat} {l : List (κ × ν)} (h : MHolds kc vc kok es.toList clock l) {k : κ} {v : ν} {j : Nat} {p : κ × ν} (hj : l[j]? = some p) (hp : p.1 = k) :
    MHolds kc vc kok (es.modify j fun e => { e with key := kc k, val := vc v }).toList clock (setL l k v) := by
  have hl : getL l k = some p.2 := by rw [← hp]; exact lookup_of_mem h.nd (List.mem_of_getElem? hj)
  have hjl := (List.getElem?_eq_some_iff.1 hj).1
  have hset : setL l k v = l.mapIdx fun i q => if i = j then (k, v) else q := by
    unfold setL
    rw [if_pos (by rw [hl]; rfl)]
    apply List.ext_getElem?
    intro i
    rw [List.getElem?_map, List.getElem?_mapIdx]
    cases hq : l[i]? with
    | none => rfl
    | some q =>
      simp only [Option.map_some, Option.some.injEq]
      by_cases e : i = j
      · subst e
        rw [hj] at hq; cases hq
        rw [if_pos hp, if_pos rfl]
      · rw [if_neg e, if_neg]
        intro hqk
        have hi := (List.getElem?_eq_some_iff.1 hq).1
        have h1 : (l.map Prod.fst)[i]'(by simpa using hi) = (l.map Prod.fst)[j]'(by simpa using hjl) := by
          have a1 := (List.getElem?_eq_some_iff.1 hq).2
          have a2 := (List.getElem?_eq_some_iff.1 hj).2
          simp only [List.getElem_map]
          rw [a1, a2, hqk, hp]
        exact e ((List.getElem_inj h.nd).1 h1)
  refine ⟨?_, ?_, ?_, ?_, ?_⟩
  · rw [modify_map, hset]
    apply List.ext_getElem?
    intro i
    have := congrArg (fun l => l[i]?) h.same
    simp only [List.getElem?_map, List.getElem?_mapIdx] at this ⊢
    cases h1 : es.toList[i]? <;> cases h2 : l[i]? <;> rw [h1, h2] at this
    · rfl
    · cases this
    · cases this
    · simp only [Option.map_some, Option.some.injEq] at this ⊢
      split
      · rfl
      · exact this
  · rw [setL_keys, if_pos (by rw [hl]; rfl)]; exact h.nd
  · intro q hq
    rw [hset, List.mem_mapIdx] at hq
    obtain ⟨i, hi, rfl⟩ := hq
    split
    · rw [← hp]; exact h.ok p (List.mem_of_getElem? hj)
    · exact h.ok _ (List.getElem_mem hi)
  · rw [modify_map]
    have : (es.toList.mapIdx fun i e => if i = j then ({ e with key := kc k, val := vc v } : MapEntry) else e).map (·.born) = es.toList.map (·.born) := by
      apply List.ext_getElem?
      intro i
      simp only [List.getElem?_map, List.getElem?_mapIdx]
      cases es.toList[i]? with
      | none => rfl
      | some e => simp only [Option.map_some, Option.some.injEq]; split <;> rfl
    rw [this]; exact h.born
  · intro e he
    rw [modify_map, List.mem_mapIdx] at he
    obtain ⟨i, hi, rfl⟩ := he
    have := h.lt _ (List.getElem_mem hi)
    split <;> exact this

theorem MHolds.add {es : Array MapEntry} {clock : Nat} {l : List (κ × ν)} (h : MHolds kc vc kok es.toList clock l) {k : κ} {v : ν} (hk : kok k) (hn : ∀ p ∈ l, p.1 ≠ k) (hl : getL l k = none) :
    MHolds kc vc kok (es.push { key := kc k, val := vc v, born := clock }).toList (clock + 1) (setL l k v) := by
  have hset : setL l k v = l ++ [(k, v)] := by unfold setL; rw [if_neg (by rw [hl]; simp)]
  rw [hset, Array.toList_push]
  refine ⟨by simp [h.same], ?_, ?_, ?_, ?_⟩
  · rw [List.map_append, List.nodup_append]
    refine ⟨h.nd, by simp, ?_⟩
    intro a ha b hb
    simp at hb
    subst hb
    obtain ⟨p, hp, rfl⟩ := List.mem_map.1 ha
    exact hn p hp
  · intro p hp
    rcases List.mem_append.1 hp with hp | hp
    · exact h.ok p hp
    · simp at hp; subst hp; exact hk
  · rw [List.map_append, List.nodup_append]
    refine ⟨h.born, by simp, ?_⟩
    intro a ha b hb
    simp at hb
    subst hb
    obtain ⟨e, he, rfl⟩ := List.mem_map.1 ha
    have := h.lt e he
    omega
  · intro e he
    rcases List.mem_append.1 he with he | he
    · have := h.lt e he; omega
    · simp at he; subst he; simp

theorem s_mu {T KT VT : TypeId} [hT : MpT P T KT VT] [hK : KeyC P KT κ kc kok] {m : Nat} {l : List (κ × ν)} {k : κ} {v : ν} (h : MapR kc vc kok w m l) (hk : kok k)
    (hh : ∀ w', MapR kc vc kok w' m (setL l k v) → Fr (fun b => b = m) w w' → K undef w') : opS P (S.mu T (.map (some m)) (kc k) (vc v)) K w := by
  obtain ⟨es, clock, hb, hh'⟩ := h
  have key : ∃ es' clock', (Instr.mapUpdate T (.map (some m)) (kc k) (vc v)).run P w = .ok () (upd w m (.map es' clock')) ∧ MHolds kc vc kok es'.toList clock' (setL l k v) := by
    unfold Instr.mapUpdate
    rw [Sem.run_bind, run_underlying_of hT.und, Result.andThen_ok]
    simp only []
    rw [Sem.run_bind, run_getMap hb, Result.andThen_ok]
    simp only []
    rw [Sem.run_bind, run_check hk, Result.andThen_ok]
    rcases run_find (P := P) (w := w) (KT := KT) hh' hk with ⟨h1, h2, h3⟩ | ⟨j, p, h1, h2, h3, h4⟩
    · rw [Sem.run_bind, h2, Result.andThen_ok]
      simp only []
      exact ⟨_, _, run_setObj hb (by intro c T fz e; cases e), hh'.add hk h3 h1⟩
    · rw [Sem.run_bind, h4, Result.andThen_ok]
      simp only []
      have hje : ∃ e, es[j]? = some e ∧ e.key = kc k := by
        have hlt : j < es.size := by
          have := (List.getElem?_eq_some_iff.1 h1).1
          rw [← hh'.len, Array.length_toList] at this; exact this
        refine ⟨es[j], Array.getElem?_eq_getElem hlt, ?_⟩
        obtain ⟨q, hq, hk1, _⟩ := hh'.at (j := j) (e := es[j]) (by rw [Array.getElem?_toList]; exact Array.getElem?_eq_getElem hlt)
        rw [h1] at hq; cases hq
        rw [hk1, h2]
      obtain ⟨e, he, hke⟩ := hje
      obtain ⟨lx, hlx⟩ := hK.of k hk
      have hst := hK.law.stays w hlx
      rw [he]
      simp only [Option.map_some, Option.getD_some, hke]
      rw [Sem.run_bind, hst, Result.andThen_ok]
      exact ⟨_, _, run_setObj hb (by intro c T fz e; cases e), hh'.put h1 h2⟩
  obtain ⟨es', clock', hr, hM⟩ := key
  unfold S.mu opS
  rw [Sem.run_bind, hr, Result.andThen_ok]
  exact hh _ ⟨es', clock', heap_upd_same (by rw [hb]; rfl), hM⟩ (Fr.upd' hb rfl _ rfl rfl)

/-! ### What is taken out -/

omit [DecidableEq κ] in
theorem map_eraseIdx' {α β : Type} (f : α → β) : ∀ (l : List α) (i : Nat), (l.eraseIdx i).map f = (l.map f).eraseIdx i
  | [], _ => rfl
  | _ :: _, 0 => rfl
  | a :: l, i + 1 => by simp [map_eraseIdx' f l i]

theorem MHolds.del {es : Array MapEntry} {clock : Nat} {l : List (κ × ν)} (h : MHolds kc vc kok es.toList clock l) {k : κ} {j : Nat} {p : κ × ν} (hj : l[j]? = some p) (hp : p.1 = k) :
    MHolds kc vc kok (es.eraseIdxIfInBounds j).toList clock (delL l k) := by
  have hjl := (List.getElem?_eq_some_iff.1 hj).1
  have hje : j < es.size := by rw [← Array.length_toList, h.len]; exact hjl
  have hd : delL l k = l.eraseIdx j := by
    unfold delL
    have hnd := h.nd
    clear h hje hjl
    induction l generalizing j with
    | nil => cases hj
    | cons q l ih =>
      rw [List.map_cons, List.nodup_cons] at hnd
      cases j with
      | zero =>
        cases hj
        rw [List.filter_cons, if_neg (by simp [hp]), List.eraseIdx_cons_zero]
        apply List.filter_eq_self.2
        intro a ha
        simp only [decide_eq_true_eq]
        intro e
        exact hnd.1 (by rw [hp, ← e]; exact List.mem_map_of_mem ha)
      | succ j =>
        rw [List.getElem?_cons_succ] at hj
        have hne : q.1 ≠ k := fun e => hnd.1 (by rw [e, ← hp]; exact List.mem_map_of_mem (List.mem_of_getElem? hj))
        rw [List.filter_cons, if_pos (by simpa using hne), List.eraseIdx_cons_succ, ih hj hnd.2]
  have he : (es.eraseIdxIfInBounds j).toList = es.toList.eraseIdx j := by
    unfold Array.eraseIdxIfInBounds
    rw [dif_pos hje, Array.toList_eraseIdx]
  rw [hd, he]
  have sub := List.eraseIdx_sublist l j
  have sub2 := List.eraseIdx_sublist es.toList j
  refine ⟨?_, ?_, fun q hq => h.ok q (sub.subset hq), ?_, fun e hm => h.lt e (sub2.subset hm)⟩
  · rw [map_eraseIdx', map_eraseIdx', h.same]
  · exact h.nd.sublist (sub.map _)
  · exact h.born.sublist (sub2.map _)

theorem delL_none {l : List (κ × ν)} {k : κ} (h : ∀ p ∈ l, p.1 ≠ k) : delL l k = l :=
  List.filter_eq_self.2 fun p hp => by simpa using h p hp

theorem s_del {T KT VT KT' ty : TypeId} [hT : MpT P T KT VT] [hK : KeyC P KT κ kc kok] {m : Nat} {l : List (κ × ν)} {k : κ} (h : MapR kc vc kok w m l) (hk : kok k)
    (hh : ∀ w', MapR kc vc kok w' m (delL l k) → Fr (fun b => b = m) w w' → K (.tuple #[]) w') : opS P (S.bi .delete #[T, KT'] ty [.map (some m), kc k]) K w := by
  obtain ⟨es, clock, hb, hh'⟩ := h
  have key : ∃ es' clock', (Builtin.delete_ #[T, KT'] ty #[.map (some m), kc k]).run P w = .ok (.tuple #[]) (upd w m (.map es' clock')) ∧ MHolds kc vc kok es'.toList clock' (delL l k) := by
    unfold Builtin.delete_
    simp only [List.getElem?_toArray, List.getElem?_cons_zero, List.getElem?_cons_succ]
    rw [Sem.run_bind, run_underlying_of hT.und, Result.andThen_ok]
    simp only []
    rw [Sem.run_bind, run_getMap hb, Result.andThen_ok]
    simp only []
    rw [Sem.run_bind, run_check hk, Result.andThen_ok]
    rcases run_find (P := P) (w := w) (KT := KT) hh' hk with ⟨h1, h2, h3⟩ | ⟨j, p, h1, h2, h3, h4⟩
    · rw [Sem.run_bind, h2, Result.andThen_ok]
      simp only []
      rw [Sem.run_bind, run_setObj hb (by intro c T fz e; cases e), Result.andThen_ok]
      exact ⟨_, _, rfl, by rw [delL_none h3]; exact hh'⟩
    · rw [Sem.run_bind, h4, Result.andThen_ok]
      simp only []
      rw [Sem.run_bind, run_setObj hb (by intro c T fz e; cases e), Result.andThen_ok]
      exact ⟨_, _, rfl, hh'.del h1 h2⟩
  obtain ⟨es', clock', hr, hM⟩ := key
  show opS P (do pure (Next.value (← Builtin.delete_ #[T, KT'] ty #[.map (some m), kc k]))) K w
  rw [opS_bind, hr]
  exact hh _ ⟨es', clock', heap_upd_same (by rw [hb]; rfl), hM⟩ (Fr.upd' hb rfl _ rfl rfl)

omit [DecidableEq κ] in
theorem s_mkm {T : TypeId} (hh : ∀ w', MapR kc vc kok w' w.heap.size ([] : List (κ × ν)) → Fr none_ w w' → w'.heap.size = w.heap.size + 1 → K (.map (some w.heap.size)) w') : opS P (S.mkm T none) K w := by
  have : (Instr.makeMap T none).run P w = .ok (.map (some w.heap.size)) (w.alloc (.map #[] 0)) := rfl
  unfold S.mkm
  rw [opS_bind, this]
  exact hh _ ⟨#[], 0, heap_alloc_new _ _, rfl, List.nodup_nil, by simp, List.nodup_nil, by simp⟩ (Fr.alloc _ _ rfl) (size_alloc _ _)

/-! ### What is gone through -/

/-- an iterator over a map: what is left -/
def IterR (kc : κ → Value) (vc : ν → Value) (kok : κ → Prop) (w : World) (it m : Nat) (l todo : List (κ × ν)) : Prop :=
  it ≠ m ∧ ∃ es clock seen, w.heap[m]? = some (.map es clock) ∧ MHolds kc vc kok es.toList clock l ∧ w.heap[it]? = some (.mapIter (some m) clock seen clock) ∧
    (leftOf es seen).toList.map (fun e => (e.key, e.val)) = todo.map fun p => (kc p.1, vc p.2)

omit [DecidableEq κ] in
theorem IterR.map {it m : Nat} {l todo : List (κ × ν)} (h : IterR kc vc kok w it m l todo) : MapR kc vc kok w m l := by
  obtain ⟨_, es, clock, seen, h1, h2, _⟩ := h
  exact ⟨es, clock, h1, h2⟩
omit [DecidableEq κ] in
theorem IterR.fr {fp : Nat → Prop} {w w' : World} {it m : Nat} {l todo : List (κ × ν)} (h : IterR kc vc kok w it m l todo) (hf : Fr fp w w') (h1 : ¬ fp it) (h2 : ¬ fp m) : IterR kc vc kok w' it m l todo := by
  obtain ⟨hne, es, clock, seen, a1, a2, a3, a4⟩ := h
  exact ⟨hne, es, clock, seen, hf.heap a1 h2, a2, hf.heap a3 h1, a4⟩
omit [DecidableEq κ] in
theorem IterR.ne {it m : Nat} {l todo : List (κ × ν)} (h : IterR kc vc kok w it m l todo) : it ≠ m := h.1
omit [DecidableEq κ] in
theorem IterR.lt {it m : Nat} {l todo : List (κ × ν)} (h : IterR kc vc kok w it m l todo) : it < w.heap.size := by
  obtain ⟨hne, es, clock, seen, a1, a2, a3, a4⟩ := h
  exact lt_of_heap a3

omit [DecidableEq κ] in
theorem s_rng {T KT VT : TypeId} [hT : MpT P T KT VT] {m : Nat} {l : List (κ × ν)} (h : MapR kc vc kok w m l)
    (hh : ∀ w', IterR kc vc kok w' w.heap.size m l l → Fr none_ w w' → w'.heap.size = w.heap.size + 1 → K (pt w.heap.size 0) w') : opS P (S.rng T (.map (some m))) K w := by
  obtain ⟨es, clock, hb, hM⟩ := h
  have hr : (Instr.range T (.map (some m))).run P w = .ok (pt w.heap.size 0) (w.alloc (.mapIter (some m) clock #[] clock)) := by
    unfold Instr.range
    rw [Sem.run_bind, run_underlying_of hT.und, Result.andThen_ok]
    simp only []
    rw [Sem.run_bind, run_getMap hb, Result.andThen_ok]
    rfl
  unfold S.rng
  rw [opS_bind, hr]
  have hlt := lt_of_heap hb
  refine hh _ ⟨by omega, es, clock, #[], ?_, hM, heap_alloc_new _ _, ?_⟩ (Fr.alloc _ _ rfl) (size_alloc _ _)
  · rw [heap_alloc_lt hlt]; exact hb
  · rw [← hM.same]
    have : leftOf es #[] = es := by
      unfold leftOf
      simp
    rw [this]

omit [DecidableEq κ] in
theorem filter_seen {l : List MapEntry} {seen : Array Nat} {e : MapEntry} (hn : (l.map (·.born)).Nodup) : ∀ {i : Nat}, (l.filter fun x => !seen.contains x.born)[i]? = some e →
    (l.filter fun x => !(seen.push e.born).contains x.born) = (l.filter fun x => !seen.contains x.born).eraseIdx i := by
  induction l with
  | nil => intro i h; cases h
  | cons q l ih =>
    intro i h
    rw [List.map_cons, List.nodup_cons] at hn
    by_cases hq : q.born ∈ seen
    · rw [List.filter_cons, if_neg (by simp [hq])] at h
      rw [List.filter_cons, if_neg (by simp [hq]), List.filter_cons, if_neg (by simp [hq])]
      exact ih hn.2 h
    · rw [List.filter_cons, if_pos (by simp [hq])] at h
      cases i with
      | zero =>
        cases h
        rw [List.filter_cons, if_neg (by simp), List.filter_cons, if_pos (by simp [hq]), List.eraseIdx_cons_zero]
        apply List.filter_congr
        intro x hx
        have : x.born ≠ e.born := fun h2 => hn.1 (by rw [← h2]; exact List.mem_map_of_mem hx)
        simp [this]
      | succ i =>
        rw [List.getElem?_cons_succ] at h
        have hmem : e ∈ l := (List.mem_filter.1 (List.mem_of_getElem? h)).1
        have hne : q.born ≠ e.born := fun he => hn.1 (by rw [he]; exact List.mem_map_of_mem hmem)
        rw [List.filter_cons, if_pos (by simp [hq, hne]), ih hn.2 h, List.filter_cons, if_pos (by simp [hq]), List.eraseIdx_cons_succ]

omit [DecidableEq κ] in
/-- a step: nothing is left, or one that is left comes out -/
theorem s_nxt {ty it m : Nat} {l todo : List (κ × ν)} (h : IterR kc vc kok w it m l todo) (h0 : todo = [] → K (.tuple #[.bool false]) w)
    (h1 : ∀ i p w', todo[i]? = some p → IterR kc vc kok w' it m l (todo.eraseIdx i) → Fr (fun b => b = it) w w' → w'.heap.size = w.heap.size →
      (∀ w2, Fr (fun b => b ≠ it ∧ b ≠ m) w' w2 → (Instr.entry (pt it 0)).run P w2 = .ok (.tuple #[kc p.1, vc p.2]) w2) → K (.tuple #[.bool true, kc p.1, vc p.2]) w') :
    opS P (S.nxt (pt it 0) false ty) K w := by
  obtain ⟨hne, es, clock, seen, a1, a2, a3, a4⟩ := h
  unfold S.nxt
  rw [opS_bind]
  rcases run_next_at (P := P) w ty it m clock clock seen es clock a3 a1 (fun x hx => a2.lt x hx) (Nat.le_refl _) with ⟨g1, g2⟩ | ⟨e, he, w1, hw1, hr⟩
  · rw [show (pt it 0) = .pointer (some ⟨it, 0, none⟩) from rfl, g2]
    refine h0 ?_
    have : (leftOf es seen).toList = [] := List.eq_nil_of_length_eq_zero (by rw [Array.length_toList]; exact g1)
    rw [this] at a4
    exact List.map_eq_nil_iff.1 a4.symm
  · rw [show (pt it 0) = .pointer (some ⟨it, 0, none⟩) from rfl, hr]
    obtain ⟨i, hi⟩ := List.mem_iff_getElem?.1 he
    have hp : ∃ p, todo[i]? = some p ∧ e.key = kc p.1 ∧ e.val = vc p.2 := by
      have := congrArg (fun l => l[i]?) a4
      simp only [List.getElem?_map, hi, Option.map_some] at this
      cases hl : todo[i]? with
      | none => rw [hl] at this; cases this
      | some p =>
        rw [hl, Option.map_some, Option.some.injEq, Prod.mk.injEq] at this
        exact ⟨p, rfl, this.1, this.2⟩
    obtain ⟨p, hp, hk, hv⟩ := hp
    have hheap : w1.heap = w.heap := by rcases hw1 with rfl | rfl <;> rfl
    have hset : ChangeMaps.setBlock w1 it (.mapIter (some m) clock (seen.push e.born) clock) = upd w1 it (.mapIter (some m) clock (seen.push e.born) clock) := rfl
    rw [hset, hk, hv]
    have b1 : (upd w1 it (.mapIter (some m) clock (seen.push e.born) clock)).heap[m]? = some (.map es clock) := by rw [heap_upd_ne hne, hheap]; exact a1
    have b3 : (upd w1 it (.mapIter (some m) clock (seen.push e.born) clock)).heap[it]? = some (.mapIter (some m) clock (seen.push e.born) clock) := heap_upd_same (by rw [hheap, a3]; rfl)
    have hem : e ∈ es.toList := by
      unfold leftOf at he
      rw [Array.toList_filter] at he
      exact (List.mem_filter.1 he).1
    refine h1 i p _ hp ⟨hne, es, clock, seen.push e.born, b1, a2, b3, ?_⟩ ?_ ?_ ?_
    · have : (leftOf es (seen.push e.born)).toList = (leftOf es seen).toList.eraseIdx i := by
        unfold leftOf at hi ⊢
        rw [Array.toList_filter] at hi ⊢
        rw [Array.toList_filter]
        exact filter_seen a2.born hi
      rw [this, map_eraseIdx', map_eraseIdx', a4]
    · have hF : Fr (fun b => b = it) w w1 := by
        rcases hw1 with rfl | rfl
        · exact Fr.refl _ _
        · exact Fr.drew _
      exact hF.trans (Fr.upd' (x := .mapIter (some m) clock seen clock) (by rw [hheap]; exact a3) rfl _ rfl rfl)
    · rw [size_upd, hheap]
    · intro w2 hF
      have := run_entry_at (P := P) w2 it m clock seen es clock e (hF.heap b3 (fun h => h.1 rfl)) (hF.heap b1 (fun h => h.2 rfl)) hem a2.born
      rw [← hk, ← hv]
      exact this

theorem s_ent {it : Nat} {v : Value} (h : (Instr.entry (pt it 0)).run P w = .ok v w) (hh : K v w) : opS P (S.ent (pt it 0)) K w := by
  unfold S.ent
  rw [opS_bind, h]
  exact hh

end
end Go.Gx
end

section
/- Bytes, texts of bytes, frames. -/
namespace Go.Gx
open Go
variable {P : Program} {K : Value → World → Prop} {w : World}

/-! ### Bytes -/

def cell1 (n : Int) : List Value := [u8 n]
/-- bytes that can be read -/
def ByR (w : World) (v : Value) (bs : List Int) : Prop := RdE 1 w v (bs.map cell1) ∧ ∀ b ∈ bs, isB b
theorem ByR.fr {fp : Nat → Prop} {w w' : World} {v : Value} {bs : List Int} (h : ByR w v bs) (hf : Fr fp w w') (hn : ∀ b, blkS v = some b → ¬ fp b) : ByR w' v bs := ⟨h.1.fr hf hn, h.2⟩
theorem ByR.form {v : Value} {bs : List Int} (h : ByR w v bs) : ∃ a c, v = .slice a bs.length c := by
  obtain ⟨a, c, rfl⟩ := h.1.form
  exact ⟨a, c, by simp⟩
theorem ByR.nil (w : World) (a : Option Addr) (c : Nat) : ByR w (.slice a 0 c) [] := ⟨⟨.inl ⟨⟨_, _, rfl⟩, rfl, rfl⟩, by simp⟩, by simp⟩
theorem flat_cell1 (bs : List Int) : (bs.map cell1).flatten = bs.map u8 := by
  induction bs with
  | nil => rfl
  | cons b bs ih => simp [cell1, ih]
theorem flat_cell1_one (bs : List Int) : (bs.map cell1).flatten.all S.oneCell = true := by
  rw [flat_cell1, List.all_map, List.all_eq_true]
  intro x _
  rfl

/-- bytes as_ a text -/
def strOf (bs : List Int) : ByteArray := ⟨(bs.map fun n => UInt8.ofNat n.toNat).toArray⟩

theorem byte_inj {a b : Int} (ha : isB a) (hb : isB b) (h : UInt8.ofNat a.toNat = UInt8.ofNat b.toNat) : a = b := by
  have := congrArg UInt8.toNat h
  simp only [UInt8.toNat_ofNat'] at this
  unfold isB at ha hb
  omega

theorem strOf_inj : ∀ {a b : List Int}, (∀ x ∈ a, isB x) → (∀ x ∈ b, isB x) → ((strOf a).data.toList = (strOf b).data.toList ↔ a = b)
  | [], [], _, _ => by simp [strOf]
  | [], b :: bs, _, _ => by simp [strOf]
  | a :: as_, [], _, _ => by simp [strOf]
  | a :: as_, b :: bs, ha, hb => by
    have ih := @strOf_inj as_ bs (fun x hx => ha x (List.mem_cons_of_mem _ hx)) (fun x hx => hb x (List.mem_cons_of_mem _ hx))
    simp only [strOf] at ih ⊢
    simp only [List.map_cons, List.cons.injEq]
    constructor
    · rintro ⟨h1, h2⟩
      exact ⟨byte_inj (ha a (List.mem_cons_self ..)) (hb b (List.mem_cons_self ..)) h1, ih.1 h2⟩
    · rintro ⟨rfl, rfl⟩
      exact ⟨rfl, rfl⟩

class StrT (P : Program) (T : TypeId) : Prop where
  und : P.underlying T = some .string
class ByT (P : Program) (T : TypeId) : Prop where
  und : ∃ e, P.underlying T = some (.slice e) ∧ P.underlying e = some (.int .u8)

theorem push_strOf (bs cs : List Int) : cs.foldl (fun (s : ByteArray) n => s.push (UInt8.ofNat n.toNat)) (strOf bs) = strOf (bs ++ cs) := by
  induction cs generalizing bs with
  | nil => simp
  | cons c cs ih =>
    rw [List.foldl_cons]
    have : (strOf bs).push (UInt8.ofNat c.toNat) = strOf (bs ++ [c]) := by
      simp [strOf, ByteArray.push]
    rw [this, ih]
    simp

theorem run_b2s {v : Value} {bs : List Int} (h : ByR w v bs) : (Conv.bytesToString v).run P w = .ok (.string (strOf bs)) w := by
  obtain ⟨a, c, rfl⟩ := h.form
  have hf : (Builtin.firstCells 1 bs.length (.slice a bs.length c)).run P w = .ok (bs.map u8).toArray w := by
    have h1 := h.1.1
    rw [flat_cell1, List.length_map] at h1
    exact run_firstCells h1
  cases a with
  | none =>
    have hn : bs = [] := by
      rcases h.1.1 with ⟨_, h2, _⟩ | ⟨b, o, c', cs, T, fz, hv, _⟩
      · exact List.map_eq_nil_iff.1 (List.eq_nil_of_length_eq_zero h2)
      · cases hv
    subst hn
    rfl
  | some a =>
    unfold Conv.bytesToString
    have hl : (loadCells a bs.length).run P w = .ok (bs.map u8).toArray w := by
      have e : Builtin.firstCells 1 bs.length (.slice (some a) bs.length c) = loadCells a (bs.length * 1) := rfl
      rw [e, Nat.mul_one] at hf
      exact hf
    simp only []
    rw [Sem.run_bind, hl, Result.andThen_ok]
    have key : ∀ (F : Value → ByteArray → Sem (ForInStep ByteArray)), (∀ n r, F (u8 n) r = pure (ForInStep.yield (r.push (UInt8.ofNat n.toNat)))) →
        ∀ (cs ds : List Int), (forIn (cs.map u8) (strOf ds) F).run P w = .ok (strOf (ds ++ cs)) w := by
      intro F hF cs
      induction cs with
      | nil => intro ds; simp
      | cons c cs ih =>
        intro ds
        rw [List.map_cons, List.forIn_cons, hF]
        simp only [pure_bind]
        have : (strOf ds).push (UInt8.ofNat c.toNat) = strOf (ds ++ [c]) := by simp [strOf, ByteArray.push]
        rw [this]
        have := ih (ds ++ [c])
        rw [List.append_assoc] at this
        exact this
    rw [← Array.forIn_toList, Sem.run_bind]
    have e0 : ByteArray.empty = strOf [] := rfl
    rw [e0, key _ (fun n r => rfl) bs []]
    rfl

theorem s_b2s {T S' : TypeId} [hT : ByT P T] [hS : StrT P S'] {v : Value} {bs : List Int} (h : ByR w v bs) : opS P (S.conv T S' v) K w = K (.string (strOf bs)) w := by
  unfold S.conv
  rw [opS_bind]
  obtain ⟨e, h1, h2⟩ := hT.und
  have hr : (convert T S' v).run P w = .ok (.string (strOf bs)) w := by
    have hb := run_b2s (P := P) h
    obtain ⟨a, c, rfl⟩ := h.form
    unfold convert
    rw [Sem.run_bind, run_underlying_of h1, Result.andThen_ok, Sem.run_bind, run_underlying_of hS.und, Result.andThen_ok]
    simp only []
    rw [Sem.run_bind, run_underlying_of h2, Result.andThen_ok]
    exact hb
  rw [hr]

theorem s_eqS {a b : List Int} (ha : ∀ x ∈ a, isB x) (hb : ∀ x ∈ b, isB x) : opS P (S.binS .eql (.string (strOf a)) (.string (strOf b))) K w = K (.bool (decide (a = b))) w := by
  unfold S.binS
  simp only []
  rw [opS_bind]
  have : (Op.stringOp .eql (strOf a) (strOf b)).run P w = .ok (.bool (decide (a = b))) w := by
    unfold Op.stringOp
    simp only [Sem.run_pure]
    congr 2
    have e : ∀ x : List Int, (strOf x).toList = (strOf x).data.toList := fun x => by
      exact ByteArray.toList_eq _
    rw [e, e]
    have := strOf_inj ha hb
    by_cases h : a = b
    · subst h; simp
    · rw [decide_eq_false h]
      simpa using fun h2 => h (this.1 h2)
  rw [this]

/-! ### Frames -/

@[ext] structure Frm where
  dst : Mac
  src : Mac
  tagged : Bool
  vlan : Int
  prio : Int
  type : Int
  body : Value

def Frm.cells (f : Frm) : List Value :=
  [u8 f.dst.b0, u8 f.dst.b1, u8 f.dst.b2, u8 f.dst.b3, u8 f.dst.b4, u8 f.dst.b5, u8 f.src.b0, u8 f.src.b1, u8 f.src.b2, u8 f.src.b3, u8 f.src.b4, u8 f.src.b5, .bool f.tagged, i64 f.vlan, i64 f.prio, i64 f.type, f.body]
/-- a frame's numbers are of their kinds -/
def Frm.ok (f : Frm) : Prop := f.dst.ok ∧ f.src.ok ∧ isI f.vlan ∧ isI f.prio ∧ isI f.type
/-- a frame that can be read, and the bytes of its body -/
def FrmR (w : World) (f : Frm) (bs : List Int) : Prop := f.ok ∧ ByR w f.body bs
theorem FrmR.fr {fp : Nat → Prop} {w w' : World} {f : Frm} {bs : List Int} (h : FrmR w f bs) (hf : Fr fp w w') (hn : ∀ b, blkS f.body = some b → ¬ fp b) : FrmR w' f bs := ⟨h.1, h.2.fr hf hn⟩
theorem FrmR.fr0 {w w' : World} {f : Frm} {bs : List Int} (h : FrmR w f bs) (hf : Fr none_ w w') : FrmR w' f bs := h.fr hf fun _ _ h => h

def zMac : Mac := ⟨0, 0, 0, 0, 0, 0⟩
def zFrm : Frm := ⟨zMac, zMac, false, 0, 0, 0, .slice none 0 0⟩
theorem zFrmR (w : World) : FrmR w zFrm [] := ⟨⟨by simp [zFrm, zMac, Mac.ok, isB], by simp [zFrm, zMac, Mac.ok, isB], isI_iff.2 (by simp [zFrm]), isI_iff.2 (by simp [zFrm]), isI_iff.2 (by simp [zFrm])⟩, ByR.nil _ _ _⟩

/-- may it be? n: how long its body is -/
def Frm.right (f : Frm) (n : Nat) : Bool :=
  decide (1536 ≤ f.type ∧ f.type ≤ 65535 ∧ f.type ≠ 33024 ∧ n ≤ 1500) && (if f.tagged then decide (0 ≤ f.vlan ∧ f.vlan ≤ 4094 ∧ 0 ≤ f.prio ∧ f.prio ≤ 7) else decide (f.vlan = 0 ∧ f.prio = 0))

def Frm.tag (f : Frm) (v p : Int) : Frm := { f with tagged := true, vlan := v, prio := p }
def Frm.untag (f : Frm) : Frm := { f with tagged := false, vlan := 0, prio := 0 }

theorem Frm.len (f : Frm) : f.cells.length = 17 := id rfl
theorem Frm.g12 (f : Frm) : f.cells[12]? = some (.bool f.tagged) := id rfl
theorem Frm.g13 (f : Frm) : f.cells[13]? = some (i64 f.vlan) := id rfl
theorem Frm.g14 (f : Frm) : f.cells[14]? = some (i64 f.prio) := id rfl
theorem Frm.g15 (f : Frm) : f.cells[15]? = some (i64 f.type) := id rfl
theorem Frm.g16 (f : Frm) : f.cells[16]? = some f.body := id rfl
theorem Frm.d0 (f : Frm) : (f.cells.drop 0).take 6 = f.dst.cells := id rfl
theorem Frm.d6 (f : Frm) : (f.cells.drop 6).take 6 = f.src.cells := id rfl
theorem Frm.dw (f : Frm) : (f.cells.drop 0).take 17 = f.cells := id rfl
theorem Frm.s12 (f : Frm) (b : Bool) : splice f.cells 12 [.bool b] = { f with tagged := b }.cells := id rfl
theorem Frm.s13 (f : Frm) (n : Int) : splice f.cells 13 [i64 n] = { f with vlan := n }.cells := id rfl
theorem Frm.s14 (f : Frm) (n : Int) : splice f.cells 14 [i64 n] = { f with prio := n }.cells := id rfl
theorem Frm.s15 (f : Frm) (n : Int) : splice f.cells 15 [i64 n] = { f with type := n }.cells := id rfl
theorem Frm.s16 (f : Frm) (v : Value) : splice f.cells 16 [v] = { f with body := v }.cells := id rfl
theorem Frm.s0 (f : Frm) (m : Mac) : splice f.cells 0 m.cells = { f with dst := m }.cells := id rfl
theorem Frm.s6 (f : Frm) (m : Mac) : splice f.cells 6 m.cells = { f with src := m }.cells := id rfl
theorem Frm.sw (f g : Frm) : splice f.cells 0 g.cells = g.cells := id rfl
theorem Frm.one (f : Frm) (h : S.oneCell f.body = true) : f.cells.all S.oneCell = true := by
  simp only [Frm.cells, List.all_cons, one_int, one_bool, h, List.all_nil, Bool.and_self]
theorem Mac.one (m : Mac) : m.cells.all S.oneCell = true := id rfl
theorem Mac.len (m : Mac) : m.cells.length = 6 := id rfl
theorem ByR.one {v : Value} {bs : List Int} (h : ByR w v bs) : S.oneCell v = true := h.1.one
theorem FrmR.one {f : Frm} {bs : List Int} (h : FrmR w f bs) : f.cells.all S.oneCell = true := Frm.one _ h.2.one
attribute [push_cast] Frm.len Frm.g12 Frm.g13 Frm.g14 Frm.g15 Frm.g16 Frm.d0 Frm.d6 Frm.dw Frm.s12 Frm.s13 Frm.s14 Frm.s15 Frm.s16 Frm.s0 Frm.s6 Frm.sw Mac.one Mac.len

/-- what comes behind is small: it may stand in each way -/
theorem jn_1 {k : Value → World → Prop} {m : (Value → World → Prop) → World → Prop} : jnJ 1 k m = m k := jnJ_eq 1 k m
theorem jn_0 {k : World → Prop} {m : (World → Prop) → World → Prop} : jnJ 0 k m = m k := jnJ_eq 0 k m

end Go.Gx
end

section
/- What is asked of the program as a whole. -/
set_option maxRecDepth 100000
namespace Go.Gx.S
open Go Go.Gx Go.Proofs

theorem laidOut : laidOutB Tryz.prog = true := by kernel_rfl
theorem ctInt : Tryz.prog.cellsOf 3 = 1 := by kernel_rfl
theorem ctBool : Tryz.prog.cellsOf 4 = 1 := by kernel_rfl
theorem uInt : Tryz.prog.underlying 3 = some (.int .i64) := Tryz.underlying3
theorem uBool : Tryz.prog.underlying 4 = some .bool := Tryz.underlying4
theorem own : ownKnob Tryz.prog.godebug = none := by kernel_rfl

end Go.Gx.S
end

section
/- Addresses, bytes and texts among the program's types. -/
set_option maxRecDepth 100000
namespace Go.Gx.S
open Go Go.Gx Go.Proofs

theorem ctByte : Tryz.prog.cellsOf 5 = 1 := by kernel_rfl
theorem ctMac : Tryz.prog.cellsOf 23 = 6 := by kernel_rfl
instance : MacT Tryz.prog 23 5 := ⟨Tryz.underlying23, Tryz.underlying5, ctByte, ctMac⟩
instance : StrT Tryz.prog 9 := ⟨Tryz.underlying9⟩
instance : ByT Tryz.prog 127 := ⟨⟨_, Tryz.underlying127, Tryz.underlying5⟩⟩

end Go.Gx.S
end

section
/- Tables of VLANs: what they come to, in plain Lean. -/
namespace Go.Gx
open Go

/-- members, in the order in which they came, and the native VLANs of the ports -/
structure VT where
  tab : List ((Int × Int) × Bool)
  nat : List Int

namespace VT
def port (t : VT) (p : Int) : Prop := 0 ≤ p ∧ p < t.nat.length
instance (t : VT) (p : Int) : Decidable (t.port p) := by unfold port; infer_instance
def right (t : VT) (v p : Int) : Prop := 1 ≤ v ∧ v ≤ 4094 ∧ t.port p
instance (t : VT) (v p : Int) : Decidable (t.right v p) := by unfold right; infer_instance
structure ok (t : VT) : Prop where
  len : t.nat.length ≤ 64
  key : ∀ x ∈ t.tab, t.right x.1.1 x.1.2
  nat : ∀ n ∈ t.nat, 0 ≤ n ∧ n ≤ 4094
  nd : (t.tab.map Prod.fst).Nodup

def new (n : Nat) : VT := ⟨[], List.replicate n 0⟩
def add (t : VT) (v p : Int) (b : Bool) : VT × Int := if t.right v p then ({ t with tab := setL t.tab (v, p) b }, 0) else (t, 1)
def remove (t : VT) (v p : Int) : VT × Int := if t.right v p then (if (getL t.tab (v, p)).isSome then ({ t with tab := delL t.tab (v, p) }, 0) else (t, 4)) else (t, 1)
def native (t : VT) (p v : Int) : VT × Int := if t.port p ∧ 0 ≤ v ∧ v ≤ 4094 then ({ t with nat := t.nat.set p.toNat v }, 0) else (t, 1)
def is (t : VT) (v p : Int) : Bool := (getL t.tab (v, p)).isSome
def members (t : VT) (v : Int) : List Int := ((List.range t.nat.length).map Int.ofNat).filter fun p => t.is v p
def inn (t : VT) (p : Int) (f : Frm) (n : Nat) : Int × Int :=
  if t.port p ∧ f.right n = true then
    let v := if f.vlan = 0 then t.nat.getD p.toNat 0 else f.vlan
    if t.is v p then (v, 0) else (0, 4)
  else (0, 1)
def out (t : VT) (v p : Int) (f : Frm) (n : Nat) : Frm × Int :=
  if t.right v p ∧ f.right n = true then
    match getL t.tab (v, p) with
    | none => (zFrm, 4)
    | some true => (f.tag v f.prio, 0)
    | some false => (f.untag, 0)
  else (zFrm, 1)

theorem ok_new {n : Nat} (h : n ≤ 64) : (new n).ok := ⟨by simpa [new] using h, by simp [new], by simp [new], by simp [new]⟩

theorem setL_mem {κ ν : Type} [DecidableEq κ] {l : List (κ × ν)} {k : κ} {v : ν} {x : κ × ν} (h : x ∈ setL l k v) : x = (k, v) ∨ x ∈ l := by
  unfold setL at h
  split at h
  · rw [List.mem_map] at h
    obtain ⟨p, hp, rfl⟩ := h
    split
    · exact .inl rfl
    · exact .inr hp
  · rcases List.mem_append.1 h with h | h
    · exact .inr h
    · simp at h; exact .inl h

theorem setL_nodup {κ ν : Type} [DecidableEq κ] {l : List (κ × ν)} {k : κ} {v : ν} (h : (l.map Prod.fst).Nodup) : ((setL l k v).map Prod.fst).Nodup := by
  rw [setL_keys]
  split
  · exact h
  · rename_i hn
    rw [List.nodup_append]
    refine ⟨h, by simp, ?_⟩
    intro a ha b hb
    simp at hb
    subst hb
    obtain ⟨p, hp, rfl⟩ := List.mem_map.1 ha
    refine not_key ?_ p hp
    cases hl : getL l b with
    | none => rfl
    | some v => rw [hl] at hn; exact absurd rfl hn

theorem delL_sub {κ ν : Type} [DecidableEq κ] (l : List (κ × ν)) (k : κ) : (delL l k).Sublist l := List.filter_sublist

theorem ok_add {t : VT} (h : t.ok) (v p : Int) (b : Bool) : (t.add v p b).1.ok := by
  unfold add
  split
  · rename_i hr
    refine ⟨h.len, fun x hx => ?_, h.nat, setL_nodup h.nd⟩
    rcases setL_mem hx with rfl | hx
    · exact hr
    · exact h.key x hx
  · exact h
theorem ok_remove {t : VT} (h : t.ok) (v p : Int) : (t.remove v p).1.ok := by
  unfold remove
  split
  · split
    · exact ⟨h.len, fun x hx => h.key x ((delL_sub _ _).subset hx), h.nat, h.nd.sublist ((delL_sub _ _).map _)⟩
    · exact h
  · exact h
theorem ok_native {t : VT} (h : t.ok) (p v : Int) : (t.native p v).1.ok := by
  unfold native
  split
  · rename_i hr
    refine ⟨by simpa using h.len, fun x hx => ?_, fun n hn => ?_, h.nd⟩
    · have := h.key x hx
      unfold right port at this ⊢
      simpa using this
    · rcases List.mem_or_eq_of_mem_set hn with hn | rfl
      · exact h.nat n hn
      · exact ⟨hr.2.1, hr.2.2⟩
  · exact h
theorem is_right {t : VT} (h : t.ok) {v p : Int} (hi : t.is v p = true) : t.right v p := by
  obtain ⟨b, hb⟩ := Option.isSome_iff_exists.1 hi
  exact h.key _ (lookup_some_mem hb)

theorem tag_right {f : Frm} {n : Nat} (h : f.right n = true) {v : Int} (h1 : 1 ≤ v) (h2 : v ≤ 4094) : (f.tag v f.prio).right n = true := by
  unfold Frm.right Frm.tag at *
  simp only [Bool.and_eq_true, decide_eq_true_eq, if_true] at h ⊢
  obtain ⟨h3, h4⟩ := h
  refine ⟨h3, ?_⟩
  split at h4 <;> simp only [decide_eq_true_eq] at h4 <;> omega

/-! ### Where a key stands -/

theorem get_at {κ ν : Type} [DecidableEq κ] {l : List (κ × ν)} {k : κ} {v : ν} (h : getL l k = some v) : ∃ j : Nat, l[j]? = some (k, v) := by
  obtain ⟨j, hj⟩ := List.mem_iff_getElem?.1 (lookup_some_mem h)
  exact ⟨j, hj⟩

theorem nodup_at {κ ν : Type} {l : List (κ × ν)} (hn : (l.map Prod.fst).Nodup) {i j : Nat} {p q : κ × ν} (hi : l[i]? = some p) (hj : l[j]? = some q) (h : p.1 = q.1) : i = j := by
  have hi' := (List.getElem?_eq_some_iff.1 hi)
  have hj' := (List.getElem?_eq_some_iff.1 hj)
  obtain ⟨h1, h2⟩ := hi'
  obtain ⟨h3, h4⟩ := hj'
  have : (l.map Prod.fst)[i]'(by simpa using h1) = (l.map Prod.fst)[j]'(by simpa using h3) := by
    simp only [List.getElem_map]
    rw [h2, h4, h]
  exact (List.getElem_inj hn).1 this

theorem setL_at {κ ν : Type} [DecidableEq κ] {l : List (κ × ν)} (hn : (l.map Prod.fst).Nodup) {j : Nat} {k : κ} {u : ν} (hj : l[j]? = some (k, u)) (v : ν) : setL l k v = l.set j (k, v) := by
  unfold setL
  rw [if_pos (by rw [lookup_of_mem hn (List.mem_of_getElem? hj)]; rfl)]
  apply List.ext_getElem?
  intro i
  rw [List.getElem?_map, List.getElem?_set]
  have hlt := (List.getElem?_eq_some_iff.1 hj).1
  by_cases e : j = i
  · subst e
    rw [if_pos rfl, if_pos hlt, hj]
    simp
  · rw [if_neg e]
    cases hq : l[i]? with
    | none => rfl
    | some q =>
      rw [Option.map_some, if_neg]
      intro hqk
      exact e (nodup_at hn hj hq hqk.symm)

theorem setL_new {κ ν : Type} [DecidableEq κ] {l : List (κ × ν)} {k : κ} (h : getL l k = none) (v : ν) : setL l k v = l ++ [(k, v)] := by
  unfold setL
  rw [if_neg (by rw [h]; simp)]

theorem delL_at {κ ν : Type} [DecidableEq κ] {l : List (κ × ν)} (hn : (l.map Prod.fst).Nodup) {j : Nat} {k : κ} {u : ν} (hj : l[j]? = some (k, u)) : delL l k = l.take j ++ l.drop (j + 1) := by
  unfold delL
  induction l generalizing j with
  | nil => cases hj
  | cons q l ih =>
    rw [List.map_cons, List.nodup_cons] at hn
    cases j with
    | zero =>
      cases hj
      rw [List.filter_cons, if_neg (by simp), List.take_zero, List.nil_append, List.drop_succ_cons, List.drop_zero]
      apply List.filter_eq_self.2
      intro a ha
      simp only [decide_eq_true_eq]
      intro e
      exact hn.1 (List.mem_map.2 ⟨a, ha, e⟩)
    | succ j =>
      rw [List.getElem?_cons_succ] at hj
      have hne : q.1 ≠ k := fun e => hn.1 (by rw [e]; exact List.mem_map_of_mem (f := Prod.fst) (List.mem_of_getElem? hj))
      rw [List.filter_cons, if_pos (by simpa using hne), List.take_succ_cons, List.drop_succ_cons, List.cons_append, ih hn.2 hj]

theorem nodup_short : ∀ (n : Nat) (l : List Nat), l.Nodup → (∀ x ∈ l, x < n) → l.length ≤ n
  | 0, [], _, _ => Nat.le_refl _
  | 0, x :: l, _, h => by have := h x (List.mem_cons_self ..); omega
  | n + 1, l, hn, h => by
    have ih := nodup_short n (l.filter fun x => decide (x ≠ n)) (hn.filter _) (fun x hx => by
      have h1 := h x (List.mem_filter.1 hx).1
      have h2 : x ≠ n := by simpa using (List.mem_filter.1 hx).2
      omega)
    have key : ∀ l : List Nat, l.Nodup → l.length ≤ (l.filter fun x => decide (x ≠ n)).length + 1 := by
      intro l hn
      induction l with
      | nil => simp
      | cons a l ih =>
        rw [List.nodup_cons] at hn
        rw [List.filter_cons]
        by_cases e : a = n
        · subst e
          rw [if_neg (by simp)]
          have : l.filter (fun x => decide (x ≠ a)) = l := List.filter_eq_self.2 fun x hx => by
            simp only [decide_eq_true_eq]
            intro e
            exact hn.1 (e ▸ hx)
          rw [this]; simp
        · rw [if_pos (by simpa using e)]
          have := ih hn.2
          simp only [List.length_cons]; omega
    have := key l hn
    omega

theorem small {t : VT} (h : t.ok) : t.tab.length ≤ 262144 := by
  have h1 := h.len
  have := nodup_short (4095 * 64) ((t.tab.map Prod.fst).map fun k => k.1.toNat * 64 + k.2.toNat) (by
    refine List.Pairwise.map (R := fun a b : Int × Int => a.1.toNat * 64 + a.2.toNat ≠ b.1.toNat * 64 + b.2.toNat) _ ?_ (List.Pairwise.imp_of_mem ?_ h.nd)
    · exact fun a b (h : a.1.toNat * 64 + a.2.toNat ≠ b.1.toNat * 64 + b.2.toNat) => h
    · intro a b ha hb hab he
      obtain ⟨x, hx, rfl⟩ := List.mem_map.1 ha
      obtain ⟨y, hy, rfl⟩ := List.mem_map.1 hb
      have a1 := h.key x hx
      have a2 := h.key y hy
      unfold right port at a1 a2
      apply hab
      apply Prod.ext <;> omega) (by
    intro n hn
    obtain ⟨k, hk, rfl⟩ := List.mem_map.1 hn
    obtain ⟨x, hx, rfl⟩ := List.mem_map.1 hk
    have a1 := h.key x hx
    unfold right port at a1
    omega)
  simp at this
  omega

end VT
end Go.Gx
end

section
/- Loops with more values, slices of one cell an element. -/
namespace Go.Gx
open Go
variable {P : Program} {K : Value → World → Prop} {w : World}

theorem loop2 {B : (Value → Value → World → Prop) → Value → Value → World → Prop} (I : Nat → Value → Value → World → Prop) (h : ∀ n v u w X, I n v u w → (∀ m v' u' w', m < n → I m v' u' w' → X v' u' w') → B X v u w) (n : Nat) {v u : Value} (h0 : I n v u w) : loopJ 2 B v u w := by
  intro X hX
  have key : ∀ n v u w, (∃ m, m ≤ n ∧ I m v u w) → X v u w := by
    intro n
    induction n with
    | zero =>
      rintro v u w ⟨m, hm, hi⟩
      obtain rfl : m = 0 := by omega
      exact hX v u w (h 0 v u w X hi fun m v' u' w' hm _ => by omega)
    | succ n ih =>
      rintro v u w ⟨m, hm, hi⟩
      exact hX v u w (h m v u w X hi fun k v' u' w' hk hi' => ih v' u' w' ⟨k, by omega, hi'⟩)
  exact key n v u w ⟨n, Nat.le_refl _, h0⟩

theorem loop3 {B : (Value → Value → Value → World → Prop) → Value → Value → Value → World → Prop} (I : Nat → Value → Value → Value → World → Prop) (h : ∀ n v u x w X, I n v u x w → (∀ m v' u' x' w', m < n → I m v' u' x' w' → X v' u' x' w') → B X v u x w) (n : Nat) {v u x : Value} (h0 : I n v u x w) : loopJ 3 B v u x w := by
  intro X hX
  have key : ∀ n v u x w, (∃ m, m ≤ n ∧ I m v u x w) → X v u x w := by
    intro n
    induction n with
    | zero =>
      rintro v u x w ⟨m, hm, hi⟩
      obtain rfl : m = 0 := by omega
      exact hX v u x w (h 0 v u x w X hi fun m v' u' x' w' hm _ => by omega)
    | succ n ih =>
      rintro v u x w ⟨m, hm, hi⟩
      exact hX v u x w (h m v u x w X hi fun k v' u' x' w' hk hi' => ih v' u' x' w' ⟨k, by omega, hi'⟩)
  exact key n v u x w ⟨n, Nat.le_refl _, h0⟩

theorem jn2 {k : Value → Value → World → Prop} {m : (Value → Value → World → Prop) → World → Prop} (Q : Value → Value → World → Prop) (h1 : ∀ v u w', Q v u w' → k v u w') (h2 : ∀ j : Value → Value → World → Prop, (∀ v u w', Q v u w' → j v u w') → m j w) : jnJ 2 k m w := (congrFun (jnJ_eq 2 k m) w).symm ▸ h2 k h1
theorem jn3 {k : Value → Value → Value → World → Prop} {m : (Value → Value → Value → World → Prop) → World → Prop} (Q : Value → Value → Value → World → Prop) (h1 : ∀ v u x w', Q v u x w' → k v u x w') (h2 : ∀ j : Value → Value → Value → World → Prop, (∀ v u x w', Q v u x w' → j v u x w') → m j w) : jnJ 3 k m w := (congrFun (jnJ_eq 3 k m) w).symm ▸ h2 k h1

theorem s_bs1c {T E : TypeId} {ag : Bool} {z : Value} [hT : SlT P T E] [hs : Sz P E 1 ag] [hz : ZV P E z] {x : Value} (hx : S.oneCell x = true) (hzn : z.cells.size = 1)
    (h : ∀ v' w', OwnE E 1 w' v' [[x]] → Fr none_ w w' → New w v' → K v' w') : opS P (S.buildS T 1 [(0, x)]) K w := by
  have hc : x.cells = #[x] := by cases x <;> first | rfl | cases hx
  rw [opS_buildS1 (n := 1) _ (by rw [hc]; rfl) hzn (by decide) (by decide), hc]
  refine h _ _ ⟨.inr ⟨w.heap.size, 0, 1, #[x], rfl, heap_alloc_new _ _, by simp, by simp, by simp⟩, by simp⟩ (Fr.alloc _ _ rfl) fun b hb => ?_
  cases hb; exact Nat.le_refl _

/-- what is known of a world is all that counts -/
theorem at_w (Q : World → Prop) {G : World → Prop} {W : World} (hQ : Q W) (h : ∀ W, Q W → G W) : G W := h W hQ

/-- whole numbers as elements -/
def cellI (n : Int) : List Value := [i64 n]
theorem flat_cellI (l : List Int) : (l.map cellI).flatten = l.map i64 := by
  induction l with
  | nil => rfl
  | cons b bs ih => simp [cellI, ih]
theorem flat_cellI_one (l : List Int) : (l.map cellI).flatten.all S.oneCell = true := by
  rw [flat_cellI, List.all_map, List.all_eq_true]
  intro x _
  rfl

/-- the empty slice -/
theorem own_nil (E sz : Nat) (w : World) : OwnE E sz w (.slice none 0 0) [] := ⟨.inl ⟨rfl, rfl, rfl⟩, by simp⟩

/-- 'append(v, x)': x has one cell -/
theorem s_app1 {T T2 T3 E by_ : TypeId} {ag : Bool} {z : Value} [hT : SlT P T E] [hT2 : SlT P T2 E] [hT3 : SlT P T3 E] [hs : Sz P E 1 ag] [hb : By P E by_] [hz : ZV P E z] {ty : TypeId} {v : Value} {es : List (List Value)} {x : Value}
    (hx : S.oneCell x = true) (hzn : z.cells.size = 1) (hby : 0 < by_) (hv : OwnE E 1 w v es) (hroom : (2 * (es.length + 1) + 192) * by_ ≤ 2 ^ 48)
    (h : ∀ v' w', OwnE E 1 w' v' (es ++ [[x]]) → (blkS v' = blkS v ∨ New w v') → Fr (fun b => blkS v = some b) w w' → K v' w') :
    opS P (S.buildS T3 1 [(0, x)]) (fun y => opS P (S.bi .append #[T, T2] ty [v, y]) K) w := by
  refine s_bs1c hx hzn fun y w1 hy hF1 hN => ?_
  have hv1 := hv.fr hF1 (fun _ _ h => h)
  refine s_app hzn hby hv1 hy.rd (by simp [hx]) (by simpa using hroom) fun v' w' h1 h2 h3 => h v' w' h1 ?_ (Fr.trans (hF1.mono fun _ _ h => h.elim) h3)
  rcases h2 with h2 | h2
  · exact .inl h2
  · exact .inr fun b hb => Nat.le_trans hF1.size (h2 b hb)

theorem splice_get {l vs : List Value} {o : Nat} (h : o + vs.length ≤ l.length) (j : Nat) : (splice l o vs)[j]? = if j < o then l[j]? else if j < o + vs.length then vs[j - o]? else l[j]? := by
  unfold splice
  have ht : (l.take o).length = o := by rw [List.length_take]; omega
  by_cases h1 : j < o
  · rw [if_pos h1, List.append_assoc, List.getElem?_append_left (by omega), List.getElem?_take_of_lt h1]
  · rw [if_neg h1]
    by_cases h2 : j < o + vs.length
    · rw [if_pos h2, List.append_assoc, List.getElem?_append_right (by omega), ht, List.getElem?_append_left (by omega)]
    · rw [if_neg h2, List.getElem?_append_right (by rw [List.length_append]; omega), List.length_append, ht, List.getElem?_drop]
      congr 1
      omega

/-- one cell of an element -/
theorem splice_field {l e : List Value} {p f : Nat} {v : Value} (h : p + e.length ≤ l.length) (he : (l.drop p).take e.length = e) (hf : f < e.length) : splice l (p + f) [v] = splice l p (e.set f v) := by
  apply List.ext_getElem?
  intro j
  rw [splice_get (by simp; omega), splice_get (by simp; omega)]
  simp only [List.length_singleton, List.length_set]
  by_cases h1 : j < p
  · rw [if_pos (by omega), if_pos h1]
  · rw [if_neg h1]
    by_cases h2 : j < p + e.length
    · rw [if_pos h2, List.getElem?_set]
      have hj : l[j]? = e[j - p]? := by
        have : ((l.drop p).take e.length)[j - p]? = e[j - p]? := by rw [he]
        rw [List.getElem?_take_of_lt (by omega), List.getElem?_drop] at this
        rw [← this]; congr 1; omega
      by_cases h3 : j < p + f
      · rw [if_pos h3, if_neg (by omega), hj]
      · rw [if_neg h3]
        by_cases h4 : j = p + f
        · subst h4
          rw [if_pos (by omega), if_pos (by omega), if_pos hf]
          simp
        · rw [if_neg (by omega), if_neg (by omega), hj]
    · rw [if_neg (by omega), if_neg (by omega), if_neg h2]

/-- one cell of an element is written -/
theorem OwnE.putF {E sz : Nat} {b o c i f : Nat} {es : List (List Value)} (h : OwnE E sz w (.slice (some ⟨b, o, none⟩) es.length c) es) (hi : i < es.length) (hf : f < sz) (v : Value) :
    okAt w.heap[b]? (o + i * sz + f) 1 = true ∧ OwnE E sz (wr w b (o + i * sz + f) [v]) (.slice (some ⟨b, o, none⟩) es.length c) (es.set i (es[i].set f v)) := by
  have hlen := h.2 _ (List.getElem_mem hi)
  obtain ⟨h1, h2⟩ := h.put (i := i) (e := es[i].set f v) (by rw [List.length_set, hlen]) hi
  obtain ⟨g1, g2⟩ := h
  rcases g1 with ⟨g1, _⟩ | ⟨b', o', c', cs, hv, hb, hc, ho, hl⟩
  · cases g1
  · simp only [Value.slice.injEq, Option.some.injEq, Addr.mk.injEq] at hv
    obtain ⟨⟨rfl, rfl, _⟩, _, rfl⟩ := hv
    have hm : i * sz + sz ≤ es.length * sz := by rw [← Nat.succ_mul]; exact Nat.mul_le_mul_right _ hi
    have hm2 : es.length * sz ≤ c * sz := Nat.mul_le_mul_right _ hc
    have hel : (cs.toList.drop (o + i * sz)).take es[i].length = es[i] := by
      have := flatten_elem g2 hi 0 sz (by omega)
      rw [hl, Nat.add_zero, List.drop_zero, List.drop_take, List.drop_drop, List.take_take, Nat.min_eq_left (by omega)] at this
      rw [hlen, this, List.take_of_length_le (by omega)]
    refine ⟨?_, ?_⟩
    · rw [hb]
      show (decide (o + i * sz + f + 1 ≤ cs.size) && _) = true
      simp only [Bool.and_eq_true, decide_eq_true_eq, List.all_eq_true]
      exact ⟨by omega, fun x _ => by simp⟩
    · have hw : wr w b (o + i * sz + f) [v] = wr w b (o + i * sz) (es[i].set f v) := by
        unfold wr
        rw [hb]
        simp only []
        have hle : o + i * sz + es[i].length ≤ cs.toList.length := by have e2 : cs.toList.length = cs.size := Array.length_toList; omega
        rw [splice_field hle hel (by omega)]
      rw [hw]
      exact h2

end Go.Gx
end

section
/- Lists that rise. -/
namespace Go.Gx
open Go

theorem eq_of_rising {α : Type} {r : α → α → Prop} (hirr : ∀ a, ¬ r a a) (has : ∀ a b, r a b → ¬ r b a) : ∀ {l k : List α}, l.Pairwise r → k.Pairwise r → (∀ x, x ∈ l ↔ x ∈ k) → l = k
  | [], [], _, _, _ => rfl
  | [], b :: k, _, _, h => absurd ((h b).2 (List.mem_cons_self ..)) (by simp)
  | a :: l, [], _, _, h => absurd ((h a).1 (List.mem_cons_self ..)) (by simp)
  | a :: l, b :: k, h1, h2, h => by
    rw [List.pairwise_cons] at h1 h2
    have hab : a = b := by
      rcases List.mem_cons.1 ((h a).1 (List.mem_cons_self ..)) with e | e
      · exact e
      · rcases List.mem_cons.1 ((h b).2 (List.mem_cons_self ..)) with e2 | e2
        · exact e2.symm
        · exact absurd (h1.1 b e2) (has _ _ (h2.1 a e))
    subst hab
    congr 1
    refine eq_of_rising hirr has h1.2 h2.2 fun x => ⟨fun hx => ?_, fun hx => ?_⟩
    · rcases List.mem_cons.1 ((h x).1 (List.mem_cons_of_mem _ hx)) with e | e
      · subst e; exact absurd (h1.1 x hx) (hirr x)
      · exact e
    · rcases List.mem_cons.1 ((h x).2 (List.mem_cons_of_mem _ hx)) with e | e
      · subst e; exact absurd (h2.1 x hx) (hirr x)
      · exact e

theorem sorted_get {d : List Int} (h : d.Pairwise (· ≤ ·)) {i j : Nat} (hij : i ≤ j) (hj : j < d.length) : d.toArray[i]! ≤ d.toArray[j]! := by
  have hi : i < d.length := by omega
  have e1 : d.toArray[i]! = d[i] := by simp [hi]
  have e2 : d.toArray[j]! = d[j] := by simp [hj]
  rw [e1, e2]
  rcases Nat.eq_or_lt_of_le hij with e | e
  · subst e; exact Int.le_refl _
  · exact List.pairwise_iff_getElem.1 h i j hi hj e

theorem compact_rise {d : List Int} (h : d.Pairwise (· ≤ ·)) : (Lib.compact d).Pairwise (· < ·) := by
  unfold Lib.compact Lib.compactUpTo
  rw [List.pairwise_map]
  have h1 : ((List.range d.length).filter (Lib.keeps d.toArray)).Pairwise (· < ·) := List.pairwise_lt_range.filter _
  refine List.Pairwise.imp_of_mem ?_ h1
  intro a b ha hb hab
  rw [List.mem_filter, List.mem_range] at ha hb
  have hk := hb.2
  simp only [Lib.keeps, decide_eq_true_eq] at hk
  have hne := hk.resolve_left (by omega)
  have g1 := sorted_get h (show a ≤ b - 1 by omega) (by omega)
  have g2 := sorted_get h (show b - 1 ≤ b by omega) hb.1
  omega

theorem compact_mem {d : List Int} {x : Int} : x ∈ Lib.compact d ↔ x ∈ d := by
  unfold Lib.compact Lib.compactUpTo
  rw [List.mem_map]
  constructor
  · rintro ⟨i, hi, rfl⟩
    rw [List.mem_filter, List.mem_range] at hi
    have : d.toArray[i]! = d[i]'hi.1 := by simp [hi.1]
    rw [this]
    exact List.getElem_mem _
  · intro hx
    obtain ⟨i, hi, rfl⟩ := List.getElem_of_mem hx
    have key : ∀ n (hn : n < d.length), ∃ j, j ∈ (List.range d.length).filter (Lib.keeps d.toArray) ∧ d.toArray[j]! = d[n] := by
      intro n
      induction n with
      | zero =>
        intro hn
        refine ⟨0, ?_, by simp [hn]⟩
        rw [List.mem_filter, List.mem_range]
        exact ⟨hn, by simp [Lib.keeps]⟩
      | succ n ih =>
        intro hn
        have e1 : d.toArray[n + 1]! = d[n + 1] := by simp [hn]
        have e0 : d.toArray[n]! = d[n] := by simp [Nat.lt_of_succ_lt hn]
        by_cases e : d[n + 1] = d[n]
        · obtain ⟨j, hj, hje⟩ := ih (by omega)
          exact ⟨j, hj, by rw [hje, e]⟩
        · refine ⟨n + 1, ?_, e1⟩
          rw [List.mem_filter, List.mem_range]
          refine ⟨hn, ?_⟩
          simp only [Lib.keeps, decide_eq_true_eq, Nat.add_sub_cancel]
          right
          rw [e1, e0]
          exact e
    exact key i hi

theorem sorted_ints (d : List Int) : (d.mergeSort fun x y => decide (x ≤ y)).Pairwise (· ≤ ·) := by
  have := List.pairwise_mergeSort (le := fun x y : Int => decide (x ≤ y)) (by intro a b c h1 h2; simp at *; omega) (by intro a b; simp; omega) d
  exact this.imp fun h => by simpa using h

/-- sorted, and each kept once -/
theorem uniq_eq {d k : List Int} (hk : k.Pairwise (· < ·)) (h : ∀ x, x ∈ d ↔ x ∈ k) : Lib.compact (d.mergeSort fun x y => decide (x ≤ y)) = k := by
  refine eq_of_rising (r := (· < ·)) (fun a => by omega) (fun a b h => by omega) (compact_rise (sorted_ints d)) hk fun x => ?_
  rw [compact_mem, List.mem_mergeSort]
  exact h x

end Go.Gx
end

section
/- Bytes that are compared; entries in order; what changes make of them. -/
namespace Go.Gx
open Go
variable {P : Program} {K : Value → World → Prop} {w : World}

/-! ### A function without a body -/

theorem run_extern {f : FuncId} {fn : Func} {e : Array Value → Sem Value} (hf : P.funcs[f]? = some fn) (hn : (fn.name == "runtime.NumGoroutine") = false) (hb : fn.body.isNone = true) (h1 : Extern.findNext fn = none) (h2 : Extern.find fn = some e) (args : Array Value) :
    (callFunc f args).run P w = (do pure (Next.value (← e args)) : Sem Next).run P w := by
  unfold callFunc
  have hp : (program).run P w = .ok P w := rfl
  rw [Sem.run_bind, hp, Result.andThen_ok]
  simp only [hf, hn, hb, h1, h2, Bool.false_eq_true, if_false, if_true]
  rw [Sem.run_bind]
  have hm : (mark (.extern f)).run P w = .ok () w := rfl
  rw [hm, Result.andThen_ok]

theorem s_extern {f : FuncId} {fn : Func} {e : Array Value → Sem Value} (hf : P.funcs[f]? = some fn) (hn : (fn.name == "runtime.NumGoroutine") = false) (hb : fn.body.isNone = true) (h1 : Extern.findNext fn = none) (h2 : Extern.find fn = some e) {args : List Value} {v : Value}
    (hr : (e args.toArray).run P w = .ok v w) (h : K v w) : opS P (S.cl f args) K w := by
  have hx : (S.cl f args).run P w = .ok (.value v) w := by
    have : (S.cl f args).run P w = (callFunc f (#[] ++ args.toArray ++ #[])).run P w := rfl
    rw [this]
    have e2 : (#[] ++ args.toArray ++ #[] : Array Value) = args.toArray := by simp
    rw [e2, run_extern hf hn hb h1 h2, Sem.run_bind, hr]
    rfl
  rw [opS_value hx]
  exact h

theorem run_loadBytes {b : Nat} {c : Array Value} {T : TypeId} {fz : Nat × Nat} (h : w.heap[b]? = some (.cells c T fz)) : ∀ (bs : List Int) (o : Nat) (pre : List Int), o + bs.length ≤ c.size → (c.toList.drop o).take bs.length = bs.map u8 →
    (Extern.Bytes.loadBytes ⟨b, o, none⟩ bs.length (strOf pre)).run P w = .ok (strOf (pre ++ bs)) w
  | [], o, pre, _, _ => by simp [Extern.Bytes.loadBytes]
  | x :: bs, o, pre, hle, he => by
    simp only [List.length_cons] at hle he ⊢
    have hlt : o < c.size := by omega
    have hcl : c.toList.length = c.size := Array.length_toList
    rw [List.drop_eq_getElem_cons (by omega), List.take_succ_cons, List.map_cons, List.cons.injEq] at he
    have hc : w.cell? ⟨b, o, none⟩ = some (u8 x) := by
      rw [cell_rd, rd, h]
      show c[o]? = _
      rw [Array.getElem?_eq_getElem hlt, ← he.1]
      simp
    unfold Extern.Bytes.loadBytes
    rw [Sem.run_bind, run_load, hc]
    simp only [Result.andThen_ok]
    have e1 : (strOf pre).push x.toNat.toUInt8 = strOf (pre ++ [x]) := by simp [strOf, ByteArray.push]
    rw [add_none, e1, run_loadBytes h bs (o + 1) (pre ++ [x]) (by omega) he.2, List.append_assoc]
    rfl

theorem run_bytesOf {v : Value} {bs : List Int} (h : ByR w v bs) : (Extern.Bytes.bytesOf v).run P w = .ok (strOf bs) w := by
  have h1 := h.1.1
  rw [flat_cell1, List.length_map] at h1
  rcases h1 with ⟨⟨a, c, rfl⟩, h2, _⟩ | ⟨b, o, c, cs, T, fz, rfl, hb, hc, ho, hl⟩
  · obtain rfl := List.eq_nil_of_length_eq_zero h2
    cases a <;> rfl
  · have := run_loadBytes (P := P) hb bs o [] (by omega) (by rw [hl, Nat.mul_one])
    exact this

/-! ### Addresses as numbers -/

def macN (m : Mac) : Int := ((((m.b0 * 256 + m.b1) * 256 + m.b2) * 256 + m.b3) * 256 + m.b4) * 256 + m.b5
def macL (m : Mac) : List Int := [m.b0, m.b1, m.b2, m.b3, m.b4, m.b5]
def cmpI (a b : Int) : Int := if a < b then -1 else if b < a then 1 else 0
def cmpM (a b : Mac) : Int := cmpI (macN a) (macN b)

theorem macL_ok {m : Mac} (h : m.ok) : ∀ x ∈ macL m, isB x := by
  obtain ⟨h0, h1, h2, h3, h4, h5⟩ := h
  intro x hx
  simp only [macL, List.mem_cons, List.not_mem_nil, or_false] at hx
  rcases hx with rfl | rfl | rfl | rfl | rfl | rfl <;> assumption

theorem macN_inj {a b : Mac} (ha : a.ok) (hb : b.ok) (h : macN a = macN b) : a = b := by
  obtain ⟨a0, a1, a2, a3, a4, a5⟩ := ha
  obtain ⟨b0, b1, b2, b3, b4, b5⟩ := hb
  unfold macN at h
  unfold isB at *
  apply Mac.ext <;> omega
theorem macN_range {a : Mac} (ha : a.ok) : 0 ≤ macN a ∧ macN a < 281474976710656 := by
  obtain ⟨a0, a1, a2, a3, a4, a5⟩ := ha
  unfold macN
  unfold isB at *
  omega

theorem strOf_size (l : List Int) : (strOf l).size = l.length := by simp [strOf, ByteArray.size]
theorem strOf_get (l : List Int) (i : Nat) (h : i < l.length) : (strOf l)[i]! = UInt8.ofNat (l[i]).toNat := by
  have h2 : i < (strOf l).size := by rw [strOf_size]; exact h
  rw [getElem!_pos _ i h2]
  show (strOf l).data[i] = _
  simp [strOf]

theorem byte_lt {a b : Int} (ha : isB a) (hb : isB b) : UInt8.ofNat a.toNat < UInt8.ofNat b.toNat ↔ a < b := by
  rw [UInt8.lt_iff_toNat_lt]
  simp only [UInt8.toNat_ofNat']
  unfold isB at ha hb
  omega
theorem byte_eq {a b : Int} (ha : isB a) (hb : isB b) : UInt8.ofNat a.toNat = UInt8.ofNat b.toNat ↔ a = b := ⟨byte_inj ha hb, fun h => by rw [h]⟩

theorem cmp_mac {a b : Mac} (ha : a.ok) (hb : b.ok) : Extern.BytealgCompare.cmp (strOf (macL a)) (strOf (macL b)) = cmpM a b := by
  unfold Extern.BytealgCompare.cmp
  have sa : (strOf (macL a)).size = 6 := by rw [strOf_size]; rfl
  have sb : (strOf (macL b)).size = 6 := by rw [strOf_size]; rfl
  rw [sa, sb]
  have gA : ∀ i (h : i < 6), (strOf (macL a))[i]! = UInt8.ofNat ((macL a)[i]'h).toNat := fun i h => strOf_get (macL a) i h
  have gB : ∀ i (h : i < 6), (strOf (macL b))[i]! = UInt8.ofNat ((macL b)[i]'h).toNat := fun i h => strOf_get (macL b) i h
  clear sa sb
  generalize strOf (macL a) = A at *
  generalize strOf (macL b) = B at *
  obtain ⟨a0, a1, a2, a3, a4, a5⟩ := ha
  obtain ⟨b0, b1, b2, b3, b4, b5⟩ := hb
  have hr : List.range (min 6 6) = [0, 1, 2, 3, 4, 5] := rfl
  rw [hr]
  have A0 : A[0]! = UInt8.ofNat a.b0.toNat := gA 0 (by decide)
  have A1 : A[1]! = UInt8.ofNat a.b1.toNat := gA 1 (by decide)
  have A2 : A[2]! = UInt8.ofNat a.b2.toNat := gA 2 (by decide)
  have A3 : A[3]! = UInt8.ofNat a.b3.toNat := gA 3 (by decide)
  have A4 : A[4]! = UInt8.ofNat a.b4.toNat := gA 4 (by decide)
  have A5 : A[5]! = UInt8.ofNat a.b5.toNat := gA 5 (by decide)
  have B0 : B[0]! = UInt8.ofNat b.b0.toNat := gB 0 (by decide)
  have B1 : B[1]! = UInt8.ofNat b.b1.toNat := gB 1 (by decide)
  have B2 : B[2]! = UInt8.ofNat b.b2.toNat := gB 2 (by decide)
  have B3 : B[3]! = UInt8.ofNat b.b3.toNat := gB 3 (by decide)
  have B4 : B[4]! = UInt8.ofNat b.b4.toNat := gB 4 (by decide)
  have B5 : B[5]! = UInt8.ofNat b.b5.toNat := gB 5 (by decide)
  clear gA gB
  simp only [List.find?_cons, List.find?_nil, A0, A1, A2, A3, A4, A5, B0, B1, B2, B3, B4, B5]
  have hne : ∀ x y : Int, isB x → isB y → (UInt8.ofNat x.toNat != UInt8.ofNat y.toNat) = decide (x ≠ y) := by
    intro x y hx hy
    rw [Bool.eq_iff_iff, bne_iff_ne, decide_eq_true_iff, ne_eq, byte_eq hx hy]
  rw [hne _ _ a0 b0, hne _ _ a1 b1, hne _ _ a2 b2, hne _ _ a3 b3, hne _ _ a4 b4, hne _ _ a5 b5]
  unfold cmpM cmpI macN
  have fin : ∀ (x y : Int) (X Y : UInt8), isB x → isB y → X = UInt8.ofNat x.toNat → Y = UInt8.ofNat y.toNat → (if X < Y then (-1 : Int) else 1) = if x < y then -1 else 1 := by
    intro x y X Y hx hy e1 e2
    rw [e1, e2]
    by_cases hxy : x < y
    · rw [if_pos ((byte_lt hx hy).2 hxy), if_pos hxy]
    · rw [if_neg (fun h => hxy ((byte_lt hx hy).1 h)), if_neg hxy]
  by_cases h0 : a.b0 = b.b0
  case neg =>
    simp only [h0, ne_eq, not_false_eq_true, decide_true]
    rw [fin a.b0 b.b0 _ _ a0 b0 A0 B0]
    unfold isB at *
    split <;> split <;> (try split) <;> omega
  by_cases h1 : a.b1 = b.b1
  case neg =>
    simp only [h0, h1, ne_eq, not_true_eq_false, not_false_eq_true, decide_true, decide_false]
    rw [fin a.b1 b.b1 _ _ a1 b1 A1 B1]
    unfold isB at *
    split <;> split <;> (try split) <;> omega
  by_cases h2 : a.b2 = b.b2
  case neg =>
    simp only [h0, h1, h2, ne_eq, not_true_eq_false, not_false_eq_true, decide_true, decide_false]
    rw [fin a.b2 b.b2 _ _ a2 b2 A2 B2]
    unfold isB at *
    split <;> split <;> (try split) <;> omega
  by_cases h3 : a.b3 = b.b3
  case neg =>
    simp only [h0, h1, h2, h3, ne_eq, not_true_eq_false, not_false_eq_true, decide_true, decide_false]
    rw [fin a.b3 b.b3 _ _ a3 b3 A3 B3]
    unfold isB at *
    split <;> split <;> (try split) <;> omega
  by_cases h4 : a.b4 = b.b4
  case neg =>
    simp only [h0, h1, h2, h3, h4, ne_eq, not_true_eq_false, not_false_eq_true, decide_true, decide_false]
    rw [fin a.b4 b.b4 _ _ a4 b4 A4 B4]
    unfold isB at *
    split <;> split <;> (try split) <;> omega
  by_cases h5 : a.b5 = b.b5
  case neg =>
    simp only [h0, h1, h2, h3, h4, h5, ne_eq, not_true_eq_false, not_false_eq_true, decide_true, decide_false]
    rw [fin a.b5 b.b5 _ _ a5 b5 A5 B5]
    unfold isB at *
    split <;> split <;> (try split) <;> omega
  simp [h0, h1, h2, h3, h4, h5]

/-- two slices of bytes that are compared -/
theorem s_bytecmp {f : FuncId} {fn : Func} (hf : P.funcs[f]? = some fn) (hn : (fn.name == "runtime.NumGoroutine") = false) (hb : fn.body.isNone = true) (h1 : Extern.findNext fn = none) (h2 : Extern.find fn = some Extern.BytealgCompare.compare) {a b : Value} {x y : List Int}
    (ha : ByR w a x) (hb2 : ByR w b y) (h : K (.int .i64 (Extern.BytealgCompare.cmp (strOf x) (strOf y))) w) : opS P (S.cl f [a, b]) K w := by
  refine s_extern hf hn hb h1 h2 (v := .int .i64 (Extern.BytealgCompare.cmp (strOf x) (strOf y))) ?_ h
  show (do pure (goInt (Extern.BytealgCompare.cmp (← Extern.Bytes.bytesOf a) (← Extern.Bytes.bytesOf b))) : Sem Value).run P w = _
  rw [Sem.run_bind, run_bytesOf ha, Result.andThen_ok, Sem.run_bind, run_bytesOf hb2, Result.andThen_ok]
  rfl

end Go.Gx
end

section
/- Rows that are sorted. -/
namespace Go.Gx
open Go Go.Sort
variable {P : Program} {K : Value → World → Prop} {w : World}

theorem putCells_splice {α : Type} [Inhabited α] (enc : α → Value) (o : Nat) (zs : List α) (cs : Array Value) (h : o + zs.length ≤ cs.size) :
    (putCells enc o zs.toArray cs).toList = splice cs.toList o (zs.map enc) := by
  apply List.ext_getElem?
  intro j
  have hcl : cs.toList.length = cs.size := Array.length_toList
  have hs := splice_get (l := cs.toList) (vs := zs.map enc) (o := o) (by rw [List.length_map]; omega) j
  rw [hs, List.length_map]
  unfold putCells
  simp only [Array.toList_mapIdx, List.getElem?_mapIdx, List.size_toArray]
  by_cases h1 : j < o
  · rw [if_pos h1]
    cases cs.toList[j]? with
    | none => rfl
    | some v => simp only [Option.map_some]; rw [if_neg (by omega)]
  · by_cases h2 : j < o + zs.length
    · rw [if_neg h1, if_pos h2]
      have hj : j < cs.toList.length := by omega
      rw [List.getElem?_eq_getElem hj]
      simp only [Option.map_some]
      rw [if_pos (by omega), List.getElem?_map]
      have hj2 : j - o < zs.length := by omega
      rw [List.getElem?_eq_getElem hj2]
      simp [hj2]
    · rw [if_neg h1, if_neg h2]
      cases cs.toList[j]? with
      | none => rfl
      | some v => simp only [Option.map_some]; rw [if_neg (by omega)]

/-- a row that is its holder's own, in the sort's words -/
theorem holds_row {α : Type} [Inhabited α] {enc : α → Value} {b o N : Nat} {cs : Array Value} {E : TypeId} {zs : List α} (hb : w.heap[b]? = some (.cells cs E (0, 0))) (hN : N = zs.length) (ho : o + N ≤ cs.size) (hl : zs.map enc = (cs.toList.drop o).take N) :
    Holds enc w b o zs.toArray := by
  intro j hj
  simp only [List.size_toArray] at hj
  have hcl : cs.toList.length = cs.size := Array.length_toList
  constructor
  · rw [cell_rd]
    unfold rd
    rw [hb]
    show cs[o + j]? = _
    have := congrArg (fun l => l[j]?) hl
    simp only [List.getElem?_map, List.getElem?_take, List.getElem?_drop] at this
    rw [if_pos (by omega), List.getElem?_eq_getElem hj, Array.getElem?_toList] at this
    rw [← this]
    simp [hj]
  · rw [frozen_eq]
    simp [hb]

theorem putRow_heap {α : Type} [Inhabited α] {enc : α → Value} {b o n : Nat} {os : Array Obj} {cs : Array Value} {E : TypeId} {zs : List α} (hb : w.heap[b]? = some (.cells cs E (0, 0))) (ho : o + zs.length ≤ cs.size) :
    (grow (putRow enc (Sort.ahead w n) b o zs.toArray) os).heap[b]? = some (.cells (splice cs.toList o (zs.map enc)).toArray E (0, 0)) := by
  have hlt := lt_of_heap hb
  have e1 : (grow (putRow enc (Sort.ahead w n) b o zs.toArray) os).heap[b]? = (putRow enc (Sort.ahead w n) b o zs.toArray).heap[b]? := by
    show ((putRow enc (Sort.ahead w n) b o zs.toArray).heap ++ os)[b]? = _
    rw [Array.getElem?_append_left]
    show b < (w.heap.modify b _).size
    rw [Array.size_modify]; exact hlt
  rw [e1]
  show (w.heap.modify b (onCells (putCells enc o zs.toArray)))[b]? = _
  rw [Array.getElem?_modify, if_pos rfl, hb]
  show some (Obj.cells (putCells enc o zs.toArray cs) E (0, 0)) = _
  congr 2
  rw [← putCells_splice enc o zs cs ho, Array.toArray_toList]

theorem putRow_fr {α : Type} [Inhabited α] {enc : α → Value} {b o n : Nat} {os : Array Obj} {d : Array α} : Fr (fun x => x = b) w (grow (putRow enc (Sort.ahead w n) b o d) os) := by
  have hs : (putRow enc (Sort.ahead w n) b o d).heap.size = w.heap.size := by
    show (w.heap.modify b _).size = _
    rw [Array.size_modify]
  refine ⟨?_, fun x hx hn => ?_, fun a ha => ?_, rfl, rfl, rfl⟩
  · show w.heap.size ≤ ((putRow enc (Sort.ahead w n) b o d).heap ++ os).size
    rw [Array.size_append, hs]; omega
  · show ((putRow enc (Sort.ahead w n) b o d).heap ++ os)[x]? = _
    rw [Array.getElem?_append_left (by rw [hs]; exact hx)]
    show (w.heap.modify b _)[x]? = _
    rw [Array.getElem?_modify, if_neg (fun e => hn e.symm)]
  · have e1 : (grow (putRow enc (Sort.ahead w n) b o d) os).frozen? a = (putRow enc (Sort.ahead w n) b o d).frozen? a := by
      rw [frozen_eq, frozen_eq]
      show (match ((putRow enc (Sort.ahead w n) b o d).heap ++ os)[a.block]? with | some (.cells _ _ fz) => (decide (fz.1 ≤ a.off) && decide (a.off < fz.2)) | _ => false) = _
      rw [Array.getElem?_append_left (by rw [hs]; exact ha)]
      rfl
    rw [e1]
    exact frozen?_mapBlock _ _ _ _

/-- one cell an element: what is asked, and what there is behind it -/
theorem own_holds {α : Type} [Inhabited α] {enc : α → Value} {E : TypeId} {b o c : Nat} {zs : List α} (h : OwnE E 1 w (.slice (some ⟨b, o, none⟩) zs.length c) (zs.map fun z => [enc z])) : Holds enc w b o zs.toArray ∧ b < w.heap.size := by
  obtain ⟨h1, _⟩ := h
  rw [List.length_map] at h1
  rcases h1 with ⟨h1, _⟩ | ⟨b', o', c', cs, hv, hb, hc, ho, hl⟩
  · cases h1
  · simp only [Value.slice.injEq, Option.some.injEq, Addr.mk.injEq, and_true, true_and] at hv
    obtain ⟨⟨rfl, rfl⟩, rfl⟩ := hv
    refine ⟨holds_row hb rfl (by omega) ?_, lt_of_heap hb⟩
    rw [Nat.mul_one] at hl
    rw [← hl]
    clear hl ho hc hb
    induction zs with
    | nil => rfl
    | cons z zs ih => simp [ih]

theorem own_sorted {α : Type} [Inhabited α] {enc : α → Value} {E : TypeId} {b o c n : Nat} {os : Array Obj} {zs ys : List α} (h : OwnE E 1 w (.slice (some ⟨b, o, none⟩) zs.length c) (zs.map fun z => [enc z])) (hl : ys.length = zs.length) :
    OwnE E 1 (grow (putRow enc (Sort.ahead w n) b o ys.toArray) os) (.slice (some ⟨b, o, none⟩) ys.length c) (ys.map fun z => [enc z]) := by
  obtain ⟨h1, _⟩ := h
  rw [List.length_map] at h1
  rcases h1 with ⟨h1, _⟩ | ⟨b', o', c', cs, hv, hb, hc, ho, _⟩
  · cases h1
  · simp only [Value.slice.injEq, Option.some.injEq, Addr.mk.injEq, and_true, true_and] at hv
    obtain ⟨⟨rfl, rfl⟩, rfl⟩ := hv
    have hcl : cs.toList.length = cs.size := Array.length_toList
    refine ⟨?_, by simp⟩
    rw [List.length_map]
    refine .inr ⟨b, o, c, _, rfl, putRow_heap hb (by omega), by omega, ?_, ?_⟩
    · rw [List.size_toArray, splice_length (by rw [List.length_map]; omega)]; omega
    · have hf : (ys.map fun z => [enc z]).flatten = ys.map enc := by
        clear hl
        induction ys with
        | nil => rfl
        | cons z zs ih => simp [ih]
      have := splice_window (l := cs.toList) (k := ys.map enc) (o := o) (a := 0) (by omega)
      rw [Nat.add_zero, Nat.zero_add, List.length_map] at this
      rw [hf]
      show _ = List.take _ (List.drop o (splice cs.toList o (ys.map enc)))
      rw [Nat.mul_one, this]; simp

end Go.Gx
end

section
/- Rows of structs that are sorted by a function. -/
namespace Go.Gx
open Go Go.Sort Go.Proofs
variable {P : Program} {K : Value → World → Prop} {w : World}

/-- draws, and new blocks: nothing else -/
def Gr (w w' : World) : Prop := ∃ q os, w' = grow (w.drewN q) os
theorem Gr.refl (w : World) : Gr w w := ⟨0, #[], by rw [grow_empty]; rfl⟩
theorem Gr.step_alloc {w w' : World} (h : Gr w w') (o : Obj) : Gr w (w'.alloc o) := by
  obtain ⟨q, os, rfl⟩ := h
  exact ⟨q, os ++ #[o], by rw [alloc_eq_grow, grow_grow]⟩
theorem Gr.step_drew {w w' : World} (h : Gr w w') : Gr w w'.drew := by
  obtain ⟨q, os, rfl⟩ := h
  exact ⟨q + 1, os, by rw [drew_grow]; rfl⟩
theorem Gr.trans {w w' w'' : World} (h : Gr w w') (h' : Gr w' w'') : Gr w w'' := by
  obtain ⟨q, os, rfl⟩ := h
  obtain ⟨q', os', rfl⟩ := h'
  refine ⟨q + q', os ++ os', ?_⟩
  show grow ((grow (w.drewN q) os).drewN q') os' = _
  rw [← grow_grow]
  have : (grow (w.drewN q) os).drewN q' = grow (w.drewN (q + q')) os := by
    unfold grow World.drewN
    simp [Nat.add_assoc]
  rw [this]
theorem Gr.heap {w w' : World} (h : Gr w w') {b : Nat} {o : Obj} (hb : w.heap[b]? = some o) : w'.heap[b]? = some o := by
  obtain ⟨q, os, rfl⟩ := h
  show (w.heap ++ os)[b]? = _
  rw [Array.getElem?_append_left (lt_of_heap hb)]
  exact hb
theorem Gr.fr {w w' : World} (h : Gr w w') : Fr none_ w w' := by
  obtain ⟨q, os, rfl⟩ := h
  refine ⟨?_, fun x hx hn => ?_, fun a ha => ?_, rfl, rfl, rfl⟩
  · show w.heap.size ≤ (w.heap ++ os).size
    rw [Array.size_append]; omega
  · show (w.heap ++ os)[x]? = _
    rw [Array.getElem?_append_left hx]
  · rw [frozen_eq, frozen_eq]
    show (match (w.heap ++ os)[a.block]? with | some (.cells _ _ fz) => (decide (fz.1 ≤ a.off) && decide (a.off < fz.2)) | _ => false) = _
    rw [Array.getElem?_append_left ha]
    rfl

theorem flatten_at {k : Nat} (hk0 : 0 < k) : ∀ {l : List (List Value)} (_ : ∀ x ∈ l, x.length = k) (t : Nat), l.flatten[t]? = (l[t / k]?).bind fun x => x[t % k]?
  | [], _, t => by simp
  | x :: l, h, t => by
    rw [List.flatten_cons]
    have hx := h x (List.mem_cons_self ..)
    by_cases ht : t < k
    · rw [List.getElem?_append_left (by omega), Nat.div_eq_of_lt ht, Nat.mod_eq_of_lt ht]
      rfl
    · rw [List.getElem?_append_right (by omega), hx, flatten_at hk0 (fun y hy => h y (List.mem_cons_of_mem _ hy)) (t - k)]
      have e1 : t / k = (t - k) / k + 1 := by
        have := Nat.add_div_right (t - k) hk0
        rw [Nat.sub_add_cancel (by omega)] at this
        omega
      have e2 : (t - k) % k = t % k := by
        have := Nat.add_mod_right (t - k) k
        rw [Nat.sub_add_cancel (by omega)] at this
        exact this.symm
      rw [e1, e2, List.getElem?_cons_succ]

theorem flatK_list {α : Type} [Inhabited α] {enc : α → List Value} {k : Nat} (hk0 : 0 < k) (hk : ∀ x, (enc x).length = k) (d : Array α) : (flatK enc k d).toList = (d.toList.map enc).flatten := by
  apply List.ext_getElem?
  intro t
  rw [flatten_at hk0 (fun x hx => by obtain ⟨y, _, rfl⟩ := List.mem_map.1 hx; exact hk y)]
  by_cases ht : t < d.size * k
  · have hs : t < (flatK enc k d).toList.length := by rw [Array.length_toList, size_flatK]; exact ht
    have hq : t / k < d.size := Nat.div_lt_of_lt_mul (by rw [Nat.mul_comm]; exact ht)
    have hr : t % k < k := Nat.mod_lt _ hk0
    rw [Array.getElem?_toList, List.getElem?_map, Array.getElem?_toList]
    have h1 := get_flatK enc k d t ht
    have hs' : t < (flatK enc k d).size := by rw [size_flatK]; exact ht
    rw [getElem!_pos _ t hs', getElem!_pos d (t / k) hq] at h1
    rw [Array.getElem?_eq_getElem hs', h1, Array.getElem?_eq_getElem hq]
    simp only [Option.map_some, Option.bind_some]
    rw [List.getElem?_eq_getElem (by rw [hk]; exact hr), getElem!_pos _ (t % k) (by rw [hk]; exact hr)]
  · have h1 : (flatK enc k d).toList[t]? = none := by rw [List.getElem?_eq_none]; rw [Array.length_toList, size_flatK]; omega
    have hq : d.size ≤ t / k := (Nat.le_div_iff_mul_le hk0).2 (by omega)
    rw [h1, List.getElem?_map, Array.getElem?_toList, Array.getElem?_eq_none hq]
    rfl

theorem ownK_holds {α : Type} [Inhabited α] {enc : α → List Value} {k : Nat} (hk0 : 0 < k) (hk : ∀ x, (enc x).length = k) {E b o c : Nat} {zs : List α} (h : OwnE E k w (.slice (some ⟨b, o, none⟩) zs.length c) (zs.map enc)) :
    HoldsK enc k w b o zs.toArray ∧ b < w.heap.size := by
  obtain ⟨h1, _⟩ := h
  rw [List.length_map] at h1
  rcases h1 with ⟨h1, _⟩ | ⟨b', o', c', cs, hv, hb, hc, ho, hl⟩
  · cases h1
  · simp only [Value.slice.injEq, Option.some.injEq, Addr.mk.injEq, and_true, true_and] at hv
    obtain ⟨⟨rfl, rfl⟩, rfl⟩ := hv
    have hle : zs.length * k ≤ c * k := Nat.mul_le_mul_right _ hc
    have hfl := flatK_list hk0 hk zs.toArray
    have hlen : zs.length * k = (flatK enc k zs.toArray).toList.length := by simp
    have := holds_row (enc := id) (o := o) (N := zs.length * k) (zs := (flatK enc k zs.toArray).toList) hb hlen (by omega) (by rw [List.map_id, hfl]; exact hl)
    rw [Array.toArray_toList] at this
    exact ⟨this, lt_of_heap hb⟩

theorem ownK_sorted {α : Type} [Inhabited α] {enc : α → List Value} {k : Nat} (hk0 : 0 < k) (hk : ∀ x, (enc x).length = k) {E b o c n : Nat} {os : Array Obj} {zs ys : List α} (h : OwnE E k w (.slice (some ⟨b, o, none⟩) zs.length c) (zs.map enc)) (hl : ys.length = zs.length) :
    OwnE E k (sortWorldK enc k w b o n ys.toArray os) (.slice (some ⟨b, o, none⟩) zs.length c) (ys.map enc) ∧ Fr (fun x => x = b) w (sortWorldK enc k w b o n ys.toArray os) := by
  refine ⟨?_, putRow_fr⟩
  obtain ⟨h1, _⟩ := h
  rw [List.length_map] at h1
  rcases h1 with ⟨h1, _⟩ | ⟨b', o', c', cs, hv, hb, hc, ho, _⟩
  · cases h1
  · simp only [Value.slice.injEq, Option.some.injEq, Addr.mk.injEq, and_true, true_and] at hv
    obtain ⟨⟨rfl, rfl⟩, rfl⟩ := hv
    have hcl : cs.toList.length = cs.size := Array.length_toList
    have hle : zs.length * k ≤ c * k := Nat.mul_le_mul_right _ hc
    have hfl := flatK_list hk0 hk ys.toArray
    have hlen : (flatK enc k ys.toArray).toList.length = zs.length * k := by rw [Array.length_toList, size_flatK, List.size_toArray, hl]
    refine ⟨?_, fun e he => by obtain ⟨y, _, rfl⟩ := List.mem_map.1 he; exact hk y⟩
    rw [List.length_map, hl]
    have hp := putRow_heap (enc := id) (o := o) (n := n) (os := os) (zs := (flatK enc k ys.toArray).toList) hb (by omega)
    rw [Array.toArray_toList, List.map_id] at hp
    refine .inr ⟨b, o, c, _, rfl, hp, hc, ?_, ?_⟩
    · rw [List.size_toArray, splice_length (by omega)]; omega
    · have := splice_window (l := cs.toList) (k := (flatK enc k ys.toArray).toList) (o := o) (a := 0) (by omega)
      rw [Nat.add_zero, Nat.zero_add, hlen] at this
      show _ = List.take _ (List.drop o (splice cs.toList o _))
      rw [this, hfl]; simp

/-- **slices.SortFunc, of structs** -/
theorem sortK_spec {ρ : Shelf.Ren} (L : SlLaysF0.n6 P ρ) {α : Type} [Inhabited α] {E k : Nat} {enc : α → List Value} (hk0 : 0 < k) (hk : ∀ x, (enc x).length = k) (h1 : ∀ x, ∀ v ∈ enc x, v.oneCell' = true)
    (aE : ∀ w, (isAgg (ρ.t 24)).run P w = .ok true w) (zE : ∀ w, (Go.sizeOf (ρ.t 24)).run P w = .ok k w) (cf : α → α → Int) (hO : SWO (ltOf cf)) (g : Nat) (cb : Array Value) (eg : ∀ args w, (callFunc g args).run P w = .ok (.enter g args) w)
    (hcmp : ∀ x y W, CallsR P g (#[.agg (enc x).toArray, .agg (enc y).toArray] ++ cb) (fun v w' => v = .int .i64 (cf x y) ∧ Gr W w') W)
    {v : Value} {zs : List α} (hv : OwnE E k w v (zs.map enc)) (hl : zs.length < 2 ^ 60)
    (h : ∀ (ys : List α) w', ys.Perm zs → ys.Pairwise (fun x y => ¬ cf y x < 0) → OwnE E k w' v (ys.map enc) → Fr (fun b => blkS v = some b) w w' → K (.tuple #[]) w') : CallsR P (ρ.f 6) #[v, .func (.func g) #[] cb] K w := by
  cases hb : blkS v with
  | none =>
    have he : v = .slice none 0 0 ∧ zs = [] := by
      obtain ⟨g1, _⟩ := hv
      rcases g1 with ⟨g1, g2, _⟩ | ⟨b, o, c, cs, g1, _⟩
      · exact ⟨g1, by rw [List.length_map] at g2; exact List.eq_nil_of_length_eq_zero g2⟩
      · rw [g1] at hb; cases hb
    obtain ⟨rfl, rfl⟩ := he
    refine Calls.mono (AnyF.slices_SortFunc_none L none 0 _ w) ?_
    rintro e w' ⟨rfl, rfl⟩
    exact ⟨_, rfl, h [] _ (List.Perm.refl _) List.Pairwise.nil hv (Fr.refl _ _)⟩
  | some b =>
    have he : ∃ o c, v = .slice (some ⟨b, o, none⟩) zs.length c := by
      obtain ⟨g1, _⟩ := hv
      rcases g1 with ⟨g1, g2, _⟩ | ⟨b', o, c, cs, g1, _⟩
      · rw [g1] at hb; cases hb
      · rw [g1] at hb; cases hb; rw [List.length_map] at g1; exact ⟨o, c, g1⟩
    obtain ⟨o, c, rfl⟩ := he
    obtain ⟨g1, g2⟩ := ownK_holds hk0 hk hv
    have hc : CmpLays P g cb enc k cf b o zs.toArray.size w := fun m os dk _ x y => Calls.mono (hcmp x y _) fun e w' ⟨v, he, hv, q, os', hg⟩ => ⟨by rw [he, hv], q, os', hg⟩
    refine Calls.mono (AnyQ.slices_SortFunc L k aE zE enc hk h1 cf hO g cb b o c zs.toArray w eg hc g1 g2 (by rw [List.size_toArray]; omega)) ?_
    rintro e w' ⟨rfl, d', n, os, ⟨hp1, _, hp2⟩, hs, rfl⟩
    have hsz : d'.size = zs.length := by rw [hp1, List.size_toArray]
    have e1 : (d'.extract 0 zs.toArray.size).toList = d'.toList := by
      rw [List.size_toArray, ← hsz]; simp
    have e2 : (zs.toArray.extract 0 zs.toArray.size).toList = zs := by simp
    rw [e1, e2] at hp2
    have hlen : d'.toList.length = zs.length := by rw [Array.length_toList, hsz]
    obtain ⟨o1, f1⟩ := ownK_sorted hk0 hk (n := n) (os := os) hv hlen
    rw [Array.toArray_toList] at o1 f1
    refine ⟨_, rfl, h d'.toList _ hp2 ?_ o1 (f1.mono fun x _ e => by rw [e]; rfl)⟩
    rw [List.pairwise_iff_getElem]
    intro i j hi hj hij
    have := hs i j (Nat.zero_le _) hij (by rw [List.size_toArray]; omega)
    unfold ltOf at this
    have hi' : i < d'.size := by omega
    have hj' : j < d'.size := by omega
    rw [getElem!_pos d' i hi', getElem!_pos d' j hj'] at this
    simpa using this

end Go.Gx
end

section
/- Entries in order; what changes make of them: plain. -/
namespace Go.Gx
open Go Go.Sort Go.Proofs

theorem Ent.g0 (e : Ent) : e.cells[0]? = some (i64 e.vlan) := id rfl
theorem Ent.g7 (e : Ent) : e.cells[7]? = some (i64 e.port) := id rfl
theorem Ent.g8 (e : Ent) : e.cells[8]? = some (i64 e.at_) := id rfl
theorem Ent.g9 (e : Ent) : e.cells[9]? = some (.bool e.static) := id rfl
theorem Ent.d1 (e : Ent) : (e.cells.drop 1).take 6 = e.mac.cells := id rfl
theorem Ent.dw (e : Ent) : (e.cells.drop 0).take 10 = e.cells := id rfl
theorem Ent.sw (e f : Ent) : splice e.cells 0 f.cells = f.cells := id rfl
attribute [push_cast] Ent.g0 Ent.g7 Ent.g8 Ent.g9 Ent.d1 Ent.dw Ent.sw Ent.cells_length Ent.cells_one

def eKey (e : Ent) : Int × Mac := (e.vlan, e.mac)
def cmpE (a b : Ent) : Int := if cmpI a.vlan b.vlan ≠ 0 then cmpI a.vlan b.vlan else cmpM a.mac b.mac
def ltE (a b : Ent) : Prop := a.vlan < b.vlan ∨ (a.vlan = b.vlan ∧ macN a.mac < macN b.mac)
instance (a b : Ent) : Decidable (ltE a b) := by unfold ltE; infer_instance

theorem cmpI_lt {a b : Int} : cmpI a b < 0 ↔ a < b := by
  unfold cmpI
  by_cases h1 : a < b
  · rw [if_pos h1]; simp [h1]
  · rw [if_neg h1]
    by_cases h2 : b < a
    · rw [if_pos h2]; constructor <;> intro h <;> omega
    · rw [if_neg h2]; constructor <;> intro h <;> omega
theorem cmpI_zero {a b : Int} : cmpI a b = 0 ↔ a = b := by
  unfold cmpI
  by_cases h1 : a < b
  · rw [if_pos h1]; constructor <;> intro h <;> omega
  · rw [if_neg h1]
    by_cases h2 : b < a
    · rw [if_pos h2]; constructor <;> intro h <;> omega
    · rw [if_neg h2]; constructor <;> intro h <;> omega
theorem cmpE_lt {a b : Ent} : cmpE a b < 0 ↔ ltE a b := by
  unfold cmpE ltE cmpM
  by_cases h : a.vlan = b.vlan
  · rw [if_neg (fun h2 => h2 (cmpI_zero.2 h)), cmpI_lt]
    constructor
    · intro h2; exact .inr ⟨h, h2⟩
    · rintro (h2 | h2)
      · omega
      · exact h2.2
  · rw [if_pos (fun h2 => h (cmpI_zero.1 h2)), cmpI_lt]
    constructor
    · intro h2; exact .inl h2
    · rintro (h2 | h2)
      · exact h2
      · exact absurd h2.1 h

theorem ltE_irr (a : Ent) : ¬ ltE a a := by unfold ltE; omega
theorem ltE_asym (a b : Ent) (h : ltE a b) : ¬ ltE b a := by unfold ltE at *; omega
theorem ltE_trans {a b c : Ent} (h : ltE a b) (h' : ltE b c) : ltE a c := by unfold ltE at *; omega
theorem ltE_total {a b : Ent} (ha : a.ok) (hb : b.ok) (h : eKey a ≠ eKey b) : ltE a b ∨ ltE b a := by
  unfold ltE
  by_cases h1 : a.vlan = b.vlan
  · have : macN a.mac ≠ macN b.mac := fun h2 => h (by unfold eKey; rw [h1, macN_inj ha.2.1 hb.2.1 h2])
    omega
  · omega
theorem ltE_key {a b : Ent} (h : ltE a b) : eKey a ≠ eKey b := by
  intro e
  unfold eKey at e
  simp only [Prod.mk.injEq] at e
  unfold ltE at h
  rw [e.1, e.2] at h
  omega

/-- entries, in order, each key once -/
def Srt (r : List Ent) : Prop := r.Pairwise ltE ∧ ∀ e ∈ r, e.ok

theorem Srt.nil : Srt [] := ⟨List.Pairwise.nil, by simp⟩
theorem Srt.key {r : List Ent} (h : Srt r) {e f : Ent} (he : e ∈ r) (hf : f ∈ r) (hk : eKey e = eKey f) : e = f := by
  obtain ⟨i, hi, rfl⟩ := List.getElem_of_mem he
  obtain ⟨j, hj, rfl⟩ := List.getElem_of_mem hf
  have hp := List.pairwise_iff_getElem.1 h.1
  rcases Nat.lt_trichotomy i j with hij | rfl | hij
  · exact absurd hk (ltE_key (hp i j hi hj hij))
  · rfl
  · exact absurd hk.symm (ltE_key (hp j i hj hi hij))
theorem Srt.eq {r s : List Ent} (h : Srt r) (h' : Srt s) (he : ∀ e, e ∈ r ↔ e ∈ s) : r = s := eq_of_rising ltE_irr ltE_asym h.1 h'.1 he

def withoutL (l : List Ent) (x : Ent) : List Ent := l.filter fun e => decide (eKey e ≠ eKey x)
def insL (l : List Ent) (x : Ent) : List Ent := l.takeWhile (fun e => decide (ltE e x)) ++ x :: l.dropWhile (fun e => decide (ltE e x))
def withL (l : List Ent) (x : Ent) : List Ent := insL (withoutL l x) x

theorem mem_without {l : List Ent} {x e : Ent} : e ∈ withoutL l x ↔ e ∈ l ∧ eKey e ≠ eKey x := by
  unfold withoutL
  rw [List.mem_filter, decide_eq_true_iff]
theorem mem_ins {l : List Ent} {x e : Ent} : e ∈ insL l x ↔ e = x ∨ e ∈ l := by
  unfold insL
  conv => rhs; rw [← List.takeWhile_append_dropWhile (p := fun e => decide (ltE e x)) (l := l)]
  simp only [List.mem_append, List.mem_cons]
  constructor
  · rintro (h | h | h)
    · exact .inr (.inl h)
    · exact .inl h
    · exact .inr (.inr h)
  · rintro (h | h | h)
    · exact .inr (.inl h)
    · exact .inl h
    · exact .inr (.inr h)
theorem mem_with {l : List Ent} {x e : Ent} : e ∈ withL l x ↔ e = x ∨ (e ∈ l ∧ eKey e ≠ eKey x) := by
  unfold withL
  rw [mem_ins, mem_without]

theorem Srt.without {r : List Ent} (h : Srt r) (x : Ent) : Srt (withoutL r x) := ⟨h.1.filter _, fun e he => h.2 e (mem_without.1 he).1⟩
theorem Srt.with {r : List Ent} (h : Srt r) {x : Ent} (hx : x.ok) : Srt (withL r x) := by
  have hw := h.without x
  have hk : ∀ e ∈ withoutL r x, eKey e ≠ eKey x := fun e he => (mem_without.1 he).2
  refine ⟨?_, fun e he => ?_⟩
  · unfold withL
    generalize withoutL r x = l at *
    clear h
    unfold insL
    have hcut : ∀ e ∈ l.dropWhile (fun e => decide (ltE e x)), ltE x e := by
      have hs : (l.dropWhile (fun e => decide (ltE e x))).Pairwise ltE := hw.1.sublist (List.dropWhile_sublist _)
      cases hd : l.dropWhile (fun e => decide (ltE e x)) with
      | nil => simp
      | cons f k =>
        rw [hd] at hs
        have hf : ¬ ltE f x := by
          have := List.head_dropWhile_not (fun e => decide (ltE e x)) (l := l) (by rw [hd]; simp)
          simp only [hd, List.head_cons] at this
          simpa using this
        have hfl : f ∈ l := (List.dropWhile_sublist _).subset (by rw [hd]; exact List.mem_cons_self ..)
        have hxf : ltE x f := (ltE_total (hw.2 f hfl) hx (hk f hfl)).resolve_left hf
        intro e he
        rcases List.mem_cons.1 he with rfl | he
        · exact hxf
        · exact ltE_trans hxf ((List.pairwise_cons.1 hs).1 e he)
    have htk : ∀ e ∈ l.takeWhile (fun e => decide (ltE e x)), ltE e x := fun e he => by
      have := List.all_eq_true.1 (List.all_takeWhile (p := fun e => decide (ltE e x)) (l := l)) e he
      simpa using this
    rw [List.pairwise_append]
    refine ⟨hw.1.sublist (List.takeWhile_sublist _), List.pairwise_cons.2 ⟨hcut, hw.1.sublist (List.dropWhile_sublist _)⟩, fun a ha b hb => ?_⟩
    rcases List.mem_cons.1 hb with rfl | hb
    · exact htk a ha
    · exact ltE_trans (htk a ha) (hcut b hb)
  · rcases mem_with.1 he with rfl | he
    · exact hx
    · exact h.2 e he.1

def chL (r : List Ent) (c : Ent × Bool) : List Ent := if c.2 then withoutL r c.1 else withL r c.1
def replayL (l : List Ent) (cs : List (Ent × Bool)) : List Ent := cs.foldl chL (l.foldl withL [])

theorem Srt.ch {r : List Ent} (h : Srt r) {c : Ent × Bool} (hc : c.1.ok) : Srt (chL r c) := by
  unfold chL
  split
  · exact h.without _
  · exact h.with hc
theorem Srt.chs {r : List Ent} (h : Srt r) : ∀ {cs : List (Ent × Bool)}, (∀ c ∈ cs, c.1.ok) → Srt (cs.foldl chL r)
  | [], _ => h
  | c :: cs, hc => by
    rw [List.foldl_cons]
    exact Srt.chs (h.ch (hc c (List.mem_cons_self ..))) fun d hd => hc d (List.mem_cons_of_mem _ hd)
theorem Srt.ents {r : List Ent} (h : Srt r) : ∀ {l : List Ent}, (∀ e ∈ l, e.ok) → Srt (l.foldl withL r)
  | [], _ => h
  | c :: cs, hc => by
    rw [List.foldl_cons]
    exact Srt.ents (h.with (hc c (List.mem_cons_self ..))) fun d hd => hc d (List.mem_cons_of_mem _ hd)
theorem Srt.replay {l : List Ent} {cs : List (Ent × Bool)} (hl : ∀ e ∈ l, e.ok) (hc : ∀ c ∈ cs, c.1.ok) : Srt (replayL l cs) := (Srt.nil.ents hl).chs hc

theorem without_len (l : List Ent) (x : Ent) : (withoutL l x).length ≤ l.length := List.length_filter_le _ _
theorem ins_len (l : List Ent) (x : Ent) : (insL l x).length = l.length + 1 := by
  have h := congrArg List.length (List.takeWhile_append_dropWhile (p := fun e => decide (ltE e x)) (l := l))
  unfold insL
  rw [List.length_append] at h ⊢
  rw [List.length_cons]
  omega
theorem with_len (l : List Ent) (x : Ent) : (withL l x).length ≤ l.length + 1 := by
  unfold withL
  rw [ins_len]
  have := without_len l x
  omega
theorem ents_len : ∀ (l r : List Ent), (l.foldl withL r).length ≤ r.length + l.length
  | [], r => by simp
  | e :: l, r => by
    rw [List.foldl_cons, List.length_cons]
    have := ents_len l (withL r e)
    have := with_len r e
    omega
theorem chs_len : ∀ (cs : List (Ent × Bool)) (r : List Ent), (cs.foldl chL r).length ≤ r.length + cs.length
  | [], r => by simp
  | c :: cs, r => by
    rw [List.foldl_cons, List.length_cons]
    have := chs_len cs (chL r c)
    have h1 := with_len r c.1
    have h2 := without_len r c.1
    have : (chL r c).length ≤ r.length + 1 := by unfold chL; split <;> omega
    omega
theorem replay_len (l : List Ent) (cs : List (Ent × Bool)) : (replayL l cs).length ≤ l.length + cs.length := by
  have h1 := chs_len cs (l.foldl withL [])
  have h2 := ents_len l []
  unfold replayL
  simp at h2
  omega

/-- entries in order are put in as they are -/
theorem ents_self {r : List Ent} (h : Srt r) : r.foldl withL [] = r := by
  have key : ∀ (l : List Ent) (s : List Ent), Srt (s ++ l) → l.foldl withL s = s ++ l := by
    intro l
    induction l with
    | nil => intro s _; simp
    | cons e l ih =>
      intro s hs
      rw [List.foldl_cons]
      have hse : Srt s := ⟨hs.1.sublist (List.sublist_append_left _ _), fun x hx => hs.2 x (List.mem_append_left _ hx)⟩
      have hek : e.ok := hs.2 e (by simp)
      have hsub : Srt (s ++ [e]) := ⟨hs.1.sublist (List.Sublist.append_left (by simp) _), fun x hx => hs.2 x (by simp at hx ⊢; rcases hx with h | h; exact .inl h; exact .inr (.inl h))⟩
      have hw : withL s e = s ++ [e] := by
        refine (hse.with hek).eq hsub fun x => ?_
        rw [mem_with, List.mem_append, List.mem_singleton]
        have hlt : ∀ y ∈ s, ltE y e := fun y hy => (List.pairwise_append.1 hsub.1).2.2 y hy e (by simp)
        constructor
        · rintro (h | h)
          · exact .inr h
          · exact .inl h.1
        · rintro (h | h)
          · exact .inr ⟨h, ltE_key (hlt x h)⟩
          · exact .inl h
      rw [hw, ih (s ++ [e]) (by simpa using hs)]
      simp
  simpa using key r [] (by simpa using h)

theorem replay_self {r : List Ent} (h : Srt r) (cs : List (Ent × Bool)) : replayL r cs = cs.foldl chL r := by
  unfold replayL
  rw [ents_self h]

/-! ### A map of entries -/

structure RM (m : List ((Int × Mac) × Ent)) (r : List Ent) : Prop where
  srt : Srt r
  mem : ∀ e, e ∈ r ↔ (eKey e, e) ∈ m
  key : ∀ p ∈ m, p.1 = eKey p.2
  nd : (m.map Prod.fst).Nodup

theorem RM.nil : RM [] [] := ⟨Srt.nil, by simp, by simp, by simp⟩
theorem setL_mem_iff {κ ν : Type} [DecidableEq κ] {l : List (κ × ν)} (hn : (l.map Prod.fst).Nodup) {k : κ} {v : ν} {x : κ × ν} : x ∈ setL l k v ↔ x = (k, v) ∨ (x ∈ l ∧ x.1 ≠ k) := by
  have hns := VT.setL_nodup (k := k) (v := v) hn
  have key : ∀ (q : List (κ × ν)), (q.map Prod.fst).Nodup → ∀ y, y ∈ q ↔ getL q y.1 = some y.2 := fun q hq y => ⟨fun h => lookup_of_mem hq h, fun h => lookup_some_mem h⟩
  rw [key _ hns, lookup_setL]
  by_cases e : x.1 = k
  · rw [if_pos e]
    constructor
    · intro h
      left
      simp only [Option.some.injEq] at h
      exact Prod.ext e h.symm
    · rintro (h | h)
      · rw [h]
      · exact absurd e h.2
  · rw [if_neg e]
    constructor
    · intro h; exact .inr ⟨lookup_some_mem h, e⟩
    · rintro (h | h)
      · rw [h] at e; exact absurd rfl e
      · exact lookup_of_mem hn h.1
theorem delL_mem_iff {κ ν : Type} [DecidableEq κ] {l : List (κ × ν)} {k : κ} {x : κ × ν} : x ∈ delL l k ↔ x ∈ l ∧ x.1 ≠ k := by
  unfold delL
  rw [List.mem_filter, decide_eq_true_iff]

theorem RM.set {m : List ((Int × Mac) × Ent)} {r : List Ent} (h : RM m r) {e : Ent} (he : e.ok) : RM (setL m (eKey e) e) (withL r e) := by
  refine ⟨h.srt.with he, fun f => ?_, fun p hp => ?_, VT.setL_nodup h.nd⟩
  · rw [mem_with, setL_mem_iff h.nd, h.mem]
    constructor
    · rintro (rfl | ⟨h1, h2⟩)
      · exact .inl rfl
      · exact .inr ⟨h1, h2⟩
    · rintro (h1 | ⟨h1, h2⟩)
      · exact .inl (Prod.ext_iff.1 h1).2
      · exact .inr ⟨h1, h2⟩
  · rcases (setL_mem_iff h.nd).1 hp with rfl | ⟨h1, _⟩
    · rfl
    · exact h.key p h1
theorem RM.del {m : List ((Int × Mac) × Ent)} {r : List Ent} (h : RM m r) (e : Ent) : RM (delL m (eKey e)) (withoutL r e) := by
  refine ⟨h.srt.without e, fun f => ?_, fun p hp => h.key p (delL_mem_iff.1 hp).1, h.nd.sublist ((VT.delL_sub _ _).map _)⟩
  rw [mem_without, delL_mem_iff, h.mem]

/-- what comes out of the map, sorted -/
theorem RM.out {m d : List ((Int × Mac) × Ent)} {r ys : List Ent} (h : RM m r) (hd : d.Perm m) (hy : ys.Perm (d.map Prod.snd)) (hs : ys.Pairwise fun x y => ¬ cmpE y x < 0) : ys = r := by
  have hm : ∀ e, e ∈ ys ↔ e ∈ r := fun e => by
    rw [hy.mem_iff, (hd.map _).mem_iff, h.mem, List.mem_map]
    constructor
    · rintro ⟨p, hp, rfl⟩
      have := h.key p hp
      rw [← this]; exact hp
    · intro hp; exact ⟨_, hp, rfl⟩
  have hnd : ys.Nodup := by
    rw [hy.nodup_iff, (hd.map _).nodup_iff]
    have : (m.map Prod.snd).map eKey = m.map Prod.fst := by
      rw [List.map_map]
      exact List.map_congr_left fun p hp => (h.key p hp).symm
    have hn := h.nd
    rw [← this] at hn
    exact List.Pairwise.of_map eKey (fun a b h e => h (congrArg eKey e)) hn
  refine Srt.eq ⟨?_, fun e he => h.srt.2 e ((hm e).1 he)⟩ h.srt hm
  rw [List.pairwise_iff_getElem] at hs ⊢
  intro i j hi hj hij
  have h1 := hs i j hi hj hij
  rw [cmpE_lt] at h1
  have hne : ys[i] ≠ ys[j] := List.pairwise_iff_getElem.1 hnd i j hi hj hij
  have hmi := (hm _).1 (List.getElem_mem hi)
  have hmj := (hm _).1 (List.getElem_mem hj)
  have hk : eKey ys[i] ≠ eKey ys[j] := fun e => hne (h.srt.key hmi hmj e)
  exact (ltE_total (h.srt.2 _ hmi) (h.srt.2 _ hmj) hk).resolve_right h1

theorem swoE {p : Ent → Prop} : SWO (ltOf fun x y : { e : Ent // p e } => cmpE x.1 y.1) where
  irrefl x := by
    unfold ltOf
    rw [decide_eq_false_iff_not, cmpE_lt]
    exact ltE_irr _
  trans x y z h1 h2 := by
    unfold ltOf at *
    rw [decide_eq_true_iff, cmpE_lt] at *
    exact ltE_trans h1 h2
  ntrans x y z h1 h2 := by
    unfold ltOf at *
    rw [decide_eq_false_iff_not, cmpE_lt] at *
    unfold ltE at *
    omega

end Go.Gx
end

section
/- Bytes that are copied, cut out, made; shifts and bits. -/
namespace Go.Gx
open Go
variable {P : Program} {K : Value → World → Prop} {w : World}

/-! ### Numbers -/

theorem wrap_u8 (x : Int) : IntKind.u8.wrap x = x % 256 := by
  unfold IntKind.wrap
  have e1 : (2 : Int) ^ IntKind.u8.bits = 256 := rfl
  have e3 : IntKind.u8.signed = false := rfl
  simp only [e1, e3, Bool.false_and, Bool.false_eq_true, if_false]

theorem opS_shr (k k' : IntKind) (x : Int) (n : Nat) (hn : n ≤ k.bits) : opS P (S.binI .shr (.int k x) (.int k' n)) K w = K (.int k (x / 2 ^ n)) w := by
  have h : ¬ ((n : Int) < 0) := by omega
  have e : x.fdiv (2 ^ n) = x / 2 ^ n := Int.fdiv_eq_ediv_of_nonneg x (Int.le_of_lt (Int.pow_pos (by decide)))
  simp [S.binI, binOp, Op.shift, opS, uponR, Nat.min_eq_left hn, h, e]
theorem opS_shl (k k' : IntKind) (x : Int) (n : Nat) (hn : n ≤ k.bits) : opS P (S.binI .shl (.int k x) (.int k' n)) K w = K (.int k (k.wrap (x * 2 ^ n))) w := by
  have h : ¬ ((n : Int) < 0) := by omega
  simp [S.binI, binOp, Op.shift, opS, uponR, Nat.min_eq_left hn, h]

theorem ofInt_nat {n : Nat} {x : Int} (h0 : 0 ≤ x) : BitVec.ofInt n x = BitVec.ofNat n x.toNat := by
  obtain ⟨k, rfl⟩ := Int.eq_ofNat_of_zero_le h0
  simp

/-- bits that do not meet -/
theorem opS_or {x y : Int} (m : Nat) (hx : 0 ≤ x) (hx2 : x < 2 ^ 62) (hy : 0 ≤ y) (hy2 : y < 2 ^ m) (hm : x % 2 ^ m = 0) (hm2 : m ≤ 62) : opS P (S.binI .or (.int .i64 x) (.int .i64 y)) K w = K (.int .i64 (x + y)) w := by
  obtain ⟨a, rfl⟩ := Int.eq_ofNat_of_zero_le hx
  obtain ⟨b, rfl⟩ := Int.eq_ofNat_of_zero_le hy
  have hb : b < 2 ^ m := by exact_mod_cast hy2
  have ha : a < 2 ^ 62 := by exact_mod_cast hx2
  have hd : a % 2 ^ m = 0 := by exact_mod_cast hm
  have hpm : 2 ^ m ≤ 2 ^ 62 := Nat.pow_le_pow_right (by decide) hm2
  have e : (BitVec.ofInt 64 (a : Int) ||| BitVec.ofInt 64 (b : Int)).toNat = a + b := by
    rw [ofInt_nat (by omega), ofInt_nat (by omega), BitVec.toNat_or]
    simp only [Int.toNat_natCast, BitVec.toNat_ofNat]
    rw [Nat.mod_eq_of_lt (by omega), Nat.mod_eq_of_lt (by omega)]
    have : a = a / 2 ^ m * 2 ^ m := by
      have := Nat.div_add_mod a (2 ^ m)
      rw [hd, Nat.mul_comm] at this
      omega
    rw [this, ← Nat.shiftLeft_eq, ← Nat.shiftLeft_add_eq_or_of_lt hb]
  have hw : IntKind.i64.wrap ((a + b : Nat) : Int) = (a : Int) + b := by
    rw [wrap_i64 (by omega)]; simp
  unfold S.binI
  simp only []
  have : (binOp .or 0 (.int .i64 (a : Int)) (.int .i64 (b : Int))).run P w = .ok (.int .i64 ((a : Int) + b)) w := by
    show (Op.intBits .or .i64 (a : Int) (b : Int)).run P w = _
    unfold Op.intBits
    show Result.ok (Value.int .i64 (IntKind.i64.wrap ((BitVec.ofInt 64 (a : Int) ||| BitVec.ofInt 64 (b : Int)).toNat : Int))) w = _
    rw [e, hw]
  rw [opS_bind, this]

/-- the low bits -/
theorem opS_and {x : Int} (m : Nat) (hx : 0 ≤ x) (hx2 : x < 2 ^ 62) (hm : m ≤ 62) : opS P (S.binI .and (.int .i64 x) (.int .i64 (2 ^ m - 1))) K w = K (.int .i64 (x % 2 ^ m)) w := by
  obtain ⟨a, rfl⟩ := Int.eq_ofNat_of_zero_le hx
  have ha : a < 2 ^ 62 := by exact_mod_cast hx2
  have hpm : 2 ^ m ≤ 2 ^ 62 := Nat.pow_le_pow_right (by decide) hm
  have hp0 : 0 < 2 ^ m := Nat.pow_pos (by decide)
  have eb : ((2 : Int) ^ m - 1) = ((2 ^ m - 1 : Nat) : Int) := by
    rw [Int.natCast_sub (by omega)]; simp
  have e : (BitVec.ofInt 64 (a : Int) &&& BitVec.ofInt 64 ((2 : Int) ^ m - 1)).toNat = a % 2 ^ m := by
    rw [eb, ofInt_nat (by omega), ofInt_nat (by omega), BitVec.toNat_and]
    simp only [Int.toNat_natCast, BitVec.toNat_ofNat]
    rw [Nat.mod_eq_of_lt (by omega), Nat.mod_eq_of_lt (by omega), Nat.and_two_pow_sub_one_eq_mod]
  have hlt : a % 2 ^ m < 2 ^ m := Nat.mod_lt _ hp0
  have hw : IntKind.i64.wrap ((a % 2 ^ m : Nat) : Int) = (a : Int) % 2 ^ m := by
    rw [wrap_i64 (by omega)]; simp
  unfold S.binI
  simp only []
  have : (binOp .and 0 (.int .i64 (a : Int)) (.int .i64 ((2 : Int) ^ m - 1))).run P w = .ok (.int .i64 ((a : Int) % 2 ^ m)) w := by
    show Result.ok (Value.int .i64 (IntKind.i64.wrap ((BitVec.ofInt 64 (a : Int) &&& BitVec.ofInt 64 ((2 : Int) ^ m - 1)).toNat : Int))) w = _
    rw [e, hw]
  rw [opS_bind, this]

/-! ### Parts of arrays; room -/

theorem opS_slcA {T E n sz : Nat} {ag : Bool} [hT : ArT P T n E] [hs : Sz P E sz ag] (b o : Nat) : opS P (S.slc T (pt b o) none none none) K w = K (.slice (some ⟨b, o, none⟩) n n) w := by
  unfold S.slc
  rw [opS_bind]
  unfold Instr.sliceAt
  rw [Sem.run_bind, run_underlying_of hT.und, Result.andThen_ok]
  simp only []
  have : (Instr.sureAddr (pt b o)).run P w = .ok ⟨b, o, none⟩ w := rfl
  rw [Sem.run_bind, this, Result.andThen_ok]
  have hb : (Instr.sliceBounds false n n none none none).run P w = .ok (0, n, n) w := rfl
  rw [Sem.run_bind, hb, Result.andThen_ok]
  simp only []
  rw [Sem.run_bind, hs.size w, Result.andThen_ok]
  simp only [Nat.zero_mul, add_none, Nat.add_zero, ite_self, Nat.sub_zero]
  rfl

theorem opS_cap {T ty : TypeId} {E : outParam TypeId} [hT : SlT P T E] (a : Option Addr) (n c : Nat) : opS P (S.bi .cap #[T] ty [.slice a n c]) K w = K (.int .i64 c) w := by
  show opS P (do pure (Next.value (← Builtin.cap_ #[T] ty #[.slice a n c]))) K w = _
  rw [opS_bind]
  unfold Builtin.cap_
  simp only [List.getElem?_toArray, List.getElem?_cons_zero]
  rw [Sem.run_bind, run_underlying_of hT.und, Result.andThen_ok]
  rfl

theorem opS_slc0 {T E sz : Nat} {ag : Bool} [hT : SlT P T E] [hs : Sz P E sz ag] {b o n c : Nat} {k : IntKind} : opS P (S.slc T (.slice (some ⟨b, o, none⟩) n c) (some (.int k 0)) none none) K w = K (.slice (some ⟨b, o, none⟩) n c) w := by
  rw [opS_slice (run_boundsL (lo := 0) (by omega) (by omega))]
  simp [add_none]

theorem wr_nil (w : World) (b o : Nat) : wr w b o [] = w := by
  unfold wr
  split
  · rename_i c T fz h
    rw [splice_nil]
    simp only [Array.toArray_toList]
    unfold upd
    have : w.heap.setIfInBounds b (.cells c T fz) = w.heap := by
      apply Array.ext_getElem?
      intro i
      rw [Array.getElem?_setIfInBounds]
      by_cases e : b = i
      · subst e
        rw [if_pos rfl, h, if_pos (lt_of_heap h)]
      · rw [if_neg e]
    rw [this]
  · rfl

/-- 'copy' of as many as there is room for -/
theorem s_copy {T T2 E sz : Nat} {ag : Bool} {ty : TypeId} [hT : SlT P T E] [hs : Sz P E sz ag] {b o n c m : Nat} {u : Value} {k : List Value} {cs : Array Value} {TT : TypeId} (hb : w.heap[b]? = some (.cells cs TT (0, 0)))
    (hu : Rd sz w u m k) (hk : k.all S.oneCell = true) (hm : m ≤ n) (hn : o + n * sz ≤ cs.size) : opS P (S.bi .copy #[T, T2] ty [.slice (some ⟨b, o, none⟩) n c, u]) K w = K (.int .i64 m) (wr w b o k) := by
  show opS P (do pure (Next.value (← Builtin.copy_ #[T, T2] ty #[.slice (some ⟨b, o, none⟩) n c, u]))) K w = _
  rw [opS_bind]
  unfold Builtin.copy_
  simp only [List.getElem?_toArray, List.getElem?_cons_zero, List.getElem?_cons_succ]
  rw [Sem.run_bind, run_underlying_of hT.und, Result.andThen_ok]
  simp only []
  obtain ⟨ua, uc, rfl⟩ := hu.form
  have hlen : (Builtin.lenOf (.slice ua m uc)).run P w = .ok m w := rfl
  have hmin : Nat.min m n = m := Nat.min_eq_left hm
  rw [Sem.run_bind, hlen, Result.andThen_ok, hmin, Sem.run_bind, hs.size w, Result.andThen_ok, Sem.run_bind, run_firstCells hu, Result.andThen_ok]
  have hkl := hu.len
  have hmul : m * sz ≤ n * sz := Nat.mul_le_mul_right _ hm
  have hst := run_storeCells (P := P) k w cs 0 o hb hk (by omega) (fun j hj => by simp)
  rw [Sem.run_bind]
  simp only [Nat.add_zero] at hst
  rw [hst, Result.andThen_ok]
  unfold wr
  rw [hb]
  rfl

theorem opS_mksc {T E n by_ : Nat} {ag : Bool} {z : Value} [hT : SlT P T E] [hs : Sz P E n ag] [hb : By P E by_] [hz : ZV P E z] (k k' : IntKind) (len cap : Int) (h0 : 0 ≤ len) (h0' : len ≤ cap) (h1 : by_ * cap ≤ 2 ^ 48) (h2 : cap < 2 ^ 62)
    (hn : z.cells.size = n) (hn0 : 0 < n) : opS P (S.mks T (.int k len) (.int k' cap)) K w = K (.slice (some ⟨w.heap.size, 0, none⟩) len.toNat cap.toNat) (w.alloc (.cells (zeros cap.toNat z.cells.toList).toArray E)) := by
  obtain ⟨i, hi, hib⟩ := hb.bytes
  unfold S.mks
  rw [opS_bind]
  unfold Instr.makeSlice
  rw [Sem.run_bind, run_underlying_of hT.und, Result.andThen_ok]
  have hw : IntKind.i64.wrap len = len := wrap_i64 (by omega)
  have hw' : IntKind.i64.wrap cap = cap := wrap_i64 (by omega)
  simp only [asInt, asIntOf, pure_bind, hw, hw']
  rw [Sem.run_bind, hi w, Result.andThen_ok]
  have ht : (decide (cap < 0) || decide ((i.bytes : Int) * cap > 2 ^ 48)) = false := by
    rw [hib]; simp; omega
  have hc : ((decide (cap < 0) || decide ((i.bytes : Int) * cap > 2 ^ 48)) || decide (len < 0) || decide (len > cap)) = false := by
    rw [ht]; simp; omega
  simp only [hc, Bool.false_eq_true, if_false]
  have har : (askRoom (cap.toNat * i.bytes)).run P w = .ok () w := by
    unfold askRoom; split <;> rfl
  rw [Sem.run_bind, har, Result.andThen_ok, Sem.run_bind, hs.size w, Result.andThen_ok]
  have hrz := range_zeros cap.toNat z.cells
  rw [hn] at hrz
  by_cases hz0 : cap.toNat * n = 0
  · rw [if_pos hz0, Sem.run_bind]
    have hl0 : cap.toNat = 0 := by
      rcases Nat.mul_eq_zero.1 hz0 with h | h
      · exact h
      · omega
    have e0 : Array.range 0 = #[] := by simp
    simp only [hl0, Nat.zero_mul, e0, Array.map_empty]
    rfl
  · rw [if_neg hz0, Sem.run_bind, hz.zero w, Result.andThen_ok, Sem.run_bind, hn, hrz]
    rfl

/-- 'append([]T(nil), make([]T, n)...)' -/
theorem s_appmk {T T2 E sz by_ : Nat} {ag : Bool} {z : Value} {ty : TypeId} [hT : SlT P T E] (hT2 : P.underlying T2 = some (.int .i64)) [hs : Sz P E sz ag] [hb : By P E by_] [hz : ZV P E z] {n : Nat} (hn : 0 < n) (hzn : z.cells.size = sz) (hsz : 0 < sz) (hby : 0 < by_) (hroom : (2 * n + 192) * by_ ≤ 2 ^ 48)
    (h : ∀ c w', Own E sz w' (.slice (some ⟨w.heap.size, 0, none⟩) n c) n (zeros n z.cells.toList) → c < 2 ^ 63 → Fr none_ w w' → K (.slice (some ⟨w.heap.size, 0, none⟩) n c) w') : opS P (S.bi .append #[T, T2] ty [.slice none 0 0, .int .i64 n]) K w := by
  obtain ⟨inf, hi, hib⟩ := hb.bytes
  show opS P (do pure (Next.value (← Builtin.append_ #[T, T2] ty #[.slice none 0 0, .int .i64 n]))) K w
  rw [opS_bind]
  unfold Builtin.append_
  simp only [List.getElem?_toArray, List.getElem?_cons_zero, List.getElem?_cons_succ]
  rw [Sem.run_bind, run_underlying_of hT.und, Result.andThen_ok]
  simp only []
  rw [Sem.run_bind, hs.size w, Result.andThen_ok, Sem.run_bind, run_underlying_of hT2, Result.andThen_ok]
  have hnn : (2 * n + 192) ≤ 2 ^ 48 := Nat.le_trans (Nat.le_mul_of_pos_right _ hby) hroom
  have hw : IntKind.i64.wrap (n : Int) = n := wrap_i64 (by omega)
  simp only [pure_bind, Bool.not_true, Bool.false_eq_true, if_false, if_true, asInt, asIntOf, hw]
  rw [if_neg (by omega)]
  have hnb : n * by_ ≤ 2 ^ 48 := Nat.le_trans (Nat.mul_le_mul_right by_ (by omega)) hroom
  rw [Sem.run_bind, hi w, Result.andThen_ok, if_neg (by rw [hib]; omega)]
  simp only [Int.toNat_natCast, Nat.zero_add]
  rw [if_neg (by omega)]
  have hg : ¬ (((n : Nat) : Int) > IntKind.i64.max) := by
    have e2 : IntKind.i64.max = 9223372036854775807 := rfl
    rw [e2]; omega
  have hg2 : ¬ (Builtin.nextslicecap n 0 * inf.bytes > 2 ^ 48) := by
    have : Builtin.nextslicecap n 0 = n := by unfold Builtin.nextslicecap; rw [if_pos (by omega)]
    rw [this, hib]; omega
  have har : ∀ x w', (askRoom x).run P w' = .ok () w' := by
    intro x w'; unfold askRoom; split <;> rfl
  rw [Sem.run_bind, hi w, Result.andThen_ok, if_neg (by simp; omega), Sem.run_bind, hi w, Result.andThen_ok, if_neg hg2]
  rw [Sem.run_bind, run_choose rfl, Result.andThen_ok, Sem.run_bind, hi _, Result.andThen_ok, Sem.run_bind, har, Result.andThen_ok]
  have hfc : ∀ w', (Builtin.firstCells sz 0 (.slice none 0 0)).run P w' = .ok #[] w' := fun _ => rfl
  rw [Sem.run_bind, hfc, Result.andThen_ok, if_neg (by have := Nat.mul_pos hn hsz; omega), Sem.run_bind, Sem.run_bind, hz.zero, Result.andThen_ok, Sem.run_pure, Result.andThen_ok, Sem.run_bind, hz.zero, Result.andThen_ok, run_zeroCells_ok, run_zeroCells_ok]
  have hq : ∀ q : Nat, (Question.appendCap n 0 E).cut q = n + q % (2 ^ 63 - n) := fun _ => rfl
  rw [hq]
  have hlt : ∀ q : Nat, q % (2 ^ 63 - n) < 2 ^ 63 - n := fun q => Nat.mod_lt _ (by omega)
  have hx2 := hlt (w.tape w.drawn (Question.appendCap n 0 E))
  generalize w.tape w.drawn (Question.appendCap n 0 E) % (2 ^ 63 - n) = x at *
  have hx : n + x - n = x := by omega
  rw [hx]
  have hnew : ∀ (cs : Array Value) (w' : World), (newRow E cs).run P w' = .ok ⟨w'.heap.size, 0, none⟩ (w'.alloc (.cells cs E)) := fun _ _ => rfl
  rw [Sem.run_bind, hnew, Result.andThen_ok]
  simp only [Sem.run_pure]
  have hcs : (#[] ++ (zeros n z.cells.toList).toArray ++ (zeros x z.cells.toList).toArray).toList = zeros n z.cells.toList ++ zeros x z.cells.toList := by simp
  have hzl : ∀ y, (zeros y z.cells.toList).length = y * sz := fun y => by rw [zeros_length]; simp [hzn]
  refine h _ _ (.inr ⟨w.heap.size, 0, n + x, _, rfl, heap_alloc_new w.drew _, by omega, ?_, ?_⟩) (by omega) ((Fr.drew w).trans (Fr.alloc _ _ rfl))
  · rw [← Array.length_toList, hcs, List.length_append, hzl, hzl, Nat.add_mul]; omega
  · rw [hcs, List.drop_zero, List.take_append_of_le_length (by rw [hzl]; exact Nat.le_refl _), List.take_of_length_le (by rw [hzl]; exact Nat.le_refl _)]

theorem s_bs2o {T E : TypeId} {ag : Bool} {z : Value} [hT : SlT P T E] [hs : Sz P E 1 ag] [hz : ZV P E z] {x y : Value} (hx : S.oneCell x = true) (hy : S.oneCell y = true) (hzn : z.cells.size = 1)
    (h : ∀ v' o, OwnE E 1 (w.alloc o) v' [[x], [y]] → loose o = true → New w v' → K v' (w.alloc o)) : opS P (S.buildS T 2 [(0, x), (1, y)]) K w := by
  have hc : x.cells = #[x] := by cases x <;> first | rfl | cases hx
  have hc' : y.cells = #[y] := by cases y <;> first | rfl | cases hy
  unfold S.buildS
  rw [opS_bind]
  unfold Instr.buildSlice
  rw [Sem.run_bind, run_underlying_of hT.und, Result.andThen_ok]
  simp only []
  rw [Sem.run_bind, hs.size w, Result.andThen_ok]
  simp only [Nat.mul_one]
  rw [if_neg (by omega), if_neg (by omega), Sem.run_bind, hz.zero w, Result.andThen_ok]
  have hr := range_zeros 2 z.cells
  rw [hzn] at hr
  simp only [pure_bind, hzn, Nat.mul_one] at hr ⊢
  rw [hr]
  have hzl : z.cells.toList.length = 1 := by simp [hzn]
  have hz2 : (zeros 2 z.cells.toList).length = 2 := by rw [zeros_length, hzl]
  rw [fill_cons (off := 0) (size := 1) (by simp) (by rw [hc]; rfl) (by simp [hz2]), hc]
  have e1 : (splice (zeros 2 z.cells.toList).toArray.toList 0 #[x].toList).length = 2 := by rw [splice_length] <;> simp [hz2]
  rw [fill_cons (off := 1) (size := 1) (by simp) (by rw [hc']; rfl) (by rw [List.size_toArray, e1]; exact Nat.le_refl _), hc']
  have e : splice (splice (zeros 2 z.cells.toList).toArray.toList 0 #[x].toList).toArray.toList 1 #[y].toList = [x, y] := by
    match hzs : zeros 2 z.cells.toList, hz2 with
    | [a, b], _ => rfl
  rw [e]
  simp only [Instr.fill]
  refine h _ _ ⟨.inr ⟨w.heap.size, 0, 2, #[x, y], rfl, heap_alloc_new _ _, by simp, by simp, by simp⟩, by simp⟩ rfl fun b hb => ?_
  cases hb; exact Nat.le_refl _

theorem s_bs2c {T E : TypeId} {ag : Bool} {z : Value} [hT : SlT P T E] [hs : Sz P E 1 ag] [hz : ZV P E z] {x y : Value} (hx : S.oneCell x = true) (hy : S.oneCell y = true) (hzn : z.cells.size = 1)
    (h : ∀ v' w', OwnE E 1 w' v' [[x], [y]] → Fr none_ w w' → New w v' → K v' w') : opS P (S.buildS T 2 [(0, x), (1, y)]) K w :=
  s_bs2o hx hy hzn fun v' o h1 h2 h3 => h v' _ h1 (Fr.alloc _ _ h2) h3

theorem RdE.cap {sz : Nat} {v : Value} {es : List (List Value)} (h : RdE sz w v es) : ∃ a c, v = .slice a es.length c ∧ es.length ≤ c := by
  rcases h.1 with ⟨⟨a, c, rfl⟩, h2, _⟩ | ⟨b, o, c, cs, T, fz, rfl, _, hc, _⟩
  · exact ⟨a, c, by rw [h2], by omega⟩
  · exact ⟨_, c, rfl, hc⟩

/-- 'v[:k]' -/
theorem s_slcH {T E sz : Nat} {ag : Bool} [hT : SlT P T E] [hs : Sz P E sz ag] {v : Value} {es : List (List Value)} (h : RdE sz w v es) {k : Nat} (hk : k ≤ es.length) (hK : ∀ v', RdE sz w v' (es.take k) → K v' w) : opS P (S.slc T v none (some (.int .i64 k)) none) K w := by
  obtain ⟨a, c, rfl, hc⟩ := h.cap
  rw [opS_slice (run_boundsH (hi := (k : Int)) (by omega) (by omega))]
  have := h.part (l := 0) (m := k) (by omega) hk
  rw [List.drop_zero] at this
  exact hK _ this

/-- 'v[k:]' -/
theorem s_slcL {T E sz : Nat} {ag : Bool} [hT : SlT P T E] [hs : Sz P E sz ag] {v : Value} {es : List (List Value)} (h : RdE sz w v es) {k : Nat} (hk : k ≤ es.length) (hK : ∀ v', RdE sz w v' (es.drop k) → K v' w) : opS P (S.slc T v (some (.int .i64 k)) none none) K w := by
  obtain ⟨a, c, rfl, hc⟩ := h.cap
  rw [opS_slice (run_boundsL (lo := (k : Int)) (by omega) (by omega))]
  have := h.part (l := k) (m := es.length) hk (Nat.le_refl _)
  rw [List.take_length] at this
  exact hK _ this

/-! ### What one holds, by cells -/

/-- a part of what one holds is written -/
theorem Own.copy {E b o c n m : Nat} {l js k : List Value} (h : Own E 1 w (.slice (some ⟨b, o, none⟩) (n + m) c) (n + m) (l ++ js)) (hl : l.length = n) (hk : k.length = m) :
    Own E 1 (wr w b (o + n) k) (.slice (some ⟨b, o, none⟩) (n + m) c) (n + m) (l ++ k) := by
  rcases h with ⟨h, _⟩ | ⟨b', o', c', cs, hv, hb, hc, ho, he⟩
  · cases h
  · simp only [Value.slice.injEq, Option.some.injEq, Addr.mk.injEq, and_true, true_and] at hv
    obtain ⟨⟨rfl, rfl⟩, rfl⟩ := hv
    have hsz : cs.toList.length = cs.size := Array.length_toList
    refine .inr ⟨b, o, c, (splice cs.toList (o + n) k).toArray, rfl, ?_, hc, ?_, ?_⟩
    · rw [heap_wr, if_pos rfl, hb]; rfl
    · rw [List.size_toArray, splice_length (by omega)]; simpa using ho
    · have := splice_window (l := cs.toList) (k := k) (o := o) (a := n) (by omega)
      show l ++ k = List.take _ (List.drop o (splice cs.toList (o + n) k))
      rw [Nat.mul_one, ← hk, this]
      congr 1
      have := congrArg (List.take n) he
      rw [← hl, List.take_left, List.take_take] at this
      rw [hl, Nat.mul_one, Nat.min_eq_left (by omega)] at this
      exact this

theorem Own.splice {E b o c n a : Nat} {l k : List Value} (h : Own E 1 w (.slice (some ⟨b, o, none⟩) n c) n l) (ha : a + k.length ≤ n) :
    Own E 1 (wr w b (o + a) k) (.slice (some ⟨b, o, none⟩) n c) n (Gx.splice l a k) := by
  rcases h with ⟨h, _⟩ | ⟨b', o', c', cs, hv, hb, hc, ho, rfl⟩
  · cases h
  · simp only [Value.slice.injEq, Option.some.injEq, Addr.mk.injEq, and_true, true_and] at hv
    obtain ⟨⟨rfl, rfl⟩, rfl⟩ := hv
    have hsz : cs.toList.length = cs.size := Array.length_toList
    refine .inr ⟨b, o, c, (Gx.splice cs.toList (o + a) k).toArray, rfl, ?_, hc, ?_, ?_⟩
    · rw [heap_wr, if_pos rfl, hb]; rfl
    · rw [List.size_toArray, splice_length (by omega)]; simpa using ho
    · rw [Nat.mul_one, splice_sub (by omega) ha]

/-- more of what one holds, as far as there is room -/
theorem Own.more {E b o c n : Nat} {l : List Value} (h : Own E 1 w (.slice (some ⟨b, o, none⟩) n c) n l) {m : Nat} (hm : n + m ≤ c) :
    ∃ js : List Value, js.length = m ∧ Own E 1 w (.slice (some ⟨b, o, none⟩) (n + m) c) (n + m) (l ++ js) := by
  have hl := h.rd.len
  rcases h with ⟨h, _⟩ | ⟨b', o', c', cs, hv, hb, hc, ho, rfl⟩
  · cases h
  · simp only [Value.slice.injEq, Option.some.injEq, Addr.mk.injEq, and_true, true_and] at hv
    obtain ⟨⟨rfl, rfl⟩, rfl⟩ := hv
    have hsz : cs.toList.length = cs.size := Array.length_toList
    refine ⟨(cs.toList.drop (o + n)).take m, by rw [List.length_take, List.length_drop]; omega, .inr ⟨b, o, c, cs, rfl, hb, hm, ho, ?_⟩⟩
    rw [Nat.mul_one, Nat.mul_one, List.take_add, List.drop_drop]

theorem Own.less {E b o c n m : Nat} {l : List Value} (h : Own E 1 w (.slice (some ⟨b, o, none⟩) n c) n l) (hm : m ≤ n) : Own E 1 w (.slice (some ⟨b, o, none⟩) m c) m (l.take m) := by
  rcases h with ⟨h, _⟩ | ⟨b', o', c', cs, hv, hb, hc, ho, rfl⟩
  · cases h
  · simp only [Value.slice.injEq, Option.some.injEq, Addr.mk.injEq, and_true, true_and] at hv
    obtain ⟨⟨rfl, rfl⟩, rfl⟩ := hv
    refine .inr ⟨b, o, c, cs, rfl, hb, by omega, ho, ?_⟩
    rw [List.take_take, Nat.mul_one, Nat.mul_one, Nat.min_eq_left hm]

theorem Own.cells {E b o c n : Nat} {l : List Value} (h : Own E 1 w (.slice (some ⟨b, o, none⟩) n c) n l) : ∃ cs : Array Value, w.heap[b]? = some (.cells cs E (0, 0)) ∧ n ≤ c ∧ o + c ≤ cs.size := by
  rcases h with ⟨h, _⟩ | ⟨b', o', c', cs, hv, hb, hc, ho, _⟩
  · cases h
  · simp only [Value.slice.injEq, Option.some.injEq, Addr.mk.injEq, and_true, true_and] at hv
    obtain ⟨⟨rfl, rfl⟩, rfl⟩ := hv
    exact ⟨cs, hb, hc, by omega⟩

end Go.Gx
end

section
/- Numbers and addresses that are compared. -/
set_option linter.unusedVariables false
set_option linter.unusedSimpArgs false
set_option maxRecDepth 100000
namespace Go.Gx.S
open Go Go.Gx Go.Proofs
variable {K : Value → World → Prop} {w : World}

theorem isnan_spec {a : Int} (h : K (.bool false) w) : CallsR Tryz.prog 80 #[i64 a] K w := by
  apply c80
  unfold p80
  simp only [push_cast, Nat.reduceAdd, Nat.reduceLeDiff, Nat.reduceLT, Int.reduceToNat, Nat.left_eq_add, Nat.add_eq_left, Nat.add_left_cancel_iff, Nat.reduceEqDiff, Nat.add_assoc, Nat.succ_ne_zero]
  have : (a != a) = false := by simp
  rw [this]; exact h

theorem ccmp_spec {a b : Int} (h : K (i64 (cmpI a b)) w) : CallsR Tryz.prog 64 #[i64 a, i64 b] K w := by
  apply c64
  unfold p64
  simp only [push_cast, Nat.reduceAdd, Nat.reduceLeDiff, Nat.reduceLT, Int.reduceToNat, Nat.left_eq_add, Nat.add_eq_left, Nat.add_left_cancel_iff, Nat.reduceEqDiff, Nat.add_assoc, Nat.succ_ne_zero]
  refine isnan_spec ?_
  refine isnan_spec ?_
  simp only [push_cast, Nat.reduceAdd, Nat.reduceLeDiff, Nat.reduceLT, Int.reduceToNat, Nat.left_eq_add, Nat.add_eq_left, Nat.add_left_cancel_iff, Nat.reduceEqDiff, Nat.add_assoc, Nat.succ_ne_zero]
  unfold cmpI at h
  refine br_dec (fun h1 => ?_) fun h1 => ?_
  · rw [if_pos h1] at h; exact h
  · rw [if_neg h1] at h
    refine br_dec (fun h2 => ?_) fun h2 => ?_
    · rw [if_pos h2] at h; exact h
    · rw [if_neg (by omega)] at h; exact h

/-- the first that is not zero -/
def orL : List Int → Int
  | [] => 0
  | x :: l => if x ≠ 0 then x else orL l

theorem orL_cons (x : Int) (l : List Int) : orL (x :: l) = if x ≠ 0 then x else orL l := id rfl

theorem cor_spec {v : Value} {l : List Int} (hv : RdE 1 w v (l.map cellI)) (hl : l.length < 2 ^ 62) (h : K (i64 (orL l)) w) : CallsR Tryz.prog 62 #[v] K w := by
  apply c62
  unfold p62
  obtain ⟨a, c, rfl⟩ := hv.form
  rw [List.length_map] at hv ⊢
  simp only [push_cast, Nat.reduceAdd, Nat.reduceLeDiff, Nat.reduceLT, Int.reduceToNat, Nat.left_eq_add, Nat.add_eq_left, Nat.add_left_cancel_iff, Nat.reduceEqDiff, Nat.add_assoc, Nat.succ_ne_zero]
  refine jn0 (fun w' => w' = w ∧ orL l = 0) (fun w' ⟨e, e2⟩ => by rw [e]; rw [e2] at h; exact h) fun j hj => ?_
  refine loop1 (fun n v' w' => ∃ i : Nat, v' = i64 i ∧ n + i = l.length ∧ w' = w ∧ orL l = orL (l.drop i)) ?_ l.length ⟨0, rfl, rfl, rfl, rfl⟩
  rintro n v' w' X ⟨i, rfl, hi, rfl, ho⟩ hX
  simp only [push_cast, Nat.reduceAdd, Nat.reduceLeDiff, Nat.reduceLT, Int.reduceToNat, Nat.left_eq_add, Nat.add_eq_left, Nat.add_left_cancel_iff, Nat.reduceEqDiff, Nat.add_assoc, Nat.succ_ne_zero]
  refine br_dec (fun hlt => ?_) fun hge => ?_
  · have hil : i < l.length := by omega
    refine s_iaE hv (by omega) (by simpa using hil) fun b o c _ he => ?_
    simp only [push_cast, Nat.reduceAdd, Nat.reduceLeDiff, Nat.reduceLT, Int.reduceToNat, Nat.left_eq_add, Nat.add_eq_left, Nat.add_left_cancel_iff, Nat.reduceEqDiff, Nat.add_assoc, Nat.succ_ne_zero]
    rw [he.cell0 (by simp [cellI])]
    simp only [push_cast, Nat.reduceAdd, Nat.reduceLeDiff, Nat.reduceLT, Int.reduceToNat, Nat.left_eq_add, Nat.add_eq_left, Nat.add_left_cancel_iff, Nat.reduceEqDiff, Nat.add_assoc, Nat.succ_ne_zero, List.getElem_map, cellI, Int.toNat_natCast]
    rw [List.drop_eq_getElem_cons hil, orL_cons] at ho
    refine br_intro (fun e => ?_) fun e => ?_
    · rw [if_pos (by simpa using e)] at ho
      rw [ho] at h; exact h
    · rw [if_neg (by simpa using e)] at ho
      rw [wrap_i64 (by omega)]
      exact hX (n - 1) _ _ (by omega) ⟨i + 1, by simp, by omega, rfl, ho⟩
  · rw [List.drop_eq_nil_of_le (by omega)] at ho
    exact hj _ ⟨rfl, ho⟩

theorem bcmp_spec {a b : Value} {x y : List Int} (ha : ByR w a x) (hb : ByR w b y) (h : K (.int .i64 (Extern.BytealgCompare.cmp (strOf x) (strOf y))) w) : CallsR Tryz.prog 90 #[a, b] K w := by
  apply c90
  unfold p90
  exact s_bytecmp Tryz.func103 (by kernel_rfl) (by kernel_rfl) (by kernel_rfl) (by kernel_rfl) ha hb h

theorem by_mac {m : Mac} {b : Nat} {T : TypeId} (hb : w.heap[b]? = some (cellsO m.cells T)) (h : m.ok) : ByR w (.slice (some ⟨b, 0, none⟩) 6 6) (macL m) :=
  ⟨⟨.inr ⟨b, 0, 6, _, T, (0, 0), rfl, hb, Nat.le_refl _, by show 0 + 6 * 1 ≤ 6; decide, rfl⟩, by simp [macL, cell1]⟩, macL_ok h⟩

theorem mcmp_spec {a b : Mac} (ha : a.ok) (hb : b.ok) (h : ∀ w', Gr w w' → K (i64 (cmpM a b)) w') : CallsR Tryz.prog 79 #[.agg a.cells.toArray, .agg b.cells.toArray] K w := by
  apply c79
  unfold p79
  have hG : Gr w ((w.alloc (cellsO a.cells 23)).alloc (cellsO b.cells 23)).drew := ((Gr.refl _).step_alloc _ |>.step_alloc _).step_drew
  have h0 : ((w.alloc (cellsO a.cells 23)).alloc (cellsO b.cells 23)).drew.heap[w.heap.size]? = some (cellsO a.cells 23) := by simp only [push_cast, Nat.reduceAdd, Nat.reduceLeDiff, Nat.reduceLT, Int.reduceToNat, Nat.left_eq_add, Nat.add_eq_left, Nat.add_left_cancel_iff, Nat.reduceEqDiff, Nat.add_assoc, Nat.succ_ne_zero]
  have h1 : ((w.alloc (cellsO a.cells 23)).alloc (cellsO b.cells 23)).drew.heap[w.heap.size + 1]? = some (cellsO b.cells 23) := by simp only [push_cast, Nat.reduceAdd, Nat.reduceLeDiff, Nat.reduceLT, Int.reduceToNat, Nat.left_eq_add, Nat.add_eq_left, Nat.add_left_cancel_iff, Nat.reduceEqDiff, Nat.add_assoc, Nat.succ_ne_zero]
  simp only [push_cast, Nat.reduceAdd, Nat.reduceLeDiff, Nat.reduceLT, Int.reduceToNat, Nat.left_eq_add, Nat.add_eq_left, Nat.add_left_cancel_iff, Nat.reduceEqDiff, Nat.add_assoc, Nat.succ_ne_zero]
  generalize ((w.alloc (cellsO a.cells 23)).alloc (cellsO b.cells 23)).drew = W at *
  simp only [opS_slcA, push_cast, Nat.reduceAdd, Nat.reduceLeDiff, Nat.reduceLT, Int.reduceToNat, Nat.left_eq_add, Nat.add_eq_left, Nat.add_left_cancel_iff, Nat.reduceEqDiff, Nat.add_assoc, Nat.succ_ne_zero]
  refine bcmp_spec (by_mac h0 ha) (by_mac h1 hb) ?_
  rw [cmp_mac ha hb]
  exact h W hG

theorem orL_two (a b : Int) : orL [a, b] = if a ≠ 0 then a else b := by
  rw [orL_cons, orL_cons]
  split
  · rfl
  · split
    · rfl
    · rename_i h; unfold orL; omega

/-! ### The document's -/

def numL (l : List Int) : Int := l.foldl (fun n x => n * 256 + x) 0
theorem numL_snoc (l : List Int) (x : Int) : numL (l ++ [x]) = numL l * 256 + x := by unfold numL; rw [List.foldl_append]; rfl
theorem numL_mac (m : Mac) : numL (macL m) = macN m := by
  unfold numL macL macN
  simp
theorem numL_range {m : Mac} (h : m.ok) {k : Nat} (hk : k ≤ 6) : 0 ≤ numL ((macL m).take k) ∧ numL ((macL m).take k) < 281474976710656 := by
  obtain ⟨a0, a1, a2, a3, a4, a5⟩ := h
  unfold isB at *
  match k, hk with
  | 0, _ | 1, _ | 2, _ | 3, _ | 4, _ | 5, _ | 6, _ => simp [numL, macL]; try omega
theorem macL_get (m : Mac) {k : Nat} (hk : k < 6) : m.cells[k]? = some (u8 ((macL m).getD k 0)) := by
  match k, hk with
  | 0, _ | 1, _ | 2, _ | 3, _ | 4, _ | 5, _ => rfl
theorem macL_take {m : Mac} {k : Nat} (hk : k < 6) : (macL m).take (k + 1) = (macL m).take k ++ [(macL m).getD k 0] := by
  match k, hk with
  | 0, _ | 1, _ | 2, _ | 3, _ | 4, _ | 5, _ => rfl
theorem macL_at {m : Mac} (h : m.ok) {k : Nat} (hk : k < 6) : isB ((macL m).getD k 0) := by
  obtain ⟨a0, a1, a2, a3, a4, a5⟩ := h
  match k, hk with
  | 0, _ | 1, _ | 2, _ | 3, _ | 4, _ | 5, _ => assumption
theorem wrap_u64 {x : Int} (h0 : 0 ≤ x) (h1 : x < 18446744073709551616) : IntKind.u64.wrap x = x := by
  unfold IntKind.wrap
  have e1 : (2 : Int) ^ IntKind.u64.bits = 18446744073709551616 := rfl
  have e3 : IntKind.u64.signed = false := rfl
  simp only [e1, e3, Bool.false_and, Bool.false_eq_true, if_false]
  omega

theorem rnum_spec {m : Mac} (hm : m.ok) (h : ∀ w', Fr none_ w w' → K (.int .u64 (macN m)) w') : CallsR Tryz.prog 104 #[.agg m.cells.toArray] K w := by
  apply c104
  unfold p104
  simp only [push_cast, Nat.reduceAdd, Nat.reduceLeDiff, Nat.reduceLT, Int.reduceToNat, Nat.left_eq_add, Nat.add_eq_left, Nat.add_left_cancel_iff, Nat.reduceEqDiff, Nat.add_assoc, Nat.succ_ne_zero]
  have h0 : (w.alloc (cellsO m.cells 23)).heap[w.heap.size]? = some (cellsO m.cells 23) := by simp only [push_cast, Nat.reduceAdd, Nat.reduceLeDiff, Nat.reduceLT, Int.reduceToNat, Nat.left_eq_add, Nat.add_eq_left, Nat.add_left_cancel_iff, Nat.reduceEqDiff, Nat.add_assoc, Nat.succ_ne_zero]
  have hF : Fr none_ w (w.alloc (cellsO m.cells 23)) := (by repeat' first | with_reducible exact Fr.refl _ _ | with_reducible refine Fr.step_alloc ?_ ?_ | with_reducible refine Fr.step_drew ?_ | with_reducible refine Fr.step_wr ?_ ?_ _ _ | exact rfl | exact Or.inr (by omega) | exact Or.inl rfl | exact Or.inl (Or.inl rfl) | exact Or.inl (Or.inr rfl))
  generalize w.alloc (cellsO m.cells 23) = W at *
  refine jn1 (fun v w' => v = .int .u64 (macN m) ∧ w' = W) (fun v w' ⟨e1, e2⟩ => by rw [e1, e2]; exact h _ hF) fun j hj => ?_
  refine loop2 (fun n x y w' => ∃ k : Nat, k ≤ 6 ∧ n = 6 - k ∧ y = i64 k ∧ x = .int .u64 (numL ((macL m).take k)) ∧ w' = W) ?_ 6 ⟨0, by omega, rfl, rfl, rfl, rfl⟩
  rintro n x y w' X ⟨k, hk, rfl, rfl, rfl, rfl⟩ hX
  simp only [push_cast, Nat.reduceAdd, Nat.reduceLeDiff, Nat.reduceLT, Int.reduceToNat, Nat.left_eq_add, Nat.add_eq_left, Nat.add_left_cancel_iff, Nat.reduceEqDiff, Nat.add_assoc, Nat.succ_ne_zero]
  refine br_dec (fun hlt => ?_) fun hge => ?_
  · have hk6 : k < 6 := by omega
    have hr := numL_range hm hk
    have hr2 := numL_range hm (show k + 1 ≤ 6 by omega)
    have hb := macL_at hm hk6
    rw [wrap_u64 (by omega) (by omega), opS_iaA w.heap.size 0 .i64 (k : Int) (by omega)]
    simp only [push_cast, Nat.reduceAdd, Nat.reduceLeDiff, Nat.reduceLT, Int.reduceToNat, Nat.left_eq_add, Nat.add_eq_left, Nat.add_left_cancel_iff, Nat.reduceEqDiff, Nat.add_assoc, Nat.succ_ne_zero, h0, Int.toNat_natCast, Nat.mul_one]
    rw [macL_get m hk6]
    simp only [push_cast, Nat.reduceAdd, Nat.reduceLeDiff, Nat.reduceLT, Int.reduceToNat, Nat.left_eq_add, Nat.add_eq_left, Nat.add_left_cancel_iff, Nat.reduceEqDiff, Nat.add_assoc, Nat.succ_ne_zero]
    rw [macL_take hk6, numL_snoc] at hr2
    unfold isB at hb
    rw [wrap_u64 (x := (macL m).getD k 0) (by omega) (by omega), wrap_u64 (by omega) (by omega), wrap_i64 (by omega)]
    refine hX (6 - (k + 1)) _ _ _ (by omega) ⟨k + 1, by omega, rfl, by simp, ?_, rfl⟩
    rw [macL_take hk6, numL_snoc]
  · have : k = 6 := by omega
    subst this
    exact hj _ _ ⟨by rw [← numL_mac]; rfl, rfl⟩

theorem rcmp_spec {a b : Mac} (ha : a.ok) (hb : b.ok) (h : ∀ w', Fr none_ w w' → K (i64 (cmpM a b)) w') : CallsR Tryz.prog 91 #[.agg a.cells.toArray, .agg b.cells.toArray] K w := by
  apply c91
  unfold p91
  have hF : Fr none_ w ((w.alloc (cellsO a.cells 23)).alloc (cellsO b.cells 23)) := (by repeat' first | with_reducible exact Fr.refl _ _ | with_reducible refine Fr.step_alloc ?_ ?_ | with_reducible refine Fr.step_drew ?_ | with_reducible refine Fr.step_wr ?_ ?_ _ _ | exact rfl | exact Or.inr (by omega) | exact Or.inl rfl | exact Or.inl (Or.inl rfl) | exact Or.inl (Or.inr rfl))
  have h1 : ((w.alloc (cellsO a.cells 23)).alloc (cellsO b.cells 23)).heap[w.heap.size + 1]? = some (cellsO b.cells 23) := by simp only [push_cast, Nat.reduceAdd, Nat.reduceLeDiff, Nat.reduceLT, Int.reduceToNat, Nat.left_eq_add, Nat.add_eq_left, Nat.add_left_cancel_iff, Nat.reduceEqDiff, Nat.add_assoc, Nat.succ_ne_zero]
  simp only [push_cast, Nat.reduceAdd, Nat.reduceLeDiff, Nat.reduceLT, Int.reduceToNat, Nat.left_eq_add, Nat.add_eq_left, Nat.add_left_cancel_iff, Nat.reduceEqDiff, Nat.add_assoc, Nat.succ_ne_zero]
  generalize ((w.alloc (cellsO a.cells 23)).alloc (cellsO b.cells 23)) = W at *
  refine rnum_spec ha fun w2 hF2 => ?_
  have h2 := hF2.heap h1 fun h => h
  simp only [push_cast, Nat.reduceAdd, Nat.reduceLeDiff, Nat.reduceLT, Int.reduceToNat, Nat.left_eq_add, Nat.add_eq_left, Nat.add_left_cancel_iff, Nat.reduceEqDiff, Nat.add_assoc, Nat.succ_ne_zero, h2]
  refine rnum_spec hb fun w3 hF3 => ?_
  have hF' := (hF.trans hF2).trans hF3
  have h' := h _ hF'
  unfold cmpM cmpI at h'
  simp only [push_cast, Nat.reduceAdd, Nat.reduceLeDiff, Nat.reduceLT, Int.reduceToNat, Nat.left_eq_add, Nat.add_eq_left, Nat.add_left_cancel_iff, Nat.reduceEqDiff, Nat.add_assoc, Nat.succ_ne_zero]
  refine br_dec (fun h1 => ?_) fun h1 => ?_
  · rw [if_pos h1] at h'; exact h'
  · rw [if_neg h1] at h'
    refine br_dec (fun h2 => ?_) fun h2 => ?_
    · rw [if_pos h2] at h'; exact h'
    · rw [if_neg (by omega)] at h'; exact h'

end Go.Gx.S
end

section
/- Bridges of a tree: what they are, and their cells. -/
namespace Go.Gx
open Go

@[ext] structure Idn where
  prio : Int
  mac : Mac
  deriving DecidableEq, Inhabited

def Idn.cells (x : Idn) : List Value := [i64 x.prio, u8 x.mac.b0, u8 x.mac.b1, u8 x.mac.b2, u8 x.mac.b3, u8 x.mac.b4, u8 x.mac.b5]
theorem Idn.len (x : Idn) : x.cells.length = 7 := id rfl
theorem Idn.one (x : Idn) : x.cells.all S.oneCell = true := id rfl
theorem Idn.dw (x : Idn) : (x.cells.drop 0).take 7 = x.cells := id rfl
theorem Idn.sw (x y : Idn) : splice x.cells 0 y.cells = y.cells := id rfl
theorem Idn.g_prio (x : Idn) : x.cells[0]? = some (i64 x.prio) := id rfl
theorem Idn.s_prio (x : Idn) (v : Int) : splice x.cells 0 [i64 v] = ({ x with prio := v } : Idn).cells := id rfl
theorem Idn.d_mac (x : Idn) : (x.cells.drop 1).take 6 = x.mac.cells := id rfl
theorem Idn.s_mac (x : Idn) (v : Mac) : splice x.cells 1 v.cells = ({ x with mac := v } : Idn).cells := id rfl

@[ext] structure Vec where
  root : Idn
  cost : Int
  br : Idn
  port : Int
  own : Int
  deriving DecidableEq, Inhabited

def Vec.cells (x : Vec) : List Value := [i64 x.root.prio, u8 x.root.mac.b0, u8 x.root.mac.b1, u8 x.root.mac.b2, u8 x.root.mac.b3, u8 x.root.mac.b4, u8 x.root.mac.b5, i64 x.cost, i64 x.br.prio, u8 x.br.mac.b0, u8 x.br.mac.b1, u8 x.br.mac.b2, u8 x.br.mac.b3, u8 x.br.mac.b4, u8 x.br.mac.b5, i64 x.port, i64 x.own]
theorem Vec.len (x : Vec) : x.cells.length = 17 := id rfl
theorem Vec.one (x : Vec) : x.cells.all S.oneCell = true := id rfl
theorem Vec.dw (x : Vec) : (x.cells.drop 0).take 17 = x.cells := id rfl
theorem Vec.sw (x y : Vec) : splice x.cells 0 y.cells = y.cells := id rfl
theorem Vec.d_root (x : Vec) : (x.cells.drop 0).take 7 = x.root.cells := id rfl
theorem Vec.s_root (x : Vec) (v : Idn) : splice x.cells 0 v.cells = ({ x with root := v } : Vec).cells := id rfl
theorem Vec.g_root_prio (x : Vec) : x.cells[0]? = some (i64 x.root.prio) := id rfl
theorem Vec.s_root_prio (x : Vec) (v : Int) : splice x.cells 0 [i64 v] = ({ x with root := { x.root with prio := v } } : Vec).cells := id rfl
theorem Vec.d_root_mac (x : Vec) : (x.cells.drop 1).take 6 = x.root.mac.cells := id rfl
theorem Vec.s_root_mac (x : Vec) (v : Mac) : splice x.cells 1 v.cells = ({ x with root := { x.root with mac := v } } : Vec).cells := id rfl
theorem Vec.g_cost (x : Vec) : x.cells[7]? = some (i64 x.cost) := id rfl
theorem Vec.s_cost (x : Vec) (v : Int) : splice x.cells 7 [i64 v] = ({ x with cost := v } : Vec).cells := id rfl
theorem Vec.d_br (x : Vec) : (x.cells.drop 8).take 7 = x.br.cells := id rfl
theorem Vec.s_br (x : Vec) (v : Idn) : splice x.cells 8 v.cells = ({ x with br := v } : Vec).cells := id rfl
theorem Vec.g_br_prio (x : Vec) : x.cells[8]? = some (i64 x.br.prio) := id rfl
theorem Vec.s_br_prio (x : Vec) (v : Int) : splice x.cells 8 [i64 v] = ({ x with br := { x.br with prio := v } } : Vec).cells := id rfl
theorem Vec.d_br_mac (x : Vec) : (x.cells.drop 9).take 6 = x.br.mac.cells := id rfl
theorem Vec.s_br_mac (x : Vec) (v : Mac) : splice x.cells 9 v.cells = ({ x with br := { x.br with mac := v } } : Vec).cells := id rfl
theorem Vec.g_port (x : Vec) : x.cells[15]? = some (i64 x.port) := id rfl
theorem Vec.s_port (x : Vec) (v : Int) : splice x.cells 15 [i64 v] = ({ x with port := v } : Vec).cells := id rfl
theorem Vec.g_own (x : Vec) : x.cells[16]? = some (i64 x.own) := id rfl
theorem Vec.s_own (x : Vec) (v : Int) : splice x.cells 16 [i64 v] = ({ x with own := v } : Vec).cells := id rfl

@[ext] structure Hrd where
  port : Int
  cost : Int
  up : Bool
  has : Bool
  v : Vec
  deriving DecidableEq, Inhabited

def Hrd.cells (x : Hrd) : List Value := [i64 x.port, i64 x.cost, .bool x.up, .bool x.has, i64 x.v.root.prio, u8 x.v.root.mac.b0, u8 x.v.root.mac.b1, u8 x.v.root.mac.b2, u8 x.v.root.mac.b3, u8 x.v.root.mac.b4, u8 x.v.root.mac.b5, i64 x.v.cost, i64 x.v.br.prio, u8 x.v.br.mac.b0, u8 x.v.br.mac.b1, u8 x.v.br.mac.b2, u8 x.v.br.mac.b3, u8 x.v.br.mac.b4, u8 x.v.br.mac.b5, i64 x.v.port, i64 x.v.own]
theorem Hrd.len (x : Hrd) : x.cells.length = 21 := id rfl
theorem Hrd.one (x : Hrd) : x.cells.all S.oneCell = true := id rfl
theorem Hrd.dw (x : Hrd) : (x.cells.drop 0).take 21 = x.cells := id rfl
theorem Hrd.sw (x y : Hrd) : splice x.cells 0 y.cells = y.cells := id rfl
theorem Hrd.g_port (x : Hrd) : x.cells[0]? = some (i64 x.port) := id rfl
theorem Hrd.s_port (x : Hrd) (v : Int) : splice x.cells 0 [i64 v] = ({ x with port := v } : Hrd).cells := id rfl
theorem Hrd.g_cost (x : Hrd) : x.cells[1]? = some (i64 x.cost) := id rfl
theorem Hrd.s_cost (x : Hrd) (v : Int) : splice x.cells 1 [i64 v] = ({ x with cost := v } : Hrd).cells := id rfl
theorem Hrd.g_up (x : Hrd) : x.cells[2]? = some (.bool x.up) := id rfl
theorem Hrd.s_up (x : Hrd) (v : Bool) : splice x.cells 2 [.bool v] = ({ x with up := v } : Hrd).cells := id rfl
theorem Hrd.g_has (x : Hrd) : x.cells[3]? = some (.bool x.has) := id rfl
theorem Hrd.s_has (x : Hrd) (v : Bool) : splice x.cells 3 [.bool v] = ({ x with has := v } : Hrd).cells := id rfl
theorem Hrd.d_v (x : Hrd) : (x.cells.drop 4).take 17 = x.v.cells := id rfl
theorem Hrd.s_v (x : Hrd) (v : Vec) : splice x.cells 4 v.cells = ({ x with v := v } : Hrd).cells := id rfl
theorem Hrd.d_v_root (x : Hrd) : (x.cells.drop 4).take 7 = x.v.root.cells := id rfl
theorem Hrd.s_v_root (x : Hrd) (v : Idn) : splice x.cells 4 v.cells = ({ x with v := { x.v with root := v } } : Hrd).cells := id rfl
theorem Hrd.g_v_root_prio (x : Hrd) : x.cells[4]? = some (i64 x.v.root.prio) := id rfl
theorem Hrd.s_v_root_prio (x : Hrd) (v : Int) : splice x.cells 4 [i64 v] = ({ x with v := { x.v with root := { x.v.root with prio := v } } } : Hrd).cells := id rfl
theorem Hrd.d_v_root_mac (x : Hrd) : (x.cells.drop 5).take 6 = x.v.root.mac.cells := id rfl
theorem Hrd.s_v_root_mac (x : Hrd) (v : Mac) : splice x.cells 5 v.cells = ({ x with v := { x.v with root := { x.v.root with mac := v } } } : Hrd).cells := id rfl
theorem Hrd.g_v_cost (x : Hrd) : x.cells[11]? = some (i64 x.v.cost) := id rfl
theorem Hrd.s_v_cost (x : Hrd) (v : Int) : splice x.cells 11 [i64 v] = ({ x with v := { x.v with cost := v } } : Hrd).cells := id rfl
theorem Hrd.d_v_br (x : Hrd) : (x.cells.drop 12).take 7 = x.v.br.cells := id rfl
theorem Hrd.s_v_br (x : Hrd) (v : Idn) : splice x.cells 12 v.cells = ({ x with v := { x.v with br := v } } : Hrd).cells := id rfl
theorem Hrd.g_v_br_prio (x : Hrd) : x.cells[12]? = some (i64 x.v.br.prio) := id rfl
theorem Hrd.s_v_br_prio (x : Hrd) (v : Int) : splice x.cells 12 [i64 v] = ({ x with v := { x.v with br := { x.v.br with prio := v } } } : Hrd).cells := id rfl
theorem Hrd.d_v_br_mac (x : Hrd) : (x.cells.drop 13).take 6 = x.v.br.mac.cells := id rfl
theorem Hrd.s_v_br_mac (x : Hrd) (v : Mac) : splice x.cells 13 v.cells = ({ x with v := { x.v with br := { x.v.br with mac := v } } } : Hrd).cells := id rfl
theorem Hrd.g_v_port (x : Hrd) : x.cells[19]? = some (i64 x.v.port) := id rfl
theorem Hrd.s_v_port (x : Hrd) (v : Int) : splice x.cells 19 [i64 v] = ({ x with v := { x.v with port := v } } : Hrd).cells := id rfl
theorem Hrd.g_v_own (x : Hrd) : x.cells[20]? = some (i64 x.v.own) := id rfl
theorem Hrd.s_v_own (x : Hrd) (v : Int) : splice x.cells 20 [i64 v] = ({ x with v := { x.v with own := v } } : Hrd).cells := id rfl

@[ext] structure Prt where
  h : Hrd
  age : Int
  until_ : Int
  edge : Bool
  role : Int
  state : Int
  on : Int
  agreed : Bool
  reply : Bool
  deriving DecidableEq, Inhabited

def Prt.cells (x : Prt) : List Value := [i64 x.h.port, i64 x.h.cost, .bool x.h.up, .bool x.h.has, i64 x.h.v.root.prio, u8 x.h.v.root.mac.b0, u8 x.h.v.root.mac.b1, u8 x.h.v.root.mac.b2, u8 x.h.v.root.mac.b3, u8 x.h.v.root.mac.b4, u8 x.h.v.root.mac.b5, i64 x.h.v.cost, i64 x.h.v.br.prio, u8 x.h.v.br.mac.b0, u8 x.h.v.br.mac.b1, u8 x.h.v.br.mac.b2, u8 x.h.v.br.mac.b3, u8 x.h.v.br.mac.b4, u8 x.h.v.br.mac.b5, i64 x.h.v.port, i64 x.h.v.own, i64 x.age, i64 x.until_, .bool x.edge, i64 x.role, i64 x.state, i64 x.on, .bool x.agreed, .bool x.reply]
theorem Prt.len (x : Prt) : x.cells.length = 29 := id rfl
theorem Prt.one (x : Prt) : x.cells.all S.oneCell = true := id rfl
theorem Prt.dw (x : Prt) : (x.cells.drop 0).take 29 = x.cells := id rfl
theorem Prt.sw (x y : Prt) : splice x.cells 0 y.cells = y.cells := id rfl
theorem Prt.d_h (x : Prt) : (x.cells.drop 0).take 21 = x.h.cells := id rfl
theorem Prt.s_h (x : Prt) (v : Hrd) : splice x.cells 0 v.cells = ({ x with h := v } : Prt).cells := id rfl
theorem Prt.g_h_port (x : Prt) : x.cells[0]? = some (i64 x.h.port) := id rfl
theorem Prt.s_h_port (x : Prt) (v : Int) : splice x.cells 0 [i64 v] = ({ x with h := { x.h with port := v } } : Prt).cells := id rfl
theorem Prt.g_h_cost (x : Prt) : x.cells[1]? = some (i64 x.h.cost) := id rfl
theorem Prt.s_h_cost (x : Prt) (v : Int) : splice x.cells 1 [i64 v] = ({ x with h := { x.h with cost := v } } : Prt).cells := id rfl
theorem Prt.g_h_up (x : Prt) : x.cells[2]? = some (.bool x.h.up) := id rfl
theorem Prt.s_h_up (x : Prt) (v : Bool) : splice x.cells 2 [.bool v] = ({ x with h := { x.h with up := v } } : Prt).cells := id rfl
theorem Prt.g_h_has (x : Prt) : x.cells[3]? = some (.bool x.h.has) := id rfl
theorem Prt.s_h_has (x : Prt) (v : Bool) : splice x.cells 3 [.bool v] = ({ x with h := { x.h with has := v } } : Prt).cells := id rfl
theorem Prt.d_h_v (x : Prt) : (x.cells.drop 4).take 17 = x.h.v.cells := id rfl
theorem Prt.s_h_v (x : Prt) (v : Vec) : splice x.cells 4 v.cells = ({ x with h := { x.h with v := v } } : Prt).cells := id rfl
theorem Prt.d_h_v_root (x : Prt) : (x.cells.drop 4).take 7 = x.h.v.root.cells := id rfl
theorem Prt.s_h_v_root (x : Prt) (v : Idn) : splice x.cells 4 v.cells = ({ x with h := { x.h with v := { x.h.v with root := v } } } : Prt).cells := id rfl
theorem Prt.g_h_v_root_prio (x : Prt) : x.cells[4]? = some (i64 x.h.v.root.prio) := id rfl
theorem Prt.s_h_v_root_prio (x : Prt) (v : Int) : splice x.cells 4 [i64 v] = ({ x with h := { x.h with v := { x.h.v with root := { x.h.v.root with prio := v } } } } : Prt).cells := id rfl
theorem Prt.d_h_v_root_mac (x : Prt) : (x.cells.drop 5).take 6 = x.h.v.root.mac.cells := id rfl
theorem Prt.s_h_v_root_mac (x : Prt) (v : Mac) : splice x.cells 5 v.cells = ({ x with h := { x.h with v := { x.h.v with root := { x.h.v.root with mac := v } } } } : Prt).cells := id rfl
theorem Prt.g_h_v_cost (x : Prt) : x.cells[11]? = some (i64 x.h.v.cost) := id rfl
theorem Prt.s_h_v_cost (x : Prt) (v : Int) : splice x.cells 11 [i64 v] = ({ x with h := { x.h with v := { x.h.v with cost := v } } } : Prt).cells := id rfl
theorem Prt.d_h_v_br (x : Prt) : (x.cells.drop 12).take 7 = x.h.v.br.cells := id rfl
theorem Prt.s_h_v_br (x : Prt) (v : Idn) : splice x.cells 12 v.cells = ({ x with h := { x.h with v := { x.h.v with br := v } } } : Prt).cells := id rfl
theorem Prt.g_h_v_br_prio (x : Prt) : x.cells[12]? = some (i64 x.h.v.br.prio) := id rfl
theorem Prt.s_h_v_br_prio (x : Prt) (v : Int) : splice x.cells 12 [i64 v] = ({ x with h := { x.h with v := { x.h.v with br := { x.h.v.br with prio := v } } } } : Prt).cells := id rfl
theorem Prt.d_h_v_br_mac (x : Prt) : (x.cells.drop 13).take 6 = x.h.v.br.mac.cells := id rfl
theorem Prt.s_h_v_br_mac (x : Prt) (v : Mac) : splice x.cells 13 v.cells = ({ x with h := { x.h with v := { x.h.v with br := { x.h.v.br with mac := v } } } } : Prt).cells := id rfl
theorem Prt.g_h_v_port (x : Prt) : x.cells[19]? = some (i64 x.h.v.port) := id rfl
theorem Prt.s_h_v_port (x : Prt) (v : Int) : splice x.cells 19 [i64 v] = ({ x with h := { x.h with v := { x.h.v with port := v } } } : Prt).cells := id rfl
theorem Prt.g_h_v_own (x : Prt) : x.cells[20]? = some (i64 x.h.v.own) := id rfl
theorem Prt.s_h_v_own (x : Prt) (v : Int) : splice x.cells 20 [i64 v] = ({ x with h := { x.h with v := { x.h.v with own := v } } } : Prt).cells := id rfl
theorem Prt.g_age (x : Prt) : x.cells[21]? = some (i64 x.age) := id rfl
theorem Prt.s_age (x : Prt) (v : Int) : splice x.cells 21 [i64 v] = ({ x with age := v } : Prt).cells := id rfl
theorem Prt.g_until (x : Prt) : x.cells[22]? = some (i64 x.until_) := id rfl
theorem Prt.s_until (x : Prt) (v : Int) : splice x.cells 22 [i64 v] = ({ x with until_ := v } : Prt).cells := id rfl
theorem Prt.g_edge (x : Prt) : x.cells[23]? = some (.bool x.edge) := id rfl
theorem Prt.s_edge (x : Prt) (v : Bool) : splice x.cells 23 [.bool v] = ({ x with edge := v } : Prt).cells := id rfl
theorem Prt.g_role (x : Prt) : x.cells[24]? = some (i64 x.role) := id rfl
theorem Prt.s_role (x : Prt) (v : Int) : splice x.cells 24 [i64 v] = ({ x with role := v } : Prt).cells := id rfl
theorem Prt.g_state (x : Prt) : x.cells[25]? = some (i64 x.state) := id rfl
theorem Prt.s_state (x : Prt) (v : Int) : splice x.cells 25 [i64 v] = ({ x with state := v } : Prt).cells := id rfl
theorem Prt.g_on (x : Prt) : x.cells[26]? = some (i64 x.on) := id rfl
theorem Prt.s_on (x : Prt) (v : Int) : splice x.cells 26 [i64 v] = ({ x with on := v } : Prt).cells := id rfl
theorem Prt.g_agreed (x : Prt) : x.cells[27]? = some (.bool x.agreed) := id rfl
theorem Prt.s_agreed (x : Prt) (v : Bool) : splice x.cells 27 [.bool v] = ({ x with agreed := v } : Prt).cells := id rfl
theorem Prt.g_reply (x : Prt) : x.cells[28]? = some (.bool x.reply) := id rfl
theorem Prt.s_reply (x : Prt) (v : Bool) : splice x.cells 28 [.bool v] = ({ x with reply := v } : Prt).cells := id rfl

@[ext] structure Bpd where
  kind : Int
  flags : Int
  root : Idn
  cost : Int
  br : Idn
  port : Int
  age : Int
  maxAge : Int
  hello : Int
  forward : Int
  deriving DecidableEq, Inhabited

def Bpd.cells (x : Bpd) : List Value := [i64 x.kind, i64 x.flags, i64 x.root.prio, u8 x.root.mac.b0, u8 x.root.mac.b1, u8 x.root.mac.b2, u8 x.root.mac.b3, u8 x.root.mac.b4, u8 x.root.mac.b5, i64 x.cost, i64 x.br.prio, u8 x.br.mac.b0, u8 x.br.mac.b1, u8 x.br.mac.b2, u8 x.br.mac.b3, u8 x.br.mac.b4, u8 x.br.mac.b5, i64 x.port, i64 x.age, i64 x.maxAge, i64 x.hello, i64 x.forward]
theorem Bpd.len (x : Bpd) : x.cells.length = 22 := id rfl
theorem Bpd.one (x : Bpd) : x.cells.all S.oneCell = true := id rfl
theorem Bpd.dw (x : Bpd) : (x.cells.drop 0).take 22 = x.cells := id rfl
theorem Bpd.sw (x y : Bpd) : splice x.cells 0 y.cells = y.cells := id rfl
theorem Bpd.g_kind (x : Bpd) : x.cells[0]? = some (i64 x.kind) := id rfl
theorem Bpd.s_kind (x : Bpd) (v : Int) : splice x.cells 0 [i64 v] = ({ x with kind := v } : Bpd).cells := id rfl
theorem Bpd.g_flags (x : Bpd) : x.cells[1]? = some (i64 x.flags) := id rfl
theorem Bpd.s_flags (x : Bpd) (v : Int) : splice x.cells 1 [i64 v] = ({ x with flags := v } : Bpd).cells := id rfl
theorem Bpd.d_root (x : Bpd) : (x.cells.drop 2).take 7 = x.root.cells := id rfl
theorem Bpd.s_root (x : Bpd) (v : Idn) : splice x.cells 2 v.cells = ({ x with root := v } : Bpd).cells := id rfl
theorem Bpd.g_root_prio (x : Bpd) : x.cells[2]? = some (i64 x.root.prio) := id rfl
theorem Bpd.s_root_prio (x : Bpd) (v : Int) : splice x.cells 2 [i64 v] = ({ x with root := { x.root with prio := v } } : Bpd).cells := id rfl
theorem Bpd.d_root_mac (x : Bpd) : (x.cells.drop 3).take 6 = x.root.mac.cells := id rfl
theorem Bpd.s_root_mac (x : Bpd) (v : Mac) : splice x.cells 3 v.cells = ({ x with root := { x.root with mac := v } } : Bpd).cells := id rfl
theorem Bpd.g_cost (x : Bpd) : x.cells[9]? = some (i64 x.cost) := id rfl
theorem Bpd.s_cost (x : Bpd) (v : Int) : splice x.cells 9 [i64 v] = ({ x with cost := v } : Bpd).cells := id rfl
theorem Bpd.d_br (x : Bpd) : (x.cells.drop 10).take 7 = x.br.cells := id rfl
theorem Bpd.s_br (x : Bpd) (v : Idn) : splice x.cells 10 v.cells = ({ x with br := v } : Bpd).cells := id rfl
theorem Bpd.g_br_prio (x : Bpd) : x.cells[10]? = some (i64 x.br.prio) := id rfl
theorem Bpd.s_br_prio (x : Bpd) (v : Int) : splice x.cells 10 [i64 v] = ({ x with br := { x.br with prio := v } } : Bpd).cells := id rfl
theorem Bpd.d_br_mac (x : Bpd) : (x.cells.drop 11).take 6 = x.br.mac.cells := id rfl
theorem Bpd.s_br_mac (x : Bpd) (v : Mac) : splice x.cells 11 v.cells = ({ x with br := { x.br with mac := v } } : Bpd).cells := id rfl
theorem Bpd.g_port (x : Bpd) : x.cells[17]? = some (i64 x.port) := id rfl
theorem Bpd.s_port (x : Bpd) (v : Int) : splice x.cells 17 [i64 v] = ({ x with port := v } : Bpd).cells := id rfl
theorem Bpd.g_age (x : Bpd) : x.cells[18]? = some (i64 x.age) := id rfl
theorem Bpd.s_age (x : Bpd) (v : Int) : splice x.cells 18 [i64 v] = ({ x with age := v } : Bpd).cells := id rfl
theorem Bpd.g_maxAge (x : Bpd) : x.cells[19]? = some (i64 x.maxAge) := id rfl
theorem Bpd.s_maxAge (x : Bpd) (v : Int) : splice x.cells 19 [i64 v] = ({ x with maxAge := v } : Bpd).cells := id rfl
theorem Bpd.g_hello (x : Bpd) : x.cells[20]? = some (i64 x.hello) := id rfl
theorem Bpd.s_hello (x : Bpd) (v : Int) : splice x.cells 20 [i64 v] = ({ x with hello := v } : Bpd).cells := id rfl
theorem Bpd.g_forward (x : Bpd) : x.cells[21]? = some (i64 x.forward) := id rfl
theorem Bpd.s_forward (x : Bpd) (v : Int) : splice x.cells 21 [i64 v] = ({ x with forward := v } : Bpd).cells := id rfl

@[ext] structure Spk where
  port : Int
  b : Bpd
  deriving DecidableEq, Inhabited

def Spk.cells (x : Spk) : List Value := [i64 x.port, i64 x.b.kind, i64 x.b.flags, i64 x.b.root.prio, u8 x.b.root.mac.b0, u8 x.b.root.mac.b1, u8 x.b.root.mac.b2, u8 x.b.root.mac.b3, u8 x.b.root.mac.b4, u8 x.b.root.mac.b5, i64 x.b.cost, i64 x.b.br.prio, u8 x.b.br.mac.b0, u8 x.b.br.mac.b1, u8 x.b.br.mac.b2, u8 x.b.br.mac.b3, u8 x.b.br.mac.b4, u8 x.b.br.mac.b5, i64 x.b.port, i64 x.b.age, i64 x.b.maxAge, i64 x.b.hello, i64 x.b.forward]
theorem Spk.len (x : Spk) : x.cells.length = 23 := id rfl
theorem Spk.one (x : Spk) : x.cells.all S.oneCell = true := id rfl
theorem Spk.dw (x : Spk) : (x.cells.drop 0).take 23 = x.cells := id rfl
theorem Spk.sw (x y : Spk) : splice x.cells 0 y.cells = y.cells := id rfl
theorem Spk.g_port (x : Spk) : x.cells[0]? = some (i64 x.port) := id rfl
theorem Spk.s_port (x : Spk) (v : Int) : splice x.cells 0 [i64 v] = ({ x with port := v } : Spk).cells := id rfl
theorem Spk.d_b (x : Spk) : (x.cells.drop 1).take 22 = x.b.cells := id rfl
theorem Spk.s_b (x : Spk) (v : Bpd) : splice x.cells 1 v.cells = ({ x with b := v } : Spk).cells := id rfl
theorem Spk.g_b_kind (x : Spk) : x.cells[1]? = some (i64 x.b.kind) := id rfl
theorem Spk.s_b_kind (x : Spk) (v : Int) : splice x.cells 1 [i64 v] = ({ x with b := { x.b with kind := v } } : Spk).cells := id rfl
theorem Spk.g_b_flags (x : Spk) : x.cells[2]? = some (i64 x.b.flags) := id rfl
theorem Spk.s_b_flags (x : Spk) (v : Int) : splice x.cells 2 [i64 v] = ({ x with b := { x.b with flags := v } } : Spk).cells := id rfl
theorem Spk.d_b_root (x : Spk) : (x.cells.drop 3).take 7 = x.b.root.cells := id rfl
theorem Spk.s_b_root (x : Spk) (v : Idn) : splice x.cells 3 v.cells = ({ x with b := { x.b with root := v } } : Spk).cells := id rfl
theorem Spk.g_b_root_prio (x : Spk) : x.cells[3]? = some (i64 x.b.root.prio) := id rfl
theorem Spk.s_b_root_prio (x : Spk) (v : Int) : splice x.cells 3 [i64 v] = ({ x with b := { x.b with root := { x.b.root with prio := v } } } : Spk).cells := id rfl
theorem Spk.d_b_root_mac (x : Spk) : (x.cells.drop 4).take 6 = x.b.root.mac.cells := id rfl
theorem Spk.s_b_root_mac (x : Spk) (v : Mac) : splice x.cells 4 v.cells = ({ x with b := { x.b with root := { x.b.root with mac := v } } } : Spk).cells := id rfl
theorem Spk.g_b_cost (x : Spk) : x.cells[10]? = some (i64 x.b.cost) := id rfl
theorem Spk.s_b_cost (x : Spk) (v : Int) : splice x.cells 10 [i64 v] = ({ x with b := { x.b with cost := v } } : Spk).cells := id rfl
theorem Spk.d_b_br (x : Spk) : (x.cells.drop 11).take 7 = x.b.br.cells := id rfl
theorem Spk.s_b_br (x : Spk) (v : Idn) : splice x.cells 11 v.cells = ({ x with b := { x.b with br := v } } : Spk).cells := id rfl
theorem Spk.g_b_br_prio (x : Spk) : x.cells[11]? = some (i64 x.b.br.prio) := id rfl
theorem Spk.s_b_br_prio (x : Spk) (v : Int) : splice x.cells 11 [i64 v] = ({ x with b := { x.b with br := { x.b.br with prio := v } } } : Spk).cells := id rfl
theorem Spk.d_b_br_mac (x : Spk) : (x.cells.drop 12).take 6 = x.b.br.mac.cells := id rfl
theorem Spk.s_b_br_mac (x : Spk) (v : Mac) : splice x.cells 12 v.cells = ({ x with b := { x.b with br := { x.b.br with mac := v } } } : Spk).cells := id rfl
theorem Spk.g_b_port (x : Spk) : x.cells[18]? = some (i64 x.b.port) := id rfl
theorem Spk.s_b_port (x : Spk) (v : Int) : splice x.cells 18 [i64 v] = ({ x with b := { x.b with port := v } } : Spk).cells := id rfl
theorem Spk.g_b_age (x : Spk) : x.cells[19]? = some (i64 x.b.age) := id rfl
theorem Spk.s_b_age (x : Spk) (v : Int) : splice x.cells 19 [i64 v] = ({ x with b := { x.b with age := v } } : Spk).cells := id rfl
theorem Spk.g_b_maxAge (x : Spk) : x.cells[20]? = some (i64 x.b.maxAge) := id rfl
theorem Spk.s_b_maxAge (x : Spk) (v : Int) : splice x.cells 20 [i64 v] = ({ x with b := { x.b with maxAge := v } } : Spk).cells := id rfl
theorem Spk.g_b_hello (x : Spk) : x.cells[21]? = some (i64 x.b.hello) := id rfl
theorem Spk.s_b_hello (x : Spk) (v : Int) : splice x.cells 21 [i64 v] = ({ x with b := { x.b with hello := v } } : Spk).cells := id rfl
theorem Spk.g_b_forward (x : Spk) : x.cells[22]? = some (i64 x.b.forward) := id rfl
theorem Spk.s_b_forward (x : Spk) (v : Int) : splice x.cells 22 [i64 v] = ({ x with b := { x.b with forward := v } } : Spk).cells := id rfl

attribute [push_cast] Idn.len Idn.one Idn.dw Idn.sw Idn.g_prio Idn.s_prio Idn.d_mac Idn.s_mac Vec.len Vec.one Vec.dw Vec.sw Vec.d_root Vec.s_root Vec.g_root_prio Vec.s_root_prio Vec.d_root_mac Vec.s_root_mac Vec.g_cost Vec.s_cost Vec.d_br Vec.s_br Vec.g_br_prio Vec.s_br_prio Vec.d_br_mac Vec.s_br_mac Vec.g_port Vec.s_port Vec.g_own Vec.s_own Hrd.len Hrd.one Hrd.dw Hrd.sw Hrd.g_port Hrd.s_port Hrd.g_cost Hrd.s_cost Hrd.g_up Hrd.s_up Hrd.g_has Hrd.s_has Hrd.d_v Hrd.s_v Hrd.d_v_root Hrd.s_v_root Hrd.g_v_root_prio Hrd.s_v_root_prio Hrd.d_v_root_mac Hrd.s_v_root_mac Hrd.g_v_cost Hrd.s_v_cost Hrd.d_v_br Hrd.s_v_br Hrd.g_v_br_prio Hrd.s_v_br_prio Hrd.d_v_br_mac Hrd.s_v_br_mac Hrd.g_v_port Hrd.s_v_port Hrd.g_v_own Hrd.s_v_own Prt.len Prt.one Prt.dw Prt.sw Prt.d_h Prt.s_h Prt.g_h_port Prt.s_h_port Prt.g_h_cost Prt.s_h_cost Prt.g_h_up Prt.s_h_up Prt.g_h_has Prt.s_h_has Prt.d_h_v Prt.s_h_v Prt.d_h_v_root Prt.s_h_v_root Prt.g_h_v_root_prio Prt.s_h_v_root_prio Prt.d_h_v_root_mac Prt.s_h_v_root_mac Prt.g_h_v_cost Prt.s_h_v_cost Prt.d_h_v_br Prt.s_h_v_br Prt.g_h_v_br_prio Prt.s_h_v_br_prio Prt.d_h_v_br_mac Prt.s_h_v_br_mac Prt.g_h_v_port Prt.s_h_v_port Prt.g_h_v_own Prt.s_h_v_own Prt.g_age Prt.s_age Prt.g_until Prt.s_until Prt.g_edge Prt.s_edge Prt.g_role Prt.s_role Prt.g_state Prt.s_state Prt.g_on Prt.s_on Prt.g_agreed Prt.s_agreed Prt.g_reply Prt.s_reply Bpd.len Bpd.one Bpd.dw Bpd.sw Bpd.g_kind Bpd.s_kind Bpd.g_flags Bpd.s_flags Bpd.d_root Bpd.s_root Bpd.g_root_prio Bpd.s_root_prio Bpd.d_root_mac Bpd.s_root_mac Bpd.g_cost Bpd.s_cost Bpd.d_br Bpd.s_br Bpd.g_br_prio Bpd.s_br_prio Bpd.d_br_mac Bpd.s_br_mac Bpd.g_port Bpd.s_port Bpd.g_age Bpd.s_age Bpd.g_maxAge Bpd.s_maxAge Bpd.g_hello Bpd.s_hello Bpd.g_forward Bpd.s_forward Spk.len Spk.one Spk.dw Spk.sw Spk.g_port Spk.s_port Spk.d_b Spk.s_b Spk.g_b_kind Spk.s_b_kind Spk.g_b_flags Spk.s_b_flags Spk.d_b_root Spk.s_b_root Spk.g_b_root_prio Spk.s_b_root_prio Spk.d_b_root_mac Spk.s_b_root_mac Spk.g_b_cost Spk.s_b_cost Spk.d_b_br Spk.s_b_br Spk.g_b_br_prio Spk.s_b_br_prio Spk.d_b_br_mac Spk.s_b_br_mac Spk.g_b_port Spk.s_b_port Spk.g_b_age Spk.s_b_age Spk.g_b_maxAge Spk.s_b_maxAge Spk.g_b_hello Spk.s_b_hello Spk.g_b_forward Spk.s_b_forward

def Idn.lits (x : Idn) : List Lit := [.int .i64 x.prio, .int .u8 x.mac.b0, .int .u8 x.mac.b1, .int .u8 x.mac.b2, .int .u8 x.mac.b3, .int .u8 x.mac.b4, .int .u8 x.mac.b5]
def Vec.lits (x : Vec) : List Lit := [.int .i64 x.root.prio, .int .u8 x.root.mac.b0, .int .u8 x.root.mac.b1, .int .u8 x.root.mac.b2, .int .u8 x.root.mac.b3, .int .u8 x.root.mac.b4, .int .u8 x.root.mac.b5, .int .i64 x.cost, .int .i64 x.br.prio, .int .u8 x.br.mac.b0, .int .u8 x.br.mac.b1, .int .u8 x.br.mac.b2, .int .u8 x.br.mac.b3, .int .u8 x.br.mac.b4, .int .u8 x.br.mac.b5, .int .i64 x.port, .int .i64 x.own]
def Bpd.lits (x : Bpd) : List Lit := [.int .i64 x.kind, .int .i64 x.flags, .int .i64 x.root.prio, .int .u8 x.root.mac.b0, .int .u8 x.root.mac.b1, .int .u8 x.root.mac.b2, .int .u8 x.root.mac.b3, .int .u8 x.root.mac.b4, .int .u8 x.root.mac.b5, .int .i64 x.cost, .int .i64 x.br.prio, .int .u8 x.br.mac.b0, .int .u8 x.br.mac.b1, .int .u8 x.br.mac.b2, .int .u8 x.br.mac.b3, .int .u8 x.br.mac.b4, .int .u8 x.br.mac.b5, .int .i64 x.port, .int .i64 x.age, .int .i64 x.maxAge, .int .i64 x.hello, .int .i64 x.forward]
def Spk.lits (x : Spk) : List Lit := [.int .i64 x.port, .int .i64 x.b.kind, .int .i64 x.b.flags, .int .i64 x.b.root.prio, .int .u8 x.b.root.mac.b0, .int .u8 x.b.root.mac.b1, .int .u8 x.b.root.mac.b2, .int .u8 x.b.root.mac.b3, .int .u8 x.b.root.mac.b4, .int .u8 x.b.root.mac.b5, .int .i64 x.b.cost, .int .i64 x.b.br.prio, .int .u8 x.b.br.mac.b0, .int .u8 x.b.br.mac.b1, .int .u8 x.b.br.mac.b2, .int .u8 x.b.br.mac.b3, .int .u8 x.b.br.mac.b4, .int .u8 x.b.br.mac.b5, .int .i64 x.b.port, .int .i64 x.b.age, .int .i64 x.b.maxAge, .int .i64 x.b.hello, .int .i64 x.b.forward]
def Idn.ok (x : Idn) : Prop := isI x.prio ∧ x.mac.ok
def Vec.ok (x : Vec) : Prop := x.root.ok ∧ isI x.cost ∧ x.br.ok ∧ isI x.port ∧ isI x.own
def Hrd.ok (x : Hrd) : Prop := isI x.port ∧ isI x.cost ∧ x.v.ok
def Prt.ok (x : Prt) : Prop := x.h.ok ∧ isI x.age ∧ isI x.until_ ∧ isI x.role ∧ isI x.state ∧ isI x.on
def Bpd.ok (x : Bpd) : Prop := isI x.kind ∧ isI x.flags ∧ x.root.ok ∧ isI x.cost ∧ x.br.ok ∧ isI x.port ∧ isI x.age ∧ isI x.maxAge ∧ isI x.hello ∧ isI x.forward
def Spk.ok (x : Spk) : Prop := isI x.port ∧ x.b.ok

theorem Idn.lits_inj {a b : Idn} : a.lits = b.lits ↔ a = b := by
  constructor
  · intro h
    simp only [Idn.lits, List.cons.injEq, Lit.int.injEq, Lit.bool.injEq, true_and, and_true] at h
    obtain ⟨h0, h1, h2, h3, h4, h5, h6⟩ := h
    exact (Idn.ext h0 (Mac.ext h1 h2 h3 h4 h5 h6))
  · rintro rfl; rfl
theorem Vec.lits_inj {a b : Vec} : a.lits = b.lits ↔ a = b := by
  constructor
  · intro h
    simp only [Vec.lits, List.cons.injEq, Lit.int.injEq, Lit.bool.injEq, true_and, and_true] at h
    obtain ⟨h0, h1, h2, h3, h4, h5, h6, h7, h8, h9, h10, h11, h12, h13, h14, h15, h16⟩ := h
    exact (Vec.ext (Idn.ext h0 (Mac.ext h1 h2 h3 h4 h5 h6)) h7 (Idn.ext h8 (Mac.ext h9 h10 h11 h12 h13 h14)) h15 h16)
  · rintro rfl; rfl
theorem Bpd.lits_inj {a b : Bpd} : a.lits = b.lits ↔ a = b := by
  constructor
  · intro h
    simp only [Bpd.lits, List.cons.injEq, Lit.int.injEq, Lit.bool.injEq, true_and, and_true] at h
    obtain ⟨h0, h1, h2, h3, h4, h5, h6, h7, h8, h9, h10, h11, h12, h13, h14, h15, h16, h17, h18, h19, h20, h21⟩ := h
    exact (Bpd.ext h0 h1 (Idn.ext h2 (Mac.ext h3 h4 h5 h6 h7 h8)) h9 (Idn.ext h10 (Mac.ext h11 h12 h13 h14 h15 h16)) h17 h18 h19 h20 h21)
  · rintro rfl; rfl
theorem Spk.lits_inj {a b : Spk} : a.lits = b.lits ↔ a = b := by
  constructor
  · intro h
    simp only [Spk.lits, List.cons.injEq, Lit.int.injEq, Lit.bool.injEq, true_and, and_true] at h
    obtain ⟨h0, h1, h2, h3, h4, h5, h6, h7, h8, h9, h10, h11, h12, h13, h14, h15, h16, h17, h18, h19, h20, h21, h22⟩ := h
    exact (Spk.ext h0 (Bpd.ext h1 h2 (Idn.ext h3 (Mac.ext h4 h5 h6 h7 h8 h9)) h10 (Idn.ext h11 (Mac.ext h12 h13 h14 h15 h16 h17)) h18 h19 h20 h21 h22))
  · rintro rfl; rfl

end Go.Gx
end

section
/- What may panic, and is let go. -/
namespace Go.Gx
open Go
variable {P : Program} {K Z : Value → World → Prop} {w : World}

theorem opZ_congr {P : Program} {s s' : Sem Next} (h : s = s') (K Z : Value → World → Prop) (w : World) : opZ P s K Z w = opZ P s' K Z w := by rw [h]
theorem pifS_congr {x x' : Value} (h : x = x') (k : World → Prop) (w : World) : pifS x k w = pifS x' k w := by rw [h]
attribute [congr] opZ_congr pifS_congr

theorem opZ_cl {f : FuncId} [hf : FnB P f] (args : List Value) : opZ P (S.cl f args) K Z w = CallsZ P f args.toArray K Z w := by
  unfold S.cl S.call opZ
  have : (do
      let d ← Deferred.ofValue (.func (.func f) #[] #[]) args.toArray
      invoke d.target d.args : Sem Next) = callFunc f (#[] ++ args.toArray ++ #[]) := rfl
  rw [this, hf.enter]
  simp [uponZ]

theorem opZ_call {f : FuncId} [hf : FnB P f] (cap : Array Value) (args : List Value) : opZ P (S.call (.func (.func f) #[] cap) args) K Z w = CallsZ P f (args.toArray ++ cap) K Z w := by
  unfold S.call opZ
  have : (do
      let d ← Deferred.ofValue (.func (.func f) #[] cap) args.toArray
      invoke d.target d.args : Sem Next) = callFunc f (#[] ++ args.toArray ++ cap) := rfl
  rw [this, hf.enter]
  simp [uponZ]

/-- any other operation panics not -/
theorem opZ_of {s : Sem Next} (h : opS P s K w) : opZ P s K Z w := by
  unfold opZ
  unfold opS at h
  generalize s.run P w = r at h
  cases r with
  | halt x w => exact h
  | ok n w => cases n <;> first | exact h | exact CallsZ.of h

theorem pifS_iface (t : TypeId) (x : Value) (k : World → Prop) (w : World) : pifS (.iface t x) k w = k w := id rfl
attribute [push_cast] opZ_cl opZ_call pifS_iface

theorem opS_iface {t : TypeId} {fs : Array Field} [hT : StT P t fs] (x : Value) : opS P (S.iface t x) K w = K (.iface t x) w := by
  unfold S.iface
  rw [opS_bind]
  have : (Instr.makeInterface t x).run P w = .ok (.iface t x) w := by
    unfold Instr.makeInterface
    rw [Sem.run_bind, run_underlying_of hT.und, Result.andThen_ok]
    rfl
  rw [this]

/-- 'v[:k]' of a slice that was read in a world ahead -/
theorem s_slcH0 {T E sz : Nat} {ag : Bool} [hT : SlT P T E] [hs : Sz P E sz ag] {w0 : World} {v : Value} {es : List (List Value)} (h : RdE sz w0 v es) {k : Nat} (hk : k ≤ es.length) (hK : ∀ v', RdE sz w0 v' (es.take k) → K v' w) : opS P (S.slc T v none (some (.int .i64 k)) none) K w := by
  obtain ⟨a, c, rfl, hc⟩ := h.cap
  rw [opS_slice (run_boundsH (hi := (k : Int)) (by omega) (by omega))]
  have := h.part (l := 0) (m := k) (by omega) hk
  rw [List.drop_zero] at this
  exact hK _ this

/-- 'v[k:]' -/
theorem s_slcL0 {T E sz : Nat} {ag : Bool} [hT : SlT P T E] [hs : Sz P E sz ag] {w0 : World} {v : Value} {es : List (List Value)} (h : RdE sz w0 v es) {k : Nat} (hk : k ≤ es.length) (hK : ∀ v', RdE sz w0 v' (es.drop k) → K v' w) : opS P (S.slc T v (some (.int .i64 k)) none none) K w := by
  obtain ⟨a, c, rfl, hc⟩ := h.cap
  rw [opS_slice (run_boundsL (lo := (k : Int)) (by omega) (by omega))]
  have := h.part (l := k) (m := es.length) hk (Nat.le_refl _)
  rw [List.take_length] at this
  exact hK _ this

end Go.Gx
end

section
/- Operations that tell one value each, in worlds that grow. -/
namespace Go.Gx
open Go
variable {P : Program} {K : Value → World → Prop} {w : World}

theorem quietS_intro (C : World → Prop) {b : (World → Prop) → World → Prop} (hC : C w) (h : b C w) : quietS b w := ⟨C, hC, h⟩
theorem qendS_intro {C k : World → Prop} (h : ∀ w', C w' → k w') : qendS C k w := h
/-- an operation that but tells a value -/
theorem qt_pure {C : World → Prop} {s : Sem Next} {v : Value} (h : ∀ (R : Value → World → Prop) w', C w' → opS P s R w' = R v w') (hk : K v w) : qtS P C s K w :=
  ⟨v, fun w' hC => by rw [h _ w' hC]; exact ⟨rfl, hC⟩, hk⟩
/-- one that tells a value, in a world that may have grown -/
theorem qt_run {C : World → Prop} {s : Sem Next} (v : Value) (h : ∀ (R : Value → World → Prop) w', C w' → (∀ w'', C w'' → R v w'') → opS P s R w') (hk : K v w) : qtS P C s K w :=
  ⟨v, fun w' hC => h _ w' hC fun w'' hC'' => ⟨rfl, hC''⟩, hk⟩

variable {W0 : World}
theorem qt_ld1 {T n : Nat} [hs : Sz P T n false] {b o : Nat} {v : Value} {x : Obj} (hb : W0.heap[b]? = some x) (hv : cellAt (some x) o = some v) (hk : K v w) : qtS P (Fr none_ W0) (S.ld T (pt b o)) K w :=
  qt_pure (fun R w' hC => by rw [s_ld1, hC.heap hb (fun h => h), hv, onS_some]) hk
theorem qt_ldN {T n : Nat} [hs : Sz P T n true] {b o : Nat} {v : Value} {x : Obj} (hn : 0 < n) (hb : W0.heap[b]? = some x) (hv : aggAt (some x) o n = some v) (hk : K v w) : qtS P (Fr none_ W0) (S.ld T (pt b o)) K w :=
  qt_pure (fun R w' hC => by rw [s_ldN hn, hC.heap hb (fun h => h), hv, onS_some]) hk
theorem qt_cl {f : FuncId} [hf : FnB P f] {args : List Value} (v : Value) (h : ∀ (R : Value → World → Prop) w', (∀ w'', Fr none_ w' w'' → R v w'') → CallsR P f args.toArray R w') (hk : K v w) : qtS P (Fr none_ W0) (S.cl f args) K w :=
  qt_run v (fun R w' hC hR => by rw [opS_cl]; exact h R w' fun w'' hF => hR w'' (hC.trans hF)) hk
theorem qt_binI {op : BinOp} {x y v : Value} (h : ∀ (R : Value → World → Prop) w', opS P (S.binI op x y) R w' = R v w') (hk : K v w) {C : World → Prop} : qtS P C (S.binI op x y) K w := qt_pure (fun R w' _ => h R w') hk


/-! ### The lesser one -/

theorem opS_min {x y : Int} {k : IntKind} {ats : Array TypeId} {ty : TypeId} : opS P (S.bi .min ats ty [.int k x, .int k y]) K w = K (.int k (if x ≤ y then x else y)) w := by
  show opS P (do pure (Next.value (← Builtin.min_ ats ty #[.int k x, .int k y]))) K w = _
  rw [opS_bind]
  have : (Builtin.min_ ats ty #[.int k x, .int k y]).run P w = .ok (.int k (if x ≤ y then x else y)) w := by
    simp [Builtin.min_, Builtin.min2]
    try (split <;> simp_all <;> omega)
  rw [this]
theorem opS_max {x y : Int} {k : IntKind} {ats : Array TypeId} {ty : TypeId} : opS P (S.bi .max ats ty [.int k x, .int k y]) K w = K (.int k (if x ≤ y then y else x)) w := by
  show opS P (do pure (Next.value (← Builtin.max_ ats ty #[.int k x, .int k y]))) K w = _
  rw [opS_bind]
  have : (Builtin.max_ ats ty #[.int k x, .int k y]).run P w = .ok (.int k (if x ≤ y then y else x)) w := by
    simp [Builtin.max_, Builtin.max2]
    try (split <;> simp_all <;> omega)
  rw [this]
attribute [push_cast] opS_min opS_max

/-! ### Slices of so many elements -/

theorem mergeF_full {z : List Value} : ∀ (vs : List Value) (i : Nat), (∀ v ∈ vs, v.cells.toList.length = z.length) → mergeF i (List.replicate vs.length z) ((List.range' i vs.length).zip vs) = some (vs.flatMap fun v => v.cells.toList)
  | [], i, _ => rfl
  | v :: vs, i, h => by
    simp only [List.length_cons, List.replicate_succ, List.range'_succ, List.zip_cons_cons, mergeF, if_pos]
    rw [if_pos (h v (by simp)), mergeF_full vs (i + 1) fun u hu => h u (by simp [hu])]
    rfl

/-- a slice of elements that are given, all of them -/
theorem s_bsN {T E sz : Nat} {ag : Bool} {z : Value} [hT : SlT P T E] [hs : Sz P E sz ag] [hz : ZV P E z] (vs : List Value) (h0 : 0 < vs.length) (hsz : 0 < sz) (h24 : vs.length * sz ≤ 2 ^ 24) (hzn : z.cells.size = sz) (hv : ∀ v ∈ vs, v.cells.toList.length = sz)
    (h : ∀ v' w', OwnE E sz w' v' (vs.map fun v => v.cells.toList) → Fr none_ w w' → New w v' → K v' w') : opS P (S.buildS T vs.length ((List.range' 0 vs.length).zip vs)) K w := by
  unfold S.buildS
  rw [opS_bind]
  unfold Instr.buildSlice
  rw [Sem.run_bind, run_underlying_of hT.und, Result.andThen_ok]
  simp only []
  rw [Sem.run_bind, hs.size w, Result.andThen_ok]
  have hpos : 0 < vs.length * sz := Nat.mul_pos h0 hsz
  rw [if_neg (by omega), if_neg (by omega), Sem.run_bind, hz.zero w, Result.andThen_ok]
  have hr := range_zeros vs.length z.cells
  rw [hzn] at hr
  simp only [pure_bind, hzn, hr]
  have hzl : z.cells.toList.length = sz := by rw [Array.length_toList, hzn]
  have hm := fill_merge (place := fun i => some (i * sz, sz)) (List.replicate vs.length z.cells.toList) 0 [] ((List.range' 0 vs.length).zip vs) (vs.flatMap fun v => v.cells.toList) (fun k hk => by
    have h2 := offs_rep (z := z.cells.toList) vs.length 0 k (by simpa using hk)
    simp only [List.length_nil] at h2 ⊢
    rw [h2, hzl]; simp) (mergeF_full vs 0 fun v hvv => by rw [hv v hvv, hzl])
  simp only [List.nil_append] at hm
  have e : (zeros vs.length z.cells.toList).toArray = (List.replicate vs.length z.cells.toList).flatten.toArray := rfl
  rw [e, hm]
  have hfl : (vs.map fun v => v.cells.toList).flatten = vs.flatMap fun v => v.cells.toList := rfl
  refine h _ _ ⟨.inr ⟨w.heap.size, 0, vs.length, (vs.flatMap fun v => v.cells.toList).toArray, by rw [List.length_map], heap_alloc_new _ _, by rw [List.length_map]; exact Nat.le_refl _, ?_, ?_⟩, ?_⟩ (Fr.alloc _ _ rfl) fun b hb => by cases hb; exact Nat.le_refl _
  · rw [← hfl, List.size_toArray, flatten_len (sz := sz) (by intro x hx; obtain ⟨v, hvv, rfl⟩ := List.mem_map.1 hx; exact hv v hvv), List.length_map]; omega
  · rw [List.drop_zero, List.length_map, hfl, List.take_of_length_le]
    rw [← hfl, flatten_len (sz := sz) (by intro x hx; obtain ⟨v, hvv, rfl⟩ := List.mem_map.1 hx; exact hv v hvv), List.length_map]
    exact Nat.le_refl _
  · intro x hx; obtain ⟨v, hvv, rfl⟩ := List.mem_map.1 hx; exact hv v hvv

end Go.Gx
end
