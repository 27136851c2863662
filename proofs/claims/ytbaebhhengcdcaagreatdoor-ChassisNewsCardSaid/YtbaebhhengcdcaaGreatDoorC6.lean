/- Own texts, put together. -/
import Derived.Test.YtbaebhhengcdcaaGreatDoorC5
import Derived.Test.YtbaebhhengcdcaaGreatDoorC1
import Derived.Test.YtbaebhhengcdcaaGreatDoorC2
import Derived.LaidMore
import Derived.LaidHandle
import Derived.Stop.Joined
import Derived.Test.YtbaebhhengcdcaaGreatDoorRows
import Derived.Test.YtbaebhhengcdcaaGreatDoorCards
import Derived.Test.YtbaebhhengcdcaaGreatDoorTie
import Derived.SevenTiedAt
section
/- The chassis of a law: a chassis alone; the law of ChassisNews. -/
set_option linter.unusedVariables false
set_option linter.unusedSimpArgs false
set_option maxRecDepth 100000
namespace Go.Gx.S
open Go Go.Gx Go.Proofs
variable {K : Value → World → Prop} {w : World}

/-! ### Plain -/

def siteO : List Int := [0, 1, 2, 2]
def portP (x : Chs) (p : Int) : Chs := (({ x with fs := { x.fs with t := ((x.fs.t.add 1 p false).1.native p 1).1, S := (setL' x.fs.S p 2).1 } } : Chs).link0 p true).1
def plainC : Nat → Chs
  | 0 => newCh 0 5 siteO 1
  | k + 1 => portP (plainC k) ((k : Int) + 1)
def awC1 : Chs := (plainC 4).tick0 12
def awC2 : Chs × Int × List (Int × Frm) := awC1.frame0 20 1 (awF 4 2) 0 12
theorem awC_ok : (plainC 4).serves 3 = false ∧ awC2.1.serves 1 = true ∧ awC2.1.serves 3 = true ∧ awC2.1.serves 2 = false ∧ awC2.1.s.role = 2 ∧ awC2.2.1 = 0 ∧ awC2.2.2.length = 2 := by decide +kernel

theorem siteO_ok : newOk 0 5 siteO 20 1 := by
  unfold newOk Ses.argOk siteO
  decide
theorem link0_t (x : Chs) (p : Int) (up : Bool) : (x.link0 p up).1.t = x.t ∧ (x.link0 p up).1.k.session = x.k.session ∧ (x.link0 p up).1.s = x.s := by
  unfold Chs.link0
  split
  · split
    · split
      · refine ⟨rfl, ?_, rfl⟩
        show (x.k.upP p up).session = _
        unfold Shk.upP
        split <;> rfl
      · exact ⟨rfl, rfl, rfl⟩
    · exact ⟨rfl, rfl, rfl⟩
  · exact ⟨rfl, rfl, rfl⟩
theorem Chs.wf.vl {room : Nat} {x : Chs} {t : VT} (h : x.wf room) : ({ x with fs := { x.fs with t := t } } : Chs).wf room := ⟨h.s, h.ow, h.kl, h.sl, ⟨h.good.n, h.good.z⟩, h.oi⟩
theorem Chs.wf.set {room : Nat} {x : Chs} (h : x.wf room) (p st : Int) : ({ x with fs := { x.fs with S := (setL' x.fs.S p st).1 } } : Chs).wf room :=
  ⟨h.s, h.ow, h.kl, by show (setL' x.fs.S p st).1.length = _; rw [setL'_S.1]; exact h.sl, ⟨h.good.n, setL'_S.2 h.good.z⟩, h.oi⟩
theorem plainC_wf : ∀ k, (plainC k).wf 20 ∧ (plainC k).t = none ∧ (plainC k).k.session = false
  | 0 => ⟨newCh_wf siteO_ok, rfl, rfl⟩
  | k + 1 => by
    obtain ⟨h1, h2, h3⟩ := plainC_wf k
    have h4 := (h1.vl (t := (((plainC k).fs.t.add 1 ((k : Int) + 1) false).1.native ((k : Int) + 1) 1).1)).set ((k : Int) + 1) 2
    obtain ⟨h5, h6, _⟩ := link0_t ({ plainC k with fs := { (plainC k).fs with t := (((plainC k).fs.t.add 1 ((k : Int) + 1) false).1.native ((k : Int) + 1) 1).1, S := (setL' (plainC k).fs.S ((k : Int) + 1) 2).1 } } : Chs) ((k : Int) + 1) true
    exact ⟨h4.link _ _, h5.trans h2, h6.trans h3⟩

/-! ### Both of them -/

structure Two (N0 : Nat) (w : World) (room : Nat) (cp rp : Nat) (x y : Chs) : Prop where
  ex : ∃ a ra, a.cp = cp ∧ ra.rp = rp ∧ CM N0 w room a x ∧ RM N0 w room ra y ∧ ∀ b, a.all b → ¬ ra.all b

section
variable {N0 room cp rp : Nat} {x y : Chs}
theorem Two.fr0 {w' : World} (h : Two N0 w room cp rp x y) (hF : Fr none_ w w') : Two N0 w' room cp rp x y := by
  obtain ⟨a, ra, h1, h2, h3, h4, h5⟩ := h.ex
  exact ⟨a, ra, h1, h2, h3.fr0 hF, h4.fr0 hF, h5⟩
/-- something happens to the code's -/
theorem Two.code {w' : World} {a a' : CA} {ra : RA} {x' : Chs} (hc : CM N0 w room a x) (hr : RM N0 w room ra y) (hd : ∀ b, a.all b → ¬ ra.all b) (hF : Fr a.all w w') (h' : CM N0 w' room a' x') (ha : ∀ b, a'.all b → a.all b ∨ w.heap.size ≤ b) :
    RM N0 w' room ra y ∧ ∀ b, a'.all b → ¬ ra.all b :=
  ⟨hr.fr hF fun b hb e => hd b e hb, fun b hb e => by
    rcases ha b hb with h | h
    · exact hd b h e
    · have := hr.lt b e; omega⟩
/-- something happens to the document's -/
theorem Two.doc {w' : World} {a : CA} {ra ra' : RA} {y' : Chs} (hc : CM N0 w room a x) (hr : RM N0 w room ra y) (hd : ∀ b, a.all b → ¬ ra.all b) (hF : Fr ra.all w w') (h' : RM N0 w' room ra' y') (ha : ∀ b, ra'.all b → ra.all b ∨ w.heap.size ≤ b) :
    CM N0 w' room a x ∧ ∀ b, a.all b → ¬ ra'.all b :=
  ⟨hc.fr hF fun b hb e => hd b hb e, fun b hb e => by
    rcases ha b e with h | h
    · exact hd b hb h
    · have := hc.lt b hb; omega⟩
end

theorem CM.lower {N N0 room : Nat} {a : CA} {x : Chs} (h : CM N w room a x) (hN : N0 ≤ N) : CM N0 w room a x :=
  ⟨h.blk, h.k, h.ov, h.ovl, h.um, h.s, h.br.lower hN, h.t, h.tl, h.dj, fun b hb => Nat.le_trans hN (h.ge b hb)⟩

/-! ### The first ones -/

theorem site_spec (hk : ∀ w' ov, RdE 1 w' ov (siteO.map cellI) → Fr none_ w w' → K (.agg (siteC 0 5 ov 20).toArray) w') : CallsR Tryz.prog 46 #[] K w := by
  apply c46
  unfold p46
  have hz : ∀ (R : Value → World → Prop) W, opS Tryz.prog (S.alloc 24) R W = R (pt W.heap.size 0) (W.alloc (cellsO (siteC 0 0 (.slice none 0 0) 0) 24)) := fun R W => by
    rw [opS_alloc]; rfl
  rw [hz]
  have hF1 : Fr none_ w (w.alloc (cellsO (siteC 0 0 (.slice none 0 0) 0) 24)) := (by repeat' first | with_reducible exact Fr.refl _ _ | with_reducible refine Fr.step_alloc ?_ ?_ | with_reducible refine Fr.step_drew ?_ | with_reducible refine Fr.step_wr ?_ ?_ _ _ | exact rfl | exact Or.inr (by omega) | exact Or.inl rfl | exact Or.inl (Or.inl rfl) | exact Or.inl (Or.inr rfl))
  have hx1 : (w.alloc (cellsO (siteC 0 0 (.slice none 0 0) 0) 24)).heap[w.heap.size]? = some (cellsO (siteC 0 0 (.slice none 0 0) 0) 24) := by simp only [push_cast, Nat.reduceAdd, Nat.reduceLeDiff, Nat.reduceLT, Int.reduceToNat, Nat.left_eq_add, Nat.add_eq_left, Nat.add_left_cancel_iff, Nat.reduceEqDiff, Nat.add_assoc, Nat.succ_ne_zero]
  generalize w.alloc (cellsO (siteC 0 0 (.slice none 0 0) 0) 24) = w1 at *
  generalize hxb : w.heap.size = xb at *
  refine s_bsN (sz := 1) (z := .int .i64 0) [i64 0, i64 1, i64 2, i64 2] (by decide) (by decide) (by decide) rfl (fun v hv => ?_) fun v w2 hv hF2 hN2 => ?_
  · simp only [List.mem_cons, List.not_mem_nil, or_false] at hv
    rcases hv with rfl | rfl | rfl | rfl <;> rfl
  obtain ⟨va, vc, rfl⟩ := hv.rd.form
  have hx2 := hF2.heap hx1 fun h => h
  have hb : ∀ (R : Value → World → Prop) W n c (r : Option Addr), opS Tryz.prog (S.build 24 [(0, i64 0), (1, i64 5), (2, .slice r n c), (3, i64 20)]) R W = R (.agg (siteC 0 5 (.slice r n c) 20).toArray) W := fun R W n c r => by
    rw [opS_build _ rfl]; rfl
  rw [hb]
  have hone : ∀ n c (r : Option Addr), (siteC 0 5 (.slice r n c) 20).all S.oneCell = true := fun _ _ _ => rfl
  simp only [push_cast, Nat.reduceAdd, Nat.reduceLeDiff, Nat.reduceLT, Int.reduceToNat, Nat.left_eq_add, Nat.add_eq_left, Nat.add_left_cancel_iff, Nat.reduceEqDiff, Nat.add_assoc, Nat.succ_ne_zero, hx2, hone]
  have hFx : Fr none_ w (wr w2 xb 0 (siteC 0 5 (.slice va ([i64 0, i64 1, i64 2, i64 2].map fun v => v.cells.toList).length vc) 20)) := (hF1.trans hF2).step_wr (.inr (by omega)) _ _
  refine hk _ _ (hv.rd.fr (Fr.wr (fp := fun b => b = xb) _ _ _ _ rfl) fun b hb e => ?_) hFx
  have := hN2 b hb
  have := lt_of_heap hx1
  omega

theorem RM.lower {N N0 room : Nat} {a : RA} {x : Chs} (h : RM N w room a x) (hN : N0 ≤ N) : RM N0 w room a x :=
  ⟨h.blk, h.k, h.ov, h.ovl, h.uv, h.s, h.br.lower hN (fun _ _ e => e) fun _ e => e.elim, h.t, h.tl, h.dj, fun b hb => Nat.le_trans hN (h.ge b hb)⟩

/-- the document's bridge: its table of VLANs, and what is known of its blocks -/
theorem RM.rbVl {N0 room : Nat} {a : RA} {x : Chs} (h : RM N0 w room a x) {R : Value → World → Prop} (hk : R (pt a.vq 0) w) :
    opS Tryz.prog (S.nc (pt a.rp 0)) (fun x20 => opS Tryz.prog (S.fa 45 x20 1) fun x21 => opS Tryz.prog (S.ld 38 x21) fun x22 => opS Tryz.prog (S.nc x22) fun x23 => opS Tryz.prog (S.fa 123 x23 1) fun x24 => opS Tryz.prog (S.ld 120 x24) R) w := by
  simp only [push_cast, Nat.reduceAdd, Nat.reduceLeDiff, Nat.reduceLT, Int.reduceToNat, Nat.left_eq_add, Nat.add_eq_left, Nat.add_left_cancel_iff, Nat.reduceEqDiff, Nat.add_assoc, Nat.succ_ne_zero, h.blk, h.br.blk]
  exact hk
theorem RM.rbB {N0 room : Nat} {a : RA} {x : Chs} (h : RM N0 w room a x) {R : Value → World → Prop} (hk : R (pt a.rb 0) w) :
    opS Tryz.prog (S.nc (pt a.rp 0)) (fun x20 => opS Tryz.prog (S.fa 45 x20 1) fun x21 => opS Tryz.prog (S.ld 38 x21) R) w := by
  simp only [push_cast, Nat.reduceAdd, Nat.reduceLeDiff, Nat.reduceLT, Int.reduceToNat, Nat.left_eq_add, Nat.add_eq_left, Nat.add_left_cancel_iff, Nat.reduceEqDiff, Nat.add_assoc, Nat.succ_ne_zero, h.blk]
  exact hk

theorem RA.all_vL {a : RA} {vL fL : Value} {b : Nat} (h : ({ a with vL := vL, fL := fL } : RA).all b) : a.all b ∨ rwf a.rb a.sb a.vq a.vnb vL a.fq fL b := by
  obtain ⟨i, hi⟩ := h
  match i, hi with
  | 0, hi => exact .inl ⟨0, hi⟩
  | 1, hi => exact .inl ⟨1, hi⟩
  | 2, hi => exact .inl ⟨2, hi⟩
  | 3, hi => exact .inl ⟨3, hi⟩
  | 4, hi => exact .inl ⟨4, hi⟩
  | 5, hi => exact .inr hi
  | 6, hi => exact .inl ⟨6, hi⟩
theorem RM.stepVl {N0 room : Nat} {a : RA} {x : Chs} {w' : World} {t' : VT} {vL' : Value} (h : RM N0 w room a x) (hG : Fr (Vl.rfp a.vq a.vnb a.vL) w w') (hv : Vl.RRep w' a.vq a.vnb vL' t') (hn : blkS vL' = blkS a.vL ∨ New w vL') :
    ∃ a' : RA, a'.rp = a.rp ∧ RM N0 w' room a' { x with fs := { x.fs with t := t' } } ∧ Fr a.all w w' ∧ ∀ b, a'.all b → a.all b ∨ w.heap.size ≤ b := by
  have hB2 := h.br.vl hG hv hn
  have hnew : ∀ b, rwf a.rb a.sb a.vq a.vnb vL' a.fq a.fL b → a.G 5 b ∨ w.heap.size ≤ b := fun b hb => by
    rcases hb with e | e | e | e
    · exact .inl (.inl e)
    · exact .inl (.inr (.inl e))
    · rcases e with e | e | e
      · exact .inl (.inr (.inr (.inl (.inl e))))
      · exact .inl (.inr (.inr (.inl (.inr (.inl e)))))
      · rcases hn with hn | hn
        · exact .inl (.inr (.inr (.inl (.inr (.inr (by rw [← hn]; exact e))))))
        · exact .inr (hn b e)
    · exact .inl (.inr (.inr (.inr e)))
  exact ⟨{ a with vL := vL', fL := a.fL }, rfl, h.setB (hG.mono fun b _ e => .inr (.inr (.inl e))) hB2 hnew, hG.mono fun b _ e => ⟨5, .inr (.inr (.inl e))⟩, fun b hb => by
    rcases RA.all_vL hb with e | e
    · exact .inl e
    · rcases hnew b e with e | e
      · exact .inl ⟨5, e⟩
      · exact .inr e⟩
theorem RM.stepSet {N0 room : Nat} {a : RA} {x : Chs} {w' : World} {fs' : FS} (h : RM N0 w room a x) (hG : Fr (fun b => b = a.sb) w w') (hB : RBR (fun _ => False) N0 w' a.rb a.vq a.vnb a.vL a.fq a.fL a.sb a.so a.sc room fs') :
    ∃ a' : RA, a'.rp = a.rp ∧ RM N0 w' room a' { x with fs := fs' } ∧ Fr a.all w w' ∧ ∀ b, a'.all b → a.all b ∨ w.heap.size ≤ b :=
  ⟨{ a with vL := a.vL, fL := a.fL }, rfl, h.setB (hG.mono fun b _ e => .inr (.inl e)) hB fun b hb => .inl hb, hG.mono fun b _ e => ⟨5, .inr (.inl e)⟩, fun b hb => by
    rcases RA.all_vL hb with e | e
    · exact .inl e
    · exact .inl ⟨5, e⟩⟩

theorem cplain_spec {N0 : Nat} (hN : N0 ≤ w.heap.size) (hk : ∀ w' cp rp, Two N0 w' 20 cp rp (plainC 4) (plainC 4) → Fr none_ w w' → K (.tuple #[pt cp 0, pt rp 0, .bool true]) w') :
    CallsR Tryz.prog 18 #[] K w := by
  apply c18
  unfold p18
  simp only [push_cast, Nat.reduceAdd, Nat.reduceLeDiff, Nat.reduceLT, Int.reduceToNat, Nat.left_eq_add, Nat.add_eq_left, Nat.add_left_cancel_iff, Nat.reduceEqDiff, Nat.add_assoc, Nat.succ_ne_zero]
  refine site_spec fun w1 ov1 ho1 hF1 => ?_
  refine cnew_spec (N0 := w.heap.size) hF1.size ho1 (by decide) (fun _ _ e => absurd siteO_ok e) fun _ w2 a hC hag hF2 => ?_
  simp only [push_cast, Nat.reduceAdd, Nat.reduceLeDiff, Nat.reduceLT, Int.reduceToNat, Nat.left_eq_add, Nat.add_eq_left, Nat.add_left_cancel_iff, Nat.reduceEqDiff, Nat.add_assoc, Nat.succ_ne_zero]
  refine site_spec fun w3 ov2 ho2 hF3 => ?_
  have hF03 := (hF1.trans hF2).trans hF3
  refine rcnew_spec (N0 := w.heap.size) hF03.size ho2 (by decide) (fun _ _ e => absurd siteO_ok e) fun _ w4 ra hR hrg hF4 => ?_
  replace hC := (hC.fr0 hF3)
  have hdis : ∀ b, a.all b → ¬ ra.all b := fun b hb e => by have := hC.lt b hb; have := hrg b e; omega
  replace hC := hC.fr0 hF4
  have hF04 := hF03.trans hF4
  replace hC : CM w.heap.size w4 20 a (plainC 0) := hC
  replace hR : RM w.heap.size w4 20 ra (plainC 0) := hR
  simp only [push_cast, Nat.reduceAdd, Nat.reduceLeDiff, Nat.reduceLT, Int.reduceToNat, Nat.left_eq_add, Nat.add_eq_left, Nat.add_left_cancel_iff, Nat.reduceEqDiff, Nat.add_assoc, Nat.succ_ne_zero, bne_self_eq_false]
  refine cbridge_spec hC ?_
  simp only [push_cast, Nat.reduceAdd, Nat.reduceLeDiff, Nat.reduceLT, Int.reduceToNat, Nat.left_eq_add, Nat.add_eq_left, Nat.add_left_cancel_iff, Nat.reduceEqDiff, Nat.add_assoc, Nat.succ_ne_zero]
  refine csession_spec hC ?_
  simp only [push_cast, Nat.reduceAdd, Nat.reduceLeDiff, Nat.reduceLT, Int.reduceToNat, Nat.left_eq_add, Nat.add_eq_left, Nat.add_left_cancel_iff, Nat.reduceEqDiff, Nat.add_assoc, Nat.succ_ne_zero]
  have hFN : Fr (fun b => w.heap.size ≤ b) w w4 := hF04.mono fun _ _ e => e.elim
  refine jn0 (fun W => ∃ ra', ra'.rp = ra.rp ∧ CM w.heap.size W 20 a (plainC 4) ∧ RM w.heap.size W 20 ra' (plainC 4) ∧ (∀ b, a.all b → ¬ ra'.all b) ∧ Fr (fun b => w.heap.size ≤ b) w W) ?_ fun j hj => ?_
  · rintro W ⟨ra', hrp, h1, h2, h3, h4⟩
    exact hk W a.cp ra.rp ⟨a, ra', rfl, hrp, h1.lower hN, h2.lower hN, h3⟩ (h4.mono fun b hb e => by omega)
  refine loop1 (fun n v W => ∃ (k : Nat) (ra' : RA), v = i64 ((k : Int) + 1) ∧ k + n = 4 ∧ ra'.rp = ra.rp ∧ CM w.heap.size W 20 a (plainC k) ∧ RM w.heap.size W 20 ra' (plainC k) ∧ (∀ b, a.all b → ¬ ra'.all b) ∧ Fr (fun b => w.heap.size ≤ b) w W) ?_ 4 ⟨0, ra, rfl, rfl, rfl, hC, hR, hdis, hFN⟩
  rintro n v W X ⟨k, r1, rfl, hkn, hrp, hC, hR, hdis, hFW⟩ hX
  rw [← hrp]
  simp only [push_cast, Nat.reduceAdd, Nat.reduceLeDiff, Nat.reduceLT, Int.reduceToNat, Nat.left_eq_add, Nat.add_eq_left, Nat.add_left_cancel_iff, Nat.reduceEqDiff, Nat.add_assoc, Nat.succ_ne_zero]
  refine br_dec (fun hle => ?_) fun hgt => ?_
  case refine_2 =>
    obtain rfl : k = 4 := by omega
    exact hj _ ⟨r1, hrp, hC, hR, hdis, hFW⟩
  obtain ⟨hwf, htn, hsn⟩ := plainC_wf k
  generalize hx : plainC k = x at *
  -- a member
  refine cbridge_spec hC ?_
  simp only [push_cast, Nat.reduceAdd, Nat.reduceLeDiff, Nat.reduceLT, Int.reduceToNat, Nat.left_eq_add, Nat.add_eq_left, Nat.add_left_cancel_iff, Nat.reduceEqDiff, Nat.add_assoc, Nat.succ_ne_zero]
  refine vlans_spec hC.br ?_
  simp only [push_cast, Nat.reduceAdd, Nat.reduceLeDiff, Nat.reduceLT, Int.reduceToNat, Nat.left_eq_add, Nat.add_eq_left, Nat.add_left_cancel_iff, Nat.reduceEqDiff, Nat.add_assoc, Nat.succ_ne_zero]
  refine Vl.vadd_spec hC.br.v fun W1 hv1 hG1 => ?_
  have vfpP : ∀ b, Vl.vfp a.vp a.vm a.vnb b → pB a.bp a.vp a.vm a.vnb a.p a.pb a.sb b := fun b e => by
    rcases e with e | e | e
    · exact .inr (.inl e)
    · exact .inr (.inr (.inl e))
    · exact .inr (.inr (.inr (.inl e)))
  have hC1 := hC.setB (hG1.mono fun b _ e => vfpP b e) (hC.br.vl hG1 hv1)
  have hG1a : Fr a.all W W1 := hG1.mono fun b _ e => ⟨5, vfpP b e⟩
  obtain ⟨hR1, hd1⟩ := Two.code hC hR hdis hG1a hC1 fun b hb => .inl hb
  have hFW1 : Fr (fun b => w.heap.size ≤ b) w W1 := hFW.trans (hG1a.mono fun b _ e => hC.ge b e)
  refine hR1.rbVl ?_
  simp only [push_cast, Nat.reduceAdd, Nat.reduceLeDiff, Nat.reduceLT, Int.reduceToNat, Nat.left_eq_add, Nat.add_eq_left, Nat.add_left_cancel_iff, Nat.reduceEqDiff, Nat.add_assoc, Nat.succ_ne_zero]
  refine Vl.radd_spec hR1.br.v fun W2 vL2 hv2 hG2 hn2 => ?_
  obtain ⟨r2, er2, hR2, hG2a, hn2a⟩ := hR1.stepVl hG2 hv2 hn2
  obtain ⟨hC2, hd2⟩ := Two.doc hC1 hR1 hd1 hG2a hR2 hn2a
  have hFW2 : Fr (fun b => w.heap.size ≤ b) w W2 := hFW1.trans (hG2a.mono fun b _ e => hR1.ge b e)
  simp only [push_cast, Nat.reduceAdd, Nat.reduceLeDiff, Nat.reduceLT, Int.reduceToNat, Nat.left_eq_add, Nat.add_eq_left, Nat.add_left_cancel_iff, Nat.reduceEqDiff, Nat.add_assoc, Nat.succ_ne_zero]
  -- a native VLAN
  refine cbridge_spec hC2 ?_
  simp only [push_cast, Nat.reduceAdd, Nat.reduceLeDiff, Nat.reduceLT, Int.reduceToNat, Nat.left_eq_add, Nat.add_eq_left, Nat.add_left_cancel_iff, Nat.reduceEqDiff, Nat.add_assoc, Nat.succ_ne_zero]
  refine vlans_spec hC2.br ?_
  simp only [push_cast, Nat.reduceAdd, Nat.reduceLeDiff, Nat.reduceLT, Int.reduceToNat, Nat.left_eq_add, Nat.add_eq_left, Nat.add_left_cancel_iff, Nat.reduceEqDiff, Nat.add_assoc, Nat.succ_ne_zero]
  refine Vl.vnative_spec hC2.br.v fun W3 hv3 hG3 => ?_
  have hC3 := hC2.setB (hG3.mono fun b _ e => vfpP b e) (hC2.br.vl hG3 hv3)
  have hG3a : Fr a.all W2 W3 := hG3.mono fun b _ e => ⟨5, vfpP b e⟩
  obtain ⟨hR3, hd3⟩ := Two.code hC2 hR2 hd2 hG3a hC3 fun b hb => .inl hb
  have hFW3 : Fr (fun b => w.heap.size ≤ b) w W3 := hFW2.trans (hG3a.mono fun b _ e => hC2.ge b e)
  rw [← er2]
  refine hR3.rbVl ?_
  simp only [push_cast, Nat.reduceAdd, Nat.reduceLeDiff, Nat.reduceLT, Int.reduceToNat, Nat.left_eq_add, Nat.add_eq_left, Nat.add_left_cancel_iff, Nat.reduceEqDiff, Nat.add_assoc, Nat.succ_ne_zero]
  refine Vl.rnative_spec hR3.br.v fun W4 hv4 hG4 => ?_
  obtain ⟨r4, er4, hR4, hG4a, hn4a⟩ := hR3.stepVl hG4 hv4 (.inl rfl)
  obtain ⟨hC4, hd4⟩ := Two.doc hC3 hR3 hd3 hG4a hR4 hn4a
  have hFW4 : Fr (fun b => w.heap.size ≤ b) w W4 := hFW3.trans (hG4a.mono fun b _ e => hR3.ge b e)
  simp only [push_cast, Nat.reduceAdd, Nat.reduceLeDiff, Nat.reduceLT, Int.reduceToNat, Nat.left_eq_add, Nat.add_eq_left, Nat.add_left_cancel_iff, Nat.reduceEqDiff, Nat.add_assoc, Nat.succ_ne_zero]
  -- a state
  refine cbridge_spec hC4 ?_
  simp only [push_cast, Nat.reduceAdd, Nat.reduceLeDiff, Nat.reduceLT, Int.reduceToNat, Nat.left_eq_add, Nat.add_eq_left, Nat.add_left_cancel_iff, Nat.reduceEqDiff, Nat.add_assoc, Nat.succ_ne_zero]
  refine set_spec hC4.br fun W5 hB5 hG5 => ?_
  have hsb : ∀ b, b = a.sb → pB a.bp a.vp a.vm a.vnb a.p a.pb a.sb b := fun b e => .inr (.inr (.inr (.inr (.inr (.inr e)))))
  have hC5 := hC4.setB (hG5.mono fun b _ e => hsb b e) hB5
  have hG5a : Fr a.all W4 W5 := hG5.mono fun b _ e => ⟨5, hsb b e⟩
  obtain ⟨hR5, hd5⟩ := Two.code hC4 hR4 hd4 hG5a hC5 fun b hb => .inl hb
  have hFW5 : Fr (fun b => w.heap.size ≤ b) w W5 := hFW4.trans (hG5a.mono fun b _ e => hC4.ge b e)
  rw [← er4]
  refine hR5.rbB ?_
  simp only [push_cast, Nat.reduceAdd, Nat.reduceLeDiff, Nat.reduceLT, Int.reduceToNat, Nat.left_eq_add, Nat.add_eq_left, Nat.add_left_cancel_iff, Nat.reduceEqDiff, Nat.add_assoc, Nat.succ_ne_zero]
  refine rset_spec hR5.br fun W6 hB6 hG6 => ?_
  obtain ⟨r6, er6, hR6, hG6a, hn6a⟩ := hR5.stepSet hG6 hB6
  obtain ⟨hC6, hd6⟩ := Two.doc hC5 hR5 hd5 hG6a hR6 hn6a
  have hFW6 : Fr (fun b => w.heap.size ≤ b) w W6 := hFW5.trans (hG6a.mono fun b _ e => hR5.ge b e)
  simp only [push_cast, Nat.reduceAdd, Nat.reduceLeDiff, Nat.reduceLT, Int.reduceToNat, Nat.left_eq_add, Nat.add_eq_left, Nat.add_left_cancel_iff, Nat.reduceEqDiff, Nat.add_assoc, Nat.succ_ne_zero]
  -- its link
  have hki : isI ((k : Int) + 1) := isI_iff.2 (by omega)
  have hw6 := (hwf.vl (t := ((x.fs.t.add 1 ((k : Int) + 1) false).1.native ((k : Int) + 1) 1).1)).set ((k : Int) + 1) 2
  refine clink0_spec hC6 hw6 htn hsn hki fun W7 hC7 hG7 => ?_
  obtain ⟨hR7, hd7⟩ := Two.code hC6 hR6 hd6 hG7 hC7 fun b hb => .inl hb
  have hFW7 : Fr (fun b => w.heap.size ≤ b) w W7 := hFW6.trans (hG7.mono fun b _ e => hC6.ge b e)
  simp only [push_cast, Nat.reduceAdd, Nat.reduceLeDiff, Nat.reduceLT, Int.reduceToNat, Nat.left_eq_add, Nat.add_eq_left, Nat.add_left_cancel_iff, Nat.reduceEqDiff, Nat.add_assoc, Nat.succ_ne_zero]
  rw [← er6]
  refine rclink0_spec hR7 hw6 htn hsn hki fun W8 hR8 hG8 => ?_
  obtain ⟨hC8, hd8⟩ := Two.doc hC7 hR7 hd7 hG8 hR8 fun b hb => .inl hb
  have hFW8 : Fr (fun b => w.heap.size ≤ b) w W8 := hFW7.trans (hG8.mono fun b _ e => hR7.ge b e)
  have hwk : IntKind.i64.wrap ((k : Int) + 1 + 1) = ((k + 1 : Nat) : Int) + 1 := by rw [wrap_i64 (by omega)]; omega
  simp only [push_cast, Nat.reduceAdd, Nat.reduceLeDiff, Nat.reduceLT, Int.reduceToNat, Nat.left_eq_add, Nat.add_eq_left, Nat.add_left_cancel_iff, Nat.reduceEqDiff, Nat.add_assoc, Nat.succ_ne_zero, hwk]
  refine hX (n - 1) _ _ (by omega) ⟨k + 1, r6, rfl, by omega, by rw [er6, er4, er2, hrp], ?_, ?_, hd8, hFW8⟩
  · show CM _ _ _ _ (portP (plainC k) ((k : Int) + 1))
    rw [hx]
    exact hC8
  · show RM _ _ _ _ (portP (plainC k) ((k : Int) + 1))
    rw [hx]
    exact hR8

/-! ### A chassis alone -/

theorem cawake_spec (hk : ∀ w', Fr none_ w w' → K (.bool true) w') : CallsR Tryz.prog 9 #[] K w := by
  apply c9
  unfold p9
  simp only [push_cast, Nat.reduceAdd, Nat.reduceLeDiff, Nat.reduceLT, Int.reduceToNat, Nat.left_eq_add, Nat.add_eq_left, Nat.add_left_cancel_iff, Nat.reduceEqDiff, Nat.add_assoc, Nat.succ_ne_zero]
  refine cplain_spec (N0 := w.heap.size) (Nat.le_refl _) fun w1 cp rp hT hF1 => ?_
  obtain ⟨a, ra, rfl, rfl, hC, hR, hd⟩ := hT.ex
  obtain ⟨hwf, htn, hsn⟩ := plainC_wf 4
  obtain ⟨q1, q2, q3, q4, q5, q6, q7⟩ := awC_ok
  have hI : ∀ x : Int, x = 1 ∨ x = 2 ∨ x = 3 ∨ x = 12 → isI x := fun x h => isI_iff.2 (by omega)
  have hb2 : isB 2 := by unfold isB; decide
  have hb4 : isB 4 := by unfold isB; decide
  have hge : ∀ {w' w'' : World}, Fr a.all w' w'' → w.heap.size ≤ w'.heap.size → Fr none_ w w' → Fr none_ w w'' := fun hF _ h0 => h0.trans_new hF fun b hb e => by have := hC.ge b e; omega
  have hup : (plainC 4).s.up = false := by decide +kernel
  simp only [push_cast, Nat.reduceAdd, Nat.reduceLeDiff, Nat.reduceLT, Int.reduceToNat, Nat.left_eq_add, Nat.add_eq_left, Nat.add_left_cancel_iff, Nat.reduceEqDiff, Nat.add_assoc, Nat.succ_ne_zero]
  refine cserves_spec hC hwf (hI _ (.inr (.inr (.inl rfl)))) fun w2 hF2 => ?_
  replace hC := hC.fr0 hF2
  have hF02 := hF1.trans hF2
  simp only [push_cast, Nat.reduceAdd, Nat.reduceLeDiff, Nat.reduceLT, Int.reduceToNat, Nat.left_eq_add, Nat.add_eq_left, Nat.add_left_cancel_iff, Nat.reduceEqDiff, Nat.add_assoc, Nat.succ_ne_zero]
  refine ctick0_spec hC hwf htn hup fun w3 v hC3 _ _ _ hF3 => ?_
  have hF03 := hge hF3 hF02.size hF02
  have ht3 : awC1.t = none := by
    show ((plainC 4).tick0 12).t = none
    unfold Chs.tick0
    split
    · split <;> exact htn
    · exact htn
  have hw3 : awC1.wf 20 := hwf.tick0 12
  simp only [push_cast, Nat.reduceAdd, Nat.reduceLeDiff, Nat.reduceLT, Int.reduceToNat, Nat.left_eq_add, Nat.add_eq_left, Nat.add_left_cancel_iff, Nat.reduceEqDiff, Nat.add_assoc, Nat.succ_ne_zero, build_mac1, build_awF]
  have hC3' : CM w.heap.size w3 20 a awC1 := hC3
  refine cframe0_spec hC3' hw3 ht3 (awF_ok hb4 hb2) ⟨w, awF_ok hb4 hb2, Nat.le_refl _⟩ (hI _ (.inl rfl)) (hI _ (.inr (.inr (.inr rfl)))) fun w4 v4 ps4 hC4 hv4 hN4 hF4 => ?_
  have e1 : awC1.frame0 20 1 (awF 4 2) ([] : List Int).length 12 = awC1.frame0 20 1 (awF 4 2) 0 12 := rfl
  rw [e1] at hC4 hv4 ⊢
  have hF04 := hge hF4 hF03.size hF03
  have e2 : awC1.frame0 20 1 (awF 4 2) 0 12 = awC2 := rfl
  rw [e2] at hC4 hv4 ⊢
  have hwf4 : awC2.1.wf 20 := by
    rw [← e2]
    unfold Chs.frame0
    split
    · split
      · exact hw3.take 1 (awF 4 2) 0 12 _ _ _
      · exact hw3.cnt _ _ _
    · exact hw3.cnt _ _ _
  obtain ⟨va, vc, rfl⟩ := hv4.rd.form
  rw [List.length_map, q7] at *
  simp only [push_cast, Nat.reduceAdd, Nat.reduceLeDiff, Nat.reduceLT, Int.reduceToNat, Nat.left_eq_add, Nat.add_eq_left, Nat.add_left_cancel_iff, Nat.reduceEqDiff, Nat.add_assoc, Nat.succ_ne_zero]
  have hF5 : Fr none_ w4 (wr (w4.alloc (cellsO [.slice none 0 0, .slice none 0 0] 70)) w4.heap.size 0 (doneC (.slice va 2 vc) (.slice none 0 0))) := (by repeat' first | with_reducible exact Fr.refl _ _ | with_reducible refine Fr.step_alloc ?_ ?_ | with_reducible refine Fr.step_drew ?_ | with_reducible refine Fr.step_wr ?_ ?_ _ _ | exact rfl | exact Or.inr (by omega) | exact Or.inl rfl | exact Or.inl (Or.inl rfl) | exact Or.inl (Or.inr rfl))
  have hd5 : (wr (w4.alloc (cellsO [.slice none 0 0, .slice none 0 0] 70)) w4.heap.size 0 (doneC (.slice va 2 vc) (.slice none 0 0))).heap[w4.heap.size]? = some (cellsO (doneC (.slice va 2 vc) (.slice none 0 0)) 70) := by
    have e : splice [.slice none 0 0, .slice none 0 0] 0 (doneC (.slice va 2 vc) (.slice none 0 0)) = doneC (.slice va 2 vc) (.slice none 0 0) := rfl
    simp only [push_cast, Nat.reduceAdd, Nat.reduceLeDiff, Nat.reduceLT, Int.reduceToNat, Nat.left_eq_add, Nat.add_eq_left, Nat.add_left_cancel_iff, Nat.reduceEqDiff, Nat.add_assoc, Nat.succ_ne_zero, e]
  replace hC4 := hC4.fr0 hF5
  have hF05 := hF04.trans hF5
  generalize wr (w4.alloc (cellsO [.slice none 0 0, .slice none 0 0] 70)) w4.heap.size 0 (doneC (.slice va 2 vc) (.slice none 0 0)) = w5 at *
  generalize w4.heap.size = db at *
  rw [q1, q6]
  simp only [push_cast, Nat.reduceAdd, Nat.reduceLeDiff, Nat.reduceLT, Int.reduceToNat, Nat.left_eq_add, Nat.add_eq_left, Nat.add_left_cancel_iff, Nat.reduceEqDiff, Nat.add_assoc, Nat.succ_ne_zero]
  refine cserves_spec (a := { a with ps := ps4 }) hC4 hwf4 (hI _ (.inl rfl)) fun w6 hF6 => ?_
  rw [q2]
  simp only [push_cast, Nat.reduceAdd, Nat.reduceLeDiff, Nat.reduceLT, Int.reduceToNat, Nat.left_eq_add, Nat.add_eq_left, Nat.add_left_cancel_iff, Nat.reduceEqDiff, Nat.add_assoc, Nat.succ_ne_zero]
  refine cserves_spec (a := { a with ps := ps4 }) (hC4.fr0 hF6) hwf4 (hI _ (.inr (.inr (.inl rfl)))) fun w7 hF7 => ?_
  rw [q3]
  simp only [push_cast, Nat.reduceAdd, Nat.reduceLeDiff, Nat.reduceLT, Int.reduceToNat, Nat.left_eq_add, Nat.add_eq_left, Nat.add_left_cancel_iff, Nat.reduceEqDiff, Nat.add_assoc, Nat.succ_ne_zero]
  refine cserves_spec (a := { a with ps := ps4 }) ((hC4.fr0 hF6).fr0 hF7) hwf4 (hI _ (.inr (.inl rfl))) fun w8 hF8 => ?_
  rw [q4]
  have hF58 := (hF6.trans hF7).trans hF8
  replace hC4 := hC4.fr0 hF58
  have hd8 := hF58.heap hd5 fun h => h
  simp only [push_cast, Nat.reduceAdd, Nat.reduceLeDiff, Nat.reduceLT, Int.reduceToNat, Nat.left_eq_add, Nat.add_eq_left, Nat.add_left_cancel_iff, Nat.reduceEqDiff, Nat.add_assoc, Nat.succ_ne_zero]
  refine csession_spec (a := { a with ps := ps4 }) hC4 ?_
  simp only [push_cast, Nat.reduceAdd, Nat.reduceLeDiff, Nat.reduceLT, Int.reduceToNat, Nat.left_eq_add, Nat.add_eq_left, Nat.add_left_cancel_iff, Nat.reduceEqDiff, Nat.add_assoc, Nat.succ_ne_zero]
  refine srole_spec (sp := a.sp) hC4.s ?_
  rw [q5]
  simp only [push_cast, Nat.reduceAdd, Nat.reduceLeDiff, Nat.reduceLT, Int.reduceToNat, Nat.left_eq_add, Nat.add_eq_left, Nat.add_left_cancel_iff, Nat.reduceEqDiff, Nat.add_assoc, Nat.succ_ne_zero, hd8]
  exact hk _ (hF05.trans hF58)

/-! ### The law -/

theorem news_law {id prio room life : Int} {ov : Value} {owner : List Int} (ho : RdE 1 w ov (owner.map cellI)) (hk : ∀ w', Fr none_ w w' → K (.bool true) w') :
    CallsR Tryz.prog 3 #[.agg (siteC id prio ov room).toArray, i64 life] K w := by
  apply c3
  unfold p3
  obtain ⟨oa, oc, rfl⟩ := ho.form
  rw [List.length_map] at *
  have hF1 : Fr none_ w (w.alloc (cellsO (siteC id prio (.slice oa owner.length oc) room) 24)) := (by repeat' first | with_reducible exact Fr.refl _ _ | with_reducible refine Fr.step_alloc ?_ ?_ | with_reducible refine Fr.step_drew ?_ | with_reducible refine Fr.step_wr ?_ ?_ _ _ | exact rfl | exact Or.inr (by omega) | exact Or.inl rfl | exact Or.inl (Or.inl rfl) | exact Or.inl (Or.inr rfl))
  have hx : (w.alloc (cellsO (siteC id prio (.slice oa owner.length oc) room) 24)).heap[w.heap.size]? = some (cellsO (siteC id prio (.slice oa owner.length oc) room) 24) := by simp only [push_cast, Nat.reduceAdd, Nat.reduceLeDiff, Nat.reduceLT, Int.reduceToNat, Nat.left_eq_add, Nat.add_eq_left, Nat.add_left_cancel_iff, Nat.reduceEqDiff, Nat.add_assoc, Nat.succ_ne_zero]
  simp only [opS_box, cells_agg, alloc_cellsO]
  replace ho := ho.fr hF1 fun _ _ h => h
  generalize w.alloc (cellsO (siteC id prio (.slice oa owner.length oc) room) 24) = w1 at *
  generalize w.heap.size = xb at *
  simp only [push_cast, Nat.reduceAdd, Nat.reduceLeDiff, Nat.reduceLT, Int.reduceToNat, Nat.left_eq_add, Nat.add_eq_left, Nat.add_left_cancel_iff, Nat.reduceEqDiff, Nat.add_assoc, Nat.succ_ne_zero]
  refine cawake_spec fun w2 hF2 => ?_
  replace hx := hF2.heap hx fun h => h
  replace ho := ho.fr hF2 fun _ _ h => h
  have hF02 := hF1.trans hF2
  simp only [push_cast, Nat.reduceAdd, Nat.reduceLeDiff, Nat.reduceLT, Int.reduceToNat, Nat.left_eq_add, Nat.add_eq_left, Nat.add_left_cancel_iff, Nat.reduceEqDiff, Nat.add_assoc, Nat.succ_ne_zero, hx]
  refine br_dec (fun e => hk _ hF02) fun e => ?_
  have hl : owner.length < 2 ^ 40 := by omega
  refine cnew_spec (N0 := w2.heap.size) (Nat.le_refl _) ho hl (fun w3 hF3 hno => ?_) fun hok w3 a hC hag hF3 => ?_
  · replace hx := hF3.heap hx fun h => h
    replace ho := ho.fr hF3 fun _ _ h => h
    simp only [push_cast, Nat.reduceAdd, Nat.reduceLeDiff, Nat.reduceLT, Int.reduceToNat, Nat.left_eq_add, Nat.add_eq_left, Nat.add_left_cancel_iff, Nat.reduceEqDiff, Nat.add_assoc, Nat.succ_ne_zero, hx]
    refine rcnew_spec (N0 := w3.heap.size) (Nat.le_refl _) ho hl (fun w4 hF4 _ => ?_) fun hok => absurd hok hno
    have hFw : Fr none_ w w4.drew := ((hF02.trans hF3).trans hF4).step_drew
    simp only [push_cast, Nat.reduceAdd, Nat.reduceLeDiff, Nat.reduceLT, Int.reduceToNat, Nat.left_eq_add, Nat.add_eq_left, Nat.add_left_cancel_iff, Nat.reduceEqDiff, Nat.add_assoc, Nat.succ_ne_zero, bne_self_eq_false, beq_self_eq_true, Bool.not_true, br_false]
    repeat' first
      | with_reducible refine allW_intro ?_ ?_
      | exact hk _ hFw
  · replace hx := hF3.heap hx fun h => h
    replace ho := ho.fr hF3 fun _ _ h => h
    simp only [push_cast, Nat.reduceAdd, Nat.reduceLeDiff, Nat.reduceLT, Int.reduceToNat, Nat.left_eq_add, Nat.add_eq_left, Nat.add_left_cancel_iff, Nat.reduceEqDiff, Nat.add_assoc, Nat.succ_ne_zero, hx]
    refine rcnew_spec (N0 := w3.heap.size) (Nat.le_refl _) ho hl (fun w4 hF4 hno => absurd hok hno) fun _ w4 ra hR hrg hF4 => ?_
    replace hC := hC.fr0 hF4
    have hFw : Fr none_ w w4.drew := ((hF02.trans hF3).trans hF4).step_drew
    have hCd := hC.fr0 (Fr.drew w4)
    have hRd := hR.fr0 (Fr.drew w4)
    have hwf := newCh_wf hok
    have hst : stateL (newCh id prio owner life).fs.S 1 = 0 := by
      have hg : ∀ m i, (List.replicate m (0 : Int)).getD i 0 = 0 := fun m i => by
        rw [List.getD_eq_getElem?_getD, List.getElem?_replicate]
        split <;> rfl
      unfold stateL
      split
      · exact hg _ _
      · rfl
    have hsv : (newCh id prio owner life).serves 1 = false := by
      unfold Chs.serves
      have h1 : (newCh id prio owner life).tune = false := rfl
      have h2 : (newCh id prio owner life).upB 1 = false := rfl
      rw [h1, h2, Bool.false_and]
      split <;> exact Bool.and_false _
    simp only [push_cast, Nat.reduceAdd, Nat.reduceLeDiff, Nat.reduceLT, Int.reduceToNat, Nat.left_eq_add, Nat.add_eq_left, Nat.add_left_cancel_iff, Nat.reduceEqDiff, Nat.add_assoc, Nat.succ_ne_zero, bne_self_eq_false, beq_self_eq_true, Bool.not_true, br_false]
    have last : CallsR Tryz.prog 14 #[pt a.cp 0] (fun x31 => opS Tryz.prog (S.cl 15 [x31, .int .i64 1]) fun x32 => opS Tryz.prog (S.binI .eql x32 (.int .i64 0)) fun x33 => brn x33 (opS Tryz.prog (S.cl 16 [pt a.cp 0, .int .i64 1]) fun x34 => opS Tryz.prog (S.un .not x34) fun x35 => brn x35 (opS Tryz.prog (S.cl 17 [pt a.cp 0]) fun x36 => opS Tryz.prog (S.binI .eql x36 (.int .i64 0)) fun x37 => K x37) (K (.bool false))) (K (.bool false))) w4.drew := by
      refine cbridge_spec hCd ?_
      simp only [push_cast, Nat.reduceAdd, Nat.reduceLeDiff, Nat.reduceLT, Int.reduceToNat, Nat.left_eq_add, Nat.add_eq_left, Nat.add_left_cancel_iff, Nat.reduceEqDiff, Nat.add_assoc, Nat.succ_ne_zero]
      refine state_spec hCd.br ?_
      rw [hst]
      simp only [push_cast, Nat.reduceAdd, Nat.reduceLeDiff, Nat.reduceLT, Int.reduceToNat, Nat.left_eq_add, Nat.add_eq_left, Nat.add_left_cancel_iff, Nat.reduceEqDiff, Nat.add_assoc, Nat.succ_ne_zero]
      refine cserves_spec hCd hwf (isI_iff.2 (by omega)) fun w5 hF5 => ?_
      rw [hsv]
      simp only [push_cast, Nat.reduceAdd, Nat.reduceLeDiff, Nat.reduceLT, Int.reduceToNat, Nat.left_eq_add, Nat.add_eq_left, Nat.add_left_cancel_iff, Nat.reduceEqDiff, Nat.add_assoc, Nat.succ_ne_zero]
      refine cwaits0_spec (hCd.fr0 hF5) rfl ?_
      simp only [push_cast, Nat.reduceAdd, Nat.reduceLeDiff, Nat.reduceLT, Int.reduceToNat, Nat.left_eq_add, Nat.add_eq_left, Nat.add_left_cancel_iff, Nat.reduceEqDiff, Nat.add_assoc, Nat.succ_ne_zero]
      exact hk _ (hFw.trans hF5)
    have hrb := hRd.blk
    have hrs := hRd.s
    generalize w4.drew = W at *
    repeat' first
      | with_reducible refine allW_intro ?_ ?_
      | exact last
      | with_reducible refine csession_spec hCd ?_
      | with_reducible refine slife_spec hCd.s ?_
      | simp only [push_cast, Nat.reduceAdd, Nat.reduceLeDiff, Nat.reduceLT, Int.reduceToNat, Nat.left_eq_add, Nat.add_eq_left, Nat.add_left_cancel_iff, Nat.reduceEqDiff, Nat.add_assoc, Nat.succ_ne_zero, hrb, hrs, beq_self_eq_true, br_true]

end Go.Gx.S
end

section
/- Tables of VLANs: the plain laws. -/
namespace Go.Gx
open Go
namespace VT

end VT
end Go.Gx
end

section
/- What comes in: keys, structs. -/
namespace Go.Gx
open Go Go.ChangeShapes Go.WideShapes Go.ChangeAt Go.RowKit
section
variable {H : Type} {enc : TypeId × Value → H} {P : Program} {w : World} {base : Nat} {spare : Nat → Bool} {held : Bool}

/-- a struct, or an array, that comes in -/
theorem arg_agg {t base' : Nat} {v : Value} {d : DataW H} {ps : List MemPlace} {r : Reach} (hu : (∃ fs, P.underlying t = some (.struct fs)) ∨ ∃ n e, P.underlying t = some (.array n e)) (hok : Value.okWide P w r base' t v) (h : DataW.Trod enc P w base spare held t v d ps) :
    ∃ cs : List Value, v = .agg cs.toArray ∧ ∃ n, DataW.trod enc P w base spare held n t cs = some (d, ps) := by
  obtain ⟨fuel, h⟩ := h
  unfold Value.okWide at hok
  rcases hu with ⟨fs, hu⟩ | ⟨n, e, hu⟩
  · simp only [hu] at hok
    obtain ⟨cs, rfl, _⟩ := hok
    exact ⟨cs.toList, by simp, fuel, h⟩
  · simp only [hu] at hok
    obtain ⟨cs, rfl, _⟩ := hok
    exact ⟨cs.toList, by simp, fuel, h⟩

end
end Go.Gx
end

section
/- The row of a law where package-level variables read as listed. -/
namespace Go.Gx
open Go Go.ChangeShapes Go.WideShapes Go.ChangeAt Go.RowKit

section
variable {H : Type} {enc : TypeId × Value → H}
theorem law_lifted_laid {C : Checked} {os : Os} {f : FuncId} {fn : Func} {s : ChangeSpec} {conds : List PathCond} {fresh handsOn : Bool} {tb n : Nat} {laid : List (String × DataW Unit)}
    (own : ownKnob C.prog.godebug = none) (started : os.Started) (noInit : C.prog.inits.idxOf? f = none) (hfn : C.prog.funcs[f]? = some fn)
    (witness : ∃ (w : World) (tape : Tape) (i : Input), w.os = os ∧ (w.forCall tape i).Shaped C.prog ∧ i.vars = [] ∧ Input.okWide C.prog (w.forCall tape i) .any w.heap.size f i ∧
      ((s.pre enc C.prog fn conds false (w.forCall tape i).memory i.args ∧ laidMetH C.prog laid (w.forCall tape i).memory) ∧ sizedMet enc C.prog fn (OpenSpec.ofChange s) false (w.forCall tape i).memory i.args) ∧ Assume.holds {} C.prog (lone (Frame.enter C.prog f i.args .normal) [] (w.forCall tape i)))
    (hl : laidOutB C.prog = true) (hts : ∀ t ∈ fn.params.toList, C.prog.readableRec t = true ∧ t < C.prog.types.size)
    (hrt : fn.resultTypes = #[tb]) (htb : C.prog.underlying tb = some .bool) (hvar : s.vars = []) (hn : fn.params.size = n)
    (hspec : ∀ ds : List (DataW H), ds.length = n → s.fn H ds = { results := [.lit (.bool true)], args := ds })
    (walk : ∀ (W : World) (base : Nat) (args : Array Value) (ds : List (DataW H)) (ps : List MemPlace),
      (∀ (j : Nat) t v, fn.params[j]? = some t → args[j]? = some v → Value.okWide C.prog W .any base t v) →
      DataW.TrodAll enc C.prog W 0 (fun _ => true) true fn.params.toList args.toList ds ps →
      CallsR C.prog f args (fun v W' => v = .bool true ∧ Fr none_ W W') W) :
    ReturnsInHanded {} C os f .any (fun w args => (s.pre enc C.prog fn conds false w args ∧ laidMetH C.prog laid w) ∧ sizedMet enc C.prog fn (OpenSpec.ofChange s) false w args) (s.post enc C.prog fn false fresh handsOn false) := by
  refine returnsInHanded_of_change_and (X := fun w _ => laidMetH C.prog laid w) (fun _ _ _ hh h => laidMetH.of_heap hh h) own started noInit hfn witness ?_
  intro W base args ds gs before hval hW _ _ _ _
  have hW' := hW
  obtain ⟨p, q, hA, hV, hps, hfz, hnd⟩ := hW
  rw [hvar] at hV
  obtain ⟨rfl, _⟩ := trodVars_none hV
  refine Calls.mono (walk W base args ds p hval hA) fun e W' ⟨v, he, hv, hF⟩ => ?_
  refine ⟨v, he, ?_⟩
  subst hv
  have hlen : ds.length = n := by
    have key : ∀ {ts : List TypeId} {vs : List Value} {ds : List (DataW H)} {ps : List MemPlace}, DataW.TrodAll enc C.prog W 0 (fun _ => true) true ts vs ds ps → ds.length = ts.length := by
      intro ts
      induction ts with
      | nil => intro vs ds ps h; obtain ⟨rfl, rfl, rfl⟩ := trodAll_nil h; rfl
      | cons t ts ih =>
        intro vs ds ps h
        obtain ⟨v, vs1, d, ds1, a, b, rfl, rfl, rfl, h1, h2⟩ := trodAll_cons h
        simp [ih h2]
    rw [key hA, Array.length_toList, hn]
  exact law_post hl hts hrt htb hvar (by rw [List.append_nil]; exact hspec ds hlen) hW' hF
end
end Go.Gx
end

section
/- Sites that come in. -/
set_option linter.unusedVariables false
set_option maxRecDepth 100000
namespace Go.Gx.S
open Go Go.Gx Go.Proofs

noncomputable abbrev laidE : List (String × DataW Unit) := [("gemel/control.has", YtbaebhhengcdcaaGreatDoor.Rows.laid_gemel_control_has), ("bytes.ErrTooLarge", YtbaebhhengcdcaaGreatDoor.Rows.laid_bytes_ErrTooLarge)]
/-- the door's own heap meets the condition -/
theorem door_met (os : Os) (args : Array Value) : laidMetH Tryz.prog laidE ((World.doorLaid Tryz.prog 400 os).forCall (fun _ _ => 0) ⟨#[], args, []⟩).memory :=
  laidMetH_of_parts3 (fuel := 8) (laidMet_of_run' 8 (by kernel_rfl) (by kernel_rfl)) (by kernel_rfl) (by kernel_rfl)

theorem ctSite : Tryz.prog.cellsOf 24 = 4 := by kernel_rfl
theorem ctSlI : Tryz.prog.cellsOf 22 = 1 := by kernel_rfl

section
variable {H : Type} {enc : TypeId × Value → H} {w : World} {base : Nat} {spare : Nat → Bool} {held : Bool}

theorem trod_ints {n : Nat} {v : Value} {x : DataW H × List MemPlace} (h : DataW.trod enc Tryz.prog w base spare held n 22 [v] = some x) : ∃ l : List Int, RdE 1 w v (l.map cellI) ∧ ∀ q ∈ l, isI q := by
  obtain ⟨es, h1, h2, h3⟩ := open_rd Tryz.underlying22 ctInt (by decide) h
  have key : ∃ l : List Int, es = l.map cellI ∧ ∀ b ∈ l, isI b := by
    clear h1 h2
    induction es with
    | nil => exact ⟨[], rfl, by simp⟩
    | cons c es ih =>
      obtain ⟨bs, hb, hbs⟩ := ih fun c hc => h3 c (List.mem_cons_of_mem _ hc)
      obtain ⟨m, y, hy⟩ := h3 c (List.mem_cons_self ..)
      obtain ⟨z, rfl, _, hw⟩ := DataW.trod_int uInt hy
      refine ⟨z :: bs, by rw [hb]; rfl, fun b hb => ?_⟩
      rcases List.mem_cons.1 hb with rfl | hb
      · simp only [Lit.wf, Bool.and_eq_true, decide_eq_true_eq] at hw
        exact hw
      · exact hbs b hb
  obtain ⟨l, rfl, hl⟩ := key
  exact ⟨l, h1, hl⟩

theorem trod_site {n : Nat} {cs : List Value} {x : DataW H × List MemPlace} (h : DataW.trod enc Tryz.prog w base spare held n 24 cs = some x) : ∃ (id prio room : Int) (ov : Value) (owner : List Int), RdE 1 w ov (owner.map cellI) ∧ cs = siteC id prio ov room := by
  obtain ⟨xs, m, rfl, rfl, hl, hxs, hf⟩ := DataW.trod_struct Tryz.underlying24 h
  rw [ctSite] at hl
  match cs, hl with
  | [a0, a1, a2, a3], _ =>
  have hx : xs.length = 4 := hxs
  match xs, hx with
  | [y0, y1, y2, y3], _ =>
  have g0 : DataW.trod enc Tryz.prog w base spare held m 3 (([a0, a1, a2, a3].drop 0).take (Tryz.prog.cellsOf 3)) = some y0 := hf 0 _ rfl
  have g1 : DataW.trod enc Tryz.prog w base spare held m 3 (([a0, a1, a2, a3].drop 1).take (Tryz.prog.cellsOf 3)) = some y1 := hf 1 _ rfl
  have g2 : DataW.trod enc Tryz.prog w base spare held m 22 (([a0, a1, a2, a3].drop 2).take (Tryz.prog.cellsOf 22)) = some y2 := hf 2 _ rfl
  have g3 : DataW.trod enc Tryz.prog w base spare held m 3 (([a0, a1, a2, a3].drop 3).take (Tryz.prog.cellsOf 3)) = some y3 := hf 3 _ rfl
  simp only [ctSlI, ctInt, List.drop_succ_cons, List.drop_zero, List.take_succ_cons, List.take_zero] at g0 g1 g2 g3
  obtain ⟨i, e0, _, _⟩ := DataW.trod_int uInt g0
  obtain ⟨p, e1, _, _⟩ := DataW.trod_int uInt g1
  obtain ⟨l, hr, _⟩ := trod_ints g2
  obtain ⟨r, e3, _, _⟩ := DataW.trod_int uInt g3
  simp only [List.cons.injEq, and_true] at e0 e1 e3
  subst e0 e1 e3
  exact ⟨i, p, r, a2, l, hr, rfl⟩

theorem arg_site {base' : Nat} {v : Value} {d : DataW H} {ps : List MemPlace} {r : Reach} (hok : Value.okWide Tryz.prog w r base' 24 v) (h : DataW.Trod enc Tryz.prog w base spare held 24 v d ps) :
    ∃ (id prio room : Int) (ov : Value) (owner : List Int), RdE 1 w ov (owner.map cellI) ∧ v = .agg (siteC id prio ov room).toArray := by
  obtain ⟨cs, rfl, n, hn⟩ := arg_agg (.inl ⟨_, Tryz.underlying24⟩) hok h
  obtain ⟨id, prio, room, ov, owner, h1, rfl⟩ := trod_site hn
  exact ⟨id, prio, room, ov, owner, h1, rfl⟩
end
end Go.Gx.S
end
