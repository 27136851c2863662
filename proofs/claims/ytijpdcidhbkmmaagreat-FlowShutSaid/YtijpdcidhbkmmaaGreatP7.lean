/- Own texts, put together. -/
import Derived.Test.YtijpdcidhbkmmaaGreatP6
import Derived.Test.YtijpdcidhbkmmaaGreatP2
import Derived.Test.YtijpdcidhbkmmaaGreatP1
import Derived.Test.YtijpdcidhbkmmaaGreatP3
import Derived.Test.YtijpdcidhbkmmaaGreatRows
section
/- Two bridges are compared; a bridge is made. -/
set_option linter.unusedVariables false
set_option linter.unusedSimpArgs false
set_option maxRecDepth 100000
namespace Go.Gx.S
open Go Go.Gx Go.Proofs
variable {K : Value → World → Prop} {w : World}

section
variable {w0 : World} {N0 bp rb room vp vm vnb p pb o c sb so sc : Nat} {ps : List Ent} {vq vnq : Nat} {vL : Value} {fq : Nat} {fL : Value} {sq soq scq : Nat} {fs : FS} {D : Nat → Prop}
theorem al_cnt (h : BR N0 w0 bp vp vm vnb p pb o c sb so sc room ps fs) (hF : Fr none_ w0 w) {R : Value → World → Prop} (hk : ∀ w', Fr none_ w0 w' → R (.agg (fs.N.map i64).toArray) w') : opS Tryz.prog (S.cl 22 [pt bp 0]) R w := by
  simp only [push_cast, Nat.reduceAdd, Nat.reduceLeDiff, Nat.reduceLT, Int.reduceToNat, Nat.left_eq_add, Nat.add_eq_left, Nat.add_left_cancel_iff, Nat.reduceEqDiff, Nat.add_assoc, Nat.succ_ne_zero]
  exact counts_spec (h.fr0 hF) fun w' hF' => hk w' (hF.trans hF')
theorem al_lrn (h : BR N0 w0 bp vp vm vnb p pb o c sb so sc room ps fs) (hF : Fr none_ w0 w) {R : Value → World → Prop} (hk : ∀ w', Fr none_ w0 w' → R (.agg (fs.Ln.map i64).toArray) w') : opS Tryz.prog (S.cl 68 [pt bp 0]) R w := by
  simp only [push_cast, Nat.reduceAdd, Nat.reduceLeDiff, Nat.reduceLT, Int.reduceToNat, Nat.left_eq_add, Nat.add_eq_left, Nat.add_left_cancel_iff, Nat.reduceEqDiff, Nat.add_assoc, Nat.succ_ne_zero]
  exact learned_spec (h.fr0 hF) fun w' hF' => hk w' (hF.trans hF')
theorem al_ldN (h : RBR D N0 w0 rb vq vnq vL fq fL sq soq scq room fs) (hF : Fr none_ w0 w) {R : Value → World → Prop} (hk : R (.agg (fs.N.map i64).toArray) w) : opS Tryz.prog (S.ld 55 (pt rb 4)) R w := by
  have hb := hF.heap h.blk fun h => h
  have hl := h.len
  have e := rbC_dn (n := (fs.S.length : Int) - 1) (vq := vq) (fq := fq) (sl := .slice (some ⟨sq, soq, none⟩) fs.S.length scq) (Ln := fs.Ln) h.nl
  simp only [push_cast, Nat.reduceAdd, Nat.reduceLeDiff, Nat.reduceLT, Int.reduceToNat, Nat.left_eq_add, Nat.add_eq_left, Nat.add_left_cancel_iff, Nat.reduceEqDiff, Nat.add_assoc, Nat.succ_ne_zero, hb, e, hl]
  exact hk
theorem al_ldL (h : RBR D N0 w0 rb vq vnq vL fq fL sq soq scq room fs) (hF : Fr none_ w0 w) {R : Value → World → Prop} (hk : R (.agg (fs.Ln.map i64).toArray) w) : opS Tryz.prog (S.ld 81 (pt rb 13)) R w := by
  have hb := hF.heap h.blk fun h => h
  have hl := h.len
  have e := rbC_dl (n := (fs.S.length : Int) - 1) (vq := vq) (fq := fq) (sl := .slice (some ⟨sq, soq, none⟩) fs.S.length scq) h.nl h.ll
  simp only [push_cast, Nat.reduceAdd, Nat.reduceLeDiff, Nat.reduceLT, Int.reduceToNat, Nat.left_eq_add, Nat.add_eq_left, Nat.add_left_cancel_iff, Nat.reduceEqDiff, Nat.add_assoc, Nat.succ_ne_zero, hb, e, hl]
  exact hk
theorem al_fa {R : Value → World → Prop} (hk : R (pt rb 13) w) : opS Tryz.prog (S.nc (pt rb 0)) (fun x => opS Tryz.prog (S.fa 113 x 5) R) w := by
  simp only [push_cast, Nat.reduceAdd, Nat.reduceLeDiff, Nat.reduceLT, Int.reduceToNat, Nat.left_eq_add, Nat.add_eq_left, Nat.add_left_cancel_iff, Nat.reduceEqDiff, Nat.add_assoc, Nat.succ_ne_zero]
  exact hk
theorem al_eq9 {N : List Int} (hl : N.length = 9) (hok : ∀ x ∈ N, isI x) {A B : World → Prop} (hk : A w) : opS Tryz.prog (S.binG .eql 55 (.agg (N.map i64).toArray) (.agg (N.map i64).toArray)) (fun x => brn x A B) w := eq9 hl hok hk
theorem al_sta (h : BR N0 w0 bp vp vm vnb p pb o c sb so sc room ps fs) (hF : Fr none_ w0 w) {R : Value → World → Prop} (hk : R (pt p 0) w) : opS Tryz.prog (S.cl 14 [pt bp 0]) R w := by
  simp only [push_cast, Nat.reduceAdd, Nat.reduceLeDiff, Nat.reduceLT, Int.reduceToNat, Nat.left_eq_add, Nat.add_eq_left, Nat.add_left_cancel_iff, Nat.reduceEqDiff, Nat.add_assoc, Nat.succ_ne_zero]
  exact stations_spec (h.fr0 hF) hk
theorem al_all (h : BR N0 w0 bp vp vm vnb p pb o c sb so sc room ps fs) (hF : Fr none_ w0 w) {R : Value → World → Prop} (hk : ∀ w' v, RdE 10 w' v (fs.r.map Ent.cells) → Fr none_ w0 w' → R v w') : opS Tryz.prog (S.cl 19 [pt p 0]) R w := by
  simp only [push_cast, Nat.reduceAdd, Nat.reduceLeDiff, Nat.reduceLT, Int.reduceToNat, Nat.left_eq_add, Nat.add_eq_left, Nat.add_left_cancel_iff, Nat.reduceEqDiff, Nat.add_assoc, Nat.succ_ne_zero]
  exact all_spec (h.f.fr0 hF) fun w' b' o' c' hv hF' _ => hk w' _ hv.rd (hF.trans hF')
theorem al_ldF (h : RBR D N0 w0 rb vq vnq vL fq fL sq soq scq room fs) (hF : Fr none_ w0 w) {R : Value → World → Prop} (hk : R (pt fq 1) w) : opS Tryz.prog (S.ld 106 (pt rb 2)) (fun x => opS Tryz.prog (S.nc x) fun y => opS Tryz.prog (S.fa 118 y 1) R) w := by
  have hb := hF.heap h.blk fun h => h
  simp only [push_cast, Nat.reduceAdd, Nat.reduceLeDiff, Nat.reduceLT, Int.reduceToNat, Nat.left_eq_add, Nat.add_eq_left, Nat.add_left_cancel_iff, Nat.reduceEqDiff, Nat.add_assoc, Nat.succ_ne_zero, hb]
  exact hk
theorem al_ldT (h : RBR D N0 w0 rb vq vnq vL fq fL sq soq scq room fs) (hF : Fr none_ w0 w) {R : Value → World → Prop} (hk : RdE 10 w fL (fs.r.map Ent.cells) → R fL w) : opS Tryz.prog (S.ld 51 (pt fq 1)) R w := by
  have hb := hF.heap h.f.blk fun h => h
  simp only [push_cast, Nat.reduceAdd, Nat.reduceLeDiff, Nat.reduceLT, Int.reduceToNat, Nat.left_eq_add, Nat.add_eq_left, Nat.add_left_cancel_iff, Nat.reduceEqDiff, Nat.add_assoc, Nat.succ_ne_zero, hb]
  exact hk (h.f.own.rd.fr hF fun _ _ h => h)
end

theorem alike_spec {N0 bp rb room : Nat} {fs : FS} {port : Int} (hj : BX N0 w bp rb room fs fs) (hk : ∀ w', Fr none_ w w' → K (.bool true) w') :
    CallsR Tryz.prog 28 #[pt bp 0, pt rb 0, i64 port] K w := by
  apply c28
  unfold p28
  obtain ⟨hoN, hRPg, vp, vm, vnb, p, pb, o, c, sb, so, sc, ps, vq, vnq, vL, fq, fL, sq, soq, scq, hB, hR⟩ := hj
  have hlenR := hR.len
  have hlen : fs.r.length < 2 ^ 62 := by have := hB.f.cap; have := hB.f.hi; omega
  have hro := hB.f.ct.srt.2
  have e9 := rbC_dn (n := (fs.S.length : Int) - 1) (vq := vq) (fq := fq) (sl := .slice (some ⟨sq, soq, none⟩) fs.S.length scq) (N := fs.N) (Ln := fs.Ln) hR.nl
  have e3 := rbC_dl (n := (fs.S.length : Int) - 1) (vq := vq) (fq := fq) (sl := .slice (some ⟨sq, soq, none⟩) fs.S.length scq) (N := fs.N) (Ln := fs.Ln) hR.nl hR.ll
  refine jn1 (fun x w' => x = .bool true ∧ Fr none_ w w') ?_ fun j hj => ?_
  · rintro x w2 ⟨rfl, hF2⟩
    have hB2 := (hB.fr0 hF2).fr0 (Fr.drew w2)
    have hR2 := (hR.fr0 hF2).fr0 (Fr.drew w2)
    have hF02 := hF2.step_drew
    simp only [drw_eq, push_cast, Nat.reduceAdd, Nat.reduceLeDiff, Nat.reduceLT, Int.reduceToNat, Nat.left_eq_add, Nat.add_eq_left, Nat.add_left_cancel_iff, Nat.reduceEqDiff, Nat.add_assoc, Nat.succ_ne_zero]
    generalize w2.drew = W at *
    refine state_spec hB2 ?_
    refine rstate_spec hR2 ?_
    simp only [push_cast, Nat.reduceAdd, Nat.reduceLeDiff, Nat.reduceLT, Int.reduceToNat, Nat.left_eq_add, Nat.add_eq_left, Nat.add_left_cancel_iff, Nat.reduceEqDiff, Nat.add_assoc, Nat.succ_ne_zero, beq_self_eq_true]
    have hself : Fr none_ W W := Fr.refl _ _
    have hoN1 : ∀ x ∈ fs.N, isI x := hoN.1
    have fin : ∀ w', Fr none_ W w' → opS Tryz.prog (S.binG .eql 81 (.agg (fs.Ln.map i64).toArray) (.agg (fs.Ln.map i64).toArray)) (fun x16 => K x16) w' := fun w' hF' => eq3 hR.ll hoN.2 (hk _ (hF02.trans hF'))
    clear hk
    repeat' first
      | with_reducible refine allW_intro ?_ ?_
      | with_reducible refine al_cnt hB2 (by assumption) fun _ _ => ?_
      | with_reducible refine al_lrn hB2 (by assumption) fun _ _ => ?_
      | with_reducible refine al_ldN hR2 (by assumption) ?_
      | with_reducible refine al_ldL hR2 (by assumption) ?_
      | with_reducible refine al_fa ?_
      | with_reducible refine al_eq9 hR.nl hoN1 ?_
      | exact fin _ (by assumption)
  · simp only [drw_eq]
    have hd := Fr.drew (fp := none_) w
    have hB2 := hB.fr0 hd
    have hR2 := hR.fr0 hd
    simp only [push_cast, Nat.reduceAdd, Nat.reduceLeDiff, Nat.reduceLT, Int.reduceToNat, Nat.left_eq_add, Nat.add_eq_left, Nat.add_left_cancel_iff, Nat.reduceEqDiff, Nat.add_assoc, Nat.succ_ne_zero]
    generalize w.drew = W at *
    have hself : Fr none_ W W := Fr.refl _ _
    have fin : ∀ w' u v, Fr none_ W w' → RdE 10 w' u (fs.r.map Ent.cells) → RdE 10 w' v (fs.r.map Ent.cells) → opS Tryz.prog (S.cl 20 [u, v]) (fun x11 => j x11) w' := fun w' u v hF' hu hv => by
      simp only [push_cast, Nat.reduceAdd, Nat.reduceLeDiff, Nat.reduceLT, Int.reduceToNat, Nat.left_eq_add, Nat.add_eq_left, Nat.add_left_cancel_iff, Nat.reduceEqDiff, Nat.add_assoc, Nat.succ_ne_zero]
      exact esame_yes hu hv hro hlen fun w2 hF2 => hj _ _ ⟨rfl, (hd.trans hF').trans hF2⟩
    repeat' first
      | with_reducible refine allW_intro ?_ ?_
      | with_reducible refine al_sta hB2 (by assumption) ?_
      | with_reducible refine al_all hB2 (by assumption) fun _ _ _ _ => ?_
      | with_reducible refine al_ldF hR2 (by assumption) ?_
      | with_reducible refine al_ldT hR2 (by assumption) fun _ => ?_
      | (refine fin _ _ _ (by assumption) (by assumption) ?_; first | assumption | exact hR2.f.own.rd.fr (by assumption) fun _ _ h => h)

/-! ### The first bridges -/

def BS (N0 : Nat) (w : World) (bp room : Nat) (fs : FS) : Prop := ∃ vp vm vnb p pb o c sb so sc ps, BR N0 w bp vp vm vnb p pb o c sb so sc room ps fs
def plainF (ports : Int) : Nat → FS
  | 0 => newFS ports
  | k + 1 => { plainF ports k with t := (((plainF ports k).t.add 1 ((k : Int) + 1) false).1.native ((k : Int) + 1) 1).1, S := (setL' (plainF ports k).S ((k : Int) + 1) 2).1 }

theorem plain_spec {N0 : Nat} {ports : Int} (hN : N0 ≤ w.heap.size) (hp : 1 ≤ ports ∧ ports ≤ 63) (hk : ∀ w' bp vp vm vnb p pb o c sb so sc ps, BR N0 w' bp vp vm vnb p pb o c sb so sc 20 ps (plainF ports ports.toNat) → Fr none_ w w' → K (.tuple #[pt bp 0, i64 0]) w') :
    CallsR Tryz.prog 33 #[i64 ports] K w := by
  apply c33
  unfold p33
  simp only [push_cast, Nat.reduceAdd, Nat.reduceLeDiff, Nat.reduceLT, Int.reduceToNat, Nat.left_eq_add, Nat.add_eq_left, Nat.add_left_cancel_iff, Nat.reduceEqDiff, Nat.add_assoc, Nat.succ_ne_zero]
  refine fnew_spec ports 20 (Nat.le_refl _) (fun w' _ e => absurd ⟨hp.1, hp.2, by decide, by decide⟩ e) fun _ _ _ _ w1 bp vp vm vnb p pb o c sb ps hB hF1 => ?_
  simp only [push_cast, Nat.reduceAdd, Nat.reduceLeDiff, Nat.reduceLT, Int.reduceToNat, Nat.left_eq_add, Nat.add_eq_left, Nat.add_left_cancel_iff, Nat.reduceEqDiff, Nat.add_assoc, Nat.succ_ne_zero, bne_self_eq_false]
  have hge := hB.ge
  have hF1N : Fr (fun b => w.heap.size ≤ b) w w1 := hF1.mono fun _ _ e => e.elim
  have hnone : ∀ {w'}, Fr (fun b => w.heap.size ≤ b) w w' → Fr none_ w w' := fun hF => hF.mono fun b hb e => by omega
  refine jn0 (fun w' => ∃ ps', BR w.heap.size w' bp vp vm vnb p pb o c sb 0 (ports + 1).toNat 20 ps' (plainF ports ports.toNat) ∧ Fr (fun b => w.heap.size ≤ b) w w') (fun w' ⟨ps', h, hF⟩ => hk w' _ _ _ _ _ _ _ _ _ _ _ ps' ⟨h.blk, h.v, h.f, h.s, h.nl, h.ll, h.sl, h.d1, h.d2, h.d3, by have := h.ge; omega⟩ (hnone hF)) fun j hj => ?_
  refine loop1 (fun m x w' => ∃ (k : Nat) (ps' : List Ent), x = i64 ((k : Int) + 1) ∧ k + m = ports.toNat ∧ BR w.heap.size w' bp vp vm vnb p pb o c sb 0 (ports + 1).toNat 20 ps' (plainF ports k) ∧ Fr (fun b => w.heap.size ≤ b) w w') ?_ ports.toNat ⟨0, ps, rfl, by omega, hB, hF1N⟩
  rintro m x w2 X ⟨k, ps', rfl, hm, hB2, hF2⟩ hX
  simp only [push_cast, Nat.reduceAdd, Nat.reduceLeDiff, Nat.reduceLT, Int.reduceToNat, Nat.left_eq_add, Nat.add_eq_left, Nat.add_left_cancel_iff, Nat.reduceEqDiff, Nat.add_assoc, Nat.succ_ne_zero]
  refine br_dec (fun hlt => ?_) fun hgt => ?_
  case refine_2 =>
    obtain rfl : k = ports.toNat := by omega
    exact hj _ ⟨ps', hB2, hF2⟩
  have hvp : ∀ b, Vl.vfp vp vm vnb b → w.heap.size ≤ b := fun b e => by unfold Vl.vfp at e; omega
  refine vlans_spec hB2 ?_
  simp only [push_cast, Nat.reduceAdd, Nat.reduceLeDiff, Nat.reduceLT, Int.reduceToNat, Nat.left_eq_add, Nat.add_eq_left, Nat.add_left_cancel_iff, Nat.reduceEqDiff, Nat.add_assoc, Nat.succ_ne_zero]
  refine Vl.vadd_spec hB2.v fun w3 hv3 hF3 => ?_
  have hB3 := hB2.vl hF3 hv3
  simp only [push_cast, Nat.reduceAdd, Nat.reduceLeDiff, Nat.reduceLT, Int.reduceToNat, Nat.left_eq_add, Nat.add_eq_left, Nat.add_left_cancel_iff, Nat.reduceEqDiff, Nat.add_assoc, Nat.succ_ne_zero]
  refine vlans_spec hB3 ?_
  simp only [push_cast, Nat.reduceAdd, Nat.reduceLeDiff, Nat.reduceLT, Int.reduceToNat, Nat.left_eq_add, Nat.add_eq_left, Nat.add_left_cancel_iff, Nat.reduceEqDiff, Nat.add_assoc, Nat.succ_ne_zero]
  refine Vl.vnative_spec hB3.v fun w4 hv4 hF4 => ?_
  have hB4 := hB3.vl hF4 hv4
  simp only [push_cast, Nat.reduceAdd, Nat.reduceLeDiff, Nat.reduceLT, Int.reduceToNat, Nat.left_eq_add, Nat.add_eq_left, Nat.add_left_cancel_iff, Nat.reduceEqDiff, Nat.add_assoc, Nat.succ_ne_zero]
  refine set_spec hB4 fun w5 hB5 hF5 => ?_
  simp only [push_cast, Nat.reduceAdd, Nat.reduceLeDiff, Nat.reduceLT, Int.reduceToNat, Nat.left_eq_add, Nat.add_eq_left, Nat.add_left_cancel_iff, Nat.reduceEqDiff, Nat.add_assoc, Nat.succ_ne_zero]
  rw [wrap_i64 (by omega)]
  exact hX (m - 1) _ _ (by omega) ⟨k + 1, ps', by simp, by omega, hB5, ((hF2.trans (hF3.mono fun b _ e => hvp b e)).trans (hF4.mono fun b _ e => hvp b e)).trans (hF5.mono fun b _ e => by omega)⟩

theorem few_spec {N0 : Nat} {lv : Value} {st : List (WStp × List Int)} (hl : RdE 23 w lv (st.map fun x => x.1.cells)) (hs : ∀ x ∈ st, StpR N0 w x.1 x.2) (hk : ∀ q, K (.bool q) w) :
    CallsR Tryz.prog 11 #[lv] K w := by
  apply c11
  unfold p11
  obtain ⟨la, lc, rfl⟩ := hl.form
  rw [List.length_map] at hl ⊢
  refine jn0 (fun w' => w' = w) (fun w' e => e ▸ hk true) fun j hj => ?_
  refine loop1 (fun m x w' => ∃ k : Nat, x = i64 k ∧ k + m = st.length ∧ w' = w) ?_ st.length ⟨0, rfl, by omega, rfl⟩
  rintro m x w2 X ⟨k, rfl, hm, rfl⟩ hX
  simp only [push_cast, Nat.reduceAdd, Nat.reduceLeDiff, Nat.reduceLT, Int.reduceToNat, Nat.left_eq_add, Nat.add_eq_left, Nat.add_left_cancel_iff, Nat.reduceEqDiff, Nat.add_assoc, Nat.succ_ne_zero]
  refine br_dec (fun hlt => ?_) fun hge => hj _ rfl
  refine br_dec (fun hlt2 => ?_) fun hge => hj _ rfl
  have hkl : k < st.length := by omega
  obtain ⟨ba, bc, hb⟩ := (hs _ (List.getElem_mem hkl)).f.2.form
  refine s_iaE hl (by omega) (by simpa using hkl) fun b1 o1 c1 _ he => ?_
  simp only [Int.toNat_natCast, List.getElem_map] at he ⊢
  have e21 := he.cell 21 (show 21 < 23 by decide)
  rw [WStp.g21, hb, Nat.add_assoc] at e21
  simp only [push_cast, Nat.reduceAdd, Nat.reduceLeDiff, Nat.reduceLT, Int.reduceToNat, Nat.left_eq_add, Nat.add_eq_left, Nat.add_left_cancel_iff, Nat.reduceEqDiff, Nat.add_assoc, Nat.succ_ne_zero, e21]
  refine br_dec (fun h1 => hk _) fun h1 => ?_
  rw [wrap_i64 (by omega)]
  exact hX (m - 1) _ _ (by omega) ⟨k + 1, by simp, by omega, rfl⟩

/-! ### Is the program awake? -/

def mac1 (a : Int) : Mac := ⟨a, 0, 0, 0, 0, 0⟩
def awF (a b : Int) : Frm := ⟨mac1 a, mac1 b, false, 0, 0, 2048, .slice none 0 0⟩
theorem build_mac1 (a : Int) : opS Tryz.prog (S.build 24 [(0, .int .u8 a)]) K w = K (.agg (mac1 a).cells.toArray) w := by
  rw [opS_build _ rfl]; rfl
theorem build_awF (a b : Int) : opS Tryz.prog (S.build 27 [(0, .agg (mac1 a).cells.toArray), (1, .agg (mac1 b).cells.toArray), (5, i64 2048)]) K w = K (.agg (awF a b).cells.toArray) w := by
  rw [opS_build _ rfl]; rfl
theorem awF_ok {a b : Int} (ha : isB a) (hb : isB b) : FrmR w (awF a b) [] := by
  have hz : isB 0 := by unfold isB; decide
  have hI : ∀ x : Int, x = 0 ∨ x = 2048 → isI x := fun x h => isI_iff.2 (by omega)
  exact ⟨⟨⟨ha, hz, hz, hz, hz, hz⟩, ⟨hb, hz, hz, hz, hz, hz⟩, hI _ (.inl rfl), hI _ (.inl rfl), hI _ (.inr rfl)⟩, ByR.nil _ _ _⟩
def aw1 : FS × Int × Int × Int × List (Int × Frm) := takeA 20 (plainF 3 3) 1 (awF 4 2) 0 0
def aw2 : FS × Int × Int × Int × List (Int × Frm) := takeA 20 aw1.1 2 (awF 2 4) 0 0
theorem aw1_ok : aw1.2.1 = 0 ∧ aw1.2.2.2.2.length = 2 := by decide +kernel
theorem aw2_ok : aw2.2.2.2.2.length = 1 ∧ aw2.2.2.2.1 = 1 := by decide +kernel

theorem awake_spec (hk : ∀ w', Fr none_ w w' → K (.bool true) w') : CallsR Tryz.prog 10 #[] K w := by
  apply c10
  unfold p10
  simp only [push_cast, Nat.reduceAdd, Nat.reduceLeDiff, Nat.reduceLT, Int.reduceToNat, Nat.left_eq_add, Nat.add_eq_left, Nat.add_left_cancel_iff, Nat.reduceEqDiff, Nat.add_assoc, Nat.succ_ne_zero]
  refine plain_spec (Nat.le_refl _) (by decide) fun w1 bp vp vm vnb p pb o c sb so sc ps hB hF1 => ?_
  have hb2 : isB 2 := by unfold isB; decide
  have hb4 : isB 4 := by unfold isB; decide
  have hge := hB.ge
  have hI : ∀ x : Int, x = 0 ∨ x = 1 ∨ x = 2 → isI x := fun x h => isI_iff.2 (by omega)
  have hl : ∀ b, lfp bp p pb b → w.heap.size ≤ b := fun b e => by unfold lfp at e; omega
  simp only [push_cast, Nat.reduceAdd, Nat.reduceLeDiff, Nat.reduceLT, Int.reduceToNat, Nat.left_eq_add, Nat.add_eq_left, Nat.add_left_cancel_iff, Nat.reduceEqDiff, Nat.add_assoc, Nat.succ_ne_zero, bne_self_eq_false]
  refine vlans_spec hB ?_
  simp only [push_cast, Nat.reduceAdd, Nat.reduceLeDiff, Nat.reduceLT, Int.reduceToNat, Nat.left_eq_add, Nat.add_eq_left, Nat.add_left_cancel_iff, Nat.reduceEqDiff, Nat.add_assoc, Nat.succ_ne_zero]
  refine stations_spec hB ?_
  simp only [push_cast, Nat.reduceAdd, Nat.reduceLeDiff, Nat.reduceLT, Int.reduceToNat, Nat.left_eq_add, Nat.add_eq_left, Nat.add_left_cancel_iff, Nat.reduceEqDiff, Nat.add_assoc, Nat.succ_ne_zero, build_mac1, build_awF]
  refine btake_spec hB.v.ok hB (awF_ok hb4 hb2) ⟨w, awF_ok hb4 hb2, Nat.le_refl _⟩ (hI _ (.inr (.inl rfl))) (hI _ (.inl rfl)) fun x w2 ps2 hB2 hx2 hn2 hF2 => ?_
  obtain ⟨xa, xc, rfl⟩ := hx2.form
  refine way_slotG fun _ w3 hw3 hF3 => ?_
  replace hB2 := hB2.fr0 hF3
  have hF03 : Fr none_ w w3 := (hF1.trans_new hF2 fun b hb e => by have := hl b e; omega).trans hF3
  simp only [push_cast, Nat.reduceAdd, Nat.reduceLeDiff, Nat.reduceLT, Int.reduceToNat, Nat.left_eq_add, Nat.add_eq_left, Nat.add_left_cancel_iff, Nat.reduceEqDiff, Nat.add_assoc, Nat.succ_ne_zero, build_mac1, build_awF]
  refine btake_spec hB2.v.ok hB2 (awF_ok hb2 hb4) ⟨w, awF_ok hb2 hb4, Nat.le_refl _⟩ (hI _ (.inr (.inr rfl))) (hI _ (.inl rfl)) fun y w4 ps4 hB4 hy4 hn4 hF4 => ?_
  obtain ⟨ya, yc, rfl⟩ := hy4.form
  refine way_slotG fun _ w5 hw5 hF5 => ?_
  have hlt2 := lt_of_heap hw3
  have hwx := hF5.heap (hF4.heap hw3 fun e => by have := hB2.lt; have := hB.lt; have := hF2.size; unfold lfp at e; omega) fun h => h
  have e1 : (takeA 20 (plainF 3 (3 : Int).toNat) 1 (awF 4 2) ([] : List Int).length 0) = aw1 := rfl
  have e2 : (takeA 20 aw1.1 2 (awF 2 4) ([] : List Int).length 0) = aw2 := rfl
  rw [e1] at hw5 hwx
  rw [e2] at hw5
  have hFin : Fr none_ w w5 := (hF03.trans_new hF4 fun b hb e => by have := hl b e; omega).trans hF5
  rw [aw1_ok.1] at hwx
  rw [List.length_map, aw1_ok.2] at hwx
  rw [List.length_map, aw2_ok.1, aw2_ok.2] at hw5
  simp only [push_cast, Nat.reduceAdd, Nat.reduceLeDiff, Nat.reduceLT, Int.reduceToNat, Nat.left_eq_add, Nat.add_eq_left, Nat.add_left_cancel_iff, Nat.reduceEqDiff, Nat.add_assoc, Nat.succ_ne_zero, hwx, hw5]
  exact hk _ hFin

end Go.Gx.S
end

section
/- A bridge that did any steps. -/
set_option linter.unusedVariables false
set_option linter.unusedSimpArgs false
set_option maxRecDepth 100000
namespace Go.Gx.S
open Go Go.Gx Go.Proofs
variable {K : Value → World → Prop} {w : World}

/-- what all bridges of a law are -/
structure Good (room : Nat) (fs : FS) : Prop where
  n : okN fs
  z : fs.S.getD 0 0 = 0
theorem setL'_S {S : List Int} {p st : Int} : (setL' S p st).1.length = S.length ∧ (S.getD 0 0 = 0 → (setL' S p st).1.getD 0 0 = 0) := by
  unfold setL'
  split
  · rename_i h
    rw [Bool.and_eq_true] at h
    have := (hasB_iff.1 h.1).1
    refine ⟨List.length_set .., fun h0 => ?_⟩
    rw [List.getD_eq_getElem?_getD, List.getElem?_set_ne (by omega), ← List.getD_eq_getElem?_getD]
    exact h0
  · exact ⟨rfl, fun h => h⟩
theorem takeA_S (room : Nat) (fs : FS) (port : Int) (f : Frm) (n : Nat) (now : Int) : (takeA room fs port f n now).1.S = fs.S ∧ (takeA room fs port f n now).1.t = fs.t := by
  unfold takeA
  split <;> exact ⟨rfl, rfl⟩
theorem stepF_S {room : Nat} {fs : FS} {s : WStp} {n : Nat} : (stepF room fs s n).S.length = fs.S.length ∧ (fs.S.getD 0 0 = 0 → (stepF room fs s n).S.getD 0 0 = 0) := by
  unfold stepF
  split
  · rw [(takeA_S room fs s.port s.f n s.now).1]; exact ⟨rfl, fun h => h⟩
  · split
    · exact setL'_S
    · split
      · exact ⟨rfl, fun h => h⟩
      · split
        · exact ⟨rfl, fun h => h⟩
        · split
          · exact ⟨rfl, fun h => h⟩
          · split
            · exact ⟨rfl, fun h => h⟩
            · split <;> exact ⟨rfl, fun h => h⟩
theorem Good.step {room : Nat} {fs : FS} {s : WStp} {n : Nat} (h : Good room fs) : Good room (stepF room fs s n) := ⟨stepF_okN h.n, stepF_S.2 h.z⟩
theorem Good.take {room : Nat} {fs : FS} {port now : Int} {f : Frm} {n : Nat} (h : Good room fs) : Good room (takeA room fs port f n now).1 := ⟨takeA_okN h.n, by rw [(takeA_S ..).1]; exact h.z⟩

def foldF (room : Nat) (fs : FS) (st : List (WStp × List Int)) : FS := st.foldl (fun fs x => stepF room fs x.1 x.2.length) fs
def madeF (st : List (WStp × List Int)) : FS := foldF 20 (plainF 4 4) (st.take 80)
theorem foldF_good {room : Nat} : ∀ {st : List (WStp × List Int)} {fs : FS}, Good room fs → Good room (foldF room fs st) ∧ (foldF room fs st).S.length = fs.S.length
  | [], fs, h => ⟨h, rfl⟩
  | x :: st, fs, h => by
    obtain ⟨h1, h2⟩ := foldF_good (st := st) (h.step (s := x.1) (n := x.2.length))
    refine ⟨h1, ?_⟩
    show (foldF room (stepF room fs x.1 x.2.length) st).S.length = _
    rw [h2, stepF_S.1]
theorem plainF_good (p : Int) : ∀ k, Good 20 (plainF p k) ∧ (plainF p k).S.length = (p + 1).toNat
  | 0 => by
    have hz : isI 0 := isI_iff.2 (by decide)
    refine ⟨⟨⟨fun x hx => ?_, fun x hx => ?_⟩, ?_⟩, List.length_replicate ..⟩
    · rw [List.eq_of_mem_replicate hx]; exact hz
    · rw [List.eq_of_mem_replicate hx]; exact hz
    · show (List.replicate (p + 1).toNat (0 : Int)).getD 0 0 = 0
      rw [List.getD_eq_getElem?_getD, List.getElem?_replicate]
      split <;> rfl
  | k + 1 => by
    obtain ⟨h1, h2⟩ := plainF_good p k
    exact ⟨⟨h1.n, setL'_S.2 h1.z⟩, by show (setL' _ _ _).1.length = _; rw [setL'_S.1, h2]⟩
theorem madeF_good (st : List (WStp × List Int)) : Good 20 (madeF st) ∧ (madeF st).S.length = 5 := by
  obtain ⟨h1, h2⟩ := plainF_good 4 4
  obtain ⟨h3, h4⟩ := foldF_good (st := st.take 80) h1
  exact ⟨h3, by show (foldF _ _ _).S.length = 5; rw [h4, h2]; rfl⟩

theorem made_spec {lv : Value} {st : List (WStp × List Int)} (hl : RdE 23 w lv (st.map fun x => x.1.cells)) (hs : ∀ x ∈ st, StpR w.heap.size w x.1 x.2)
    (hk : ∀ w' bp, BS w.heap.size w' bp 20 (madeF st) → Fr none_ w w' → K (.tuple #[pt bp 0, .bool true]) w') :
    CallsR Tryz.prog 12 #[lv] K w := by
  apply c12
  unfold p12
  obtain ⟨la, lc, rfl⟩ := hl.form
  rw [List.length_map] at hl ⊢
  simp only [push_cast, Nat.reduceAdd, Nat.reduceLeDiff, Nat.reduceLT, Int.reduceToNat, Nat.left_eq_add, Nat.add_eq_left, Nat.add_left_cancel_iff, Nat.reduceEqDiff, Nat.add_assoc, Nat.succ_ne_zero]
  refine plain_spec (Nat.le_refl _) (by decide) fun w1 bp vp vm vnb p pb o c sb so sc ps hB hF1 => ?_
  have hlt := hB.lt
  simp only [push_cast, Nat.reduceAdd, Nat.reduceLeDiff, Nat.reduceLT, Int.reduceToNat, Nat.left_eq_add, Nat.add_eq_left, Nat.add_left_cancel_iff, Nat.reduceEqDiff, Nat.add_assoc, Nat.succ_ne_zero, bne_self_eq_false]
  refine rfnew_spec (D := pB bp vp vm vnb p pb sb) (N0 := w.heap.size) 4 20 hF1.size (fun b hb => by unfold pB at hb; omega) (fun w' _ e => absurd (by decide) e) fun _ _ _ _ w2 rb vq vnq vL fq fL sq hR hF2 => ?_
  simp only [push_cast, Nat.reduceAdd, Nat.reduceLeDiff, Nat.reduceLT, Int.reduceToNat, Nat.left_eq_add, Nat.add_eq_left, Nat.add_left_cancel_iff, Nat.reduceEqDiff, Nat.add_assoc, Nat.succ_ne_zero]
  have hj0 : BX w.heap.size w2 bp rb 20 (plainF 4 4) (newFS 4) := ⟨(plainF_good 4 4).1.n, ⟨Srt.nil, Nat.zero_le _, fun e he => by cases he⟩, vp, vm, vnb, p, pb, o, c, sb, so, sc, ps, vq, vnq, vL, fq, fL, sq, 0, _, hB.fr0 hF2, hR⟩
  have hF02 : Fr (fun b => w.heap.size ≤ b) w w2 := (hF1.trans hF2).mono fun _ _ e => e.elim
  have hnone : ∀ {w'}, Fr (fun b => w.heap.size ≤ b) w w' → Fr none_ w w' := fun hF => hF.mono fun b hb e => by omega
  refine jn0 (fun w' => (∃ gs, BX w.heap.size w' bp rb 20 (madeF st) gs) ∧ Fr (fun b => w.heap.size ≤ b) w w') (fun w' ⟨⟨gs, hX⟩, hF⟩ => ?_) fun j hj => ?_
  · obtain ⟨_, _, vp, vm, vnb, p, pb, o, c, sb, so, sc, ps, _, _, _, _, _, _, _, _, h1, _⟩ := hX
    exact hk w' bp ⟨vp, vm, vnb, p, pb, o, c, sb, so, sc, ps, h1⟩ (hnone hF)
  obtain ⟨m, hm⟩ : ∃ m, m = min st.length 80 := ⟨_, rfl⟩
  have htake : st.take 80 = st.take m := by
    rw [hm]
    rcases Nat.le_total st.length 80 with h | h
    · rw [Nat.min_eq_left h, List.take_length, List.take_of_length_le h]
    · rw [Nat.min_eq_right h]
  unfold madeF at hj
  rw [htake] at hj
  refine loop1 (fun n x w' => ∃ (k : Nat) (gs : FS), x = i64 k ∧ n + k = m ∧ BX w.heap.size w' bp rb 20 (foldF 20 (plainF 4 4) (st.take k)) gs ∧ Fr (fun b => w.heap.size ≤ b) w w') ?_ m ⟨0, newFS 4, rfl, rfl, hj0, hF02⟩
  rintro n x w3 X ⟨k, gs, rfl, hn, hX3, hF3⟩ hX
  have hend : ¬ (k < st.length ∧ k < 80) → j w3 := fun hne => by
    obtain rfl : k = m := by omega
    exact hj _ ⟨⟨gs, hX3⟩, hF3⟩
  simp only [push_cast, Nat.reduceAdd, Nat.reduceLeDiff, Nat.reduceLT, Int.reduceToNat, Nat.left_eq_add, Nat.add_eq_left, Nat.add_left_cancel_iff, Nat.reduceEqDiff, Nat.add_assoc, Nat.succ_ne_zero]
  refine br_dec (fun hlt1 => ?_) fun hge => hend (by omega)
  refine br_dec (fun hlt2 => ?_) fun hge => hend (by omega)
  have hkl : k < st.length := by omega
  have hl3 := hl.fr (hnone hF3) fun _ _ h => h
  refine s_iaE hl3 (by omega) (by simpa using hkl) fun _ _ _ _ he => ?_
  simp only [Int.toNat_natCast, List.getElem_map] at he ⊢
  rw [s_ldN (by decide), he.agg0 (WStp.len _), onS_some]
  refine step_spec hX3 hF3.size ((hs _ (List.getElem_mem hkl)).fr hF3) (by decide) fun w4 q hX4 _ hF4 => ?_
  simp only [push_cast, Nat.reduceAdd, Nat.reduceLeDiff, Nat.reduceLT, Int.reduceToNat, Nat.left_eq_add, Nat.add_eq_left, Nat.add_left_cancel_iff, Nat.reduceEqDiff, Nat.add_assoc, Nat.succ_ne_zero]
  rw [wrap_i64 (by omega)]
  refine hX (n - 1) _ _ (by omega) ⟨k + 1, stepF 20 gs st[k].1 st[k].2.length, by simp, by omega, ?_, hF3.trans hF4⟩
  have e : foldF 20 (plainF 4 4) (st.take (k + 1)) = stepF 20 (foldF 20 (plainF 4 4) (st.take k)) st[k].1 st[k].2.length := by
    unfold foldF
    rw [List.take_add_one, List.getElem?_eq_getElem hkl, Option.toList_some, List.foldl_append]
    rfl
  rw [e]
  exact hX4

end Go.Gx.S
end

section
/- The law of all scripts; how all others begin. -/
set_option linter.unusedVariables false
set_option linter.unusedSimpArgs false
set_option maxRecDepth 100000
namespace Go.Gx.S
open Go Go.Gx Go.Proofs
variable {K : Value → World → Prop} {w : World}

theorem StpR.mono {N M : Nat} {s : WStp} {bs : List Int} (h : StpR N w s bs) (hm : N ≤ M) : StpR M w s bs :=
  ⟨h.d, h.port, h.n, h.v, h.now, h.f, h.lo.imp fun w0 h => ⟨h.1, Nat.le_trans h.2 hm⟩⟩

theorem scripts_law {lv : Value} {a b : Int} {st : List (WStp × List Int)} (ha : isI a) (hb : isI b) (hl : RdE 23 w lv (st.map fun x => x.1.cells)) (hs : ∀ x ∈ st, StpR w.heap.size w x.1 x.2) (hk : ∀ w', Fr none_ w w' → K (.bool true) w') :
    CallsR Tryz.prog 7 #[.agg #[i64 a, i64 b], lv] K w := by
  apply c7
  unfold p7
  have hN0 : w.heap.size ≤ w.heap.size := Nat.le_refl _
  generalize hN : w.heap.size = N0 at hs hN0
  have hnone : ∀ {w'}, Fr (fun b => N0 ≤ b) w w' → Fr none_ w w' := fun hF => hF.mono fun b hb e => by omega
  have hF1 : Fr none_ w (w.alloc (cellsO [i64 a, i64 b] 61)) := (by repeat' first | with_reducible exact Fr.refl _ _ | with_reducible refine Fr.step_alloc ?_ ?_ | with_reducible refine Fr.step_drew ?_ | with_reducible refine Fr.step_wr ?_ ?_ _ _ | exact rfl | exact Or.inr (by omega) | exact Or.inl rfl | exact Or.inl (Or.inl rfl) | exact Or.inl (Or.inr rfl))
  have h0 : (w.alloc (cellsO [i64 a, i64 b] 61)).heap[w.heap.size]? = some (cellsO [i64 a, i64 b] 61) := by simp only [push_cast, Nat.reduceAdd, Nat.reduceLeDiff, Nat.reduceLT, Int.reduceToNat, Nat.left_eq_add, Nat.add_eq_left, Nat.add_left_cancel_iff, Nat.reduceEqDiff, Nat.add_assoc, Nat.succ_ne_zero]
  have hbox : ∀ (R : Value → World → Prop), opS Tryz.prog (S.box 61 (.agg #[i64 a, i64 b])) R w = R (pt w.heap.size 0) (w.alloc (cellsO [i64 a, i64 b] 61)) := fun R => by
    rw [opS_box]; rfl
  rw [hbox]
  generalize w.alloc (cellsO [i64 a, i64 b] 61) = w1 at *
  simp only [push_cast, Nat.reduceAdd, Nat.reduceLeDiff, Nat.reduceLT, Int.reduceToNat, Nat.left_eq_add, Nat.add_eq_left, Nat.add_left_cancel_iff, Nat.reduceEqDiff, Nat.add_assoc, Nat.succ_ne_zero]
  refine awake_spec fun w2 hF2 => ?_
  simp only [push_cast, Nat.reduceAdd, Nat.reduceLeDiff, Nat.reduceLT, Int.reduceToNat, Nat.left_eq_add, Nat.add_eq_left, Nat.add_left_cancel_iff, Nat.reduceEqDiff, Nat.add_assoc, Nat.succ_ne_zero]
  have hs2 : ∀ x ∈ st, StpR N0 w2 x.1 x.2 := fun x hx => ((hs x hx).fr0 hF1).fr0 hF2
  have hl2 := (hl.fr hF1 fun _ _ h => h).fr hF2 fun _ _ h => h
  refine few_spec hl2 hs2 fun fw => ?_
  replace h0 := hF2.heap h0 fun h => h
  have hF02 := hF1.trans hF2
  have i0 : ∀ (R : Value → World → Prop) w', opS Tryz.prog (S.ia 61 (pt w.heap.size 0) (.int .i64 0)) R w' = R (pt w.heap.size 0) w' := fun R w' => by
    rw [opS_iaA w.heap.size 0 .i64 0 (by decide)]; rfl
  have i1 : ∀ (R : Value → World → Prop) w', opS Tryz.prog (S.ia 61 (pt w.heap.size 0) (.int .i64 1)) R w' = R (pt w.heap.size 1) w' := fun R w' => by
    rw [opS_iaA w.heap.size 0 .i64 1 (by decide)]; rfl
  have g0 : ([i64 a, i64 b] : List Value)[0]? = some (i64 a) := rfl
  have g1 : ([i64 a, i64 b] : List Value)[1]? = some (i64 b) := rfl
  simp only [push_cast, Nat.reduceAdd, Nat.reduceLeDiff, Nat.reduceLT, Int.reduceToNat, Nat.left_eq_add, Nat.add_eq_left, Nat.add_left_cancel_iff, Nat.reduceEqDiff, Nat.add_assoc, Nat.succ_ne_zero, i0, i1, h0, g0, g1]
  have hNs : N0 ≤ w2.heap.size := by have := hF02.size; omega
  refine fnew_spec (N0 := N0) a b hNs (fun w3 hF3 hbad => ?_) fun a1 a2 b1 b2 w3 bp vp vm vnb p pb o c sb ps hB hF3 => ?_
  · simp only [push_cast, Nat.reduceAdd, Nat.reduceLeDiff, Nat.reduceLT, Int.reduceToNat, Nat.left_eq_add, Nat.add_eq_left, Nat.add_left_cancel_iff, Nat.reduceEqDiff, Nat.add_assoc, Nat.succ_ne_zero, i0, i1, hF3.heap h0 fun h => h, g0, g1]
    refine rfnew_spec (D := fun _ => False) (N0 := N0) a b (Nat.le_trans hNs hF3.size) (fun _ e => e.elim) (fun w4 hF4 _ => ?_) fun c1 c2 c3 c4 => absurd ⟨c1, c2, c3, c4⟩ hbad
    have hF04 := (hF02.trans hF3).trans hF4
    simp only [push_cast, Nat.reduceAdd, Nat.reduceLeDiff, Nat.reduceLT, Int.reduceToNat, Nat.left_eq_add, Nat.add_eq_left, Nat.add_left_cancel_iff, Nat.reduceEqDiff, Nat.add_assoc, Nat.succ_ne_zero, bne_self_eq_false, Bool.not_true]
    refine br_intro (fun e => absurd e (by decide)) fun _ => ?_
    refine jn0 (fun w' => w' = w4) (fun w' e => e ▸ hk _ hF04) fun j hj => ?_
    refine loop1 (fun m x w' => x = i64 0 ∧ w' = w4) ?_ 0 ⟨rfl, rfl⟩
    rintro m x w5 X ⟨rfl, rfl⟩ hX
    obtain ⟨la, lc, rfl⟩ := hl.form
    simp only [push_cast, Nat.reduceAdd, Nat.reduceLeDiff, Nat.reduceLT, Int.reduceToNat, Nat.left_eq_add, Nat.add_eq_left, Nat.add_left_cancel_iff, Nat.reduceEqDiff, Nat.add_assoc, Nat.succ_ne_zero]
    refine br_intro (fun _ => ?_) fun _ => hj _ rfl
    first
      | exact hj _ rfl
      | (refine br_intro (fun _ => ?_) fun _ => hj _ rfl; exact hj _ rfl)
  simp only [push_cast, Nat.reduceAdd, Nat.reduceLeDiff, Nat.reduceLT, Int.reduceToNat, Nat.left_eq_add, Nat.add_eq_left, Nat.add_left_cancel_iff, Nat.reduceEqDiff, Nat.add_assoc, Nat.succ_ne_zero, i0, i1, hF3.heap h0 fun h => h, g0, g1]
  have hlt := hB.lt
  refine rfnew_spec (D := pB bp vp vm vnb p pb sb) (N0 := N0) a b (Nat.le_trans hNs hF3.size) (fun b hb => by unfold pB at hb; omega) (fun w' _ e => absurd ⟨a1, a2, b1, b2⟩ e) fun _ _ _ _ w4 rb vq vnq vL fq fL sq hR hF4 => ?_
  have hF04 := (hF02.trans hF3).trans hF4
  have hj0 : BX N0 w4 bp rb b.toNat (newFS a) (newFS a) := ⟨(plainF_good a 0).1.n, ⟨Srt.nil, Nat.zero_le _, fun e he => by cases he⟩, vp, vm, vnb, p, pb, o, c, sb, 0, _, ps, vq, vnq, vL, fq, fL, sq, 0, _, hB.fr0 hF4, hR⟩
  simp only [push_cast, Nat.reduceAdd, Nat.reduceLeDiff, Nat.reduceLT, Int.reduceToNat, Nat.left_eq_add, Nat.add_eq_left, Nat.add_left_cancel_iff, Nat.reduceEqDiff, Nat.add_assoc, Nat.succ_ne_zero, bne_self_eq_false, Bool.not_true]
  refine br_intro (fun e => absurd e (by decide)) fun _ => ?_
  refine jn0 (fun w' => Fr none_ w w') (fun w' hF => hk _ hF) fun j hj => ?_
  obtain ⟨la, lc, rfl⟩ := hl.form
  rw [List.length_map] at hl
  refine loop1 (fun m x w' => ∃ (k : Nat) (fs : FS), x = i64 k ∧ k + m = st.length ∧ BX N0 w' bp rb b.toNat fs fs ∧ Fr (fun b => N0 ≤ b) w w') ?_ st.length ⟨0, _, rfl, by omega, hj0, hF04.mono fun _ _ e => e.elim⟩
  rintro m x w5 X ⟨k, fs, rfl, hm, hX5, hF5⟩ hX
  simp only [push_cast, Nat.reduceAdd, Nat.reduceLeDiff, Nat.reduceLT, Int.reduceToNat, Nat.left_eq_add, Nat.add_eq_left, Nat.add_left_cancel_iff, Nat.reduceEqDiff, Nat.add_assoc, Nat.succ_ne_zero, List.length_map]
  refine br_dec (fun hlt1 => ?_) fun hge => hj _ (hnone hF5)
  refine br_dec (fun hlt2 => ?_) fun hge => hj _ (hnone hF5)
  cases fw with
  | false => exact hj _ (hnone hF5)
  | true =>
  have hkl : k < st.length := by omega
  have hsk := (hs _ (List.getElem_mem hkl)).fr hF5
  simp only [push_cast, Nat.reduceAdd, Nat.reduceLeDiff, Nat.reduceLT, Int.reduceToNat, Nat.left_eq_add, Nat.add_eq_left, Nat.add_left_cancel_iff, Nat.reduceEqDiff, Nat.add_assoc, Nat.succ_ne_zero]
  refine s_iaE (hl.fr (hnone hF5) fun _ _ h => h) (by omega) (by simpa using hkl) fun _ _ _ _ he => ?_
  simp only [Int.toNat_natCast, List.getElem_map] at he ⊢
  rw [s_ldN (by decide), he.agg0 (WStp.len _), onS_some]
  simp only [push_cast, Nat.reduceAdd, Nat.reduceLeDiff, Nat.reduceLT, Int.reduceToNat, Nat.left_eq_add, Nat.add_eq_left, Nat.add_left_cancel_iff, Nat.reduceEqDiff, Nat.add_assoc, Nat.succ_ne_zero]
  refine step_spec hX5 (by have := hF5.size; omega) hsk (by omega) fun w6 q hX6 hq hF6 => ?_
  rw [hq rfl]
  have hF56 := hF5.trans hF6
  refine s_iaE (hl.fr (hnone hF56) fun _ _ h => h) (by omega) (by simpa using hkl) fun _ _ _ _ he2 => ?_
  simp only [Int.toNat_natCast, List.getElem_map] at he2 ⊢
  have e1 := he2.cell 1 (show 1 < 23 by decide)
  rw [WStp.g1, Nat.add_assoc] at e1
  simp only [push_cast, Nat.reduceAdd, Nat.reduceLeDiff, Nat.reduceLT, Int.reduceToNat, Nat.left_eq_add, Nat.add_eq_left, Nat.add_left_cancel_iff, Nat.reduceEqDiff, Nat.add_assoc, Nat.succ_ne_zero, e1]
  refine alike_spec hX6 fun w7 hF7 => ?_
  simp only [push_cast, Nat.reduceAdd, Nat.reduceLeDiff, Nat.reduceLT, Int.reduceToNat, Nat.left_eq_add, Nat.add_eq_left, Nat.add_left_cancel_iff, Nat.reduceEqDiff, Nat.add_assoc, Nat.succ_ne_zero, Bool.not_true]
  rw [wrap_i64 (by omega)]
  exact hX (m - 1) _ _ (by omega) ⟨k + 1, _, by simp, by omega, hX6.fr0 hF7, hF56.trans (hF7.mono fun _ _ e => e.elim)⟩

end Go.Gx.S
end

section
/- Bridges that did any steps: how the laws begin, and sums. -/
set_option linter.unusedVariables false
set_option linter.unusedSimpArgs false
set_option maxRecDepth 100000
namespace Go.Gx.S
open Go Go.Gx Go.Proofs
variable {K : Value → World → Prop} {w : World}

theorem pre_ok {lv : Value} {s : WStp} {bs : List Int} {st : List (WStp × List Int)} {rest : Value → Value → (World → Prop) → World → Prop} (hl : RdE 23 w lv (st.map fun x => x.1.cells)) (hs : ∀ x ∈ st, StpR w.heap.size w x.1 x.2) (hst : StpR w.heap.size w s bs) (hK : ∀ w', Fr none_ w w' → K (.bool true) w')
    (hrest : ∀ w' bp xb N0 j0, w.heap.size ≤ xb → xb < N0 → N0 ≤ w'.heap.size → BS N0 w' bp 20 (madeF st) → w'.heap[xb]? = some (cellsO s.cells 29) → StpR N0 w' s bs → Fr none_ w w' → (∀ w'', Fr none_ w w'' → j0 w'') → rest (pt xb 0) (pt bp 0) j0 w') :
    (opS Tryz.prog (S.box 29 (.agg s.cells.toArray)) fun x2 => opS Tryz.prog (S.cl 10 []) fun x3 => opS Tryz.prog (S.cl 11 [lv]) fun x4 => opS Tryz.prog (S.cl 12 [lv]) fun x5 => opS Tryz.prog (S.ext x5 0) fun x6 => opS Tryz.prog (S.ext x5 1) fun x7 =>
      jnJ 0 (jnJ 1 (fun x8 => K x8) fun j0 => brn x3 (j0 x7) (j0 (.bool false))) fun j0 =>
      opS Tryz.prog (S.un .not x3) fun x8 => brn x8 j0 (opS Tryz.prog (S.un .not x4) fun x9 => brn x9 j0 (opS Tryz.prog (S.un .not x7) fun x10 => brn x10 j0 (opS Tryz.prog (S.fa 29 x2 5) fun x11 => opS Tryz.prog (S.fa 27 x11 6) fun x12 => opS Tryz.prog (S.ld 25 x12) fun x13 => opS Tryz.prog (S.len x13) fun x14 => opS Tryz.prog (S.binI .gtr x14 (.int .i64 2000)) fun x15 => brn x15 j0 (rest x2 x6 j0))))) w := by
  have hF1 : Fr none_ w (w.alloc (cellsO s.cells 29)) := (by repeat' first | with_reducible exact Fr.refl _ _ | with_reducible refine Fr.step_alloc ?_ ?_ | with_reducible refine Fr.step_drew ?_ | with_reducible refine Fr.step_wr ?_ ?_ _ _ | exact rfl | exact Or.inr (by omega) | exact Or.inl rfl | exact Or.inl (Or.inl rfl) | exact Or.inl (Or.inr rfl))
  have h0 : (w.alloc (cellsO s.cells 29)).heap[w.heap.size]? = some (cellsO s.cells 29) := by simp only [push_cast, Nat.reduceAdd, Nat.reduceLeDiff, Nat.reduceLT, Int.reduceToNat, Nat.left_eq_add, Nat.add_eq_left, Nat.add_left_cancel_iff, Nat.reduceEqDiff, Nat.add_assoc, Nat.succ_ne_zero]
  simp only [opS_box, cells_agg, alloc_cellsO]
  generalize w.alloc (cellsO s.cells 29) = w1 at *
  have hx1 := lt_of_heap h0
  simp only [push_cast, Nat.reduceAdd, Nat.reduceLeDiff, Nat.reduceLT, Int.reduceToNat, Nat.left_eq_add, Nat.add_eq_left, Nat.add_left_cancel_iff, Nat.reduceEqDiff, Nat.add_assoc, Nat.succ_ne_zero]
  refine awake_spec fun w2 hF2 => ?_
  simp only [push_cast, Nat.reduceAdd, Nat.reduceLeDiff, Nat.reduceLT, Int.reduceToNat, Nat.left_eq_add, Nat.add_eq_left, Nat.add_left_cancel_iff, Nat.reduceEqDiff, Nat.add_assoc, Nat.succ_ne_zero]
  have hs2 : ∀ x ∈ st, StpR w.heap.size w2 x.1 x.2 := fun x hx => ((hs x hx).fr0 hF1).fr0 hF2
  have hl2 := (hl.fr hF1 fun _ _ h => h).fr hF2 fun _ _ h => h
  refine few_spec hl2 hs2 fun fw => ?_
  replace h0 := hF2.heap h0 fun h => h
  have hF02 := hF1.trans hF2
  have hx2 := lt_of_heap h0
  simp only [push_cast, Nat.reduceAdd, Nat.reduceLeDiff, Nat.reduceLT, Int.reduceToNat, Nat.left_eq_add, Nat.add_eq_left, Nat.add_left_cancel_iff, Nat.reduceEqDiff, Nat.add_assoc, Nat.succ_ne_zero]
  refine made_spec hl2 (fun x hx => (hs2 x hx).mono hF02.size) fun w3 bp hB hF3 => ?_
  replace h0 := hF3.heap h0 fun h => h
  have hF03 := hF02.trans hF3
  have hst3 := (((hst.fr0 hF1).fr0 hF2).fr0 hF3).mono hF02.size
  obtain ⟨ba, bc, hb⟩ := hst.f.2.form
  simp only [push_cast, Nat.reduceAdd, Nat.reduceLeDiff, Nat.reduceLT, Int.reduceToNat, Nat.left_eq_add, Nat.add_eq_left, Nat.add_left_cancel_iff, Nat.reduceEqDiff, Nat.add_assoc, Nat.succ_ne_zero]
  refine jn0 (fun w' => Fr none_ w w') (fun w' hF => ?_) fun j hj => ?_
  · rw [jn_1]
    simp only [push_cast, Nat.reduceAdd, Nat.reduceLeDiff, Nat.reduceLT, Int.reduceToNat, Nat.left_eq_add, Nat.add_eq_left, Nat.add_left_cancel_iff, Nat.reduceEqDiff, Nat.add_assoc, Nat.succ_ne_zero]
    exact hK _ hF
  simp only [push_cast, Nat.reduceAdd, Nat.reduceLeDiff, Nat.reduceLT, Int.reduceToNat, Nat.left_eq_add, Nat.add_eq_left, Nat.add_left_cancel_iff, Nat.reduceEqDiff, Nat.add_assoc, Nat.succ_ne_zero, Bool.not_true]
  refine br_intro (fun _ => hj _ hF03) fun _ => ?_
  simp only [push_cast, Nat.reduceAdd, Nat.reduceLeDiff, Nat.reduceLT, Int.reduceToNat, Nat.left_eq_add, Nat.add_eq_left, Nat.add_left_cancel_iff, Nat.reduceEqDiff, Nat.add_assoc, Nat.succ_ne_zero, h0, hb]
  refine br_dec (fun _ => hj _ hF03) fun _ => ?_
  exact hrest _ bp _ _ j (Nat.le_refl _) hx2 hF3.size hB h0 hst3 hF03 hj

/-! ### Sums -/

def sumW (l : List Int) : Int := l.foldl (fun n x => IntKind.i64.wrap (n + x)) 0
theorem wrap_congr {a b : Int} (h : a % 18446744073709551616 = b % 18446744073709551616) : IntKind.i64.wrap a = IntKind.i64.wrap b := by
  unfold IntKind.wrap
  have e1 : (2 : Int) ^ IntKind.i64.bits = 18446744073709551616 := rfl
  simp only [e1, h]
theorem wrap_mod (a : Int) : IntKind.i64.wrap a % 18446744073709551616 = a % 18446744073709551616 := by
  unfold IntKind.wrap
  have e1 : (2 : Int) ^ IntKind.i64.bits = 18446744073709551616 := rfl
  have e2 : (2 : Int) ^ (IntKind.i64.bits - 1) = 9223372036854775808 := rfl
  have e3 : IntKind.i64.signed = true := rfl
  simp only [e1, e2, e3, Bool.true_and, decide_eq_true_eq]
  split <;> omega
theorem foldl_sumW : ∀ (l : List Int) (a : Int), (l.foldl (fun n x => IntKind.i64.wrap (n + x)) a) % 18446744073709551616 = (a + l.sum) % 18446744073709551616
  | [], a => by simp
  | x :: l, a => by
    rw [List.foldl_cons, foldl_sumW l, List.sum_cons]
    have := wrap_mod (a + x)
    omega
theorem sum_set : ∀ {l : List Int} {k : Nat} {v : Int}, k < l.length → (l.set k v).sum = l.sum - l.getD k 0 + v
  | [], k, v, h => by simp at h
  | x :: l, 0, v, _ => by simp; omega
  | x :: l, k + 1, v, h => by
    rw [List.set_cons_succ, List.sum_cons, List.sum_cons, sum_set (by simpa using h), List.getD_cons_succ]
    omega
theorem sumW_app (t : List Int) (x : Int) : sumW (t ++ [x]) = IntKind.i64.wrap (sumW t + x) := by
  unfold sumW
  rw [List.foldl_append]
  rfl
theorem sumW_last {l : List Int} (h : l ≠ []) : sumW l = IntKind.i64.wrap (sumW l) := by
  have e : l = l.dropLast ++ [l.getLast h] := (List.dropLast_concat_getLast h).symm
  rw [e, sumW_app]
  exact (wrap_congr (wrap_mod _)).symm
theorem sumW_incr {l : List Int} {k : Nat} (hl : l.length = 9) (hk : k < 9) : sumW (incr l k) = IntKind.i64.wrap (sumW l + 1) := by
  have h0 : incr l k ≠ [] := fun e => by
    have := congrArg List.length e
    unfold incr at this
    rw [List.length_set, hl] at this
    cases this
  rw [sumW_last h0]
  refine wrap_congr ?_
  have h1 := foldl_sumW (incr l k) 0
  have h2 := foldl_sumW l 0
  have h3 : (incr l k).sum = l.sum - l.getD k 0 + IntKind.i64.wrap (l.getD k 0 + 1) := sum_set (by omega)
  have h4 := wrap_mod (l.getD k 0 + 1)
  unfold sumW
  omega

theorem sum_spec {l : List Int} (hl : l.length = 9) (hk : ∀ w', Fr none_ w w' → K (i64 (sumW l)) w') : CallsR Tryz.prog 32 #[.agg (l.map i64).toArray] K w := by
  apply c32
  unfold p32
  have hF1 : Fr none_ w (w.alloc (cellsO (l.map i64) 55)) := (by repeat' first | with_reducible exact Fr.refl _ _ | with_reducible refine Fr.step_alloc ?_ ?_ | with_reducible refine Fr.step_drew ?_ | with_reducible refine Fr.step_wr ?_ ?_ _ _ | exact rfl | exact Or.inr (by omega) | exact Or.inl rfl | exact Or.inl (Or.inl rfl) | exact Or.inl (Or.inr rfl))
  have h0 : (w.alloc (cellsO (l.map i64) 55)).heap[w.heap.size]? = some (cellsO (l.map i64) 55) := by simp only [push_cast, Nat.reduceAdd, Nat.reduceLeDiff, Nat.reduceLT, Int.reduceToNat, Nat.left_eq_add, Nat.add_eq_left, Nat.add_left_cancel_iff, Nat.reduceEqDiff, Nat.add_assoc, Nat.succ_ne_zero]
  simp only [opS_box, cells_agg, alloc_cellsO]
  generalize w.alloc (cellsO (l.map i64) 55) = w1 at *
  refine jn1 K (fun _ _ h => h) fun j hj => ?_
  refine loop2 (fun m x y w' => ∃ k : Nat, y = i64 k ∧ k + m = 9 ∧ x = i64 (sumW (l.take k)) ∧ w' = w1) ?_ 9 ⟨0, rfl, rfl, rfl, rfl⟩
  rintro m x y w2 X ⟨k, rfl, hm, rfl, rfl⟩ hX
  simp only [push_cast, Nat.reduceAdd, Nat.reduceLeDiff, Nat.reduceLT, Int.reduceToNat, Nat.left_eq_add, Nat.add_eq_left, Nat.add_left_cancel_iff, Nat.reduceEqDiff, Nat.add_assoc, Nat.succ_ne_zero]
  refine br_dec (fun hlt => ?_) fun hge => ?_
  · have hk9 : k < 9 := by omega
    rw [opS_iaA w.heap.size 0 .i64 (k : Int) (by omega)]
    have hg : (l.map i64)[k]? = some (i64 (l[k]'(by omega))) := by rw [List.getElem?_map, List.getElem?_eq_getElem (by omega)]; rfl
    simp only [Int.toNat_natCast, Nat.mul_one, Nat.zero_add]
    simp only [push_cast, Nat.reduceAdd, Nat.reduceLeDiff, Nat.reduceLT, Int.reduceToNat, Nat.left_eq_add, Nat.add_eq_left, Nat.add_left_cancel_iff, Nat.reduceEqDiff, Nat.add_assoc, Nat.succ_ne_zero, h0, hg]
    have hw : IntKind.i64.wrap ((k : Int) + 1) = ((k + 1 : Nat) : Int) := by rw [wrap_i64 (by omega)]; omega
    rw [hw]
    refine hX (m - 1) _ _ _ (by omega) ⟨k + 1, rfl, by omega, ?_, rfl⟩
    rw [List.take_add_one, List.getElem?_eq_getElem (by omega), Option.toList_some, sumW_app]
  · obtain rfl : k = 9 := by omega
    rw [List.take_of_length_le (by omega)]
    exact hj _ _ (hk _ hF1)

end Go.Gx.S
end

section
/- A frame is sent to each port once. -/
set_option linter.unusedVariables false
set_option linter.unusedSimpArgs false
set_option maxRecDepth 100000
namespace Go.Gx.S
open Go Go.Gx Go.Proofs
variable {K : Value → World → Prop} {w : World}

/-! ### Plain -/

theorem takeA_ref {room : Nat} {fs : FS} {port : Int} {f : Frm} {n : Nat} {now : Int} (h : (refusedL fs port f n now).1 ≠ 0) : takeA room fs port f n now = ({ fs with N := incr fs.N (refusedL fs port f n now).1.toNat }, (refusedL fs port f n now).1, (refusedL fs port f n now).2, 0, []) := by
  unfold takeA
  rw [if_neg h]
theorem takeA_ok {room : Nat} {fs : FS} {port : Int} {f : Frm} {n : Nat} {now : Int} (h : (refusedL fs port f n now).1 = 0) :
    takeA room fs port f n now = ({ learnF room fs (fs.t.inn port f n).1 f.src port now with N := incr fs.N (sentL (learnF room fs (fs.t.inn port f n).1 f.src port now) (fs.t.inn port f n).1 port f n).1.toNat },
      (sentL (learnF room fs (fs.t.inn port f n).1 f.src port now) (fs.t.inn port f n).1 port f n).1, (fs.t.inn port f n).1, (sentL (learnF room fs (fs.t.inn port f n).1 f.src port now) (fs.t.inn port f n).1 port f n).2) := by
  unfold takeA
  rw [if_pos h, (refusedL_port h).2.2.2.1]
theorem takeA_N (room : Nat) (fs : FS) (port : Int) (f : Frm) (n : Nat) (now : Int) : (takeA room fs port f n now).1.N = incr fs.N (takeA room fs port f n now).2.1.toNat ∧ 0 ≤ (takeA room fs port f n now).2.1 ∧ (takeA room fs port f n now).2.1 < 9 := by
  unfold takeA
  split
  · exact ⟨rfl, sentL_range _ _ _ _ _⟩
  · exact ⟨rfl, refusedL_range _ _ _ _ _⟩
theorem endL_out (t : Int) (l : List (Int × Frm)) : (endL t l).2.2 = l ∧ (endL t l).2.1 = t ∧ ((endL t l).1 = 0 ↔ l ≠ []) ∧ ((endL t l).1 = 8 ↔ l = []) := by
  unfold endL
  split
  · rename_i h; subst h; exact ⟨rfl, rfl, by simp, by simp⟩
  · rename_i h; exact ⟨rfl, rfl, by simp [h], by simp [h]⟩
theorem sentL_out (fs : FS) (v port : Int) (f : Frm) (n : Nat) : ((sentL fs v port f n).1 = 0 ↔ (sentL fs v port f n).2.2 ≠ []) ∧ ((sentL fs v port f n).2.2 = [] ∨ ∃ tt, (sentL fs v port f n).2.2 = relayL fs.t fs.S v port tt f n) := by
  unfold sentL
  split
  · exact ⟨by simp, .inl rfl⟩
  · split
    · split
      · exact ⟨by simp, .inl rfl⟩
      · obtain ⟨h1, h2, h3, _⟩ := endL_out (‹Ent›).port (if (‹Ent›).port > 0 then relayL fs.t fs.S v port (‹Ent›).port f n else [])
        rw [h1]
        refine ⟨h3, ?_⟩
        split
        · exact .inr ⟨_, rfl⟩
        · exact .inl rfl
    · obtain ⟨h1, h2, h3, _⟩ := endL_out 0 (relayL fs.t fs.S v port 0 f n)
      rw [h1]
      exact ⟨h3, .inr ⟨_, rfl⟩⟩
/-- what a frame comes to goes to ports that may have it -/
theorem takeA_sent (room : Nat) (fs : FS) (port : Int) (f : Frm) (n : Nat) (now : Int) : ((takeA room fs port f n now).2.1 = 0 ↔ (takeA room fs port f n now).2.2.2.2 ≠ []) ∧ ((takeA room fs port f n now).2.2.2.2 = [] ∨ ∃ tt, (takeA room fs port f n now).2.2.2.2 = relayL fs.t fs.S (takeA room fs port f n now).2.2.1 port tt f n) := by
  by_cases h : (refusedL fs port f n now).1 = 0
  · rw [takeA_ok h]
    exact sentL_out _ _ _ _ _
  · rw [takeA_ref h]
    exact ⟨by simp [h], .inl rfl⟩

theorem outAt_some {t : VT} {S : List Int} {v frm : Int} {f : Frm} {n : Nat} {i : Nat} {o : Int × Frm} (h : outAt t S v frm f n i = some o) : o.1 = i ∧ (i : Int) ≠ frm ∧ S.getD i 0 = 2 ∧ (t.out v i f n).2 = 0 ∧ o.2 = (t.out v i f n).1 := by
  unfold outAt at h
  split at h
  · cases h
  · rename_i h1
    split at h
    · cases h
    · rename_i h2
      split at h
      · rename_i h3
        cases h
        exact ⟨rfl, h1, by simpa using h2, h3, rfl⟩
      · cases h
theorem out_zero {t : VT} {v p : Int} {f : Frm} {n : Nat} : (t.out v p f n).2 = 0 ↔ t.right v p ∧ f.right n = true ∧ t.is v p = true := by
  unfold VT.out VT.is
  split
  · rename_i h
    split
    · rename_i e; rw [e]; simp
    · rename_i e; rw [e]; simp [h.1, h.2]
    · rename_i e; rw [e]; simp [h.1, h.2]
  · rename_i h
    constructor
    · intro e; cases e
    · rintro ⟨h1, h2, _⟩; exact absurd ⟨h1, h2⟩ h
theorem mem_members {t : VT} {v p : Int} : p ∈ t.members v ↔ t.port p ∧ t.is v p = true := by
  unfold VT.members VT.port
  rw [List.mem_filter, List.mem_map]
  constructor
  · rintro ⟨⟨i, hi, rfl⟩, h⟩
    rw [List.mem_range] at hi
    exact ⟨⟨by simp, by simpa using hi⟩, h⟩
  · rintro ⟨⟨h1, h2⟩, h⟩
    exact ⟨⟨p.toNat, by rw [List.mem_range]; omega, by simp; omega⟩, h⟩
theorem sendN_lt {t : VT} {S : List Int} {v frm : Int} {f : Frm} {n : Nat} {k : Nat} {o : Int × Frm} (h : o ∈ sendN t S v frm f n k) : o.1 < k := by
  obtain ⟨i, hi, h⟩ := sendN_mem h
  have := (outAt_some h).1
  omega
theorem sendN_rise {t : VT} {S : List Int} {v frm : Int} {f : Frm} {n : Nat} : ∀ k, (sendN t S v frm f n k).Pairwise fun a b => a.1 < b.1
  | 0 => List.Pairwise.nil
  | k + 1 => by
    unfold sendN
    rw [List.pairwise_append]
    refine ⟨sendN_rise k, ?_, fun a ha b hb => ?_⟩
    · cases outAt t S v frm f n k with
      | none => exact List.Pairwise.nil
      | some x => exact List.pairwise_singleton ..
    · rw [Option.mem_toList] at hb
      have := (outAt_some hb).1
      have := sendN_lt ha
      omega
theorem relayL_mem {t : VT} {S : List Int} {v frm target : Int} {f : Frm} {n : Nat} {o : Int × Frm} (h : o ∈ relayL t S v frm target f n) : ∃ i : Nat, i < S.length ∧ o.1 = i ∧ (i : Int) ≠ frm ∧ S.getD i 0 = 2 ∧ (t.out v i f n).2 = 0 ∧ o.2 = (t.out v i f n).1 ∧ tgt target o = true := by
  obtain ⟨h1, h2⟩ := List.mem_filter.1 h
  obtain ⟨i, hi, h3⟩ := sendN_mem h1
  obtain ⟨a, b, c, d, e⟩ := outAt_some h3
  exact ⟨i, hi, a, b, c, d, e, h2⟩
theorem relayL_rise {t : VT} {S : List Int} {v frm target : Int} {f : Frm} {n : Nat} : (relayL t S v frm target f n).Pairwise fun a b => a.1 < b.1 := (sendN_rise _).filter _
theorem state_two {S : List Int} {i : Nat} (h0 : S.getD 0 0 = 0) (h : S.getD i 0 = 2) (hi : i < S.length) : stateL S (i : Int) = 2 := by
  have h1 : i ≠ 0 := fun e => by subst e; rw [h0] at h; cases h
  unfold stateL
  rw [if_pos (hasB_iff.2 ⟨by omega, by omega⟩), Int.toNat_natCast]
  exact h

theorem takeA_v {room : Nat} {fs : FS} {port : Int} {f : Frm} {n : Nat} {now : Int} (ht : fs.t.ok) (hf : f.ok) : isI (takeA room fs port f n now).2.2.1 := by
  by_cases h : (refusedL fs port f n now).1 = 0
  · rw [takeA_ok h]
    exact inn_isI ht hf
  · rw [takeA_ref h]
    show isI (refusedL fs port f n now).2
    have hz : isI 0 := isI_iff.2 (by decide)
    unfold refusedL
    split
    · exact hz
    · split
      · exact hz
      · split
        · exact hz
        · split
          · exact hz
          · split
            · exact inn_isI ht hf
            · exact inn_isI ht hf

/-! ### Reading -/

theorem FrmLo {N0 : Nat} {s : WStp} {bs : List Int} (h : StpR N0 w s bs) : ∃ w0 : World, FrmR w0 s.f bs ∧ w0.heap.size ≤ N0 := h.lo

/-- a sent frame's port is read -/
theorem out_port {x : Value} {l : List (Int × Frm)} {i : Nat} {R : Value → World → Prop} (hx : RdE 18 w x (l.map outC)) (hi : i < l.length) (hk : R (i64 l[i].1) w) :
    opS Tryz.prog (S.ia 35 x (i64 (i : Int))) (fun y => opS Tryz.prog (S.fa 49 y 0) fun z => opS Tryz.prog (S.ld 3 z) R) w := by
  obtain ⟨a, c, rfl⟩ := hx.form
  refine s_iaE hx (by omega) (by simpa using hi) fun b1 o1 c1 _ he => ?_
  simp only [Int.toNat_natCast, List.getElem_map] at he ⊢
  have h2 := he.cell0 (Nat.zero_lt_succ 17)
  simp only [push_cast, Nat.reduceAdd, Nat.reduceLeDiff, Nat.reduceLT, Int.reduceToNat, Nat.left_eq_add, Nat.add_eq_left, Nat.add_left_cancel_iff, Nat.reduceEqDiff, Nat.add_assoc, Nat.succ_ne_zero, h2]
  exact hk
theorem int_at {x : Value} {l : List Int} {i : Nat} {R : Value → World → Prop} (hx : RdE 1 w x (l.map cellI)) (hi : i < l.length) (hk : R (i64 l[i]) w) :
    opS Tryz.prog (S.ia 70 x (i64 (i : Int))) (fun y => opS Tryz.prog (S.ld 3 y) R) w := by
  refine s_iaE hx (by omega) (by rw [List.length_map]; exact hi) fun b o _ _ he => ?_
  rw [s_ld1, he.cell0 (by simp [cellI])]
  simp only [Int.toNat_natCast, List.getElem_map, cellI, onS_some]
  exact hk

theorem lfp_ge {N0 bp vp vm vnb p pb o c sb so sc room : Nat} {ps : List Ent} {fs : FS} (h : BR N0 w bp vp vm vnb p pb o c sb so sc room ps fs) : ∀ b, lfp bp p pb b → N0 ≤ b := fun b e => by
  have := h.ge
  unfold lfp at e
  omega

theorem once_law {lv : Value} {s : WStp} {bs : List Int} {st : List (WStp × List Int)} (hl : RdE 23 w lv (st.map fun x => x.1.cells)) (hs : ∀ x ∈ st, StpR w.heap.size w x.1 x.2) (hst : StpR w.heap.size w s bs) (hk : ∀ w', Fr none_ w w' → K (.bool true) w') :
    CallsR Tryz.prog 9 #[lv, .agg s.cells.toArray] K w := by
  apply c9
  unfold p9
  refine pre_ok hl hs hst hk fun w1 bp xb N0 j0 hxb hxN hN hB hx hS hF hj0 => ?_
  obtain ⟨hG, hS5⟩ := madeF_good st
  generalize madeF st = fs at *
  obtain ⟨vp, vm, vnb, p, pb, o, c, sb, so, sc, ps, hB⟩ := hB
  have hge := lfp_ge hB
  have h0N : w.heap.size ≤ N0 := by omega
  simp only [push_cast, Nat.reduceAdd, Nat.reduceLeDiff, Nat.reduceLT, Int.reduceToNat, Nat.left_eq_add, Nat.add_eq_left, Nat.add_left_cancel_iff, Nat.reduceEqDiff, Nat.add_assoc, Nat.succ_ne_zero]
  refine counts_spec hB fun w2 hF2 => ?_
  simp only [push_cast, Nat.reduceAdd, Nat.reduceLeDiff, Nat.reduceLT, Int.reduceToNat, Nat.left_eq_add, Nat.add_eq_left, Nat.add_left_cancel_iff, Nat.reduceEqDiff, Nat.add_assoc, Nat.succ_ne_zero]
  refine sum_spec hB.nl fun w3 hF3 => ?_
  have hF13 := hF2.trans hF3
  replace hB := hB.fr0 hF13
  replace hS := hS.fr0 hF13
  replace hx := hF13.heap hx fun h => h
  replace hF := hF.trans hF13
  replace hN := Nat.le_trans hN hF13.size
  simp only [push_cast, Nat.reduceAdd, Nat.reduceLeDiff, Nat.reduceLT, Int.reduceToNat, Nat.left_eq_add, Nat.add_eq_left, Nat.add_left_cancel_iff, Nat.reduceEqDiff, Nat.add_assoc, Nat.succ_ne_zero, hx]
  have hA := takeA_N 20 fs s.port s.f bs.length s.now
  have hA2 := takeA_sent 20 fs s.port s.f bs.length s.now
  have hA3 := takeA_S 20 fs s.port s.f bs.length s.now
  have hoN := takeA_okN (room := 20) (port := s.port) (f := s.f) (n := bs.length) (now := s.now) hG.n
  have hvi := takeA_v (room := 20) (port := s.port) (n := bs.length) (now := s.now) hB.v.ok hS.f.1
  have hln := takeA_len (room := 20) (fs := fs) (port := s.port) (now := s.now) (f := s.f) (n := bs.length)
  have hsl := hB.sl
  refine btake_spec hB.v.ok hB hS.f hS.lo hS.port hS.now fun x w4 ps4 hB4 hx4 hn4 hF4 => ?_
  generalize takeA 20 fs s.port s.f bs.length s.now = A at *
  obtain ⟨fs', cc, vv, tt, outs⟩ := A
  obtain ⟨xa, xc, rfl⟩ := hx4.form
  rw [List.length_map] at hx4 hn4
  simp only [List.length_map] at *
  refine way_slotG fun _ w5 hw5 hF5 => ?_
  have hF45 : Fr (lfp bp p pb) w3 w5 := hF4.trans (hF5.mono fun _ _ e => e.elim)
  replace hB4 := hB4.fr0 hF5
  replace hx4 := hx4.fr hF5 fun _ _ h => h
  have hx5 := hF45.heap hx fun e => by have := hge _ e; omega
  have hF05 : Fr none_ w w5 := hF.trans_new hF45 fun b hb e => by have := hge _ e; omega
  have hlw5 := lt_of_heap hw5
  have hlx5 := lt_of_heap hx5
  generalize w4.heap.size = ws at *
  have hrise : ∀ i (hi : i < outs.length), 0 < i → ∀ h, (outs[i-1]'h).1 < outs[i].1 := fun i hi h0 h => by
    rcases hA2.2 with e | ⟨t2, e⟩
    · subst e; simp at hi
    · have hr := relayL_rise (t := fs.t) (S := fs.S) (v := vv) (frm := s.port) (target := t2) (f := s.f) (n := bs.length)
      rw [← e] at hr
      exact List.pairwise_iff_getElem.1 hr (i - 1) i h hi (by omega)
  have hport : ∀ i (hi : i < outs.length), outs[i].1 ∈ fs'.t.members vv ∧ outs[i].1 ≠ s.port ∧ stateL fs'.S outs[i].1 = 2 := fun i hi => by
    rcases hA2.2 with e | ⟨t2, e⟩
    · subst e; simp at hi
    · have hm : outs[i] ∈ relayL fs.t fs.S vv s.port t2 s.f bs.length := e ▸ List.getElem_mem hi
      obtain ⟨k, hk1, e1, hk2, hk3, hk4, _, _⟩ := relayL_mem hm
      obtain ⟨q1, q2, q3⟩ := out_zero.1 hk4
      rw [hA3.1, hA3.2, e1]
      exact ⟨mem_members.2 ⟨q1.2.2, q3⟩, hk2, state_two hG.z hk3 hk1⟩
  refine jn1 (fun x27 w' => RdE 1 w' x27 ((fs'.t.members vv).map cellI) ∧ Fr none_ w5 w') ?_ fun j1 hj1 => ?_
  case refine_2 =>
    have hd := Fr.drew (fp := none_) w5
    have hB6 := hB4.fr0 hd
    have hw6 := hd.heap hw5 fun h => h
    simp only [drw_eq, push_cast, Nat.reduceAdd, Nat.reduceLeDiff, Nat.reduceLT, Int.reduceToNat, Nat.left_eq_add, Nat.add_eq_left, Nat.add_left_cancel_iff, Nat.reduceEqDiff, Nat.add_assoc, Nat.succ_ne_zero]
    generalize w5.drew = W at *
    have last : CallsR Tryz.prog 30 #[pt vp 0, i64 vv] (fun x30 => j1 x30) W := Vl.vmembers_spec hB6.v hvi fun w6 y hy hF6 _ => hj1 _ _ ⟨hy.rd, hd.trans hF6⟩
    refine allW_intro ?_ ?_
    · refine vlans_spec hB6 ?_
      simp only [push_cast, Nat.reduceAdd, Nat.reduceLeDiff, Nat.reduceLT, Int.reduceToNat, Nat.left_eq_add, Nat.add_eq_left, Nat.add_left_cancel_iff, Nat.reduceEqDiff, Nat.add_assoc, Nat.succ_ne_zero, hw6]
      exact last
    · simp only [push_cast, Nat.reduceAdd, Nat.reduceLeDiff, Nat.reduceLT, Int.reduceToNat, Nat.left_eq_add, Nat.add_eq_left, Nat.add_left_cancel_iff, Nat.reduceEqDiff, Nat.add_assoc, Nat.succ_ne_zero, hw6]
      refine vlans_spec hB6 ?_
      simp only [push_cast, Nat.reduceAdd, Nat.reduceLeDiff, Nat.reduceLT, Int.reduceToNat, Nat.left_eq_add, Nat.add_eq_left, Nat.add_left_cancel_iff, Nat.reduceEqDiff, Nat.add_assoc, Nat.succ_ne_zero]
      exact last
  rintro x27 w6 ⟨hmem, hF6⟩
  have hB6 := hB4.fr0 hF6
  have hx6 := hx4.fr hF6 fun _ _ h => h
  have hw6 := hF6.heap hw5 fun h => h
  have hxx6 := hF6.heap hx5 fun h => h
  have hF06 := hF05.trans hF6
  obtain ⟨ma, mc, rfl⟩ := hmem.form
  rw [List.length_map] at hmem
  simp only [List.length_map]
  refine jn0 (fun w' => w' = w6) (fun w' e => ?_) fun j2 hj2 => ?_
  · subst e
    refine counts_spec hB6 fun w7 hF7 => ?_
    simp only [push_cast, Nat.reduceAdd, Nat.reduceLeDiff, Nat.reduceLT, Int.reduceToNat, Nat.left_eq_add, Nat.add_eq_left, Nat.add_left_cancel_iff, Nat.reduceEqDiff, Nat.add_assoc, Nat.succ_ne_zero]
    refine sum_spec hB6.nl fun w8 hF8 => ?_
    have hF78 := hF7.trans hF8
    have hw8 := hF78.heap hw6 fun h => h
    have e1 : (sumW fs'.N == IntKind.i64.wrap (sumW fs.N + 1)) = true := by
      rw [hA.1, sumW_incr hB.nl (by omega)]
      exact beq_self_eq_true _
    simp only [push_cast, Nat.reduceAdd, Nat.reduceLeDiff, Nat.reduceLT, Int.reduceToNat, Nat.left_eq_add, Nat.add_eq_left, Nat.add_left_cancel_iff, Nat.reduceEqDiff, Nat.add_assoc, Nat.succ_ne_zero, e1, hw8]
    have e2 : ((cc == 0) == decide ((outs.length : Int) > 0)) = true := by
      by_cases h0 : cc = 0
      · have := List.length_pos_iff.2 (hA2.1.1 h0)
        rw [h0, decide_eq_true (by omega)]
        rfl
      · have : outs = [] := by
          refine Classical.byContradiction fun hne => h0 (hA2.1.2 hne)
        rw [this]
        have : (cc == 0) = false := by simpa using h0
        rw [this]
        rfl
    rw [e2, decide_eq_true (show cc ≥ 0 from hA.2.1), decide_eq_true (show cc ≤ 8 by omega)]
    simp only [push_cast, Nat.reduceAdd, Nat.reduceLeDiff, Nat.reduceLT, Int.reduceToNat, Nat.left_eq_add, Nat.add_eq_left, Nat.add_left_cancel_iff, Nat.reduceEqDiff, Nat.add_assoc, Nat.succ_ne_zero]
    exact hk _ (hF06.trans hF78)
  · have hml : (fs'.t.members vv).length ≤ 64 := by
      have h1 := hB6.v.ok.len
      unfold VT.members
      refine Nat.le_trans (List.length_filter_le _ _) ?_
      simpa using h1
    refine loop1 (fun m x w' => ∃ i : Nat, x = i64 i ∧ i + m = outs.length ∧ w' = w6) ?_ outs.length ⟨0, rfl, by omega, rfl⟩
    rintro m x w7 X ⟨i, rfl, hm, rfl⟩ hX
    simp only [push_cast, Nat.reduceAdd, Nat.reduceLeDiff, Nat.reduceLT, Int.reduceToNat, Nat.left_eq_add, Nat.add_eq_left, Nat.add_left_cancel_iff, Nat.reduceEqDiff, Nat.add_assoc, Nat.succ_ne_zero, hw6]
    refine br_dec (fun hlt => ?_) fun hge => hj2 _ rfl
    have hil : i < outs.length := by omega
    obtain ⟨p1, p2, p3⟩ := hport i hil
    refine jn0 (fun w' => w' = w7) (fun w' e => ?_) fun j3 hj3 => ?_
    · subst e
      simp only [push_cast, Nat.reduceAdd, Nat.reduceLeDiff, Nat.reduceLT, Int.reduceToNat, Nat.left_eq_add, Nat.add_eq_left, Nat.add_left_cancel_iff, Nat.reduceEqDiff, Nat.add_assoc, Nat.succ_ne_zero]
      rw [wrap_i64 (by omega)]
      exact hX (m - 1) _ _ (by omega) ⟨i + 1, by simp, by omega, rfl⟩
    simp only [push_cast, Nat.reduceAdd, Nat.reduceLeDiff, Nat.reduceLT, Int.reduceToNat, Nat.left_eq_add, Nat.add_eq_left, Nat.add_left_cancel_iff, Nat.reduceEqDiff, Nat.add_assoc, Nat.succ_ne_zero, hw6]
    refine out_port hx6 hil ?_
    refine jn1 (fun x w' => x = .bool true ∧ w' = w7) ?_ fun j4 hj4 => ?_
    · rintro x w' ⟨rfl, rfl⟩
      have e1 : (outs[i].1 == s.port) = false := by simpa using p2
      simp only [push_cast, Nat.reduceAdd, Nat.reduceLeDiff, Nat.reduceLT, Int.reduceToNat, Nat.left_eq_add, Nat.add_eq_left, Nat.add_left_cancel_iff, Nat.reduceEqDiff, Nat.add_assoc, Nat.succ_ne_zero, Bool.not_true, hxx6, e1]
      refine state_spec hB6 ?_
      rw [p3]
      simp only [push_cast, Nat.reduceAdd, Nat.reduceLeDiff, Nat.reduceLT, Int.reduceToNat, Nat.left_eq_add, Nat.add_eq_left, Nat.add_left_cancel_iff, Nat.reduceEqDiff, Nat.add_assoc, Nat.succ_ne_zero]
      refine br_intro (fun e => absurd e (by decide)) fun _ => ?_
      refine br_dec (fun h0 => ?_) fun h0 => hj3 _ rfl
      have h1 : 0 < i := by omega
      simp only [push_cast, Nat.reduceAdd, Nat.reduceLeDiff, Nat.reduceLT, Int.reduceToNat, Nat.left_eq_add, Nat.add_eq_left, Nat.add_left_cancel_iff, Nat.reduceEqDiff, Nat.add_assoc, Nat.succ_ne_zero, hw6]
      have hw : IntKind.i64.wrap ((i : Int) - 1) = ((i - 1 : Nat) : Int) := by rw [wrap_i64 (by omega)]; omega
      rw [hw]
      refine out_port (i := i - 1) hx6 (by omega) ?_
      have h2 := hrise i hil h1 (by omega)
      simp only [push_cast, Nat.reduceAdd, Nat.reduceLeDiff, Nat.reduceLT, Int.reduceToNat, Nat.left_eq_add, Nat.add_eq_left, Nat.add_left_cancel_iff, Nat.reduceEqDiff, Nat.add_assoc, Nat.succ_ne_zero]
      refine br_dec (fun h3 => by omega) fun _ => hj3 _ rfl
    · refine loop2 (fun m x y w' => ∃ k : Nat, y = i64 k ∧ k + m = (fs'.t.members vv).length ∧ x = .bool (decide (outs[i].1 ∈ (fs'.t.members vv).take k)) ∧ w' = w7) ?_ (fs'.t.members vv).length ⟨0, rfl, by omega, by simp, rfl⟩
      rintro m2 x y w8 Y ⟨k, rfl, hm2, rfl, rfl⟩ hY
      simp only [push_cast, Nat.reduceAdd, Nat.reduceLeDiff, Nat.reduceLT, Int.reduceToNat, Nat.left_eq_add, Nat.add_eq_left, Nat.add_left_cancel_iff, Nat.reduceEqDiff, Nat.add_assoc, Nat.succ_ne_zero]
      refine br_dec (fun hlt2 => ?_) fun hge2 => ?_
      case refine_2 =>
        obtain rfl : k = (fs'.t.members vv).length := by omega
        rw [List.take_length, decide_eq_true p1]
        exact hj4 _ _ ⟨rfl, rfl⟩
      have hkl : k < (fs'.t.members vv).length := by omega
      have hw : IntKind.i64.wrap ((k : Int) + 1) = ((k + 1 : Nat) : Int) := by rw [wrap_i64 (by omega)]; omega
      have htk : (fs'.t.members vv).take (k + 1) = (fs'.t.members vv).take k ++ [(fs'.t.members vv)[k]] := by
        rw [List.take_add_one, List.getElem?_eq_getElem hkl, Option.toList_some]
      refine br_dec (fun h1 => ?_) fun h1 => ?_
      · rw [hw]
        refine hY (m2 - 1) _ _ _ (by omega) ⟨k + 1, rfl, by omega, ?_, rfl⟩
        rw [htk, decide_eq_true (List.mem_append.2 (.inl h1))]
      · refine int_at hmem hkl ?_
        simp only [push_cast, Nat.reduceAdd, Nat.reduceLeDiff, Nat.reduceLT, Int.reduceToNat, Nat.left_eq_add, Nat.add_eq_left, Nat.add_left_cancel_iff, Nat.reduceEqDiff, Nat.add_assoc, Nat.succ_ne_zero]
        rw [hw]
        refine hY (m2 - 1) _ _ _ (by omega) ⟨k + 1, rfl, by omega, ?_, rfl⟩
        rw [htk]
        congr 1
        by_cases h2 : (fs'.t.members vv)[k] = outs[i].1
        · rw [h2, beq_self_eq_true, decide_eq_true (List.mem_append.2 (.inr (List.mem_singleton.2 rfl)))]
        · have h3 : ((fs'.t.members vv)[k] == outs[i].1) = false := by simpa using h2
          rw [h3]
          refine (decide_eq_false fun e => ?_).symm
          rcases List.mem_append.1 e with e | e
          · exact h1 e
          · exact h2 (List.mem_singleton.1 e).symm

end Go.Gx.S
end

section
/- What is known, and learned. -/
set_option linter.unusedVariables false
set_option linter.unusedSimpArgs false
set_option maxRecDepth 100000
namespace Go.Gx.S
open Go Go.Gx Go.Proofs
variable {K : Value → World → Prop} {w : World}

/-! ### Plain -/

theorem endL_ne (t : Int) (l : List (Int × Frm)) : (endL t l).1 ≠ 7 ∧ (endL t l).1 ≠ 6 ∧ ((endL t l).1 = 0 ∨ (endL t l).1 = 8) := by
  unfold endL
  split
  · exact ⟨(by decide : (8 : Int) ≠ 7), (by decide : (8 : Int) ≠ 6), .inr rfl⟩
  · exact ⟨(by decide : (0 : Int) ≠ 7), (by decide : (0 : Int) ≠ 6), .inl rfl⟩
/-- a frame that is not refused: what comes of it, by what is known of its target -/
theorem sentL_known {L : FS} {v port : Int} {f : Frm} {n : Nat} {x : Ent} (h : atK L.r (v, f.dst) = some x) (h1 : (sentL L v port f n).1 ≠ 6) :
    ((sentL L v port f n).1 = 7 → x.port = port) ∧ ((sentL L v port f n).1 ≠ 7 → (sentL L v port f n).2.1 = x.port ∧ x.port ≠ port ∧ (sentL L v port f n).2.2 = if x.port > 0 then relayL L.t L.S v port x.port f n else []) := by
  unfold sentL at *
  split
  · rename_i h0
    rw [if_pos h0] at h1
    exact absurd rfl h1
  · rename_i h0
    rw [if_neg h0] at h1
    simp only [h] at h1 ⊢
    split
    · rename_i hp
      exact ⟨fun _ => hp, fun e => absurd rfl e⟩
    · rename_i hp
      obtain ⟨a, b, c, d⟩ := endL_out x.port (if x.port > 0 then relayL L.t L.S v port x.port f n else [])
      exact ⟨fun e => absurd e (endL_ne _ _).1, fun _ => ⟨b, hp, a⟩⟩
theorem sentL_new {L : FS} {v port : Int} {f : Frm} {n : Nat} (h : atK L.r (v, f.dst) = none) (h1 : (sentL L v port f n).1 ≠ 6) :
    (sentL L v port f n).1 ≠ 7 ∧ (sentL L v port f n).2.1 = 0 ∧ (sentL L v port f n).2.2 = relayL L.t L.S v port 0 f n := by
  unfold sentL at *
  split
  · rename_i h0
    rw [if_pos h0] at h1
    exact absurd rfl h1
  · rename_i h0
    rw [if_neg h0] at h1
    simp only [h] at h1 ⊢
    obtain ⟨a, b, c, d⟩ := endL_out 0 (relayL L.t L.S v port 0 f n)
    exact ⟨(endL_ne _ _).1, b, a⟩
theorem sentL_six {L : FS} {v port : Int} {f : Frm} {n : Nat} (h : (sentL L v port f n).1 ≠ 0 ∧ (sentL L v port f n).1 ≠ 7 ∧ (sentL L v port f n).1 ≠ 8) : (sentL L v port f n).2 = (0, []) := by
  unfold sentL at *
  by_cases h0 : L.S.getD port.toNat 0 = 1
  · rw [if_pos h0]
  · rw [if_neg h0] at h ⊢
    cases hx : atK L.r (v, f.dst) with
    | some x =>
      simp only [hx] at h ⊢
      by_cases hp : x.port = port
      · rw [if_pos hp]
      · rw [if_neg hp] at h
        rcases (endL_ne x.port (if x.port > 0 then relayL L.t L.S v port x.port f n else [])).2.2 with e | e
        · exact absurd e h.1
        · exact absurd e h.2.2
    | none =>
      simp only [hx] at h ⊢
      rcases (endL_ne 0 (relayL L.t L.S v port 0 f n)).2.2 with e | e
      · exact absurd e h.1
      · exact absurd e h.2.2
theorem sentL_five {L : FS} {v port : Int} {f : Frm} {n : Nat} : (sentL L v port f n).1 = 0 ∨ 6 ≤ (sentL L v port f n).1 := by
  have he : ∀ t l, (endL t l).1 = 0 ∨ 6 ≤ (endL t l).1 := fun t l => by
    rcases (endL_ne t l).2.2 with e | e
    · exact .inl e
    · exact .inr (by omega)
  unfold sentL
  split
  · exact .inr (by decide : (6 : Int) ≤ 6)
  · split
    · split
      · exact .inr (by decide : (6 : Int) ≤ 7)
      · exact he _ _
    · exact he _ _
theorem refusedL_five {fs : FS} {port : Int} {f : Frm} {n : Nat} {now : Int} : (refusedL fs port f n now).1 ≤ 5 := by
  unfold refusedL
  split
  · exact (by decide : (1 : Int) ≤ 5)
  · split
    · exact (by decide : (2 : Int) ≤ 5)
    · split
      · exact (by decide : (3 : Int) ≤ 5)
      · split
        · exact (by decide : (4 : Int) ≤ 5)
        · split
          · exact (by decide : (5 : Int) ≤ 5)
          · exact (by decide : (0 : Int) ≤ 5)

/-- what a law asks of a frame that was taken -/
theorem known_plain {room : Nat} {fs : FS} {port : Int} {f : Frm} {n : Nat} {now : Int} {A : FS × Int × Int × Int × List (Int × Frm)} (hA : takeA room fs port f n now = A) :
    (A.2.1 ≠ 0 → A.2.1 ≠ 7 → A.2.1 ≠ 8 → A.2.2.2 = (0, [])) ∧
    ((A.2.1 = 0 ∨ A.2.1 = 7 ∨ A.2.1 = 8) →
      (atK A.1.r (A.2.2.1, f.dst) = none → A.2.1 ≠ 7 ∧ A.2.2.2.1 = 0 ∧ A.2.2.2.2 = relayL A.1.t A.1.S A.2.2.1 port 0 f n) ∧
      (∀ x, atK A.1.r (A.2.2.1, f.dst) = some x → (A.2.1 = 7 → x.port = port) ∧ (A.2.1 ≠ 7 → A.2.2.2.1 = x.port ∧ x.port ≠ port ∧ A.2.2.2.2 = if x.port > 0 then relayL A.1.t A.1.S A.2.2.1 port x.port f n else []))) := by
  subst hA
  by_cases h : (refusedL fs port f n now).1 = 0
  · rw [takeA_ok h]
    refine ⟨fun h0 h7 h8 => sentL_six ⟨h0, h7, h8⟩, fun hc => ?_⟩
    have h6 : (sentL (learnF room fs (fs.t.inn port f n).1 f.src port now) (fs.t.inn port f n).1 port f n).1 ≠ 6 := by
      have hc : (sentL (learnF room fs (fs.t.inn port f n).1 f.src port now) (fs.t.inn port f n).1 port f n).1 = 0 ∨ (sentL (learnF room fs (fs.t.inn port f n).1 f.src port now) (fs.t.inn port f n).1 port f n).1 = 7 ∨ (sentL (learnF room fs (fs.t.inn port f n).1 f.src port now) (fs.t.inn port f n).1 port f n).1 = 8 := hc
      omega
    exact ⟨fun hn => sentL_new (L := learnF room fs (fs.t.inn port f n).1 f.src port now) hn h6, fun x hx => sentL_known (L := learnF room fs (fs.t.inn port f n).1 f.src port now) hx h6⟩
  · rw [takeA_ref h]
    refine ⟨fun _ _ _ => rfl, fun hc => ?_⟩
    have h1 := refusedL_five (fs := fs) (port := port) (f := f) (n := n) (now := now)
    have hc : (refusedL fs port f n now).1 = 0 ∨ (refusedL fs port f n now).1 = 7 ∨ (refusedL fs port f n now).1 = 8 := hc
    omega

theorem one_target {t : VT} {S : List Int} {v frm x : Int} {f : Frm} {n : Nat} (hx : x > 0) : relayL t S v frm x f n = [] ∨ ∃ o, relayL t S v frm x f n = [o] ∧ o.1 = x := by
  have hp : ∀ o ∈ relayL t S v frm x f n, o.1 = x := fun o ho => by
    have := (List.mem_filter.1 ho).2
    unfold tgt at this
    rcases of_decide_eq_true this with e | e
    · omega
    · exact e
  have hr := relayL_rise (t := t) (S := S) (v := v) (frm := frm) (target := x) (f := f) (n := n)
  generalize relayL t S v frm x f n = l at *
  match l with
  | [] => exact .inl rfl
  | [o] => exact .inr ⟨o, rfl, hp o (List.mem_cons_self ..)⟩
  | a :: b :: l =>
    have h1 := hp a (List.mem_cons_self ..)
    have h2 := hp b (List.mem_cons_of_mem _ (List.mem_cons_self ..))
    have h3 := (List.pairwise_cons.1 hr).1 b (List.mem_cons_self ..)
    omega

theorem inn_right {t : VT} {p : Int} {f : Frm} {n : Nat} (ht : t.ok) (h : (t.inn p f n).2 = 0) : t.right (t.inn p f n).1 p := by
  unfold VT.inn at *
  by_cases h1 : t.port p ∧ f.right n = true
  · rw [if_pos h1] at h ⊢
    generalize (if f.vlan = 0 then t.nat.getD p.toNat 0 else f.vlan) = v at *
    simp only at h ⊢
    split at h
    · rename_i h2
      rw [if_pos h2]
      unfold VT.is at h2
      cases hg : getL t.tab (v, p) with
      | none => rw [hg] at h2; cases h2
      | some b => exact ht.key _ (lookup_some_mem hg)
    · cases h
  · rw [if_neg h1] at h
    cases h

/-- what is known of a frame's source behind it -/
theorem learns_plain {room : Nat} {fs : FS} {port : Int} {f : Frm} {n : Nat} {now : Int} {A : FS × Int × Int × Int × List (Int × Frm)} (hA : takeA room fs port f n now = A) (hr : RPR room fs.r) (ht : fs.t.ok) (hf : f.ok) (hp : isI port) (hnow : isI now) :
    (1 ≤ A.2.1 → A.2.1 ≤ 5 → A.1.r = fs.r) ∧
    (¬ (1 ≤ A.2.1 ∧ A.2.1 ≤ 5) → (atK A.1.r (A.2.2.1, f.src) = none → fs.r.length = room) ∧ ∀ x, atK A.1.r (A.2.2.1, f.src) = some x → x.static = true ∨ x.port = port ∧ x.at_ = now) := by
  subst hA
  by_cases h : (refusedL fs port f n now).1 = 0
  · obtain ⟨hh, hfr, htm, hv, hin, hgs⟩ := refusedL_port h
    rw [takeA_ok h]
    refine ⟨fun h1 h5 => ?_, fun _ => ?_⟩
    · have h1 : 1 ≤ (sentL (learnF room fs (fs.t.inn port f n).1 f.src port now) (fs.t.inn port f n).1 port f n).1 := h1
      have h5 : (sentL (learnF room fs (fs.t.inn port f n).1 f.src port now) (fs.t.inn port f n).1 port f n).1 ≤ 5 := h5
      have := sentL_five (L := learnF room fs (fs.t.inn port f n).1 f.src port now) (v := (fs.t.inn port f n).1) (port := port) (f := f) (n := n)
      omega
    have hri := inn_right ht hin
    have hvI := inn_isI (p := port) (n := n) ht hf
    generalize (fs.t.inn port f n).1 = v at *
    have hl := ht.len
    have hpo : fs.t.port port := hri.2.2
    have hrb : rightB v f.src port = true := by
      unfold rightB
      have h1 := hri.1
      have h2 := hri.2.1
      unfold VT.port at hpo
      rw [decide_eq_true h1, decide_eq_true h2, decide_eq_true hpo.1, decide_eq_true (show port ≤ 1000 by omega), hgs]
      rfl
    show (atK (learnL room fs.r v f.src port now).1 (v, f.src) = none → _) ∧ ∀ x, atK (learnL room fs.r v f.src port now).1 (v, f.src) = some x → _
    have hok : (⟨v, f.src, port, now, false⟩ : Ent).ok := ⟨hvI, hf.2.1, hp, hnow⟩
    have hw := atK_with hr.1 hok (v, f.src)
    rw [if_pos (show eKey (⟨v, f.src, port, now, false⟩ : Ent) = (v, f.src) from rfl)] at hw
    unfold learnL
    rw [hrb, htm, Bool.and_self, if_pos rfl]
    cases hat : atK fs.r (v, f.src) with
    | some e =>
      simp only
      by_cases hs : e.static = true
      · rw [if_pos hs]
        refine ⟨fun e1 => (by rw [hat] at e1; cases e1), fun x hx => ?_⟩
        rw [hat, Option.some.injEq] at hx
        subst hx
        exact .inl hs
      · rw [if_neg hs]
        refine ⟨fun e1 => (by rw [hw] at e1; cases e1), fun x hx => ?_⟩
        rw [hw, Option.some.injEq] at hx
        subst hx
        exact .inr ⟨rfl, rfl⟩
    | none =>
      simp only
      by_cases hc : room ≤ fs.r.length
      · rw [if_pos hc]
        refine ⟨fun _ => by have := hr.2.1; omega, fun x hx => ?_⟩
        rw [hat] at hx
        cases hx
      · rw [if_neg hc]
        refine ⟨fun e1 => (by rw [hw] at e1; cases e1), fun x hx => ?_⟩
        rw [hw, Option.some.injEq] at hx
        subst hx
        exact .inr ⟨rfl, rfl⟩
  · rw [takeA_ref h]
    refine ⟨fun _ _ => rfl, fun hc => absurd ?_ hc⟩
    have h1 := refusedL_five (fs := fs) (port := port) (f := f) (n := n) (now := now)
    have h2 := refusedL_range fs port f n now
    show 1 ≤ (refusedL fs port f n now).1 ∧ (refusedL fs port f n now).1 ≤ 5
    omega

/-! ### In any order -/

section
variable {w0 : World} {N0 bp vp vm vnb p pb o c sb so sc room : Nat} {ps : List Ent} {fs : FS} {cc vv tt : Int} {x : Value} {ws xb : Nat} {s : WStp} {m : Mac}
theorem kn_v (h : w0.heap[ws]? = some (cellsO (wayC cc vv tt x) 37)) (hF : Fr none_ w0 w) {R : Value → World → Prop} (hk : R (i64 vv) w) : opS Tryz.prog (S.ld 3 (pt ws 1)) R w := by
  have := hF.heap h fun h => h
  simp only [push_cast, Nat.reduceAdd, Nat.reduceLeDiff, Nat.reduceLT, Int.reduceToNat, Nat.left_eq_add, Nat.add_eq_left, Nat.add_left_cancel_iff, Nat.reduceEqDiff, Nat.add_assoc, Nat.succ_ne_zero, this]
  exact hk
theorem kn_dst (h : w0.heap[xb]? = some (cellsO s.cells 29)) (hF : Fr none_ w0 w) {R : Value → World → Prop} (hk : R (.agg s.f.dst.cells.toArray) w) : opS Tryz.prog (S.ld 24 (pt xb 5)) R w := by
  have := hF.heap h fun h => h
  simp only [push_cast, Nat.reduceAdd, Nat.reduceLeDiff, Nat.reduceLT, Int.reduceToNat, Nat.left_eq_add, Nat.add_eq_left, Nat.add_left_cancel_iff, Nat.reduceEqDiff, Nat.add_assoc, Nat.succ_ne_zero, this]
  exact hk
theorem kn_src (h : w0.heap[xb]? = some (cellsO s.cells 29)) (hF : Fr none_ w0 w) {R : Value → World → Prop} (hk : R (.agg s.f.src.cells.toArray) w) : opS Tryz.prog (S.ld 24 (pt xb 11)) R w := by
  have := hF.heap h fun h => h
  simp only [push_cast, Nat.reduceAdd, Nat.reduceLeDiff, Nat.reduceLT, Int.reduceToNat, Nat.left_eq_add, Nat.add_eq_left, Nat.add_left_cancel_iff, Nat.reduceEqDiff, Nat.add_assoc, Nat.succ_ne_zero, this]
  exact hk
theorem kn_look (h : BR N0 w0 bp vp vm vnb p pb o c sb so sc room ps fs) (hv : isI vv) (hm : m.ok) (hF : Fr none_ w0 w) {R : Value → Value → World → Prop} (hk : ∀ w', Fr none_ w0 w' → Fr none_ w w' → R (.agg (lookL fs.r (vv, m)).1.cells.toArray) (.bool (lookL fs.r (vv, m)).2) w') :
    opS Tryz.prog (S.cl 15 [pt p 0, i64 vv, .agg m.cells.toArray]) (fun x => opS Tryz.prog (S.ext x 0) fun a => opS Tryz.prog (S.ext x 1) fun b => R a b) w := by
  simp only [push_cast, Nat.reduceAdd, Nat.reduceLeDiff, Nat.reduceLT, Int.reduceToNat, Nat.left_eq_add, Nat.add_eq_left, Nat.add_left_cancel_iff, Nat.reduceEqDiff, Nat.add_assoc, Nat.succ_ne_zero]
  refine look_spec (h.f.fr0 hF) hv hm fun w' hF' => ?_
  simp only [s_ext, List.getElem?_toArray, List.getElem?_cons_zero, List.getElem?_cons_succ, onS_some]
  exact hk w' (hF.trans hF') hF'
end

theorem known_law {lv : Value} {s : WStp} {bs : List Int} {st : List (WStp × List Int)} (hl : RdE 23 w lv (st.map fun x => x.1.cells)) (hs : ∀ x ∈ st, StpR w.heap.size w x.1 x.2) (hst : StpR w.heap.size w s bs) (hk : ∀ w', Fr none_ w w' → K (.bool true) w') :
    CallsR Tryz.prog 3 #[lv, .agg s.cells.toArray] K w := by
  apply c3
  unfold p3
  refine pre_ok hl hs hst hk fun w1 bp xb N0 j0 hxb hxN hN hB hx hS hF hj0 => ?_
  obtain ⟨hG, hS5⟩ := madeF_good st
  generalize madeF st = fs at *
  obtain ⟨vp, vm, vnb, p, pb, o, c, sb, so, sc, ps, hB⟩ := hB
  have hge := lfp_ge hB
  simp only [push_cast, Nat.reduceAdd, Nat.reduceLeDiff, Nat.reduceLT, Int.reduceToNat, Nat.left_eq_add, Nat.add_eq_left, Nat.add_left_cancel_iff, Nat.reduceEqDiff, Nat.add_assoc, Nat.succ_ne_zero, hx]
  have hvi := takeA_v (room := 20) (port := s.port) (n := bs.length) (now := s.now) hB.v.ok hS.f.1
  have hln := takeA_len (room := 20) (fs := fs) (port := s.port) (now := s.now) (f := s.f) (n := bs.length)
  have hsl := hB.sl
  have hP : ∀ {A}, takeA 20 fs s.port s.f bs.length s.now = A → _ := fun h => known_plain h
  refine btake_spec hB.v.ok hB hS.f hS.lo hS.port hS.now fun x w4 ps4 hB4 hx4 hn4 hF4 => ?_
  generalize takeA 20 fs s.port s.f bs.length s.now = A at *
  have hP := hP rfl
  obtain ⟨fs', cc, vv, tt, outs⟩ := A
  obtain ⟨xa, xc, rfl⟩ := hx4.form
  rw [List.length_map] at hx4 hn4
  simp only [List.length_map] at *
  refine way_slotG fun _ w5 hw5 hF5 => ?_
  have hF45 : Fr (lfp bp p pb) w1 w5 := hF4.trans (hF5.mono fun _ _ e => e.elim)
  replace hB4 := hB4.fr0 hF5
  replace hx4 := hx4.fr hF5 fun _ _ h => h
  have hx5 := hF45.heap hx fun e => by have := hge _ e; omega
  have hS5' := hS.fr (hF45.mono fun b _ e => hge b e)
  have hF05 : Fr none_ w w5 := hF.trans_new hF45 fun b hb e => by have := hge _ e; omega
  generalize w4.heap.size = ws at *
  refine jn2 (fun a b w' => ∃ sl, a = pt sl 0 ∧ b = .bool (lookL fs'.r (vv, s.f.dst)).2 ∧ w'.heap[sl]? = some (cellsO (lookL fs'.r (vv, s.f.dst)).1.cells 40) ∧ Fr none_ w5 w') ?_ fun j2 hj2 => ?_
  case refine_2 =>
    have hFd : Fr none_ w5 w5.drew := Fr.drew w5
    have hB2 := hB4.fr0 hFd
    have k4 := hFd.heap hx5 fun h => h
    have k5 := hFd.heap hw5 fun h => h
    simp only [drw_eq, push_cast, Nat.reduceAdd, Nat.reduceLeDiff, Nat.reduceLT, Int.reduceToNat, Nat.left_eq_add, Nat.add_eq_left, Nat.add_left_cancel_iff, Nat.reduceEqDiff, Nat.add_assoc, Nat.succ_ne_zero]
    generalize w5.drew = wd at *
    have hself : Fr none_ wd wd := Fr.refl _ _
    have hm := hS.f.1.1
    have fin : ∀ sl w', w'.heap[sl]? = some (cellsO (lookL fs'.r (vv, s.f.dst)).1.cells 40) → Fr none_ wd w' → j2 (pt sl 0) (.bool (lookL fs'.r (vv, s.f.dst)).2) w' := fun sl w' hs hF => hj2 _ _ _ ⟨sl, rfl, rfl, hs, hFd.trans hF⟩
    clear hk hj2 hj0
    repeat' first
      | with_reducible refine allW_intro ?_ ?_
      | with_reducible refine al_sta hB2 (by assumption) ?_
      | with_reducible refine kn_v k5 (by assumption) ?_
      | with_reducible refine kn_dst k4 (by assumption) ?_
      | with_reducible refine se_alloc (w0 := wd) (by assumption) fun _ _ _ _ _ => ?_
      | with_reducible refine kn_look hB2 hvi hm (by assumption) fun _ _ _ => ?_
      | (with_reducible refine se_st1 (w0 := wd) (by assumption) (by assumption) (by first | assumption | exact Fr.refl _ _) (by assumption) fun _ _ _ _ => ?_; exact fin _ _ (by assumption) (by assumption))
  rintro a b w6 ⟨sl, rfl, rfl, hsl6, hF6⟩
  have hB6 := hB4.fr0 hF6
  have hS6 := hS5'.fr0 hF6
  have hx6 := hF6.heap hx5 fun h => h
  have hw6 := hF6.heap hw5 fun h => h
  have hF06 := hF05.trans hF6
  replace hx4 := hx4.fr hF6 fun _ _ h => h
  obtain ⟨hP1, hP2⟩ := hP
  refine jn0 (fun w' => w' = w6 ∧ (cc = 0 ∨ cc = 7 ∨ cc = 8)) ?_ fun j3 hj3 => ?_
  · rintro w' ⟨rfl, hc⟩
    obtain ⟨hN1, hK1⟩ := hP2 hc
    refine jn0 (fun w'' => Fr none_ w' w'' ∧ atK fs'.r (vv, s.f.dst) = none) ?_ fun j4 hj4 => ?_
    · rintro w7 ⟨hF7, hat⟩
      obtain ⟨_, q2, q3⟩ := hN1 hat
      have hB7 := hB6.fr0 hF7
      have hS7 := hS6.fr0 hF7
      have hx7 := hF7.heap hx6 fun h => h
      have hw7 := hF7.heap hw6 fun h => h
      simp only [push_cast, Nat.reduceAdd, Nat.reduceLeDiff, Nat.reduceLT, Int.reduceToNat, Nat.left_eq_add, Nat.add_eq_left, Nat.add_left_cancel_iff, Nat.reduceEqDiff, Nat.add_assoc, Nat.succ_ne_zero, hw7, hx7]
      refine relay_spec hB7 hS7.f fun y w8 hy8 hn8 hF8 => ?_
      have hw8 := hF8.heap hw7 fun h => h
      rw [jn_1]
      simp only [push_cast, Nat.reduceAdd, Nat.reduceLeDiff, Nat.reduceLT, Int.reduceToNat, Nat.left_eq_add, Nat.add_eq_left, Nat.add_left_cancel_iff, Nat.reduceEqDiff, Nat.add_assoc, Nat.succ_ne_zero, hw8, q2, beq_self_eq_true]
      rw [← q3] at hy8
      have hfr : ∀ o ∈ outs, ∃ cs, FrmR w8 o.2 cs := by
        rw [q3]
        exact relayL_frmR (hS7.fr0 hF8).f hvi
      refine sameouts_yes ((hx4.fr hF7 fun _ _ h => h).fr hF8 fun _ _ h => h) hy8 hfr (by omega) fun w9 hF9 => ?_
      exact hk _ (((hF06.trans hF7).trans hF8).trans hF9)
    · simp only [push_cast, Nat.reduceAdd, Nat.reduceLeDiff, Nat.reduceLT, Int.reduceToNat, Nat.left_eq_add, Nat.add_eq_left, Nat.add_left_cancel_iff, Nat.reduceEqDiff, Nat.add_assoc, Nat.succ_ne_zero, hx6]
      refine rgroup_spec hS6.f.1.1 fun w7 hF7 => ?_
      have hx7 := hF7.heap hx6 fun h => h
      have hw7 := hF7.heap hw6 fun h => h
      have hsl7 := hF7.heap hsl6 fun h => h
      have hF07 := hF06.trans hF7
      simp only [push_cast, Nat.reduceAdd, Nat.reduceLeDiff, Nat.reduceLT, Int.reduceToNat, Nat.left_eq_add, Nat.add_eq_left, Nat.add_left_cancel_iff, Nat.reduceEqDiff, Nat.add_assoc, Nat.succ_ne_zero]
      refine br_intro (fun hg => ?_) fun hg => ?_
      · refine hj4 _ ⟨hF7, ?_⟩
        cases hat : atK fs'.r (vv, s.f.dst) with
        | none => rfl
        | some e =>
          have h1 := atK_mem hat
          have h2 := (RP.of hB6.f).2.2 e h1.1
          have h3 : e.mac = s.f.dst := congrArg Prod.snd h1.2
          rw [h3, hg] at h2
          cases h2
      cases hat : atK fs'.r (vv, s.f.dst) with
      | none =>
        have e2 : (lookL fs'.r (vv, s.f.dst)).2 = false := by unfold lookL; rw [hat]
        simp only [push_cast, Nat.reduceAdd, Nat.reduceLeDiff, Nat.reduceLT, Int.reduceToNat, Nat.left_eq_add, Nat.add_eq_left, Nat.add_left_cancel_iff, Nat.reduceEqDiff, Nat.add_assoc, Nat.succ_ne_zero, e2, Bool.not_false]
        exact hj4 _ ⟨hF7, hat⟩
      | some e =>
        have e2 : lookL fs'.r (vv, s.f.dst) = (e, true) := by unfold lookL; rw [hat]
        rw [e2] at hsl7
        obtain ⟨h7, hn7⟩ := hK1 e hat
        simp only [push_cast, Nat.reduceAdd, Nat.reduceLeDiff, Nat.reduceLT, Int.reduceToNat, Nat.left_eq_add, Nat.add_eq_left, Nat.add_left_cancel_iff, Nat.reduceEqDiff, Nat.add_assoc, Nat.succ_ne_zero, e2, Bool.not_true, hw7]
        refine br_intro (fun hc7 => ?_) fun hc7 => ?_
        · have hc7 : cc = 7 := by simpa using hc7
          simp only [push_cast, Nat.reduceAdd, Nat.reduceLeDiff, Nat.reduceLT, Int.reduceToNat, Nat.left_eq_add, Nat.add_eq_left, Nat.add_left_cancel_iff, Nat.reduceEqDiff, Nat.add_assoc, Nat.succ_ne_zero, hsl7, hx7, h7 hc7, beq_self_eq_true]
          exact hk _ hF07
        · have hc7 : cc ≠ 7 := by simpa using hc7
          obtain ⟨r1, r2, r3⟩ := hn7 hc7
          have e3 : (e.port != s.port) = true := by simpa using r2
          simp only [drw_eq, push_cast, Nat.reduceAdd, Nat.reduceLeDiff, Nat.reduceLT, Int.reduceToNat, Nat.left_eq_add, Nat.add_eq_left, Nat.add_left_cancel_iff, Nat.reduceEqDiff, Nat.add_assoc, Nat.succ_ne_zero, hsl7, hx7, hw7, r1, e3, beq_self_eq_true]
          have hFd := hF07.step_drew
          by_cases hpos : e.port > 0
          · rw [if_pos hpos] at r3
            rcases one_target (t := fs'.t) (S := fs'.S) (v := vv) (frm := s.port) (f := s.f) (n := bs.length) hpos with r4 | ⟨oo, r4, r5⟩
            · rw [r4] at r3
              subst r3
              simp only [push_cast, Nat.reduceAdd, Nat.reduceLeDiff, Nat.reduceLT, Int.reduceToNat, Nat.left_eq_add, Nat.add_eq_left, Nat.add_left_cancel_iff, Nat.reduceEqDiff, Nat.add_assoc, Nat.succ_ne_zero, List.length_nil]
              exact hk _ hFd
            · rw [r4] at r3
              subst r3
              simp only [push_cast, Nat.reduceAdd, Nat.reduceLeDiff, Nat.reduceLT, Int.reduceToNat, Nat.left_eq_add, Nat.add_eq_left, Nat.add_left_cancel_iff, Nat.reduceEqDiff, Nat.add_assoc, Nat.succ_ne_zero, List.length_cons, List.length_nil]
              refine br_intro (fun e4 => absurd e4 (by decide)) fun _ => ?_
              refine br_intro (fun _ => ?_) fun e4 => absurd e4 (by decide)
              have hx7d := (hx4.fr hF7 fun _ _ h => h).fr (Fr.drew (fp := none_) w7) fun _ _ h => h
              refine out_port (i := 0) (l := [oo]) hx7d (Nat.zero_lt_succ 0) ?_
              simp only [push_cast, Nat.reduceAdd, Nat.reduceLeDiff, Nat.reduceLT, Int.reduceToNat, Nat.left_eq_add, Nat.add_eq_left, Nat.add_left_cancel_iff, Nat.reduceEqDiff, Nat.add_assoc, Nat.succ_ne_zero, hsl7, List.getElem_cons_zero, r5, beq_self_eq_true]
              exact hk _ hFd
          · rw [if_neg hpos] at r3
            subst r3
            simp only [push_cast, Nat.reduceAdd, Nat.reduceLeDiff, Nat.reduceLT, Int.reduceToNat, Nat.left_eq_add, Nat.add_eq_left, Nat.add_left_cancel_iff, Nat.reduceEqDiff, Nat.add_assoc, Nat.succ_ne_zero, List.length_nil]
            exact hk _ hFd
  · simp only [push_cast, Nat.reduceAdd, Nat.reduceLeDiff, Nat.reduceLT, Int.reduceToNat, Nat.left_eq_add, Nat.add_eq_left, Nat.add_left_cancel_iff, Nat.reduceEqDiff, Nat.add_assoc, Nat.succ_ne_zero, hw6]
    refine br_intro (fun h0 => ?_) fun h0 => hj3 _ ⟨rfl, .inl (by simpa using h0)⟩
    refine br_intro (fun h8 => ?_) fun h8 => hj3 _ ⟨rfl, .inr (.inr (by simpa using h8))⟩
    refine br_intro (fun h7 => ?_) fun h7 => hj3 _ ⟨rfl, .inr (.inl (by simpa using h7))⟩
    have hz := hP1 (by simpa using h0) (by simpa using h7) (by simpa using h8)
    simp only [Prod.mk.injEq] at hz
    obtain ⟨rfl, rfl⟩ := hz
    rw [jn_1]
    simp only [push_cast, Nat.reduceAdd, Nat.reduceLeDiff, Nat.reduceLT, Int.reduceToNat, Nat.left_eq_add, Nat.add_eq_left, Nat.add_left_cancel_iff, Nat.reduceEqDiff, Nat.add_assoc, Nat.succ_ne_zero, hw6, List.length_nil]
    exact hk _ hF06

theorem learns_law {lv : Value} {s : WStp} {bs : List Int} {st : List (WStp × List Int)} (hl : RdE 23 w lv (st.map fun x => x.1.cells)) (hs : ∀ x ∈ st, StpR w.heap.size w x.1 x.2) (hst : StpR w.heap.size w s bs) (hk : ∀ w', Fr none_ w w' → K (.bool true) w') :
    CallsR Tryz.prog 4 #[lv, .agg s.cells.toArray] K w := by
  apply c4
  unfold p4
  refine pre_ok hl hs hst hk fun w1 bp xb N0 j0 hxb hxN hN hB hx hS hF hj0 => ?_
  obtain ⟨hG, hS5⟩ := madeF_good st
  generalize madeF st = fs at *
  obtain ⟨vp, vm, vnb, p, pb, o, c, sb, so, sc, ps, hB⟩ := hB
  have hge := lfp_ge hB
  simp only [push_cast, Nat.reduceAdd, Nat.reduceLeDiff, Nat.reduceLT, Int.reduceToNat, Nat.left_eq_add, Nat.add_eq_left, Nat.add_left_cancel_iff, Nat.reduceEqDiff, Nat.add_assoc, Nat.succ_ne_zero]
  refine stations_spec hB ?_
  simp only [push_cast, Nat.reduceAdd, Nat.reduceLeDiff, Nat.reduceLT, Int.reduceToNat, Nat.left_eq_add, Nat.add_eq_left, Nat.add_left_cancel_iff, Nat.reduceEqDiff, Nat.add_assoc, Nat.succ_ne_zero]
  refine all_spec hB.f fun w2 lb lo lc hv2 hF2 hlb => ?_
  have hlen20 : fs.r.length ≤ 20 := hB.f.cap
  have hro := hB.f.ct.srt.2
  have hRPR : RPR 20 fs.r := ⟨hB.f.ct.srt, hB.f.cap, hB.f.rng⟩
  have hlt1 := hB.lt
  replace hB := hB.fr0 hF2
  replace hS := hS.fr0 hF2
  replace hx := hF2.heap hx fun h => h
  replace hF := hF.trans hF2
  have hN' := hN
  replace hN := Nat.le_trans hN hF2.size
  simp only [push_cast, Nat.reduceAdd, Nat.reduceLeDiff, Nat.reduceLT, Int.reduceToNat, Nat.left_eq_add, Nat.add_eq_left, Nat.add_left_cancel_iff, Nat.reduceEqDiff, Nat.add_assoc, Nat.succ_ne_zero, hx]
  have hvi := takeA_v (room := 20) (port := s.port) (n := bs.length) (now := s.now) hB.v.ok hS.f.1
  have hln := takeA_len (room := 20) (fs := fs) (port := s.port) (now := s.now) (f := s.f) (n := bs.length)
  have hsl := hB.sl
  have hP : ∀ {A}, takeA 20 fs s.port s.f bs.length s.now = A → _ := fun h => learns_plain h hRPR hB.v.ok hS.f.1 hS.port hS.now
  refine btake_spec hB.v.ok hB hS.f hS.lo hS.port hS.now fun x w4 ps4 hB4 hx4 hn4 hF4 => ?_
  generalize takeA 20 fs s.port s.f bs.length s.now = A at *
  have hP := hP rfl
  obtain ⟨fs', cc, vv, tt, outs⟩ := A
  obtain ⟨xa, xc, rfl⟩ := hx4.form
  rw [List.length_map] at hx4 hn4
  simp only [List.length_map] at *
  refine way_slotG fun _ w5 hw5 hF5 => ?_
  have hF45 : Fr (lfp bp p pb) w2 w5 := hF4.trans (hF5.mono fun _ _ e => e.elim)
  replace hB4 := hB4.fr0 hF5
  replace hx4 := hx4.fr hF5 fun _ _ h => h
  have hx5 := hF45.heap hx fun e => by have := hge _ e; omega
  have hS5' := hS.fr (hF45.mono fun b _ e => hge b e)
  have hF05 : Fr none_ w w5 := hF.trans_new hF45 fun b hb e => by have := hge _ e; omega
  generalize w4.heap.size = ws at *
  have hlv5 := hv2.rd.fr hF45 fun b hb e => by
    simp only [blkS, Option.some.injEq] at hb
    unfold lfp at e
    omega
  refine jn2 (fun a b w' => ∃ sl, a = pt sl 0 ∧ b = .bool (lookL fs'.r (vv, s.f.src)).2 ∧ w'.heap[sl]? = some (cellsO (lookL fs'.r (vv, s.f.src)).1.cells 40) ∧ Fr none_ w5 w') ?_ fun j2 hj2 => ?_
  case refine_2 =>
    have hFd : Fr none_ w5 w5.drew := Fr.drew w5
    have hB2 := hB4.fr0 hFd
    have k4 := hFd.heap hx5 fun h => h
    have k5 := hFd.heap hw5 fun h => h
    simp only [drw_eq, push_cast, Nat.reduceAdd, Nat.reduceLeDiff, Nat.reduceLT, Int.reduceToNat, Nat.left_eq_add, Nat.add_eq_left, Nat.add_left_cancel_iff, Nat.reduceEqDiff, Nat.add_assoc, Nat.succ_ne_zero]
    generalize w5.drew = wd at *
    have hself : Fr none_ wd wd := Fr.refl _ _
    have hm := hS.f.1.2.1
    have fin : ∀ sl w', w'.heap[sl]? = some (cellsO (lookL fs'.r (vv, s.f.src)).1.cells 40) → Fr none_ wd w' → j2 (pt sl 0) (.bool (lookL fs'.r (vv, s.f.src)).2) w' := fun sl w' hs hF => hj2 _ _ _ ⟨sl, rfl, rfl, hs, hFd.trans hF⟩
    clear hk hj2 hj0
    repeat' first
      | with_reducible refine allW_intro ?_ ?_
      | with_reducible refine al_sta hB2 (by assumption) ?_
      | with_reducible refine kn_v k5 (by assumption) ?_
      | with_reducible refine kn_src k4 (by assumption) ?_
      | with_reducible refine se_alloc (w0 := wd) (by assumption) fun _ _ _ _ _ => ?_
      | with_reducible refine kn_look hB2 hvi hm (by assumption) fun _ _ _ => ?_
      | (with_reducible refine se_st1 (w0 := wd) (by assumption) (by assumption) (by first | assumption | exact Fr.refl _ _) (by assumption) fun _ _ _ _ => ?_; exact fin _ _ (by assumption) (by assumption))
  rintro a b w6 ⟨sl, rfl, rfl, hsl6, hF6⟩
  have hB6 := hB4.fr0 hF6
  have hx6 := hF6.heap hx5 fun h => h
  have hw6 := hF6.heap hw5 fun h => h
  have hF06 := hF05.trans hF6
  obtain ⟨hP1, hP2⟩ := hP
  have hlv6 := hlv5.fr hF6 fun _ _ h => h
  refine jn0 (fun w' => w' = w6 ∧ ¬ (1 ≤ cc ∧ cc ≤ 5)) ?_ fun j3 hj3 => ?_
  · rintro w' ⟨rfl, hc⟩
    obtain ⟨hN1, hK1⟩ := hP2 hc
    cases hat : atK fs'.r (vv, s.f.src) with
    | none =>
      have e2 : (lookL fs'.r (vv, s.f.src)).2 = false := by unfold lookL; rw [hat]
      have hl20 := hN1 hat
      simp only [push_cast, Nat.reduceAdd, Nat.reduceLeDiff, Nat.reduceLT, Int.reduceToNat, Nat.left_eq_add, Nat.add_eq_left, Nat.add_left_cancel_iff, Nat.reduceEqDiff, Nat.add_assoc, Nat.succ_ne_zero, e2, Bool.not_false, hl20]
      exact hk _ hF06
    | some e =>
      have e2 : lookL fs'.r (vv, s.f.src) = (e, true) := by unfold lookL; rw [hat]
      rw [e2] at hsl6
      simp only [push_cast, Nat.reduceAdd, Nat.reduceLeDiff, Nat.reduceLT, Int.reduceToNat, Nat.left_eq_add, Nat.add_eq_left, Nat.add_left_cancel_iff, Nat.reduceEqDiff, Nat.add_assoc, Nat.succ_ne_zero, e2, Bool.not_true, hsl6]
      rcases hK1 e hat with h1 | ⟨h1, h2⟩
      · rw [h1]
        simp only [push_cast, Nat.reduceAdd, Nat.reduceLeDiff, Nat.reduceLT, Int.reduceToNat, Nat.left_eq_add, Nat.add_eq_left, Nat.add_left_cancel_iff, Nat.reduceEqDiff, Nat.add_assoc, Nat.succ_ne_zero]
        exact hk _ hF06
      · refine br_intro (fun _ => hk _ hF06) fun _ => ?_
        simp only [push_cast, Nat.reduceAdd, Nat.reduceLeDiff, Nat.reduceLT, Int.reduceToNat, Nat.left_eq_add, Nat.add_eq_left, Nat.add_left_cancel_iff, Nat.reduceEqDiff, Nat.add_assoc, Nat.succ_ne_zero, hsl6, hx6, h1, h2, beq_self_eq_true]
        exact hk _ hF06
  · simp only [push_cast, Nat.reduceAdd, Nat.reduceLeDiff, Nat.reduceLT, Int.reduceToNat, Nat.left_eq_add, Nat.add_eq_left, Nat.add_left_cancel_iff, Nat.reduceEqDiff, Nat.add_assoc, Nat.succ_ne_zero, hw6]
    refine br_dec (fun h1 => ?_) fun h1 => hj3 _ ⟨rfl, fun e => h1 e.1⟩
    refine br_dec (fun h5 => ?_) fun h5 => hj3 _ ⟨rfl, fun e => h5 e.2⟩
    refine stations_spec hB6 ?_
    simp only [push_cast, Nat.reduceAdd, Nat.reduceLeDiff, Nat.reduceLT, Int.reduceToNat, Nat.left_eq_add, Nat.add_eq_left, Nat.add_left_cancel_iff, Nat.reduceEqDiff, Nat.add_assoc, Nat.succ_ne_zero]
    refine all_spec hB6.f fun w7 _ _ _ hv7 hF7 _ => ?_
    have hr := hP1 h1 h5
    rw [hr] at hv7 ⊢
    simp only [push_cast, Nat.reduceAdd, Nat.reduceLeDiff, Nat.reduceLT, Int.reduceToNat, Nat.left_eq_add, Nat.add_eq_left, Nat.add_left_cancel_iff, Nat.reduceEqDiff, Nat.add_assoc, Nat.succ_ne_zero]
    refine esame_yes hv7.rd (hlv6.fr hF7 fun _ _ h => h) hro (by omega) fun w8 hF8 => ?_
    exact hk _ ((hF06.trans hF7).trans hF8)

end Go.Gx.S
end

section
/- Frames that are relayed. -/
set_option linter.unusedVariables false
set_option linter.unusedSimpArgs false
set_option maxRecDepth 100000
namespace Go.Gx.S
open Go Go.Gx Go.Proofs
variable {K : Value → World → Prop} {w : World}

theorem s_slcLH {T E sz : Nat} {ag : Bool} [hT : SlT Tryz.prog T E] [hs : Sz Tryz.prog E sz ag] {v : Value} {es : List (List Value)} (h : RdE sz w v es) {l k : Nat} (hl : l ≤ k) (hk : k ≤ es.length) (hK : ∀ v', RdE sz w v' ((es.take k).drop l) → K v' w) : opS Tryz.prog (S.slc T v (some (.int .i64 l)) (some (.int .i64 k)) none) K w := by
  obtain ⟨a, c, rfl, hc⟩ := h.cap
  rw [opS_slice (run_boundsLH (lo := (l : Int)) (hi := (k : Int)) (by omega) (by omega) (by omega))]
  exact hK _ (h.part hl hk)

theorem relay_all (t : VT) (S : List Int) (v frm : Int) (f : Frm) (n : Nat) : relayL t S v frm 0 f n = sendN t S v frm f n S.length := by
  unfold relayL
  refine List.filter_eq_self.2 fun o _ => ?_
  exact decide_eq_true (.inl rfl)
theorem relay_one {t : VT} {S : List Int} {v frm target : Int} {f : Frm} {n i : Nat} (h0 : target ≠ 0) (hi : i < (relayL t S v frm 0 f n).length) (he : (relayL t S v frm 0 f n)[i].1 = target) : relayL t S v frm target f n = [(relayL t S v frm 0 f n)[i]] := by
  have hm := List.getElem_mem hi
  obtain ⟨k, _, hk, _⟩ := relayL_mem hm
  have hm2 : (relayL t S v frm 0 f n)[i] ∈ relayL t S v frm target f n := by
    generalize (relayL t S v frm 0 f n)[i] = o at *
    rw [relay_all] at hm
    exact List.mem_filter.2 ⟨hm, decide_eq_true (.inr he)⟩
  rcases one_target (t := t) (S := S) (v := v) (frm := frm) (f := f) (n := n) (x := target) (by omega) with h | ⟨o, h, _⟩
  · rw [h] at hm2; cases hm2
  · rw [h] at hm2
    rw [h, List.mem_singleton.1 hm2]
theorem relay_none {t : VT} {S : List Int} {v frm target : Int} {f : Frm} {n : Nat} (h0 : target ≠ 0) (h : ∀ o ∈ relayL t S v frm 0 f n, o.1 ≠ target) : relayL t S v frm target f n = [] := by
  refine List.filter_eq_nil_iff.2 fun o ho => ?_
  rw [relay_all] at h
  have := h o ho
  unfold tgt
  simp [h0, this]

def wantB (S : List Int) (frm : Int) (p : Int) : Bool := decide (p ≠ frm) && decide (stateL S p = 2)
theorem relay_want {t : VT} {S : List Int} {v frm : Int} {f : Frm} {n : Nat} (ht : t.ok) (h0 : S.getD 0 0 = 0) (hne : relayL t S v frm 0 f n ≠ []) : (relayL t S v frm 0 f n).map Prod.fst = (t.members v).filter (wantB S frm) := by
  obtain ⟨o, ho⟩ := List.exists_mem_of_ne_nil _ hne
  obtain ⟨_, _, _, _, _, h4, _, _⟩ := relayL_mem ho
  have hfr := (out_zero.1 h4).2.1
  have hmr : (t.members v).Pairwise fun a b => a < b := by
    unfold VT.members
    refine List.Pairwise.filter _ ?_
    rw [List.pairwise_map]
    exact List.pairwise_lt_range.imp fun h => by simpa using h
  refine eq_of_rising (r := fun a b : Int => a < b) (fun a => by omega) (fun a b h => by omega) ?_ (hmr.filter _) fun p => ?_
  · rw [List.pairwise_map]
    exact relayL_rise
  · rw [List.mem_map, List.mem_filter, mem_members]
    unfold wantB
    rw [Bool.and_eq_true, decide_eq_true_eq, decide_eq_true_eq]
    constructor
    · rintro ⟨x, hx, rfl⟩
      obtain ⟨i, hi, e, h1, h2, h3, _, _⟩ := relayL_mem hx
      obtain ⟨q1, _, q3⟩ := out_zero.1 h3
      rw [e]
      exact ⟨⟨q1.2.2, q3⟩, h1, state_two h0 h2 hi⟩
    · rintro ⟨⟨h1, h2⟩, h3, h4⟩
      have hr : t.right v p := by
        have h2' := h2
        unfold VT.is at h2'
        cases hg : getL t.tab (v, p) with
        | none => rw [hg] at h2'; cases h2'
        | some b => exact ht.key _ (lookup_some_mem hg)
      unfold stateL at h4
      split at h4
      · rename_i hb
        obtain ⟨b1, b2⟩ := hasB_iff.1 hb
        obtain ⟨i, rfl⟩ : ∃ i : Nat, p = i := ⟨p.toNat, by omega⟩
        rw [Int.toNat_natCast] at h4
        refine ⟨((i : Int), (t.out v i f n).1), ?_, rfl⟩
        rw [relay_all]
        have hoa : outAt t S v frm f n i = some ((i : Int), (t.out v i f n).1) := by
          unfold outAt
          rw [if_neg h3, if_neg (by rw [h4]; simp), if_pos (out_zero.2 ⟨hr, hfr, h2⟩)]
        have key : ∀ k, i < k → ((i : Int), (t.out v i f n).1) ∈ sendN t S v frm f n k := by
          intro k
          induction k with
          | zero => intro h; omega
          | succ k ih =>
            intro h
            unfold sendN
            rw [List.mem_append]
            by_cases e : i = k
            · subst e
              exact .inr (by rw [hoa]; simp)
            · exact .inl (ih (by omega))
        exact key _ (by omega)
      · cases h4

theorem relays_law {lv : Value} {s : WStp} {bs : List Int} {st : List (WStp × List Int)} (hl : RdE 23 w lv (st.map fun x => x.1.cells)) (hs : ∀ x ∈ st, StpR w.heap.size w x.1 x.2) (hst : StpR w.heap.size w s bs) (hk : ∀ w', Fr none_ w w' → K (.bool true) w') :
    CallsR Tryz.prog 8 #[lv, .agg s.cells.toArray] K w := by
  apply c8
  unfold p8
  refine pre_ok hl hs hst hk fun w1 bp xb N0 j0 hxb hxN hN hB hx hS hF hj0 => ?_
  obtain ⟨hG, hS5⟩ := madeF_good st
  generalize madeF st = fs at *
  obtain ⟨vp, vm, vnb, p, pb, o, c, sb, so, sc, ps, hB⟩ := hB
  have hto := hB.v.ok
  have hvi := hS.v
  simp only [push_cast, Nat.reduceAdd, Nat.reduceLeDiff, Nat.reduceLT, Int.reduceToNat, Nat.left_eq_add, Nat.add_eq_left, Nat.add_left_cancel_iff, Nat.reduceEqDiff, Nat.add_assoc, Nat.succ_ne_zero, hx]
  refine relay_spec hB hS.f fun xa w2 ha hna hF2 => ?_
  have hx2 := hF2.heap hx fun h => h
  simp only [push_cast, Nat.reduceAdd, Nat.reduceLeDiff, Nat.reduceLT, Int.reduceToNat, Nat.left_eq_add, Nat.add_eq_left, Nat.add_left_cancel_iff, Nat.reduceEqDiff, Nat.add_assoc, Nat.succ_ne_zero, hx2]
  refine relay_spec (hB.fr0 hF2) (hS.fr0 hF2).f fun xo w3 ho hno hF3 => ?_
  have hF13 := hF2.trans hF3
  replace hB := hB.fr0 hF13
  replace hS := hS.fr0 hF13
  replace hF := hF.trans hF13
  replace hx2 := hF3.heap hx2 fun h => h
  replace ha := ha.fr hF3 fun _ _ h => h
  have hal := relayL_len (t := fs.t) (S := fs.S) (v := s.v) (frm := s.port) (target := 0) (f := s.f) (n := bs.length)
  have hol := relayL_len (t := fs.t) (S := fs.S) (v := s.v) (frm := s.port) (target := s.n) (f := s.f) (n := bs.length)
  have hone := fun i => relay_one (t := fs.t) (S := fs.S) (v := s.v) (frm := s.port) (target := s.n) (f := s.f) (n := bs.length) (i := i)
  have hnon := relay_none (t := fs.t) (S := fs.S) (v := s.v) (frm := s.port) (target := s.n) (f := s.f) (n := bs.length)
  have hwant := relay_want (t := fs.t) (S := fs.S) (v := s.v) (frm := s.port) (f := s.f) (n := bs.length) hto hG.z
  have hfrm := fun target => relayL_frmR (t := fs.t) (S := fs.S) (v := s.v) (frm := s.port) (target := target) hS.f hvi
  have hfr1 := hfrm s.n
  generalize relayL fs.t fs.S s.v s.port 0 s.f bs.length = all at *
  generalize relayL fs.t fs.S s.v s.port s.n s.f bs.length = one at *
  obtain ⟨aa, ac, rfl⟩ := ha.form
  obtain ⟨oa, oc, rfl⟩ := ho.form
  rw [List.length_map] at ha ho hna hno
  simp only [List.length_map]
  refine jn1 (fun x w' => OwnE 3 1 w' x ((all.map Prod.fst).map cellI) ∧ Fr none_ w3 w' ∧ (s.n ≠ 0 → ∀ o ∈ all, o.1 ≠ s.n)) ?_ fun j1 hj1 => ?_
  · rintro x w4 ⟨hx4, hF4, hno4⟩
    have hB4 := hB.fr0 hF4
    have hx24 := hF4.heap hx2 fun h => h
    refine jn1 (fun y w' => RdE 1 w' y ((fs.t.members s.v).map cellI) ∧ Fr none_ w4 w') ?_ fun j2 hj2 => ?_
    case refine_2 =>
      have hd := Fr.drew (fp := none_) w4
      have hB6 := hB4.fr0 hd
      have hx6 := hd.heap hx24 fun h => h
      simp only [drw_eq, push_cast, Nat.reduceAdd, Nat.reduceLeDiff, Nat.reduceLT, Int.reduceToNat, Nat.left_eq_add, Nat.add_eq_left, Nat.add_left_cancel_iff, Nat.reduceEqDiff, Nat.add_assoc, Nat.succ_ne_zero]
      generalize w4.drew = W at *
      have last : CallsR Tryz.prog 30 #[pt vp 0, i64 s.v] (fun x30 => j2 x30) W := Vl.vmembers_spec hB6.v hvi fun w6 y hy hF6 _ => hj2 _ _ ⟨hy.rd, hd.trans hF6⟩
      refine allW_intro ?_ ?_
      · refine vlans_spec hB6 ?_
        simp only [push_cast, Nat.reduceAdd, Nat.reduceLeDiff, Nat.reduceLT, Int.reduceToNat, Nat.left_eq_add, Nat.add_eq_left, Nat.add_left_cancel_iff, Nat.reduceEqDiff, Nat.add_assoc, Nat.succ_ne_zero, hx6]
        exact last
      · simp only [push_cast, Nat.reduceAdd, Nat.reduceLeDiff, Nat.reduceLT, Int.reduceToNat, Nat.left_eq_add, Nat.add_eq_left, Nat.add_left_cancel_iff, Nat.reduceEqDiff, Nat.add_assoc, Nat.succ_ne_zero, hx6]
        refine vlans_spec hB6 ?_
        simp only [push_cast, Nat.reduceAdd, Nat.reduceLeDiff, Nat.reduceLT, Int.reduceToNat, Nat.left_eq_add, Nat.add_eq_left, Nat.add_left_cancel_iff, Nat.reduceEqDiff, Nat.add_assoc, Nat.succ_ne_zero]
        exact last
    rintro y w5 ⟨hmem, hF5⟩
    have hF45 := hF4.trans hF5
    obtain ⟨ma, mc, rfl⟩ := hmem.form
    rw [List.length_map] at hmem
    simp only [List.length_map]
    have hml : (fs.t.members s.v).length ≤ 64 := by
      have h1 := hto.len
      unfold VT.members
      refine Nat.le_trans (List.length_filter_le _ _) ?_
      simpa using h1
    refine jn1 (fun z w' => OwnE 3 1 w' z (((fs.t.members s.v).filter (wantB fs.S s.port)).map cellI) ∧ Fr none_ w5 w') ?_ fun j3 hj3 => ?_
    · rintro z w6 ⟨hz, hF6⟩
      have hF46 := hF45.trans hF6
      have hx26 := hF46.heap hx2 fun h => h
      simp only [push_cast, Nat.reduceAdd, Nat.reduceLeDiff, Nat.reduceLT, Int.reduceToNat, Nat.left_eq_add, Nat.add_eq_left, Nat.add_left_cancel_iff, Nat.reduceEqDiff, Nat.add_assoc, Nat.succ_ne_zero, hx26]
      refine br_intro (fun h0 => ?_) fun h0 => ?_
      · have h0 : s.n ≠ 0 := by simpa using h0
        rw [hnon h0 (hno4 h0)]
        exact hk _ (hF.trans hF46)
      · refine br_intro (fun h1 => hk _ (hF.trans hF46)) fun h1 => ?_
        have h1 : all ≠ [] := by simpa using h1
        refine Vl.sameints_spec ((hx4.rd.fr hF5 fun _ _ h => h).fr hF6 fun _ _ h => h) hz.rd (by rw [List.length_map]; omega) fun w7 hF7 => ?_
        rw [decide_eq_true (hwant h1)]
        exact hk _ ((hF.trans hF46).trans hF7)
    · refine loop2 (fun m z y w' => ∃ k : Nat, y = i64 k ∧ k + m = (fs.t.members s.v).length ∧ OwnE 3 1 w' z ((((fs.t.members s.v).take k).filter (wantB fs.S s.port)).map cellI) ∧ Fr none_ w5 w' ∧ New w5 z) ?_ (fs.t.members s.v).length ⟨0, rfl, by omega, own_nil _ _ _, Fr.refl _ _, fun b hb => by cases hb⟩
      rintro m z y w6 X ⟨k, rfl, hm, hz, hF6, hnz⟩ hX
      simp only [push_cast, Nat.reduceAdd, Nat.reduceLeDiff, Nat.reduceLT, Int.reduceToNat, Nat.left_eq_add, Nat.add_eq_left, Nat.add_left_cancel_iff, Nat.reduceEqDiff, Nat.add_assoc, Nat.succ_ne_zero]
      refine br_dec (fun hlt => ?_) fun hge => ?_
      case refine_2 =>
        obtain rfl : k = (fs.t.members s.v).length := by omega
        rw [List.take_length] at hz
        exact hj3 _ _ ⟨hz, hF6⟩
      have hkl : k < (fs.t.members s.v).length := by omega
      have hw : IntKind.i64.wrap ((k : Int) + 1) = ((k + 1 : Nat) : Int) := by rw [wrap_i64 (by omega)]; omega
      have htk : (fs.t.members s.v).take (k + 1) = (fs.t.members s.v).take k ++ [(fs.t.members s.v)[k]] := by
        rw [List.take_add_one, List.getElem?_eq_getElem hkl, Option.toList_some]
      have hF6d := hF6.step_drew
      have hmem6 := hmem.fr hF6d fun _ _ h => h
      have hz6 := hz.fr (Fr.drew (fp := none_) w6) fun _ _ h => h
      have hB6 := hB.fr0 (hF45.trans hF6d)
      have hx26 := (hF45.trans hF6d).heap hx2 fun h => h
      generalize w6.drew = W at *
      have skip : wantB fs.S s.port (fs.t.members s.v)[k] = false → X z (i64 (IntKind.i64.wrap ((k : Int) + 1))) W := fun hq => by
        rw [hw]
        refine hX (m - 1) _ _ _ (by omega) ⟨k + 1, rfl, by omega, ?_, hF6d, hnz⟩
        rw [htk, List.filter_append, List.filter_cons, if_neg (by rw [hq]; simp)]
        simpa using hz6
      refine int_at hmem6 hkl ?_
      simp only [push_cast, Nat.reduceAdd, Nat.reduceLeDiff, Nat.reduceLT, Int.reduceToNat, Nat.left_eq_add, Nat.add_eq_left, Nat.add_left_cancel_iff, Nat.reduceEqDiff, Nat.add_assoc, Nat.succ_ne_zero, hx26]
      refine br_intro (fun h1 => ?_) fun h1 => ?_
      · have h1 : (fs.t.members s.v)[k] ≠ s.port := by simpa using h1
        refine int_at hmem6 hkl ?_
        simp only [push_cast, Nat.reduceAdd, Nat.reduceLeDiff, Nat.reduceLT, Int.reduceToNat, Nat.left_eq_add, Nat.add_eq_left, Nat.add_left_cancel_iff, Nat.reduceEqDiff, Nat.add_assoc, Nat.succ_ne_zero]
        refine state_spec hB6 ?_
        simp only [push_cast, Nat.reduceAdd, Nat.reduceLeDiff, Nat.reduceLT, Int.reduceToNat, Nat.left_eq_add, Nat.add_eq_left, Nat.add_left_cancel_iff, Nat.reduceEqDiff, Nat.add_assoc, Nat.succ_ne_zero]
        refine br_intro (fun h2 => ?_) fun h2 => ?_
        · have h2 : stateL fs.S (fs.t.members s.v)[k] = 2 := by simpa using h2
          refine int_at hmem6 hkl ?_
          have hq : wantB fs.S s.port (fs.t.members s.v)[k] = true := by
            unfold wantB
            rw [decide_eq_true h1, decide_eq_true h2]
            rfl
          have hfl := List.length_filter_le (wantB fs.S s.port) ((fs.t.members s.v).take k)
          rw [List.length_take] at hfl
          refine s_app1 (by rfl) (by rfl) (by decide) hz6 (by rw [List.length_map]; omega) fun z' w7 hz' hb hF7 => ?_
          simp only [push_cast, Nat.reduceAdd, Nat.reduceLeDiff, Nat.reduceLT, Int.reduceToNat, Nat.left_eq_add, Nat.add_eq_left, Nat.add_left_cancel_iff, Nat.reduceEqDiff, Nat.add_assoc, Nat.succ_ne_zero]
          rw [hw]
          refine hX (m - 1) _ _ _ (by omega) ⟨k + 1, rfl, by omega, ?_, hF6d.trans_new hF7 (fun b hb h => by have := hnz b h; omega), fun b hb' => ?_⟩
          · rw [htk, List.filter_append, List.filter_cons, if_pos hq, List.map_append]
            exact hz'
          · rcases hb with hb | hb
            · exact hnz b (hb ▸ hb')
            · exact Nat.le_trans hF6d.size (hb b hb')
        · have h2 : ¬ stateL fs.S (fs.t.members s.v)[k] = 2 := by simpa using h2
          refine skip ?_
          unfold wantB
          rw [decide_eq_false h2, Bool.and_false]
      · have h1 : ¬ (fs.t.members s.v)[k] ≠ s.port := by simpa using h1
        refine skip ?_
        unfold wantB
        rw [decide_eq_false h1, Bool.false_and]
  · refine loop2 (fun m x y w' => ∃ i : Nat, y = i64 i ∧ i + m = all.length ∧ OwnE 3 1 w' x (((all.take i).map Prod.fst).map cellI) ∧ Fr none_ w3 w' ∧ New w3 x ∧ (s.n ≠ 0 → ∀ o ∈ all.take i, o.1 ≠ s.n)) ?_ all.length ⟨0, rfl, by omega, own_nil _ _ _, Fr.refl _ _, (fun b hb => by cases hb), fun _ o ho => by simp at ho⟩
    rintro m x y w4 X ⟨i, rfl, hm, hx4, hF4, hnx, hno4⟩ hX
    simp only [push_cast, Nat.reduceAdd, Nat.reduceLeDiff, Nat.reduceLT, Int.reduceToNat, Nat.left_eq_add, Nat.add_eq_left, Nat.add_left_cancel_iff, Nat.reduceEqDiff, Nat.add_assoc, Nat.succ_ne_zero]
    refine br_dec (fun hlt => ?_) fun hge => ?_
    case refine_2 =>
      obtain rfl : i = all.length := by omega
      rw [List.take_length] at hx4 hno4
      exact hj1 _ _ ⟨hx4, hF4, hno4⟩
    have hil : i < all.length := by omega
    have hw : IntKind.i64.wrap ((i : Int) + 1) = ((i + 1 : Nat) : Int) := by rw [wrap_i64 (by omega)]; omega
    have htk : all.take (i + 1) = all.take i ++ [all[i]] := by
      rw [List.take_add_one, List.getElem?_eq_getElem hil, Option.toList_some]
    refine out_port (ha.fr hF4 fun _ _ h => h) hil ?_
    refine s_app1 (by rfl) (by rfl) (by decide) hx4 (by simp only [List.length_map, List.length_take]; omega) fun x' w5 hx' hb hF5 => ?_
    have hF35 : Fr none_ w3 w5 := hF4.trans_new hF5 fun b hb h => by have := hnx b h; omega
    have hF35d := hF35.step_drew
    have hx'd := hx'.fr (Fr.drew (fp := none_) w5) fun _ _ h => h
    have hx25 := hF35d.heap hx2 fun h => h
    have had := ha.fr hF35d fun _ _ h => h
    have hod := ho.fr hF35d fun _ _ h => h
    have hNx' : New w3 x' := fun b hb' => by
      rcases hb with hb | hb
      · exact hnx b (hb ▸ hb')
      · exact Nat.le_trans hF4.size (hb b hb')
    have hown : OwnE 3 1 w5.drew x' (((all.take (i + 1)).map Prod.fst).map cellI) := by
      rw [htk, List.map_append, List.map_append]
      exact hx'd
    simp only [drw_eq]
    generalize w5.drew = W at *
    have next : (s.n ≠ 0 → all[i].1 ≠ s.n) → X x' (i64 (IntKind.i64.wrap ((i : Int) + 1))) W := fun hne => by
      rw [hw]
      refine hX (m - 1) _ _ _ (by omega) ⟨i + 1, rfl, by omega, hown, hF35d, hNx', fun h0 o ho => ?_⟩
      rw [htk] at ho
      rcases List.mem_append.1 ho with h | h
      · exact hno4 h0 o h
      · rw [List.mem_singleton.1 h]
        exact hne h0
    simp only [push_cast, Nat.reduceAdd, Nat.reduceLeDiff, Nat.reduceLT, Int.reduceToNat, Nat.left_eq_add, Nat.add_eq_left, Nat.add_left_cancel_iff, Nat.reduceEqDiff, Nat.add_assoc, Nat.succ_ne_zero, hx25]
    refine br_intro (fun h0 => ?_) fun h0 => next fun e => absurd (by simpa using h0) e
    have h0 : s.n ≠ 0 := by simpa using h0
    refine out_port had hil ?_
    simp only [push_cast, Nat.reduceAdd, Nat.reduceLeDiff, Nat.reduceLT, Int.reduceToNat, Nat.left_eq_add, Nat.add_eq_left, Nat.add_left_cancel_iff, Nat.reduceEqDiff, Nat.add_assoc, Nat.succ_ne_zero, hx25]
    refine br_intro (fun h1 => ?_) fun h1 => next fun _ => by simpa using h1
    have h1 : all[i].1 = s.n := by simpa using h1
    have ho1 := hone i h0 hil h1
    have hol1 : one.length = 1 := by rw [ho1]; rfl
    simp only [push_cast, Nat.reduceAdd, Nat.reduceLeDiff, Nat.reduceLT, Int.reduceToNat, Nat.left_eq_add, Nat.add_eq_left, Nat.add_left_cancel_iff, Nat.reduceEqDiff, Nat.add_assoc, Nat.succ_ne_zero, hol1]
    refine br_intro (fun _ => ?_) fun e => absurd e (by decide)
    rw [hw]
    rw [hol1] at hod
    refine s_slcLH (l := i) (k := i + 1) had (by omega) (by rw [List.length_map]; omega) fun v' hv' => ?_
    simp only [push_cast, Nat.reduceAdd, Nat.reduceLeDiff, Nat.reduceLT, Int.reduceToNat, Nat.left_eq_add, Nat.add_eq_left, Nat.add_left_cancel_iff, Nat.reduceEqDiff, Nat.add_assoc, Nat.succ_ne_zero]
    have hpart : ((all.map outC).take (i + 1)).drop i = one.map outC := by
      rw [← List.map_take, ← List.map_drop, htk, List.drop_left' (by rw [List.length_take]; omega), ho1]
    rw [hpart] at hv'
    refine sameouts_yes hod hv' (fun o ho => (hfr1 o ho).imp fun cs h => h.fr0 hF35d) (by omega) fun w6 hF6 => ?_
    exact hk _ ((hF.trans hF35d).trans hF6)

end Go.Gx.S
end

section
/- Ports that are shut; two bridges alike. -/
set_option linter.unusedVariables false
set_option linter.unusedSimpArgs false
set_option maxRecDepth 100000
namespace Go.Gx.S
open Go Go.Gx Go.Proofs
variable {K : Value → World → Prop} {w : World}

theorem shut_plain {room : Nat} {fs : FS} {port : Int} {f : Frm} {n : Nat} {now : Int} {st : Int} {A : FS × Int × Int × Int × List (Int × Frm)} (hA : takeA room fs port f n now = A) (hst : st = 0 ∨ st = 1) (hS : fs.S.getD port.toNat 0 = st) :
    A.2.1 ≠ 0 ∧ A.2.2.2.2 = [] ∧ (st = 0 → A.2.1 = 1 ∨ A.2.1 = 2 ∨ A.2.1 = 3) := by
  subst hA
  by_cases h : (refusedL fs port f n now).1 = 0
  · rw [takeA_ok h]
    have hne : fs.S.getD port.toNat 0 ≠ 0 := fun e => by
      unfold refusedL at h
      split at h
      · cases h
      · split at h
        · cases h
        · cases h
    have h1 : fs.S.getD port.toNat 0 = 1 := by
      rcases hst with rfl | rfl
      · exact absurd hS hne
      · exact hS
    have hs : sentL (learnF room fs (fs.t.inn port f n).1 f.src port now) (fs.t.inn port f n).1 port f n = (6, 0, []) := by
      unfold sentL
      rw [if_pos (show (learnF room fs (fs.t.inn port f n).1 f.src port now).S.getD port.toNat 0 = 1 from h1)]
    rw [hs]
    exact ⟨(by decide : (6 : Int) ≠ 0), rfl, fun e => by rw [e] at hS; rw [hS] at hne; exact absurd rfl hne⟩
  · rw [takeA_ref h]
    refine ⟨h, rfl, fun e => ?_⟩
    have hr := refusedL_range fs port f n now
    subst e
    show (refusedL fs port f n now).1 = 1 ∨ (refusedL fs port f n now).1 = 2 ∨ (refusedL fs port f n now).1 = 3
    unfold refusedL
    split
    · exact .inl rfl
    · split
      · exact .inr (.inl rfl)
      · exact .inr (.inr rfl)

theorem shut_law {lv : Value} {s : WStp} {bs : List Int} {stt : Int} {st : List (WStp × List Int)} (hl : RdE 23 w lv (st.map fun x => x.1.cells)) (hs : ∀ x ∈ st, StpR w.heap.size w x.1 x.2) (hst : StpR w.heap.size w s bs) (hk : ∀ w', Fr none_ w w' → K (.bool true) w') :
    CallsR Tryz.prog 6 #[lv, .agg s.cells.toArray, i64 stt] K w := by
  apply c6
  unfold p6
  refine pre_ok hl hs hst hk fun w1 bp xb N0 j0 hxb hxN hN hB hx hS hF hj0 => ?_
  obtain ⟨hG, hS5⟩ := madeF_good st
  generalize madeF st = fs at *
  obtain ⟨vp, vm, vnb, p, pb, o, c, sb, so, sc, ps, hB⟩ := hB
  have hge := lfp_ge hB
  have hgB := hB.ge
  simp only [push_cast, Nat.reduceAdd, Nat.reduceLeDiff, Nat.reduceLT, Int.reduceToNat, Nat.left_eq_add, Nat.add_eq_left, Nat.add_left_cancel_iff, Nat.reduceEqDiff, Nat.add_assoc, Nat.succ_ne_zero, hx]
  refine br_dec (fun _ => hj0 _ hF) fun h1 => ?_
  refine br_dec (fun _ => hj0 _ hF) fun h4 => ?_
  refine br_dec (fun _ => hj0 _ hF) fun s0 => ?_
  refine br_dec (fun _ => hj0 _ hF) fun s1 => ?_
  have hst01 : stt = 0 ∨ stt = 1 := by omega
  refine set_spec hB fun w2 hB2 hF2 => ?_
  have hset : setL' fs.S s.port stt = (fs.S.set s.port.toNat stt, 0) := by
    unfold setL'
    rw [hasB_iff.2 ⟨by omega, by omega⟩, decide_eq_true (by omega), decide_eq_true (by omega)]
    rfl
  rw [hset] at hB2 ⊢
  have hSp : (fs.S.set s.port.toNat stt).getD s.port.toNat 0 = stt := by
    rw [List.getD_eq_getElem?_getD, List.getElem?_set_self (by omega)]
    rfl
  have hSl : (fs.S.set s.port.toNat stt).length = 5 := by rw [List.length_set, hS5]
  generalize hfs1 : ({ fs with S := fs.S.set s.port.toNat stt } : FS) = fs1 at hB2
  have hS1 : fs1.S = fs.S.set s.port.toNat stt := by rw [← hfs1]
  rw [← hS1] at hSp hSl
  clear hfs1 hset
  have hx2 := hF2.heap hx (by omega)
  have hF2N : Fr (fun b => N0 ≤ b) w1 w2 := hF2.mono fun b _ e => by omega
  have hS2 := hS.fr hF2N
  have hF02 : Fr none_ w w2 := hF.trans_new hF2 fun b hb e => by omega
  simp only [push_cast, Nat.reduceAdd, Nat.reduceLeDiff, Nat.reduceLT, Int.reduceToNat, Nat.left_eq_add, Nat.add_eq_left, Nat.add_left_cancel_iff, Nat.reduceEqDiff, Nat.add_assoc, Nat.succ_ne_zero, hx2]
  have hP : ∀ {A}, takeA 20 fs1 s.port s.f bs.length s.now = A → _ := fun h => shut_plain h hst01 hSp
  have hTS := takeA_S 20 fs1 s.port s.f bs.length s.now
  refine btake_spec hB2.v.ok hB2 hS2.f hS2.lo hS2.port hS2.now fun x w4 ps4 hB4 hx4 hn4 hF4 => ?_
  generalize takeA 20 fs1 s.port s.f bs.length s.now = A at *
  obtain ⟨p1, p2, p3⟩ := hP rfl
  obtain ⟨fs', cc, vv, tt, outs⟩ := A
  have p2 : outs = [] := p2
  subst p2
  obtain ⟨xa, xc, rfl⟩ := hx4.form
  refine way_slotG fun _ w5 hw5 hF5 => ?_
  have hF45 : Fr (lfp bp p pb) w2 w5 := hF4.trans (hF5.mono fun _ _ e => e.elim)
  replace hB4 := hB4.fr0 hF5
  have hx5 := hF45.heap hx2 fun e => by have := hge _ e; omega
  have hS5' := hS2.fr (hF45.mono fun b _ e => hge b e)
  have hF05 : Fr none_ w w5 := hF02.trans_new hF45 fun b hb e => by have := hge _ e; omega
  have hlw5 := lt_of_heap hw5
  have hlB := hB2.lt
  have hs24 := hF4.size
  generalize hws : w4.heap.size = ws at *
  have hS4 : fs'.S = fs1.S := hTS.1
  rw [List.length_map, List.length_nil] at hw5
  -- the end
  refine jn0 (fun w' => w' = w5) (fun w' e => ?_) fun j1 hj1 => ?_
  case refine_2 =>
    simp only [push_cast, Nat.reduceAdd, Nat.reduceLeDiff, Nat.reduceLT, Int.reduceToNat, Nat.left_eq_add, Nat.add_eq_left, Nat.add_left_cancel_iff, Nat.reduceEqDiff, Nat.add_assoc, Nat.succ_ne_zero, bne_self_eq_false, hw5]
    refine br_dec (fun e => absurd e (by decide)) fun _ => ?_
    have p1' : (cc == 0) = false := by simpa using p1
    refine br_intro (fun e0 => ?_) fun e0 => ?_
    · have e0 : stt = 0 := by simpa using e0
      have hc := p3 e0
      simp only at hc
      simp only [push_cast, Nat.reduceAdd, Nat.reduceLeDiff, Nat.reduceLT, Int.reduceToNat, Nat.left_eq_add, Nat.add_eq_left, Nat.add_left_cancel_iff, Nat.reduceEqDiff, Nat.add_assoc, Nat.succ_ne_zero, hw5, p1']
      refine br_intro (fun e1 => ?_) fun _ => hj1 _ rfl
      refine br_intro (fun e2 => ?_) fun _ => hj1 _ rfl
      refine br_intro (fun e3 => ?_) fun _ => hj1 _ rfl
      have e1 : cc ≠ 1 := by simpa using e1
      have e2 : cc ≠ 2 := by simpa using e2
      have e3 : cc ≠ 3 := by simpa using e3
      omega
    · simp only [push_cast, Nat.reduceAdd, Nat.reduceLeDiff, Nat.reduceLT, Int.reduceToNat, Nat.left_eq_add, Nat.add_eq_left, Nat.add_left_cancel_iff, Nat.reduceEqDiff, Nat.add_assoc, Nat.succ_ne_zero, hw5, p1']
      exact hj1 _ rfl
  subst e
  have hnone : ∀ {w'}, Fr (fun b => N0 ≤ b) w1 w' → Fr none_ w w' := fun hF' => hF.trans_new hF' fun b hb e => by omega
  have hF15 : Fr (fun b => N0 ≤ b) w1 w' := hF2N.trans (hF45.mono fun b _ e => hge b e)
  refine jn0 (fun w6 => ∃ (fsk : FS) (psk : List Ent), BR N0 w6 bp vp vm vnb p pb o c sb so sc 20 psk fsk ∧ fsk.S = fs1.S ∧ Fr (fun b => N0 ≤ b) w1 w6) ?_ fun j2 hj2 => ?_
  · rintro w6 ⟨fsk, psk, hB6, hSk, hF6⟩
    have hx6 := hF6.heap hx (by omega)
    simp only [push_cast, Nat.reduceAdd, Nat.reduceLeDiff, Nat.reduceLT, Int.reduceToNat, Nat.left_eq_add, Nat.add_eq_left, Nat.add_left_cancel_iff, Nat.reduceEqDiff, Nat.add_assoc, Nat.succ_ne_zero, hx6]
    refine state_spec hB6 ?_
    have : stateL fsk.S s.port = stt := by
      unfold stateL
      rw [hSk, if_pos (hasB_iff.2 ⟨by omega, by omega⟩), hSp]
    rw [this]
    simp only [push_cast, Nat.reduceAdd, Nat.reduceLeDiff, Nat.reduceLT, Int.reduceToNat, Nat.left_eq_add, Nat.add_eq_left, Nat.add_left_cancel_iff, Nat.reduceEqDiff, Nat.add_assoc, Nat.succ_ne_zero, beq_self_eq_true]
    exact hk _ (hnone hF6)
  refine loop1 (fun m x w6 => ∃ (i : Nat) (fsk : FS) (psk : List Ent), x = i64 ((i : Int) + 1) ∧ i + m = 4 ∧ BR N0 w6 bp vp vm vnb p pb o c sb so sc 20 psk fsk ∧ fsk.S = fs1.S ∧ Fr (fun b => N0 ≤ b) w1 w6) ?_ 4 ⟨0, fs', ps4, rfl, rfl, hB4, hS4, hF15⟩
  rintro m x w6 X ⟨i, fsk, psk, rfl, hm, hB6, hSk, hF6⟩ hX
  have hx6 := hF6.heap hx (by omega)
  simp only [push_cast, Nat.reduceAdd, Nat.reduceLeDiff, Nat.reduceLT, Int.reduceToNat, Nat.left_eq_add, Nat.add_eq_left, Nat.add_left_cancel_iff, Nat.reduceEqDiff, Nat.add_assoc, Nat.succ_ne_zero]
  refine br_dec (fun hlt => ?_) fun hgt => hj2 _ ⟨fsk, psk, hB6, hSk, hF6⟩
  refine jn0 (fun w7 => ∃ (fsk : FS) (psk : List Ent), BR N0 w7 bp vp vm vnb p pb o c sb so sc 20 psk fsk ∧ fsk.S = fs1.S ∧ Fr (fun b => N0 ≤ b) w1 w7) ?_ fun j3 hj3 => ?_
  · rintro w7 ⟨fsk, psk, hB7, hSk, hF7⟩
    simp only [push_cast, Nat.reduceAdd, Nat.reduceLeDiff, Nat.reduceLT, Int.reduceToNat, Nat.left_eq_add, Nat.add_eq_left, Nat.add_left_cancel_iff, Nat.reduceEqDiff, Nat.add_assoc, Nat.succ_ne_zero]
    rw [wrap_i64 (by omega)]
    exact hX (m - 1) _ _ (by omega) ⟨i + 1, fsk, psk, by simp, by omega, hB7, hSk, hF7⟩
  simp only [push_cast, Nat.reduceAdd, Nat.reduceLeDiff, Nat.reduceLT, Int.reduceToNat, Nat.left_eq_add, Nat.add_eq_left, Nat.add_left_cancel_iff, Nat.reduceEqDiff, Nat.add_assoc, Nat.succ_ne_zero, hx6]
  refine br_intro (fun _ => hj3 _ ⟨fsk, psk, hB6, hSk, hF6⟩) fun hne => ?_
  have hS6 := hS.fr hF6
  have hsent := takeA_sent 20 fsk ((i : Int) + 1) s.f bs.length s.now
  have hTS6 := takeA_S 20 fsk ((i : Int) + 1) s.f bs.length s.now
  have hln := takeA_len (room := 20) (fs := fsk) (port := (i : Int) + 1) (now := s.now) (f := s.f) (n := bs.length)
  have hsl := hB6.sl
  refine btake_spec hB6.v.ok hB6 hS6.f hS6.lo (isI_iff.2 (by omega)) hS6.now fun y w7 ps7 hB7 hy7 hn7 hF7 => ?_
  generalize takeA 20 fsk ((i : Int) + 1) s.f bs.length s.now = C at *
  obtain ⟨fsm, c2, v2, t2, outs⟩ := C
  obtain ⟨ya, yc, rfl⟩ := hy7.form
  rw [List.length_map] at hy7 hn7
  simp only [List.length_map]
  have hports : ∀ o ∈ outs, o.1 ≠ s.port := fun o ho e => by
    rcases hsent.2 with h | ⟨tq, h⟩
    · simp only at h
      rw [h] at ho; cases ho
    · simp only at h
      rw [h] at ho
      obtain ⟨k, _, e1, _, e2, _⟩ := relayL_mem ho
      rw [hSk] at e2
      have : s.port.toNat = k := by omega
      rw [this, e2] at hSp
      omega
  refine way_slotG fun _ w8 hw8 hF8 => ?_
  have hF78 : Fr (lfp bp p pb) w6 w8 := hF7.trans (hF8.mono fun _ _ e => e.elim)
  have hF18 : Fr (fun b => N0 ≤ b) w1 w8 := hF6.trans (hF78.mono fun b _ e => hge b e)
  have hB8 := hB7.fr0 hF8
  have hy8 := hy7.fr hF8 fun _ _ h => h
  have hx8 := hF18.heap hx (by omega)
  generalize w7.heap.size = wt at *
  refine jn0 (fun w9 => Fr none_ w8 w9) (fun w9 hF9 => hj3 _ ⟨fsm, ps7, hB8.fr0 hF9, hTS6.1.trans hSk, hF18.trans (hF9.mono fun _ _ e => e.elim)⟩) fun j4 hj4 => ?_
  refine loop1 (fun m z w9 => ∃ k : Nat, z = i64 k ∧ k + m = outs.length ∧ Fr none_ w8 w9) ?_ outs.length ⟨0, rfl, by omega, Fr.refl _ _⟩
  rintro m2 z w9 Y ⟨k, rfl, hm2, hF9⟩ hY
  have hw9 := hF9.heap hw8 fun h => h
  simp only [push_cast, Nat.reduceAdd, Nat.reduceLeDiff, Nat.reduceLT, Int.reduceToNat, Nat.left_eq_add, Nat.add_eq_left, Nat.add_left_cancel_iff, Nat.reduceEqDiff, Nat.add_assoc, Nat.succ_ne_zero, hw9]
  refine br_dec (fun hlt2 => ?_) fun hge2 => hj4 _ hF9
  have hkl : k < outs.length := by omega
  have hF9d := hF9.step_drew
  have hw9d := hF9d.heap hw8 fun h => h
  have hx9d := hF9d.heap hx8 fun h => h
  have hy9d := hy8.fr hF9d fun _ _ h => h
  generalize w9.drew = W at *
  refine out_port hy9d hkl ?_
  have hne2 := hports _ (List.getElem_mem hkl)
  have e9 : (outs[k].1 == s.port) = false := by simpa using hne2
  simp only [push_cast, Nat.reduceAdd, Nat.reduceLeDiff, Nat.reduceLT, Int.reduceToNat, Nat.left_eq_add, Nat.add_eq_left, Nat.add_left_cancel_iff, Nat.reduceEqDiff, Nat.add_assoc, Nat.succ_ne_zero, hx9d, e9]
  have hol : outs.length ≤ 64 := Nat.le_trans hln hsl
  have hw : IntKind.i64.wrap ((k : Int) + 1) = ((k + 1 : Nat) : Int) := by rw [wrap_i64 (by omega)]; omega
  rw [hw]
  exact hY (m2 - 1) _ _ (by omega) ⟨k + 1, rfl, by omega, hF9d⟩

theorem again_law {lv : Value} {s : WStp} {bs : List Int} {st : List (WStp × List Int)} (hl : RdE 23 w lv (st.map fun x => x.1.cells)) (hs : ∀ x ∈ st, StpR w.heap.size w x.1 x.2) (hst : StpR w.heap.size w s bs) (hk : ∀ w', Fr none_ w w' → K (.bool true) w') :
    CallsR Tryz.prog 5 #[lv, .agg s.cells.toArray] K w := by
  apply c5
  unfold p5
  have hF1 : Fr none_ w (w.alloc (cellsO s.cells 29)) := (by repeat' first | with_reducible exact Fr.refl _ _ | with_reducible refine Fr.step_alloc ?_ ?_ | with_reducible refine Fr.step_drew ?_ | with_reducible refine Fr.step_wr ?_ ?_ _ _ | exact rfl | exact Or.inr (by omega) | exact Or.inl rfl | exact Or.inl (Or.inl rfl) | exact Or.inl (Or.inr rfl))
  have h0 : (w.alloc (cellsO s.cells 29)).heap[w.heap.size]? = some (cellsO s.cells 29) := by simp only [push_cast, Nat.reduceAdd, Nat.reduceLeDiff, Nat.reduceLT, Int.reduceToNat, Nat.left_eq_add, Nat.add_eq_left, Nat.add_left_cancel_iff, Nat.reduceEqDiff, Nat.add_assoc, Nat.succ_ne_zero]
  simp only [opS_box, cells_agg, alloc_cellsO]
  generalize w.alloc (cellsO s.cells 29) = w1 at *
  simp only [push_cast, Nat.reduceAdd, Nat.reduceLeDiff, Nat.reduceLT, Int.reduceToNat, Nat.left_eq_add, Nat.add_eq_left, Nat.add_left_cancel_iff, Nat.reduceEqDiff, Nat.add_assoc, Nat.succ_ne_zero]
  refine awake_spec fun w2 hF2 => ?_
  simp only [push_cast, Nat.reduceAdd, Nat.reduceLeDiff, Nat.reduceLT, Int.reduceToNat, Nat.left_eq_add, Nat.add_eq_left, Nat.add_left_cancel_iff, Nat.reduceEqDiff, Nat.add_assoc, Nat.succ_ne_zero]
  have hs2 : ∀ x ∈ st, StpR w.heap.size w2 x.1 x.2 := fun x hx => ((hs x hx).fr0 hF1).fr0 hF2
  have hl2 := (hl.fr hF1 fun _ _ h => h).fr hF2 fun _ _ h => h
  refine few_spec hl2 hs2 fun fw => ?_
  replace h0 := hF2.heap h0 fun h => h
  have hF02 := hF1.trans hF2
  have hx2 := lt_of_heap h0
  obtain ⟨hG, hS5⟩ := madeF_good st
  simp only [push_cast, Nat.reduceAdd, Nat.reduceLeDiff, Nat.reduceLT, Int.reduceToNat, Nat.left_eq_add, Nat.add_eq_left, Nat.add_left_cancel_iff, Nat.reduceEqDiff, Nat.add_assoc, Nat.succ_ne_zero]
  refine made_spec hl2 (fun x hx => (hs2 x hx).mono hF02.size) fun w3 bp hB hF3 => ?_
  simp only [push_cast, Nat.reduceAdd, Nat.reduceLeDiff, Nat.reduceLT, Int.reduceToNat, Nat.left_eq_add, Nat.add_eq_left, Nat.add_left_cancel_iff, Nat.reduceEqDiff, Nat.add_assoc, Nat.succ_ne_zero]
  have hl3 := hl2.fr hF3 fun _ _ h => h
  have hs23 := hF3.size
  refine made_spec hl3 (fun x hx => ((hs2 x hx).fr0 hF3).mono (by have := hF02.size; omega)) fun w4 bq hC hF4 => ?_
  generalize madeF st = fs at *
  obtain ⟨vp, vm, vnb, p, pb, o, c, sb, so, sc, ps, hB⟩ := hB
  obtain ⟨vp', vm', vnb', p', pb', o', c', sb', so', sc', ps', hC⟩ := hC
  have hlt := hB.lt
  have hgB := hB.ge
  have hgC := hC.ge
  replace hB := hB.fr0 hF4
  have hF24 := hF3.trans hF4
  have hF04 := hF02.trans hF24
  replace h0 := hF24.heap h0 fun h => h
  have hS := (((hst.fr0 hF1).fr0 hF2).fr0 hF24).mono hF02.size
  have hS' : StpR w3.heap.size w4 s bs := hS.mono hs23
  obtain ⟨ba, bc, hb⟩ := hst.f.2.form
  have hs34 := hF4.size
  generalize hxb : w.heap.size = xb at *
  simp only [push_cast, Nat.reduceAdd, Nat.reduceLeDiff, Nat.reduceLT, Int.reduceToNat, Nat.left_eq_add, Nat.add_eq_left, Nat.add_left_cancel_iff, Nat.reduceEqDiff, Nat.add_assoc, Nat.succ_ne_zero]
  refine jn0 (fun w' => Fr none_ w w') (fun w' hF => ?_) fun j hj => ?_
  · rw [jn_1]
    simp only [push_cast, Nat.reduceAdd, Nat.reduceLeDiff, Nat.reduceLT, Int.reduceToNat, Nat.left_eq_add, Nat.add_eq_left, Nat.add_left_cancel_iff, Nat.reduceEqDiff, Nat.add_assoc, Nat.succ_ne_zero]
    exact hk _ hF
  simp only [push_cast, Nat.reduceAdd, Nat.reduceLeDiff, Nat.reduceLT, Int.reduceToNat, Nat.left_eq_add, Nat.add_eq_left, Nat.add_left_cancel_iff, Nat.reduceEqDiff, Nat.add_assoc, Nat.succ_ne_zero, Bool.not_true]
  refine br_intro (fun _ => hj _ hF04) fun _ => ?_
  simp only [push_cast, Nat.reduceAdd, Nat.reduceLeDiff, Nat.reduceLT, Int.reduceToNat, Nat.left_eq_add, Nat.add_eq_left, Nat.add_left_cancel_iff, Nat.reduceEqDiff, Nat.add_assoc, Nat.succ_ne_zero, h0, hb]
  refine br_dec (fun _ => hj _ hF04) fun _ => ?_
  have hln := takeA_len (room := 20) (fs := fs) (port := s.port) (now := s.now) (f := s.f) (n := bs.length)
  have hsl := hB.sl
  have hto := hB.v.ok
  have hoN := takeA_okN (room := 20) (port := s.port) (f := s.f) (n := bs.length) (now := s.now) hG.n
  have hfrm := fun (w : World) (h : FrmR w s.f bs) => takeA_frmR (room := 20) (port := s.port) (now := s.now) hto h
  refine btake_spec hto hB hS.f hS.lo hS.port hS.now fun x w5 ps5 hB5 hx5 hn5 hF5 => ?_
  have hfp : ∀ b, lfp bp p pb b → w2.heap.size ≤ b ∧ b < w3.heap.size := fun b e => by unfold lfp at e; omega
  have hfq : ∀ b, lfp bq p' pb' b → w3.heap.size ≤ b := fun b e => by unfold lfp at e; omega
  have hltC := hC.lt
  have hC5 := hC.fr hF5 fun b hb e => by have := hfp b e; omega
  have h05 := hF5.heap h0 fun e => by have := hfp _ e; omega
  have hF5g : Fr (fun b => w2.heap.size ≤ b) w4 w5 := hF5.mono fun b _ e => (hfp b e).1
  have hS5' := (hS.fr hF5g).mono hs23
  generalize hA : takeA 20 fs s.port s.f bs.length s.now = A at *
  obtain ⟨fs', cc, vv, tt, outs⟩ := A
  obtain ⟨xa, xc, rfl⟩ := hx5.form
  rw [List.length_map] at hx5 hn5
  simp only [List.length_map] at *
  refine way_slotG fun _ w6 hw6 hF6 => ?_
  have hB6 := hB5.fr0 hF6
  have hC6 := hC5.fr0 hF6
  have hx6 := hx5.fr hF6 fun _ _ h => h
  have h06 := hF6.heap h05 fun h => h
  have hS6 := hS5'.fr0 hF6
  have hF06 : Fr none_ w w6 := (hF04.trans_new hF5 fun b hb e => by have := (hfp b e).1; omega).trans hF6
  have hs45 := hF5.size
  have hlw6 := lt_of_heap hw6
  generalize w5.heap.size = wa at *
  simp only [push_cast, Nat.reduceAdd, Nat.reduceLeDiff, Nat.reduceLT, Int.reduceToNat, Nat.left_eq_add, Nat.add_eq_left, Nat.add_left_cancel_iff, Nat.reduceEqDiff, Nat.add_assoc, Nat.succ_ne_zero, h06]
  refine btake_spec hto hC6 hS6.f hS6.lo hS6.port hS6.now fun y w7 ps7 hC7 hy7 hn7 hF7 => ?_
  rw [hA] at hC7 hy7 ⊢
  obtain ⟨ya, yc, rfl⟩ := hy7.form
  rw [List.length_map] at hy7 hn7
  simp only [List.length_map]
  refine way_slotG fun _ w8 hw8 hF8 => ?_
  have hnq : ∀ b, w4.heap.size ≤ b ∨ b < w3.heap.size → ¬ lfp bq p' pb' b := fun b hb e => by have := hfq b e; unfold lfp at e; omega
  have hF78 : Fr (lfp bq p' pb') w6 w8 := hF7.trans (hF8.mono fun _ _ e => e.elim)
  have hB8 := hB6.fr hF78 fun b hb => hnq b (.inr (by omega))
  have hC8 := hC7.fr0 hF8
  have hx8 := hx6.fr hF78 fun b hb => hnq b (.inl (hn5 b hb))
  have hy8 := hy7.fr hF8 fun _ _ h => h
  have hw68 := hF78.heap hw6 (hnq _ (.inl hs45))
  have hS8 := hS6.fr (hF78.mono fun b _ e => hfq b e)
  have hF08 : Fr none_ w w8 := hF06.trans_new hF78 fun b hb e => by have := hfq b e; omega
  generalize w7.heap.size = wb at *
  have hof : ∀ o ∈ outs, ∃ cs, FrmR w8 o.2 cs := hfrm w8 hS8.f
  simp only [push_cast, Nat.reduceAdd, Nat.reduceLeDiff, Nat.reduceLT, Int.reduceToNat, Nat.left_eq_add, Nat.add_eq_left, Nat.add_left_cancel_iff, Nat.reduceEqDiff, Nat.add_assoc, Nat.succ_ne_zero, hw68, hw8]
  refine same_yes hx8 hy8 hof (by omega) fun w9 hF9 => ?_
  simp only [push_cast, Nat.reduceAdd, Nat.reduceLeDiff, Nat.reduceLT, Int.reduceToNat, Nat.left_eq_add, Nat.add_eq_left, Nat.add_left_cancel_iff, Nat.reduceEqDiff, Nat.add_assoc, Nat.succ_ne_zero]
  refine counts_spec (hB8.fr0 hF9) fun w10 hF10 => ?_
  simp only [push_cast, Nat.reduceAdd, Nat.reduceLeDiff, Nat.reduceLT, Int.reduceToNat, Nat.left_eq_add, Nat.add_eq_left, Nat.add_left_cancel_iff, Nat.reduceEqDiff, Nat.add_assoc, Nat.succ_ne_zero]
  refine counts_spec ((hC8.fr0 hF9).fr0 hF10) fun w11 hF11 => ?_
  refine eq9 hB8.nl hoN.1 ?_
  have hF911 := (hF9.trans hF10).trans hF11
  simp only [push_cast, Nat.reduceAdd, Nat.reduceLeDiff, Nat.reduceLT, Int.reduceToNat, Nat.left_eq_add, Nat.add_eq_left, Nat.add_left_cancel_iff, Nat.reduceEqDiff, Nat.add_assoc, Nat.succ_ne_zero]
  have hB11 := hB8.fr0 hF911
  have hC11 := hC8.fr0 hF911
  refine stations_spec hB11 ?_
  simp only [push_cast, Nat.reduceAdd, Nat.reduceLeDiff, Nat.reduceLT, Int.reduceToNat, Nat.left_eq_add, Nat.add_eq_left, Nat.add_left_cancel_iff, Nat.reduceEqDiff, Nat.add_assoc, Nat.succ_ne_zero]
  refine all_spec hB11.f fun w12 _ _ _ hu hF12 _ => ?_
  simp only [push_cast, Nat.reduceAdd, Nat.reduceLeDiff, Nat.reduceLT, Int.reduceToNat, Nat.left_eq_add, Nat.add_eq_left, Nat.add_left_cancel_iff, Nat.reduceEqDiff, Nat.add_assoc, Nat.succ_ne_zero]
  have hC12 := hC11.fr0 hF12
  refine stations_spec hC12 ?_
  simp only [push_cast, Nat.reduceAdd, Nat.reduceLeDiff, Nat.reduceLT, Int.reduceToNat, Nat.left_eq_add, Nat.add_eq_left, Nat.add_left_cancel_iff, Nat.reduceEqDiff, Nat.add_assoc, Nat.succ_ne_zero]
  refine all_spec hC12.f fun w13 _ _ _ hv hF13 _ => ?_
  simp only [push_cast, Nat.reduceAdd, Nat.reduceLeDiff, Nat.reduceLT, Int.reduceToNat, Nat.left_eq_add, Nat.add_eq_left, Nat.add_left_cancel_iff, Nat.reduceEqDiff, Nat.add_assoc, Nat.succ_ne_zero]
  have hcap := hB11.f.cap
  refine esame_yes (hu.rd.fr hF13 fun _ _ h => h) hv.rd hB11.f.ct.srt.2 (by omega) fun w14 hF14 => ?_
  exact hk _ ((((hF08.trans hF911).trans hF12).trans hF13).trans hF14)

end Go.Gx.S
end

section
/- Tables of VLANs: the plain laws. -/
namespace Go.Gx
open Go
namespace VT

theorem mem_members {t : VT} {v p : Int} : p ∈ t.members v ↔ t.port p ∧ t.is v p = true := by
  unfold members port
  rw [List.mem_filter, List.mem_map]
  constructor
  · rintro ⟨⟨n, hn, rfl⟩, h⟩
    rw [List.mem_range] at hn
    exact ⟨⟨by simp, by simpa using hn⟩, h⟩
  · rintro ⟨⟨h1, h2⟩, h⟩
    exact ⟨⟨p.toNat, by rw [List.mem_range]; omega, by simp; omega⟩, h⟩

theorem inn_eq {t : VT} {p : Int} {f : Frm} {n : Nat} : ∃ u, t.inn p f n = if t.port p ∧ f.right n = true then (if t.is u p = true then (u, 0) else (0, 4)) else (0, 1) := ⟨_, rfl⟩

theorem inn_none {t : VT} {p : Int} {f : Frm} {n : Nat} (h : (t.inn p f n).2 ≠ 0) : (t.inn p f n).1 = 0 := by
  obtain ⟨u, hu⟩ := inn_eq (t := t) (p := p) (f := f) (n := n)
  rw [hu] at h ⊢
  by_cases h1 : t.port p ∧ f.right n = true
  · rw [if_pos h1] at h ⊢
    by_cases h2 : t.is u p = true
    · rw [if_pos h2] at h
      exact absurd rfl h
    · rw [if_neg h2]
  · rw [if_neg h1]

theorem inn_some {t : VT} {p : Int} {f : Frm} {n : Nat} (h : (t.inn p f n).2 = 0) : t.port p ∧ f.right n = true ∧ t.is (t.inn p f n).1 p = true := by
  obtain ⟨u, hu⟩ := inn_eq (t := t) (p := p) (f := f) (n := n)
  rw [hu] at h ⊢
  by_cases h1 : t.port p ∧ f.right n = true
  · rw [if_pos h1] at h ⊢
    by_cases h2 : t.is u p = true
    · rw [if_pos h2]
      exact ⟨h1.1, h1.2, h2⟩
    · rw [if_neg h2] at h
      cases h
  · rw [if_neg h1] at h
    cases h

theorem out_some {t : VT} {v p : Int} {f : Frm} {n : Nat} (h : (t.out v p f n).2 = 0) : t.right v p ∧ f.right n = true ∧ ((getL t.tab (v, p) = some true ∧ (t.out v p f n).1 = f.tag v f.prio) ∨ (getL t.tab (v, p) = some false ∧ (t.out v p f n).1 = f.untag)) := by
  unfold out at *
  split at h
  · rename_i hc
    rw [if_pos hc]
    refine ⟨hc.1, hc.2, ?_⟩
    split at h
    · cases h
    · rename_i hl
      rw [hl]; exact .inl ⟨rfl, rfl⟩
    · rename_i hl
      rw [hl]; exact .inr ⟨rfl, rfl⟩
  · cases h

theorem out_is {t : VT} {v p : Int} {f : Frm} {n : Nat} (hr : t.right v p) (hf : f.right n = true) (hi : t.is v p = true) : (t.out v p f n).2 = 0 := by
  unfold out
  rw [if_pos ⟨hr, hf⟩]
  obtain ⟨b, hb⟩ := Option.isSome_iff_exists.1 hi
  rw [hb]
  cases b <;> rfl

theorem right_untag {f : Frm} {n : Nat} (h : f.right n = true) : f.untag.right n = true := by
  unfold Frm.right Frm.untag at *
  simp only [Bool.and_eq_true] at h ⊢
  exact ⟨h.1, by simp⟩

/-- it comes in as what it went out as -/
theorem back_tag {t : VT} {v p : Int} {f : Frm} {n : Nat} (hr : t.right v p) (hf : f.right n = true) (hi : t.is v p = true) : t.inn p (f.tag v f.prio) n = (v, 0) := by
  unfold inn
  rw [if_pos ⟨hr.2.2, tag_right hf hr.1 hr.2.1⟩]
  have h1 := hr.1
  have e : (f.tag v f.prio).vlan = v := rfl
  have h0 : v ≠ 0 := by omega
  rw [e, if_neg h0]
  simp only []
  rw [if_pos hi]

theorem back_untag {t : VT} {v p : Int} {f : Frm} {n : Nat} (hr : t.right v p) (hf : f.right n = true) (hi : t.is v p = true) : (t.native p v).1.inn p f.untag n = (v, 0) := by
  have h1 := hr.1
  have h2 := hr.2.1
  have h3 := hr.2.2
  unfold native
  rw [if_pos ⟨h3, by omega, by omega⟩]
  unfold inn
  have hp : (⟨t.tab, t.nat.set p.toNat v⟩ : VT).port p := by unfold port at *; simpa using h3
  simp only []
  rw [if_pos ⟨hp, right_untag hf⟩]
  have e : f.untag.vlan = 0 := rfl
  have hlt : p.toNat < t.nat.length := by unfold port at h3; omega
  have hg : (t.nat.set p.toNat v).getD p.toNat 0 = v := by
    rw [List.getD_eq_getElem?_getD, List.getElem?_set_self hlt]; rfl
  rw [e, if_pos rfl, hg, if_pos (by exact hi)]

theorem members_native {t : VT} (p v u : Int) : (t.native p v).1.members u = t.members u := by
  unfold native
  split
  · unfold members is; simp
  · rfl

theorem members_step {t t' : VT} {u : Int} (hn : t'.nat.length = t.nat.length) (h : ∀ p, t'.is u p = t.is u p) : t'.members u = t.members u := by
  unfold members
  rw [hn]
  exact List.filter_congr fun p _ => h p

theorem members_add {t : VT} {v p u : Int} {b : Bool} (h : v ≠ u) : (t.add v p b).1.members u = t.members u := by
  unfold add
  split
  · refine members_step rfl fun q => ?_
    unfold is
    simp only []
    rw [lookup_setL, if_neg]
    intro e
    exact h (congrArg Prod.fst e).symm
  · rfl

theorem members_remove {t : VT} {v p u : Int} (h : v ≠ u) : (t.remove v p).1.members u = t.members u := by
  unfold remove
  split
  · split
    · refine members_step rfl fun q => ?_
      unfold is
      simp only []
      rw [lookup_delL, if_neg]
      intro e
      exact h (congrArg Prod.fst e).symm
    · rfl
  · rfl

theorem filter_one_less {l : List Int} {f g : Int → Bool} {p : Int} (hn : l.Nodup) (hp : p ∈ l) (hf : f p = true) (hg : g p = false) (h : ∀ q, q ≠ p → g q = f q) : (l.filter g).length + 1 = (l.filter f).length := by
  induction l with
  | nil => cases hp
  | cons a l ih =>
    rw [List.nodup_cons] at hn
    by_cases e : a = p
    · subst e
      rw [List.filter_cons, List.filter_cons, if_neg (by simp [hg]), if_pos hf, List.length_cons]
      have : l.filter g = l.filter f := List.filter_congr fun q hq => h q fun e => hn.1 (e ▸ hq)
      rw [this]
    · have hp' : p ∈ l := by
        rcases List.mem_cons.1 hp with rfl | hp
        · exact absurd rfl e
        · exact hp
      rw [List.filter_cons, List.filter_cons, h a e]
      have := ih hn.2 hp'
      split
      · simp only [List.length_cons]; omega
      · exact this

theorem range_nodup (n : Nat) : ((List.range n).map Int.ofNat).Nodup := by
  refine List.Pairwise.map (R := (· < ·)) _ ?_ List.pairwise_lt_range
  intro a b hab e
  have : (a : Int) = b := e
  omega

theorem members_rise (t : VT) (v : Int) : (t.members v).Pairwise (· < ·) := by
  unfold members
  refine List.Pairwise.filter _ ?_
  refine List.Pairwise.map (R := (· < ·)) _ ?_ List.pairwise_lt_range
  intro a b hab
  show (a : Int) < b
  omega

theorem native_none {t : VT} (h : t.ok) (p : Int) (f : Frm) (hf : f.vlan = 0) (n : Nat) :
    ((t.native p 0).1.inn p f n).1 = 0 ∧ ((t.native p 0).1.inn p f n).2 ≠ 0 ∧ ((t.inn p f n).2 = 1 ∨ (t.native p 0).2 = 0) := by
  by_cases hp : t.port p
  · have hlt : p.toNat < t.nat.length := by unfold port at hp; omega
    have hn : t.native p 0 = ({ t with nat := t.nat.set p.toNat 0 }, 0) := by unfold native; rw [if_pos ⟨hp, by omega, by omega⟩]
    rw [hn]
    have hok := ok_native h p 0
    rw [hn] at hok
    have hno : (⟨t.tab, t.nat.set p.toNat 0⟩ : VT).is 0 p = false := by
      cases hi : (⟨t.tab, t.nat.set p.toNat 0⟩ : VT).is 0 p with
      | false => rfl
      | true =>
        have := is_right hok hi
        have := this.1
        omega
    have hg : (t.nat.set p.toNat 0).getD p.toNat 0 = 0 := by
      rw [List.getD_eq_getElem?_getD, List.getElem?_set_self hlt]; rfl
    refine ⟨?_, ?_, .inr rfl⟩
    all_goals
      unfold inn
      simp only [hf, if_true, hg, hno]
      split <;> simp
  · have hn : t.native p 0 = (t, 1) := by unfold native; rw [if_neg (fun h => hp h.1)]
    rw [hn]
    have : t.inn p f n = (0, 1) := by unfold inn; rw [if_neg (fun h => hp h.1)]
    rw [this]
    exact ⟨rfl, by decide, .inl rfl⟩

end VT
end Go.Gx
end

section
/- What comes in: keys, structs. -/
namespace Go.Gx
open Go Go.ChangeShapes Go.WideShapes Go.ChangeAt Go.RowKit
section
variable {H : Type} {enc : TypeId × Value → H} {P : Program} {w : World} {base : Nat} {spare : Nat → Bool} {held : Bool}

/-- a struct, or an array, that comes in -/
theorem arg_agg {t base' : Nat} {v : Value} {d : DataW H} {ps : List MemPlace} {r : Reach} (hu : (∃ fs, P.underlying t = some (.struct fs)) ∨ ∃ n e, P.underlying t = some (.array n e)) (hok : Value.okWide P w r base' t v) (h : DataW.Trod enc P w base spare held t v d ps) :
    ∃ cs : List Value, v = .agg cs.toArray ∧ ∃ n, DataW.trod enc P w base spare held n t cs = some (d, ps) := by
  obtain ⟨fuel, h⟩ := h
  unfold Value.okWide at hok
  rcases hu with ⟨fs, hu⟩ | ⟨n, e, hu⟩
  · simp only [hu] at hok
    obtain ⟨cs, rfl, _⟩ := hok
    exact ⟨cs.toList, by simp, fuel, h⟩
  · simp only [hu] at hok
    obtain ⟨cs, rfl, _⟩ := hok
    exact ⟨cs.toList, by simp, fuel, h⟩

/-- .. that may be a key -/
theorem arg_key {t base' : Nat} {v : Value} {d : DataW H} {ps : List MemPlace} {r : Reach} (hu : (∃ fs, P.underlying t = some (.struct fs)) ∨ ∃ n e, P.underlying t = some (.array n e)) (hk : P.keyTypeAt 8 t = true) (hok : Value.okWide P w r base' t v) (h : DataW.Trod enc P w base spare held t v d ps) :
    ∃ cs : List Value, v = .agg cs.toArray ∧ ∃ l, P.keyLits 8 t cs = some l := by
  obtain ⟨cs, h1, n, h2⟩ := arg_agg hu hok h
  exact ⟨cs, h1, _, (keyLits_of_trod 8 t hk n cs _ h2).1⟩

/-- bytes that come in -/
theorem trod_bytes {t e n : Nat} {v : Value} {x : DataW H × List MemPlace} (ht : P.underlying t = some (.slice e)) (he : P.underlying e = some (.int .u8)) (hc : P.cellsOf e = 1) (h : DataW.trod enc P w base spare held n t [v] = some x) :
    ∃ bs, ByR w v bs ∧ bs.length ≤ maxLen := by
  obtain ⟨es, h1, h2, h3⟩ := open_rd ht hc (by decide) h
  have key : ∃ bs : List Int, es = bs.map cell1 ∧ ∀ b ∈ bs, isB b := by
    clear h1 h2
    induction es with
    | nil => exact ⟨[], rfl, by simp⟩
    | cons c es ih =>
      obtain ⟨bs, hb, hbs⟩ := ih fun c hc => h3 c (List.mem_cons_of_mem _ hc)
      obtain ⟨m, y, hy⟩ := h3 c (List.mem_cons_self ..)
      obtain ⟨z, rfl, _, hw⟩ := DataW.trod_int he hy
      refine ⟨z :: bs, by rw [hb]; rfl, fun b hb => ?_⟩
      rcases List.mem_cons.1 hb with rfl | hb
      · simp only [Lit.wf, Bool.and_eq_true, decide_eq_true_eq] at hw
        exact hw
      · exact hbs b hb
  obtain ⟨bs, rfl, hbs⟩ := key
  exact ⟨bs, ⟨h1, hbs⟩, by simpa using h2⟩

theorem arg_bytes {t e base' : Nat} {v : Value} {d : DataW H} {ps : List MemPlace} {r : Reach} (ht : P.underlying t = some (.slice e)) (he : P.underlying e = some (.int .u8)) (hc : P.cellsOf e = 1) (hok : Value.okWide P w r base' t v) (h : DataW.Trod enc P w base spare held t v d ps) :
    ∃ bs, ByR w v bs ∧ bs.length ≤ maxLen := by
  obtain ⟨fuel, h⟩ := h
  rw [okWide_slice ht hok] at h
  exact trod_bytes ht he hc h

end
end Go.Gx
end

section
/- Frames that come in. -/
set_option linter.unusedVariables false
set_option maxRecDepth 100000
namespace Go.Gx.S
open Go Go.Gx Go.Proofs

theorem ctFrame : Tryz.prog.cellsOf 27 = 17 := by kernel_rfl
theorem ctBytes : Tryz.prog.cellsOf 25 = 1 := by kernel_rfl
theorem ktMac : Tryz.prog.keyTypeAt 8 24 = true := by kernel_rfl

section
variable {H : Type} {enc : TypeId × Value → H} {w : World} {base : Nat} {spare : Nat → Bool} {held : Bool}

theorem trod_frame {n : Nat} {cs : List Value} {x : DataW H × List MemPlace} (h : DataW.trod enc Tryz.prog w base spare held n 27 cs = some x) : ∃ (f : Frm) (bs : List Int), FrmR w f bs ∧ cs = f.cells ∧ bs.length ≤ maxLen := by
  obtain ⟨xs, m, rfl, rfl, hl, hxs, hf⟩ := DataW.trod_struct Tryz.underlying27 h
  rw [ctFrame] at hl
  match cs, hl with
  | [c0, c1, c2, c3, c4, c5, c6, c7, c8, c9, c10, c11, c12, c13, c14, c15, c16], _ =>
  have hx : xs.length = 7 := hxs
  match xs, hx with
  | [y0, y1, y2, y3, y4, y5, y6], _ =>
  have g0 : DataW.trod enc Tryz.prog w base spare held m 24 (([c0, c1, c2, c3, c4, c5, c6, c7, c8, c9, c10, c11, c12, c13, c14, c15, c16].drop 0).take (Tryz.prog.cellsOf 24)) = some y0 := hf 0 _ rfl
  have g1 : DataW.trod enc Tryz.prog w base spare held m 24 (([c0, c1, c2, c3, c4, c5, c6, c7, c8, c9, c10, c11, c12, c13, c14, c15, c16].drop 6).take (Tryz.prog.cellsOf 24)) = some y1 := hf 1 _ rfl
  have g2 : DataW.trod enc Tryz.prog w base spare held m 4 (([c0, c1, c2, c3, c4, c5, c6, c7, c8, c9, c10, c11, c12, c13, c14, c15, c16].drop 12).take (Tryz.prog.cellsOf 4)) = some y2 := hf 2 _ rfl
  have g3 : DataW.trod enc Tryz.prog w base spare held m 3 (([c0, c1, c2, c3, c4, c5, c6, c7, c8, c9, c10, c11, c12, c13, c14, c15, c16].drop 13).take (Tryz.prog.cellsOf 3)) = some y3 := hf 3 _ rfl
  have g4 : DataW.trod enc Tryz.prog w base spare held m 3 (([c0, c1, c2, c3, c4, c5, c6, c7, c8, c9, c10, c11, c12, c13, c14, c15, c16].drop 14).take (Tryz.prog.cellsOf 3)) = some y4 := hf 4 _ rfl
  have g5 : DataW.trod enc Tryz.prog w base spare held m 3 (([c0, c1, c2, c3, c4, c5, c6, c7, c8, c9, c10, c11, c12, c13, c14, c15, c16].drop 15).take (Tryz.prog.cellsOf 3)) = some y5 := hf 5 _ rfl
  have g6 : DataW.trod enc Tryz.prog w base spare held m 25 (([c0, c1, c2, c3, c4, c5, c6, c7, c8, c9, c10, c11, c12, c13, c14, c15, c16].drop 16).take (Tryz.prog.cellsOf 25)) = some y6 := hf 6 _ rfl
  simp only [ctMac, ctBool, ctInt, ctBytes, List.drop_succ_cons, List.drop_zero, List.take_succ_cons, List.take_zero, List.getElem?_cons_zero, List.getElem?_cons_succ] at g0 g1 g2 g3 g4 g5 g6
  obtain ⟨d, hd, e0, _⟩ := MacT.dec (d := 6) (keyLits_of_trod 8 _ ktMac _ _ _ g0).1
  obtain ⟨s, hs, e1, _⟩ := MacT.dec (d := 6) (keyLits_of_trod 8 _ ktMac _ _ _ g1).1
  obtain ⟨t, e2, _⟩ := DataW.trod_bool uBool g2
  obtain ⟨v, e3, _, hv⟩ := DataW.trod_int uInt g3
  obtain ⟨p, e4, _, hp⟩ := DataW.trod_int uInt g4
  obtain ⟨ty, e5, _, hty⟩ := DataW.trod_int uInt g5
  obtain ⟨bs, hb, hbl⟩ := trod_bytes Tryz.underlying25 Tryz.underlying5 ctByte g6
  simp only [Mac.cells, List.cons.injEq, and_true] at e0 e1 e2 e3 e4 e5
  obtain ⟨rfl, rfl, rfl, rfl, rfl, rfl⟩ := e0
  obtain ⟨rfl, rfl, rfl, rfl, rfl, rfl⟩ := e1
  subst e2 e3 e4 e5
  simp only [Lit.wf, Bool.and_eq_true, decide_eq_true_eq] at hv hp hty
  exact ⟨⟨d, s, t, v, p, ty, c16⟩, bs, ⟨⟨hd, hs, hv, hp, hty⟩, hb⟩, rfl, hbl⟩

theorem arg_frame {base' : Nat} {v : Value} {d : DataW H} {ps : List MemPlace} {r : Reach} (hok : Value.okWide Tryz.prog w r base' 27 v) (h : DataW.Trod enc Tryz.prog w base spare held 27 v d ps) :
    ∃ (f : Frm) (bs : List Int), FrmR w f bs ∧ v = .agg f.cells.toArray ∧ bs.length ≤ maxLen := by
  obtain ⟨cs, rfl, n, hn⟩ := arg_agg (.inl ⟨_, Tryz.underlying27⟩) hok h
  obtain ⟨f, bs, h1, rfl, h2⟩ := trod_frame hn
  exact ⟨f, bs, h1, rfl, h2⟩

end
end Go.Gx.S
end

section
/- Steps that come in. -/
set_option linter.unusedVariables false
set_option maxRecDepth 100000
namespace Go.Gx.S
open Go Go.Gx Go.Proofs

theorem ctWStep : Tryz.prog.cellsOf 29 = 23 := by kernel_rfl
theorem kt2 : Tryz.prog.keyTypeAt 8 61 = true := by kernel_rfl
theorem ct2 : Tryz.prog.cellsOf 61 = 2 := by kernel_rfl

section
variable {H : Type} {enc : TypeId × Value → H} {w : World} {base : Nat} {spare : Nat → Bool} {held : Bool}

theorem trod_wstep {n : Nat} {cs : List Value} {x : DataW H × List MemPlace} (h : DataW.trod enc Tryz.prog w base spare held n 29 cs = some x) : ∃ (s : WStp) (bs : List Int), StpR w.heap.size w s bs ∧ cs = s.cells := by
  obtain ⟨xs, m, rfl, rfl, hl, hxs, hf⟩ := DataW.trod_struct Tryz.underlying29 h
  rw [ctWStep] at hl
  match cs, hl with
  | [a0, a1, a2, a3, a4, c0, c1, c2, c3, c4, c5, c6, c7, c8, c9, c10, c11, c12, c13, c14, c15, c16, a6], _ =>
  have hx : xs.length = 7 := hxs
  match xs, hx with
  | [y0, y1, y2, y3, y4, y5, y6], _ =>
  have g0 : DataW.trod enc Tryz.prog w base spare held m 3 (([a0, a1, a2, a3, a4, c0, c1, c2, c3, c4, c5, c6, c7, c8, c9, c10, c11, c12, c13, c14, c15, c16, a6].drop 0).take (Tryz.prog.cellsOf 3)) = some y0 := hf 0 _ rfl
  have g1 : DataW.trod enc Tryz.prog w base spare held m 3 (([a0, a1, a2, a3, a4, c0, c1, c2, c3, c4, c5, c6, c7, c8, c9, c10, c11, c12, c13, c14, c15, c16, a6].drop 1).take (Tryz.prog.cellsOf 3)) = some y1 := hf 1 _ rfl
  have g2 : DataW.trod enc Tryz.prog w base spare held m 3 (([a0, a1, a2, a3, a4, c0, c1, c2, c3, c4, c5, c6, c7, c8, c9, c10, c11, c12, c13, c14, c15, c16, a6].drop 2).take (Tryz.prog.cellsOf 3)) = some y2 := hf 2 _ rfl
  have g3 : DataW.trod enc Tryz.prog w base spare held m 3 (([a0, a1, a2, a3, a4, c0, c1, c2, c3, c4, c5, c6, c7, c8, c9, c10, c11, c12, c13, c14, c15, c16, a6].drop 3).take (Tryz.prog.cellsOf 3)) = some y3 := hf 3 _ rfl
  have g4 : DataW.trod enc Tryz.prog w base spare held m 4 (([a0, a1, a2, a3, a4, c0, c1, c2, c3, c4, c5, c6, c7, c8, c9, c10, c11, c12, c13, c14, c15, c16, a6].drop 4).take (Tryz.prog.cellsOf 4)) = some y4 := hf 4 _ rfl
  have g5 : DataW.trod enc Tryz.prog w base spare held m 27 (([a0, a1, a2, a3, a4, c0, c1, c2, c3, c4, c5, c6, c7, c8, c9, c10, c11, c12, c13, c14, c15, c16, a6].drop 5).take (Tryz.prog.cellsOf 27)) = some y5 := hf 5 _ rfl
  have g6 : DataW.trod enc Tryz.prog w base spare held m 3 (([a0, a1, a2, a3, a4, c0, c1, c2, c3, c4, c5, c6, c7, c8, c9, c10, c11, c12, c13, c14, c15, c16, a6].drop 22).take (Tryz.prog.cellsOf 3)) = some y6 := hf 6 _ rfl
  simp only [ctFrame, ctBool, ctInt, List.drop_succ_cons, List.drop_zero, List.take_succ_cons, List.take_zero, List.getElem?_cons_zero, List.getElem?_cons_succ] at g0 g1 g2 g3 g4 g5 g6
  obtain ⟨d, e0, _, hd⟩ := DataW.trod_int uInt g0
  obtain ⟨po, e1, _, hpo⟩ := DataW.trod_int uInt g1
  obtain ⟨nn, e2, _, hnn⟩ := DataW.trod_int uInt g2
  obtain ⟨v, e3, _, hv⟩ := DataW.trod_int uInt g3
  obtain ⟨t, e4, _⟩ := DataW.trod_bool uBool g4
  obtain ⟨f, bs, hfr, e5, _⟩ := trod_frame g5
  obtain ⟨now, e6, _, hnow⟩ := DataW.trod_int uInt g6
  simp only [List.cons.injEq, and_true] at e0 e1 e2 e3 e4 e6
  subst e0 e1 e2 e3 e4 e6
  simp only [Lit.wf, Bool.and_eq_true, decide_eq_true_eq] at hd hpo hnn hv hnow
  refine ⟨⟨d, po, nn, v, t, f, now⟩, bs, ⟨hd, hpo, hnn, hv, hnow, hfr, w, hfr, Nat.le_refl _⟩, ?_⟩
  show _ = i64 d :: i64 po :: i64 nn :: i64 v :: .bool t :: (f.cells ++ [i64 now])
  rw [← e5]
  rfl

theorem arg_wstep {base' : Nat} {v : Value} {d : DataW H} {ps : List MemPlace} {r : Reach} (hok : Value.okWide Tryz.prog w r base' 29 v) (h : DataW.Trod enc Tryz.prog w base spare held 29 v d ps) :
    ∃ (s : WStp) (bs : List Int), StpR w.heap.size w s bs ∧ v = .agg s.cells.toArray := by
  obtain ⟨cs, rfl, n, hn⟩ := arg_agg (.inl ⟨_, Tryz.underlying29⟩) hok h
  obtain ⟨s, bs, h1, rfl⟩ := trod_wstep hn
  exact ⟨s, bs, h1, rfl⟩
theorem wstps_dec {es : List (List Value)} (h : ∀ c ∈ es, ∃ n y, DataW.trod enc Tryz.prog w base spare held n 29 c = some y) : ∃ st : List (WStp × List Int), (∀ x ∈ st, StpR w.heap.size w x.1 x.2) ∧ es = st.map fun x => x.1.cells := by
  induction es with
  | nil => exact ⟨[], by simp, rfl⟩
  | cons c es ih =>
    obtain ⟨st, h1, h2⟩ := ih fun c hc => h c (List.mem_cons_of_mem _ hc)
    obtain ⟨n, y, hl⟩ := h c (List.mem_cons_self ..)
    obtain ⟨s, bs, hs, rfl⟩ := trod_wstep hl
    refine ⟨(s, bs) :: st, fun x hx => ?_, by rw [h2]; rfl⟩
    rcases List.mem_cons.1 hx with rfl | hx
    · exact hs
    · exact h1 x hx
theorem arg_wsteps {base' : Nat} {v : Value} {d : DataW H} {ps : List MemPlace} {r : Reach} (hok : Value.okWide Tryz.prog w r base' 22 v) (h : DataW.Trod enc Tryz.prog w base spare held 22 v d ps) : ∃ st : List (WStp × List Int), (∀ x ∈ st, StpR w.heap.size w x.1 x.2) ∧ RdE 23 w v (st.map fun x => x.1.cells) := by
  obtain ⟨es, hes, _, hk⟩ := arg_slice Tryz.underlying22 ctWStep (by decide) hok h
  obtain ⟨st, h1, rfl⟩ := wstps_dec hk
  exact ⟨st, h1, hes⟩
theorem arg_int2 {base' : Nat} {v : Value} {d : DataW H} {ps : List MemPlace} {r : Reach} (hok : Value.okWide Tryz.prog w r base' 61 v) (h : DataW.Trod enc Tryz.prog w base spare held 61 v d ps) :
    ∃ a b, isI a ∧ isI b ∧ v = .agg #[i64 a, i64 b] := by
  obtain ⟨cs, rfl, l, hl⟩ := arg_key (.inr ⟨_, _, Tryz.underlying61⟩) kt2 hok h
  obtain ⟨hc, ls, h1, rfl⟩ := kl_array Tryz.underlying61 hl
  rw [ct2] at hc
  match cs, hc with
  | [c0, c1], _ =>
  simp only [show List.range 2 = [0, 1] from rfl, List.mapM_cons, List.mapM_nil, ctInt, bind, Option.bind_eq_some_iff, pure, Option.some.injEq, Nat.mul_one, List.drop_succ_cons, List.drop_zero, List.take_succ_cons, List.take_zero] at h1
  obtain ⟨y0, g0, _, ⟨y1, g1, _, rfl, rfl⟩, rfl⟩ := h1
  obtain ⟨k0, e0, rfl, b0⟩ := kl_int uInt g0
  obtain ⟨k1, e1, rfl, b1⟩ := kl_int uInt g1
  simp only [List.cons.injEq, and_true] at e0 e1
  subst e0 e1
  exact ⟨k0, k1, b0, b1, rfl⟩
end
end Go.Gx.S
end
