import Derived.Test.YtadgfomgnohokaaS5
import Derived.JoinedCond
/- SpanAlone: a bridge alone is Forwarding at all its ports that are up behind 30 moments, and at its edges at once; a port that goes down is Discarding. It is proved for every input of bulk at most 1048576. -/
set_option linter.unusedVariables false
set_option maxRecDepth 100000
namespace Go.Proofs.Ytadgfomgnohokaa
open Go.ChangeShapes Go.WideShapes Go.ChangeAt Go.RowKit Go.Gx Go.Gx.S

theorem bulk_one {H : Type} (d : DataW H) : 1 ≤ Rows.uptoBulk d := by
  cases d with
  | lit l => cases l <;> simp [Rows.uptoBulk]
  | nil => simp [Rows.uptoBulk]
  | ptr d => simp [Rows.uptoBulk]
  | slice a b => simp [Rows.uptoBulk]
  | agg a => simp [Rows.uptoBulk]
  | iface a b => simp [Rows.uptoBulk]
  | map a => simp [Rows.uptoBulk]
  | held a => simp [Rows.uptoBulk]
theorem bulk_len {H : Type} : ∀ l : List (DataW H), l.length ≤ Rows.uptoBulkAll l
  | [] => by simp
  | d :: l => by
    have h1 := bulk_one d
    have h2 := bulk_len l
    rw [List.length_cons]
    unfold Rows.uptoBulkAll
    omega
/-- how long a slice is that reads so -/
theorem slice_len {H : Type} {enc : TypeId × Value → H} {W : World} {base : Nat} {spare : Nat → Bool} {held : Bool} {v : Value} {d : DataW H} {ps : List MemPlace} {l : List Int} (hv : RdE 1 W v (l.map cellI)) (h : DataW.Trod enc Try.prog W base spare held 23 v d ps)
    (hok : ∃ a n c, v = .slice a n c) : l.length ≤ Rows.uptoBulk d := by
  obtain ⟨fuel, h⟩ := h
  obtain ⟨a, n, c, rfl⟩ := hok
  obtain ⟨a2, c2, e⟩ := hv.form
  rw [List.length_map] at e
  have hcs : (Value.slice a n c).cells.toList = [.slice a n c] := rfl
  rcases DataW.trod_slice Try.underlying23 h with ⟨h1, h2⟩ | ⟨a3, len, cap, elems, rest, m, _, h1, h2, _, _, _, h3, _⟩
  · have e1 : Value.slice a n c = .slice none 0 0 := (List.cons.inj (hcs.symm.trans h1)).1
    rw [e1] at e
    have : 0 = l.length := by injection e
    omega
  · have e1 : Value.slice a n c = .slice (some a3) len cap := (List.cons.inj (hcs.symm.trans h1)).1
    rw [e1] at e
    have hl : len = l.length := by injection e
    have hd : d = .slice (elems.map (·.1)) (rest.map (·.1)) := (Prod.mk.inj h2).1
    rw [hd]
    have h4 := bulk_len (elems.map (·.1))
    rw [List.length_map, h3] at h4
    unfold Rows.uptoBulk
    omega

theorem spanAlone_readable : ∀ t ∈ Try.f4.params.toList, Try.prog.readableRec t = true ∧ t < Try.prog.types.size := by
  rw [Try.params4]
  intro t ht
  simp at ht
  rcases ht with rfl | rfl | rfl <;> exact ⟨by kernel_rfl, of_decide_eq_true (by kernel_rfl)⟩

theorem spanAlone_lifted (os : Os) (started : os.Started) (H : Type) (enc : TypeId × Value → H) (F : Stop.Interp) :
    ReturnsInHanded {} Try.checked os 4 .any ((Rows.OpenSpec.upto Rows.spanAloneSpec).pre6 enc Try.prog Try.f4 Rows.spanAloneUptoRow.domain false) (((Rows.OpenSpec.upto Rows.spanAloneSpec).at F).post enc Try.prog Try.f4 false true false false) := by
  refine returnsInHanded_of_cond (C := Try.checked) (s := Rows.OpenSpec.upto Rows.spanAloneSpec) (k := Rows.uptoSmall) rfl own started (by kernel_rfl) Try.func4
    (OpenSpec.witness (enc := enc) (C := Try.checked) (s := Rows.OpenSpec.upto Rows.spanAloneSpec) (k := Rows.uptoSmall) rfl false ⟨#[], #[.slice none 0 0, .slice none 0 0, .int .i64 0], []⟩ 8 (by kernel_rfl) (by kernel_rfl) (by kernel_rfl)
      (x := ([.nil, .nil, .lit (.int .i64 0)], [], [])) (by kernel_rfl) rfl (by kernel_rfl)) ?_
  intro W base args ds gs before hval hW _ hkk _
  have hW' := hW
  obtain ⟨p, q, hA, hV, hps, hfz, hnd⟩ := hW
  have hvar : Rows.spanAloneSpec.vars = [] := rfl
  obtain ⟨rfl, _⟩ := trodVars_none hV
  have hval : ∀ (j : Nat) t v, Try.f4.params[j]? = some t → args[j]? = some v → Value.okWide Try.prog W .any base t v := hval
  have hA : DataW.TrodAll enc Try.prog W 0 (fun _ => true) true Try.f4.params.toList args.toList ds p := hA
  rw [Try.params4] at hA hval
  obtain ⟨v0, v1, v2, d0, d1, d2, p0, p1, p2, rfl, rfl, rfl, h0, h1, h2⟩ := trodAll_three hA
  obtain ⟨costs, hci, hc⟩ := arg_ints (hval 0 _ v0 rfl rfl) h0
  obtain ⟨edges, he⟩ := arg_bools (hval 1 _ v1 rfl rfl) h1
  obtain ⟨q, rfl, _⟩ := arg_int uInt (hval 2 _ v2 rfl rfl) h2
  have hl : costs.length ≤ 2 ^ 20 := by
    obtain ⟨a, c, e⟩ := hc.form
    have h3 := slice_len hc h0 ⟨_, _, _, e⟩
    have h4 : Rows.uptoBulkAll ([d0, d1, d2] ++ []) ≤ 1048576 := of_decide_eq_true hkk
    have h5 : Rows.uptoBulkAll ([d0, d1, d2] ++ []) = Rows.uptoBulk d0 + (Rows.uptoBulk d1 + (Rows.uptoBulk d2 + 0)) := rfl
    omega
  refine Calls.mono (alone_law (K := fun v W' => v = .bool true ∧ Fr none_ W W') hc hci hl he fun W' hF => ⟨rfl, hF⟩) fun e W' ⟨v, he, hv, hF⟩ => ?_
  refine ⟨v, he, ?_⟩
  subst hv
  exact law_post (s := Rows.spanAloneSpec) laidOut spanAlone_readable (by kernel_rfl) uBool rfl rfl hW' hF

theorem spanAloneUpto_holds : Rows.SpanAloneUptoSaid :=
  OpenClaim.holds_of_cond 4 Try.f4 rfl rfl rfl rfl rfl rfl rfl ⟨rfl, rfl, rfl, rfl, rfl⟩ rfl rfl rfl rfl rfl (by kernel_rfl) Try.func4 (by kernel_rfl)
    (of_decide_eq_true (by kernel_rfl)) (by unfold Func.isWrapper; first | (rw [if_pos (by decide +kernel)]; kernel_rfl) | (rw [if_neg (by decide +kernel)]; exact ⟨rfl, rfl⟩))
    (fun os started H enc _ F => spanAlone_lifted os started H enc F)

end Go.Proofs.Ytadgfomgnohokaa
