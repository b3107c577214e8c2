/-
  The law MovesBare holds: it answers true for every input, and each argument reads behind the call as it read before.
-/
import Derived.Test.YtkhnjeblbiocaaaRows
import Derived.Test.YtkhnjeblbiocaaaR2
import Derived.ProofKit
set_option linter.all false
namespace Go.Proofs.Ytkhnjeblbiocaaa
open Go.ChangeShapes Go.WideShapes Go.ChangeAt Go.RowKit Go.Av

theorem movesBare_params : ∀ t ∈ #[24].toList, Try.prog.readableRec t = true ∧ t < Try.prog.types.size := by
  have h : ∀ t ∈ [24], Try.prog.readableRec t = true ∧ t < Try.prog.types.size := by
    intro t ht
    simp only [List.mem_cons, List.not_mem_nil, or_false] at ht
    rcases ht with rfl <;> exact ⟨by kernel_rfl, of_decide_eq_true (by kernel_rfl)⟩
  intro t ht
  apply h
  simp only [List.mem_cons, List.not_mem_nil, or_false] at ht ⊢
  rcases ht with rfl <;> simp

set_option maxRecDepth 100000 in
theorem movesBare_lifted (os : Os) (started : os.Started) (H : Type) (enc : TypeId × Value → H) :
    ReturnsInHanded Rows.movesBareRow.assume Try.checked os 8 .any (Rows.movesBareSpec.pre6 enc Try.prog Try.f8 Rows.movesBareRow.domain Rows.movesBareRow.apart)
      (Rows.movesBareSpec.post enc Try.prog Try.f8 Rows.movesBareRow.apart Rows.movesBareRow.fresh Rows.movesBareRow.handsOn Rows.movesBareRow.again) := by
  refine returnsInHanded_of_change_sized (C := Try.checked) (show ownKnob Try.prog.godebug = none by kernel_rfl) started (by kernel_rfl) Try.func8
    (ChangeSpec.witness6 (enc := enc) (C := Try.checked) false ⟨#[], #[.agg #[.slice none 0 0, .int .i64 0]], []⟩ 8 (by kernel_rfl) (by kernel_rfl) (by kernel_rfl) (by kernel_rfl)) ?_
  intro W base args ds gs before hval hW _ hsz _
  have hW' := hW
  obtain ⟨p, q, hA0, hV, rfl, _, _⟩ := hW'
  have hA : DataW.TrodAll enc Try.prog W 0 (fun _ => true) true Try.f8.params.toList args.toList ds p := hA0
  have hsz' : (DataW.weightsEach Try.prog (Try.f8.params.toList ++ []) (ds ++ gs)).all (· ≤ reachBytes) = true := hsz
  rw [Try.params8] at hA hsz'
  obtain ⟨rfl, rfl⟩ := trodVars_none hV
  obtain ⟨v0, d0, rfl, rfl, h0⟩ := trodAll_one hA
  have hwt : ∀ (j : Nat) t d, [24][j]? = some t → [d0][j]? = some d → ∀ m ∈ d.weights Try.prog t, m ≤ reachBytes := fun j t d ht hd m hm => by
    have := List.all_eq_true.1 hsz' m (by
      simp only [List.append_nil]
      exact DataW.weights_mem_each ht hd m hm)
    simpa using this
  have hv0 := one_struct Try.underlying24 (hval 0 24 v0 rfl rfl)
  obtain ⟨n0, a0, s0, r0⟩ := agg_of_trod laid cov (t := 24) (by simp [covT]) h0 hv0 (hwt 0 24 d0 rfl rfl)
  obtain ⟨x0, e0, fit0⟩ := unit_told s0
  rw [e0] at r0
  refine post_of_pure (P := Try.prog) (xs := [x0.enc]) (tb := 4) laid (by rw [Try.params8]; exact movesBare_params) rfl (by kernel_rfl) Try.underlying4 hW rfl (movesBare_law x0 fit0) ⟨rfl, fun j c u hc hu => ?_⟩
  match j, hc, hu with
  | 0, hc, hu =>
    simp at hc hu
    subst hc
    subst hu
    exact r0
  | j + 1, hc, _ => simp at hc

theorem movesBare_holds : Rows.MovesBareSaid :=
  OpenClaim.holds_of_wide 8 Try.f8 rfl rfl rfl rfl rfl rfl rfl ⟨rfl, rfl, rfl, rfl, rfl⟩ rfl rfl rfl rfl rfl (by kernel_rfl) Try.func8 (by kernel_rfl)
    (of_decide_eq_true (by kernel_rfl)) (by unfold Func.isWrapper; first | (rw [if_pos (by decide +kernel)]; kernel_rfl) | (rw [if_neg (by decide +kernel)]; exact ⟨rfl, rfl⟩))
    (fun os started H enc _ => movesBare_lifted os started H enc)

end Go.Proofs.Ytkhnjeblbiocaaa
