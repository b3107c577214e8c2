/-
  The law MovesCopies holds: it answers true for every input, and each argument reads behind the call as it read before.
-/
import Derived.Test.YtkhnjeblbiocaaaRows
import Derived.Test.YtkhnjeblbiocaaaQ1
import Derived.ProofKit
set_option linter.all false
namespace Go.Proofs.Ytkhnjeblbiocaaa
open Go.ChangeShapes Go.WideShapes Go.ChangeAt Go.RowKit Go.Av

theorem movesCopies_params : ∀ t ∈ #[3, 3].toList, Try.prog.readableRec t = true ∧ t < Try.prog.types.size := by
  have h : ∀ t ∈ [3], Try.prog.readableRec t = true ∧ t < Try.prog.types.size := by
    intro t ht
    simp only [List.mem_cons, List.not_mem_nil, or_false] at ht
    rcases ht with rfl <;> exact ⟨by kernel_rfl, of_decide_eq_true (by kernel_rfl)⟩
  intro t ht
  apply h
  simp only [List.mem_cons, List.not_mem_nil, or_false] at ht ⊢
  rcases ht with rfl | rfl <;> simp

set_option maxRecDepth 100000 in
theorem movesCopies_lifted (os : Os) (started : os.Started) (H : Type) (enc : TypeId × Value → H) :
    ReturnsInHanded Rows.movesCopiesRow.assume Try.checked os 7 .any (Rows.movesCopiesSpec.pre6 enc Try.prog Try.f7 Rows.movesCopiesRow.domain Rows.movesCopiesRow.apart)
      (Rows.movesCopiesSpec.post enc Try.prog Try.f7 Rows.movesCopiesRow.apart Rows.movesCopiesRow.fresh Rows.movesCopiesRow.handsOn Rows.movesCopiesRow.again) := by
  refine returnsInHanded_of_change_sized (C := Try.checked) (show ownKnob Try.prog.godebug = none by kernel_rfl) started (by kernel_rfl) Try.func7
    (ChangeSpec.witness6 (enc := enc) (C := Try.checked) false ⟨#[], #[.int .i64 0, .int .i64 0], []⟩ 8 (by kernel_rfl) (by kernel_rfl) (by kernel_rfl) (by kernel_rfl)) ?_
  intro W base args ds gs before hval hW _ hsz _
  have hW' := hW
  obtain ⟨p, q, hA0, hV, rfl, _, _⟩ := hW'
  have hA : DataW.TrodAll enc Try.prog W 0 (fun _ => true) true Try.f7.params.toList args.toList ds p := hA0
  have hsz' : (DataW.weightsEach Try.prog (Try.f7.params.toList ++ []) (ds ++ gs)).all (· ≤ reachBytes) = true := hsz
  rw [Try.params7] at hA hsz'
  obtain ⟨rfl, rfl⟩ := trodVars_none hV
  obtain ⟨v0, v1, d0, d1, p0, p1, rfl, rfl, rfl, h0, h1⟩ := trodAll_two hA
  have hwt : ∀ (j : Nat) t d, [3, 3][j]? = some t → [d0, d1][j]? = some d → ∀ m ∈ d.weights Try.prog t, m ≤ reachBytes := fun j t d ht hd m hm => by
    have := List.all_eq_true.1 hsz' m (by
      simp only [List.append_nil]
      exact DataW.weights_mem_each ht hd m hm)
    simpa using this
  have hv0 : v0.cells = #[v0] := one_int Try.underlying3 (hval 0 3 v0 rfl rfl)
  obtain ⟨n0, a0, s0, r0⟩ := rv_of_trod laid cov (t := 3) (by simp [covT]) h0 hv0 (hwt 0 3 d0 rfl rfl)
  obtain ⟨x0, rfl, fit0⟩ := num_told s0
  have hv1 : v1.cells = #[v1] := one_int Try.underlying3 (hval 1 3 v1 rfl rfl)
  obtain ⟨n1, a1, s1, r1⟩ := rv_of_trod laid cov (t := 3) (by simp [covT]) h1 hv1 (hwt 1 3 d1 rfl rfl)
  obtain ⟨x1, rfl, fit1⟩ := num_told s1
  refine post_of_pure (P := Try.prog) (xs := [aI x0, aI x1]) (tb := 4) laid (by rw [Try.params7]; exact movesCopies_params) rfl (by kernel_rfl) Try.underlying4 hW rfl (movesCopies_law x0 fit0 x1 fit1) ⟨rfl, fun j c u hc hu => ?_⟩
  match j, hc, hu with
  | 0, hc, hu =>
    simp at hc hu
    subst hc
    subst hu
    exact r0
  | 1, hc, hu =>
    simp at hc hu
    subst hc
    subst hu
    exact r1
  | j + 2, hc, _ => simp at hc

theorem movesCopies_holds : Rows.MovesCopiesSaid :=
  OpenClaim.holds_of_wide 7 Try.f7 rfl rfl rfl rfl rfl rfl rfl ⟨rfl, rfl, rfl, rfl, rfl⟩ rfl rfl rfl rfl rfl (by kernel_rfl) Try.func7 (by kernel_rfl)
    (of_decide_eq_true (by kernel_rfl)) (by unfold Func.isWrapper; first | (rw [if_pos (by decide +kernel)]; kernel_rfl) | (rw [if_neg (by decide +kernel)]; exact ⟨rfl, rfl⟩))
    (fun os started H enc _ => movesCopies_lifted os started H enc)

end Go.Proofs.Ytkhnjeblbiocaaa
