/-
  The law MovesAgain holds: it answers true for every input, and each argument reads behind the call as it read before.
-/
import Derived.Test.YtjdnhamngpafmaaGreatRows
import Derived.Test.YtjdnhamngpafmaaGreatG8
import Derived.ProofKit
set_option linter.all false
namespace Go.Proofs.YtjdnhamngpafmaaGreat
open Go.ChangeShapes Go.WideShapes Go.ChangeAt Go.RowKit Go.Av

theorem aeC : ∀ t ∈ #[24].toList, Tryz.prog.readableRec t = true ∧ t < Tryz.prog.types.size := by
  have h : ∀ t ∈ [24], Tryz.prog.readableRec t = true ∧ t < Tryz.prog.types.size := by
    intro t ht;simp only[List.mem_cons, List.not_mem_nil, or_false]at ht;rcases ht with rfl <;> exact ⟨by kernel_rfl, of_decide_eq_true (by kernel_rfl)⟩
  intro t ht;apply h;simp only[List.mem_cons, List.not_mem_nil, or_false]at ht ⊢;rcases ht with rfl <;> simp

set_option maxRecDepth 100000 in
theorem aeB (os : Os) (started : os.Started) (H : Type) (enc : TypeId × Value -> H) :
    ReturnsInHanded Rows.movesAgainRow.assume Tryz.checked os 7 .any (Rows.movesAgainSpec.pre6 enc Tryz.prog Tryz.f7 Rows.movesAgainRow.domain Rows.movesAgainRow.apart)
      (Rows.movesAgainSpec.post enc Tryz.prog Tryz.f7 Rows.movesAgainRow.apart Rows.movesAgainRow.fresh Rows.movesAgainRow.handsOn Rows.movesAgainRow.again) := by
  refine returnsInHanded_of_change_sized (C := Tryz.checked) (show ownKnob Tryz.prog.godebug = none by kernel_rfl) started (by kernel_rfl) Tryz.func7
    (ChangeSpec.witness6 (enc := enc) (C := Tryz.checked) false ⟨#[], #[.agg #[.slice none 0 0, .int .i64 0]], []⟩ 8 (by kernel_rfl) (by kernel_rfl) (by kernel_rfl) (by kernel_rfl)) ?_
  intro W base args ds gs before oc hW _ Ag _;have hW' := hW;obtain ⟨p, q, hA0, hV, rfl, _, _⟩ := hW';have hA : DataW.TrodAll enc Tryz.prog W 0 (fun _ => true) true Tryz.f7.params.toList args.toList ds p := hA0;have La : (DataW.weightsEach Tryz.prog (Tryz.f7.params.toList ++ []) (ds ++ gs)).all (· <= reachBytes) = true := Ag;rw[Tryz.params7]at hA La;obtain ⟨rfl, rfl⟩ := trodVars_none hV;obtain ⟨v0, d0, rfl, rfl, h0⟩ := trodAll_one hA;have hwt : ∀ (j : Nat) t d, [24][j]? = some t -> [d0][j]? = some d -> ∀ m ∈ d.weights Tryz.prog t, m <= reachBytes := fun j t d ht hd m hm => by
    have := List.all_eq_true.1 La m (by
      simp only[List.append_nil];exact DataW.weights_mem_each ht hd m hm)
    simpa using this
  have Nh := qdT Tryz.underlying24 (oc 0 24 v0 rfl rfl);obtain ⟨n0, a0, s0, r0⟩ := qbm laid cov (t := 24) (by simp[yo]) h0 Nh (hwt 0 24 d0 rfl rfl);obtain ⟨x0, e0, aeD⟩ := qfT s0;rw[e0]at r0;refine qbQ (P := Tryz.prog) (xs := [x0.enc]) (tb := 4) laid (by rw[Tryz.params7]; exact aeC) rfl (by kernel_rfl) Tryz.underlying4 hW rfl (qaM x0 aeD) ⟨rfl, fun j c u hc hu => ?_⟩
  match j, hc, hu with
  | 0, hc, hu =>
    simp at hc hu;subst hc;subst hu;exact r0
  | j + 1, hc, _ => simp at hc

theorem movesAgain_holds : Rows.MovesAgainSaid :=
  OpenClaim.holds_of_wide 7 Tryz.f7 rfl rfl rfl rfl rfl rfl rfl ⟨rfl, rfl, rfl, rfl, rfl⟩ rfl rfl rfl rfl rfl (by kernel_rfl) Tryz.func7 (by kernel_rfl)
    (of_decide_eq_true (by kernel_rfl)) (by unfold Func.isWrapper; first|(rw[if_pos (by decide +kernel)]; kernel_rfl)|(rw[if_neg (by decide +kernel)]; exact ⟨rfl, rfl⟩))
    (fun os started H enc _ => aeB os started H enc)

end Go.Proofs.YtjdnhamngpafmaaGreat
