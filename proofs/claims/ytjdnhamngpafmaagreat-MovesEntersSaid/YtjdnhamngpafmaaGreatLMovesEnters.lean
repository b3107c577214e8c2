/-
  The law MovesEnters holds: it answers true for every input, and each argument reads behind the call as it read before.
-/
import Derived.Test.YtjdnhamngpafmaaGreatRows
import Derived.Test.YtjdnhamngpafmaaGreatF6
import Derived.ProofKit
set_option linter.all false
namespace Go.Proofs.YtjdnhamngpafmaaGreat
open Go.ChangeShapes Go.WideShapes Go.ChangeAt Go.RowKit Go.Av

theorem aat : ∀ t ∈ #[24].toList, Tryz.prog.readableRec t = true ∧ t < Tryz.prog.types.size := by
  have h : ∀ t ∈ [24], Tryz.prog.readableRec t = true ∧ t < Tryz.prog.types.size := by
    intro t ht;simp only[List.mem_cons, List.not_mem_nil, or_false]at ht;rcases ht with rfl <;> exact ⟨by kernel_rfl, of_decide_eq_true (by kernel_rfl)⟩
  intro t ht;apply h;simp only[List.mem_cons, List.not_mem_nil, or_false]at ht ⊢;rcases ht with rfl <;> simp

set_option maxRecDepth 100000 in
theorem aas (os : Os) (started : os.Started) (H : Type) (enc : TypeId × Value -> H) :
    ReturnsInHanded Rows.movesEntersRow.assume Tryz.checked os 6 .any (Rows.movesEntersSpec.pre6 enc Tryz.prog Tryz.f6 Rows.movesEntersRow.domain Rows.movesEntersRow.apart)
      (Rows.movesEntersSpec.post enc Tryz.prog Tryz.f6 Rows.movesEntersRow.apart Rows.movesEntersRow.fresh Rows.movesEntersRow.handsOn Rows.movesEntersRow.again) := by
  refine returnsInHanded_of_change_sized (C := Tryz.checked) (show ownKnob Tryz.prog.godebug = none by kernel_rfl) started (by kernel_rfl) Tryz.func6
    (ChangeSpec.witness6 (enc := enc) (C := Tryz.checked) false ⟨#[], #[.agg #[.slice none 0 0, .int .i64 0]], []⟩ 8 (by kernel_rfl) (by kernel_rfl) (by kernel_rfl) (by kernel_rfl)) ?_
  intro W base args ds gs before SP hW _ cP _;have hW' := hW;obtain ⟨p, q, WH, hV, rfl, _, _⟩ := hW';have hA : DataW.TrodAll enc Tryz.prog W 0 (fun _ => true) true Tryz.f6.params.toList args.toList ds p := WH;have oO : (DataW.weightsEach Tryz.prog (Tryz.f6.params.toList ++ []) (ds ++ gs)).all (· <= reachBytes) = true := cP;rw[Tryz.params6]at hA oO;obtain ⟨rfl, rfl⟩ := trodVars_none hV;obtain ⟨v0, d0, rfl, rfl, h0⟩ := trodAll_one hA;have YU : ∀ (j : Nat) t d, [24][j]? = some t -> [d0][j]? = some d -> ∀ m ∈ d.weights Tryz.prog t, m <= reachBytes := fun j t d ht hd m hm => by
    have := List.all_eq_true.1 oO m (by
      simp only[List.append_nil];exact DataW.weights_mem_each ht hd m hm)
    simpa using this
  have GD := Fk Tryz.underlying24 (SP 0 24 v0 rfl rfl);obtain ⟨n0, a0, s0, r0⟩ := Bo laid cov (t := 24) (by simp[Uo]) h0 GD (YU 0 24 d0 rfl rfl);obtain ⟨x0, e0, aau⟩ := IZ s0;rw[e0]at r0;refine AG (P := Tryz.prog) (xs := [x0.enc]) (tb := 4) laid (by rw[Tryz.params6]; exact aat) rfl (by kernel_rfl) Tryz.underlying4 hW rfl (uz x0 aau) ⟨rfl, fun j c u hc hu => ?_⟩
  match j, hc, hu with
  | 0, hc, hu =>
    simp at hc hu;subst hc;subst hu;exact r0
  | j + 1, hc, _ => simp at hc

theorem movesEnters_holds : Rows.MovesEntersSaid :=
  OpenClaim.holds_of_wide 6 Tryz.f6 rfl rfl rfl rfl rfl rfl rfl ⟨rfl, rfl, rfl, rfl, rfl⟩ rfl rfl rfl rfl rfl (by kernel_rfl) Tryz.func6 (by kernel_rfl)
    (of_decide_eq_true (by kernel_rfl)) (by unfold Func.isWrapper; first|(rw[if_pos (by decide +kernel)]; kernel_rfl)|(rw[if_neg (by decide +kernel)]; exact ⟨rfl, rfl⟩))
    (fun os started H enc _ => aas os started H enc)

end Go.Proofs.YtjdnhamngpafmaaGreat
