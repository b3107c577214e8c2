/-
  The law LoopsEntered holds: it answers true for every input, and each argument reads behind the call as it read before.
-/
import Derived.Test.YtjdnhamngpafmaaGreatRows
import Derived.Test.YtjdnhamngpafmaaGreatA6
import Derived.ProofKit
set_option linter.all false
namespace Go.Proofs.YtjdnhamngpafmaaGreat
open Go.ChangeShapes Go.WideShapes Go.ChangeAt Go.RowKit Go.Av

theorem aad : ∀ t ∈ #[24].toList, Tryz.prog.readableRec t = true ∧ t < Tryz.prog.types.size := by
  have h : ∀ t ∈ [24], Tryz.prog.readableRec t = true ∧ t < Tryz.prog.types.size := by
    intro t ht;simp only[List.mem_cons, List.not_mem_nil, or_false]at ht;rcases ht with rfl <;> exact ⟨by kernel_rfl, of_decide_eq_true (by kernel_rfl)⟩
  intro t ht;apply h;simp only[List.mem_cons, List.not_mem_nil, or_false]at ht ⊢;rcases ht with rfl <;> simp

set_option maxRecDepth 100000 in
theorem aac (os : Os) (started : os.Started) (H : Type) (enc : TypeId × Value -> H) :
    ReturnsInHanded Rows.loopsEnteredRow.assume Tryz.checked os 3 .any (Rows.loopsEnteredSpec.pre6 enc Tryz.prog Tryz.f3 Rows.loopsEnteredRow.domain Rows.loopsEnteredRow.apart)
      (Rows.loopsEnteredSpec.post enc Tryz.prog Tryz.f3 Rows.loopsEnteredRow.apart Rows.loopsEnteredRow.fresh Rows.loopsEnteredRow.handsOn Rows.loopsEnteredRow.again) := by
  refine returnsInHanded_of_change_sized (C := Tryz.checked) (show ownKnob Tryz.prog.godebug = none by kernel_rfl) started (by kernel_rfl) Tryz.func3
    (ChangeSpec.witness6 (enc := enc) (C := Tryz.checked) false ⟨#[], #[.agg #[.slice none 0 0, .int .i64 0]], []⟩ 8 (by kernel_rfl) (by kernel_rfl) (by kernel_rfl) (by kernel_rfl)) ?_
  intro W base args ds gs before Jq hW _ di _;have hW' := hW;obtain ⟨p, q, hA0, hV, rfl, _, _⟩ := hW';have hA : DataW.TrodAll enc Tryz.prog W 0 (fun _ => true) true Tryz.f3.params.toList args.toList ds p := hA0;have m7 : (DataW.weightsEach Tryz.prog (Tryz.f3.params.toList ++ []) (ds ++ gs)).all (· <= reachBytes) = true := di;rw[Tryz.params3]at hA m7;obtain ⟨rfl, rfl⟩ := trodVars_none hV;obtain ⟨v0, d0, rfl, rfl, h0⟩ := trodAll_one hA;have RK : ∀ (j : Nat) t d, [24][j]? = some t -> [d0][j]? = some d -> ∀ m ∈ d.weights Tryz.prog t, m <= reachBytes := fun j t d ht hd m hm => by
    have := List.all_eq_true.1 m7 m (by
      simp only[List.append_nil];exact DataW.weights_mem_each ht hd m hm)
    simpa using this
  have EU := Dy Tryz.underlying24 (Jq 0 24 v0 rfl rfl);obtain ⟨n0, a0, s0, r0⟩ := zw laid Yt (t := 24) (by simp[Sb]) h0 EU (RK 0 24 d0 rfl rfl);obtain ⟨x0, e0, aae⟩ := HG s0;rw[e0]at r0;refine yB (P := Tryz.prog) (xs := [x0.enc]) (tb := 4) laid (by rw[Tryz.params3]; exact aad) rfl (by kernel_rfl) Tryz.underlying4 hW rfl (rB x0 aae) ⟨rfl, fun j c u hc hu => ?_⟩
  match j, hc, hu with
  | 0, hc, hu =>
    simp at hc hu;subst hc;subst hu;exact r0
  | j + 1, hc, _ => simp at hc

theorem loopsEntered_holds : Rows.LoopsEnteredSaid :=
  OpenClaim.holds_of_wide 3 Tryz.f3 rfl rfl rfl rfl rfl rfl rfl ⟨rfl, rfl, rfl, rfl, rfl⟩ rfl rfl rfl rfl rfl (by kernel_rfl) Tryz.func3 (by kernel_rfl)
    (of_decide_eq_true (by kernel_rfl)) (by unfold Func.isWrapper; first|(rw[if_pos (by decide +kernel)]; kernel_rfl)|(rw[if_neg (by decide +kernel)]; exact ⟨rfl, rfl⟩))
    (fun os started H enc _ => aac os started H enc)

end Go.Proofs.YtjdnhamngpafmaaGreat
