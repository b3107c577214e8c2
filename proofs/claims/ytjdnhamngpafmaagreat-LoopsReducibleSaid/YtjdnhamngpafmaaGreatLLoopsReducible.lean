/-
  The law LoopsReducible holds: it answers true for every input, and each argument reads behind the call as it read before.
-/
import Derived.Test.YtjdnhamngpafmaaGreatRows
import Derived.Test.YtjdnhamngpafmaaGreatB6
import Derived.ProofKit
set_option linter.all false
namespace Go.Proofs.YtjdnhamngpafmaaGreat
open Go.ChangeShapes Go.WideShapes Go.ChangeAt Go.RowKit Go.Av

theorem aad : ∀ t ∈ #[34].toList, Tryz.prog.readableRec t = true ∧ t < Tryz.prog.types.size := by
  have h : ∀ t ∈ [34], Tryz.prog.readableRec t = true ∧ t < Tryz.prog.types.size := by
    intro t ht;simp only[List.mem_cons, List.not_mem_nil, or_false]at ht;rcases ht with rfl <;> exact ⟨by kernel_rfl, of_decide_eq_true (by kernel_rfl)⟩
  intro t ht;apply h;simp only[List.mem_cons, List.not_mem_nil, or_false]at ht ⊢;rcases ht with rfl <;> simp

set_option maxRecDepth 100000 in
theorem B' (os : Os) (started : os.Started) (H : Type) (enc : TypeId × Value -> H) :
    ReturnsInHanded Rows.loopsReducibleRow.assume Tryz.checked os 4 .any (Rows.loopsReducibleSpec.pre6 enc Tryz.prog Tryz.f4 Rows.loopsReducibleRow.domain Rows.loopsReducibleRow.apart)
      (Rows.loopsReducibleSpec.post enc Tryz.prog Tryz.f4 Rows.loopsReducibleRow.apart Rows.loopsReducibleRow.fresh Rows.loopsReducibleRow.handsOn Rows.loopsReducibleRow.again) := by
  refine returnsInHanded_of_change_sized (C := Tryz.checked) (show ownKnob Tryz.prog.godebug = none by kernel_rfl) started (by kernel_rfl) Tryz.func4
    (ChangeSpec.witness6 (enc := enc) (C := Tryz.checked) false ⟨#[], #[.agg #[.int .i64 0, .slice none 0 0]], []⟩ 8 (by kernel_rfl) (by kernel_rfl) (by kernel_rfl) (by kernel_rfl)) ?_
  intro W base args ds gs before Jr hW _ cM _;have hW' := hW;obtain ⟨p, q, hA0, hV, rfl, _, _⟩ := hW';have hA : DataW.TrodAll enc Tryz.prog W 0 (fun _ => true) true Tryz.f4.params.toList args.toList ds p := hA0;have nV : (DataW.weightsEach Tryz.prog (Tryz.f4.params.toList ++ []) (ds ++ gs)).all (· <= reachBytes) = true := cM;rw[Tryz.params4]at hA nV;obtain ⟨rfl, rfl⟩ := trodVars_none hV;obtain ⟨v0, d0, rfl, rfl, h0⟩ := trodAll_one hA;have Sb : ∀ (j : Nat) t d, [34][j]? = some t -> [d0][j]? = some d -> ∀ m ∈ d.weights Tryz.prog t, m <= reachBytes := fun j t d ht hd m hm => by
    have := List.all_eq_true.1 nV m (by
      simp only[List.append_nil];exact DataW.weights_mem_each ht hd m hm)
    simpa using this
  have EW := DK Tryz.underlying34 (Jr 0 34 v0 rfl rfl);obtain ⟨n0, a0, s0, r0⟩ := Ab laid YT (t := 34) (by simp[SA]) h0 EW (Sb 0 34 d0 rfl rfl);obtain ⟨x0, e0, aae⟩ := L' s0;rw[e0]at r0;refine zg (P := Tryz.prog) (xs := [x0.enc]) (tb := 4) laid (by rw[Tryz.params4]; exact aad) rfl (by kernel_rfl) Tryz.underlying4 hW rfl (p9 x0 aae) ⟨rfl, fun j c u hc hu => ?_⟩
  match j, hc, hu with
  | 0, hc, hu =>
    simp at hc hu;subst hc;subst hu;exact r0
  | j + 1, hc, _ => simp at hc

theorem loopsReducible_holds : Rows.LoopsReducibleSaid :=
  OpenClaim.holds_of_wide 4 Tryz.f4 rfl rfl rfl rfl rfl rfl rfl ⟨rfl, rfl, rfl, rfl, rfl⟩ rfl rfl rfl rfl rfl (by kernel_rfl) Tryz.func4 (by kernel_rfl)
    (of_decide_eq_true (by kernel_rfl)) (by unfold Func.isWrapper; first|(rw[if_pos (by decide +kernel)]; kernel_rfl)|(rw[if_neg (by decide +kernel)]; exact ⟨rfl, rfl⟩))
    (fun os started H enc _ => B' os started H enc)

end Go.Proofs.YtjdnhamngpafmaaGreat
