/-
  The law MovesClean holds: it answers true for every input, and each argument reads behind the call as it read before.
-/
import Derived.Test.YtjdnhamngpafmaaGreatRows
import Derived.Test.YtjdnhamngpafmaaGreatE6
import Derived.ProofKit
set_option linter.all false
namespace Go.Proofs.YtjdnhamngpafmaaGreat
open Go.ChangeShapes Go.WideShapes Go.ChangeAt Go.RowKit Go.Av

theorem aaa : ∀ t ∈ #[24].toList, Tryz.prog.readableRec t = true ∧ t < Tryz.prog.types.size := by
  have h : ∀ t ∈ [24], Tryz.prog.readableRec t = true ∧ t < Tryz.prog.types.size := by
    intro t ht;simp only[List.mem_cons, List.not_mem_nil, or_false]at ht;rcases ht with rfl <;> exact ⟨by kernel_rfl, of_decide_eq_true (by kernel_rfl)⟩
  intro t ht;apply h;simp only[List.mem_cons, List.not_mem_nil, or_false]at ht ⊢;rcases ht with rfl <;> simp

set_option maxRecDepth 100000 in
theorem B' (os : Os) (started : os.Started) (H : Type) (enc : TypeId × Value -> H) :
    ReturnsInHanded Rows.movesCleanRow.assume Tryz.checked os 5 .any (Rows.movesCleanSpec.pre6 enc Tryz.prog Tryz.f5 Rows.movesCleanRow.domain Rows.movesCleanRow.apart)
      (Rows.movesCleanSpec.post enc Tryz.prog Tryz.f5 Rows.movesCleanRow.apart Rows.movesCleanRow.fresh Rows.movesCleanRow.handsOn Rows.movesCleanRow.again) := by
  refine returnsInHanded_of_change_sized (C := Tryz.checked) (show ownKnob Tryz.prog.godebug = none by kernel_rfl) started (by kernel_rfl) Tryz.func5
    (ChangeSpec.witness6 (enc := enc) (C := Tryz.checked) false ⟨#[], #[.agg #[.slice none 0 0, .int .i64 0]], []⟩ 8 (by kernel_rfl) (by kernel_rfl) (by kernel_rfl) (by kernel_rfl)) ?_
  intro W base args ds gs before Qj hW _ cH _;have hW' := hW;obtain ⟨p, q, T8, hV, rfl, _, _⟩ := hW';have hA : DataW.TrodAll enc Tryz.prog W 0 (fun _ => true) true Tryz.f5.params.toList args.toList ds p := T8;have nU : (DataW.weightsEach Tryz.prog (Tryz.f5.params.toList ++ []) (ds ++ gs)).all (· <= reachBytes) = true := cH;rw[Tryz.params5]at hA nU;obtain ⟨rfl, rfl⟩ := trodVars_none hV;obtain ⟨v0, d0, rfl, rfl, h0⟩ := trodAll_one hA;have hwt : ∀ (j : Nat) t d, [24][j]? = some t -> [d0][j]? = some d -> ∀ m ∈ d.weights Tryz.prog t, m <= reachBytes := fun j t d ht hd m hm => by
    have := List.all_eq_true.1 nU m (by
      simp only[List.append_nil];exact DataW.weights_mem_each ht hd m hm)
    simpa using this
  have Mo := Dr Tryz.underlying24 (Qj 0 24 v0 rfl rfl);obtain ⟨n0, a0, s0, r0⟩ := zM laid XZ (t := 24) (by simp[RI]) h0 Mo (hwt 0 24 d0 rfl rfl);obtain ⟨x0, e0, aab⟩ := GX s0;rw[e0]at r0;refine yW (P := Tryz.prog) (xs := [x0.enc]) (tb := 4) laid (by rw[Tryz.params5]; exact aaa) rfl (by kernel_rfl) Tryz.underlying4 hW rfl (vf x0 aab) ⟨rfl, fun j c u hc hu => ?_⟩
  match j, hc, hu with
  | 0, hc, hu =>
    simp at hc hu;subst hc;subst hu;exact r0
  | j + 1, hc, _ => simp at hc

theorem movesClean_holds : Rows.MovesCleanSaid :=
  OpenClaim.holds_of_wide 5 Tryz.f5 rfl rfl rfl rfl rfl rfl rfl ⟨rfl, rfl, rfl, rfl, rfl⟩ rfl rfl rfl rfl rfl (by kernel_rfl) Tryz.func5 (by kernel_rfl)
    (of_decide_eq_true (by kernel_rfl)) (by unfold Func.isWrapper; first|(rw[if_pos (by decide +kernel)]; kernel_rfl)|(rw[if_neg (by decide +kernel)]; exact ⟨rfl, rfl⟩))
    (fun os started H enc _ => B' os started H enc)

end Go.Proofs.YtjdnhamngpafmaaGreat
