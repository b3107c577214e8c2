/-
  The law TopNoMissing holds: it answers true for every input, and each argument reads behind the call as it read before.
-/
import Derived.Test.YtkkookchlddbkaaGreatRows
import Derived.Test.YtkkookchlddbkaaGreatA6
import Derived.ProofKit
set_option linter.all false
namespace Go.Proofs.YtkkookchlddbkaaGreat.V
open Go.ChangeShapes Go.WideShapes Go.ChangeAt Go.RowKit Go.Av

theorem Yn : ∀ t ∈ #[22, 23, 24].toList, Tryz.prog.readableRec t = true ∧ t < Tryz.prog.types.size := by
  have h : ∀ t ∈ [22, 23, 24], Tryz.prog.readableRec t = true ∧ t < Tryz.prog.types.size := by
    intro t ht;simp only[List.mem_cons, List.not_mem_nil, or_false]at ht;rcases ht with rfl|rfl|rfl <;> exact ⟨by kernel_rfl, of_decide_eq_true (by kernel_rfl)⟩
  intro t ht;apply h;simp only[List.mem_cons, List.not_mem_nil, or_false]at ht ⊢;rcases ht with rfl|rfl|rfl <;> simp

set_option maxRecDepth 100000 in
theorem Ym (os : Os) (started : os.Started) (H : Type) (enc : TypeId × Value -> H) :
    ReturnsInHanded Rows.topNoMissingRow.assume Tryz.checked os 3 .any (Rows.topNoMissingSpec.pre6 enc Tryz.prog Tryz.f3 Rows.topNoMissingRow.domain Rows.topNoMissingRow.apart)
      (Rows.topNoMissingSpec.post enc Tryz.prog Tryz.f3 Rows.topNoMissingRow.apart Rows.topNoMissingRow.fresh Rows.topNoMissingRow.handsOn Rows.topNoMissingRow.again) := by
  refine returnsInHanded_of_change_sized (C := Tryz.checked) (show ownKnob Tryz.prog.godebug = none by kernel_rfl) started (by kernel_rfl) Tryz.func3
    (ChangeSpec.witness6 (enc := enc) (C := Tryz.checked) false ⟨#[], #[.slice none 0 0, .slice none 0 0, .slice none 0 0], []⟩ 8 (by kernel_rfl) (by kernel_rfl) (by kernel_rfl) (by kernel_rfl)) ?_
  intro W base args ds gs before yO hW _ dk _;have Yq := hW;obtain ⟨p, q, Yp, hV, rfl, _, _⟩ := Yq;have hA : DataW.TrodAll enc Tryz.prog W 0 (fun _ => true) true Tryz.f3.params.toList args.toList ds p := Yp;have oN : (DataW.weightsEach Tryz.prog (Tryz.f3.params.toList ++ []) (ds ++ gs)).all (· <= reachBytes) = true := dk;rw[Tryz.params3]at hA oN;obtain ⟨rfl, rfl⟩ := trodVars_none hV;obtain ⟨v0, v1, v2, d0, d1, d2, p0, p1, p2, rfl, rfl, rfl, h0, h1, h2⟩ := trodAll_three hA;have CG : ∀ (j : Nat) t d, [22, 23, 24][j]? = some t -> [d0, d1, d2][j]? = some d -> ∀ m ∈ d.weights Tryz.prog t, m <= reachBytes := fun j t d ht hd m hm => by
    have := List.all_eq_true.1 oN m (by
      simp only[List.append_nil];exact DataW.weights_mem_each ht hd m hm)
    simpa using this
  have SD : v0.cells = #[v0] := sF Tryz.underlying22 (yO 0 22 v0 rfl rfl);obtain ⟨n0, a0, s0, r0⟩ := qD laid TC (t := 22) (by simp[Lw]) h0 SD (CG 0 22 d0 rfl rfl);obtain ⟨x0, rfl, Yo⟩ := Cf s0;have wW : v1.cells = #[v1] := sF Tryz.underlying23 (yO 1 23 v1 rfl rfl);obtain ⟨n1, a1, s1, r1⟩ := qD laid TC (t := 23) (by simp[Lw]) h1 wW (CG 1 23 d1 rfl rfl);obtain ⟨x1, rfl⟩ := Gb s1;have Mo : v2.cells = #[v2] := sF Tryz.underlying24 (yO 2 24 v2 rfl rfl);obtain ⟨n2, a2, s2, r2⟩ := qD laid TC (t := 24) (by simp[Lw]) h2 Mo (CG 2 24 d2 rfl rfl);obtain ⟨x2, rfl⟩ := C8 s2;refine y7 (P := Tryz.prog) (xs := [eD x0, kV x1, eR x2]) (tb := 4) laid (by rw[Tryz.params3]; exact Yn) rfl (by kernel_rfl) Tryz.underlying4 hW rfl (sM x0 Yo x1 x2) ⟨rfl, fun j c u hc hu => ?_⟩
  match j, hc, hu with
  | 0, hc, hu =>
    simp at hc hu;subst hc;subst hu;exact r0
  | 1, hc, hu =>
    simp at hc hu;subst hc;subst hu;exact r1
  | 2, hc, hu =>
    simp at hc hu;subst hc;subst hu;exact r2
  | j + 3, hc, _ => simp at hc

theorem topNoMissing_holds : Rows.TopNoMissingSaid :=
  OpenClaim.holds_of_wide 3 Tryz.f3 rfl rfl rfl rfl rfl rfl rfl ⟨rfl, rfl, rfl, rfl, rfl⟩ rfl rfl rfl rfl rfl (by kernel_rfl) Tryz.func3 (by kernel_rfl)
    (of_decide_eq_true (by kernel_rfl)) (by unfold Func.isWrapper; first|(rw[if_pos (by decide +kernel)]; kernel_rfl)|(rw[if_neg (by decide +kernel)]; exact ⟨rfl, rfl⟩))
    (fun os started H enc _ => Ym os started H enc)

end Go.Proofs.YtkkookchlddbkaaGreat.V
namespace Go.Proofs.YtkkookchlddbkaaGreat
theorem topNoMissing_holds : Rows.TopNoMissingSaid := V.topNoMissing_holds
end Go.Proofs.YtkkookchlddbkaaGreat
