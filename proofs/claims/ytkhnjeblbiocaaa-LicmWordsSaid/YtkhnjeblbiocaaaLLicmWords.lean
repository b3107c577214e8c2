/-
  The law LicmWords holds: it answers true for every input, and each argument reads behind the call as it read before.
-/
import Derived.Test.YtkhnjeblbiocaaaRows
import Derived.Test.YtkhnjeblbiocaaaU2
import Derived.ProofKit
set_option linter.all false
namespace Go.Proofs.Ytkhnjeblbiocaaa
open Go.ChangeShapes Go.WideShapes Go.ChangeAt Go.RowKit Go.Av

theorem L4 : ∀ t ∈ #[24].toList, Try.prog.readableRec t = true ∧ t < Try.prog.types.size := by
  have h : ∀ t ∈ [24], Try.prog.readableRec t = true ∧ t < Try.prog.types.size := by
    intro t ht;simp only[List.mem_cons, List.not_mem_nil, or_false]at ht;rcases ht with rfl <;> exact ⟨by kernel_rfl, of_decide_eq_true (by kernel_rfl)⟩
  intro t ht;apply h;simp only[List.mem_cons, List.not_mem_nil, or_false]at ht ⊢;rcases ht with rfl <;> simp

set_option maxRecDepth 100000 in
theorem L0 (os : Os) (started : os.Started) (H : Type) (enc : TypeId × Value -> H) :
    ReturnsInHanded Rows.licmWordsRow.assume Try.checked os 10 .any (Rows.licmWordsSpec.pre6 enc Try.prog Try.f10 Rows.licmWordsRow.domain Rows.licmWordsRow.apart)
      (Rows.licmWordsSpec.post enc Try.prog Try.f10 Rows.licmWordsRow.apart Rows.licmWordsRow.fresh Rows.licmWordsRow.handsOn Rows.licmWordsRow.again) := by
  refine returnsInHanded_of_change_sized (C := Try.checked) (show ownKnob Try.prog.godebug = none by kernel_rfl) started (by kernel_rfl) Try.func10
    (ChangeSpec.witness6 (enc := enc) (C := Try.checked) false ⟨#[], #[.agg #[.slice none 0 0, .int .i64 0]], []⟩ 8 (by kernel_rfl) (by kernel_rfl) (by kernel_rfl) (by kernel_rfl)) ?_
  intro W base args ds gs before E4 hW _ cU _;have TH := hW;obtain ⟨p, q, Tx, hV, rfl, _, _⟩ := TH;have hA : DataW.TrodAll enc Try.prog W 0 (fun _ => true) true Try.f10.params.toList args.toList ds p := Tx;have lW : (DataW.weightsEach Try.prog (Try.f10.params.toList ++ []) (ds ++ gs)).all (· <= reachBytes) = true := cU;rw[Try.params10]at hA lW;obtain ⟨rfl, rfl⟩ := trodVars_none hV;obtain ⟨v0, d0, rfl, rfl, h0⟩ := trodAll_one hA;have Ue : ∀ (j : Nat) t d, [24][j]? = some t -> [d0][j]? = some d -> ∀ m ∈ d.weights Try.prog t, m <= reachBytes := fun j t d ht hd m hm => by
    have := List.all_eq_true.1 lW m (by
      simp only[List.append_nil];exact DataW.weights_mem_each ht hd m hm)
    simpa using this
  have G0 := wP Try.underlying24 (E4 0 24 v0 rfl rfl);obtain ⟨n0, a0, s0, r0⟩ := tM laid Je (t := 24) (by simp[Ga]) h0 G0 (Ue 0 24 d0 rfl rfl);obtain ⟨x0, e0, Sx⟩ := yM s0;rw[e0]at r0;refine ta (P := Try.prog) (xs := [x0.enc]) (tb := 4) laid (by rw[Try.params10]; exact L4) rfl (by kernel_rfl) Try.underlying4 hW rfl (MZ x0 Sx) ⟨rfl, fun j c u hc hu => ?_⟩
  match j, hc, hu with
  | 0, hc, hu =>
    simp at hc hu;subst hc;subst hu;exact r0
  | j + 1, hc, _ => simp at hc

theorem licmWords_holds : Rows.LicmWordsSaid :=
  OpenClaim.holds_of_wide 10 Try.f10 rfl rfl rfl rfl rfl rfl rfl ⟨rfl, rfl, rfl, rfl, rfl⟩ rfl rfl rfl rfl rfl (by kernel_rfl) Try.func10 (by kernel_rfl)
    (of_decide_eq_true (by kernel_rfl)) (by unfold Func.isWrapper; first|(rw[if_pos (by decide +kernel)]; kernel_rfl)|(rw[if_neg (by decide +kernel)]; exact ⟨rfl, rfl⟩))
    (fun os started H enc _ => L0 os started H enc)

end Go.Proofs.Ytkhnjeblbiocaaa
