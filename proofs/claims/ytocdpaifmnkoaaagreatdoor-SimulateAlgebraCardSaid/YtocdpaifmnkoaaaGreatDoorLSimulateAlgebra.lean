/-
  The law SimulateAlgebra holds: it answers true for every input, and each argument reads behind the call as it read before; what the listed package variables hold is tied to the program's text.
-/
import Derived.Test.YtocdpaifmnkoaaaGreatDoorRows
import Derived.Test.YtocdpaifmnkoaaaGreatDoorTie
import Derived.Test.YtocdpaifmnkoaaaGreatDoorCards
import Derived.Test.YtocdpaifmnkoaaaGreatDoorA6
import Derived.ProofKit
import Derived.WalkKit
import Derived.LaidLaws
import Derived.Lay
import Derived.Lib.LaidTab
import Derived.Stop.LaidErr
import Derived.SevenTiedAt
set_option linter.all false
namespace Go.Proofs.YtocdpaifmnkoaaaGreatDoor
open Go.ChangeShapes Go.WideShapes Go.ChangeAt Go.RowKit Go.Av

theorem simulateAlgebra_params : ∀ t ∈ #[3, 3, 3, 3, 3].toList, Tryz.prog.readableRec t = true ∧ t < Tryz.prog.types.size := by
  have h : Tryz.prog.readableRec 3 = true ∧ 3 < Tryz.prog.types.size := ⟨by kernel_rfl, of_decide_eq_true (by kernel_rfl)⟩
  intro t ht;simp only[List.mem_cons, List.not_mem_nil, or_false]at ht;rcases ht with rfl|rfl|rfl|rfl|rfl <;> exact h

/-- The variables that the row lists. -/
def lawLaid : List (String × DataW Unit) := [("math/bits.deBruijn32tab", Rows.laid_math_bits_deBruijn32tab), ("math/bits.deBruijn64tab", Rows.laid_math_bits_deBruijn64tab), ("internal/strconv.uint64pow10", Rows.laid_internal_strconv_uint64pow10), ("provenance/simulate.wide", Rows.laid_provenance_simulate_wide)]

theorem glob_of_laid {W : World} (h : laidMet Tryz.prog lawLaid W) : DN W := by
  have h2 := h.tail.tail;have ht : Lib.TabIs Tryz.prog W "internal/strconv.uint64pow10" .u64 Lib.pow10Tab := Lib.tabIs_of_head (g := 1) (t := 287) (e := 158) (n := 20) (by kernel_rfl) (by kernel_rfl) (by kernel_rfl) (by kernel_rfl) (by kernel_rfl) (by kernel_rfl) h2;unfold Lib.TabIs World.var? at ht;rw [show Tryz.prog.globalNamed "internal/strconv.uint64pow10" = some 1 by kernel_rfl] at ht;simp only [Option.bind_some] at ht;cases hh : W.heap[1]? with
  | none =>
    rw[hh]at ht;cases ht
  | some o =>
    rw[hh]at ht;cases o with
    | cells cs t fz =>
      simp only[Option.some.injEq]at ht;subst ht;exact ⟨t, fz, hh⟩
    | _ => cases ht

theorem wf_i64 {x : Int} (h : (Lit.int .i64 x).wf = true) : i64 x := by
  have := h;simpa[Lit.wf, IntKind.min, IntKind.max, IntKind.signed, IntKind.bits, i64]using this

theorem lawLaidOut : laidOutB Tryz.prog = true := by kernel_rfl

set_option maxRecDepth 100000 in
theorem simulateAlgebra_lifted (os : Os) (started : os.Started) (H : Type) (enc : TypeId × Value -> H) :
    ReturnsInHanded Rows.simulateAlgebraRow.assume Tryz.checked os 3 .any (fun w args => (Rows.simulateAlgebraSpec.pre enc Tryz.prog Tryz.f3 Rows.simulateAlgebraRow.domain Rows.simulateAlgebraRow.apart w args ∧ laidMetH Tryz.prog Rows.simulateAlgebraRow.laid w) ∧ sizedMet enc Tryz.prog Tryz.f3 (OpenSpec.ofChange Rows.simulateAlgebraSpec) Rows.simulateAlgebraRow.apart w args)
      (Rows.simulateAlgebraSpec.post enc Tryz.prog Tryz.f3 Rows.simulateAlgebraRow.apart Rows.simulateAlgebraRow.fresh Rows.simulateAlgebraRow.handsOn Rows.simulateAlgebraRow.again) := by
  refine returnsInHanded_of_change_and (C := Tryz.checked) (X := fun w _ => laidMetH Tryz.prog Rows.simulateAlgebraRow.laid w) (fun _ _ _ hh h => h.of_heap hh) (show ownKnob Tryz.prog.godebug = none by kernel_rfl) started (by kernel_rfl) Tryz.func3
    (ChangeSpec.witness_shaped (enc := enc) (C := Tryz.checked) (os := os) (X := fun w _ => laidMetH Tryz.prog Rows.simulateAlgebraRow.laid w) false (World.laidAll Tryz.prog os lawLaid) #[.int .i64 0, .int .i64 0, .int .i64 0, .int .i64 0, .int .i64 0] 8 (World.laidAll_os _ _ _)
      (World.shaped_of_ZipB (by kernel_rfl) (by kernel_rfl)) (by kernel_rfl) (by kernel_rfl) (by kernel_rfl)
      (by rw[MakeChecks.laidMetH_plain _ _ _ (by kernel_rfl)]; exact laidMet_laidAll _ (by kernel_rfl) (by kernel_rfl))) ?_
  intro W base args ds gs before CQ hW _ _ hX _;have hglob : DN W := glob_of_laid (by
    have h := hX;rw[MakeChecks.laidMetH_plain _ _ _ (by kernel_rfl)]at h;exact h)
  have hW' := hW;obtain ⟨p, q, hA0, hV, rfl, _, _⟩ := hW';have hA : DataW.TrodAll enc Tryz.prog W 0 (fun _ => true) true Tryz.f3.params.toList args.toList ds p := hA0;rw[Tryz.params3]at hA;obtain ⟨rfl, rfl⟩ := trodVars_none hV;obtain ⟨v0, vs0, d0, ds0, p0, q0, e0, rfl, rfl, h0, hr0⟩ := trodAll_cons hA;obtain ⟨v1, vs1, d1, ds1, p1, q1, rfl, rfl, rfl, h1, wO⟩ := trodAll_cons hr0;obtain ⟨v2, vs2, d2, ds2, p2, q2, rfl, rfl, rfl, h2, Kq⟩ := trodAll_cons wO;obtain ⟨v3, vs3, d3, ds3, p3, q3, rfl, rfl, rfl, h3, VA⟩ := trodAll_cons Kq;obtain ⟨v4, vs4, d4, ds4, p4, q4, rfl, rfl, rfl, h4, hr4⟩ := trodAll_cons VA;obtain ⟨rfl, rfl, rfl⟩ := trodAll_nil hr4;obtain ⟨args⟩ := args;obtain rfl : args = [v0, v1, v2, v3, v4] := e0;obtain ⟨x0, rfl, rfl, rfl, w0⟩ := open_int Tryz.underlying3 (CQ 0 3 v0 rfl rfl) h0;obtain ⟨x1, rfl, rfl, rfl, w1⟩ := open_int Tryz.underlying3 (CQ 1 3 v1 rfl rfl) h1;obtain ⟨x2, rfl, rfl, rfl, w2⟩ := open_int Tryz.underlying3 (CQ 2 3 v2 rfl rfl) h2;obtain ⟨x3, rfl, rfl, rfl, w3⟩ := open_int Tryz.underlying3 (CQ 3 3 v3 rfl rfl) h3;obtain ⟨x4, rfl, rfl, rfl, w4⟩ := open_int Tryz.underlying3 (CQ 4 3 v4 rfl rfl) h4;refine yU (P := Tryz.prog) (xs := [aI x0, aI x1, aI x2, aI x3, aI x4]) (tb := 4) lawLaidOut (by rw[Tryz.params3]; exact simulateAlgebra_params) rfl (by kernel_rfl) Tryz.underlying4 hW rfl (o9 x0 x1 x2 x3 x4 (wf_i64 w0) (wf_i64 w1) (wf_i64 w2) (wf_i64 w3) (wf_i64 w4)) ⟨rfl, fun j c u hc hu => ?_⟩ hglob
  match j, hc, hu with
  | 0, hc, hu => simp at hc hu; subst hc; subst hu; exact .v (wf_i64 w0)
  | 1, hc, hu => simp at hc hu; subst hc; subst hu; exact .v (wf_i64 w1)
  | 2, hc, hu => simp at hc hu; subst hc; subst hu; exact .v (wf_i64 w2)
  | 3, hc, hu => simp at hc hu; subst hc; subst hu; exact .v (wf_i64 w3)
  | 4, hc, hu => simp at hc hu; subst hc; subst hu; exact .v (wf_i64 w4)
  | j + 5, hc, _ => simp at hc

theorem simulateAlgebra_row : Rows.SimulateAlgebraSaid :=
  OpenClaim.holds_of_wide 3 Tryz.f3 rfl rfl rfl rfl rfl rfl rfl ⟨rfl, rfl, rfl, rfl, rfl⟩ rfl rfl rfl rfl rfl (by kernel_rfl) Tryz.func3 (by kernel_rfl)
    (of_decide_eq_true (by kernel_rfl)) (by unfold Func.isWrapper; first|(rw[if_pos (by decide +kernel)]; kernel_rfl)|(rw[if_neg (by decide +kernel)]; exact ⟨rfl, rfl⟩))
    (fun os started H enc _ => simulateAlgebra_lifted os started H enc)

theorem simulateAlgebra_holds : Rows.SimulateAlgebraCardSaid :=
  Claim7.holds_tied_plain_at .later [] [.data, .data, .data, .data] true (true, "31f6bfab659c21ca1833842b8b35cff3a271a7bf2305f7394807e88d184c82be") true
    simulateAlgebra_row (fun _ h => by cases h) (by kernel_rfl) (fun _ h => by cases h) simulateAlgebra_row_tie rfl ⟨rfl, rfl⟩ (by kernel_rfl) rfl
    (fun f fn hf pP => by
      obtain rfl : f = 3 := Option.some.inj ((show Tryz.prog.funcNamed "provenance/provenancekeep3.SimulateAlgebra" = some 3 by kernel_rfl).symm.trans hf) |>.symm;obtain rfl : fn = Tryz.f3 := (Option.some.inj (Tryz.func3.symm.trans pP)).symm;exact ⟨by kernel_rfl, fun j t ht => by
        rw[Tryz.params3]at ht;have hq : t ∈ [3, 3, 3, 3, 3] := by simpa using Array.mem_of_getElem? ht
        have h3 : t = 3 := by simpa using hq
        subst h3;exact (show Tryz.prog.wantsStandIn 3 = false by kernel_rfl)⟩)
    (by kernel_rfl)

end Go.Proofs.YtocdpaifmnkoaaaGreatDoor
