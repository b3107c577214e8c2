/-
  Texts bound together by a program of mine: T5, T6, T7, T8, T9, T10, T11, T12, T13, T14, T15.
-/
import Derived.Test.YtakdmelemfnmdaaC2
set_option linter.all false

section
set_option linter.unusedSimpArgs false
-- !tab vtab
-- !upto Pat.enc_upto Pat.map_upto
namespace Go.Proofs.Ytakdmelemfnmdaa
open Go.Av

def zeroPat : List AVal := [.v (.int .i64 0), .v (.string ByteArray.empty), .v (.int .i64 0), .lst 4 [] .ex]

/-- What DeleteFunc leaves in the row. -/
def delCells (f : Pat → Bool) (l : List Pat) : List AVal :=
  cellsAll ((l.filter (fun p => !f p)).map Pat.enc) ++ (List.replicate (l.length - (l.filter (fun p => !f p)).length) zeroPat).flatten

theorem set_getElem?_same {α : Type} {l : List α} {i : Nat} {x : α} (h : l[i]? = some x) : l.set i x = l := by
  apply List.ext_getElem?
  intro j
  by_cases e : i = j
  · subst e
    rw [List.getElem?_set_self (lt_of_getElem? h), h]
  · rw [List.getElem?_set_ne e]

theorem deleteFunc_nil (f : Pat → Bool) (id : Nat) (O : List AObj) (hO : ∀ o ∈ O, o.upto O.length) : ECall Try.prog 73 O [eR [], .fn (.func id) [] []] fun r O' => r = eR [] ∧ O' = O := by
  refine ecall_of hT true O.length Try.func73 rfl (by kernel_rfl) (by simp [Try.ntmps73]) (by simp) ?_
  show AWP Try.prog _ _ _ ⟨42, _, _⟩
  dsimp only [Tmp, TypeId, slotsOf]
  first | refine awp_seq (awp_region hT hm ?_) | refine awp_region hT hm ?_ | refine awp_seq (awp_seq (awp_region hT hm ?_)) | refine awp_seq (awp_seq (awp_seq (awp_region hT hm ?_)))
  simp -dsimp only [↓vpre, vpos, Int.reduceNeg, Int.reduceLE, Int.reduceLT, reduceIte, Nat.reduceEqDiff, Nat.reduceLT, Nat.reduceLeDiff, Nat.reduceAdd, Nat.reduceMul, Nat.reduceSub, Nat.reducePow, ne_eq, Int.reduceAdd, Int.reduceSub, Int.reduceMul, Int.reduceToNat, implies_true, vtab]
  refine at_intro ?_
  simp -dsimp only [vend, ne_eq, Nat.reduceEqDiff, reduceCtorEq]
  first | refine awp_seq (awp_region hT hm ?_) | refine awp_region hT hm ?_ | refine awp_seq (awp_seq (awp_region hT hm ?_)) | refine awp_seq (awp_seq (awp_seq (awp_region hT hm ?_)))
  simp -dsimp only [↓vpre, vpos, Int.reduceNeg, Int.reduceLE, Int.reduceLT, reduceIte, Nat.reduceEqDiff, Nat.reduceLT, Nat.reduceLeDiff, Nat.reduceAdd, Nat.reduceMul, Nat.reduceSub, Nat.reducePow, ne_eq, Int.reduceAdd, Int.reduceSub, Int.reduceMul, Int.reduceToNat, implies_true, vtab]
  refine .inr (.inr ⟨_, (indexFunc_spec f id [] [] O hO [] (by simp)), later_intro ?_⟩)
  simp -dsimp only [↓vpre, vpos, Int.reduceNeg, Int.reduceLE, Int.reduceLT, reduceIte, Nat.reduceEqDiff, Nat.reduceLT, Nat.reduceLeDiff, Nat.reduceAdd, Nat.reduceMul, Nat.reduceSub, Nat.reducePow, ne_eq, Int.reduceAdd, Int.reduceSub, Int.reduceMul, Int.reduceToNat, implies_true, vtab]
  refine at_intro ?_
  simp -dsimp only [vend, ne_eq, Nat.reduceEqDiff, reduceCtorEq]
  first | refine awp_seq (awp_region hT hm ?_) | refine awp_region hT hm ?_ | refine awp_seq (awp_seq (awp_region hT hm ?_)) | refine awp_seq (awp_seq (awp_seq (awp_region hT hm ?_)))
  simp -dsimp only [↓vpre, vpos, Int.reduceNeg, Int.reduceLE, Int.reduceLT, reduceIte, Nat.reduceEqDiff, Nat.reduceLT, Nat.reduceLeDiff, Nat.reduceAdd, Nat.reduceMul, Nat.reduceSub, Nat.reducePow, ne_eq, Int.reduceAdd, Int.reduceSub, Int.reduceMul, Int.reduceToNat, implies_true, vtab, idx, List.findIdx?_nil]
  refine at_intro ?_
  simp -dsimp only [vend, ne_eq, Nat.reduceEqDiff, reduceCtorEq]
  first | refine awp_seq (awp_cond rfl (fun h => ?_) (fun h => ?_)) | refine awp_cond rfl (fun h => ?_) (fun h => ?_) | refine awp_seq (awp_seq (awp_cond rfl (fun h => ?_) (fun h => ?_)))
  · first | refine awp_seq (awp_region hT hm ?_) | refine awp_region hT hm ?_ | refine awp_seq (awp_seq (awp_region hT hm ?_)) | refine awp_seq (awp_seq (awp_seq (awp_region hT hm ?_)))
    simp -dsimp only [↓vpre, vpos, Int.reduceNeg, Int.reduceLE, Int.reduceLT, reduceIte, Nat.reduceEqDiff, Nat.reduceLT, Nat.reduceLeDiff, Nat.reduceAdd, Nat.reduceMul, Nat.reduceSub, Nat.reducePow, ne_eq, Int.reduceAdd, Int.reduceSub, Int.reduceMul, Int.reduceToNat, implies_true, vtab]
    refine at_intro ?_
    simp -dsimp only [vend, ne_eq, Nat.reduceEqDiff, reduceCtorEq]
    refine awp_ret ?_
    simp -dsimp only [↓vpre, vpos, Int.reduceNeg, Int.reduceLE, Int.reduceLT, reduceIte, Nat.reduceEqDiff, Nat.reduceLT, Nat.reduceLeDiff, Nat.reduceAdd, Nat.reduceMul, Nat.reduceSub, Nat.reducePow, ne_eq, Int.reduceAdd, Int.reduceSub, Int.reduceMul, Int.reduceToNat, implies_true, vtab, RetTo, Try.results73, retVals, retVal, mkRet, AVal.upto, Nat.zero_le, Nat.le_refl, seqPost_ret, blockPost_ret, loopPost_ret, List.take_length]
    simpa [uptoL] using hO
  · simp at h

theorem filter_idx {f : Pat → Bool} {l : List Pat} {k : Nat} (h : idx f l = k) : k < l.length ∧ (l.take (k + 1)).filter (fun p => !f p) = l.take k := by
  unfold idx at h
  cases hx : l.findIdx? f with
  | none =>
    simp only [hx] at h
    omega
  | some j =>
    simp only [hx] at h
    have : j = k := by omega
    subst this
    rw [List.findIdx?_eq_some_iff_getElem] at hx
    obtain ⟨h1, h2, h3⟩ := hx
    refine ⟨h1, ?_⟩
    rw [take_next (List.getElem?_eq_getElem h1), List.filter_append]
    have : (l.take j).filter (fun p => !f p) = l.take j := by
      rw [List.filter_eq_self]
      intro p hp
      obtain ⟨i, hi⟩ := List.getElem?_of_mem hp
      have hlt := lt_of_getElem? hi
      simp only [List.length_take] at hlt
      rw [List.getElem?_take_of_lt (by omega), List.getElem?_eq_getElem (by omega)] at hi
      simp only [Option.some.injEq] at hi
      subst hi
      simpa using h3 i (by omega)
    rw [this]
    simp [h2]

theorem idx_neg {f : Pat → Bool} {l : List Pat} (h : idx f l = -1) : l.filter (fun p => !f p) = l := by
  unfold idx at h
  cases hx : l.findIdx? f with
  | none =>
    rw [List.findIdx?_eq_none_iff] at hx
    rw [List.filter_eq_self]
    intro p hp
    simp [hx p hp]
  | some j =>
    simp only [hx] at h
    omega

theorem idx_cases (f : Pat → Bool) (l : List Pat) : idx f l = -1 ∨ ∃ k : Nat, idx f l = k := by
  unfold idx
  cases l.findIdx? f with
  | none => exact .inl rfl
  | some j => exact .inr ⟨j, rfl⟩

structure DelInv (f : Pat → Bool) (l : List Pat) (j : Nat) (L : List Pat) : Prop where
  le : j ≤ l.length
  len : L.length = l.length
  lt : ((l.take j).filter (fun p => !f p)).length < j
  pre : L.take ((l.take j).filter (fun p => !f p)).length = (l.take j).filter (fun p => !f p)
  suf : L.drop j = l.drop j

theorem DelInv.get {f : Pat → Bool} {l L : List Pat} {j : Nat} (h : DelInv f l j L) {p : Pat} (hp : l[j]? = some p) : L[j]? = some p := by
  have h1 : (L.drop j)[0]? = (l.drop j)[0]? := by rw [h.suf]
  simpa [hp] using h1

theorem DelInv.keep {f : Pat → Bool} {l L : List Pat} {j : Nat} (h : DelInv f l j L) {p : Pat} (hp : l[j]? = some p) (hf : f p = false) : DelInv f l (j + 1) (L.set ((l.take j).filter (fun p => !f p)).length p) := by
  have hlt := lt_of_getElem? hp
  have e : (l.take (j + 1)).filter (fun p => !f p) = (l.take j).filter (fun p => !f p) ++ [p] := by
    rw [take_next hp, List.filter_append]
    simp [hf]
  have h1 := h.lt
  have h2 := h.len
  refine ⟨hlt, by simp [h2], by rw [e]; simp; omega, ?_, ?_⟩
  · rw [e, List.length_append, List.length_singleton, take_next (x := p) (by rw [List.getElem?_set_self (by omega)]), List.take_set_of_le (by omega), h.pre]
  · rw [List.drop_set_of_lt (by omega), show j + 1 = j + 1 from rfl, ← List.drop_drop, h.suf, List.drop_drop]

theorem DelInv.skip {f : Pat → Bool} {l L : List Pat} {j : Nat} (h : DelInv f l j L) {p : Pat} (hp : l[j]? = some p) (hf : f p = true) : DelInv f l (j + 1) L := by
  have hlt := lt_of_getElem? hp
  have e : (l.take (j + 1)).filter (fun p => !f p) = (l.take j).filter (fun p => !f p) := by
    rw [take_next hp, List.filter_append]
    simp [hf]
  have h1 := h.lt
  refine ⟨hlt, h.len, by rw [e]; omega, by rw [e]; exact h.pre, by rw [← List.drop_drop, h.suf, List.drop_drop]⟩

theorem deleteFunc_spec (f : Pat → Bool) (id : Nat) (hf : ∀ p : Pat, PCall Try.prog id [p.enc] (.v (.bool (f p)))) (O : List AObj) (hO : ∀ o ∈ O, o.upto O.length) (ob : Nat) (l : List Pat) (hb : l.length ≤ 2 ^ 30)
    (hob : O[ob]? = some (.cells (cellsAll (l.map Pat.enc)))) :
    ECall Try.prog 73 O [.ms ob 0 l.length l.length, .fn (.func id) [] []] fun r O' => r = .ms ob 0 (l.filter (fun p => !f p)).length l.length ∧ O' = O.set ob (.cells (delCells f l)) := by
  have hobl := lt_of_getElem? hob
  refine ecall_of hT true O.length Try.func73 rfl (by kernel_rfl) (by simp [Try.ntmps73]) (by simp) ?_
  show AWP Try.prog _ _ _ ⟨42, _, _⟩
  dsimp only [Tmp, TypeId, slotsOf]
  first | refine awp_seq (awp_region hT hm ?_) | refine awp_region hT hm ?_ | refine awp_seq (awp_seq (awp_region hT hm ?_)) | refine awp_seq (awp_seq (awp_seq (awp_region hT hm ?_)))
  simp -dsimp only [↓vpre, vpos, Int.reduceNeg, Int.reduceLE, Int.reduceLT, reduceIte, Nat.reduceEqDiff, Nat.reduceLT, Nat.reduceLeDiff, Nat.reduceAdd, Nat.reduceMul, Nat.reduceSub, Nat.reducePow, ne_eq, Int.reduceAdd, Int.reduceSub, Int.reduceMul, Int.reduceToNat, implies_true, vtab]
  refine at_intro ?_
  simp -dsimp only [vend, ne_eq, Nat.reduceEqDiff, reduceCtorEq]
  first | refine awp_seq (awp_region hT hm ?_) | refine awp_region hT hm ?_ | refine awp_seq (awp_seq (awp_region hT hm ?_)) | refine awp_seq (awp_seq (awp_seq (awp_region hT hm ?_)))
  simp -dsimp only [↓vpre, vpos, Int.reduceNeg, Int.reduceLE, Int.reduceLT, reduceIte, Nat.reduceEqDiff, Nat.reduceLT, Nat.reduceLeDiff, Nat.reduceAdd, Nat.reduceMul, Nat.reduceSub, Nat.reducePow, ne_eq, Int.reduceAdd, Int.reduceSub, Int.reduceMul, Int.reduceToNat, implies_true, vtab]
  refine .inr (.inr ⟨_, (indexFuncM_spec f id [] [] O hO ob l l.length hob hb (fun p _ => (hf p).use (by simp [uptoL, Pat.enc_upto]) O)), later_intro ?_⟩)
  simp -dsimp only [↓vpre, vpos, Int.reduceNeg, Int.reduceLE, Int.reduceLT, reduceIte, Nat.reduceEqDiff, Nat.reduceLT, Nat.reduceLeDiff, Nat.reduceAdd, Nat.reduceMul, Nat.reduceSub, Nat.reducePow, ne_eq, Int.reduceAdd, Int.reduceSub, Int.reduceMul, Int.reduceToNat, implies_true, vtab]
  refine at_intro ?_
  simp -dsimp only [vend, ne_eq, Nat.reduceEqDiff, reduceCtorEq]
  first | refine awp_seq (awp_region hT hm ?_) | refine awp_region hT hm ?_ | refine awp_seq (awp_seq (awp_region hT hm ?_)) | refine awp_seq (awp_seq (awp_seq (awp_region hT hm ?_)))
  simp -dsimp only [↓vpre, vpos, Int.reduceNeg, Int.reduceLE, Int.reduceLT, reduceIte, Nat.reduceEqDiff, Nat.reduceLT, Nat.reduceLeDiff, Nat.reduceAdd, Nat.reduceMul, Nat.reduceSub, Nat.reducePow, ne_eq, Int.reduceAdd, Int.reduceSub, Int.reduceMul, Int.reduceToNat, implies_true, vtab]
  refine at_intro ?_
  simp -dsimp only [vend, ne_eq, Nat.reduceEqDiff, reduceCtorEq]
  first | refine awp_seq (awp_cond rfl (fun h => ?_) (fun h => ?_)) | refine awp_cond rfl (fun h => ?_) (fun h => ?_) | refine awp_seq (awp_seq (awp_cond rfl (fun h => ?_) (fun h => ?_)))
  · have hneg : idx f l = -1 := by simpa using h
    first | refine awp_seq (awp_region hT hm ?_) | refine awp_region hT hm ?_ | refine awp_seq (awp_seq (awp_region hT hm ?_)) | refine awp_seq (awp_seq (awp_seq (awp_region hT hm ?_)))
    simp -dsimp only [↓vpre, vpos, Int.reduceNeg, Int.reduceLE, Int.reduceLT, reduceIte, Nat.reduceEqDiff, Nat.reduceLT, Nat.reduceLeDiff, Nat.reduceAdd, Nat.reduceMul, Nat.reduceSub, Nat.reducePow, ne_eq, Int.reduceAdd, Int.reduceSub, Int.reduceMul, Int.reduceToNat, implies_true, vtab]
    refine at_intro ?_
    simp -dsimp only [vend, ne_eq, Nat.reduceEqDiff, reduceCtorEq]
    refine awp_ret ?_
    simp -dsimp only [↓vpre, vpos, Int.reduceNeg, Int.reduceLE, Int.reduceLT, reduceIte, Nat.reduceEqDiff, Nat.reduceLT, Nat.reduceLeDiff, Nat.reduceAdd, Nat.reduceMul, Nat.reduceSub, Nat.reducePow, ne_eq, Int.reduceAdd, Int.reduceSub, Int.reduceMul, Int.reduceToNat, implies_true, vtab, RetTo, Try.results73, retVals, retVal, mkRet, AVal.upto, Nat.zero_le, Nat.le_refl, seqPost_ret, blockPost_ret, loopPost_ret, List.take_length]
    rw [idx_neg hneg]
    have e : O.set ob (.cells (delCells f l)) = O := by
      rw [delCells, idx_neg hneg, Nat.sub_self, List.replicate_zero, List.flatten_nil, List.append_nil]
      exact set_getElem?_same hob
    rw [e]
    exact ⟨hO, by omega, rfl, rfl⟩
  · have hpos : idx f l ≠ -1 := by simpa using h
    obtain ⟨k, hk⟩ := (idx_cases f l).resolve_left hpos
    obtain ⟨hkl, hkf⟩ := filter_idx hk
    refine awp_skip ?_
    simp -dsimp only [vend, ne_eq, Nat.reduceEqDiff, reduceCtorEq]
    rw [hk]
    first | refine awp_seq (awp_region hT hm ?_) | refine awp_region hT hm ?_ | refine awp_seq (awp_seq (awp_region hT hm ?_)) | refine awp_seq (awp_seq (awp_seq (awp_region hT hm ?_)))
    simp -dsimp only [↓vpre, vpos, Int.reduceNeg, Int.reduceLE, Int.reduceLT, reduceIte, Nat.reduceEqDiff, Nat.reduceLT, Nat.reduceLeDiff, Nat.reduceAdd, Nat.reduceMul, Nat.reduceSub, Nat.reducePow, ne_eq, Int.reduceAdd, Int.reduceSub, Int.reduceMul, Int.reduceToNat, implies_true, vtab]
    repeat (refine ⟨by omega, ?_⟩)
    refine at_intro ?_
    simp -dsimp only [vend, ne_eq, Nat.reduceEqDiff, reduceCtorEq]
    first | refine awp_block (awp_loop (ι := {q : Nat × List Pat // DelInv f l q.1 q.2}) (fun q => ⟨42, [(0, .ms ob 0 l.length l.length), (1, .fn (.func id) [] []), (5, .v (.int .i64 ((l.take q.1.1).filter (fun p => !f p)).length)), (6, .v (.int .i64 q.1.1))], O.set ob (.cells (cellsAll (q.1.2.map Pat.enc)))⟩) (fun q => l.length - q.1.1) ⟨(k + 1, l), ⟨hkl, rfl, by rw [hkf]; simp <;> omega, by rw [hkf]; simp <;> omega, rfl⟩⟩ ?_ ?_) | refine awp_seq (awp_block (awp_loop (ι := {q : Nat × List Pat // DelInv f l q.1 q.2}) (fun q => ⟨42, [(0, .ms ob 0 l.length l.length), (1, .fn (.func id) [] []), (5, .v (.int .i64 ((l.take q.1.1).filter (fun p => !f p)).length)), (6, .v (.int .i64 q.1.1))], O.set ob (.cells (cellsAll (q.1.2.map Pat.enc)))⟩) (fun q => l.length - q.1.1) ⟨(k + 1, l), ⟨hkl, rfl, by rw [hkf]; simp <;> omega, by rw [hkf]; simp <;> omega, rfl⟩⟩ ?_ ?_))
    · refine ⟨rfl, ?_, ?_⟩
      rotate_left
      simp -dsimp only [↓vpre, vpos, Int.reduceNeg, Int.reduceLE, Int.reduceLT, reduceIte, Nat.reduceEqDiff, Nat.reduceLT, Nat.reduceLeDiff, Nat.reduceAdd, Nat.reduceMul, Nat.reduceSub, Nat.reducePow, ne_eq, Int.reduceAdd, Int.reduceSub, Int.reduceMul, Int.reduceToNat, implies_true, vtab, Says, exists_eq_left', Option.some.injEq, sub_self, and_assoc, true_and, and_true]
      · refine ⟨Sub.int ?_, Sub.int (by simp)⟩
        rw [hkf]
        simp
        omega
      · exact (set_getElem?_same hob).symm
    · rintro ⟨⟨j, L⟩, hI⟩
      have hle := hI.le
      have hlen := hI.len
      have hml := hI.lt
      simp only at hle hlen hml
      obtain ⟨m, hmm⟩ : ∃ m, m = ((l.take j).filter (fun p => !f p)).length := ⟨_, rfl⟩
      have hobL : ∀ x : AObj, (O.set ob x)[ob]? = some x := fun x => List.getElem?_set_self hobl
      simp only [← hmm] at hml ⊢
      obtain ⟨O2, hO2⟩ : ∃ O2, O2 = O.set ob (.cells (cellsAll (L.map Pat.enc))) := ⟨_, rfl⟩
      have hob2 : O2[ob]? = some (.cells (cellsAll (L.map Pat.enc))) := by rw [hO2]; exact hobL _
      have hl2 : O2.length = O.length := by rw [hO2]; simp
      have hup : ∀ (L : List Pat) (o : AObj), o ∈ O.set ob (.cells (cellsAll (L.map Pat.enc))) → o.upto O.length := fun L o ho => by
        rcases List.mem_or_eq_of_mem_set ho with ho | ho
        · exact hO o ho
        · subst ho
          exact Pat.cells_upto _ _
      have htk : ∀ (X : List AObj) (y : AObj), X.length = O.length → (X ++ [y]).take O.length = X := fun X y h => by rw [← h, snoc_take]
      simp only [← hO2]
      first | refine awp_seq (awp_region hT hm ?_) | refine awp_region hT hm ?_ | refine awp_seq (awp_seq (awp_region hT hm ?_)) | refine awp_seq (awp_seq (awp_seq (awp_region hT hm ?_)))
      simp -dsimp only [↓vpre, vpos, Int.reduceNeg, Int.reduceLE, Int.reduceLT, reduceIte, Nat.reduceEqDiff, Nat.reduceLT, Nat.reduceLeDiff, Nat.reduceAdd, Nat.reduceMul, Nat.reduceSub, Nat.reducePow, ne_eq, Int.reduceAdd, Int.reduceSub, Int.reduceMul, Int.reduceToNat, implies_true, vtab]
      refine at_intro ?_
      simp -dsimp only [vend, ne_eq, Nat.reduceEqDiff, reduceCtorEq]
      first | refine awp_seq (awp_cond rfl (fun h => ?_) (fun h => ?_)) | refine awp_cond rfl (fun h => ?_) (fun h => ?_) | refine awp_seq (awp_seq (awp_cond rfl (fun h => ?_) (fun h => ?_)))
      · refine awp_skip ?_
        simp -dsimp only [vend, ne_eq, Nat.reduceEqDiff, reduceCtorEq]
        have hlt : j < l.length := by simpa using h
        obtain ⟨p, hp⟩ : ∃ p, l[j]? = some p := ⟨l[j], by simp [hlt]⟩
        have hLp := hI.get hp
        simp only at hLp
        have hml' : m < L.length := by omega
        first | refine awp_seq (awp_block ?_) | refine awp_block ?_
        first | refine awp_seq (awp_region hT hm ?_) | refine awp_region hT hm ?_ | refine awp_seq (awp_seq (awp_region hT hm ?_)) | refine awp_seq (awp_seq (awp_seq (awp_region hT hm ?_)))
        simp -dsimp only [↓vpre, vpos, Int.reduceNeg, Int.reduceLE, Int.reduceLT, reduceIte, Nat.reduceEqDiff, Nat.reduceLT, Nat.reduceLeDiff, Nat.reduceAdd, Nat.reduceMul, Nat.reduceSub, Nat.reducePow, ne_eq, Int.reduceAdd, Int.reduceSub, Int.reduceMul, Int.reduceToNat, implies_true, vtab, hob2, snoc_old hob2, Pat.row_get hLp, Pat.row_len, Pat.agg_cells, splice]
        repeat (refine ⟨by omega, ?_⟩)
        refine at_intro ?_
        simp -dsimp only [vend, ne_eq, Nat.reduceEqDiff, reduceCtorEq]
        first | refine awp_seq (awp_region hT hm ?_) | refine awp_region hT hm ?_ | refine awp_seq (awp_seq (awp_region hT hm ?_)) | refine awp_seq (awp_seq (awp_seq (awp_region hT hm ?_)))
        simp -dsimp only [↓vpre, vpos, Int.reduceNeg, Int.reduceLE, Int.reduceLT, reduceIte, Nat.reduceEqDiff, Nat.reduceLT, Nat.reduceLeDiff, Nat.reduceAdd, Nat.reduceMul, Nat.reduceSub, Nat.reducePow, ne_eq, Int.reduceAdd, Int.reduceSub, Int.reduceMul, Int.reduceToNat, implies_true, vtab]
        refine .inl ⟨_, hf p, by first | (simp only [uptoL, AVal.upto, and_true, true_and, and_self, Pat.enc_upto, Pat.map_upto]; done) | (simp [uptoL, AVal.upto, Pat.enc_upto, Pat.map_upto]; done), later_intro ?_⟩
        simp -dsimp only [↓vpre, vpos, Int.reduceNeg, Int.reduceLE, Int.reduceLT, reduceIte, Nat.reduceEqDiff, Nat.reduceLT, Nat.reduceLeDiff, Nat.reduceAdd, Nat.reduceMul, Nat.reduceSub, Nat.reducePow, ne_eq, Int.reduceAdd, Int.reduceSub, Int.reduceMul, Int.reduceToNat, implies_true, vtab]
        refine at_intro ?_
        simp -dsimp only [vend, ne_eq, Nat.reduceEqDiff, reduceCtorEq]
        first | refine awp_seq (awp_cond rfl (fun h => ?_) (fun h => ?_)) | refine awp_cond rfl (fun h => ?_) (fun h => ?_) | refine awp_seq (awp_seq (awp_cond rfl (fun h => ?_) (fun h => ?_)))
        · have hfp : f p = false := by simpa using h
          first | refine awp_seq (awp_region hT hm ?_) | refine awp_region hT hm ?_ | refine awp_seq (awp_seq (awp_region hT hm ?_)) | refine awp_seq (awp_seq (awp_seq (awp_region hT hm ?_)))
          simp -dsimp only [↓vpre, vpos, Int.reduceNeg, Int.reduceLE, Int.reduceLT, reduceIte, Nat.reduceEqDiff, Nat.reduceLT, Nat.reduceLeDiff, Nat.reduceAdd, Nat.reduceMul, Nat.reduceSub, Nat.reducePow, ne_eq, Int.reduceAdd, Int.reduceSub, Int.reduceMul, Int.reduceToNat, implies_true, vtab]
          simp -dsimp only [↓vpre, vpos, Int.reduceNeg, Int.reduceLE, Int.reduceLT, reduceIte, Nat.reduceEqDiff, Nat.reduceLT, Nat.reduceLeDiff, Nat.reduceAdd, Nat.reduceMul, Nat.reduceSub, Nat.reducePow, ne_eq, Int.reduceAdd, Int.reduceSub, Int.reduceMul, Int.reduceToNat, implies_true, vtab, snoc_old hob2, snoc_set_old hob2, Pat.row_len]
          repeat (refine ⟨by omega, ?_⟩)
          refine at_intro ?_
          simp -dsimp only [vend, ne_eq, Nat.reduceEqDiff, reduceCtorEq]
          first | refine awp_seq (awp_region hT hm ?_) | refine awp_region hT hm ?_ | refine awp_seq (awp_seq (awp_region hT hm ?_)) | refine awp_seq (awp_seq (awp_seq (awp_region hT hm ?_)))
          simp -dsimp only [↓vpre, vpos, Int.reduceNeg, Int.reduceLE, Int.reduceLT, reduceIte, Nat.reduceEqDiff, Nat.reduceLT, Nat.reduceLeDiff, Nat.reduceAdd, Nat.reduceMul, Nat.reduceSub, Nat.reducePow, ne_eq, Int.reduceAdd, Int.reduceSub, Int.reduceMul, Int.reduceToNat, implies_true, vtab]
          repeat (refine ⟨by omega, ?_⟩)
          refine at_intro ?_
          simp -dsimp only [vend, ne_eq, Nat.reduceEqDiff, reduceCtorEq]
          have e : splice (cellsAll (L.map Pat.enc)) (m * 4) p.enc.cells = cellsAll ((L.set m p).map Pat.enc) := Pat.row_set hml' p
          rw [Pat.enc_cells] at e
          rw [e]
          have hO3 : O2.set ob (.cells (cellsAll ((L.set m p).map Pat.enc))) = O.set ob (.cells (cellsAll ((L.set m p).map Pat.enc))) := by rw [hO2, List.set_set]
          rw [hO3]
          refine awp_trunc' O.length [(0, .ms ob 0 l.length l.length), (1, .fn (.func id) [] []), (5, .v (.int .i64 (m + 1))), (6, .v (.int .i64 j))] (by first | omega | (simp; done) | (simp; omega)) (by first | omega | (simp; done) | (simp; omega)) (O.set ob (.cells (cellsAll ((L.set m p).map Pat.enc)))) ?_ ?_ ?_ ?_ ?_
          · exact htk _ _ (by simp)
          · exact hup _
          · simp -dsimp only [↓vpre, vpos, Int.reduceNeg, Int.reduceLE, Int.reduceLT, reduceIte, Nat.reduceEqDiff, Nat.reduceLT, Nat.reduceLeDiff, Nat.reduceAdd, Nat.reduceMul, Nat.reduceSub, Nat.reducePow, ne_eq, Int.reduceAdd, Int.reduceSub, Int.reduceMul, Int.reduceToNat, implies_true, vtab, Says, exists_eq_left', Option.some.injEq, sub_self, and_true]
          · simp [AVal.upto, uptoL, hobl]
          · first | refine awp_seq (awp_region hT hm ?_) | refine awp_region hT hm ?_ | refine awp_seq (awp_seq (awp_region hT hm ?_)) | refine awp_seq (awp_seq (awp_seq (awp_region hT hm ?_)))
            simp -dsimp only [↓vpre, vpos, Int.reduceNeg, Int.reduceLE, Int.reduceLT, reduceIte, Nat.reduceEqDiff, Nat.reduceLT, Nat.reduceLeDiff, Nat.reduceAdd, Nat.reduceMul, Nat.reduceSub, Nat.reducePow, ne_eq, Int.reduceAdd, Int.reduceSub, Int.reduceMul, Int.reduceToNat, implies_true, vtab]
            repeat (refine ⟨by omega, ?_⟩)
            refine at_intro ?_
            simp -dsimp only [vend, ne_eq, Nat.reduceEqDiff, reduceCtorEq]
            have hK := hI.keep hp hfp
            refine ⟨⟨(j + 1, _), hK⟩, by simp; omega, ?_⟩
            have em : ((l.take (j + 1)).filter (fun p => !f p)).length = m + 1 := by
              rw [take_next hp, List.filter_append, List.length_append, ← hmm]
              simp [hfp]
            refine ⟨rfl, ?_, ?_⟩
            rotate_left
            simp -dsimp only [↓vpre, vpos, Int.reduceNeg, Int.reduceLE, Int.reduceLT, reduceIte, Nat.reduceEqDiff, Nat.reduceLT, Nat.reduceLeDiff, Nat.reduceAdd, Nat.reduceMul, Nat.reduceSub, Nat.reducePow, ne_eq, Int.reduceAdd, Int.reduceSub, Int.reduceMul, Int.reduceToNat, implies_true, vtab, Says, exists_eq_left', Option.some.injEq, sub_self, and_assoc, true_and, and_true]
            · exact ⟨Sub.int (by simp only [em]; omega), Sub.int (by omega)⟩
            · simp only [hmm]
        · refine awp_skip ?_
          simp -dsimp only [vend, ne_eq, Nat.reduceEqDiff, reduceCtorEq]
          have hfp : f p = true := by simpa using h
          refine awp_trunc' O.length [(0, .ms ob 0 l.length l.length), (1, .fn (.func id) [] []), (5, .v (.int .i64 m)), (6, .v (.int .i64 j))] (by first | omega | (simp; done) | (simp; omega)) (by first | omega | (simp; done) | (simp; omega)) O2 ?_ ?_ ?_ ?_ ?_
          · exact htk _ _ hl2
          · rw [hO2]
            exact hup _
          · simp -dsimp only [↓vpre, vpos, Int.reduceNeg, Int.reduceLE, Int.reduceLT, reduceIte, Nat.reduceEqDiff, Nat.reduceLT, Nat.reduceLeDiff, Nat.reduceAdd, Nat.reduceMul, Nat.reduceSub, Nat.reducePow, ne_eq, Int.reduceAdd, Int.reduceSub, Int.reduceMul, Int.reduceToNat, implies_true, vtab, Says, exists_eq_left', Option.some.injEq, sub_self, and_true]
          · simp [AVal.upto, uptoL, hobl]
          · first | refine awp_seq (awp_region hT hm ?_) | refine awp_region hT hm ?_ | refine awp_seq (awp_seq (awp_region hT hm ?_)) | refine awp_seq (awp_seq (awp_seq (awp_region hT hm ?_)))
            simp -dsimp only [↓vpre, vpos, Int.reduceNeg, Int.reduceLE, Int.reduceLT, reduceIte, Nat.reduceEqDiff, Nat.reduceLT, Nat.reduceLeDiff, Nat.reduceAdd, Nat.reduceMul, Nat.reduceSub, Nat.reducePow, ne_eq, Int.reduceAdd, Int.reduceSub, Int.reduceMul, Int.reduceToNat, implies_true, vtab]
            repeat (refine ⟨by omega, ?_⟩)
            refine at_intro ?_
            simp -dsimp only [vend, ne_eq, Nat.reduceEqDiff, reduceCtorEq]
            have hK := hI.skip hp hfp
            refine ⟨⟨(j + 1, _), hK⟩, by simp; omega, ?_⟩
            have em : ((l.take (j + 1)).filter (fun p => !f p)).length = m := by
              rw [take_next hp, List.filter_append, List.length_append, ← hmm]
              simp [hfp]
            refine ⟨rfl, ?_, ?_⟩
            rotate_left
            simp -dsimp only [↓vpre, vpos, Int.reduceNeg, Int.reduceLE, Int.reduceLT, reduceIte, Nat.reduceEqDiff, Nat.reduceLT, Nat.reduceLeDiff, Nat.reduceAdd, Nat.reduceMul, Nat.reduceSub, Nat.reducePow, ne_eq, Int.reduceAdd, Int.reduceSub, Int.reduceMul, Int.reduceToNat, implies_true, vtab, Says, exists_eq_left', Option.some.injEq, sub_self, and_assoc, true_and, and_true]
            · exact ⟨Sub.int (by simp only [em]), Sub.int (by omega)⟩
            · simp only [hO2]
      · refine awp_exit ?_
        simp -dsimp only [vend, ne_eq, Nat.reduceEqDiff, reduceCtorEq]
        have hlt : j = l.length := by simp at h; omega
        subst hlt
        first | refine awp_seq (awp_region hT hm ?_) | refine awp_region hT hm ?_ | refine awp_seq (awp_seq (awp_region hT hm ?_)) | refine awp_seq (awp_seq (awp_seq (awp_region hT hm ?_)))
        simp -dsimp only [↓vpre, vpos, Int.reduceNeg, Int.reduceLE, Int.reduceLT, reduceIte, Nat.reduceEqDiff, Nat.reduceLT, Nat.reduceLeDiff, Nat.reduceAdd, Nat.reduceMul, Nat.reduceSub, Nat.reducePow, ne_eq, Int.reduceAdd, Int.reduceSub, Int.reduceMul, Int.reduceToNat, implies_true, vtab, hob2, Pat.row_len]
        repeat (refine ⟨by omega, ?_⟩)
        refine at_intro ?_
        simp -dsimp only [vend, ne_eq, Nat.reduceEqDiff, reduceCtorEq]
        first | refine awp_seq (awp_region hT hm ?_) | refine awp_region hT hm ?_ | refine awp_seq (awp_seq (awp_region hT hm ?_)) | refine awp_seq (awp_seq (awp_seq (awp_region hT hm ?_)))
        simp -dsimp only [↓vpre, vpos, Int.reduceNeg, Int.reduceLE, Int.reduceLT, reduceIte, Nat.reduceEqDiff, Nat.reduceLT, Nat.reduceLeDiff, Nat.reduceAdd, Nat.reduceMul, Nat.reduceSub, Nat.reducePow, ne_eq, Int.reduceAdd, Int.reduceSub, Int.reduceMul, Int.reduceToNat, implies_true, vtab]
        repeat (refine ⟨by omega, ?_⟩)
        refine at_intro ?_
        simp -dsimp only [vend, ne_eq, Nat.reduceEqDiff, reduceCtorEq]
        refine awp_ret ?_
        simp -dsimp only [↓vpre, vpos, Int.reduceNeg, Int.reduceLE, Int.reduceLT, reduceIte, Nat.reduceEqDiff, Nat.reduceLT, Nat.reduceLeDiff, Nat.reduceAdd, Nat.reduceMul, Nat.reduceSub, Nat.reducePow, ne_eq, Int.reduceAdd, Int.reduceSub, Int.reduceMul, Int.reduceToNat, implies_true, vtab, RetTo, Try.results73, retVals, retVal, mkRet, AVal.upto, Nat.zero_le, Nat.le_refl, seqPost_ret, blockPost_ret, loopPost_ret]
        have ez : ∀ x, O2.set ob x = O.set ob x := fun x => by rw [hO2, List.set_set]
        rw [ez]
        have em : m = (l.filter (fun p => !f p)).length := by rw [hmm, List.take_length]
        have ec : splice (cellsAll (L.map Pat.enc)) (m * 4) (List.replicate (l.length - m) zeroPat).flatten = delCells f l := by
          have hpre := hI.pre
          simp only [List.take_length, ← em] at hpre
          have hz : ((List.replicate (l.length - m) zeroPat).flatten).length = (l.length - m) * 4 := by simp [zeroPat]
          rw [splice, hz, List.drop_of_length_le (by rw [Pat.row_len]; omega), List.append_nil, delCells, ← em, ← hpre]
          congr 1
          rw [List.map_take]
          have := cellsAll_length (sz := 4) (xs := (L.map Pat.enc).take m) (fun x hx => by
            obtain ⟨p, _, rfl⟩ := List.mem_map.1 (List.mem_of_mem_take hx)
            exact p.cells_len)
          conv => lhs; rw [← List.take_append_drop m (L.map Pat.enc), cellsAll_append]
          rw [List.take_append_of_le_length (by rw [this]; simp; omega), List.take_of_length_le (by rw [this]; simp; omega)]
        simp only [zeroPat] at ec
        rw [ec]
        have hl3 : (O.set ob (.cells (delCells f l))).length = O.length := by simp
        have ht3 : (O.set ob (.cells (delCells f l))).take O.length = O.set ob (.cells (delCells f l)) := List.take_of_length_le (by rw [hl3]; exact Nat.le_refl _)
        rw [ht3]
        refine ⟨by rw [hl3]; exact Nat.le_refl _, fun o ho => ?_, hobl, by rw [← em, Nat.sub_zero, Nat.sub_zero], rfl⟩
        rcases List.mem_or_eq_of_mem_set ho with ho | ho
        · exact hO o ho
        · subst ho
          show uptoL _ _
          rw [uptoL_iff]
          intro c hc
          rcases List.mem_append.1 hc with hc | hc
          · exact uptoL_iff.1 (Pat.cells_upto O.length _) c hc
          · simp only [List.mem_flatten, List.mem_replicate] at hc
            obtain ⟨_, ⟨_, rfl⟩, hc⟩ := hc
            simp only [zeroPat, List.mem_cons, List.not_mem_nil, or_false] at hc
            rcases hc with rfl | rfl | rfl | rfl <;> simp [AVal.upto, uptoL]

end Go.Proofs.Ytakdmelemfnmdaa
end

section
set_option linter.unusedSimpArgs false
-- !tab vtab
-- !upto Pat.enc_upto Pat.map_upto
namespace Go.Proofs.Ytakdmelemfnmdaa
open Go.Av

theorem grow_nil (O : List AObj) (hO : ∀ o ∈ O, o.upto O.length) : ECall Try.prog 79 O [.v (.slice none 0 0), .v (.int .i64 0)] fun r O' => r = .lst 4 [] .ex ∧ O' = O := by
  refine ecall_of hT false O.length Try.func79 rfl (by kernel_rfl) (by simp [Try.ntmps79]) (by simp) ?_
  show AWP Try.prog _ _ _ ⟨27, _, _⟩
  dsimp only [Tmp, TypeId, slotsOf]
  refine AWP.cover (τ := ⟨27, [(0, .lst 4 [] .ex), (1, .v (.int .i64 0))], O⟩) ?_ ⟨rfl, rfl, ⟨_, rfl, Sub.nil rfl (by simp) (by simp)⟩, ⟨_, rfl, Sub.refl _⟩, trivial⟩
  first | refine awp_seq (awp_region hT hm ?_) | refine awp_region hT hm ?_ | refine awp_seq (awp_seq (awp_region hT hm ?_)) | refine awp_seq (awp_seq (awp_seq (awp_region hT hm ?_)))
  simp -dsimp only [↓vpre, vpos, Int.reduceNeg, Int.reduceLE, Int.reduceLT, reduceIte, Nat.reduceEqDiff, Nat.reduceLT, Nat.reduceLeDiff, Nat.reduceAdd, Nat.reduceMul, Nat.reduceSub, Nat.reducePow, ne_eq, Int.reduceAdd, Int.reduceSub, Int.reduceMul, Int.reduceToNat, implies_true, vtab]
  refine at_intro ?_
  simp -dsimp only [vend, ne_eq, Nat.reduceEqDiff, reduceCtorEq]
  first | refine awp_seq (awp_region hT hm ?_) | refine awp_region hT hm ?_ | refine awp_seq (awp_seq (awp_region hT hm ?_)) | refine awp_seq (awp_seq (awp_seq (awp_region hT hm ?_)))
  simp -dsimp only [↓vpre, vpos, Int.reduceNeg, Int.reduceLE, Int.reduceLT, reduceIte, Nat.reduceEqDiff, Nat.reduceLT, Nat.reduceLeDiff, Nat.reduceAdd, Nat.reduceMul, Nat.reduceSub, Nat.reducePow, ne_eq, Int.reduceAdd, Int.reduceSub, Int.reduceMul, Int.reduceToNat, implies_true, vtab]
  refine at_intro ?_
  simp -dsimp only [vend, ne_eq, Nat.reduceEqDiff, reduceCtorEq]
  first | refine awp_seq (awp_cond rfl (fun h => ?_) (fun h => ?_)) | refine awp_cond rfl (fun h => ?_) (fun h => ?_) | refine awp_seq (awp_seq (awp_cond rfl (fun h => ?_) (fun h => ?_)))
  · simp at h
  · refine awp_skip ?_
    simp -dsimp only [vend, ne_eq, Nat.reduceEqDiff, reduceCtorEq]
    first | refine awp_seq (awp_region hT hm ?_) | refine awp_region hT hm ?_ | refine awp_seq (awp_seq (awp_region hT hm ?_)) | refine awp_seq (awp_seq (awp_seq (awp_region hT hm ?_)))
    simp -dsimp only [↓vpre, vpos, Int.reduceNeg, Int.reduceLE, Int.reduceLT, reduceIte, Nat.reduceEqDiff, Nat.reduceLT, Nat.reduceLeDiff, Nat.reduceAdd, Nat.reduceMul, Nat.reduceSub, Nat.reducePow, ne_eq, Int.reduceAdd, Int.reduceSub, Int.reduceMul, Int.reduceToNat, implies_true, vtab]
    refine at_intro ?_
    simp -dsimp only [vend, ne_eq, Nat.reduceEqDiff, reduceCtorEq]
    first | refine awp_seq (awp_region hT hm ?_) | refine awp_region hT hm ?_ | refine awp_seq (awp_seq (awp_region hT hm ?_)) | refine awp_seq (awp_seq (awp_seq (awp_region hT hm ?_)))
    simp -dsimp only [↓vpre, vpos, Int.reduceNeg, Int.reduceLE, Int.reduceLT, reduceIte, Nat.reduceEqDiff, Nat.reduceLT, Nat.reduceLeDiff, Nat.reduceAdd, Nat.reduceMul, Nat.reduceSub, Nat.reducePow, ne_eq, Int.reduceAdd, Int.reduceSub, Int.reduceMul, Int.reduceToNat, implies_true, vtab]
    refine at_intro ?_
    simp -dsimp only [vend, ne_eq, Nat.reduceEqDiff, reduceCtorEq]
    first | refine awp_seq (awp_cond rfl (fun h => ?_) (fun h => ?_)) | refine awp_cond rfl (fun h => ?_) (fun h => ?_) | refine awp_seq (awp_seq (awp_cond rfl (fun h => ?_) (fun h => ?_)))
    · simp at h
    · refine awp_skip ?_
      simp -dsimp only [vend, ne_eq, Nat.reduceEqDiff, reduceCtorEq]
      first | refine awp_seq (awp_region hT hm ?_) | refine awp_region hT hm ?_ | refine awp_seq (awp_seq (awp_region hT hm ?_)) | refine awp_seq (awp_seq (awp_seq (awp_region hT hm ?_)))
      simp -dsimp only [↓vpre, vpos, Int.reduceNeg, Int.reduceLE, Int.reduceLT, reduceIte, Nat.reduceEqDiff, Nat.reduceLT, Nat.reduceLeDiff, Nat.reduceAdd, Nat.reduceMul, Nat.reduceSub, Nat.reducePow, ne_eq, Int.reduceAdd, Int.reduceSub, Int.reduceMul, Int.reduceToNat, implies_true, vtab]
      refine at_intro ?_
      simp -dsimp only [vend, ne_eq, Nat.reduceEqDiff, reduceCtorEq]
      refine awp_ret ?_
      simp -dsimp only [↓vpre, vpos, Int.reduceNeg, Int.reduceLE, Int.reduceLT, reduceIte, Nat.reduceEqDiff, Nat.reduceLT, Nat.reduceLeDiff, Nat.reduceAdd, Nat.reduceMul, Nat.reduceSub, Nat.reducePow, ne_eq, Int.reduceAdd, Int.reduceSub, Int.reduceMul, Int.reduceToNat, implies_true, vtab, RetTo, Try.results79, retVals, retVal, mkRet, AVal.upto, Nat.zero_le, Nat.le_refl, seqPost_ret, blockPost_ret, loopPost_ret, List.take_length]
      simpa [uptoL] using hO

theorem grow_spec (O : List AObj) (hO : ∀ o ∈ O, o.upto (O.length + 1)) (n : Nat) (hn : 0 < n) (hb : n ≤ 2 ^ 40) : ECall Try.prog 79 O [.v (.slice none 0 0), .v (.int .i64 n)] fun r O' => r = .ms O.length 0 0 n ∧ O' = O ++ [.cells (List.replicate n zeroPat).flatten] := by
  refine ecall_of hT false (O.length+1) Try.func79 rfl (by kernel_rfl) (by simp [Try.ntmps79]) (by simp) ?_
  show AWP Try.prog _ _ _ ⟨27, _, _⟩
  dsimp only [Tmp, TypeId, slotsOf]
  refine AWP.cover (τ := ⟨27, [(0, .lst 4 [] .ex), (1, .v (.int .i64 n))], O⟩) ?_ ⟨rfl, rfl, ⟨_, rfl, Sub.nil rfl (by simp) (by simp)⟩, ⟨_, rfl, Sub.refl _⟩, trivial⟩
  first | refine awp_seq (awp_region hT hm ?_) | refine awp_region hT hm ?_ | refine awp_seq (awp_seq (awp_region hT hm ?_)) | refine awp_seq (awp_seq (awp_seq (awp_region hT hm ?_)))
  simp -dsimp only [↓vpre, vpos, Int.reduceNeg, Int.reduceLE, Int.reduceLT, reduceIte, Nat.reduceEqDiff, Nat.reduceLT, Nat.reduceLeDiff, Nat.reduceAdd, Nat.reduceMul, Nat.reduceSub, Nat.reducePow, ne_eq, Int.reduceAdd, Int.reduceSub, Int.reduceMul, Int.reduceToNat, implies_true, vtab]
  refine at_intro ?_
  simp -dsimp only [vend, ne_eq, Nat.reduceEqDiff, reduceCtorEq]
  first | refine awp_seq (awp_region hT hm ?_) | refine awp_region hT hm ?_ | refine awp_seq (awp_seq (awp_region hT hm ?_)) | refine awp_seq (awp_seq (awp_seq (awp_region hT hm ?_)))
  simp -dsimp only [↓vpre, vpos, Int.reduceNeg, Int.reduceLE, Int.reduceLT, reduceIte, Nat.reduceEqDiff, Nat.reduceLT, Nat.reduceLeDiff, Nat.reduceAdd, Nat.reduceMul, Nat.reduceSub, Nat.reducePow, ne_eq, Int.reduceAdd, Int.reduceSub, Int.reduceMul, Int.reduceToNat, implies_true, vtab]
  refine at_intro ?_
  simp -dsimp only [vend, ne_eq, Nat.reduceEqDiff, reduceCtorEq]
  first | refine awp_seq (awp_cond rfl (fun h => ?_) (fun h => ?_)) | refine awp_cond rfl (fun h => ?_) (fun h => ?_) | refine awp_seq (awp_seq (awp_cond rfl (fun h => ?_) (fun h => ?_)))
  · simp at h
    omega
  · refine awp_skip ?_
    simp -dsimp only [vend, ne_eq, Nat.reduceEqDiff, reduceCtorEq]
    first | refine awp_seq (awp_region hT hm ?_) | refine awp_region hT hm ?_ | refine awp_seq (awp_seq (awp_region hT hm ?_)) | refine awp_seq (awp_seq (awp_seq (awp_region hT hm ?_)))
    simp -dsimp only [↓vpre, vpos, Int.reduceNeg, Int.reduceLE, Int.reduceLT, reduceIte, Nat.reduceEqDiff, Nat.reduceLT, Nat.reduceLeDiff, Nat.reduceAdd, Nat.reduceMul, Nat.reduceSub, Nat.reducePow, ne_eq, Int.reduceAdd, Int.reduceSub, Int.reduceMul, Int.reduceToNat, implies_true, vtab]
    refine ⟨by omega, by omega, ?_⟩
    refine at_intro ?_
    simp -dsimp only [vend, ne_eq, Nat.reduceEqDiff, reduceCtorEq]
    first | refine awp_seq (awp_region hT hm ?_) | refine awp_region hT hm ?_ | refine awp_seq (awp_seq (awp_region hT hm ?_)) | refine awp_seq (awp_seq (awp_seq (awp_region hT hm ?_)))
    simp -dsimp only [↓vpre, vpos, Int.reduceNeg, Int.reduceLE, Int.reduceLT, reduceIte, Nat.reduceEqDiff, Nat.reduceLT, Nat.reduceLeDiff, Nat.reduceAdd, Nat.reduceMul, Nat.reduceSub, Nat.reducePow, ne_eq, Int.reduceAdd, Int.reduceSub, Int.reduceMul, Int.reduceToNat, implies_true, vtab]
    refine at_intro ?_
    simp -dsimp only [vend, ne_eq, Nat.reduceEqDiff, reduceCtorEq]
    first | refine awp_seq (awp_cond rfl (fun h => ?_) (fun h => ?_)) | refine awp_cond rfl (fun h => ?_) (fun h => ?_) | refine awp_seq (awp_seq (awp_cond rfl (fun h => ?_) (fun h => ?_)))
    · first | refine awp_seq (awp_region hT hm ?_) | refine awp_region hT hm ?_ | refine awp_seq (awp_seq (awp_region hT hm ?_)) | refine awp_seq (awp_seq (awp_seq (awp_region hT hm ?_)))
      simp -dsimp only [↓vpre, vpos, Int.reduceNeg, Int.reduceLE, Int.reduceLT, reduceIte, Nat.reduceEqDiff, Nat.reduceLT, Nat.reduceLeDiff, Nat.reduceAdd, Nat.reduceMul, Nat.reduceSub, Nat.reducePow, ne_eq, Int.reduceAdd, Int.reduceSub, Int.reduceMul, Int.reduceToNat, implies_true, vtab]
      refine ⟨Try.underlying3, by omega, by omega, by omega, by omega, by omega, ?_⟩
      refine at_intro ?_
      simp -dsimp only [vend, ne_eq, Nat.reduceEqDiff, reduceCtorEq]
      first | refine awp_seq (awp_region hT hm ?_) | refine awp_region hT hm ?_ | refine awp_seq (awp_seq (awp_region hT hm ?_)) | refine awp_seq (awp_seq (awp_seq (awp_region hT hm ?_)))
      simp -dsimp only [↓vpre, vpos, Int.reduceNeg, Int.reduceLE, Int.reduceLT, reduceIte, Nat.reduceEqDiff, Nat.reduceLT, Nat.reduceLeDiff, Nat.reduceAdd, Nat.reduceMul, Nat.reduceSub, Nat.reducePow, ne_eq, Int.reduceAdd, Int.reduceSub, Int.reduceMul, Int.reduceToNat, implies_true, vtab]
      refine at_intro ?_
      simp -dsimp only [vend, ne_eq, Nat.reduceEqDiff, reduceCtorEq]
      refine awp_ret ?_
      simp -dsimp only [↓vpre, vpos, Int.reduceNeg, Int.reduceLE, Int.reduceLT, reduceIte, Nat.reduceEqDiff, Nat.reduceLT, Nat.reduceLeDiff, Nat.reduceAdd, Nat.reduceMul, Nat.reduceSub, Nat.reducePow, ne_eq, Int.reduceAdd, Int.reduceSub, Int.reduceMul, Int.reduceToNat, implies_true, vtab, RetTo, Try.results79, retVals, retVal, mkRet, AVal.upto, Nat.zero_le, Nat.le_refl, seqPost_ret, blockPost_ret, loopPost_ret]
      have e : ∀ x : AObj, (O ++ [x]).take (O.length + 1) = O ++ [x] := fun x => List.take_of_length_le (by simp)
      rw [e]
      refine ⟨fun o ho => ?_, by omega, rfl, rfl⟩
      rcases List.mem_append.1 ho with ho | ho
      · exact hO o ho
      · rw [List.mem_singleton.1 ho]
        show uptoL _ _
        rw [uptoL_iff]
        intro c hc
        simp only [List.mem_flatten, List.mem_replicate] at hc
        obtain ⟨_, ⟨_, rfl⟩, hc⟩ := hc
        simp only [List.mem_cons, List.not_mem_nil, or_false] at hc
        rcases hc with rfl | rfl | rfl | rfl <;> simp [AVal.upto, uptoL]
    · simp at h
      omega

/-- How many patterns. -/
def total (rows : List (List Pat)) : Nat := rows.flatten.length

theorem total_next {rows : List (List Pat)} {k : Nat} {r : List Pat} (h : rows[k]? = some r) : total (rows.take (k + 1)) = total (rows.take k) + r.length := by
  rw [total, take_next h]
  simp [total]

theorem total_le (rows : List (List Pat)) (k : Nat) : total (rows.take k) ≤ total rows := by
  have : rows.flatten = (rows.take k).flatten ++ (rows.drop k).flatten := by rw [← List.flatten_append, List.take_append_drop]
  rw [total, total, this]
  simp

theorem zeros_len (n : Nat) : ((List.replicate n zeroPat).flatten).length = n * 4 := by simp [zeroPat]

theorem zeros_drop (n m : Nat) : ((List.replicate n zeroPat).flatten).drop (m * 4) = (List.replicate (n - m) zeroPat).flatten := by
  induction m generalizing n with
  | zero => simp
  | succ m ih =>
    cases n with
    | zero => simp
    | succ n =>
      rw [List.replicate_succ, List.flatten_cons, List.drop_append, List.drop_of_length_le (by simp [zeroPat]; omega), show (m + 1) * 4 - zeroPat.length = m * 4 by simp [zeroPat]; omega, List.nil_append, ih, Nat.add_sub_add_right]

theorem row_fill (A r : List Pat) (n : Nat) : splice (cellsAll (A.map Pat.enc) ++ (List.replicate n zeroPat).flatten) (A.length * 4) (cellsAll (r.map Pat.enc)) = cellsAll ((A ++ r).map Pat.enc) ++ (List.replicate (n - r.length) zeroPat).flatten := by
  have h1 := Pat.row_len A
  have h2 := Pat.row_len r
  rw [splice, ← h1, List.take_left, List.drop_append, List.drop_of_length_le (by omega), List.nil_append, h2, show (cellsAll (A.map Pat.enc)).length + r.length * 4 - (cellsAll (A.map Pat.enc)).length = r.length * 4 by omega, zeros_drop, List.map_append, cellsAll_append, List.append_assoc]

theorem concat_spec (rows : List (List Pat)) (hb : rows.length ≤ 2 ^ 30) (ht : total rows ≤ 2 ^ 30) : PCall Try.prog 47 [eRR rows] (eR rows.flatten) := by
  refine ecall_of hT true 0 Try.func47 rfl (by kernel_rfl) (by simp [Try.ntmps47]) (by simp) ?_
  show AWP Try.prog _ _ _ ⟨36, _, _⟩
  dsimp only [Tmp, TypeId, slotsOf]
  first | refine awp_seq (awp_region hT hm ?_) | refine awp_region hT hm ?_ | refine awp_seq (awp_seq (awp_region hT hm ?_)) | refine awp_seq (awp_seq (awp_seq (awp_region hT hm ?_)))
  simp -dsimp only [↓vpre, vpos, Int.reduceNeg, Int.reduceLE, Int.reduceLT, reduceIte, Nat.reduceEqDiff, Nat.reduceLT, Nat.reduceLeDiff, Nat.reduceAdd, Nat.reduceMul, Nat.reduceSub, Nat.reducePow, ne_eq, Int.reduceAdd, Int.reduceSub, Int.reduceMul, Int.reduceToNat, implies_true, vtab]
  refine at_intro ?_
  simp -dsimp only [vend, ne_eq, Nat.reduceEqDiff, reduceCtorEq]
  first | refine awp_seq (awp_region hT hm ?_) | refine awp_region hT hm ?_ | refine awp_seq (awp_seq (awp_region hT hm ?_)) | refine awp_seq (awp_seq (awp_seq (awp_region hT hm ?_)))
  simp -dsimp only [↓vpre, vpos, Int.reduceNeg, Int.reduceLE, Int.reduceLT, reduceIte, Nat.reduceEqDiff, Nat.reduceLT, Nat.reduceLeDiff, Nat.reduceAdd, Nat.reduceMul, Nat.reduceSub, Nat.reducePow, ne_eq, Int.reduceAdd, Int.reduceSub, Int.reduceMul, Int.reduceToNat, implies_true, vtab]
  refine at_intro ?_
  simp -dsimp only [vend, ne_eq, Nat.reduceEqDiff, reduceCtorEq]
  first | refine awp_seq (awp_region hT hm ?_) | refine awp_region hT hm ?_ | refine awp_seq (awp_seq (awp_region hT hm ?_)) | refine awp_seq (awp_seq (awp_seq (awp_region hT hm ?_)))
  simp -dsimp only [↓vpre, vpos, Int.reduceNeg, Int.reduceLE, Int.reduceLT, reduceIte, Nat.reduceEqDiff, Nat.reduceLT, Nat.reduceLeDiff, Nat.reduceAdd, Nat.reduceMul, Nat.reduceSub, Nat.reducePow, ne_eq, Int.reduceAdd, Int.reduceSub, Int.reduceMul, Int.reduceToNat, implies_true, vtab]
  refine at_intro ?_
  simp -dsimp only [vend, ne_eq, Nat.reduceEqDiff, reduceCtorEq]
  first | refine awp_block (awp_loop (ι := {k : Nat // k ≤ rows.length}) (fun k => ⟨36, [(0, eRR rows), (9, eRR rows), (10, .v (.int .i64 rows.length)), (11, .v (.int .i64 k.1)), (3, .v (.int .i64 (total (rows.take k.1))))], []⟩) (fun k => rows.length - k.1) ⟨0, by omega⟩ ?_ ?_) | refine awp_seq (awp_block (awp_loop (ι := {k : Nat // k ≤ rows.length}) (fun k => ⟨36, [(0, eRR rows), (9, eRR rows), (10, .v (.int .i64 rows.length)), (11, .v (.int .i64 k.1)), (3, .v (.int .i64 (total (rows.take k.1))))], []⟩) (fun k => rows.length - k.1) ⟨0, by omega⟩ ?_ ?_))
  · refine ⟨rfl, ?_, ?_⟩
    rotate_left
    simp -dsimp only [↓vpre, vpos, Int.reduceNeg, Int.reduceLE, Int.reduceLT, reduceIte, Nat.reduceEqDiff, Nat.reduceLT, Nat.reduceLeDiff, Nat.reduceAdd, Nat.reduceMul, Nat.reduceSub, Nat.reducePow, ne_eq, Int.reduceAdd, Int.reduceSub, Int.reduceMul, Int.reduceToNat, implies_true, vtab, Says, exists_eq_left', Option.some.injEq, sub_self, and_assoc, true_and, and_true, total, List.flatten_nil]
    rfl
  · rintro ⟨k, hk⟩
    first | refine awp_seq (awp_region hT hm ?_) | refine awp_region hT hm ?_ | refine awp_seq (awp_seq (awp_region hT hm ?_)) | refine awp_seq (awp_seq (awp_seq (awp_region hT hm ?_)))
    simp -dsimp only [↓vpre, vpos, Int.reduceNeg, Int.reduceLE, Int.reduceLT, reduceIte, Nat.reduceEqDiff, Nat.reduceLT, Nat.reduceLeDiff, Nat.reduceAdd, Nat.reduceMul, Nat.reduceSub, Nat.reducePow, ne_eq, Int.reduceAdd, Int.reduceSub, Int.reduceMul, Int.reduceToNat, implies_true, vtab]
    refine at_intro ?_
    simp -dsimp only [vend, ne_eq, Nat.reduceEqDiff, reduceCtorEq]
    first | refine awp_seq (awp_cond rfl (fun h => ?_) (fun h => ?_)) | refine awp_cond rfl (fun h => ?_) (fun h => ?_) | refine awp_seq (awp_seq (awp_cond rfl (fun h => ?_) (fun h => ?_)))
    · refine awp_skip ?_
      simp -dsimp only [vend, ne_eq, Nat.reduceEqDiff, reduceCtorEq]
      have hlt : k < rows.length := by simpa using h
      obtain ⟨r, hr⟩ : ∃ r, rows[k]? = some r := ⟨rows[k], by simp [hlt]⟩
      have h1 := total_next hr
      have h2 := total_le rows (k + 1)
      first | refine awp_seq (awp_block ?_) | refine awp_block ?_
      first | refine awp_seq (awp_region hT hm ?_) | refine awp_region hT hm ?_ | refine awp_seq (awp_seq (awp_region hT hm ?_)) | refine awp_seq (awp_seq (awp_seq (awp_region hT hm ?_)))
      simp -dsimp only [↓vpre, vpos, Int.reduceNeg, Int.reduceLE, Int.reduceLT, reduceIte, Nat.reduceEqDiff, Nat.reduceLT, Nat.reduceLeDiff, Nat.reduceAdd, Nat.reduceMul, Nat.reduceSub, Nat.reducePow, ne_eq, Int.reduceAdd, Int.reduceSub, Int.reduceMul, Int.reduceToNat, implies_true, vtab, hr]
      refine at_intro ?_
      simp -dsimp only [vend, ne_eq, Nat.reduceEqDiff, reduceCtorEq]
      first | refine awp_seq (awp_region hT hm ?_) | refine awp_region hT hm ?_ | refine awp_seq (awp_seq (awp_region hT hm ?_)) | refine awp_seq (awp_seq (awp_seq (awp_region hT hm ?_)))
      simp -dsimp only [↓vpre, vpos, Int.reduceNeg, Int.reduceLE, Int.reduceLT, reduceIte, Nat.reduceEqDiff, Nat.reduceLT, Nat.reduceLeDiff, Nat.reduceAdd, Nat.reduceMul, Nat.reduceSub, Nat.reducePow, ne_eq, Int.reduceAdd, Int.reduceSub, Int.reduceMul, Int.reduceToNat, implies_true, vtab]
      refine ⟨by omega, by omega, ?_⟩
      refine at_intro ?_
      simp -dsimp only [vend, ne_eq, Nat.reduceEqDiff, reduceCtorEq]
      first | refine awp_seq (awp_region hT hm ?_) | refine awp_region hT hm ?_ | refine awp_seq (awp_seq (awp_region hT hm ?_)) | refine awp_seq (awp_seq (awp_seq (awp_region hT hm ?_)))
      simp -dsimp only [↓vpre, vpos, Int.reduceNeg, Int.reduceLE, Int.reduceLT, reduceIte, Nat.reduceEqDiff, Nat.reduceLT, Nat.reduceLeDiff, Nat.reduceAdd, Nat.reduceMul, Nat.reduceSub, Nat.reducePow, ne_eq, Int.reduceAdd, Int.reduceSub, Int.reduceMul, Int.reduceToNat, implies_true, vtab]
      refine at_intro ?_
      simp -dsimp only [vend, ne_eq, Nat.reduceEqDiff, reduceCtorEq]
      first | refine awp_seq (awp_cond rfl (fun h => ?_) (fun h => ?_)) | refine awp_cond rfl (fun h => ?_) (fun h => ?_) | refine awp_seq (awp_seq (awp_cond rfl (fun h => ?_) (fun h => ?_)))
      · simp at h
        omega
      · refine awp_skip ?_
        simp -dsimp only [vend, ne_eq, Nat.reduceEqDiff, reduceCtorEq]
        first | refine awp_seq (awp_region hT hm ?_) | refine awp_region hT hm ?_ | refine awp_seq (awp_seq (awp_region hT hm ?_)) | refine awp_seq (awp_seq (awp_seq (awp_region hT hm ?_)))
        simp -dsimp only [↓vpre, vpos, Int.reduceNeg, Int.reduceLE, Int.reduceLT, reduceIte, Nat.reduceEqDiff, Nat.reduceLT, Nat.reduceLeDiff, Nat.reduceAdd, Nat.reduceMul, Nat.reduceSub, Nat.reducePow, ne_eq, Int.reduceAdd, Int.reduceSub, Int.reduceMul, Int.reduceToNat, implies_true, vtab]
        refine ⟨by omega, by omega, ?_⟩
        refine at_intro ?_
        simp -dsimp only [vend, ne_eq, Nat.reduceEqDiff, reduceCtorEq]
        refine ⟨⟨k + 1, hlt⟩, by simp; omega, ?_⟩
        refine ⟨rfl, ?_, ?_⟩
        rotate_left
        simp -dsimp only [↓vpre, vpos, Int.reduceNeg, Int.reduceLE, Int.reduceLT, reduceIte, Nat.reduceEqDiff, Nat.reduceLT, Nat.reduceLeDiff, Nat.reduceAdd, Nat.reduceMul, Nat.reduceSub, Nat.reducePow, ne_eq, Int.reduceAdd, Int.reduceSub, Int.reduceMul, Int.reduceToNat, implies_true, vtab, Says, exists_eq_left', Option.some.injEq, sub_self, and_assoc, true_and, and_true]
        · exact ⟨Sub.int (by simp), Sub.int (by simp only [h1]; omega)⟩
        · rfl
    · refine awp_exit ?_
      simp -dsimp only [vend, ne_eq, Nat.reduceEqDiff, reduceCtorEq]
      have hlt : k = rows.length := by simp at h; omega
      subst hlt
      simp only [List.take_length]
      by_cases h0 : total rows = 0
      · rw [h0]
        first | refine awp_seq (awp_region hT hm ?_) | refine awp_region hT hm ?_ | refine awp_seq (awp_seq (awp_region hT hm ?_)) | refine awp_seq (awp_seq (awp_seq (awp_region hT hm ?_)))
        simp -dsimp only [↓vpre, vpos, Int.reduceNeg, Int.reduceLE, Int.reduceLT, reduceIte, Nat.reduceEqDiff, Nat.reduceLT, Nat.reduceLeDiff, Nat.reduceAdd, Nat.reduceMul, Nat.reduceSub, Nat.reducePow, ne_eq, Int.reduceAdd, Int.reduceSub, Int.reduceMul, Int.reduceToNat, implies_true, vtab]
        refine .inr (.inl ⟨_, _, (grow_nil [] (by simp)), later_intro ?_⟩)
        simp -dsimp only [↓vpre, vpos, Int.reduceNeg, Int.reduceLE, Int.reduceLT, reduceIte, Nat.reduceEqDiff, Nat.reduceLT, Nat.reduceLeDiff, Nat.reduceAdd, Nat.reduceMul, Nat.reduceSub, Nat.reducePow, ne_eq, Int.reduceAdd, Int.reduceSub, Int.reduceMul, Int.reduceToNat, implies_true, vtab]
        refine at_intro ?_
        simp -dsimp only [vend, ne_eq, Nat.reduceEqDiff, reduceCtorEq]
        have hnil : ∀ k r, rows[k]? = some r → r = [] := fun k r hr => by
          have h1 := total_next hr
          have h2 := total_le rows (k + 1)
          exact List.length_eq_zero_iff.1 (by omega)
        have hfl : rows.flatten = [] := List.length_eq_zero_iff.1 h0
        refine awp_own 6 rfl ?_
        simp -dsimp only [↓vpre, vpos, Int.reduceNeg, Int.reduceLE, Int.reduceLT, reduceIte, Nat.reduceEqDiff, Nat.reduceLT, Nat.reduceLeDiff, Nat.reduceAdd, Nat.reduceMul, Nat.reduceSub, Nat.reducePow, ne_eq, Int.reduceAdd, Int.reduceSub, Int.reduceMul, Int.reduceToNat, implies_true, vtab]
        first | refine awp_seq (awp_region hT hm ?_) | refine awp_region hT hm ?_ | refine awp_seq (awp_seq (awp_region hT hm ?_)) | refine awp_seq (awp_seq (awp_seq (awp_region hT hm ?_)))
        simp -dsimp only [↓vpre, vpos, Int.reduceNeg, Int.reduceLE, Int.reduceLT, reduceIte, Nat.reduceEqDiff, Nat.reduceLT, Nat.reduceLeDiff, Nat.reduceAdd, Nat.reduceMul, Nat.reduceSub, Nat.reducePow, ne_eq, Int.reduceAdd, Int.reduceSub, Int.reduceMul, Int.reduceToNat, implies_true, vtab]
        refine at_intro ?_
        simp -dsimp only [vend, ne_eq, Nat.reduceEqDiff, reduceCtorEq]
        first | refine awp_block (awp_loop (ι := {k : Nat // k ≤ rows.length}) (fun k => ⟨36, [(25, eRR rows), (26, .v (.int .i64 rows.length)), (27, .v (.int .i64 k.1)), (6, .lst 4 [] (.tok 0))], [.spare 0]⟩) (fun k => rows.length - k.1) ⟨0, by omega⟩ ?_ ?_) | refine awp_seq (awp_block (awp_loop (ι := {k : Nat // k ≤ rows.length}) (fun k => ⟨36, [(25, eRR rows), (26, .v (.int .i64 rows.length)), (27, .v (.int .i64 k.1)), (6, .lst 4 [] (.tok 0))], [.spare 0]⟩) (fun k => rows.length - k.1) ⟨0, by omega⟩ ?_ ?_))
        · refine ⟨rfl, ?_, ?_⟩
          rotate_left
          simp -dsimp only [↓vpre, vpos, Int.reduceNeg, Int.reduceLE, Int.reduceLT, reduceIte, Nat.reduceEqDiff, Nat.reduceLT, Nat.reduceLeDiff, Nat.reduceAdd, Nat.reduceMul, Nat.reduceSub, Nat.reducePow, ne_eq, Int.reduceAdd, Int.reduceSub, Int.reduceMul, Int.reduceToNat, implies_true, vtab, Says, exists_eq_left', Option.some.injEq, sub_self, and_assoc, true_and, and_true]
          rfl
        · rintro ⟨k, hk⟩
          first | refine awp_seq (awp_region hT hm ?_) | refine awp_region hT hm ?_ | refine awp_seq (awp_seq (awp_region hT hm ?_)) | refine awp_seq (awp_seq (awp_seq (awp_region hT hm ?_)))
          simp -dsimp only [↓vpre, vpos, Int.reduceNeg, Int.reduceLE, Int.reduceLT, reduceIte, Nat.reduceEqDiff, Nat.reduceLT, Nat.reduceLeDiff, Nat.reduceAdd, Nat.reduceMul, Nat.reduceSub, Nat.reducePow, ne_eq, Int.reduceAdd, Int.reduceSub, Int.reduceMul, Int.reduceToNat, implies_true, vtab]
          refine at_intro ?_
          simp -dsimp only [vend, ne_eq, Nat.reduceEqDiff, reduceCtorEq]
          first | refine awp_seq (awp_cond rfl (fun h => ?_) (fun h => ?_)) | refine awp_cond rfl (fun h => ?_) (fun h => ?_) | refine awp_seq (awp_seq (awp_cond rfl (fun h => ?_) (fun h => ?_)))
          · refine awp_skip ?_
            simp -dsimp only [vend, ne_eq, Nat.reduceEqDiff, reduceCtorEq]
            have hlt : k < rows.length := by simpa using h
            obtain ⟨r, hr⟩ : ∃ r, rows[k]? = some r := ⟨rows[k], by simp [hlt]⟩
            have hr0 := hnil k r hr
            subst hr0
            first | refine awp_seq (awp_block ?_) | refine awp_block ?_
            first | refine awp_seq (awp_region hT hm ?_) | refine awp_region hT hm ?_ | refine awp_seq (awp_seq (awp_region hT hm ?_)) | refine awp_seq (awp_seq (awp_seq (awp_region hT hm ?_)))
            simp -dsimp only [↓vpre, vpos, Int.reduceNeg, Int.reduceLE, Int.reduceLT, reduceIte, Nat.reduceEqDiff, Nat.reduceLT, Nat.reduceLeDiff, Nat.reduceAdd, Nat.reduceMul, Nat.reduceSub, Nat.reducePow, ne_eq, Int.reduceAdd, Int.reduceSub, Int.reduceMul, Int.reduceToNat, implies_true, vtab, hr]
            refine at_intro ?_
            simp -dsimp only [vend, ne_eq, Nat.reduceEqDiff, reduceCtorEq]
            first | refine awp_seq (awp_region hT hm ?_) | refine awp_region hT hm ?_ | refine awp_seq (awp_seq (awp_region hT hm ?_)) | refine awp_seq (awp_seq (awp_seq (awp_region hT hm ?_)))
            simp -dsimp only [↓vpre, vpos, Int.reduceNeg, Int.reduceLE, Int.reduceLT, reduceIte, Nat.reduceEqDiff, Nat.reduceLT, Nat.reduceLeDiff, Nat.reduceAdd, Nat.reduceMul, Nat.reduceSub, Nat.reducePow, ne_eq, Int.reduceAdd, Int.reduceSub, Int.reduceMul, Int.reduceToNat, implies_true, vtab]
            refine at_intro ?_
            simp -dsimp only [vend, ne_eq, Nat.reduceEqDiff, reduceCtorEq]
            first | refine awp_seq (awp_region hT hm ?_) | refine awp_region hT hm ?_ | refine awp_seq (awp_seq (awp_region hT hm ?_)) | refine awp_seq (awp_seq (awp_seq (awp_region hT hm ?_)))
            simp -dsimp only [↓vpre, vpos, Int.reduceNeg, Int.reduceLE, Int.reduceLT, reduceIte, Nat.reduceEqDiff, Nat.reduceLT, Nat.reduceLeDiff, Nat.reduceAdd, Nat.reduceMul, Nat.reduceSub, Nat.reducePow, ne_eq, Int.reduceAdd, Int.reduceSub, Int.reduceMul, Int.reduceToNat, implies_true, vtab]
            refine ⟨by omega, by omega, ?_⟩
            refine at_intro ?_
            simp -dsimp only [vend, ne_eq, Nat.reduceEqDiff, reduceCtorEq]
            refine ⟨⟨k + 1, hlt⟩, by simp; omega, ?_⟩
            refine ⟨rfl, ?_, ?_⟩
            rotate_left
            simp -dsimp only [↓vpre, vpos, Int.reduceNeg, Int.reduceLE, Int.reduceLT, reduceIte, Nat.reduceEqDiff, Nat.reduceLT, Nat.reduceLeDiff, Nat.reduceAdd, Nat.reduceMul, Nat.reduceSub, Nat.reducePow, ne_eq, Int.reduceAdd, Int.reduceSub, Int.reduceMul, Int.reduceToNat, implies_true, vtab, Says, exists_eq_left', Option.some.injEq, sub_self, and_assoc, true_and, and_true]
            · exact Sub.int (by simp)
            · rfl
          · refine awp_exit ?_
            simp -dsimp only [vend, ne_eq, Nat.reduceEqDiff, reduceCtorEq]
            first | refine awp_seq (awp_region hT hm ?_) | refine awp_region hT hm ?_ | refine awp_seq (awp_seq (awp_region hT hm ?_)) | refine awp_seq (awp_seq (awp_seq (awp_region hT hm ?_)))
            simp -dsimp only [↓vpre, vpos, Int.reduceNeg, Int.reduceLE, Int.reduceLT, reduceIte, Nat.reduceEqDiff, Nat.reduceLT, Nat.reduceLeDiff, Nat.reduceAdd, Nat.reduceMul, Nat.reduceSub, Nat.reducePow, ne_eq, Int.reduceAdd, Int.reduceSub, Int.reduceMul, Int.reduceToNat, implies_true, vtab]
            refine at_intro ?_
            simp -dsimp only [vend, ne_eq, Nat.reduceEqDiff, reduceCtorEq]
            refine awp_ret ?_
            simp -dsimp only [↓vpre, vpos, Int.reduceNeg, Int.reduceLE, Int.reduceLT, reduceIte, Nat.reduceEqDiff, Nat.reduceLT, Nat.reduceLeDiff, Nat.reduceAdd, Nat.reduceMul, Nat.reduceSub, Nat.reducePow, ne_eq, Int.reduceAdd, Int.reduceSub, Int.reduceMul, Int.reduceToNat, implies_true, vtab, RetTo, Try.results47, retVals, retVal, mkRet, AVal.upto, Nat.zero_le, Nat.le_refl, seqPost_ret, blockPost_ret, loopPost_ret]
            simp [hfl, uptoL]
      · first | refine awp_seq (awp_region hT hm ?_) | refine awp_region hT hm ?_ | refine awp_seq (awp_seq (awp_region hT hm ?_)) | refine awp_seq (awp_seq (awp_seq (awp_region hT hm ?_)))
        simp -dsimp only [↓vpre, vpos, Int.reduceNeg, Int.reduceLE, Int.reduceLT, reduceIte, Nat.reduceEqDiff, Nat.reduceLT, Nat.reduceLeDiff, Nat.reduceAdd, Nat.reduceMul, Nat.reduceSub, Nat.reducePow, ne_eq, Int.reduceAdd, Int.reduceSub, Int.reduceMul, Int.reduceToNat, implies_true, vtab]
        refine .inr (.inl ⟨_, _, (grow_spec [] (by simp) (total rows) (by omega) (by omega)), later_intro ?_⟩)
        simp -dsimp only [↓vpre, vpos, Int.reduceNeg, Int.reduceLE, Int.reduceLT, reduceIte, Nat.reduceEqDiff, Nat.reduceLT, Nat.reduceLeDiff, Nat.reduceAdd, Nat.reduceMul, Nat.reduceSub, Nat.reducePow, ne_eq, Int.reduceAdd, Int.reduceSub, Int.reduceMul, Int.reduceToNat, implies_true, vtab]
        refine at_intro ?_
        simp -dsimp only [vend, ne_eq, Nat.reduceEqDiff, reduceCtorEq]
        first | refine awp_seq (awp_region hT hm ?_) | refine awp_region hT hm ?_ | refine awp_seq (awp_seq (awp_region hT hm ?_)) | refine awp_seq (awp_seq (awp_seq (awp_region hT hm ?_)))
        simp -dsimp only [↓vpre, vpos, Int.reduceNeg, Int.reduceLE, Int.reduceLT, reduceIte, Nat.reduceEqDiff, Nat.reduceLT, Nat.reduceLeDiff, Nat.reduceAdd, Nat.reduceMul, Nat.reduceSub, Nat.reducePow, ne_eq, Int.reduceAdd, Int.reduceSub, Int.reduceMul, Int.reduceToNat, implies_true, vtab]
        refine at_intro ?_
        simp -dsimp only [vend, ne_eq, Nat.reduceEqDiff, reduceCtorEq]
        obtain ⟨n, hn⟩ : ∃ n, n = total rows := ⟨_, rfl⟩
        simp only [← hn]
        first | refine awp_block (awp_loop (ι := {k : Nat // k ≤ rows.length}) (fun k => ⟨36, [(25, eRR rows), (26, .v (.int .i64 rows.length)), (27, .v (.int .i64 k.1)), (6, .ms 0 0 (total (rows.take k.1)) n)], [.cells (cellsAll ((rows.take k.1).flatten.map Pat.enc) ++ (List.replicate (n - total (rows.take k.1)) zeroPat).flatten)]⟩) (fun k => rows.length - k.1) ⟨0, by omega⟩ ?_ ?_) | refine awp_seq (awp_block (awp_loop (ι := {k : Nat // k ≤ rows.length}) (fun k => ⟨36, [(25, eRR rows), (26, .v (.int .i64 rows.length)), (27, .v (.int .i64 k.1)), (6, .ms 0 0 (total (rows.take k.1)) n)], [.cells (cellsAll ((rows.take k.1).flatten.map Pat.enc) ++ (List.replicate (n - total (rows.take k.1)) zeroPat).flatten)]⟩) (fun k => rows.length - k.1) ⟨0, by omega⟩ ?_ ?_))
        · refine ⟨rfl, ?_, ?_⟩
          rotate_left
          simp -dsimp only [↓vpre, vpos, Int.reduceNeg, Int.reduceLE, Int.reduceLT, reduceIte, Nat.reduceEqDiff, Nat.reduceLT, Nat.reduceLeDiff, Nat.reduceAdd, Nat.reduceMul, Nat.reduceSub, Nat.reducePow, ne_eq, Int.reduceAdd, Int.reduceSub, Int.reduceMul, Int.reduceToNat, implies_true, vtab, Says, exists_eq_left', Option.some.injEq, sub_self, and_assoc, true_and, and_true, total, List.flatten_nil]
          simp [total, cellsAll]
        · rintro ⟨k, hk⟩
          first | refine awp_seq (awp_region hT hm ?_) | refine awp_region hT hm ?_ | refine awp_seq (awp_seq (awp_region hT hm ?_)) | refine awp_seq (awp_seq (awp_seq (awp_region hT hm ?_)))
          simp -dsimp only [↓vpre, vpos, Int.reduceNeg, Int.reduceLE, Int.reduceLT, reduceIte, Nat.reduceEqDiff, Nat.reduceLT, Nat.reduceLeDiff, Nat.reduceAdd, Nat.reduceMul, Nat.reduceSub, Nat.reducePow, ne_eq, Int.reduceAdd, Int.reduceSub, Int.reduceMul, Int.reduceToNat, implies_true, vtab]
          refine at_intro ?_
          simp -dsimp only [vend, ne_eq, Nat.reduceEqDiff, reduceCtorEq]
          first | refine awp_seq (awp_cond rfl (fun h => ?_) (fun h => ?_)) | refine awp_cond rfl (fun h => ?_) (fun h => ?_) | refine awp_seq (awp_seq (awp_cond rfl (fun h => ?_) (fun h => ?_)))
          · refine awp_skip ?_
            simp -dsimp only [vend, ne_eq, Nat.reduceEqDiff, reduceCtorEq]
            have hlt : k < rows.length := by simpa using h
            obtain ⟨r, hr⟩ : ∃ r, rows[k]? = some r := ⟨rows[k], by simp [hlt]⟩
            have h1 := total_next hr
            have h2 := total_le rows (k + 1)
            first | refine awp_seq (awp_block ?_) | refine awp_block ?_
            first | refine awp_seq (awp_region hT hm ?_) | refine awp_region hT hm ?_ | refine awp_seq (awp_seq (awp_region hT hm ?_)) | refine awp_seq (awp_seq (awp_seq (awp_region hT hm ?_)))
            simp -dsimp only [↓vpre, vpos, Int.reduceNeg, Int.reduceLE, Int.reduceLT, reduceIte, Nat.reduceEqDiff, Nat.reduceLT, Nat.reduceLeDiff, Nat.reduceAdd, Nat.reduceMul, Nat.reduceSub, Nat.reducePow, ne_eq, Int.reduceAdd, Int.reduceSub, Int.reduceMul, Int.reduceToNat, implies_true, vtab, hr]
            refine at_intro ?_
            simp -dsimp only [vend, ne_eq, Nat.reduceEqDiff, reduceCtorEq]
            first | refine awp_seq (awp_region hT hm ?_) | refine awp_region hT hm ?_ | refine awp_seq (awp_seq (awp_region hT hm ?_)) | refine awp_seq (awp_seq (awp_seq (awp_region hT hm ?_)))
            simp -dsimp only [↓vpre, vpos, Int.reduceNeg, Int.reduceLE, Int.reduceLT, reduceIte, Nat.reduceEqDiff, Nat.reduceLT, Nat.reduceLeDiff, Nat.reduceAdd, Nat.reduceMul, Nat.reduceSub, Nat.reducePow, ne_eq, Int.reduceAdd, Int.reduceSub, Int.reduceMul, Int.reduceToNat, implies_true, vtab]
            have hcl := Pat.row_len (rows.take k).flatten
            have htl : (rows.take k).flatten.length = total (rows.take k) := rfl
            have hzl := zeros_len (n - total (rows.take k))
            refine ⟨by omega, by omega, by omega, ?_⟩
            have hf := row_fill (rows.take k).flatten r (n - total (rows.take k))
            rw [htl] at hf
            simp -dsimp only [↓vpre, vpos, Int.reduceNeg, Int.reduceLE, Int.reduceLT, reduceIte, Nat.reduceEqDiff, Nat.reduceLT, Nat.reduceLeDiff, Nat.reduceAdd, Nat.reduceMul, Nat.reduceSub, Nat.reducePow, ne_eq, Int.reduceAdd, Int.reduceSub, Int.reduceMul, Int.reduceToNat, implies_true, vtab, hf]
            refine at_intro ?_
            simp -dsimp only [vend, ne_eq, Nat.reduceEqDiff, reduceCtorEq]
            first | refine awp_seq (awp_region hT hm ?_) | refine awp_region hT hm ?_ | refine awp_seq (awp_seq (awp_region hT hm ?_)) | refine awp_seq (awp_seq (awp_seq (awp_region hT hm ?_)))
            simp -dsimp only [↓vpre, vpos, Int.reduceNeg, Int.reduceLE, Int.reduceLT, reduceIte, Nat.reduceEqDiff, Nat.reduceLT, Nat.reduceLeDiff, Nat.reduceAdd, Nat.reduceMul, Nat.reduceSub, Nat.reducePow, ne_eq, Int.reduceAdd, Int.reduceSub, Int.reduceMul, Int.reduceToNat, implies_true, vtab]
            refine ⟨by omega, by omega, ?_⟩
            refine at_intro ?_
            simp -dsimp only [vend, ne_eq, Nat.reduceEqDiff, reduceCtorEq]
            refine ⟨⟨k + 1, hlt⟩, by simp; omega, ?_⟩
            refine ⟨rfl, ?_, ?_⟩
            rotate_left
            simp -dsimp only [↓vpre, vpos, Int.reduceNeg, Int.reduceLE, Int.reduceLT, reduceIte, Nat.reduceEqDiff, Nat.reduceLT, Nat.reduceLeDiff, Nat.reduceAdd, Nat.reduceMul, Nat.reduceSub, Nat.reducePow, ne_eq, Int.reduceAdd, Int.reduceSub, Int.reduceMul, Int.reduceToNat, implies_true, vtab, Says, exists_eq_left', Option.some.injEq, sub_self, and_assoc, true_and, and_true]
            · exact ⟨Sub.int (by simp), Sub.of_eq (by rw [h1])⟩
            · have h3 := h1
              rw [take_next hr] at h3
              simp only [take_next hr, h3, List.flatten_append, List.flatten_cons, List.flatten_nil, List.append_nil, Nat.sub_add_eq]
          · refine awp_exit ?_
            simp -dsimp only [vend, ne_eq, Nat.reduceEqDiff, reduceCtorEq]
            have hlt : k = rows.length := by simp at h; omega
            subst hlt
            simp only [List.take_length, ← hn, Nat.sub_self, List.replicate_zero, List.flatten_nil, List.append_nil]
            first | refine awp_seq (awp_region hT hm ?_) | refine awp_region hT hm ?_ | refine awp_seq (awp_seq (awp_region hT hm ?_)) | refine awp_seq (awp_seq (awp_seq (awp_region hT hm ?_)))
            simp -dsimp only [↓vpre, vpos, Int.reduceNeg, Int.reduceLE, Int.reduceLT, reduceIte, Nat.reduceEqDiff, Nat.reduceLT, Nat.reduceLeDiff, Nat.reduceAdd, Nat.reduceMul, Nat.reduceSub, Nat.reducePow, ne_eq, Int.reduceAdd, Int.reduceSub, Int.reduceMul, Int.reduceToNat, implies_true, vtab]
            refine at_intro ?_
            simp -dsimp only [vend, ne_eq, Nat.reduceEqDiff, reduceCtorEq]
            refine awp_freeze1 2 0 (.lst 4 (rows.flatten.map Pat.enc) .sh) rfl (by simp [AObj.isSpare]) trivial rfl ?_ ?_
            rotate_left
            simp -dsimp only [↓vpre, vpos, Int.reduceNeg, Int.reduceLE, Int.reduceLT, reduceIte, Nat.reduceEqDiff, Nat.reduceLT, Nat.reduceLeDiff, Nat.reduceAdd, Nat.reduceMul, Nat.reduceSub, Nat.reducePow, ne_eq, Int.reduceAdd, Int.reduceSub, Int.reduceMul, Int.reduceToNat, implies_true, vtab]
            · refine awp_ret ?_
              simp -dsimp only [↓vpre, vpos, Int.reduceNeg, Int.reduceLE, Int.reduceLT, reduceIte, Nat.reduceEqDiff, Nat.reduceLT, Nat.reduceLeDiff, Nat.reduceAdd, Nat.reduceMul, Nat.reduceSub, Nat.reducePow, ne_eq, Int.reduceAdd, Int.reduceSub, Int.reduceMul, Int.reduceToNat, implies_true, vtab, RetTo, Try.results47, retVals, retVal, mkRet, AVal.upto, Nat.zero_le, Nat.le_refl, seqPost_ret, blockPost_ret, loopPost_ret]
            · refine FSub.ms rfl ?_ (by rw [List.length_map, hn]; rfl) ?_
              · intro x hx
                obtain ⟨p, _, rfl⟩ := List.mem_map.1 hx
                exact p.cells_len
              · rw [List.drop_zero, List.take_of_length_le (by rw [Pat.row_len, hn]; exact Nat.le_refl _)]
                rw [← cellsAll_share, Pat.map_share]

end Go.Proofs.Ytakdmelemfnmdaa
end

section
set_option linter.unusedSimpArgs false
-- !tab vtab
-- !upto Pat.enc_upto Pat.map_upto any_upto
namespace Go.Proofs.Ytakdmelemfnmdaa
open Go.Av

theorem any_upto (n m : Nat) : uptoL n (List.replicate m Pat.any.enc) := by
  rw [uptoL_iff]
  intro x hx
  rw [(List.mem_replicate.1 hx).2]
  exact Pat.enc_upto n _

theorem rows_upto (n : Nat) (l : List (List Pat)) : uptoL n (l.map eR) := by
  rw [uptoL_iff]
  intro x hx
  obtain ⟨r, _, rfl⟩ := List.mem_map.1 hx
  exact ⟨Pat.map_upto n r, trivial⟩

def rests : List (List Pat) → List (List Pat)
  | [] => []
  | [] :: r => rests r
  | (p :: x) :: r => if p.free then x :: rests r else rests r

theorem rests_len : ∀ rows : List (List Pat), (rests rows).length ≤ rows.length
  | [] => by simp [rests]
  | [] :: r => by
    have := rests_len r
    simp [rests]
    omega
  | (p :: _) :: r => by
    have := rests_len r
    simp only [rests]
    split <;> simp <;> omega

theorem rests_append : ∀ a b : List (List Pat), rests (a ++ b) = rests a ++ rests b
  | [], b => by simp [rests]
  | [] :: r, b => by simp [rests, rests_append r b]
  | (p :: _) :: r, b => by
    simp only [List.cons_append, rests, rests_append r b]
    split <;> simp

theorem rest_spec (rows : List (List Pat)) (hb : rows.length ≤ 2 ^ 30) (hne : ∀ r ∈ rows, r ≠ []) : PCall Try.prog 44 [eRR rows] (eRR (rests rows)) := by
  refine ecall_of hT true 0 Try.func44 rfl (by kernel_rfl) (by simp [Try.ntmps44]) (by simp) ?_
  show AWP Try.prog _ _ _ ⟨23, _, _⟩
  dsimp only [Tmp, TypeId, slotsOf]
  first | refine awp_seq (awp_region hT hm ?_) | refine awp_region hT hm ?_ | refine awp_seq (awp_seq (awp_region hT hm ?_)) | refine awp_seq (awp_seq (awp_seq (awp_region hT hm ?_)))
  simp -dsimp only [↓vpre, vpos, Int.reduceNeg, Int.reduceLE, Int.reduceLT, reduceIte, Nat.reduceEqDiff, Nat.reduceLT, Nat.reduceLeDiff, Nat.reduceAdd, Nat.reduceMul, Nat.reduceSub, Nat.reducePow, ne_eq, Int.reduceAdd, Int.reduceSub, Int.reduceMul, Int.reduceToNat, implies_true, vtab]
  refine at_intro ?_
  simp -dsimp only [vend, ne_eq, Nat.reduceEqDiff, reduceCtorEq]
  first | refine awp_seq (awp_region hT hm ?_) | refine awp_region hT hm ?_ | refine awp_seq (awp_seq (awp_region hT hm ?_)) | refine awp_seq (awp_seq (awp_seq (awp_region hT hm ?_)))
  simp -dsimp only [↓vpre, vpos, Int.reduceNeg, Int.reduceLE, Int.reduceLT, reduceIte, Nat.reduceEqDiff, Nat.reduceLT, Nat.reduceLeDiff, Nat.reduceAdd, Nat.reduceMul, Nat.reduceSub, Nat.reducePow, ne_eq, Int.reduceAdd, Int.reduceSub, Int.reduceMul, Int.reduceToNat, implies_true, vtab]
  refine at_intro ?_
  simp -dsimp only [vend, ne_eq, Nat.reduceEqDiff, reduceCtorEq]
  first | refine awp_seq (awp_region hT hm ?_) | refine awp_region hT hm ?_ | refine awp_seq (awp_seq (awp_region hT hm ?_)) | refine awp_seq (awp_seq (awp_seq (awp_region hT hm ?_)))
  simp -dsimp only [↓vpre, vpos, Int.reduceNeg, Int.reduceLE, Int.reduceLT, reduceIte, Nat.reduceEqDiff, Nat.reduceLT, Nat.reduceLeDiff, Nat.reduceAdd, Nat.reduceMul, Nat.reduceSub, Nat.reducePow, ne_eq, Int.reduceAdd, Int.reduceSub, Int.reduceMul, Int.reduceToNat, implies_true, vtab]
  refine at_intro ?_
  simp -dsimp only [vend, ne_eq, Nat.reduceEqDiff, reduceCtorEq]
  refine awp_own 3 rfl ?_
  simp -dsimp only [↓vpre, vpos, Int.reduceNeg, Int.reduceLE, Int.reduceLT, reduceIte, Nat.reduceEqDiff, Nat.reduceLT, Nat.reduceLeDiff, Nat.reduceAdd, Nat.reduceMul, Nat.reduceSub, Nat.reducePow, ne_eq, Int.reduceAdd, Int.reduceSub, Int.reduceMul, Int.reduceToNat, implies_true, vtab]
  first | refine awp_block (awp_loop (ι := {k : Nat // k ≤ rows.length}) (fun k => ⟨23, [(6, eRR rows), (7, .v (.int .i64 rows.length)), (8, .v (.int .i64 k)), (3, .lst 1 ((rests (rows.take k)).map eR) (.tok 0))], [.spare (rests (rows.take k)).length]⟩) (fun k => rows.length - k) ⟨0, by omega⟩ ?_ ?_) | refine awp_seq (awp_block (awp_loop (ι := {k : Nat // k ≤ rows.length}) (fun k => ⟨23, [(6, eRR rows), (7, .v (.int .i64 rows.length)), (8, .v (.int .i64 k)), (3, .lst 1 ((rests (rows.take k)).map eR) (.tok 0))], [.spare (rests (rows.take k)).length]⟩) (fun k => rows.length - k) ⟨0, by omega⟩ ?_ ?_))
  · refine ⟨rfl, ?_, ?_⟩
    rotate_left
    simp -dsimp only [↓vpre, vpos, Int.reduceNeg, Int.reduceLE, Int.reduceLT, reduceIte, Nat.reduceEqDiff, Nat.reduceLT, Nat.reduceLeDiff, Nat.reduceAdd, Nat.reduceMul, Nat.reduceSub, Nat.reducePow, ne_eq, Int.reduceAdd, Int.reduceSub, Int.reduceMul, Int.reduceToNat, implies_true, vtab, Says, exists_eq_left', Option.some.injEq, sub_self, and_assoc, true_and, and_true]
    · exact Sub.lst (by simp [rests])
    · simp [rests]
  · rintro ⟨k, hk⟩
    first | refine awp_seq (awp_region hT hm ?_) | refine awp_region hT hm ?_ | refine awp_seq (awp_seq (awp_region hT hm ?_)) | refine awp_seq (awp_seq (awp_seq (awp_region hT hm ?_)))
    simp -dsimp only [↓vpre, vpos, Int.reduceNeg, Int.reduceLE, Int.reduceLT, reduceIte, Nat.reduceEqDiff, Nat.reduceLT, Nat.reduceLeDiff, Nat.reduceAdd, Nat.reduceMul, Nat.reduceSub, Nat.reducePow, ne_eq, Int.reduceAdd, Int.reduceSub, Int.reduceMul, Int.reduceToNat, implies_true, vtab]
    refine at_intro ?_
    simp -dsimp only [vend, ne_eq, Nat.reduceEqDiff, reduceCtorEq]
    first | refine awp_seq (awp_cond rfl (fun h => ?_) (fun h => ?_)) | refine awp_cond rfl (fun h => ?_) (fun h => ?_) | refine awp_seq (awp_seq (awp_cond rfl (fun h => ?_) (fun h => ?_)))
    · refine awp_skip ?_
      simp -dsimp only [vend, ne_eq, Nat.reduceEqDiff, reduceCtorEq]
      have hlt : k < rows.length := by simpa using h
      obtain ⟨r, hr⟩ : ∃ r, rows[k]? = some r := ⟨rows[k], by simp [hlt]⟩
      first | refine awp_seq (awp_block ?_) | refine awp_block ?_
      first | refine awp_seq (awp_region hT hm ?_) | refine awp_region hT hm ?_ | refine awp_seq (awp_seq (awp_region hT hm ?_)) | refine awp_seq (awp_seq (awp_seq (awp_region hT hm ?_)))
      simp -dsimp only [↓vpre, vpos, Int.reduceNeg, Int.reduceLE, Int.reduceLT, reduceIte, Nat.reduceEqDiff, Nat.reduceLT, Nat.reduceLeDiff, Nat.reduceAdd, Nat.reduceMul, Nat.reduceSub, Nat.reducePow, ne_eq, Int.reduceAdd, Int.reduceSub, Int.reduceMul, Int.reduceToNat, implies_true, vtab, hr]
      refine at_intro ?_
      simp -dsimp only [vend, ne_eq, Nat.reduceEqDiff, reduceCtorEq]
      obtain ⟨p, r', rfl⟩ : ∃ p r', r = p :: r' := List.exists_cons_of_ne_nil (hne r (List.mem_of_getElem? hr))
      first | refine awp_seq (awp_region hT hm ?_) | refine awp_region hT hm ?_ | refine awp_seq (awp_seq (awp_region hT hm ?_)) | refine awp_seq (awp_seq (awp_seq (awp_region hT hm ?_)))
      simp -dsimp only [↓vpre, vpos, Int.reduceNeg, Int.reduceLE, Int.reduceLT, reduceIte, Nat.reduceEqDiff, Nat.reduceLT, Nat.reduceLeDiff, Nat.reduceAdd, Nat.reduceMul, Nat.reduceSub, Nat.reducePow, ne_eq, Int.reduceAdd, Int.reduceSub, Int.reduceMul, Int.reduceToNat, implies_true, vtab]
      refine .inl ⟨_, free_spec p, by first | (simp only [uptoL, AVal.upto, and_true, true_and, and_self, Pat.enc_upto, Pat.map_upto, any_upto]; done) | (simp [uptoL, AVal.upto, Pat.enc_upto, Pat.map_upto, any_upto]; done), later_intro ?_⟩
      simp -dsimp only [↓vpre, vpos, Int.reduceNeg, Int.reduceLE, Int.reduceLT, reduceIte, Nat.reduceEqDiff, Nat.reduceLT, Nat.reduceLeDiff, Nat.reduceAdd, Nat.reduceMul, Nat.reduceSub, Nat.reducePow, ne_eq, Int.reduceAdd, Int.reduceSub, Int.reduceMul, Int.reduceToNat, implies_true, vtab]
      refine at_intro ?_
      simp -dsimp only [vend, ne_eq, Nat.reduceEqDiff, reduceCtorEq]
      have hf := rests_len (rows.take k)
      simp only [List.length_take] at hf
      first | refine awp_seq (awp_cond rfl (fun h => ?_) (fun h => ?_)) | refine awp_cond rfl (fun h => ?_) (fun h => ?_) | refine awp_seq (awp_seq (awp_cond rfl (fun h => ?_) (fun h => ?_)))
      · first | refine awp_seq (awp_region hT hm ?_) | refine awp_region hT hm ?_ | refine awp_seq (awp_seq (awp_region hT hm ?_)) | refine awp_seq (awp_seq (awp_seq (awp_region hT hm ?_)))
        simp -dsimp only [↓vpre, vpos, Int.reduceNeg, Int.reduceLE, Int.reduceLT, reduceIte, Nat.reduceEqDiff, Nat.reduceLT, Nat.reduceLeDiff, Nat.reduceAdd, Nat.reduceMul, Nat.reduceSub, Nat.reducePow, ne_eq, Int.reduceAdd, Int.reduceSub, Int.reduceMul, Int.reduceToNat, implies_true, vtab, List.take_length, List.drop_one, List.tail_cons]
        refine ⟨by omega, by omega, ?_⟩
        refine at_intro ?_
        simp -dsimp only [vend, ne_eq, Nat.reduceEqDiff, reduceCtorEq]
        first | refine awp_seq (awp_region hT hm ?_) | refine awp_region hT hm ?_ | refine awp_seq (awp_seq (awp_region hT hm ?_)) | refine awp_seq (awp_seq (awp_seq (awp_region hT hm ?_)))
        simp -dsimp only [↓vpre, vpos, Int.reduceNeg, Int.reduceLE, Int.reduceLT, reduceIte, Nat.reduceEqDiff, Nat.reduceLT, Nat.reduceLeDiff, Nat.reduceAdd, Nat.reduceMul, Nat.reduceSub, Nat.reducePow, ne_eq, Int.reduceAdd, Int.reduceSub, Int.reduceMul, Int.reduceToNat, implies_true, vtab]
        refine ⟨by omega, by omega, ?_⟩
        refine at_intro ?_
        simp -dsimp only [vend, ne_eq, Nat.reduceEqDiff, reduceCtorEq]
        refine ⟨⟨k + 1, hlt⟩, by simp; omega, ?_⟩
        have e : rests (rows.take (k + 1)) = rests (rows.take k) ++ [r'] := by
          simp [take_next hr, rests_append, rests, h]
        refine ⟨rfl, ?_, ?_⟩
        rotate_left
        simp -dsimp only [↓vpre, vpos, Int.reduceNeg, Int.reduceLE, Int.reduceLT, reduceIte, Nat.reduceEqDiff, Nat.reduceLT, Nat.reduceLeDiff, Nat.reduceAdd, Nat.reduceMul, Nat.reduceSub, Nat.reducePow, ne_eq, Int.reduceAdd, Int.reduceSub, Int.reduceMul, Int.reduceToNat, implies_true, vtab, Says, exists_eq_left', Option.some.injEq, sub_self, and_assoc, true_and, and_true]
        · exact ⟨Sub.int (by simp), Sub.lst (by simp [e])⟩
        · simp [e]
      · refine awp_skip ?_
        simp -dsimp only [vend, ne_eq, Nat.reduceEqDiff, reduceCtorEq]
        first | refine awp_seq (awp_region hT hm ?_) | refine awp_region hT hm ?_ | refine awp_seq (awp_seq (awp_region hT hm ?_)) | refine awp_seq (awp_seq (awp_seq (awp_region hT hm ?_)))
        simp -dsimp only [↓vpre, vpos, Int.reduceNeg, Int.reduceLE, Int.reduceLT, reduceIte, Nat.reduceEqDiff, Nat.reduceLT, Nat.reduceLeDiff, Nat.reduceAdd, Nat.reduceMul, Nat.reduceSub, Nat.reducePow, ne_eq, Int.reduceAdd, Int.reduceSub, Int.reduceMul, Int.reduceToNat, implies_true, vtab]
        refine ⟨by omega, by omega, ?_⟩
        refine at_intro ?_
        simp -dsimp only [vend, ne_eq, Nat.reduceEqDiff, reduceCtorEq]
        refine ⟨⟨k + 1, hlt⟩, by simp; omega, ?_⟩
        have e : rests (rows.take (k + 1)) = rests (rows.take k) := by
          simp [take_next hr, rests_append, rests, h]
        refine ⟨rfl, ?_, ?_⟩
        rotate_left
        simp -dsimp only [↓vpre, vpos, Int.reduceNeg, Int.reduceLE, Int.reduceLT, reduceIte, Nat.reduceEqDiff, Nat.reduceLT, Nat.reduceLeDiff, Nat.reduceAdd, Nat.reduceMul, Nat.reduceSub, Nat.reducePow, ne_eq, Int.reduceAdd, Int.reduceSub, Int.reduceMul, Int.reduceToNat, implies_true, vtab, Says, exists_eq_left', Option.some.injEq, sub_self, and_assoc, true_and, and_true]
        · exact ⟨Sub.int (by simp), Sub.lst (by rw [e])⟩
        · simp [e]
    · refine awp_exit ?_
      simp -dsimp only [vend, ne_eq, Nat.reduceEqDiff, reduceCtorEq]
      have hlt : k = rows.length := by simp at h; omega
      subst hlt
      first | refine awp_seq (awp_region hT hm ?_) | refine awp_region hT hm ?_ | refine awp_seq (awp_seq (awp_region hT hm ?_)) | refine awp_seq (awp_seq (awp_seq (awp_region hT hm ?_)))
      simp -dsimp only [↓vpre, vpos, Int.reduceNeg, Int.reduceLE, Int.reduceLT, reduceIte, Nat.reduceEqDiff, Nat.reduceLT, Nat.reduceLeDiff, Nat.reduceAdd, Nat.reduceMul, Nat.reduceSub, Nat.reducePow, ne_eq, Int.reduceAdd, Int.reduceSub, Int.reduceMul, Int.reduceToNat, implies_true, vtab]
      refine at_intro ?_
      simp -dsimp only [vend, ne_eq, Nat.reduceEqDiff, reduceCtorEq]
      refine awp_ret ?_
      simp -dsimp only [↓vpre, vpos, Int.reduceNeg, Int.reduceLE, Int.reduceLT, reduceIte, Nat.reduceEqDiff, Nat.reduceLT, Nat.reduceLeDiff, Nat.reduceAdd, Nat.reduceMul, Nat.reduceSub, Nat.reducePow, ne_eq, Int.reduceAdd, Int.reduceSub, Int.reduceMul, Int.reduceToNat, implies_true, vtab, RetTo, Try.results44, retVals, retVal, mkRet, AVal.upto, Nat.zero_le, Nat.le_refl, seqPost_ret, blockPost_ret, loopPost_ret, List.take_length]
      simpa using rows_upto _ _

def narrows (name : ByteArray) (many : Nat) : List (List Pat) → List (List Pat)
  | [] => []
  | [] :: r => narrows name many r
  | (p :: x) :: r => if p.free then (List.replicate many Pat.any ++ x) :: narrows name many r else if p.name = name then (p.args ++ x) :: narrows name many r else narrows name many r

theorem narrows_len (name : ByteArray) (many : Nat) : ∀ rows : List (List Pat), (narrows name many rows).length ≤ rows.length
  | [] => by simp [narrows]
  | [] :: r => by
    have := narrows_len name many r
    simp [narrows]
    omega
  | (p :: _) :: r => by
    have := narrows_len name many r
    simp only [narrows]
    split
    · simp; omega
    · split <;> simp <;> omega

theorem narrows_append (name : ByteArray) (many : Nat) : ∀ a b : List (List Pat), narrows name many (a ++ b) = narrows name many a ++ narrows name many b
  | [], b => by simp [narrows]
  | [] :: r, b => by simp [narrows, narrows_append name many r b]
  | (p :: _) :: r, b => by
    simp only [List.cons_append, narrows, narrows_append name many r b]
    split
    · simp
    · split <;> simp

theorem narrow_spec (rows : List (List Pat)) (name : ByteArray) (many : Nat) (hb : rows.length ≤ 2 ^ 30) (hmany : many ≤ 2 ^ 20) (hne : ∀ r ∈ rows, r ≠ []) (hr20 : ∀ r ∈ rows, r.length ≤ 2 ^ 20) (hargs : ∀ r ∈ rows, ∀ p ∈ r, p.args.length ≤ 2 ^ 20) :
    PCall Try.prog 45 [eRR rows, .v (.string name), .v (.int .i64 many)] (eRR (narrows name many rows)) := by
  refine ecall_of hT true 0 Try.func45 rfl (by kernel_rfl) (by simp [Try.ntmps45]) (by simp) ?_
  show AWP Try.prog _ _ _ ⟨50, _, _⟩
  dsimp only [Tmp, TypeId, slotsOf]
  first | refine awp_seq (awp_region hT hm ?_) | refine awp_region hT hm ?_ | refine awp_seq (awp_seq (awp_region hT hm ?_)) | refine awp_seq (awp_seq (awp_seq (awp_region hT hm ?_)))
  simp -dsimp only [↓vpre, vpos, Int.reduceNeg, Int.reduceLE, Int.reduceLT, reduceIte, Nat.reduceEqDiff, Nat.reduceLT, Nat.reduceLeDiff, Nat.reduceAdd, Nat.reduceMul, Nat.reduceSub, Nat.reducePow, ne_eq, Int.reduceAdd, Int.reduceSub, Int.reduceMul, Int.reduceToNat, implies_true, vtab]
  refine at_intro ?_
  simp -dsimp only [vend, ne_eq, Nat.reduceEqDiff, reduceCtorEq]
  first | refine awp_seq (awp_region hT hm ?_) | refine awp_region hT hm ?_ | refine awp_seq (awp_seq (awp_region hT hm ?_)) | refine awp_seq (awp_seq (awp_seq (awp_region hT hm ?_)))
  simp -dsimp only [↓vpre, vpos, Int.reduceNeg, Int.reduceLE, Int.reduceLT, reduceIte, Nat.reduceEqDiff, Nat.reduceLT, Nat.reduceLeDiff, Nat.reduceAdd, Nat.reduceMul, Nat.reduceSub, Nat.reducePow, ne_eq, Int.reduceAdd, Int.reduceSub, Int.reduceMul, Int.reduceToNat, implies_true, vtab]
  refine at_intro ?_
  simp -dsimp only [vend, ne_eq, Nat.reduceEqDiff, reduceCtorEq]
  first | refine awp_seq (awp_region hT hm ?_) | refine awp_region hT hm ?_ | refine awp_seq (awp_seq (awp_region hT hm ?_)) | refine awp_seq (awp_seq (awp_seq (awp_region hT hm ?_)))
  simp -dsimp only [↓vpre, vpos, Int.reduceNeg, Int.reduceLE, Int.reduceLT, reduceIte, Nat.reduceEqDiff, Nat.reduceLT, Nat.reduceLeDiff, Nat.reduceAdd, Nat.reduceMul, Nat.reduceSub, Nat.reducePow, ne_eq, Int.reduceAdd, Int.reduceSub, Int.reduceMul, Int.reduceToNat, implies_true, vtab]
  refine at_intro ?_
  simp -dsimp only [vend, ne_eq, Nat.reduceEqDiff, reduceCtorEq]
  refine awp_own 7 rfl ?_
  simp -dsimp only [↓vpre, vpos, Int.reduceNeg, Int.reduceLE, Int.reduceLT, reduceIte, Nat.reduceEqDiff, Nat.reduceLT, Nat.reduceLeDiff, Nat.reduceAdd, Nat.reduceMul, Nat.reduceSub, Nat.reducePow, ne_eq, Int.reduceAdd, Int.reduceSub, Int.reduceMul, Int.reduceToNat, implies_true, vtab]
  first | refine awp_block (awp_loop (ι := {k : Nat // k ≤ rows.length}) (fun k => ⟨50, [(1, .v (.string name)), (2, .v (.int .i64 many)), (10, eRR rows), (11, .v (.int .i64 rows.length)), (12, .v (.int .i64 k)), (7, .lst 1 ((narrows name many (rows.take k)).map eR) (.tok 0))], [.spare (narrows name many (rows.take k)).length]⟩) (fun k => rows.length - k) ⟨0, by omega⟩ ?_ ?_) | refine awp_seq (awp_block (awp_loop (ι := {k : Nat // k ≤ rows.length}) (fun k => ⟨50, [(1, .v (.string name)), (2, .v (.int .i64 many)), (10, eRR rows), (11, .v (.int .i64 rows.length)), (12, .v (.int .i64 k)), (7, .lst 1 ((narrows name many (rows.take k)).map eR) (.tok 0))], [.spare (narrows name many (rows.take k)).length]⟩) (fun k => rows.length - k) ⟨0, by omega⟩ ?_ ?_))
  · refine ⟨rfl, ?_, ?_⟩
    rotate_left
    simp -dsimp only [↓vpre, vpos, Int.reduceNeg, Int.reduceLE, Int.reduceLT, reduceIte, Nat.reduceEqDiff, Nat.reduceLT, Nat.reduceLeDiff, Nat.reduceAdd, Nat.reduceMul, Nat.reduceSub, Nat.reducePow, ne_eq, Int.reduceAdd, Int.reduceSub, Int.reduceMul, Int.reduceToNat, implies_true, vtab, Says, exists_eq_left', Option.some.injEq, sub_self, and_assoc, true_and, and_true]
    · exact Sub.lst (by simp [narrows])
    · simp [narrows]
  · rintro ⟨k, hk⟩
    first | refine awp_seq (awp_region hT hm ?_) | refine awp_region hT hm ?_ | refine awp_seq (awp_seq (awp_region hT hm ?_)) | refine awp_seq (awp_seq (awp_seq (awp_region hT hm ?_)))
    simp -dsimp only [↓vpre, vpos, Int.reduceNeg, Int.reduceLE, Int.reduceLT, reduceIte, Nat.reduceEqDiff, Nat.reduceLT, Nat.reduceLeDiff, Nat.reduceAdd, Nat.reduceMul, Nat.reduceSub, Nat.reducePow, ne_eq, Int.reduceAdd, Int.reduceSub, Int.reduceMul, Int.reduceToNat, implies_true, vtab]
    refine at_intro ?_
    simp -dsimp only [vend, ne_eq, Nat.reduceEqDiff, reduceCtorEq]
    first | refine awp_seq (awp_cond rfl (fun h => ?_) (fun h => ?_)) | refine awp_cond rfl (fun h => ?_) (fun h => ?_) | refine awp_seq (awp_seq (awp_cond rfl (fun h => ?_) (fun h => ?_)))
    · refine awp_skip ?_
      simp -dsimp only [vend, ne_eq, Nat.reduceEqDiff, reduceCtorEq]
      have hlt : k < rows.length := by simpa using h
      obtain ⟨r, hr⟩ : ∃ r, rows[k]? = some r := ⟨rows[k], by simp [hlt]⟩
      have hmem := List.mem_of_getElem? hr
      first | refine awp_seq (awp_block ?_) | refine awp_block ?_
      first | refine awp_seq (awp_region hT hm ?_) | refine awp_region hT hm ?_ | refine awp_seq (awp_seq (awp_region hT hm ?_)) | refine awp_seq (awp_seq (awp_seq (awp_region hT hm ?_)))
      simp -dsimp only [↓vpre, vpos, Int.reduceNeg, Int.reduceLE, Int.reduceLT, reduceIte, Nat.reduceEqDiff, Nat.reduceLT, Nat.reduceLeDiff, Nat.reduceAdd, Nat.reduceMul, Nat.reduceSub, Nat.reducePow, ne_eq, Int.reduceAdd, Int.reduceSub, Int.reduceMul, Int.reduceToNat, implies_true, vtab, hr]
      refine at_intro ?_
      simp -dsimp only [vend, ne_eq, Nat.reduceEqDiff, reduceCtorEq]
      obtain ⟨p, r', rfl⟩ : ∃ p r', r = p :: r' := List.exists_cons_of_ne_nil (hne r hmem)
      have h1 := hr20 _ hmem
      have h2 := hargs _ hmem p (by simp)
      simp only [List.length_cons] at h1
      have hf := narrows_len name many (rows.take k)
      simp only [List.length_take] at hf
      first | refine awp_seq (awp_block ?_) | refine awp_block ?_
      first | refine awp_seq (awp_region hT hm ?_) | refine awp_region hT hm ?_ | refine awp_seq (awp_seq (awp_region hT hm ?_)) | refine awp_seq (awp_seq (awp_seq (awp_region hT hm ?_)))
      simp -dsimp only [↓vpre, vpos, Int.reduceNeg, Int.reduceLE, Int.reduceLT, reduceIte, Nat.reduceEqDiff, Nat.reduceLT, Nat.reduceLeDiff, Nat.reduceAdd, Nat.reduceMul, Nat.reduceSub, Nat.reducePow, ne_eq, Int.reduceAdd, Int.reduceSub, Int.reduceMul, Int.reduceToNat, implies_true, vtab]
      refine .inl ⟨_, free_spec p, by first | (simp only [uptoL, AVal.upto, and_true, true_and, and_self, Pat.enc_upto, Pat.map_upto, any_upto]; done) | (simp [uptoL, AVal.upto, Pat.enc_upto, Pat.map_upto, any_upto]; done), later_intro ?_⟩
      simp -dsimp only [↓vpre, vpos, Int.reduceNeg, Int.reduceLE, Int.reduceLT, reduceIte, Nat.reduceEqDiff, Nat.reduceLT, Nat.reduceLeDiff, Nat.reduceAdd, Nat.reduceMul, Nat.reduceSub, Nat.reducePow, ne_eq, Int.reduceAdd, Int.reduceSub, Int.reduceMul, Int.reduceToNat, implies_true, vtab]
      refine at_intro ?_
      simp -dsimp only [vend, ne_eq, Nat.reduceEqDiff, reduceCtorEq]
      first | refine awp_seq (awp_cond rfl (fun h => ?_) (fun h => ?_)) | refine awp_cond rfl (fun h => ?_) (fun h => ?_) | refine awp_seq (awp_seq (awp_cond rfl (fun h => ?_) (fun h => ?_)))
      · first | refine awp_seq (awp_region hT hm ?_) | refine awp_region hT hm ?_ | refine awp_seq (awp_seq (awp_region hT hm ?_)) | refine awp_seq (awp_seq (awp_seq (awp_region hT hm ?_)))
        simp -dsimp only [↓vpre, vpos, Int.reduceNeg, Int.reduceLE, Int.reduceLT, reduceIte, Nat.reduceEqDiff, Nat.reduceLT, Nat.reduceLeDiff, Nat.reduceAdd, Nat.reduceMul, Nat.reduceSub, Nat.reducePow, ne_eq, Int.reduceAdd, Int.reduceSub, Int.reduceMul, Int.reduceToNat, implies_true, vtab, List.take_length, List.drop_one, List.tail_cons]
        refine .inl ⟨_, (anys_spec many (by omega)), by first | (simp only [uptoL, AVal.upto, and_true, true_and, and_self, Pat.enc_upto, Pat.map_upto, any_upto]; done) | (simp [uptoL, AVal.upto, Pat.enc_upto, Pat.map_upto, any_upto]; done), later_intro ?_⟩
        simp -dsimp only [↓vpre, vpos, Int.reduceNeg, Int.reduceLE, Int.reduceLT, reduceIte, Nat.reduceEqDiff, Nat.reduceLT, Nat.reduceLeDiff, Nat.reduceAdd, Nat.reduceMul, Nat.reduceSub, Nat.reducePow, ne_eq, Int.reduceAdd, Int.reduceSub, Int.reduceMul, Int.reduceToNat, implies_true, vtab, List.take_length, List.drop_one, List.tail_cons]
        refine .inl ⟨_, (concat_spec [List.replicate many Pat.any, r'] (by simp) (by simp [total]; omega)), by first | (simp only [uptoL, AVal.upto, and_true, true_and, and_self, Pat.enc_upto, Pat.map_upto, any_upto]; done) | (simp [uptoL, AVal.upto, Pat.enc_upto, Pat.map_upto, any_upto]; done), later_intro ?_⟩
        simp -dsimp only [↓vpre, vpos, Int.reduceNeg, Int.reduceLE, Int.reduceLT, reduceIte, Nat.reduceEqDiff, Nat.reduceLT, Nat.reduceLeDiff, Nat.reduceAdd, Nat.reduceMul, Nat.reduceSub, Nat.reducePow, ne_eq, Int.reduceAdd, Int.reduceSub, Int.reduceMul, Int.reduceToNat, implies_true, vtab]
        refine ⟨by omega, by omega, ?_, ?_⟩
        · (show orderB _ _ = true); kernel_rfl
        refine at_intro ?_
        simp -dsimp only [vend, ne_eq, Nat.reduceEqDiff, reduceCtorEq]
        first | refine awp_seq (awp_region hT hm ?_) | refine awp_region hT hm ?_ | refine awp_seq (awp_seq (awp_region hT hm ?_)) | refine awp_seq (awp_seq (awp_seq (awp_region hT hm ?_)))
        simp -dsimp only [↓vpre, vpos, Int.reduceNeg, Int.reduceLE, Int.reduceLT, reduceIte, Nat.reduceEqDiff, Nat.reduceLT, Nat.reduceLeDiff, Nat.reduceAdd, Nat.reduceMul, Nat.reduceSub, Nat.reducePow, ne_eq, Int.reduceAdd, Int.reduceSub, Int.reduceMul, Int.reduceToNat, implies_true, vtab]
        refine ⟨by omega, by omega, ?_⟩
        refine at_intro ?_
        simp -dsimp only [vend, ne_eq, Nat.reduceEqDiff, reduceCtorEq]
        refine ⟨⟨k + 1, hlt⟩, by simp; omega, ?_⟩
        have e : narrows name many (rows.take (k + 1)) = narrows name many (rows.take k) ++ [List.replicate many Pat.any ++ r'] := by
          simp [take_next hr, narrows_append, narrows, h]
        refine ⟨rfl, ?_, ?_⟩
        rotate_left
        simp -dsimp only [↓vpre, vpos, Int.reduceNeg, Int.reduceLE, Int.reduceLT, reduceIte, Nat.reduceEqDiff, Nat.reduceLT, Nat.reduceLeDiff, Nat.reduceAdd, Nat.reduceMul, Nat.reduceSub, Nat.reducePow, ne_eq, Int.reduceAdd, Int.reduceSub, Int.reduceMul, Int.reduceToNat, implies_true, vtab, Says, exists_eq_left', Option.some.injEq, sub_self, and_assoc, true_and, and_true]
        · exact ⟨Sub.int (by simp), Sub.lst (by simp [e])⟩
        · simp [e]
      · have hfree := h
        first | refine awp_seq (awp_region hT hm ?_) | refine awp_region hT hm ?_ | refine awp_seq (awp_seq (awp_region hT hm ?_)) | refine awp_seq (awp_seq (awp_seq (awp_region hT hm ?_)))
        simp -dsimp only [↓vpre, vpos, Int.reduceNeg, Int.reduceLE, Int.reduceLT, reduceIte, Nat.reduceEqDiff, Nat.reduceLT, Nat.reduceLeDiff, Nat.reduceAdd, Nat.reduceMul, Nat.reduceSub, Nat.reducePow, ne_eq, Int.reduceAdd, Int.reduceSub, Int.reduceMul, Int.reduceToNat, implies_true, vtab]
        refine at_intro ?_
        simp -dsimp only [vend, ne_eq, Nat.reduceEqDiff, reduceCtorEq]
        first | refine awp_seq (awp_cond rfl (fun h => ?_) (fun h => ?_)) | refine awp_cond rfl (fun h => ?_) (fun h => ?_) | refine awp_seq (awp_seq (awp_cond rfl (fun h => ?_) (fun h => ?_)))
        · have hnm : p.name = name := by simpa using h
          first | refine awp_seq (awp_region hT hm ?_) | refine awp_region hT hm ?_ | refine awp_seq (awp_seq (awp_region hT hm ?_)) | refine awp_seq (awp_seq (awp_seq (awp_region hT hm ?_)))
          simp -dsimp only [↓vpre, vpos, Int.reduceNeg, Int.reduceLE, Int.reduceLT, reduceIte, Nat.reduceEqDiff, Nat.reduceLT, Nat.reduceLeDiff, Nat.reduceAdd, Nat.reduceMul, Nat.reduceSub, Nat.reducePow, ne_eq, Int.reduceAdd, Int.reduceSub, Int.reduceMul, Int.reduceToNat, implies_true, vtab, List.take_length, List.drop_one, List.tail_cons]
          refine .inl ⟨_, (concat_spec [p.args, r'] (by simp) (by simp [total]; omega)), by first | (simp only [uptoL, AVal.upto, and_true, true_and, and_self, Pat.enc_upto, Pat.map_upto, any_upto]; done) | (simp [uptoL, AVal.upto, Pat.enc_upto, Pat.map_upto, any_upto]; done), later_intro ?_⟩
          simp -dsimp only [↓vpre, vpos, Int.reduceNeg, Int.reduceLE, Int.reduceLT, reduceIte, Nat.reduceEqDiff, Nat.reduceLT, Nat.reduceLeDiff, Nat.reduceAdd, Nat.reduceMul, Nat.reduceSub, Nat.reducePow, ne_eq, Int.reduceAdd, Int.reduceSub, Int.reduceMul, Int.reduceToNat, implies_true, vtab]
          refine ⟨by omega, by omega, ?_, ?_⟩
          · (show orderB _ _ = true); kernel_rfl
          refine at_intro ?_
          simp -dsimp only [vend, ne_eq, Nat.reduceEqDiff, reduceCtorEq]
          first | refine awp_seq (awp_region hT hm ?_) | refine awp_region hT hm ?_ | refine awp_seq (awp_seq (awp_region hT hm ?_)) | refine awp_seq (awp_seq (awp_seq (awp_region hT hm ?_)))
          simp -dsimp only [↓vpre, vpos, Int.reduceNeg, Int.reduceLE, Int.reduceLT, reduceIte, Nat.reduceEqDiff, Nat.reduceLT, Nat.reduceLeDiff, Nat.reduceAdd, Nat.reduceMul, Nat.reduceSub, Nat.reducePow, ne_eq, Int.reduceAdd, Int.reduceSub, Int.reduceMul, Int.reduceToNat, implies_true, vtab]
          refine ⟨by omega, by omega, ?_⟩
          refine at_intro ?_
          simp -dsimp only [vend, ne_eq, Nat.reduceEqDiff, reduceCtorEq]
          refine ⟨⟨k + 1, hlt⟩, by simp; omega, ?_⟩
          have e : narrows name many (rows.take (k + 1)) = narrows name many (rows.take k) ++ [p.args ++ r'] := by
            simp [take_next hr, narrows_append, narrows, hfree, hnm]
          refine ⟨rfl, ?_, ?_⟩
          rotate_left
          simp -dsimp only [↓vpre, vpos, Int.reduceNeg, Int.reduceLE, Int.reduceLT, reduceIte, Nat.reduceEqDiff, Nat.reduceLT, Nat.reduceLeDiff, Nat.reduceAdd, Nat.reduceMul, Nat.reduceSub, Nat.reducePow, ne_eq, Int.reduceAdd, Int.reduceSub, Int.reduceMul, Int.reduceToNat, implies_true, vtab, Says, exists_eq_left', Option.some.injEq, sub_self, and_assoc, true_and, and_true]
          · exact ⟨Sub.int (by simp), Sub.lst (by simp [e])⟩
          · simp [e]
        · have hnm : ¬ p.name = name := by simpa using h
          refine awp_skip ?_
          simp -dsimp only [vend, ne_eq, Nat.reduceEqDiff, reduceCtorEq]
          first | refine awp_seq (awp_region hT hm ?_) | refine awp_region hT hm ?_ | refine awp_seq (awp_seq (awp_region hT hm ?_)) | refine awp_seq (awp_seq (awp_seq (awp_region hT hm ?_)))
          simp -dsimp only [↓vpre, vpos, Int.reduceNeg, Int.reduceLE, Int.reduceLT, reduceIte, Nat.reduceEqDiff, Nat.reduceLT, Nat.reduceLeDiff, Nat.reduceAdd, Nat.reduceMul, Nat.reduceSub, Nat.reducePow, ne_eq, Int.reduceAdd, Int.reduceSub, Int.reduceMul, Int.reduceToNat, implies_true, vtab]
          refine ⟨by omega, by omega, ?_⟩
          refine at_intro ?_
          simp -dsimp only [vend, ne_eq, Nat.reduceEqDiff, reduceCtorEq]
          refine ⟨⟨k + 1, hlt⟩, by simp; omega, ?_⟩
          have e : narrows name many (rows.take (k + 1)) = narrows name many (rows.take k) := by
            simp [take_next hr, narrows_append, narrows, hfree, hnm]
          refine ⟨rfl, ?_, ?_⟩
          rotate_left
          simp -dsimp only [↓vpre, vpos, Int.reduceNeg, Int.reduceLE, Int.reduceLT, reduceIte, Nat.reduceEqDiff, Nat.reduceLT, Nat.reduceLeDiff, Nat.reduceAdd, Nat.reduceMul, Nat.reduceSub, Nat.reducePow, ne_eq, Int.reduceAdd, Int.reduceSub, Int.reduceMul, Int.reduceToNat, implies_true, vtab, Says, exists_eq_left', Option.some.injEq, sub_self, and_assoc, true_and, and_true]
          · exact ⟨Sub.int (by simp), Sub.lst (by simp [e])⟩
          · simp [e]
    · refine awp_exit ?_
      simp -dsimp only [vend, ne_eq, Nat.reduceEqDiff, reduceCtorEq]
      have hlt : k = rows.length := by simp at h; omega
      subst hlt
      first | refine awp_seq (awp_region hT hm ?_) | refine awp_region hT hm ?_ | refine awp_seq (awp_seq (awp_region hT hm ?_)) | refine awp_seq (awp_seq (awp_seq (awp_region hT hm ?_)))
      simp -dsimp only [↓vpre, vpos, Int.reduceNeg, Int.reduceLE, Int.reduceLT, reduceIte, Nat.reduceEqDiff, Nat.reduceLT, Nat.reduceLeDiff, Nat.reduceAdd, Nat.reduceMul, Nat.reduceSub, Nat.reducePow, ne_eq, Int.reduceAdd, Int.reduceSub, Int.reduceMul, Int.reduceToNat, implies_true, vtab]
      refine at_intro ?_
      simp -dsimp only [vend, ne_eq, Nat.reduceEqDiff, reduceCtorEq]
      refine awp_ret ?_
      simp -dsimp only [↓vpre, vpos, Int.reduceNeg, Int.reduceLE, Int.reduceLT, reduceIte, Nat.reduceEqDiff, Nat.reduceLT, Nat.reduceLeDiff, Nat.reduceAdd, Nat.reduceMul, Nat.reduceSub, Nat.reducePow, ne_eq, Int.reduceAdd, Int.reduceSub, Int.reduceMul, Int.reduceToNat, implies_true, vtab, RetTo, Try.results45, retVals, retVal, mkRet, AVal.upto, Nat.zero_le, Nat.le_refl, seqPost_ret, blockPost_ret, loopPost_ret, List.take_length]
      simpa using rows_upto _ _

end Go.Proofs.Ytakdmelemfnmdaa
end

section
set_option linter.unusedSimpArgs false
set_option maxHeartbeats 1000000
-- !tab vtab
-- !upto Pat.enc_upto Pat.map_upto any_upto
namespace Go.Proofs.Ytakdmelemfnmdaa
open Go.Av

def sizeGo (f : List Pat → Nat → Bool × Nat) : List Pat → Nat → Bool × Nat
  | [], m => (true, m)
  | p :: r, m => if 400 < m + 1 then (false, m + 1) else match f p.args (m + 1) with
    | (true, m2) => sizeGo f r m2
    | (false, m2) => (false, m2)

/-- size, at depth 21 - d. -/
def sizeL : Nat → List Pat → Nat → Bool × Nat
  | 0, l, m => (l.isEmpty, m)
  | d + 1, l, m => sizeGo (sizeL d) l m

theorem sizeGo_le {f : List Pat → Nat → Bool × Nat} (hf : ∀ l m, m ≤ 400 → (f l m).1 = true → (f l m).2 ≤ 400) : ∀ (l : List Pat) (m : Nat), m ≤ 400 → (sizeGo f l m).1 = true → (sizeGo f l m).2 ≤ 400
  | [], m, hm, _ => hm
  | p :: r, m, hm, h => by
    simp only [sizeGo] at h ⊢
    split at h
    · cases h
    · rename_i hlt
      rw [if_neg hlt]
      have := hf p.args (m + 1) (by omega)
      split at h
      · rename_i m2 he
        rw [he] at this
        exact sizeGo_le hf r m2 (this rfl) h
      · cases h

theorem sizeL_le : ∀ (d : Nat) (l : List Pat) (m : Nat), m ≤ 400 → (sizeL d l m).1 = true → (sizeL d l m).2 ≤ 400
  | 0, _, _, hm, _ => hm
  | d + 1, l, m, hm, h => sizeGo_le (sizeL_le d) l m hm h

abbrev aI (n : Int) : AVal := .v (.int .i64 n)

theorem size_spec : ∀ (d : Nat) (hd : d ≤ 21) (l : List Pat) (m : Nat) (hm0 : m ≤ 400) (O : List AObj) (hO : ∀ o ∈ O, o.upto O.length) (id : Nat) (hid : O[id]? = some (.cells [aI m])),
    ECall Try.prog 70 O [eR l, aI ((21 : Int) - d), .mp id 0] fun r O' => r = .v (.bool (sizeL d l m).1) ∧ O' = O.set id (.cells [aI (sizeL d l m).2])
  | 0, hd, l, m, hm0, O, hO, id, hid => by
    refine ecall_of hT true O.length Try.func70 rfl (by kernel_rfl) (by simp [Try.ntmps70]) (by simp) ?_
    show AWP Try.prog _ _ _ ⟨39, _, _⟩
    dsimp only [Tmp, TypeId, slotsOf]
    first | refine awp_seq (awp_region hT hm ?_) | refine awp_region hT hm ?_ | refine awp_seq (awp_seq (awp_region hT hm ?_)) | refine awp_seq (awp_seq (awp_seq (awp_region hT hm ?_)))
    simp -dsimp only [↓vpre, vpos, Int.reduceNeg, Int.reduceLE, Int.reduceLT, reduceIte, Nat.reduceEqDiff, Nat.reduceLT, Nat.reduceLeDiff, Nat.reduceAdd, Nat.reduceMul, Nat.reduceSub, Nat.reducePow, ne_eq, Int.reduceAdd, Int.reduceSub, Int.reduceMul, Int.reduceToNat, implies_true, vtab]
    refine at_intro ?_
    simp -dsimp only [vend, ne_eq, Nat.reduceEqDiff, reduceCtorEq]
    first | refine awp_seq (awp_region hT hm ?_) | refine awp_region hT hm ?_ | refine awp_seq (awp_seq (awp_region hT hm ?_)) | refine awp_seq (awp_seq (awp_seq (awp_region hT hm ?_)))
    simp -dsimp only [↓vpre, vpos, Int.reduceNeg, Int.reduceLE, Int.reduceLT, reduceIte, Nat.reduceEqDiff, Nat.reduceLT, Nat.reduceLeDiff, Nat.reduceAdd, Nat.reduceMul, Nat.reduceSub, Nat.reducePow, ne_eq, Int.reduceAdd, Int.reduceSub, Int.reduceMul, Int.reduceToNat, implies_true, vtab]
    refine at_intro ?_
    simp -dsimp only [vend, ne_eq, Nat.reduceEqDiff, reduceCtorEq]
    first | refine awp_seq (awp_cond rfl (fun h => ?_) (fun h => ?_)) | refine awp_cond rfl (fun h => ?_) (fun h => ?_) | refine awp_seq (awp_seq (awp_cond rfl (fun h => ?_) (fun h => ?_)))
    · first | refine awp_seq (awp_region hT hm ?_) | refine awp_region hT hm ?_ | refine awp_seq (awp_seq (awp_region hT hm ?_)) | refine awp_seq (awp_seq (awp_seq (awp_region hT hm ?_)))
      simp -dsimp only [↓vpre, vpos, Int.reduceNeg, Int.reduceLE, Int.reduceLT, reduceIte, Nat.reduceEqDiff, Nat.reduceLT, Nat.reduceLeDiff, Nat.reduceAdd, Nat.reduceMul, Nat.reduceSub, Nat.reducePow, ne_eq, Int.reduceAdd, Int.reduceSub, Int.reduceMul, Int.reduceToNat, implies_true, vtab]
      refine at_intro ?_
      simp -dsimp only [vend, ne_eq, Nat.reduceEqDiff, reduceCtorEq]
      refine awp_ret ?_
      simp -dsimp only [↓vpre, vpos, Int.reduceNeg, Int.reduceLE, Int.reduceLT, reduceIte, Nat.reduceEqDiff, Nat.reduceLT, Nat.reduceLeDiff, Nat.reduceAdd, Nat.reduceMul, Nat.reduceSub, Nat.reducePow, ne_eq, Int.reduceAdd, Int.reduceSub, Int.reduceMul, Int.reduceToNat, implies_true, vtab, RetTo, Try.results70, retVals, retVal, mkRet, AVal.upto, Nat.zero_le, Nat.le_refl, seqPost_ret, blockPost_ret, loopPost_ret, List.take_length]
      refine ⟨hO, ?_, (set_getElem?_same hid).symm⟩
      cases l <;> simp [sizeL]
      omega
    · simp at h
  | d + 1, hd, l, m, hm0, O, hO, id, hid => by
    have hidl := lt_of_getElem? hid
    have ih := size_spec d (by omega)
    refine ecall_of hT true O.length Try.func70 rfl (by kernel_rfl) (by simp [Try.ntmps70]) (by simp) ?_
    show AWP Try.prog _ _ _ ⟨39, _, _⟩
    dsimp only [Tmp, TypeId, slotsOf]
    first | refine awp_seq (awp_region hT hm ?_) | refine awp_region hT hm ?_ | refine awp_seq (awp_seq (awp_region hT hm ?_)) | refine awp_seq (awp_seq (awp_seq (awp_region hT hm ?_)))
    simp -dsimp only [↓vpre, vpos, Int.reduceNeg, Int.reduceLE, Int.reduceLT, reduceIte, Nat.reduceEqDiff, Nat.reduceLT, Nat.reduceLeDiff, Nat.reduceAdd, Nat.reduceMul, Nat.reduceSub, Nat.reducePow, ne_eq, Int.reduceAdd, Int.reduceSub, Int.reduceMul, Int.reduceToNat, implies_true, vtab]
    refine at_intro ?_
    simp -dsimp only [vend, ne_eq, Nat.reduceEqDiff, reduceCtorEq]
    first | refine awp_seq (awp_region hT hm ?_) | refine awp_region hT hm ?_ | refine awp_seq (awp_seq (awp_region hT hm ?_)) | refine awp_seq (awp_seq (awp_seq (awp_region hT hm ?_)))
    simp -dsimp only [↓vpre, vpos, Int.reduceNeg, Int.reduceLE, Int.reduceLT, reduceIte, Nat.reduceEqDiff, Nat.reduceLT, Nat.reduceLeDiff, Nat.reduceAdd, Nat.reduceMul, Nat.reduceSub, Nat.reducePow, ne_eq, Int.reduceAdd, Int.reduceSub, Int.reduceMul, Int.reduceToNat, implies_true, vtab]
    refine at_intro ?_
    simp -dsimp only [vend, ne_eq, Nat.reduceEqDiff, reduceCtorEq]
    first | refine awp_seq (awp_cond rfl (fun h => ?_) (fun h => ?_)) | refine awp_cond rfl (fun h => ?_) (fun h => ?_) | refine awp_seq (awp_seq (awp_cond rfl (fun h => ?_) (fun h => ?_)))
    · simp at h
      omega
    · refine awp_skip ?_
      simp -dsimp only [vend, ne_eq, Nat.reduceEqDiff, reduceCtorEq]
      refine awp_len 0 rfl (fun hlen => ?_)
      simp only [List.length_map] at hlen
      first | refine awp_seq (awp_region hT hm ?_) | refine awp_region hT hm ?_ | refine awp_seq (awp_seq (awp_region hT hm ?_)) | refine awp_seq (awp_seq (awp_seq (awp_region hT hm ?_)))
      simp -dsimp only [↓vpre, vpos, Int.reduceNeg, Int.reduceLE, Int.reduceLT, reduceIte, Nat.reduceEqDiff, Nat.reduceLT, Nat.reduceLeDiff, Nat.reduceAdd, Nat.reduceMul, Nat.reduceSub, Nat.reducePow, ne_eq, Int.reduceAdd, Int.reduceSub, Int.reduceMul, Int.reduceToNat, implies_true, vtab]
      refine at_intro ?_
      simp -dsimp only [vend, ne_eq, Nat.reduceEqDiff, reduceCtorEq]
      first | refine awp_block (awp_loop (ι := {q : Nat × Nat // q.1 ≤ l.length ∧ q.2 ≤ 400 ∧ sizeL (d + 1) l m = sizeGo (sizeL d) (l.drop q.1) q.2}) (fun q => ⟨39, [(1, aI ((21 : Int) - (d + 1 : Nat))), (2, .mp id 0), (14, eR l), (15, aI l.length), (16, aI q.1.1)], O.set id (.cells [aI q.1.2])⟩) (fun q => l.length - q.1.1) ⟨(0, m), by omega, hm0, rfl⟩ ?_ ?_) | refine awp_seq (awp_block (awp_loop (ι := {q : Nat × Nat // q.1 ≤ l.length ∧ q.2 ≤ 400 ∧ sizeL (d + 1) l m = sizeGo (sizeL d) (l.drop q.1) q.2}) (fun q => ⟨39, [(1, aI ((21 : Int) - (d + 1 : Nat))), (2, .mp id 0), (14, eR l), (15, aI l.length), (16, aI q.1.1)], O.set id (.cells [aI q.1.2])⟩) (fun q => l.length - q.1.1) ⟨(0, m), by omega, hm0, rfl⟩ ?_ ?_))
      · refine ⟨rfl, ?_, ?_⟩
        rotate_left
        simp -dsimp only [↓vpre, vpos, Int.reduceNeg, Int.reduceLE, Int.reduceLT, reduceIte, Nat.reduceEqDiff, Nat.reduceLT, Nat.reduceLeDiff, Nat.reduceAdd, Nat.reduceMul, Nat.reduceSub, Nat.reducePow, ne_eq, Int.reduceAdd, Int.reduceSub, Int.reduceMul, Int.reduceToNat, implies_true, vtab, Says, exists_eq_left', Option.some.injEq, sub_self, and_assoc, true_and, and_true]
        exact (set_getElem?_same hid).symm
      · rintro ⟨⟨k, m'⟩, hk, hm', he⟩
        simp only at hk hm' he
        have hobL : ∀ x : AObj, (O.set id x)[id]? = some x := fun x => List.getElem?_set_self hidl
        have hup : ∀ (n : Int) (o : AObj), o ∈ O.set id (.cells [aI n]) → o.upto O.length := fun n o ho => by
          rcases List.mem_or_eq_of_mem_set ho with ho | ho
          · exact hO o ho
          · subst ho
            simp [AObj.upto, uptoL, AVal.upto]
        obtain ⟨O2, hO2⟩ : ∃ O2, O2 = O.set id (.cells [aI m']) := ⟨_, rfl⟩
        have hob2 : O2[id]? = some (.cells [aI m']) := by rw [hO2]; exact hobL _
        have hl2 : O2.length = O.length := by rw [hO2]; simp
        have htk : ∀ (X : List AObj) (y : AObj), X.length = O.length → (X ++ [y]).take O.length = X := fun X y h => by rw [← h, snoc_take]
        have hss : ∀ x, O2.set id x = O.set id x := fun x => by rw [hO2, List.set_set]
        simp only [← hO2]
        first | refine awp_seq (awp_region hT hm ?_) | refine awp_region hT hm ?_ | refine awp_seq (awp_seq (awp_region hT hm ?_)) | refine awp_seq (awp_seq (awp_seq (awp_region hT hm ?_)))
        simp -dsimp only [↓vpre, vpos, Int.reduceNeg, Int.reduceLE, Int.reduceLT, reduceIte, Nat.reduceEqDiff, Nat.reduceLT, Nat.reduceLeDiff, Nat.reduceAdd, Nat.reduceMul, Nat.reduceSub, Nat.reducePow, ne_eq, Int.reduceAdd, Int.reduceSub, Int.reduceMul, Int.reduceToNat, implies_true, vtab]
        refine at_intro ?_
        simp -dsimp only [vend, ne_eq, Nat.reduceEqDiff, reduceCtorEq]
        first | refine awp_seq (awp_cond rfl (fun h => ?_) (fun h => ?_)) | refine awp_cond rfl (fun h => ?_) (fun h => ?_) | refine awp_seq (awp_seq (awp_cond rfl (fun h => ?_) (fun h => ?_)))
        · refine awp_skip ?_
          simp -dsimp only [vend, ne_eq, Nat.reduceEqDiff, reduceCtorEq]
          have hlt : k < l.length := by simpa using h
          obtain ⟨p, hp⟩ : ∃ p, l[k]? = some p := ⟨l[k], by simp [hlt]⟩
          have hdrop : l.drop k = p :: l.drop (k + 1) := by
            rw [List.drop_eq_getElem_cons hlt]
            rw [List.getElem?_eq_getElem hlt] at hp
            simp only [Option.some.injEq] at hp
            rw [hp]
          first | refine awp_seq (awp_block ?_) | refine awp_block ?_
          first | refine awp_seq (awp_region hT hm ?_) | refine awp_region hT hm ?_ | refine awp_seq (awp_seq (awp_region hT hm ?_)) | refine awp_seq (awp_seq (awp_seq (awp_region hT hm ?_)))
          simp -dsimp only [↓vpre, vpos, Int.reduceNeg, Int.reduceLE, Int.reduceLT, reduceIte, Nat.reduceEqDiff, Nat.reduceLT, Nat.reduceLeDiff, Nat.reduceAdd, Nat.reduceMul, Nat.reduceSub, Nat.reducePow, ne_eq, Int.reduceAdd, Int.reduceSub, Int.reduceMul, Int.reduceToNat, implies_true, vtab, hp]
          refine at_intro ?_
          simp -dsimp only [vend, ne_eq, Nat.reduceEqDiff, reduceCtorEq]
          first | refine awp_seq (awp_region hT hm ?_) | refine awp_region hT hm ?_ | refine awp_seq (awp_seq (awp_region hT hm ?_)) | refine awp_seq (awp_seq (awp_seq (awp_region hT hm ?_)))
          simp -dsimp only [↓vpre, vpos, Int.reduceNeg, Int.reduceLE, Int.reduceLT, reduceIte, Nat.reduceEqDiff, Nat.reduceLT, Nat.reduceLeDiff, Nat.reduceAdd, Nat.reduceMul, Nat.reduceSub, Nat.reducePow, ne_eq, Int.reduceAdd, Int.reduceSub, Int.reduceMul, Int.reduceToNat, implies_true, vtab, snoc_old hob2, snoc_set_old hob2, hss]
          refine ⟨by omega, by omega, ?_⟩
          refine at_intro ?_
          simp -dsimp only [vend, ne_eq, Nat.reduceEqDiff, reduceCtorEq]
          obtain ⟨O3, hO3⟩ : ∃ O3, O3 = O.set id (.cells [aI ((m' : Int) + 1)]) := ⟨_, rfl⟩
          have hob3 : O3[id]? = some (.cells [aI ((m' : Int) + 1)]) := by rw [hO3]; exact hobL _
          have hl3 : O3.length = O.length := by rw [hO3]; simp
          have hl23 : O2.length = O3.length := by rw [hl2, hl3]
          rw [← hO3, hl23]
          first | refine awp_seq (awp_region hT hm ?_) | refine awp_region hT hm ?_ | refine awp_seq (awp_seq (awp_region hT hm ?_)) | refine awp_seq (awp_seq (awp_seq (awp_region hT hm ?_)))
          simp -dsimp only [↓vpre, vpos, Int.reduceNeg, Int.reduceLE, Int.reduceLT, reduceIte, Nat.reduceEqDiff, Nat.reduceLT, Nat.reduceLeDiff, Nat.reduceAdd, Nat.reduceMul, Nat.reduceSub, Nat.reducePow, ne_eq, Int.reduceAdd, Int.reduceSub, Int.reduceMul, Int.reduceToNat, implies_true, vtab, snoc_old hob3]
          refine vcIf_split (fun h => ?_) (fun h => ?_)
          · have hle : ¬ (400 < m' + 1) := by
              intro hh
              simp at h
              omega
            simp -dsimp only [↓vpre, vpos, Int.reduceNeg, Int.reduceLE, Int.reduceLT, reduceIte, Nat.reduceEqDiff, Nat.reduceLT, Nat.reduceLeDiff, Nat.reduceAdd, Nat.reduceMul, Nat.reduceSub, Nat.reducePow, ne_eq, Int.reduceAdd, Int.reduceSub, Int.reduceMul, Int.reduceToNat, implies_true, vtab, h, snoc_old hob3]
            refine ⟨by omega, by omega, ?_⟩
            have ed : (21 : Int) - ((d + 1 : Nat) : Int) + 1 = 21 - (d : Int) := by omega
            simp -dsimp only [ed]
            have hq := sizeL_le d p.args (m' + 1) (by omega)
            have hs3 : ∀ (x : List AObj) (y : AObj), (O3 ++ x).set id y = O.set id y ++ x := fun x y => by rw [snoc_set_old hob3, hO3, List.set_set]
            refine .inr (.inl ⟨_, _, (ih p.args (m' + 1) (by omega) (O3 ++ [.cells [.v (.int .i64 p.kind), .v (.string p.name), .v (.int .i64 p.n), .lst 4 (p.args.map Pat.enc) .sh]]) (fun o ho => by rcases List.mem_append.1 ho with ho | ho; exact AObj.upto_mono (by simp; omega) (hup _ o (hO3 ▸ ho)); rw [List.mem_singleton.1 ho]; simp [AObj.upto, uptoL, AVal.upto, Pat.map_upto]) id (by rw [snoc_old hob3]; rfl)), later_intro ?_⟩)
            rw [hs3]
            obtain ⟨⟨b, m2⟩, hb⟩ : ∃ q, q = sizeL d p.args (m' + 1) := ⟨_, rfl⟩
            simp only [← hb] at hq ⊢
            have hgo : sizeL (d + 1) l m = if b then sizeGo (sizeL d) (l.drop (k + 1)) m2 else (false, m2) := by
              rw [he, hdrop, sizeGo, if_neg hle, ← hb]
              cases b <;> rfl
            simp -dsimp only [↓vpre, vpos, Int.reduceNeg, Int.reduceLE, Int.reduceLT, reduceIte, Nat.reduceEqDiff, Nat.reduceLT, Nat.reduceLeDiff, Nat.reduceAdd, Nat.reduceMul, Nat.reduceSub, Nat.reducePow, ne_eq, Int.reduceAdd, Int.reduceSub, Int.reduceMul, Int.reduceToNat, implies_true, vtab, h]
            refine at_intro ?_
            simp -dsimp only [vend, ne_eq, Nat.reduceEqDiff, reduceCtorEq]
            first | refine awp_seq (awp_cond rfl (fun h => ?_) (fun h => ?_)) | refine awp_cond rfl (fun h => ?_) (fun h => ?_) | refine awp_seq (awp_seq (awp_cond rfl (fun h => ?_) (fun h => ?_)))
            · have hbf : b = false := by simpa using h
              subst hbf
              first | refine awp_seq (awp_region hT hm ?_) | refine awp_region hT hm ?_ | refine awp_seq (awp_seq (awp_region hT hm ?_)) | refine awp_seq (awp_seq (awp_seq (awp_region hT hm ?_)))
              simp -dsimp only [↓vpre, vpos, Int.reduceNeg, Int.reduceLE, Int.reduceLT, reduceIte, Nat.reduceEqDiff, Nat.reduceLT, Nat.reduceLeDiff, Nat.reduceAdd, Nat.reduceMul, Nat.reduceSub, Nat.reducePow, ne_eq, Int.reduceAdd, Int.reduceSub, Int.reduceMul, Int.reduceToNat, implies_true, vtab]
              refine at_intro ?_
              simp -dsimp only [vend, ne_eq, Nat.reduceEqDiff, reduceCtorEq]
              refine awp_ret ?_
              simp -dsimp only [↓vpre, vpos, Int.reduceNeg, Int.reduceLE, Int.reduceLT, reduceIte, Nat.reduceEqDiff, Nat.reduceLT, Nat.reduceLeDiff, Nat.reduceAdd, Nat.reduceMul, Nat.reduceSub, Nat.reducePow, ne_eq, Int.reduceAdd, Int.reduceSub, Int.reduceMul, Int.reduceToNat, implies_true, vtab, RetTo, Try.results70, retVals, retVal, mkRet, AVal.upto, Nat.zero_le, Nat.le_refl, seqPost_ret, blockPost_ret, loopPost_ret]
              simp -dsimp only [htk _ _ (show (O.set id (.cells [aI (m2 : Int)])).length = O.length by simp)]
              rw [hgo]
              exact ⟨by simp, hup _, rfl, rfl⟩
            · have hbt : b = true := by simpa using h
              subst hbt
              refine awp_skip ?_
              simp -dsimp only [vend, ne_eq, Nat.reduceEqDiff, reduceCtorEq]
              refine awp_trunc' O.length [(1, aI ((21 : Int) - (d + 1 : Nat))), (2, .mp id 0), (14, eR l), (15, aI l.length), (16, aI k)] (by first | omega | (simp; done) | (simp; omega)) (by first | omega | (simp; done) | (simp; omega)) (O.set id (.cells [aI m2])) ?_ ?_ ?_ ?_ ?_
              · exact htk _ _ (by simp)
              · exact hup _
              · simp -dsimp only [↓vpre, vpos, Int.reduceNeg, Int.reduceLE, Int.reduceLT, reduceIte, Nat.reduceEqDiff, Nat.reduceLT, Nat.reduceLeDiff, Nat.reduceAdd, Nat.reduceMul, Nat.reduceSub, Nat.reducePow, ne_eq, Int.reduceAdd, Int.reduceSub, Int.reduceMul, Int.reduceToNat, implies_true, vtab, Says, exists_eq_left', Option.some.injEq, sub_self, and_true]
              · simp [AVal.upto, uptoL, Pat.map_upto, hidl]
              · first | refine awp_seq (awp_region hT hm ?_) | refine awp_region hT hm ?_ | refine awp_seq (awp_seq (awp_region hT hm ?_)) | refine awp_seq (awp_seq (awp_seq (awp_region hT hm ?_)))
                simp -dsimp only [↓vpre, vpos, Int.reduceNeg, Int.reduceLE, Int.reduceLT, reduceIte, Nat.reduceEqDiff, Nat.reduceLT, Nat.reduceLeDiff, Nat.reduceAdd, Nat.reduceMul, Nat.reduceSub, Nat.reducePow, ne_eq, Int.reduceAdd, Int.reduceSub, Int.reduceMul, Int.reduceToNat, implies_true, vtab]
                refine ⟨by omega, by omega, ?_⟩
                refine at_intro ?_
                simp -dsimp only [vend, ne_eq, Nat.reduceEqDiff, reduceCtorEq]
                refine ⟨⟨(k + 1, m2), by omega, hq rfl, by rw [hgo]; rfl⟩, by simp; omega, ?_⟩
                refine ⟨rfl, ?_, ?_⟩
                rotate_left
                simp -dsimp only [↓vpre, vpos, Int.reduceNeg, Int.reduceLE, Int.reduceLT, reduceIte, Nat.reduceEqDiff, Nat.reduceLT, Nat.reduceLeDiff, Nat.reduceAdd, Nat.reduceMul, Nat.reduceSub, Nat.reducePow, ne_eq, Int.reduceAdd, Int.reduceSub, Int.reduceMul, Int.reduceToNat, implies_true, vtab, Says, exists_eq_left', Option.some.injEq, sub_self, and_assoc, true_and, and_true]
                · exact Sub.int (by simp)
                · rfl
          · have hgt : 400 < m' + 1 := by
              simp at h
              omega
            simp -dsimp only [↓vpre, vpos, Int.reduceNeg, Int.reduceLE, Int.reduceLT, reduceIte, Nat.reduceEqDiff, Nat.reduceLT, Nat.reduceLeDiff, Nat.reduceAdd, Nat.reduceMul, Nat.reduceSub, Nat.reducePow, ne_eq, Int.reduceAdd, Int.reduceSub, Int.reduceMul, Int.reduceToNat, implies_true, vtab, h]
            refine at_intro ?_
            simp -dsimp only [vend, ne_eq, Nat.reduceEqDiff, reduceCtorEq]
            first | refine awp_seq (awp_cond rfl (fun h => ?_) (fun h => ?_)) | refine awp_cond rfl (fun h => ?_) (fun h => ?_) | refine awp_seq (awp_seq (awp_cond rfl (fun h => ?_) (fun h => ?_)))
            · first | refine awp_seq (awp_region hT hm ?_) | refine awp_region hT hm ?_ | refine awp_seq (awp_seq (awp_region hT hm ?_)) | refine awp_seq (awp_seq (awp_seq (awp_region hT hm ?_)))
              simp -dsimp only [↓vpre, vpos, Int.reduceNeg, Int.reduceLE, Int.reduceLT, reduceIte, Nat.reduceEqDiff, Nat.reduceLT, Nat.reduceLeDiff, Nat.reduceAdd, Nat.reduceMul, Nat.reduceSub, Nat.reducePow, ne_eq, Int.reduceAdd, Int.reduceSub, Int.reduceMul, Int.reduceToNat, implies_true, vtab]
              refine at_intro ?_
              simp -dsimp only [vend, ne_eq, Nat.reduceEqDiff, reduceCtorEq]
              refine awp_ret ?_
              simp -dsimp only [↓vpre, vpos, Int.reduceNeg, Int.reduceLE, Int.reduceLT, reduceIte, Nat.reduceEqDiff, Nat.reduceLT, Nat.reduceLeDiff, Nat.reduceAdd, Nat.reduceMul, Nat.reduceSub, Nat.reducePow, ne_eq, Int.reduceAdd, Int.reduceSub, Int.reduceMul, Int.reduceToNat, implies_true, vtab, RetTo, Try.results70, retVals, retVal, mkRet, AVal.upto, Nat.zero_le, Nat.le_refl, seqPost_ret, blockPost_ret, loopPost_ret]
              simp -dsimp only [htk _ _ hl3]
              have hgo : sizeL (d + 1) l m = (false, m' + 1) := by
                rw [he, hdrop, sizeGo, if_pos hgt]
              rw [hgo]
              refine ⟨by omega, fun o ho => hup _ o (hO3 ▸ ho), rfl, hO3⟩
            · cases h
        · refine awp_exit ?_
          simp -dsimp only [vend, ne_eq, Nat.reduceEqDiff, reduceCtorEq]
          have hlt : k = l.length := by simp at h; omega
          subst hlt
          first | refine awp_seq (awp_region hT hm ?_) | refine awp_region hT hm ?_ | refine awp_seq (awp_seq (awp_region hT hm ?_)) | refine awp_seq (awp_seq (awp_seq (awp_region hT hm ?_)))
          simp -dsimp only [↓vpre, vpos, Int.reduceNeg, Int.reduceLE, Int.reduceLT, reduceIte, Nat.reduceEqDiff, Nat.reduceLT, Nat.reduceLeDiff, Nat.reduceAdd, Nat.reduceMul, Nat.reduceSub, Nat.reducePow, ne_eq, Int.reduceAdd, Int.reduceSub, Int.reduceMul, Int.reduceToNat, implies_true, vtab]
          refine at_intro ?_
          simp -dsimp only [vend, ne_eq, Nat.reduceEqDiff, reduceCtorEq]
          refine awp_ret ?_
          simp -dsimp only [↓vpre, vpos, Int.reduceNeg, Int.reduceLE, Int.reduceLT, reduceIte, Nat.reduceEqDiff, Nat.reduceLT, Nat.reduceLeDiff, Nat.reduceAdd, Nat.reduceMul, Nat.reduceSub, Nat.reducePow, ne_eq, Int.reduceAdd, Int.reduceSub, Int.reduceMul, Int.reduceToNat, implies_true, vtab, RetTo, Try.results70, retVals, retVal, mkRet, AVal.upto, Nat.zero_le, Nat.le_refl, seqPost_ret, blockPost_ret, loopPost_ret]
          have hgo : sizeL (d + 1) l m = (true, m') := by
            rw [he, List.drop_length]
            rfl
          rw [hgo, ← hl2, List.take_length, hl2]
          exact ⟨Nat.le_refl _, fun o ho => hup _ o (hO2 ▸ ho), rfl, hO2⟩

end Go.Proofs.Ytakdmelemfnmdaa
end

section
set_option linter.unusedSimpArgs false
set_option maxHeartbeats 1000000
-- !tab vtab
-- !upto Pat.enc_upto Pat.map_upto any_upto Con.enc_upto Con.map_upto Data.enc_upto Data.map_upto
namespace Go.Proofs.Ytakdmelemfnmdaa
open Go.Av

theorem indexFuncD_spec (f : Data → Bool) (id : Nat) (fs cs : List AVal) (O : List AObj) (hO : ∀ o ∈ O, o.upto O.length) (l : List Data)
    (hf : ∀ p ∈ l, ECall Try.prog id O (fs ++ [p.enc] ++ cs) fun r O' => r = .v (.bool (f p)) ∧ O' = O) :
    ECall Try.prog 91 O [eD l, .fn (.func id) fs cs] fun r O' => r = .v (.int .i64 (idx f l)) ∧ O' = O := by
  refine ecall_of hT true O.length Try.func91 rfl (by kernel_rfl) (by simp [Try.ntmps91]) (by simp) ?_
  show AWP Try.prog _ _ _ ⟨19, _, _⟩
  dsimp only [Tmp, TypeId, slotsOf]
  first | refine awp_seq (awp_region hT hm ?_) | refine awp_region hT hm ?_ | refine awp_seq (awp_seq (awp_region hT hm ?_)) | refine awp_seq (awp_seq (awp_seq (awp_region hT hm ?_)))
  simp -dsimp only [↓vpre, vpos, Int.reduceNeg, Int.reduceLE, Int.reduceLT, reduceIte, Nat.reduceEqDiff, Nat.reduceLT, Nat.reduceLeDiff, Nat.reduceAdd, Nat.reduceMul, Nat.reduceSub, Nat.reducePow, ne_eq, Int.reduceAdd, Int.reduceSub, Int.reduceMul, Int.reduceToNat, implies_true, vtab]
  refine at_intro ?_
  simp -dsimp only [vend, ne_eq, Nat.reduceEqDiff, reduceCtorEq]
  refine awp_len 0 rfl (fun hlen => ?_)
  simp only [List.length_map] at hlen
  first | refine awp_seq (awp_region hT hm ?_) | refine awp_region hT hm ?_ | refine awp_seq (awp_seq (awp_region hT hm ?_)) | refine awp_seq (awp_seq (awp_seq (awp_region hT hm ?_)))
  simp -dsimp only [↓vpre, vpos, Int.reduceNeg, Int.reduceLE, Int.reduceLT, reduceIte, Nat.reduceEqDiff, Nat.reduceLT, Nat.reduceLeDiff, Nat.reduceAdd, Nat.reduceMul, Nat.reduceSub, Nat.reducePow, ne_eq, Int.reduceAdd, Int.reduceSub, Int.reduceMul, Int.reduceToNat, implies_true, vtab]
  refine at_intro ?_
  simp -dsimp only [vend, ne_eq, Nat.reduceEqDiff, reduceCtorEq]
  first | refine awp_block (awp_loop (ι := {k : Nat // k ≤ l.length ∧ ∀ j p, j < k → l[j]? = some p → f p = false}) (fun k => ⟨19, [(0, eD l), (1, .fn (.func id) fs cs), (7, .v (.int .i64 l.length)), (8, .v (.int .i64 k.1))], O⟩) (fun k => l.length - k.1) ⟨0, by omega, by intros; omega⟩ ?_ ?_) | refine awp_seq (awp_block (awp_loop (ι := {k : Nat // k ≤ l.length ∧ ∀ j p, j < k → l[j]? = some p → f p = false}) (fun k => ⟨19, [(0, eD l), (1, .fn (.func id) fs cs), (7, .v (.int .i64 l.length)), (8, .v (.int .i64 k.1))], O⟩) (fun k => l.length - k.1) ⟨0, by omega, by intros; omega⟩ ?_ ?_))
  · refine ⟨rfl, ?_, ?_⟩
    rotate_left
    simp -dsimp only [↓vpre, vpos, Int.reduceNeg, Int.reduceLE, Int.reduceLT, reduceIte, Nat.reduceEqDiff, Nat.reduceLT, Nat.reduceLeDiff, Nat.reduceAdd, Nat.reduceMul, Nat.reduceSub, Nat.reducePow, ne_eq, Int.reduceAdd, Int.reduceSub, Int.reduceMul, Int.reduceToNat, implies_true, vtab, Says, exists_eq_left', Option.some.injEq, sub_self, and_assoc, true_and, and_true]
    rfl
  · rintro ⟨k, hk, hall⟩
    first | refine awp_seq (awp_region hT hm ?_) | refine awp_region hT hm ?_ | refine awp_seq (awp_seq (awp_region hT hm ?_)) | refine awp_seq (awp_seq (awp_seq (awp_region hT hm ?_)))
    simp -dsimp only [↓vpre, vpos, Int.reduceNeg, Int.reduceLE, Int.reduceLT, reduceIte, Nat.reduceEqDiff, Nat.reduceLT, Nat.reduceLeDiff, Nat.reduceAdd, Nat.reduceMul, Nat.reduceSub, Nat.reducePow, ne_eq, Int.reduceAdd, Int.reduceSub, Int.reduceMul, Int.reduceToNat, implies_true, vtab]
    refine at_intro ?_
    simp -dsimp only [vend, ne_eq, Nat.reduceEqDiff, reduceCtorEq]
    first | refine awp_seq (awp_cond rfl (fun h => ?_) (fun h => ?_)) | refine awp_cond rfl (fun h => ?_) (fun h => ?_) | refine awp_seq (awp_seq (awp_cond rfl (fun h => ?_) (fun h => ?_)))
    · refine awp_skip ?_
      simp -dsimp only [vend, ne_eq, Nat.reduceEqDiff, reduceCtorEq]
      have hlt : k < l.length := by simpa using h
      obtain ⟨p, hp⟩ : ∃ p, l[k]? = some p := ⟨l[k], by simp [hlt]⟩
      have hmem := List.mem_of_getElem? hp
      first | refine awp_seq (awp_block ?_) | refine awp_block ?_
      first | refine awp_seq (awp_region hT hm ?_) | refine awp_region hT hm ?_ | refine awp_seq (awp_seq (awp_region hT hm ?_)) | refine awp_seq (awp_seq (awp_seq (awp_region hT hm ?_)))
      simp -dsimp only [↓vpre, vpos, Int.reduceNeg, Int.reduceLE, Int.reduceLT, reduceIte, Nat.reduceEqDiff, Nat.reduceLT, Nat.reduceLeDiff, Nat.reduceAdd, Nat.reduceMul, Nat.reduceSub, Nat.reducePow, ne_eq, Int.reduceAdd, Int.reduceSub, Int.reduceMul, Int.reduceToNat, implies_true, vtab]
      refine at_intro ?_
      simp -dsimp only [vend, ne_eq, Nat.reduceEqDiff, reduceCtorEq]
      first | refine awp_seq (awp_region hT hm ?_) | refine awp_region hT hm ?_ | refine awp_seq (awp_seq (awp_region hT hm ?_)) | refine awp_seq (awp_seq (awp_seq (awp_region hT hm ?_)))
      simp -dsimp only [↓vpre, vpos, Int.reduceNeg, Int.reduceLE, Int.reduceLT, reduceIte, Nat.reduceEqDiff, Nat.reduceLT, Nat.reduceLeDiff, Nat.reduceAdd, Nat.reduceMul, Nat.reduceSub, Nat.reducePow, ne_eq, Int.reduceAdd, Int.reduceSub, Int.reduceMul, Int.reduceToNat, implies_true, vtab, hp]
      refine .inr (.inr ⟨_, (hf p hmem), later_intro ?_⟩)
      simp -dsimp only [↓vpre, vpos, Int.reduceNeg, Int.reduceLE, Int.reduceLT, reduceIte, Nat.reduceEqDiff, Nat.reduceLT, Nat.reduceLeDiff, Nat.reduceAdd, Nat.reduceMul, Nat.reduceSub, Nat.reducePow, ne_eq, Int.reduceAdd, Int.reduceSub, Int.reduceMul, Int.reduceToNat, implies_true, vtab]
      refine at_intro ?_
      simp -dsimp only [vend, ne_eq, Nat.reduceEqDiff, reduceCtorEq]
      first | refine awp_seq (awp_cond rfl (fun h => ?_) (fun h => ?_)) | refine awp_cond rfl (fun h => ?_) (fun h => ?_) | refine awp_seq (awp_seq (awp_cond rfl (fun h => ?_) (fun h => ?_)))
      · first | refine awp_seq (awp_region hT hm ?_) | refine awp_region hT hm ?_ | refine awp_seq (awp_seq (awp_region hT hm ?_)) | refine awp_seq (awp_seq (awp_seq (awp_region hT hm ?_)))
        simp -dsimp only [↓vpre, vpos, Int.reduceNeg, Int.reduceLE, Int.reduceLT, reduceIte, Nat.reduceEqDiff, Nat.reduceLT, Nat.reduceLeDiff, Nat.reduceAdd, Nat.reduceMul, Nat.reduceSub, Nat.reducePow, ne_eq, Int.reduceAdd, Int.reduceSub, Int.reduceMul, Int.reduceToNat, implies_true, vtab]
        refine at_intro ?_
        simp -dsimp only [vend, ne_eq, Nat.reduceEqDiff, reduceCtorEq]
        refine awp_ret ?_
        simp -dsimp only [↓vpre, vpos, Int.reduceNeg, Int.reduceLE, Int.reduceLT, reduceIte, Nat.reduceEqDiff, Nat.reduceLT, Nat.reduceLeDiff, Nat.reduceAdd, Nat.reduceMul, Nat.reduceSub, Nat.reducePow, ne_eq, Int.reduceAdd, Int.reduceSub, Int.reduceMul, Int.reduceToNat, implies_true, vtab, RetTo, Try.results91, retVals, retVal, mkRet, AVal.upto, Nat.zero_le, Nat.le_refl, seqPost_ret, blockPost_ret, loopPost_ret, List.take_length]
        rw [idx_some hp h hall]
        simpa using hO
      · refine awp_skip ?_
        simp -dsimp only [vend, ne_eq, Nat.reduceEqDiff, reduceCtorEq]
        have hb : f p = false := by simpa using h
        first | refine awp_seq (awp_region hT hm ?_) | refine awp_region hT hm ?_ | refine awp_seq (awp_seq (awp_region hT hm ?_)) | refine awp_seq (awp_seq (awp_seq (awp_region hT hm ?_)))
        simp -dsimp only [↓vpre, vpos, Int.reduceNeg, Int.reduceLE, Int.reduceLT, reduceIte, Nat.reduceEqDiff, Nat.reduceLT, Nat.reduceLeDiff, Nat.reduceAdd, Nat.reduceMul, Nat.reduceSub, Nat.reducePow, ne_eq, Int.reduceAdd, Int.reduceSub, Int.reduceMul, Int.reduceToNat, implies_true, vtab]
        refine ⟨by omega, by omega, ?_⟩
        refine at_intro ?_
        simp -dsimp only [vend, ne_eq, Nat.reduceEqDiff, reduceCtorEq]
        refine ⟨⟨k + 1, hlt, fun j q hj hq => ?_⟩, by simp; omega, ?_⟩
        · rcases Nat.lt_succ_iff_lt_or_eq.1 hj with hj | hj
          · exact hall j q hj hq
          · subst hj
            rw [hp] at hq
            simp only [Option.some.injEq] at hq
            rw [← hq]
            exact hb
        refine ⟨rfl, ?_, ?_⟩
        rotate_left
        simp -dsimp only [↓vpre, vpos, Int.reduceNeg, Int.reduceLE, Int.reduceLT, reduceIte, Nat.reduceEqDiff, Nat.reduceLT, Nat.reduceLeDiff, Nat.reduceAdd, Nat.reduceMul, Nat.reduceSub, Nat.reducePow, ne_eq, Int.reduceAdd, Int.reduceSub, Int.reduceMul, Int.reduceToNat, implies_true, vtab, Says, exists_eq_left', Option.some.injEq, sub_self, and_assoc, true_and, and_true]
        · exact Sub.int (by simp)
        · rfl
    · refine awp_exit ?_
      simp -dsimp only [vend, ne_eq, Nat.reduceEqDiff, reduceCtorEq]
      have hlt : k = l.length := by simp at h; omega
      subst hlt
      first | refine awp_seq (awp_region hT hm ?_) | refine awp_region hT hm ?_ | refine awp_seq (awp_seq (awp_region hT hm ?_)) | refine awp_seq (awp_seq (awp_seq (awp_region hT hm ?_)))
      simp -dsimp only [↓vpre, vpos, Int.reduceNeg, Int.reduceLE, Int.reduceLT, reduceIte, Nat.reduceEqDiff, Nat.reduceLT, Nat.reduceLeDiff, Nat.reduceAdd, Nat.reduceMul, Nat.reduceSub, Nat.reducePow, ne_eq, Int.reduceAdd, Int.reduceSub, Int.reduceMul, Int.reduceToNat, implies_true, vtab]
      refine at_intro ?_
      simp -dsimp only [vend, ne_eq, Nat.reduceEqDiff, reduceCtorEq]
      refine awp_ret ?_
      simp -dsimp only [↓vpre, vpos, Int.reduceNeg, Int.reduceLE, Int.reduceLT, reduceIte, Nat.reduceEqDiff, Nat.reduceLT, Nat.reduceLeDiff, Nat.reduceAdd, Nat.reduceMul, Nat.reduceSub, Nat.reducePow, ne_eq, Int.reduceAdd, Int.reduceSub, Int.reduceMul, Int.reduceToNat, implies_true, vtab, RetTo, Try.results91, retVals, retVal, mkRet, AVal.upto, Nat.zero_le, Nat.le_refl, seqPost_ret, blockPost_ret, loopPost_ret, List.take_length]
      rw [idx_none hall]
      simpa using hO

theorem containsFuncD_spec (f : Data → Bool) (id : Nat) (fs cs : List AVal) (O : List AObj) (hO : ∀ o ∈ O, o.upto O.length) (l : List Data)
    (hf : ∀ p ∈ l, ECall Try.prog id O (fs ++ [p.enc] ++ cs) fun r O' => r = .v (.bool (f p)) ∧ O' = O) :
    ECall Try.prog 71 O [eD l, .fn (.func id) fs cs] fun r O' => r = .v (.bool (l.any f)) ∧ O' = O := by
  refine ecall_of hT true O.length Try.func71 rfl (by kernel_rfl) (by simp [Try.ntmps71]) (by simp) ?_
  show AWP Try.prog _ _ _ ⟨9, _, _⟩
  dsimp only [Tmp, TypeId, slotsOf]
  first | refine awp_seq (awp_region hT hm ?_) | refine awp_region hT hm ?_ | refine awp_seq (awp_seq (awp_region hT hm ?_)) | refine awp_seq (awp_seq (awp_seq (awp_region hT hm ?_)))
  simp -dsimp only [↓vpre, vpos, Int.reduceNeg, Int.reduceLE, Int.reduceLT, reduceIte, Nat.reduceEqDiff, Nat.reduceLT, Nat.reduceLeDiff, Nat.reduceAdd, Nat.reduceMul, Nat.reduceSub, Nat.reducePow, ne_eq, Int.reduceAdd, Int.reduceSub, Int.reduceMul, Int.reduceToNat, implies_true, vtab]
  refine at_intro ?_
  simp -dsimp only [vend, ne_eq, Nat.reduceEqDiff, reduceCtorEq]
  first | refine awp_seq (awp_region hT hm ?_) | refine awp_region hT hm ?_ | refine awp_seq (awp_seq (awp_region hT hm ?_)) | refine awp_seq (awp_seq (awp_seq (awp_region hT hm ?_)))
  simp -dsimp only [↓vpre, vpos, Int.reduceNeg, Int.reduceLE, Int.reduceLT, reduceIte, Nat.reduceEqDiff, Nat.reduceLT, Nat.reduceLeDiff, Nat.reduceAdd, Nat.reduceMul, Nat.reduceSub, Nat.reducePow, ne_eq, Int.reduceAdd, Int.reduceSub, Int.reduceMul, Int.reduceToNat, implies_true, vtab]
  refine .inr (.inr ⟨_, (indexFuncD_spec f id fs cs O hO l hf), later_intro ?_⟩)
  simp -dsimp only [↓vpre, vpos, Int.reduceNeg, Int.reduceLE, Int.reduceLT, reduceIte, Nat.reduceEqDiff, Nat.reduceLT, Nat.reduceLeDiff, Nat.reduceAdd, Nat.reduceMul, Nat.reduceSub, Nat.reducePow, ne_eq, Int.reduceAdd, Int.reduceSub, Int.reduceMul, Int.reduceToNat, implies_true, vtab]
  refine at_intro ?_
  simp -dsimp only [vend, ne_eq, Nat.reduceEqDiff, reduceCtorEq]
  refine awp_ret ?_
  simp -dsimp only [↓vpre, vpos, Int.reduceNeg, Int.reduceLE, Int.reduceLT, reduceIte, Nat.reduceEqDiff, Nat.reduceLT, Nat.reduceLeDiff, Nat.reduceAdd, Nat.reduceMul, Nat.reduceSub, Nat.reducePow, ne_eq, Int.reduceAdd, Int.reduceSub, Int.reduceMul, Int.reduceToNat, implies_true, vtab, RetTo, Try.results71, retVals, retVal, mkRet, AVal.upto, Nat.zero_le, Nat.le_refl, seqPost_ret, blockPost_ret, loopPost_ret, List.take_length]
  rw [idx_any]
  simpa using hO


theorem small1_spec (d : Data) : PCall Try.prog 72 [d.enc] (.v (.bool (decide ((256 : Int) < d.cons.length)))) := by
  refine ecall_of hT true 0 Try.func72 rfl (by kernel_rfl) (by simp [Try.ntmps72]) (by simp) ?_
  show AWP Try.prog _ _ _ ⟨7, _, _⟩
  dsimp only [Tmp, TypeId, slotsOf]
  first | refine awp_seq (awp_region hT hm ?_) | refine awp_region hT hm ?_ | refine awp_seq (awp_seq (awp_region hT hm ?_)) | refine awp_seq (awp_seq (awp_seq (awp_region hT hm ?_)))
  simp -dsimp only [↓vpre, vpos, Int.reduceNeg, Int.reduceLE, Int.reduceLT, reduceIte, Nat.reduceEqDiff, Nat.reduceLT, Nat.reduceLeDiff, Nat.reduceAdd, Nat.reduceMul, Nat.reduceSub, Nat.reducePow, ne_eq, Int.reduceAdd, Int.reduceSub, Int.reduceMul, Int.reduceToNat, implies_true, vtab]
  refine at_intro ?_
  simp -dsimp only [vend, ne_eq, Nat.reduceEqDiff, reduceCtorEq]
  first | refine awp_seq (awp_region hT hm ?_) | refine awp_region hT hm ?_ | refine awp_seq (awp_seq (awp_region hT hm ?_)) | refine awp_seq (awp_seq (awp_seq (awp_region hT hm ?_)))
  simp -dsimp only [↓vpre, vpos, Int.reduceNeg, Int.reduceLE, Int.reduceLT, reduceIte, Nat.reduceEqDiff, Nat.reduceLT, Nat.reduceLeDiff, Nat.reduceAdd, Nat.reduceMul, Nat.reduceSub, Nat.reducePow, ne_eq, Int.reduceAdd, Int.reduceSub, Int.reduceMul, Int.reduceToNat, implies_true, vtab]
  refine at_intro ?_
  simp -dsimp only [vend, ne_eq, Nat.reduceEqDiff, reduceCtorEq]
  refine awp_ret ?_
  simp -dsimp only [↓vpre, vpos, Int.reduceNeg, Int.reduceLE, Int.reduceLT, reduceIte, Nat.reduceEqDiff, Nat.reduceLT, Nat.reduceLeDiff, Nat.reduceAdd, Nat.reduceMul, Nat.reduceSub, Nat.reducePow, ne_eq, Int.reduceAdd, Int.reduceSub, Int.reduceMul, Int.reduceToNat, implies_true, vtab, RetTo, Try.results72, retVals, retVal, mkRet, AVal.upto, Nat.zero_le, Nat.le_refl, seqPost_ret, blockPost_ret, loopPost_ret]

def smallRows : List (List Pat) → Nat → Bool
  | [], _ => true
  | r :: rows, m => if 16 < r.length then false else match sizeL 20 r m with
    | (true, m2) => smallRows rows m2
    | (false, _) => false

def small (datas : List Data) (rows : List (List Pat)) : Bool := smallRows rows 0 && (decide (rows.length ≤ 64) && !datas.any (fun d => decide ((256 : Int) < d.cons.length)))

theorem small_spec (datas : List Data) (rows : List (List Pat)) : PCall Try.prog 38 [eD datas, eRR rows] (.v (.bool (small datas rows))) := by
  refine ecall_of hT true 0 Try.func38 rfl (by kernel_rfl) (by simp [Try.ntmps38]) (by simp) ?_
  show AWP Try.prog _ _ _ ⟨31, _, _⟩
  dsimp only [Tmp, TypeId, slotsOf]
  first | refine awp_seq (awp_region hT hm ?_) | refine awp_region hT hm ?_ | refine awp_seq (awp_seq (awp_region hT hm ?_)) | refine awp_seq (awp_seq (awp_seq (awp_region hT hm ?_)))
  simp -dsimp only [↓vpre, vpos, Int.reduceNeg, Int.reduceLE, Int.reduceLT, reduceIte, Nat.reduceEqDiff, Nat.reduceLT, Nat.reduceLeDiff, Nat.reduceAdd, Nat.reduceMul, Nat.reduceSub, Nat.reducePow, ne_eq, Int.reduceAdd, Int.reduceSub, Int.reduceMul, Int.reduceToNat, implies_true, vtab]
  refine at_intro ?_
  simp -dsimp only [vend, ne_eq, Nat.reduceEqDiff, reduceCtorEq]
  first | refine awp_seq (awp_region hT hm ?_) | refine awp_region hT hm ?_ | refine awp_seq (awp_seq (awp_region hT hm ?_)) | refine awp_seq (awp_seq (awp_seq (awp_region hT hm ?_)))
  simp -dsimp only [↓vpre, vpos, Int.reduceNeg, Int.reduceLE, Int.reduceLT, reduceIte, Nat.reduceEqDiff, Nat.reduceLT, Nat.reduceLeDiff, Nat.reduceAdd, Nat.reduceMul, Nat.reduceSub, Nat.reducePow, ne_eq, Int.reduceAdd, Int.reduceSub, Int.reduceMul, Int.reduceToNat, implies_true, vtab]
  refine at_intro ?_
  simp -dsimp only [vend, ne_eq, Nat.reduceEqDiff, reduceCtorEq]
  refine awp_len 1 rfl (fun hlen => ?_)
  simp only [List.length_map] at hlen
  first | refine awp_seq (awp_region hT hm ?_) | refine awp_region hT hm ?_ | refine awp_seq (awp_seq (awp_region hT hm ?_)) | refine awp_seq (awp_seq (awp_seq (awp_region hT hm ?_)))
  simp -dsimp only [↓vpre, vpos, Int.reduceNeg, Int.reduceLE, Int.reduceLT, reduceIte, Nat.reduceEqDiff, Nat.reduceLT, Nat.reduceLeDiff, Nat.reduceAdd, Nat.reduceMul, Nat.reduceSub, Nat.reducePow, ne_eq, Int.reduceAdd, Int.reduceSub, Int.reduceMul, Int.reduceToNat, implies_true, vtab]
  refine at_intro ?_
  simp -dsimp only [vend, ne_eq, Nat.reduceEqDiff, reduceCtorEq]
  first | refine awp_block (awp_loop (ι := {q : Nat × Nat // q.1 ≤ rows.length ∧ q.2 ≤ 400 ∧ smallRows rows 0 = smallRows (rows.drop q.1) q.2}) (fun q => ⟨31, [(0, eD datas), (1, eRR rows), (5, .mp 0 0), (8, eRR rows), (9, aI rows.length), (10, aI q.1.1)], [.cells [aI q.1.2]]⟩) (fun q => rows.length - q.1.1) ⟨(0, 0), by omega, by omega, rfl⟩ ?_ ?_) | refine awp_seq (awp_block (awp_loop (ι := {q : Nat × Nat // q.1 ≤ rows.length ∧ q.2 ≤ 400 ∧ smallRows rows 0 = smallRows (rows.drop q.1) q.2}) (fun q => ⟨31, [(0, eD datas), (1, eRR rows), (5, .mp 0 0), (8, eRR rows), (9, aI rows.length), (10, aI q.1.1)], [.cells [aI q.1.2]]⟩) (fun q => rows.length - q.1.1) ⟨(0, 0), by omega, by omega, rfl⟩ ?_ ?_))
  · refine ⟨rfl, ?_, ?_⟩
    rotate_left
    simp -dsimp only [↓vpre, vpos, Int.reduceNeg, Int.reduceLE, Int.reduceLT, reduceIte, Nat.reduceEqDiff, Nat.reduceLT, Nat.reduceLeDiff, Nat.reduceAdd, Nat.reduceMul, Nat.reduceSub, Nat.reducePow, ne_eq, Int.reduceAdd, Int.reduceSub, Int.reduceMul, Int.reduceToNat, implies_true, vtab, Says, exists_eq_left', Option.some.injEq, sub_self, and_assoc, true_and, and_true]
    rfl
  · rintro ⟨⟨k, m⟩, hk, hm0, he⟩
    simp only at hk hm0 he
    first | refine awp_seq (awp_region hT hm ?_) | refine awp_region hT hm ?_ | refine awp_seq (awp_seq (awp_region hT hm ?_)) | refine awp_seq (awp_seq (awp_seq (awp_region hT hm ?_)))
    simp -dsimp only [↓vpre, vpos, Int.reduceNeg, Int.reduceLE, Int.reduceLT, reduceIte, Nat.reduceEqDiff, Nat.reduceLT, Nat.reduceLeDiff, Nat.reduceAdd, Nat.reduceMul, Nat.reduceSub, Nat.reducePow, ne_eq, Int.reduceAdd, Int.reduceSub, Int.reduceMul, Int.reduceToNat, implies_true, vtab]
    refine at_intro ?_
    simp -dsimp only [vend, ne_eq, Nat.reduceEqDiff, reduceCtorEq]
    first | refine awp_seq (awp_cond rfl (fun h => ?_) (fun h => ?_)) | refine awp_cond rfl (fun h => ?_) (fun h => ?_) | refine awp_seq (awp_seq (awp_cond rfl (fun h => ?_) (fun h => ?_)))
    · refine awp_skip ?_
      simp -dsimp only [vend, ne_eq, Nat.reduceEqDiff, reduceCtorEq]
      have hlt : k < rows.length := by simpa using h
      obtain ⟨r, hr⟩ : ∃ r, rows[k]? = some r := ⟨rows[k], by simp [hlt]⟩
      have hdrop : rows.drop k = r :: rows.drop (k + 1) := by
        rw [List.drop_eq_getElem_cons hlt]
        rw [List.getElem?_eq_getElem hlt] at hr
        simp only [Option.some.injEq] at hr
        rw [hr]
      first | refine awp_seq (awp_block ?_) | refine awp_block ?_
      first | refine awp_seq (awp_region hT hm ?_) | refine awp_region hT hm ?_ | refine awp_seq (awp_seq (awp_region hT hm ?_)) | refine awp_seq (awp_seq (awp_seq (awp_region hT hm ?_)))
      simp -dsimp only [↓vpre, vpos, Int.reduceNeg, Int.reduceLE, Int.reduceLT, reduceIte, Nat.reduceEqDiff, Nat.reduceLT, Nat.reduceLeDiff, Nat.reduceAdd, Nat.reduceMul, Nat.reduceSub, Nat.reducePow, ne_eq, Int.reduceAdd, Int.reduceSub, Int.reduceMul, Int.reduceToNat, implies_true, vtab, hr]
      refine at_intro ?_
      simp -dsimp only [vend, ne_eq, Nat.reduceEqDiff, reduceCtorEq]
      first | refine awp_seq (awp_region hT hm ?_) | refine awp_region hT hm ?_ | refine awp_seq (awp_seq (awp_region hT hm ?_)) | refine awp_seq (awp_seq (awp_seq (awp_region hT hm ?_)))
      simp -dsimp only [↓vpre, vpos, Int.reduceNeg, Int.reduceLE, Int.reduceLT, reduceIte, Nat.reduceEqDiff, Nat.reduceLT, Nat.reduceLeDiff, Nat.reduceAdd, Nat.reduceMul, Nat.reduceSub, Nat.reducePow, ne_eq, Int.reduceAdd, Int.reduceSub, Int.reduceMul, Int.reduceToNat, implies_true, vtab]
      refine vcIf_split (fun h => ?_) (fun h => ?_)
      · have hle : ¬ (16 < r.length) := by
          simp at h
          omega
        simp -dsimp only [↓vpre, vpos, Int.reduceNeg, Int.reduceLE, Int.reduceLT, reduceIte, Nat.reduceEqDiff, Nat.reduceLT, Nat.reduceLeDiff, Nat.reduceAdd, Nat.reduceMul, Nat.reduceSub, Nat.reducePow, ne_eq, Int.reduceAdd, Int.reduceSub, Int.reduceMul, Int.reduceToNat, implies_true, vtab, h]
        refine .inr (.inl ⟨_, _, (size_spec 20 (by omega) r m hm0 [.cells [aI m]] (by simp [AObj.upto, uptoL, AVal.upto]) 0 rfl), later_intro ?_⟩)
        have hq := sizeL_le 20 r m hm0
        obtain ⟨⟨b, m2⟩, hb⟩ : ∃ q, q = sizeL 20 r m := ⟨_, rfl⟩
        simp only [← hb] at hq ⊢
        have hgo : smallRows rows 0 = if b then smallRows (rows.drop (k + 1)) m2 else false := by
          rw [he, hdrop, smallRows, if_neg hle, ← hb]
          cases b <;> rfl
        simp -dsimp only [↓vpre, vpos, Int.reduceNeg, Int.reduceLE, Int.reduceLT, reduceIte, Nat.reduceEqDiff, Nat.reduceLT, Nat.reduceLeDiff, Nat.reduceAdd, Nat.reduceMul, Nat.reduceSub, Nat.reducePow, ne_eq, Int.reduceAdd, Int.reduceSub, Int.reduceMul, Int.reduceToNat, implies_true, vtab, h]
        refine at_intro ?_
        simp -dsimp only [vend, ne_eq, Nat.reduceEqDiff, reduceCtorEq]
        first | refine awp_seq (awp_cond rfl (fun h => ?_) (fun h => ?_)) | refine awp_cond rfl (fun h => ?_) (fun h => ?_) | refine awp_seq (awp_seq (awp_cond rfl (fun h => ?_) (fun h => ?_)))
        · have hbf : b = false := by simpa using h
          subst hbf
          first | refine awp_seq (awp_region hT hm ?_) | refine awp_region hT hm ?_ | refine awp_seq (awp_seq (awp_region hT hm ?_)) | refine awp_seq (awp_seq (awp_seq (awp_region hT hm ?_)))
          simp -dsimp only [↓vpre, vpos, Int.reduceNeg, Int.reduceLE, Int.reduceLT, reduceIte, Nat.reduceEqDiff, Nat.reduceLT, Nat.reduceLeDiff, Nat.reduceAdd, Nat.reduceMul, Nat.reduceSub, Nat.reducePow, ne_eq, Int.reduceAdd, Int.reduceSub, Int.reduceMul, Int.reduceToNat, implies_true, vtab]
          refine at_intro ?_
          simp -dsimp only [vend, ne_eq, Nat.reduceEqDiff, reduceCtorEq]
          refine awp_ret ?_
          simp -dsimp only [↓vpre, vpos, Int.reduceNeg, Int.reduceLE, Int.reduceLT, reduceIte, Nat.reduceEqDiff, Nat.reduceLT, Nat.reduceLeDiff, Nat.reduceAdd, Nat.reduceMul, Nat.reduceSub, Nat.reducePow, ne_eq, Int.reduceAdd, Int.reduceSub, Int.reduceMul, Int.reduceToNat, implies_true, vtab, RetTo, Try.results38, retVals, retVal, mkRet, AVal.upto, Nat.zero_le, Nat.le_refl, seqPost_ret, blockPost_ret, loopPost_ret]
          simp [small, hgo]
        · have hbt : b = true := by simpa using h
          subst hbt
          refine awp_skip ?_
          simp -dsimp only [vend, ne_eq, Nat.reduceEqDiff, reduceCtorEq]
          first | refine awp_seq (awp_region hT hm ?_) | refine awp_region hT hm ?_ | refine awp_seq (awp_seq (awp_region hT hm ?_)) | refine awp_seq (awp_seq (awp_seq (awp_region hT hm ?_)))
          simp -dsimp only [↓vpre, vpos, Int.reduceNeg, Int.reduceLE, Int.reduceLT, reduceIte, Nat.reduceEqDiff, Nat.reduceLT, Nat.reduceLeDiff, Nat.reduceAdd, Nat.reduceMul, Nat.reduceSub, Nat.reducePow, ne_eq, Int.reduceAdd, Int.reduceSub, Int.reduceMul, Int.reduceToNat, implies_true, vtab]
          refine ⟨by omega, by omega, ?_⟩
          refine at_intro ?_
          simp -dsimp only [vend, ne_eq, Nat.reduceEqDiff, reduceCtorEq]
          refine ⟨⟨(k + 1, m2), by omega, hq rfl, by rw [hgo]; rfl⟩, by simp; omega, ?_⟩
          refine ⟨rfl, ?_, ?_⟩
          rotate_left
          simp -dsimp only [↓vpre, vpos, Int.reduceNeg, Int.reduceLE, Int.reduceLT, reduceIte, Nat.reduceEqDiff, Nat.reduceLT, Nat.reduceLeDiff, Nat.reduceAdd, Nat.reduceMul, Nat.reduceSub, Nat.reducePow, ne_eq, Int.reduceAdd, Int.reduceSub, Int.reduceMul, Int.reduceToNat, implies_true, vtab, Says, exists_eq_left', Option.some.injEq, sub_self, and_assoc, true_and, and_true]
          · exact Sub.int (by simp)
          · rfl
      · have hgt : 16 < r.length := by
          simp at h
          omega
        simp -dsimp only [↓vpre, vpos, Int.reduceNeg, Int.reduceLE, Int.reduceLT, reduceIte, Nat.reduceEqDiff, Nat.reduceLT, Nat.reduceLeDiff, Nat.reduceAdd, Nat.reduceMul, Nat.reduceSub, Nat.reducePow, ne_eq, Int.reduceAdd, Int.reduceSub, Int.reduceMul, Int.reduceToNat, implies_true, vtab, h]
        refine at_intro ?_
        simp -dsimp only [vend, ne_eq, Nat.reduceEqDiff, reduceCtorEq]
        first | refine awp_seq (awp_cond rfl (fun h => ?_) (fun h => ?_)) | refine awp_cond rfl (fun h => ?_) (fun h => ?_) | refine awp_seq (awp_seq (awp_cond rfl (fun h => ?_) (fun h => ?_)))
        · first | refine awp_seq (awp_region hT hm ?_) | refine awp_region hT hm ?_ | refine awp_seq (awp_seq (awp_region hT hm ?_)) | refine awp_seq (awp_seq (awp_seq (awp_region hT hm ?_)))
          simp -dsimp only [↓vpre, vpos, Int.reduceNeg, Int.reduceLE, Int.reduceLT, reduceIte, Nat.reduceEqDiff, Nat.reduceLT, Nat.reduceLeDiff, Nat.reduceAdd, Nat.reduceMul, Nat.reduceSub, Nat.reducePow, ne_eq, Int.reduceAdd, Int.reduceSub, Int.reduceMul, Int.reduceToNat, implies_true, vtab]
          refine at_intro ?_
          simp -dsimp only [vend, ne_eq, Nat.reduceEqDiff, reduceCtorEq]
          refine awp_ret ?_
          simp -dsimp only [↓vpre, vpos, Int.reduceNeg, Int.reduceLE, Int.reduceLT, reduceIte, Nat.reduceEqDiff, Nat.reduceLT, Nat.reduceLeDiff, Nat.reduceAdd, Nat.reduceMul, Nat.reduceSub, Nat.reducePow, ne_eq, Int.reduceAdd, Int.reduceSub, Int.reduceMul, Int.reduceToNat, implies_true, vtab, RetTo, Try.results38, retVals, retVal, mkRet, AVal.upto, Nat.zero_le, Nat.le_refl, seqPost_ret, blockPost_ret, loopPost_ret]
          simp [small, he, hdrop, smallRows, hgt]
        · cases h
    · refine awp_exit ?_
      simp -dsimp only [vend, ne_eq, Nat.reduceEqDiff, reduceCtorEq]
      have hlt : k = rows.length := by simp at h; omega
      subst hlt
      have hgo : smallRows rows 0 = true := by rw [he, List.drop_length]; rfl
      first | refine awp_seq (awp_region hT hm ?_) | refine awp_region hT hm ?_ | refine awp_seq (awp_seq (awp_region hT hm ?_)) | refine awp_seq (awp_seq (awp_seq (awp_region hT hm ?_)))
      simp -dsimp only [↓vpre, vpos, Int.reduceNeg, Int.reduceLE, Int.reduceLT, reduceIte, Nat.reduceEqDiff, Nat.reduceLT, Nat.reduceLeDiff, Nat.reduceAdd, Nat.reduceMul, Nat.reduceSub, Nat.reducePow, ne_eq, Int.reduceAdd, Int.reduceSub, Int.reduceMul, Int.reduceToNat, implies_true, vtab]
      refine vcIf_split (fun h => ?_) (fun h => ?_)
      · have hl64 : rows.length ≤ 64 := by
          simp at h
          omega
        simp -dsimp only [↓vpre, vpos, Int.reduceNeg, Int.reduceLE, Int.reduceLT, reduceIte, Nat.reduceEqDiff, Nat.reduceLT, Nat.reduceLeDiff, Nat.reduceAdd, Nat.reduceMul, Nat.reduceSub, Nat.reducePow, ne_eq, Int.reduceAdd, Int.reduceSub, Int.reduceMul, Int.reduceToNat, implies_true, vtab, h]
        refine .inr (.inr ⟨_, (containsFuncD_spec (fun d => decide ((256 : Int) < d.cons.length)) 72 [] [] [.cells [aI m]] (by simp [AObj.upto, uptoL, AVal.upto]) datas (fun d _ => (small1_spec d).use (by simp [uptoL, Data.enc_upto]) _)), later_intro ?_⟩)
        simp -dsimp only [↓vpre, vpos, Int.reduceNeg, Int.reduceLE, Int.reduceLT, reduceIte, Nat.reduceEqDiff, Nat.reduceLT, Nat.reduceLeDiff, Nat.reduceAdd, Nat.reduceMul, Nat.reduceSub, Nat.reducePow, ne_eq, Int.reduceAdd, Int.reduceSub, Int.reduceMul, Int.reduceToNat, implies_true, vtab, h]
        refine at_intro ?_
        simp -dsimp only [vend, ne_eq, Nat.reduceEqDiff, reduceCtorEq]
        refine awp_ret ?_
        simp -dsimp only [↓vpre, vpos, Int.reduceNeg, Int.reduceLE, Int.reduceLT, reduceIte, Nat.reduceEqDiff, Nat.reduceLT, Nat.reduceLeDiff, Nat.reduceAdd, Nat.reduceMul, Nat.reduceSub, Nat.reducePow, ne_eq, Int.reduceAdd, Int.reduceSub, Int.reduceMul, Int.reduceToNat, implies_true, vtab, RetTo, Try.results38, retVals, retVal, mkRet, AVal.upto, Nat.zero_le, Nat.le_refl, seqPost_ret, blockPost_ret, loopPost_ret]
        simp [small, hgo, hl64]
      · have hl64 : ¬ rows.length ≤ 64 := by
          simp at h
          omega
        simp -dsimp only [↓vpre, vpos, Int.reduceNeg, Int.reduceLE, Int.reduceLT, reduceIte, Nat.reduceEqDiff, Nat.reduceLT, Nat.reduceLeDiff, Nat.reduceAdd, Nat.reduceMul, Nat.reduceSub, Nat.reducePow, ne_eq, Int.reduceAdd, Int.reduceSub, Int.reduceMul, Int.reduceToNat, implies_true, vtab, h]
        refine at_intro ?_
        simp -dsimp only [vend, ne_eq, Nat.reduceEqDiff, reduceCtorEq]
        refine awp_ret ?_
        simp -dsimp only [↓vpre, vpos, Int.reduceNeg, Int.reduceLE, Int.reduceLT, reduceIte, Nat.reduceEqDiff, Nat.reduceLT, Nat.reduceLeDiff, Nat.reduceAdd, Nat.reduceMul, Nat.reduceSub, Nat.reducePow, ne_eq, Int.reduceAdd, Int.reduceSub, Int.reduceMul, Int.reduceToNat, implies_true, vtab, RetTo, Try.results38, retVals, retVal, mkRet, AVal.upto, Nat.zero_le, Nat.le_refl, seqPost_ret, blockPost_ret, loopPost_ret]
        simp [small, hl64]

end Go.Proofs.Ytakdmelemfnmdaa
end

section
set_option linter.unusedSimpArgs false
set_option maxHeartbeats 1000000
-- !tab vtab
-- !upto Pat.enc_upto Pat.map_upto any_upto Con.enc_upto Con.map_upto Data.enc_upto Data.map_upto Tbl.enc_upto entry_upto
namespace Go.Proofs.Ytakdmelemfnmdaa
open Go.Av

/-- The constructor of a name. -/
def Tbl.con (t : Tbl) (s : ByteArray) : K := (find t.cons s).getD K.zero

theorem zero_K (l : List (ByteArray × K)) (s : ByteArray) : ((find l s).map K.enc).getD (.agg [.v (.int .i64 0), .v (.int .i64 0), .v (.int .i64 0)]) = .agg [.v (.int .i64 ((find l s).getD K.zero).data), .v (.int .i64 ((find l s).getD K.zero).pos), .v (.int .i64 ((find l s).getD K.zero).many)] := look_zero l s _ rfl

def Tbl.kind (t : Tbl) (p : Pat) : Int := if p.kind = 2 then -1 else if p.kind = 3 then (t.con p.name).data else -2

theorem kind_spec (t : Tbl) (p : Pat) : PCall Try.prog 74 [t.enc, p.enc] (.v (.int .i64 (t.kind p))) := by
  refine ecall_of hT true 0 Try.func74 rfl (by kernel_rfl) (by simp [Try.ntmps74]) (by simp) ?_
  show AWP Try.prog _ _ _ ⟨17, _, _⟩
  dsimp only [Tmp, TypeId, slotsOf]
  first | refine awp_seq (awp_region hT hm ?_) | refine awp_region hT hm ?_ | refine awp_seq (awp_seq (awp_region hT hm ?_)) | refine awp_seq (awp_seq (awp_seq (awp_region hT hm ?_)))
  simp -dsimp only [↓vpre, vpos, Int.reduceNeg, Int.reduceLE, Int.reduceLT, reduceIte, Nat.reduceEqDiff, Nat.reduceLT, Nat.reduceLeDiff, Nat.reduceAdd, Nat.reduceMul, Nat.reduceSub, Nat.reducePow, ne_eq, Int.reduceAdd, Int.reduceSub, Int.reduceMul, Int.reduceToNat, implies_true, vtab]
  refine at_intro ?_
  simp -dsimp only [vend, ne_eq, Nat.reduceEqDiff, reduceCtorEq]
  first | refine awp_seq (awp_region hT hm ?_) | refine awp_region hT hm ?_ | refine awp_seq (awp_seq (awp_region hT hm ?_)) | refine awp_seq (awp_seq (awp_seq (awp_region hT hm ?_)))
  simp -dsimp only [↓vpre, vpos, Int.reduceNeg, Int.reduceLE, Int.reduceLT, reduceIte, Nat.reduceEqDiff, Nat.reduceLT, Nat.reduceLeDiff, Nat.reduceAdd, Nat.reduceMul, Nat.reduceSub, Nat.reducePow, ne_eq, Int.reduceAdd, Int.reduceSub, Int.reduceMul, Int.reduceToNat, implies_true, vtab]
  refine at_intro ?_
  simp -dsimp only [vend, ne_eq, Nat.reduceEqDiff, reduceCtorEq]
  first | refine awp_seq (awp_block ?_) | refine awp_block ?_
  first | refine awp_seq (awp_region hT hm ?_) | refine awp_region hT hm ?_ | refine awp_seq (awp_seq (awp_region hT hm ?_)) | refine awp_seq (awp_seq (awp_seq (awp_region hT hm ?_)))
  simp -dsimp only [↓vpre, vpos, Int.reduceNeg, Int.reduceLE, Int.reduceLT, reduceIte, Nat.reduceEqDiff, Nat.reduceLT, Nat.reduceLeDiff, Nat.reduceAdd, Nat.reduceMul, Nat.reduceSub, Nat.reducePow, ne_eq, Int.reduceAdd, Int.reduceSub, Int.reduceMul, Int.reduceToNat, implies_true, vtab]
  refine at_intro ?_
  simp -dsimp only [vend, ne_eq, Nat.reduceEqDiff, reduceCtorEq]
  first | refine awp_seq (awp_cond rfl (fun h => ?_) (fun h => ?_)) | refine awp_cond rfl (fun h => ?_) (fun h => ?_) | refine awp_seq (awp_seq (awp_cond rfl (fun h => ?_) (fun h => ?_)))
  · have hk : p.kind = 2 := by simpa using h
    first | refine awp_seq (awp_region hT hm ?_) | refine awp_region hT hm ?_ | refine awp_seq (awp_seq (awp_region hT hm ?_)) | refine awp_seq (awp_seq (awp_seq (awp_region hT hm ?_)))
    simp -dsimp only [↓vpre, vpos, Int.reduceNeg, Int.reduceLE, Int.reduceLT, reduceIte, Nat.reduceEqDiff, Nat.reduceLT, Nat.reduceLeDiff, Nat.reduceAdd, Nat.reduceMul, Nat.reduceSub, Nat.reducePow, ne_eq, Int.reduceAdd, Int.reduceSub, Int.reduceMul, Int.reduceToNat, implies_true, vtab]
    refine at_intro ?_
    simp -dsimp only [vend, ne_eq, Nat.reduceEqDiff, reduceCtorEq]
    refine awp_ret ?_
    simp -dsimp only [↓vpre, vpos, Int.reduceNeg, Int.reduceLE, Int.reduceLT, reduceIte, Nat.reduceEqDiff, Nat.reduceLT, Nat.reduceLeDiff, Nat.reduceAdd, Nat.reduceMul, Nat.reduceSub, Nat.reducePow, ne_eq, Int.reduceAdd, Int.reduceSub, Int.reduceMul, Int.reduceToNat, implies_true, vtab, RetTo, Try.results74, retVals, retVal, mkRet, AVal.upto, Nat.zero_le, Nat.le_refl, seqPost_ret, blockPost_ret, loopPost_ret]
    simp [Tbl.kind, hk]
  · have hk2 : ¬ p.kind = 2 := by simpa using h
    first | refine awp_seq (awp_region hT hm ?_) | refine awp_region hT hm ?_ | refine awp_seq (awp_seq (awp_region hT hm ?_)) | refine awp_seq (awp_seq (awp_seq (awp_region hT hm ?_)))
    simp -dsimp only [↓vpre, vpos, Int.reduceNeg, Int.reduceLE, Int.reduceLT, reduceIte, Nat.reduceEqDiff, Nat.reduceLT, Nat.reduceLeDiff, Nat.reduceAdd, Nat.reduceMul, Nat.reduceSub, Nat.reducePow, ne_eq, Int.reduceAdd, Int.reduceSub, Int.reduceMul, Int.reduceToNat, implies_true, vtab]
    refine at_intro ?_
    simp -dsimp only [vend, ne_eq, Nat.reduceEqDiff, reduceCtorEq]
    first | refine awp_seq (awp_cond rfl (fun h => ?_) (fun h => ?_)) | refine awp_cond rfl (fun h => ?_) (fun h => ?_) | refine awp_seq (awp_seq (awp_cond rfl (fun h => ?_) (fun h => ?_)))
    · have hk : p.kind = 3 := by simpa using h
      first | refine awp_seq (awp_region hT hm ?_) | refine awp_region hT hm ?_ | refine awp_seq (awp_seq (awp_region hT hm ?_)) | refine awp_seq (awp_seq (awp_seq (awp_region hT hm ?_)))
      simp -dsimp only [↓vpre, vpos, Int.reduceNeg, Int.reduceLE, Int.reduceLT, reduceIte, Nat.reduceEqDiff, Nat.reduceLT, Nat.reduceLeDiff, Nat.reduceAdd, Nat.reduceMul, Nat.reduceSub, Nat.reducePow, ne_eq, Int.reduceAdd, Int.reduceSub, Int.reduceMul, Int.reduceToNat, implies_true, vtab, zero_K]
      refine at_intro ?_
      simp -dsimp only [vend, ne_eq, Nat.reduceEqDiff, reduceCtorEq]
      refine awp_ret ?_
      simp -dsimp only [↓vpre, vpos, Int.reduceNeg, Int.reduceLE, Int.reduceLT, reduceIte, Nat.reduceEqDiff, Nat.reduceLT, Nat.reduceLeDiff, Nat.reduceAdd, Nat.reduceMul, Nat.reduceSub, Nat.reducePow, ne_eq, Int.reduceAdd, Int.reduceSub, Int.reduceMul, Int.reduceToNat, implies_true, vtab, RetTo, Try.results74, retVals, retVal, mkRet, AVal.upto, Nat.zero_le, Nat.le_refl, seqPost_ret, blockPost_ret, loopPost_ret]
      simp [Tbl.kind, hk, Tbl.con]
    · have hk : ¬ p.kind = 3 := by simpa using h
      refine awp_skip ?_
      simp -dsimp only [vend, ne_eq, Nat.reduceEqDiff, reduceCtorEq]
      first | refine awp_seq (awp_region hT hm ?_) | refine awp_region hT hm ?_ | refine awp_seq (awp_seq (awp_region hT hm ?_)) | refine awp_seq (awp_seq (awp_seq (awp_region hT hm ?_)))
      simp -dsimp only [↓vpre, vpos, Int.reduceNeg, Int.reduceLE, Int.reduceLT, reduceIte, Nat.reduceEqDiff, Nat.reduceLT, Nat.reduceLeDiff, Nat.reduceAdd, Nat.reduceMul, Nat.reduceSub, Nat.reducePow, ne_eq, Int.reduceAdd, Int.reduceSub, Int.reduceMul, Int.reduceToNat, implies_true, vtab]
      refine at_intro ?_
      simp -dsimp only [vend, ne_eq, Nat.reduceEqDiff, reduceCtorEq]
      refine awp_ret ?_
      simp -dsimp only [↓vpre, vpos, Int.reduceNeg, Int.reduceLE, Int.reduceLT, reduceIte, Nat.reduceEqDiff, Nat.reduceLT, Nat.reduceLeDiff, Nat.reduceAdd, Nat.reduceMul, Nat.reduceSub, Nat.reducePow, ne_eq, Int.reduceAdd, Int.reduceSub, Int.reduceMul, Int.reduceToNat, implies_true, vtab, RetTo, Try.results74, retVals, retVal, mkRet, AVal.upto, Nat.zero_le, Nat.le_refl, seqPost_ret, blockPost_ret, loopPost_ret]
      simp [Tbl.kind, hk, hk2]

mutual
def Tbl.pattern (t : Tbl) : Pat → Int
  | .mk k s n l => if k = 0 then 0 else if k = 1 then 0 else if k = 2 then (if n < -1073741824 then 4 else if 1073741823 < n then 4 else 0) else if k = 3 then (match find t.cons s with
    | none => 6
    | some c => if l.length = c.many then t.patternL l else 3) else 3
def Tbl.patternL (t : Tbl) : List Pat → Int
  | [] => 0
  | p :: r => if t.pattern p = 0 then t.patternL r else t.pattern p
end

theorem Tbl.pattern_eq (t : Tbl) (p : Pat) : t.pattern p = if p.kind = 0 then 0 else if p.kind = 1 then 0 else if p.kind = 2 then (if p.n < -1073741824 then 4 else if 1073741823 < p.n then 4 else 0) else if p.kind = 3 then (match find t.cons p.name with
    | none => 6
    | some c => if p.args.length = c.many then t.patternL p.args else 3) else 3 := by
  cases p
  rw [Tbl.pattern]
  rfl

theorem pattern_spec (t : Tbl) (p : Pat) : PCall Try.prog 40 [t.enc, p.enc] (.v (.int .i64 (t.pattern p))) := by
    have ih : ∀ q ∈ p.args, PCall Try.prog 40 [t.enc, q.enc] (.v (.int .i64 (t.pattern q))) := fun q hq => pattern_spec t q
    have he := t.pattern_eq p
    obtain ⟨z, hz⟩ : ∃ z, z = t.pattern p := ⟨_, rfl⟩
    rw [← hz] at he ⊢
    refine ecall_of hT true 0 Try.func40 rfl (by kernel_rfl) (by simp [Try.ntmps40]) (by simp) ?_
    show AWP Try.prog _ _ _ ⟨59, _, _⟩
    dsimp only [Tmp, TypeId, slotsOf]
    first | refine awp_seq (awp_region hT hm ?_) | refine awp_region hT hm ?_ | refine awp_seq (awp_seq (awp_region hT hm ?_)) | refine awp_seq (awp_seq (awp_seq (awp_region hT hm ?_)))
    simp -dsimp only [↓vpre, vpos, Int.reduceNeg, Int.reduceLE, Int.reduceLT, reduceIte, Nat.reduceEqDiff, Nat.reduceLT, Nat.reduceLeDiff, Nat.reduceAdd, Nat.reduceMul, Nat.reduceSub, Nat.reducePow, ne_eq, Int.reduceAdd, Int.reduceSub, Int.reduceMul, Int.reduceToNat, implies_true, vtab]
    refine at_intro ?_
    simp -dsimp only [vend, ne_eq, Nat.reduceEqDiff, reduceCtorEq]
    first | refine awp_seq (awp_region hT hm ?_) | refine awp_region hT hm ?_ | refine awp_seq (awp_seq (awp_region hT hm ?_)) | refine awp_seq (awp_seq (awp_seq (awp_region hT hm ?_)))
    simp -dsimp only [↓vpre, vpos, Int.reduceNeg, Int.reduceLE, Int.reduceLT, reduceIte, Nat.reduceEqDiff, Nat.reduceLT, Nat.reduceLeDiff, Nat.reduceAdd, Nat.reduceMul, Nat.reduceSub, Nat.reducePow, ne_eq, Int.reduceAdd, Int.reduceSub, Int.reduceMul, Int.reduceToNat, implies_true, vtab]
    refine at_intro ?_
    simp -dsimp only [vend, ne_eq, Nat.reduceEqDiff, reduceCtorEq]
    first | refine awp_seq (awp_block ?_) | refine awp_block ?_
    first | refine awp_seq (awp_region hT hm ?_) | refine awp_region hT hm ?_ | refine awp_seq (awp_seq (awp_region hT hm ?_)) | refine awp_seq (awp_seq (awp_seq (awp_region hT hm ?_)))
    simp -dsimp only [↓vpre, vpos, Int.reduceNeg, Int.reduceLE, Int.reduceLT, reduceIte, Nat.reduceEqDiff, Nat.reduceLT, Nat.reduceLeDiff, Nat.reduceAdd, Nat.reduceMul, Nat.reduceSub, Nat.reducePow, ne_eq, Int.reduceAdd, Int.reduceSub, Int.reduceMul, Int.reduceToNat, implies_true, vtab]
    refine at_intro ?_
    simp -dsimp only [vend, ne_eq, Nat.reduceEqDiff, reduceCtorEq]
    first | refine awp_seq (awp_cond rfl (fun h => ?_) (fun h => ?_)) | refine awp_cond rfl (fun h => ?_) (fun h => ?_) | refine awp_seq (awp_seq (awp_cond rfl (fun h => ?_) (fun h => ?_)))
    · have h0 : p.kind = 0 := by simpa using h
      rw [if_pos h0] at he
      refine awp_skip ?_
      simp -dsimp only [vend, ne_eq, Nat.reduceEqDiff, reduceCtorEq]
      first | refine awp_seq (awp_cond rfl (fun h => ?_) (fun h => ?_)) | refine awp_cond rfl (fun h => ?_) (fun h => ?_) | refine awp_seq (awp_seq (awp_cond rfl (fun h => ?_) (fun h => ?_)))
      · first | refine awp_seq (awp_region hT hm ?_) | refine awp_region hT hm ?_ | refine awp_seq (awp_seq (awp_region hT hm ?_)) | refine awp_seq (awp_seq (awp_seq (awp_region hT hm ?_)))
        simp -dsimp only [↓vpre, vpos, Int.reduceNeg, Int.reduceLE, Int.reduceLT, reduceIte, Nat.reduceEqDiff, Nat.reduceLT, Nat.reduceLeDiff, Nat.reduceAdd, Nat.reduceMul, Nat.reduceSub, Nat.reducePow, ne_eq, Int.reduceAdd, Int.reduceSub, Int.reduceMul, Int.reduceToNat, implies_true, vtab]
        refine at_intro ?_
        simp -dsimp only [vend, ne_eq, Nat.reduceEqDiff, reduceCtorEq]
        refine awp_ret ?_
        simp -dsimp only [↓vpre, vpos, Int.reduceNeg, Int.reduceLE, Int.reduceLT, reduceIte, Nat.reduceEqDiff, Nat.reduceLT, Nat.reduceLeDiff, Nat.reduceAdd, Nat.reduceMul, Nat.reduceSub, Nat.reducePow, ne_eq, Int.reduceAdd, Int.reduceSub, Int.reduceMul, Int.reduceToNat, implies_true, vtab, RetTo, Try.results40, retVals, retVal, mkRet, AVal.upto, Nat.zero_le, Nat.le_refl, seqPost_ret, blockPost_ret, loopPost_ret]
        rw [he]
      · simp [h0] at h
    · have h0 : ¬ p.kind = 0 := by simpa using h
      rw [if_neg h0] at he
      first | refine awp_seq (awp_region hT hm ?_) | refine awp_region hT hm ?_ | refine awp_seq (awp_seq (awp_region hT hm ?_)) | refine awp_seq (awp_seq (awp_seq (awp_region hT hm ?_)))
      simp -dsimp only [↓vpre, vpos, Int.reduceNeg, Int.reduceLE, Int.reduceLT, reduceIte, Nat.reduceEqDiff, Nat.reduceLT, Nat.reduceLeDiff, Nat.reduceAdd, Nat.reduceMul, Nat.reduceSub, Nat.reducePow, ne_eq, Int.reduceAdd, Int.reduceSub, Int.reduceMul, Int.reduceToNat, implies_true, vtab]
      refine at_intro ?_
      simp -dsimp only [vend, ne_eq, Nat.reduceEqDiff, reduceCtorEq]
      first | refine awp_seq (awp_cond rfl (fun h => ?_) (fun h => ?_)) | refine awp_cond rfl (fun h => ?_) (fun h => ?_) | refine awp_seq (awp_seq (awp_cond rfl (fun h => ?_) (fun h => ?_)))
      · have h1 : p.kind = 1 := by simpa using h
        rw [if_pos h1] at he
        first | refine awp_seq (awp_region hT hm ?_) | refine awp_region hT hm ?_ | refine awp_seq (awp_seq (awp_region hT hm ?_)) | refine awp_seq (awp_seq (awp_seq (awp_region hT hm ?_)))
        simp -dsimp only [↓vpre, vpos, Int.reduceNeg, Int.reduceLE, Int.reduceLT, reduceIte, Nat.reduceEqDiff, Nat.reduceLT, Nat.reduceLeDiff, Nat.reduceAdd, Nat.reduceMul, Nat.reduceSub, Nat.reducePow, ne_eq, Int.reduceAdd, Int.reduceSub, Int.reduceMul, Int.reduceToNat, implies_true, vtab]
        refine at_intro ?_
        simp -dsimp only [vend, ne_eq, Nat.reduceEqDiff, reduceCtorEq]
        refine awp_ret ?_
        simp -dsimp only [↓vpre, vpos, Int.reduceNeg, Int.reduceLE, Int.reduceLT, reduceIte, Nat.reduceEqDiff, Nat.reduceLT, Nat.reduceLeDiff, Nat.reduceAdd, Nat.reduceMul, Nat.reduceSub, Nat.reducePow, ne_eq, Int.reduceAdd, Int.reduceSub, Int.reduceMul, Int.reduceToNat, implies_true, vtab, RetTo, Try.results40, retVals, retVal, mkRet, AVal.upto, Nat.zero_le, Nat.le_refl, seqPost_ret, blockPost_ret, loopPost_ret]
        rw [he]
      · have h1 : ¬ p.kind = 1 := by simpa using h
        rw [if_neg h1] at he
        first | refine awp_seq (awp_region hT hm ?_) | refine awp_region hT hm ?_ | refine awp_seq (awp_seq (awp_region hT hm ?_)) | refine awp_seq (awp_seq (awp_seq (awp_region hT hm ?_)))
        simp -dsimp only [↓vpre, vpos, Int.reduceNeg, Int.reduceLE, Int.reduceLT, reduceIte, Nat.reduceEqDiff, Nat.reduceLT, Nat.reduceLeDiff, Nat.reduceAdd, Nat.reduceMul, Nat.reduceSub, Nat.reducePow, ne_eq, Int.reduceAdd, Int.reduceSub, Int.reduceMul, Int.reduceToNat, implies_true, vtab]
        refine at_intro ?_
        simp -dsimp only [vend, ne_eq, Nat.reduceEqDiff, reduceCtorEq]
        first | refine awp_seq (awp_cond rfl (fun h => ?_) (fun h => ?_)) | refine awp_cond rfl (fun h => ?_) (fun h => ?_) | refine awp_seq (awp_seq (awp_cond rfl (fun h => ?_) (fun h => ?_)))
        · have h2 : p.kind = 2 := by simpa using h
          rw [if_pos h2] at he
          first | refine awp_seq (awp_region hT hm ?_) | refine awp_region hT hm ?_ | refine awp_seq (awp_seq (awp_region hT hm ?_)) | refine awp_seq (awp_seq (awp_seq (awp_region hT hm ?_)))
          simp -dsimp only [↓vpre, vpos, Int.reduceNeg, Int.reduceLE, Int.reduceLT, reduceIte, Nat.reduceEqDiff, Nat.reduceLT, Nat.reduceLeDiff, Nat.reduceAdd, Nat.reduceMul, Nat.reduceSub, Nat.reducePow, ne_eq, Int.reduceAdd, Int.reduceSub, Int.reduceMul, Int.reduceToNat, implies_true, vtab]
          refine vcIf_split (fun h => ?_) (fun h => ?_)
          · have h3 : ¬ p.n < -1073741824 := by simpa using h
            rw [if_neg h3] at he
            simp -dsimp only [↓vpre, vpos, Int.reduceNeg, Int.reduceLE, Int.reduceLT, reduceIte, Nat.reduceEqDiff, Nat.reduceLT, Nat.reduceLeDiff, Nat.reduceAdd, Nat.reduceMul, Nat.reduceSub, Nat.reducePow, ne_eq, Int.reduceAdd, Int.reduceSub, Int.reduceMul, Int.reduceToNat, implies_true, vtab, h]
            refine at_intro ?_
            simp -dsimp only [vend, ne_eq, Nat.reduceEqDiff, reduceCtorEq]
            first | refine awp_seq (awp_cond rfl (fun h => ?_) (fun h => ?_)) | refine awp_cond rfl (fun h => ?_) (fun h => ?_) | refine awp_seq (awp_seq (awp_cond rfl (fun h => ?_) (fun h => ?_)))
            · have h4 : 1073741823 < p.n := by simpa using h
              rw [if_pos h4] at he
              first | refine awp_seq (awp_region hT hm ?_) | refine awp_region hT hm ?_ | refine awp_seq (awp_seq (awp_region hT hm ?_)) | refine awp_seq (awp_seq (awp_seq (awp_region hT hm ?_)))
              simp -dsimp only [↓vpre, vpos, Int.reduceNeg, Int.reduceLE, Int.reduceLT, reduceIte, Nat.reduceEqDiff, Nat.reduceLT, Nat.reduceLeDiff, Nat.reduceAdd, Nat.reduceMul, Nat.reduceSub, Nat.reducePow, ne_eq, Int.reduceAdd, Int.reduceSub, Int.reduceMul, Int.reduceToNat, implies_true, vtab]
              refine at_intro ?_
              simp -dsimp only [vend, ne_eq, Nat.reduceEqDiff, reduceCtorEq]
              refine awp_ret ?_
              simp -dsimp only [↓vpre, vpos, Int.reduceNeg, Int.reduceLE, Int.reduceLT, reduceIte, Nat.reduceEqDiff, Nat.reduceLT, Nat.reduceLeDiff, Nat.reduceAdd, Nat.reduceMul, Nat.reduceSub, Nat.reducePow, ne_eq, Int.reduceAdd, Int.reduceSub, Int.reduceMul, Int.reduceToNat, implies_true, vtab, RetTo, Try.results40, retVals, retVal, mkRet, AVal.upto, Nat.zero_le, Nat.le_refl, seqPost_ret, blockPost_ret, loopPost_ret]
              rw [he]
            · have h4 : ¬ 1073741823 < p.n := by simpa using h
              rw [if_neg h4] at he
              refine awp_skip ?_
              simp -dsimp only [vend, ne_eq, Nat.reduceEqDiff, reduceCtorEq]
              first | refine awp_seq (awp_region hT hm ?_) | refine awp_region hT hm ?_ | refine awp_seq (awp_seq (awp_region hT hm ?_)) | refine awp_seq (awp_seq (awp_seq (awp_region hT hm ?_)))
              simp -dsimp only [↓vpre, vpos, Int.reduceNeg, Int.reduceLE, Int.reduceLT, reduceIte, Nat.reduceEqDiff, Nat.reduceLT, Nat.reduceLeDiff, Nat.reduceAdd, Nat.reduceMul, Nat.reduceSub, Nat.reducePow, ne_eq, Int.reduceAdd, Int.reduceSub, Int.reduceMul, Int.reduceToNat, implies_true, vtab]
              refine at_intro ?_
              simp -dsimp only [vend, ne_eq, Nat.reduceEqDiff, reduceCtorEq]
              refine awp_ret ?_
              simp -dsimp only [↓vpre, vpos, Int.reduceNeg, Int.reduceLE, Int.reduceLT, reduceIte, Nat.reduceEqDiff, Nat.reduceLT, Nat.reduceLeDiff, Nat.reduceAdd, Nat.reduceMul, Nat.reduceSub, Nat.reducePow, ne_eq, Int.reduceAdd, Int.reduceSub, Int.reduceMul, Int.reduceToNat, implies_true, vtab, RetTo, Try.results40, retVals, retVal, mkRet, AVal.upto, Nat.zero_le, Nat.le_refl, seqPost_ret, blockPost_ret, loopPost_ret]
              rw [he]
          · have h3 : p.n < -1073741824 := by simpa using h
            rw [if_pos h3] at he
            simp -dsimp only [↓vpre, vpos, Int.reduceNeg, Int.reduceLE, Int.reduceLT, reduceIte, Nat.reduceEqDiff, Nat.reduceLT, Nat.reduceLeDiff, Nat.reduceAdd, Nat.reduceMul, Nat.reduceSub, Nat.reducePow, ne_eq, Int.reduceAdd, Int.reduceSub, Int.reduceMul, Int.reduceToNat, implies_true, vtab, h]
            refine at_intro ?_
            simp -dsimp only [vend, ne_eq, Nat.reduceEqDiff, reduceCtorEq]
            first | refine awp_seq (awp_cond rfl (fun h => ?_) (fun h => ?_)) | refine awp_cond rfl (fun h => ?_) (fun h => ?_) | refine awp_seq (awp_seq (awp_cond rfl (fun h => ?_) (fun h => ?_)))
            · first | refine awp_seq (awp_region hT hm ?_) | refine awp_region hT hm ?_ | refine awp_seq (awp_seq (awp_region hT hm ?_)) | refine awp_seq (awp_seq (awp_seq (awp_region hT hm ?_)))
              simp -dsimp only [↓vpre, vpos, Int.reduceNeg, Int.reduceLE, Int.reduceLT, reduceIte, Nat.reduceEqDiff, Nat.reduceLT, Nat.reduceLeDiff, Nat.reduceAdd, Nat.reduceMul, Nat.reduceSub, Nat.reducePow, ne_eq, Int.reduceAdd, Int.reduceSub, Int.reduceMul, Int.reduceToNat, implies_true, vtab]
              refine at_intro ?_
              simp -dsimp only [vend, ne_eq, Nat.reduceEqDiff, reduceCtorEq]
              refine awp_ret ?_
              simp -dsimp only [↓vpre, vpos, Int.reduceNeg, Int.reduceLE, Int.reduceLT, reduceIte, Nat.reduceEqDiff, Nat.reduceLT, Nat.reduceLeDiff, Nat.reduceAdd, Nat.reduceMul, Nat.reduceSub, Nat.reducePow, ne_eq, Int.reduceAdd, Int.reduceSub, Int.reduceMul, Int.reduceToNat, implies_true, vtab, RetTo, Try.results40, retVals, retVal, mkRet, AVal.upto, Nat.zero_le, Nat.le_refl, seqPost_ret, blockPost_ret, loopPost_ret]
              rw [he]
            · cases h
        · have h2 : ¬ p.kind = 2 := by simpa using h
          rw [if_neg h2] at he
          first | refine awp_seq (awp_region hT hm ?_) | refine awp_region hT hm ?_ | refine awp_seq (awp_seq (awp_region hT hm ?_)) | refine awp_seq (awp_seq (awp_seq (awp_region hT hm ?_)))
          simp -dsimp only [↓vpre, vpos, Int.reduceNeg, Int.reduceLE, Int.reduceLT, reduceIte, Nat.reduceEqDiff, Nat.reduceLT, Nat.reduceLeDiff, Nat.reduceAdd, Nat.reduceMul, Nat.reduceSub, Nat.reducePow, ne_eq, Int.reduceAdd, Int.reduceSub, Int.reduceMul, Int.reduceToNat, implies_true, vtab]
          refine at_intro ?_
          simp -dsimp only [vend, ne_eq, Nat.reduceEqDiff, reduceCtorEq]
          first | refine awp_seq (awp_cond rfl (fun h => ?_) (fun h => ?_)) | refine awp_cond rfl (fun h => ?_) (fun h => ?_) | refine awp_seq (awp_seq (awp_cond rfl (fun h => ?_) (fun h => ?_)))
          · have h3 : p.kind = 3 := by simpa using h
            rw [if_pos h3] at he
            refine awp_skip ?_
            simp -dsimp only [vend, ne_eq, Nat.reduceEqDiff, reduceCtorEq]
            cases hfd : find t.cons p.name with
            | none =>
              rw [hfd] at he
              first | refine awp_seq (awp_region hT hm ?_) | refine awp_region hT hm ?_ | refine awp_seq (awp_seq (awp_region hT hm ?_)) | refine awp_seq (awp_seq (awp_seq (awp_region hT hm ?_)))
              simp -dsimp only [↓vpre, vpos, Int.reduceNeg, Int.reduceLE, Int.reduceLT, reduceIte, Nat.reduceEqDiff, Nat.reduceLT, Nat.reduceLeDiff, Nat.reduceAdd, Nat.reduceMul, Nat.reduceSub, Nat.reducePow, ne_eq, Int.reduceAdd, Int.reduceSub, Int.reduceMul, Int.reduceToNat, implies_true, vtab, hfd, Option.getD_none]
              refine at_intro ?_
              simp -dsimp only [vend, ne_eq, Nat.reduceEqDiff, reduceCtorEq]
              first | refine awp_seq (awp_block ?_) | refine awp_block ?_
              first | refine awp_seq (awp_region hT hm ?_) | refine awp_region hT hm ?_ | refine awp_seq (awp_seq (awp_region hT hm ?_)) | refine awp_seq (awp_seq (awp_seq (awp_region hT hm ?_)))
              simp -dsimp only [↓vpre, vpos, Int.reduceNeg, Int.reduceLE, Int.reduceLT, reduceIte, Nat.reduceEqDiff, Nat.reduceLT, Nat.reduceLeDiff, Nat.reduceAdd, Nat.reduceMul, Nat.reduceSub, Nat.reducePow, ne_eq, Int.reduceAdd, Int.reduceSub, Int.reduceMul, Int.reduceToNat, implies_true, vtab]
              refine at_intro ?_
              simp -dsimp only [vend, ne_eq, Nat.reduceEqDiff, reduceCtorEq]
              first | refine awp_seq (awp_cond rfl (fun h => ?_) (fun h => ?_)) | refine awp_cond rfl (fun h => ?_) (fun h => ?_) | refine awp_seq (awp_seq (awp_cond rfl (fun h => ?_) (fun h => ?_)))
              · first | refine awp_seq (awp_region hT hm ?_) | refine awp_region hT hm ?_ | refine awp_seq (awp_seq (awp_region hT hm ?_)) | refine awp_seq (awp_seq (awp_seq (awp_region hT hm ?_)))
                simp -dsimp only [↓vpre, vpos, Int.reduceNeg, Int.reduceLE, Int.reduceLT, reduceIte, Nat.reduceEqDiff, Nat.reduceLT, Nat.reduceLeDiff, Nat.reduceAdd, Nat.reduceMul, Nat.reduceSub, Nat.reducePow, ne_eq, Int.reduceAdd, Int.reduceSub, Int.reduceMul, Int.reduceToNat, implies_true, vtab]
                refine at_intro ?_
                simp -dsimp only [vend, ne_eq, Nat.reduceEqDiff, reduceCtorEq]
                refine awp_ret ?_
                simp -dsimp only [↓vpre, vpos, Int.reduceNeg, Int.reduceLE, Int.reduceLT, reduceIte, Nat.reduceEqDiff, Nat.reduceLT, Nat.reduceLeDiff, Nat.reduceAdd, Nat.reduceMul, Nat.reduceSub, Nat.reducePow, ne_eq, Int.reduceAdd, Int.reduceSub, Int.reduceMul, Int.reduceToNat, implies_true, vtab, RetTo, Try.results40, retVals, retVal, mkRet, AVal.upto, Nat.zero_le, Nat.le_refl, seqPost_ret, blockPost_ret, loopPost_ret]
                rw [he]
              · cases h
            | some c =>
              rw [hfd] at he
              simp only at he
              first | refine awp_seq (awp_region hT hm ?_) | refine awp_region hT hm ?_ | refine awp_seq (awp_seq (awp_region hT hm ?_)) | refine awp_seq (awp_seq (awp_seq (awp_region hT hm ?_)))
              simp -dsimp only [↓vpre, vpos, Int.reduceNeg, Int.reduceLE, Int.reduceLT, reduceIte, Nat.reduceEqDiff, Nat.reduceLT, Nat.reduceLeDiff, Nat.reduceAdd, Nat.reduceMul, Nat.reduceSub, Nat.reducePow, ne_eq, Int.reduceAdd, Int.reduceSub, Int.reduceMul, Int.reduceToNat, implies_true, vtab, hfd, Option.getD_some]
              refine at_intro ?_
              simp -dsimp only [vend, ne_eq, Nat.reduceEqDiff, reduceCtorEq]
              first | refine awp_seq (awp_block ?_) | refine awp_block ?_
              first | refine awp_seq (awp_region hT hm ?_) | refine awp_region hT hm ?_ | refine awp_seq (awp_seq (awp_region hT hm ?_)) | refine awp_seq (awp_seq (awp_seq (awp_region hT hm ?_)))
              simp -dsimp only [↓vpre, vpos, Int.reduceNeg, Int.reduceLE, Int.reduceLT, reduceIte, Nat.reduceEqDiff, Nat.reduceLT, Nat.reduceLeDiff, Nat.reduceAdd, Nat.reduceMul, Nat.reduceSub, Nat.reducePow, ne_eq, Int.reduceAdd, Int.reduceSub, Int.reduceMul, Int.reduceToNat, implies_true, vtab]
              refine at_intro ?_
              simp -dsimp only [vend, ne_eq, Nat.reduceEqDiff, reduceCtorEq]
              first | refine awp_seq (awp_cond rfl (fun h => ?_) (fun h => ?_)) | refine awp_cond rfl (fun h => ?_) (fun h => ?_) | refine awp_seq (awp_seq (awp_cond rfl (fun h => ?_) (fun h => ?_)))
              · cases h
              · first | refine awp_seq (awp_region hT hm ?_) | refine awp_region hT hm ?_ | refine awp_seq (awp_seq (awp_region hT hm ?_)) | refine awp_seq (awp_seq (awp_seq (awp_region hT hm ?_)))
                simp -dsimp only [↓vpre, vpos, Int.reduceNeg, Int.reduceLE, Int.reduceLT, reduceIte, Nat.reduceEqDiff, Nat.reduceLT, Nat.reduceLeDiff, Nat.reduceAdd, Nat.reduceMul, Nat.reduceSub, Nat.reducePow, ne_eq, Int.reduceAdd, Int.reduceSub, Int.reduceMul, Int.reduceToNat, implies_true, vtab]
                refine at_intro ?_
                simp -dsimp only [vend, ne_eq, Nat.reduceEqDiff, reduceCtorEq]
                first | refine awp_seq (awp_cond rfl (fun h => ?_) (fun h => ?_)) | refine awp_cond rfl (fun h => ?_) (fun h => ?_) | refine awp_seq (awp_seq (awp_cond rfl (fun h => ?_) (fun h => ?_)))
                · have hl : ¬ p.args.length = c.many := by
                    simp at h
                    omega
                  rw [if_neg hl] at he
                  first | refine awp_seq (awp_region hT hm ?_) | refine awp_region hT hm ?_ | refine awp_seq (awp_seq (awp_region hT hm ?_)) | refine awp_seq (awp_seq (awp_seq (awp_region hT hm ?_)))
                  simp -dsimp only [↓vpre, vpos, Int.reduceNeg, Int.reduceLE, Int.reduceLT, reduceIte, Nat.reduceEqDiff, Nat.reduceLT, Nat.reduceLeDiff, Nat.reduceAdd, Nat.reduceMul, Nat.reduceSub, Nat.reducePow, ne_eq, Int.reduceAdd, Int.reduceSub, Int.reduceMul, Int.reduceToNat, implies_true, vtab]
                  refine at_intro ?_
                  simp -dsimp only [vend, ne_eq, Nat.reduceEqDiff, reduceCtorEq]
                  refine awp_ret ?_
                  simp -dsimp only [↓vpre, vpos, Int.reduceNeg, Int.reduceLE, Int.reduceLT, reduceIte, Nat.reduceEqDiff, Nat.reduceLT, Nat.reduceLeDiff, Nat.reduceAdd, Nat.reduceMul, Nat.reduceSub, Nat.reducePow, ne_eq, Int.reduceAdd, Int.reduceSub, Int.reduceMul, Int.reduceToNat, implies_true, vtab, RetTo, Try.results40, retVals, retVal, mkRet, AVal.upto, Nat.zero_le, Nat.le_refl, seqPost_ret, blockPost_ret, loopPost_ret]
                  rw [he]
                · have hl : p.args.length = c.many := by
                    simp at h
                    omega
                  rw [if_pos hl] at he
                  refine awp_skip ?_
                  simp -dsimp only [vend, ne_eq, Nat.reduceEqDiff, reduceCtorEq]
                  first | refine awp_seq (awp_region hT hm ?_) | refine awp_region hT hm ?_ | refine awp_seq (awp_seq (awp_region hT hm ?_)) | refine awp_seq (awp_seq (awp_seq (awp_region hT hm ?_)))
                  simp -dsimp only [↓vpre, vpos, Int.reduceNeg, Int.reduceLE, Int.reduceLT, reduceIte, Nat.reduceEqDiff, Nat.reduceLT, Nat.reduceLeDiff, Nat.reduceAdd, Nat.reduceMul, Nat.reduceSub, Nat.reducePow, ne_eq, Int.reduceAdd, Int.reduceSub, Int.reduceMul, Int.reduceToNat, implies_true, vtab]
                  refine at_intro ?_
                  simp -dsimp only [vend, ne_eq, Nat.reduceEqDiff, reduceCtorEq]
                  refine awp_len 46 rfl (fun hlen => ?_)
                  simp only [List.length_map] at hlen
                  first | refine awp_block (awp_loop (ι := {k : Nat // k ≤ p.args.length ∧ t.patternL p.args = t.patternL (p.args.drop k)}) (fun k => ⟨59, [(2, .mp 0 0), (46, eR p.args), (47, aI p.args.length), (48, aI k.1)], [.cells [.lst 3 (t.datas.map Data.enc) .sh, .im .str (t.cons.map entry)], .cells [.v (.int .i64 p.kind), .v (.string p.name), .v (.int .i64 p.n), .lst 4 (p.args.map Pat.enc) .sh], .cells [.v (.int .i64 c.data), .v (.int .i64 c.pos), .v (.int .i64 c.many)]]⟩) (fun k => p.args.length - k.1) ⟨0, by omega, rfl⟩ ?_ ?_) | refine awp_seq (awp_block (awp_loop (ι := {k : Nat // k ≤ p.args.length ∧ t.patternL p.args = t.patternL (p.args.drop k)}) (fun k => ⟨59, [(2, .mp 0 0), (46, eR p.args), (47, aI p.args.length), (48, aI k.1)], [.cells [.lst 3 (t.datas.map Data.enc) .sh, .im .str (t.cons.map entry)], .cells [.v (.int .i64 p.kind), .v (.string p.name), .v (.int .i64 p.n), .lst 4 (p.args.map Pat.enc) .sh], .cells [.v (.int .i64 c.data), .v (.int .i64 c.pos), .v (.int .i64 c.many)]]⟩) (fun k => p.args.length - k.1) ⟨0, by omega, rfl⟩ ?_ ?_))
                  · refine ⟨rfl, ?_, ?_⟩
                    rotate_left
                    simp -dsimp only [↓vpre, vpos, Int.reduceNeg, Int.reduceLE, Int.reduceLT, reduceIte, Nat.reduceEqDiff, Nat.reduceLT, Nat.reduceLeDiff, Nat.reduceAdd, Nat.reduceMul, Nat.reduceSub, Nat.reducePow, ne_eq, Int.reduceAdd, Int.reduceSub, Int.reduceMul, Int.reduceToNat, implies_true, vtab, Says, exists_eq_left', Option.some.injEq, sub_self, and_assoc, true_and, and_true]
                    rfl
                  · rintro ⟨k, hk, hL⟩
                    first | refine awp_seq (awp_region hT hm ?_) | refine awp_region hT hm ?_ | refine awp_seq (awp_seq (awp_region hT hm ?_)) | refine awp_seq (awp_seq (awp_seq (awp_region hT hm ?_)))
                    simp -dsimp only [↓vpre, vpos, Int.reduceNeg, Int.reduceLE, Int.reduceLT, reduceIte, Nat.reduceEqDiff, Nat.reduceLT, Nat.reduceLeDiff, Nat.reduceAdd, Nat.reduceMul, Nat.reduceSub, Nat.reducePow, ne_eq, Int.reduceAdd, Int.reduceSub, Int.reduceMul, Int.reduceToNat, implies_true, vtab]
                    refine at_intro ?_
                    simp -dsimp only [vend, ne_eq, Nat.reduceEqDiff, reduceCtorEq]
                    first | refine awp_seq (awp_cond rfl (fun h => ?_) (fun h => ?_)) | refine awp_cond rfl (fun h => ?_) (fun h => ?_) | refine awp_seq (awp_seq (awp_cond rfl (fun h => ?_) (fun h => ?_)))
                    · refine awp_skip ?_
                      simp -dsimp only [vend, ne_eq, Nat.reduceEqDiff, reduceCtorEq]
                      have hlt : k < p.args.length := by simpa using h
                      obtain ⟨q, hq⟩ : ∃ q, p.args[k]? = some q := ⟨p.args[k], by simp [hlt]⟩
                      have hdrop : p.args.drop k = q :: p.args.drop (k + 1) := by
                        rw [List.drop_eq_getElem_cons hlt]
                        rw [List.getElem?_eq_getElem hlt] at hq
                        simp only [Option.some.injEq] at hq
                        rw [hq]
                      rw [hdrop, Tbl.patternL] at hL
                      have ihq := ih q (List.mem_of_getElem? hq)
                      first | refine awp_seq (awp_block ?_) | refine awp_block ?_
                      first | refine awp_seq (awp_region hT hm ?_) | refine awp_region hT hm ?_ | refine awp_seq (awp_seq (awp_region hT hm ?_)) | refine awp_seq (awp_seq (awp_seq (awp_region hT hm ?_)))
                      simp -dsimp only [↓vpre, vpos, Int.reduceNeg, Int.reduceLE, Int.reduceLT, reduceIte, Nat.reduceEqDiff, Nat.reduceLT, Nat.reduceLeDiff, Nat.reduceAdd, Nat.reduceMul, Nat.reduceSub, Nat.reducePow, ne_eq, Int.reduceAdd, Int.reduceSub, Int.reduceMul, Int.reduceToNat, implies_true, vtab, hq]
                      refine at_intro ?_
                      simp -dsimp only [vend, ne_eq, Nat.reduceEqDiff, reduceCtorEq]
                      first | refine awp_seq (awp_region hT hm ?_) | refine awp_region hT hm ?_ | refine awp_seq (awp_seq (awp_region hT hm ?_)) | refine awp_seq (awp_seq (awp_seq (awp_region hT hm ?_)))
                      simp -dsimp only [↓vpre, vpos, Int.reduceNeg, Int.reduceLE, Int.reduceLT, reduceIte, Nat.reduceEqDiff, Nat.reduceLT, Nat.reduceLeDiff, Nat.reduceAdd, Nat.reduceMul, Nat.reduceSub, Nat.reducePow, ne_eq, Int.reduceAdd, Int.reduceSub, Int.reduceMul, Int.reduceToNat, implies_true, vtab]
                      refine .inl ⟨_, ihq, by first | (simp only [uptoL, AVal.upto, and_true, true_and, and_self, Pat.enc_upto, Pat.map_upto, any_upto, Con.enc_upto, Con.map_upto, Data.enc_upto, Data.map_upto, Tbl.enc_upto, entry_upto]; done) | (simp [uptoL, AVal.upto, Pat.enc_upto, Pat.map_upto, any_upto, Con.enc_upto, Con.map_upto, Data.enc_upto, Data.map_upto, Tbl.enc_upto, entry_upto]; done), later_intro ?_⟩
                      simp -dsimp only [↓vpre, vpos, Int.reduceNeg, Int.reduceLE, Int.reduceLT, reduceIte, Nat.reduceEqDiff, Nat.reduceLT, Nat.reduceLeDiff, Nat.reduceAdd, Nat.reduceMul, Nat.reduceSub, Nat.reducePow, ne_eq, Int.reduceAdd, Int.reduceSub, Int.reduceMul, Int.reduceToNat, implies_true, vtab]
                      refine at_intro ?_
                      simp -dsimp only [vend, ne_eq, Nat.reduceEqDiff, reduceCtorEq]
                      first | refine awp_seq (awp_region hT hm ?_) | refine awp_region hT hm ?_ | refine awp_seq (awp_seq (awp_region hT hm ?_)) | refine awp_seq (awp_seq (awp_seq (awp_region hT hm ?_)))
                      simp -dsimp only [↓vpre, vpos, Int.reduceNeg, Int.reduceLE, Int.reduceLT, reduceIte, Nat.reduceEqDiff, Nat.reduceLT, Nat.reduceLeDiff, Nat.reduceAdd, Nat.reduceMul, Nat.reduceSub, Nat.reducePow, ne_eq, Int.reduceAdd, Int.reduceSub, Int.reduceMul, Int.reduceToNat, implies_true, vtab]
                      refine at_intro ?_
                      simp -dsimp only [vend, ne_eq, Nat.reduceEqDiff, reduceCtorEq]
                      first | refine awp_seq (awp_cond rfl (fun h => ?_) (fun h => ?_)) | refine awp_cond rfl (fun h => ?_) (fun h => ?_) | refine awp_seq (awp_seq (awp_cond rfl (fun h => ?_) (fun h => ?_)))
                      · have hz : ¬ t.pattern q = 0 := by simpa using h
                        first | refine awp_seq (awp_region hT hm ?_) | refine awp_region hT hm ?_ | refine awp_seq (awp_seq (awp_region hT hm ?_)) | refine awp_seq (awp_seq (awp_seq (awp_region hT hm ?_)))
                        simp -dsimp only [↓vpre, vpos, Int.reduceNeg, Int.reduceLE, Int.reduceLT, reduceIte, Nat.reduceEqDiff, Nat.reduceLT, Nat.reduceLeDiff, Nat.reduceAdd, Nat.reduceMul, Nat.reduceSub, Nat.reducePow, ne_eq, Int.reduceAdd, Int.reduceSub, Int.reduceMul, Int.reduceToNat, implies_true, vtab]
                        refine at_intro ?_
                        simp -dsimp only [vend, ne_eq, Nat.reduceEqDiff, reduceCtorEq]
                        refine awp_ret ?_
                        simp -dsimp only [↓vpre, vpos, Int.reduceNeg, Int.reduceLE, Int.reduceLT, reduceIte, Nat.reduceEqDiff, Nat.reduceLT, Nat.reduceLeDiff, Nat.reduceAdd, Nat.reduceMul, Nat.reduceSub, Nat.reducePow, ne_eq, Int.reduceAdd, Int.reduceSub, Int.reduceMul, Int.reduceToNat, implies_true, vtab, RetTo, Try.results40, retVals, retVal, mkRet, AVal.upto, Nat.zero_le, Nat.le_refl, seqPost_ret, blockPost_ret, loopPost_ret]
                        rw [he, hL, if_neg hz]
                      · have hz : t.pattern q = 0 := by simpa using h
                        rw [if_pos hz] at hL
                        refine awp_skip ?_
                        simp -dsimp only [vend, ne_eq, Nat.reduceEqDiff, reduceCtorEq]
                        refine awp_trunc' 3 [(2, .mp 0 0), (46, eR p.args), (47, aI p.args.length), (48, aI k)] (by first | omega | (simp; done) | (simp; omega)) (by first | omega | (simp; done) | (simp; omega)) [.cells [.lst 3 (t.datas.map Data.enc) .sh, .im .str (t.cons.map entry)], .cells [.v (.int .i64 p.kind), .v (.string p.name), .v (.int .i64 p.n), .lst 4 (p.args.map Pat.enc) .sh], .cells [.v (.int .i64 c.data), .v (.int .i64 c.pos), .v (.int .i64 c.many)]] ?_ ?_ ?_ ?_ ?_
                        · rfl
                        · simp [AObj.upto, uptoL, AVal.upto, Data.map_upto, Pat.map_upto, entry_upto]
                        · simp -dsimp only [↓vpre, vpos, Int.reduceNeg, Int.reduceLE, Int.reduceLT, reduceIte, Nat.reduceEqDiff, Nat.reduceLT, Nat.reduceLeDiff, Nat.reduceAdd, Nat.reduceMul, Nat.reduceSub, Nat.reducePow, ne_eq, Int.reduceAdd, Int.reduceSub, Int.reduceMul, Int.reduceToNat, implies_true, vtab, Says, exists_eq_left', Option.some.injEq, sub_self, and_true]
                        · simp [AVal.upto, uptoL, Pat.map_upto]
                        · first | refine awp_seq (awp_region hT hm ?_) | refine awp_region hT hm ?_ | refine awp_seq (awp_seq (awp_region hT hm ?_)) | refine awp_seq (awp_seq (awp_seq (awp_region hT hm ?_)))
                          simp -dsimp only [↓vpre, vpos, Int.reduceNeg, Int.reduceLE, Int.reduceLT, reduceIte, Nat.reduceEqDiff, Nat.reduceLT, Nat.reduceLeDiff, Nat.reduceAdd, Nat.reduceMul, Nat.reduceSub, Nat.reducePow, ne_eq, Int.reduceAdd, Int.reduceSub, Int.reduceMul, Int.reduceToNat, implies_true, vtab]
                          refine ⟨by omega, by omega, ?_⟩
                          refine at_intro ?_
                          simp -dsimp only [vend, ne_eq, Nat.reduceEqDiff, reduceCtorEq]
                          refine ⟨⟨k + 1, hlt, hL⟩, by simp; omega, ?_⟩
                          refine ⟨rfl, ?_, ?_⟩
                          rotate_left
                          simp -dsimp only [↓vpre, vpos, Int.reduceNeg, Int.reduceLE, Int.reduceLT, reduceIte, Nat.reduceEqDiff, Nat.reduceLT, Nat.reduceLeDiff, Nat.reduceAdd, Nat.reduceMul, Nat.reduceSub, Nat.reducePow, ne_eq, Int.reduceAdd, Int.reduceSub, Int.reduceMul, Int.reduceToNat, implies_true, vtab, Says, exists_eq_left', Option.some.injEq, sub_self, and_assoc, true_and, and_true]
                          · exact Sub.int (by simp)
                          · rfl
                    · refine awp_exit ?_
                      simp -dsimp only [vend, ne_eq, Nat.reduceEqDiff, reduceCtorEq]
                      have hlt : k = p.args.length := by simp at h; omega
                      subst hlt
                      first | refine awp_seq (awp_region hT hm ?_) | refine awp_region hT hm ?_ | refine awp_seq (awp_seq (awp_region hT hm ?_)) | refine awp_seq (awp_seq (awp_seq (awp_region hT hm ?_)))
                      simp -dsimp only [↓vpre, vpos, Int.reduceNeg, Int.reduceLE, Int.reduceLT, reduceIte, Nat.reduceEqDiff, Nat.reduceLT, Nat.reduceLeDiff, Nat.reduceAdd, Nat.reduceMul, Nat.reduceSub, Nat.reducePow, ne_eq, Int.reduceAdd, Int.reduceSub, Int.reduceMul, Int.reduceToNat, implies_true, vtab]
                      refine at_intro ?_
                      simp -dsimp only [vend, ne_eq, Nat.reduceEqDiff, reduceCtorEq]
                      refine awp_ret ?_
                      simp -dsimp only [↓vpre, vpos, Int.reduceNeg, Int.reduceLE, Int.reduceLT, reduceIte, Nat.reduceEqDiff, Nat.reduceLT, Nat.reduceLeDiff, Nat.reduceAdd, Nat.reduceMul, Nat.reduceSub, Nat.reducePow, ne_eq, Int.reduceAdd, Int.reduceSub, Int.reduceMul, Int.reduceToNat, implies_true, vtab, RetTo, Try.results40, retVals, retVal, mkRet, AVal.upto, Nat.zero_le, Nat.le_refl, seqPost_ret, blockPost_ret, loopPost_ret]
                      rw [he, hL, List.drop_length]
                      rfl
          · have h3 : ¬ p.kind = 3 := by simpa using h
            rw [if_neg h3] at he
            first | refine awp_seq (awp_region hT hm ?_) | refine awp_region hT hm ?_ | refine awp_seq (awp_seq (awp_region hT hm ?_)) | refine awp_seq (awp_seq (awp_seq (awp_region hT hm ?_)))
            simp -dsimp only [↓vpre, vpos, Int.reduceNeg, Int.reduceLE, Int.reduceLT, reduceIte, Nat.reduceEqDiff, Nat.reduceLT, Nat.reduceLeDiff, Nat.reduceAdd, Nat.reduceMul, Nat.reduceSub, Nat.reducePow, ne_eq, Int.reduceAdd, Int.reduceSub, Int.reduceMul, Int.reduceToNat, implies_true, vtab]
            refine at_intro ?_
            simp -dsimp only [vend, ne_eq, Nat.reduceEqDiff, reduceCtorEq]
            refine awp_ret ?_
            simp -dsimp only [↓vpre, vpos, Int.reduceNeg, Int.reduceLE, Int.reduceLT, reduceIte, Nat.reduceEqDiff, Nat.reduceLT, Nat.reduceLeDiff, Nat.reduceAdd, Nat.reduceMul, Nat.reduceSub, Nat.reducePow, ne_eq, Int.reduceAdd, Int.reduceSub, Int.reduceMul, Int.reduceToNat, implies_true, vtab, RetTo, Try.results40, retVals, retVal, mkRet, AVal.upto, Nat.zero_le, Nat.le_refl, seqPost_ret, blockPost_ret, loopPost_ret]
            rw [he]
termination_by SizeOf.sizeOf p
decreasing_by
  cases p
  simp only [Pat.args] at hq
  have := List.sizeOf_lt_of_mem hq
  simp
  omega

end Go.Proofs.Ytakdmelemfnmdaa
end

section
set_option linter.unusedSimpArgs false
set_option maxHeartbeats 1000000
-- !tab vtab
-- !upto Pat.enc_upto Pat.map_upto any_upto Con.enc_upto Con.map_upto Data.enc_upto Data.map_upto Tbl.enc_upto entry_upto
namespace Go.Proofs.Ytakdmelemfnmdaa
open Go.Av

theorem absent1_spec (O : List AObj) (hO : ∀ o ∈ O, o.upto O.length) (id : Nat) (m : Int) (hid : O[id]? = some (.cells [aI m])) (p : Pat) :
    ECall Try.prog 77 O [p.enc, .mp id 0] fun r O' => r = .v (.bool (decide (p.n = m))) ∧ O' = O := by
  refine ecall_of hT true O.length Try.func77 rfl (by kernel_rfl) (by simp [Try.ntmps77]) (by simp) ?_
  show AWP Try.prog _ _ _ ⟨8, _, _⟩
  dsimp only [Tmp, TypeId, slotsOf]
  first | refine awp_seq (awp_region hT hm ?_) | refine awp_region hT hm ?_ | refine awp_seq (awp_seq (awp_region hT hm ?_)) | refine awp_seq (awp_seq (awp_seq (awp_region hT hm ?_)))
  simp -dsimp only [↓vpre, vpos, Int.reduceNeg, Int.reduceLE, Int.reduceLT, reduceIte, Nat.reduceEqDiff, Nat.reduceLT, Nat.reduceLeDiff, Nat.reduceAdd, Nat.reduceMul, Nat.reduceSub, Nat.reducePow, ne_eq, Int.reduceAdd, Int.reduceSub, Int.reduceMul, Int.reduceToNat, implies_true, vtab]
  refine at_intro ?_
  simp -dsimp only [vend, ne_eq, Nat.reduceEqDiff, reduceCtorEq]
  first | refine awp_seq (awp_region hT hm ?_) | refine awp_region hT hm ?_ | refine awp_seq (awp_seq (awp_region hT hm ?_)) | refine awp_seq (awp_seq (awp_seq (awp_region hT hm ?_)))
  simp -dsimp only [↓vpre, vpos, Int.reduceNeg, Int.reduceLE, Int.reduceLT, reduceIte, Nat.reduceEqDiff, Nat.reduceLT, Nat.reduceLeDiff, Nat.reduceAdd, Nat.reduceMul, Nat.reduceSub, Nat.reducePow, ne_eq, Int.reduceAdd, Int.reduceSub, Int.reduceMul, Int.reduceToNat, implies_true, vtab, snoc_old hid]
  refine at_intro ?_
  simp -dsimp only [vend, ne_eq, Nat.reduceEqDiff, reduceCtorEq]
  refine awp_ret ?_
  simp -dsimp only [↓vpre, vpos, Int.reduceNeg, Int.reduceLE, Int.reduceLT, reduceIte, Nat.reduceEqDiff, Nat.reduceLT, Nat.reduceLeDiff, Nat.reduceAdd, Nat.reduceMul, Nat.reduceSub, Nat.reducePow, ne_eq, Int.reduceAdd, Int.reduceSub, Int.reduceMul, Int.reduceToNat, implies_true, vtab, RetTo, Try.results77, retVals, retVal, mkRet, AVal.upto, Nat.zero_le, Nat.le_refl, seqPost_ret, blockPost_ret, loopPost_ret, snoc_take]
  simp
  exact hO

theorem absent2_spec (O : List AObj) (hO : ∀ o ∈ O, o.upto O.length) (id : Nat) (s : ByteArray) (a : AVal) (hid : O[id]? = some (.cells [.v (.string s), a])) (p : Pat) :
    ECall Try.prog 78 O [p.enc, .mp id 0] fun r O' => r = .v (.bool (decide (p.name = s))) ∧ O' = O := by
  refine ecall_of hT true O.length Try.func78 rfl (by kernel_rfl) (by simp [Try.ntmps78]) (by simp) ?_
  show AWP Try.prog _ _ _ ⟨9, _, _⟩
  dsimp only [Tmp, TypeId, slotsOf]
  first | refine awp_seq (awp_region hT hm ?_) | refine awp_region hT hm ?_ | refine awp_seq (awp_seq (awp_region hT hm ?_)) | refine awp_seq (awp_seq (awp_seq (awp_region hT hm ?_)))
  simp -dsimp only [↓vpre, vpos, Int.reduceNeg, Int.reduceLE, Int.reduceLT, reduceIte, Nat.reduceEqDiff, Nat.reduceLT, Nat.reduceLeDiff, Nat.reduceAdd, Nat.reduceMul, Nat.reduceSub, Nat.reducePow, ne_eq, Int.reduceAdd, Int.reduceSub, Int.reduceMul, Int.reduceToNat, implies_true, vtab]
  refine at_intro ?_
  simp -dsimp only [vend, ne_eq, Nat.reduceEqDiff, reduceCtorEq]
  first | refine awp_seq (awp_region hT hm ?_) | refine awp_region hT hm ?_ | refine awp_seq (awp_seq (awp_region hT hm ?_)) | refine awp_seq (awp_seq (awp_seq (awp_region hT hm ?_)))
  simp -dsimp only [↓vpre, vpos, Int.reduceNeg, Int.reduceLE, Int.reduceLT, reduceIte, Nat.reduceEqDiff, Nat.reduceLT, Nat.reduceLeDiff, Nat.reduceAdd, Nat.reduceMul, Nat.reduceSub, Nat.reducePow, ne_eq, Int.reduceAdd, Int.reduceSub, Int.reduceMul, Int.reduceToNat, implies_true, vtab, snoc_old hid]
  refine at_intro ?_
  simp -dsimp only [vend, ne_eq, Nat.reduceEqDiff, reduceCtorEq]
  refine awp_ret ?_
  simp -dsimp only [↓vpre, vpos, Int.reduceNeg, Int.reduceLE, Int.reduceLT, reduceIte, Nat.reduceEqDiff, Nat.reduceLT, Nat.reduceLeDiff, Nat.reduceAdd, Nat.reduceMul, Nat.reduceSub, Nat.reducePow, ne_eq, Int.reduceAdd, Int.reduceSub, Int.reduceMul, Int.reduceToNat, implies_true, vtab, RetTo, Try.results78, retVals, retVal, mkRet, AVal.upto, Nat.zero_le, Nat.le_refl, seqPost_ret, blockPost_ret, loopPost_ret, snoc_take]
  simp
  exact hO

theorem agree1_spec (O : List AObj) (hO : ∀ o ∈ O, o.upto O.length) (id : Nat) (q : Pat) (hid : O[id]? = some (.cells [.v (.int .i64 q.kind), .v (.string q.name), .v (.int .i64 q.n), .lst 4 (q.args.map Pat.enc) .sh])) (p : Pat) :
    ECall Try.prog 76 O [p.enc, .mp id 0] fun r O' => r = .v (.bool (decide (p.name = q.name))) ∧ O' = O := by
  refine ecall_of hT true O.length Try.func76 rfl (by kernel_rfl) (by simp [Try.ntmps76]) (by simp) ?_
  show AWP Try.prog _ _ _ ⟨9, _, _⟩
  dsimp only [Tmp, TypeId, slotsOf]
  first | refine awp_seq (awp_region hT hm ?_) | refine awp_region hT hm ?_ | refine awp_seq (awp_seq (awp_region hT hm ?_)) | refine awp_seq (awp_seq (awp_seq (awp_region hT hm ?_)))
  simp -dsimp only [↓vpre, vpos, Int.reduceNeg, Int.reduceLE, Int.reduceLT, reduceIte, Nat.reduceEqDiff, Nat.reduceLT, Nat.reduceLeDiff, Nat.reduceAdd, Nat.reduceMul, Nat.reduceSub, Nat.reducePow, ne_eq, Int.reduceAdd, Int.reduceSub, Int.reduceMul, Int.reduceToNat, implies_true, vtab]
  refine at_intro ?_
  simp -dsimp only [vend, ne_eq, Nat.reduceEqDiff, reduceCtorEq]
  first | refine awp_seq (awp_region hT hm ?_) | refine awp_region hT hm ?_ | refine awp_seq (awp_seq (awp_region hT hm ?_)) | refine awp_seq (awp_seq (awp_seq (awp_region hT hm ?_)))
  simp -dsimp only [↓vpre, vpos, Int.reduceNeg, Int.reduceLE, Int.reduceLT, reduceIte, Nat.reduceEqDiff, Nat.reduceLT, Nat.reduceLeDiff, Nat.reduceAdd, Nat.reduceMul, Nat.reduceSub, Nat.reducePow, ne_eq, Int.reduceAdd, Int.reduceSub, Int.reduceMul, Int.reduceToNat, implies_true, vtab, snoc_old hid]
  refine at_intro ?_
  simp -dsimp only [vend, ne_eq, Nat.reduceEqDiff, reduceCtorEq]
  refine awp_ret ?_
  simp -dsimp only [↓vpre, vpos, Int.reduceNeg, Int.reduceLE, Int.reduceLT, reduceIte, Nat.reduceEqDiff, Nat.reduceLT, Nat.reduceLeDiff, Nat.reduceAdd, Nat.reduceMul, Nat.reduceSub, Nat.reducePow, ne_eq, Int.reduceAdd, Int.reduceSub, Int.reduceMul, Int.reduceToNat, implies_true, vtab, RetTo, Try.results76, retVals, retVal, mkRet, AVal.upto, Nat.zero_le, Nat.le_refl, seqPost_ret, blockPost_ret, loopPost_ret, snoc_take]
  simp
  exact hO

end Go.Proofs.Ytakdmelemfnmdaa
end

section
set_option linter.unusedSimpArgs false
set_option maxHeartbeats 1000000
-- !tab vtab
-- !upto Pat.enc_upto Pat.map_upto any_upto Con.enc_upto Con.map_upto Data.enc_upto Data.map_upto Tbl.enc_upto entry_upto
namespace Go.Proofs.Ytakdmelemfnmdaa
open Go.Av

/-- A list that holds n different numbers is not shorter than n. -/
theorem pigeon : ∀ (n : Nat) (l : List Int), (∀ j : Nat, j < n → (j : Int) ∈ l) → n ≤ l.length
  | 0, _, _ => Nat.zero_le _
  | n + 1, l, h => by
    have hn := h n (by omega)
    have ih := pigeon n (l.erase (n : Int)) (fun j hj => by
      rw [List.mem_erase_of_ne (by omega)]
      exact h j (by omega))
    rw [List.length_erase_of_mem hn] at ih
    have : 0 < l.length := List.length_pos_of_mem hn
    omega

/-- The number at which absent's search ends: from n on, at most f steps. -/
def nextN (l : List Pat) : Nat → Nat → Nat
  | n, 0 => n
  | n, f + 1 => if l.any (fun p => decide (p.n = (n : Int))) then nextN l (n + 1) f else n

def absentCon (l : List Pat) : List Con → Option Con
  | [] => none
  | c :: r => if l.any (fun p => decide (p.name = c.name)) then absentCon l r else some c

/-- A value that no pattern of the column matches. -/
def Tbl.absent (t : Tbl) (l : List Pat) : Option Pat :=
  match l with
  | [] => some Pat.any
  | p :: _ =>
    if p.kind = 2 then some (.mk 2 ByteArray.empty (nextN l 0 (l.length + 1)) [])
    else match t.datas[(t.con p.name).data]? with
      | none => none
      | some d => (absentCon l d.cons).map fun c => .mk 3 c.name 0 (List.replicate c.args.length Pat.any)

def absentRes : Option Pat → AVal
  | some p => .tup [p.enc, .v (.bool true)]
  | none => .tup [Pat.any.enc, .v (.bool false)]

theorem absent_nil (t : Tbl) : PCall Try.prog 43 [t.enc, eR []] (.tup [Pat.any.enc, .v (.bool true)]) := by
  refine ecall_of hT true 0 Try.func43 rfl (by kernel_rfl) (by simp [Try.ntmps43]) (by simp) ?_
  show AWP Try.prog _ _ _ ⟨56, _, _⟩
  dsimp only [Tmp, TypeId, slotsOf]
  first | refine awp_seq (awp_region hT hm ?_) | refine awp_region hT hm ?_ | refine awp_seq (awp_seq (awp_region hT hm ?_)) | refine awp_seq (awp_seq (awp_seq (awp_region hT hm ?_)))
  simp -dsimp only [↓vpre, vpos, Int.reduceNeg, Int.reduceLE, Int.reduceLT, reduceIte, Nat.reduceEqDiff, Nat.reduceLT, Nat.reduceLeDiff, Nat.reduceAdd, Nat.reduceMul, Nat.reduceSub, Nat.reducePow, ne_eq, Int.reduceAdd, Int.reduceSub, Int.reduceMul, Int.reduceToNat, implies_true, vtab]
  refine at_intro ?_
  simp -dsimp only [vend, ne_eq, Nat.reduceEqDiff, reduceCtorEq]
  first | refine awp_seq (awp_region hT hm ?_) | refine awp_region hT hm ?_ | refine awp_seq (awp_seq (awp_region hT hm ?_)) | refine awp_seq (awp_seq (awp_seq (awp_region hT hm ?_)))
  simp -dsimp only [↓vpre, vpos, Int.reduceNeg, Int.reduceLE, Int.reduceLT, reduceIte, Nat.reduceEqDiff, Nat.reduceLT, Nat.reduceLeDiff, Nat.reduceAdd, Nat.reduceMul, Nat.reduceSub, Nat.reducePow, ne_eq, Int.reduceAdd, Int.reduceSub, Int.reduceMul, Int.reduceToNat, implies_true, vtab]
  refine at_intro ?_
  simp -dsimp only [vend, ne_eq, Nat.reduceEqDiff, reduceCtorEq]
  first | refine awp_seq (awp_cond rfl (fun h => ?_) (fun h => ?_)) | refine awp_cond rfl (fun h => ?_) (fun h => ?_) | refine awp_seq (awp_seq (awp_cond rfl (fun h => ?_) (fun h => ?_)))
  · first | refine awp_seq (awp_region hT hm ?_) | refine awp_region hT hm ?_ | refine awp_seq (awp_seq (awp_region hT hm ?_)) | refine awp_seq (awp_seq (awp_seq (awp_region hT hm ?_)))
    simp -dsimp only [↓vpre, vpos, Int.reduceNeg, Int.reduceLE, Int.reduceLT, reduceIte, Nat.reduceEqDiff, Nat.reduceLT, Nat.reduceLeDiff, Nat.reduceAdd, Nat.reduceMul, Nat.reduceSub, Nat.reducePow, ne_eq, Int.reduceAdd, Int.reduceSub, Int.reduceMul, Int.reduceToNat, implies_true, vtab]
    refine at_intro ?_
    simp -dsimp only [vend, ne_eq, Nat.reduceEqDiff, reduceCtorEq]
    refine awp_ret ?_
    simp -dsimp only [↓vpre, vpos, Int.reduceNeg, Int.reduceLE, Int.reduceLT, reduceIte, Nat.reduceEqDiff, Nat.reduceLT, Nat.reduceLeDiff, Nat.reduceAdd, Nat.reduceMul, Nat.reduceSub, Nat.reducePow, ne_eq, Int.reduceAdd, Int.reduceSub, Int.reduceMul, Int.reduceToNat, implies_true, vtab, RetTo, Try.results43, retVals, retVal, mkRet, AVal.upto, Nat.zero_le, Nat.le_refl, seqPost_ret, blockPost_ret, loopPost_ret]
    exact ⟨by simp [uptoL, AVal.upto], rfl⟩
  · cases h

theorem nextN_stop {l : List Pat} {n f : Nat} (h : l.any (fun p => decide (p.n = (n : Int))) = false) : nextN l n f = n := by
  cases f with
  | zero => rfl
  | succ f => rw [nextN, h]; rfl

theorem absent_int (t : Tbl) (p : Pat) (r : List Pat) (hk : p.kind = 2) (hb : r.length ≤ 2 ^ 30) : PCall Try.prog 43 [t.enc, eR (p :: r)] (.tup [(Pat.mk 2 ByteArray.empty (nextN (p :: r) 0 (r.length + 2)) []).enc, .v (.bool true)]) := by
  obtain ⟨l, hl⟩ : ∃ l, l = p :: r := ⟨_, rfl⟩
  have hlen : l.length = r.length + 1 := by rw [hl]; rfl
  refine ecall_of hT true 0 Try.func43 rfl (by kernel_rfl) (by simp [Try.ntmps43]) (by simp) ?_
  show AWP Try.prog _ _ _ ⟨56, _, _⟩
  dsimp only [Tmp, TypeId, slotsOf]
  first | refine awp_seq (awp_region hT hm ?_) | refine awp_region hT hm ?_ | refine awp_seq (awp_seq (awp_region hT hm ?_)) | refine awp_seq (awp_seq (awp_seq (awp_region hT hm ?_)))
  simp -dsimp only [↓vpre, vpos, Int.reduceNeg, Int.reduceLE, Int.reduceLT, reduceIte, Nat.reduceEqDiff, Nat.reduceLT, Nat.reduceLeDiff, Nat.reduceAdd, Nat.reduceMul, Nat.reduceSub, Nat.reducePow, ne_eq, Int.reduceAdd, Int.reduceSub, Int.reduceMul, Int.reduceToNat, implies_true, vtab]
  refine at_intro ?_
  simp -dsimp only [vend, ne_eq, Nat.reduceEqDiff, reduceCtorEq]
  first | refine awp_seq (awp_region hT hm ?_) | refine awp_region hT hm ?_ | refine awp_seq (awp_seq (awp_region hT hm ?_)) | refine awp_seq (awp_seq (awp_seq (awp_region hT hm ?_)))
  simp -dsimp only [↓vpre, vpos, Int.reduceNeg, Int.reduceLE, Int.reduceLT, reduceIte, Nat.reduceEqDiff, Nat.reduceLT, Nat.reduceLeDiff, Nat.reduceAdd, Nat.reduceMul, Nat.reduceSub, Nat.reducePow, ne_eq, Int.reduceAdd, Int.reduceSub, Int.reduceMul, Int.reduceToNat, implies_true, vtab]
  refine at_intro ?_
  simp -dsimp only [vend, ne_eq, Nat.reduceEqDiff, reduceCtorEq]
  first | refine awp_seq (awp_cond rfl (fun h => ?_) (fun h => ?_)) | refine awp_cond rfl (fun h => ?_) (fun h => ?_) | refine awp_seq (awp_seq (awp_cond rfl (fun h => ?_) (fun h => ?_)))
  · simp at h
    omega
  · refine awp_skip ?_
    simp -dsimp only [vend, ne_eq, Nat.reduceEqDiff, reduceCtorEq]
    first | refine awp_seq (awp_region hT hm ?_) | refine awp_region hT hm ?_ | refine awp_seq (awp_seq (awp_region hT hm ?_)) | refine awp_seq (awp_seq (awp_seq (awp_region hT hm ?_)))
    simp -dsimp only [↓vpre, vpos, Int.reduceNeg, Int.reduceLE, Int.reduceLT, reduceIte, Nat.reduceEqDiff, Nat.reduceLT, Nat.reduceLeDiff, Nat.reduceAdd, Nat.reduceMul, Nat.reduceSub, Nat.reducePow, ne_eq, Int.reduceAdd, Int.reduceSub, Int.reduceMul, Int.reduceToNat, implies_true, vtab, hk]
    refine at_intro ?_
    simp -dsimp only [vend, ne_eq, Nat.reduceEqDiff, reduceCtorEq]
    first | refine awp_seq (awp_cond rfl (fun h => ?_) (fun h => ?_)) | refine awp_cond rfl (fun h => ?_) (fun h => ?_) | refine awp_seq (awp_seq (awp_cond rfl (fun h => ?_) (fun h => ?_)))
    · first | refine awp_seq (awp_region hT hm ?_) | refine awp_region hT hm ?_ | refine awp_seq (awp_seq (awp_region hT hm ?_)) | refine awp_seq (awp_seq (awp_seq (awp_region hT hm ?_)))
      simp -dsimp only [↓vpre, vpos, Int.reduceNeg, Int.reduceLE, Int.reduceLT, reduceIte, Nat.reduceEqDiff, Nat.reduceLT, Nat.reduceLeDiff, Nat.reduceAdd, Nat.reduceMul, Nat.reduceSub, Nat.reducePow, ne_eq, Int.reduceAdd, Int.reduceSub, Int.reduceMul, Int.reduceToNat, implies_true, vtab]
      refine at_intro ?_
      simp -dsimp only [vend, ne_eq, Nat.reduceEqDiff, reduceCtorEq]
      have hl' : (AVal.lst 4 (p.enc :: List.map Pat.enc r) .sh) = eR l := by rw [hl]; rfl
      simp -dsimp only [hl', ← hl]
      first | refine awp_block (awp_loop (ι := {n : Nat // n ≤ l.length ∧ (∀ j : Nat, j < n → (j : Int) ∈ l.map Pat.n) ∧ nextN l 0 (r.length + 2) = nextN l n (r.length + 2 - n)}) (fun n => ⟨56, [(1, eR l), (4, .mp 1 0), (6, .mp 2 0), (5, .v (.bool false))], [.cells [.lst 3 (t.datas.map Data.enc) .sh, .im .str (t.cons.map entry)], .cells zeroPat, .cells [aI n.1]]⟩) (fun n => l.length - n.1) ⟨0, by omega, by intros; omega, rfl⟩ ?_ ?_) | refine awp_seq (awp_block (awp_loop (ι := {n : Nat // n ≤ l.length ∧ (∀ j : Nat, j < n → (j : Int) ∈ l.map Pat.n) ∧ nextN l 0 (r.length + 2) = nextN l n (r.length + 2 - n)}) (fun n => ⟨56, [(1, eR l), (4, .mp 1 0), (6, .mp 2 0), (5, .v (.bool false))], [.cells [.lst 3 (t.datas.map Data.enc) .sh, .im .str (t.cons.map entry)], .cells zeroPat, .cells [aI n.1]]⟩) (fun n => l.length - n.1) ⟨0, by omega, by intros; omega, rfl⟩ ?_ ?_))
      · refine ⟨rfl, ?_, ?_⟩
        rotate_left
        simp -dsimp only [↓vpre, vpos, Int.reduceNeg, Int.reduceLE, Int.reduceLT, reduceIte, Nat.reduceEqDiff, Nat.reduceLT, Nat.reduceLeDiff, Nat.reduceAdd, Nat.reduceMul, Nat.reduceSub, Nat.reducePow, ne_eq, Int.reduceAdd, Int.reduceSub, Int.reduceMul, Int.reduceToNat, implies_true, vtab, Says, exists_eq_left', Option.some.injEq, sub_self, and_assoc, true_and, and_true]
        rfl
      · rintro ⟨n, hn, hj, he⟩
        first | refine awp_seq (awp_region hT hm ?_) | refine awp_region hT hm ?_ | refine awp_seq (awp_seq (awp_region hT hm ?_)) | refine awp_seq (awp_seq (awp_seq (awp_region hT hm ?_)))
        simp -dsimp only [↓vpre, vpos, Int.reduceNeg, Int.reduceLE, Int.reduceLT, reduceIte, Nat.reduceEqDiff, Nat.reduceLT, Nat.reduceLeDiff, Nat.reduceAdd, Nat.reduceMul, Nat.reduceSub, Nat.reducePow, ne_eq, Int.reduceAdd, Int.reduceSub, Int.reduceMul, Int.reduceToNat, implies_true, vtab]
        refine .inr (.inr ⟨_, (containsFunc_spec (fun p => decide (p.n = (n : Int))) 77 [] [.mp 2 0] [.cells [.lst 3 (t.datas.map Data.enc) .sh, .im .str (t.cons.map entry)], .cells zeroPat, .cells [aI n]] (by simp [AObj.upto, uptoL, AVal.upto, zeroPat, Data.map_upto, entry_upto]) l (fun p _ => absent1_spec _ (by simp [AObj.upto, uptoL, AVal.upto, zeroPat, Data.map_upto, entry_upto]) 2 n rfl p)), later_intro ?_⟩)
        simp -dsimp only [↓vpre, vpos, Int.reduceNeg, Int.reduceLE, Int.reduceLT, reduceIte, Nat.reduceEqDiff, Nat.reduceLT, Nat.reduceLeDiff, Nat.reduceAdd, Nat.reduceMul, Nat.reduceSub, Nat.reducePow, ne_eq, Int.reduceAdd, Int.reduceSub, Int.reduceMul, Int.reduceToNat, implies_true, vtab]
        refine at_intro ?_
        simp -dsimp only [vend, ne_eq, Nat.reduceEqDiff, reduceCtorEq]
        first | refine awp_seq (awp_cond rfl (fun h => ?_) (fun h => ?_)) | refine awp_cond rfl (fun h => ?_) (fun h => ?_) | refine awp_seq (awp_seq (awp_cond rfl (fun h => ?_) (fun h => ?_)))
        · refine awp_skip ?_
          simp -dsimp only [vend, ne_eq, Nat.reduceEqDiff, reduceCtorEq]
          have hmem : (n : Int) ∈ l.map Pat.n := by
            obtain ⟨q, hq, e⟩ := List.any_eq_true.1 h
            exact List.mem_map.2 ⟨q, hq, by simpa using e⟩
          have hj' : ∀ j : Nat, j < n + 1 → (j : Int) ∈ l.map Pat.n := fun j hj1 => by
            rcases Nat.lt_succ_iff_lt_or_eq.1 hj1 with q | q
            · exact hj j q
            · rw [q]
              exact hmem
          have hpg := pigeon (n + 1) _ hj'
          simp only [List.length_map] at hpg
          have he' : nextN l 0 (r.length + 2) = nextN l (n + 1) (r.length + 2 - (n + 1)) := by
            rw [he, show r.length + 2 - n = (r.length + 2 - (n + 1)) + 1 by omega, nextN, h]
            rfl
          first | refine awp_seq (awp_block ?_) | refine awp_block ?_
          first | refine awp_seq (awp_region hT hm ?_) | refine awp_region hT hm ?_ | refine awp_seq (awp_seq (awp_region hT hm ?_)) | refine awp_seq (awp_seq (awp_seq (awp_region hT hm ?_)))
          simp -dsimp only [↓vpre, vpos, Int.reduceNeg, Int.reduceLE, Int.reduceLT, reduceIte, Nat.reduceEqDiff, Nat.reduceLT, Nat.reduceLeDiff, Nat.reduceAdd, Nat.reduceMul, Nat.reduceSub, Nat.reducePow, ne_eq, Int.reduceAdd, Int.reduceSub, Int.reduceMul, Int.reduceToNat, implies_true, vtab]
          refine ⟨by omega, by omega, ?_⟩
          refine at_intro ?_
          simp -dsimp only [vend, ne_eq, Nat.reduceEqDiff, reduceCtorEq]
          refine ⟨⟨n + 1, hpg, hj', he'⟩, by simp; omega, ?_⟩
          refine ⟨rfl, ?_, ?_⟩
          rotate_left
          simp -dsimp only [↓vpre, vpos, Int.reduceNeg, Int.reduceLE, Int.reduceLT, reduceIte, Nat.reduceEqDiff, Nat.reduceLT, Nat.reduceLeDiff, Nat.reduceAdd, Nat.reduceMul, Nat.reduceSub, Nat.reducePow, ne_eq, Int.reduceAdd, Int.reduceSub, Int.reduceMul, Int.reduceToNat, implies_true, vtab, Says, exists_eq_left', Option.some.injEq, sub_self, and_assoc, true_and, and_true]
          rfl
        · refine awp_exit ?_
          simp -dsimp only [vend, ne_eq, Nat.reduceEqDiff, reduceCtorEq]
          first | refine awp_seq (awp_region hT hm ?_) | refine awp_region hT hm ?_ | refine awp_seq (awp_seq (awp_region hT hm ?_)) | refine awp_seq (awp_seq (awp_seq (awp_region hT hm ?_)))
          simp -dsimp only [↓vpre, vpos, Int.reduceNeg, Int.reduceLE, Int.reduceLT, reduceIte, Nat.reduceEqDiff, Nat.reduceLT, Nat.reduceLeDiff, Nat.reduceAdd, Nat.reduceMul, Nat.reduceSub, Nat.reducePow, ne_eq, Int.reduceAdd, Int.reduceSub, Int.reduceMul, Int.reduceToNat, implies_true, vtab, zeroPat]
          refine at_intro ?_
          simp -dsimp only [vend, ne_eq, Nat.reduceEqDiff, reduceCtorEq]
          refine awp_ret ?_
          simp -dsimp only [↓vpre, vpos, Int.reduceNeg, Int.reduceLE, Int.reduceLT, reduceIte, Nat.reduceEqDiff, Nat.reduceLT, Nat.reduceLeDiff, Nat.reduceAdd, Nat.reduceMul, Nat.reduceSub, Nat.reducePow, ne_eq, Int.reduceAdd, Int.reduceSub, Int.reduceMul, Int.reduceToNat, implies_true, vtab, RetTo, Try.results43, retVals, retVal, mkRet, AVal.upto, Nat.zero_le, Nat.le_refl, seqPost_ret, blockPost_ret, loopPost_ret]
          rw [he, nextN_stop h]
          exact ⟨by simp [uptoL, AVal.upto], rfl⟩
    · cases h

theorem zero_K' (l : List (ByteArray × K)) (s : ByteArray) : ((find l s).map K.enc).getD (.agg [.v (.int .i64 0), .v (.int .i64 0), .v (.int .i64 0)]) = .agg [.v (.int .i64 ((find l s).getD K.zero).data), .v (.int .i64 ((find l s).getD K.zero).pos), .v (.int .i64 ((find l s).getD K.zero).many)] := look_zero l s _ rfl

theorem absent_con (t : Tbl) (p : Pat) (r : List Pat) (hk : ¬ p.kind = 2) (d : Data) (hd : t.datas[(t.con p.name).data]? = some d) (hsm : ∀ c ∈ d.cons, c.args.length ≤ 2513169434843) :
    PCall Try.prog 43 [t.enc, eR (p :: r)] (absentRes ((absentCon (p :: r) d.cons).map fun c => .mk 3 c.name 0 (List.replicate c.args.length Pat.any))) := by
  obtain ⟨l, hl⟩ : ∃ l, l = p :: r := ⟨_, rfl⟩
  have hlen : l.length = r.length + 1 := by rw [hl]; rfl
  have hl' : (AVal.lst 4 (p.enc :: List.map Pat.enc r) .sh) = eR l := by rw [hl]; rfl
  rw [Tbl.con] at hd
  refine ecall_of hT true 0 Try.func43 rfl (by kernel_rfl) (by simp [Try.ntmps43]) (by simp) ?_
  show AWP Try.prog _ _ _ ⟨56, _, _⟩
  dsimp only [Tmp, TypeId, slotsOf]
  first | refine awp_seq (awp_region hT hm ?_) | refine awp_region hT hm ?_ | refine awp_seq (awp_seq (awp_region hT hm ?_)) | refine awp_seq (awp_seq (awp_seq (awp_region hT hm ?_)))
  simp -dsimp only [↓vpre, vpos, Int.reduceNeg, Int.reduceLE, Int.reduceLT, reduceIte, Nat.reduceEqDiff, Nat.reduceLT, Nat.reduceLeDiff, Nat.reduceAdd, Nat.reduceMul, Nat.reduceSub, Nat.reducePow, ne_eq, Int.reduceAdd, Int.reduceSub, Int.reduceMul, Int.reduceToNat, implies_true, vtab]
  refine at_intro ?_
  simp -dsimp only [vend, ne_eq, Nat.reduceEqDiff, reduceCtorEq]
  first | refine awp_seq (awp_region hT hm ?_) | refine awp_region hT hm ?_ | refine awp_seq (awp_seq (awp_region hT hm ?_)) | refine awp_seq (awp_seq (awp_seq (awp_region hT hm ?_)))
  simp -dsimp only [↓vpre, vpos, Int.reduceNeg, Int.reduceLE, Int.reduceLT, reduceIte, Nat.reduceEqDiff, Nat.reduceLT, Nat.reduceLeDiff, Nat.reduceAdd, Nat.reduceMul, Nat.reduceSub, Nat.reducePow, ne_eq, Int.reduceAdd, Int.reduceSub, Int.reduceMul, Int.reduceToNat, implies_true, vtab]
  refine at_intro ?_
  simp -dsimp only [vend, ne_eq, Nat.reduceEqDiff, reduceCtorEq]
  first | refine awp_seq (awp_cond rfl (fun h => ?_) (fun h => ?_)) | refine awp_cond rfl (fun h => ?_) (fun h => ?_) | refine awp_seq (awp_seq (awp_cond rfl (fun h => ?_) (fun h => ?_)))
  · simp at h
    omega
  · refine awp_skip ?_
    simp -dsimp only [vend, ne_eq, Nat.reduceEqDiff, reduceCtorEq]
    first | refine awp_seq (awp_region hT hm ?_) | refine awp_region hT hm ?_ | refine awp_seq (awp_seq (awp_region hT hm ?_)) | refine awp_seq (awp_seq (awp_seq (awp_region hT hm ?_)))
    simp -dsimp only [↓vpre, vpos, Int.reduceNeg, Int.reduceLE, Int.reduceLT, reduceIte, Nat.reduceEqDiff, Nat.reduceLT, Nat.reduceLeDiff, Nat.reduceAdd, Nat.reduceMul, Nat.reduceSub, Nat.reducePow, ne_eq, Int.reduceAdd, Int.reduceSub, Int.reduceMul, Int.reduceToNat, implies_true, vtab]
    refine at_intro ?_
    simp -dsimp only [vend, ne_eq, Nat.reduceEqDiff, reduceCtorEq]
    first | refine awp_seq (awp_cond rfl (fun h => ?_) (fun h => ?_)) | refine awp_cond rfl (fun h => ?_) (fun h => ?_) | refine awp_seq (awp_seq (awp_cond rfl (fun h => ?_) (fun h => ?_)))
    · exact absurd (by simpa using h) hk
    · refine awp_skip ?_
      simp -dsimp only [vend, ne_eq, Nat.reduceEqDiff, reduceCtorEq]
      first | refine awp_seq (awp_region hT hm ?_) | refine awp_region hT hm ?_ | refine awp_seq (awp_seq (awp_region hT hm ?_)) | refine awp_seq (awp_seq (awp_seq (awp_region hT hm ?_)))
      simp -dsimp only [↓vpre, vpos, Int.reduceNeg, Int.reduceLE, Int.reduceLT, reduceIte, Nat.reduceEqDiff, Nat.reduceLT, Nat.reduceLeDiff, Nat.reduceAdd, Nat.reduceMul, Nat.reduceSub, Nat.reducePow, ne_eq, Int.reduceAdd, Int.reduceSub, Int.reduceMul, Int.reduceToNat, implies_true, vtab, zero_K', hd]
      refine ⟨?_, ?_⟩
      · (show orderB _ _ = true); kernel_rfl
      refine at_intro ?_
      simp -dsimp only [vend, ne_eq, Nat.reduceEqDiff, reduceCtorEq]
      refine awp_len 37 rfl (fun hlc => ?_)
      simp only [List.length_map] at hlc
      simp -dsimp only [hl', ← hl]
      first | refine awp_block (awp_loop (ι := {k : Nat // k ≤ d.cons.length ∧ absentCon l d.cons = absentCon l (d.cons.drop k)}) (fun k => ⟨56, [(1, eR l), (4, .mp 1 0), (37, eC d.cons), (38, aI d.cons.length), (39, aI k.1)], [.cells [.lst 3 (t.datas.map Data.enc) .sh, .im .str (t.cons.map entry)], .cells zeroPat]⟩) (fun k => d.cons.length - k.1) ⟨0, by omega, rfl⟩ ?_ ?_) | refine awp_seq (awp_block (awp_loop (ι := {k : Nat // k ≤ d.cons.length ∧ absentCon l d.cons = absentCon l (d.cons.drop k)}) (fun k => ⟨56, [(1, eR l), (4, .mp 1 0), (37, eC d.cons), (38, aI d.cons.length), (39, aI k.1)], [.cells [.lst 3 (t.datas.map Data.enc) .sh, .im .str (t.cons.map entry)], .cells zeroPat]⟩) (fun k => d.cons.length - k.1) ⟨0, by omega, rfl⟩ ?_ ?_))
      · refine ⟨rfl, ?_, ?_⟩
        rotate_left
        simp -dsimp only [↓vpre, vpos, Int.reduceNeg, Int.reduceLE, Int.reduceLT, reduceIte, Nat.reduceEqDiff, Nat.reduceLT, Nat.reduceLeDiff, Nat.reduceAdd, Nat.reduceMul, Nat.reduceSub, Nat.reducePow, ne_eq, Int.reduceAdd, Int.reduceSub, Int.reduceMul, Int.reduceToNat, implies_true, vtab, Says, exists_eq_left', Option.some.injEq, sub_self, and_assoc, true_and, and_true]
        rfl
      · rintro ⟨k, hkl, he⟩
        first | refine awp_seq (awp_region hT hm ?_) | refine awp_region hT hm ?_ | refine awp_seq (awp_seq (awp_region hT hm ?_)) | refine awp_seq (awp_seq (awp_seq (awp_region hT hm ?_)))
        simp -dsimp only [↓vpre, vpos, Int.reduceNeg, Int.reduceLE, Int.reduceLT, reduceIte, Nat.reduceEqDiff, Nat.reduceLT, Nat.reduceLeDiff, Nat.reduceAdd, Nat.reduceMul, Nat.reduceSub, Nat.reducePow, ne_eq, Int.reduceAdd, Int.reduceSub, Int.reduceMul, Int.reduceToNat, implies_true, vtab]
        refine at_intro ?_
        simp -dsimp only [vend, ne_eq, Nat.reduceEqDiff, reduceCtorEq]
        first | refine awp_seq (awp_cond rfl (fun h => ?_) (fun h => ?_)) | refine awp_cond rfl (fun h => ?_) (fun h => ?_) | refine awp_seq (awp_seq (awp_cond rfl (fun h => ?_) (fun h => ?_)))
        · refine awp_skip ?_
          simp -dsimp only [vend, ne_eq, Nat.reduceEqDiff, reduceCtorEq]
          have hlt : k < d.cons.length := by simpa using h
          obtain ⟨c, hc⟩ : ∃ c, d.cons[k]? = some c := ⟨d.cons[k], by simp [hlt]⟩
          have hdrop : d.cons.drop k = c :: d.cons.drop (k + 1) := by
            rw [List.drop_eq_getElem_cons hlt]
            rw [List.getElem?_eq_getElem hlt] at hc
            simp only [Option.some.injEq] at hc
            rw [hc]
          rw [hdrop, absentCon] at he
          have hcs := hsm c (List.mem_of_getElem? hc)
          first | refine awp_seq (awp_block ?_) | refine awp_block ?_
          first | refine awp_seq (awp_region hT hm ?_) | refine awp_region hT hm ?_ | refine awp_seq (awp_seq (awp_region hT hm ?_)) | refine awp_seq (awp_seq (awp_seq (awp_region hT hm ?_)))
          simp -dsimp only [↓vpre, vpos, Int.reduceNeg, Int.reduceLE, Int.reduceLT, reduceIte, Nat.reduceEqDiff, Nat.reduceLT, Nat.reduceLeDiff, Nat.reduceAdd, Nat.reduceMul, Nat.reduceSub, Nat.reducePow, ne_eq, Int.reduceAdd, Int.reduceSub, Int.reduceMul, Int.reduceToNat, implies_true, vtab, hc]
          refine at_intro ?_
          simp -dsimp only [vend, ne_eq, Nat.reduceEqDiff, reduceCtorEq]
          first | refine awp_seq (awp_region hT hm ?_) | refine awp_region hT hm ?_ | refine awp_seq (awp_seq (awp_region hT hm ?_)) | refine awp_seq (awp_seq (awp_seq (awp_region hT hm ?_)))
          simp -dsimp only [↓vpre, vpos, Int.reduceNeg, Int.reduceLE, Int.reduceLT, reduceIte, Nat.reduceEqDiff, Nat.reduceLT, Nat.reduceLeDiff, Nat.reduceAdd, Nat.reduceMul, Nat.reduceSub, Nat.reducePow, ne_eq, Int.reduceAdd, Int.reduceSub, Int.reduceMul, Int.reduceToNat, implies_true, vtab]
          refine .inr (.inr ⟨_, (containsFunc_spec (fun p => decide (p.name = c.name)) 78 [] [.mp 2 0] [.cells [.lst 3 (t.datas.map Data.enc) .sh, .im .str (t.cons.map entry)], .cells zeroPat, .cells [.v (.string c.name), .lst 4 (c.args.map Pat.enc) .sh]] (by simp [AObj.upto, uptoL, AVal.upto, zeroPat, Data.map_upto, entry_upto, Pat.map_upto]) l (fun p _ => absent2_spec _ (by simp [AObj.upto, uptoL, AVal.upto, zeroPat, Data.map_upto, entry_upto, Pat.map_upto]) 2 c.name _ rfl p)), later_intro ?_⟩)
          simp -dsimp only [↓vpre, vpos, Int.reduceNeg, Int.reduceLE, Int.reduceLT, reduceIte, Nat.reduceEqDiff, Nat.reduceLT, Nat.reduceLeDiff, Nat.reduceAdd, Nat.reduceMul, Nat.reduceSub, Nat.reducePow, ne_eq, Int.reduceAdd, Int.reduceSub, Int.reduceMul, Int.reduceToNat, implies_true, vtab]
          refine at_intro ?_
          simp -dsimp only [vend, ne_eq, Nat.reduceEqDiff, reduceCtorEq]
          first | refine awp_seq (awp_cond rfl (fun h => ?_) (fun h => ?_)) | refine awp_cond rfl (fun h => ?_) (fun h => ?_) | refine awp_seq (awp_seq (awp_cond rfl (fun h => ?_) (fun h => ?_)))
          · have hany : l.any (fun p => decide (p.name = c.name)) = false := by simpa using h
            rw [hany] at he
            simp only [Bool.false_eq_true, if_false] at he
            first | refine awp_seq (awp_region hT hm ?_) | refine awp_region hT hm ?_ | refine awp_seq (awp_seq (awp_region hT hm ?_)) | refine awp_seq (awp_seq (awp_seq (awp_region hT hm ?_)))
            simp -dsimp only [↓vpre, vpos, Int.reduceNeg, Int.reduceLE, Int.reduceLT, reduceIte, Nat.reduceEqDiff, Nat.reduceLT, Nat.reduceLeDiff, Nat.reduceAdd, Nat.reduceMul, Nat.reduceSub, Nat.reducePow, ne_eq, Int.reduceAdd, Int.reduceSub, Int.reduceMul, Int.reduceToNat, implies_true, vtab, zeroPat]
            refine .inl ⟨_, (anys_spec c.args.length (by omega)), by first | (simp only [uptoL, AVal.upto, and_true, true_and, and_self, Pat.enc_upto, Pat.map_upto, any_upto, Con.enc_upto, Con.map_upto, Data.enc_upto, Data.map_upto, Tbl.enc_upto, entry_upto]; done) | (simp [uptoL, AVal.upto, Pat.enc_upto, Pat.map_upto, any_upto, Con.enc_upto, Con.map_upto, Data.enc_upto, Data.map_upto, Tbl.enc_upto, entry_upto]; done), later_intro ?_⟩
            simp -dsimp only [↓vpre, vpos, Int.reduceNeg, Int.reduceLE, Int.reduceLT, reduceIte, Nat.reduceEqDiff, Nat.reduceLT, Nat.reduceLeDiff, Nat.reduceAdd, Nat.reduceMul, Nat.reduceSub, Nat.reducePow, ne_eq, Int.reduceAdd, Int.reduceSub, Int.reduceMul, Int.reduceToNat, implies_true, vtab, zeroPat]
            refine ⟨?_, ?_⟩
            · (show orderB _ _ = true); kernel_rfl
            refine at_intro ?_
            simp -dsimp only [vend, ne_eq, Nat.reduceEqDiff, reduceCtorEq]
            refine awp_ret ?_
            simp -dsimp only [↓vpre, vpos, Int.reduceNeg, Int.reduceLE, Int.reduceLT, reduceIte, Nat.reduceEqDiff, Nat.reduceLT, Nat.reduceLeDiff, Nat.reduceAdd, Nat.reduceMul, Nat.reduceSub, Nat.reducePow, ne_eq, Int.reduceAdd, Int.reduceSub, Int.reduceMul, Int.reduceToNat, implies_true, vtab, RetTo, Try.results43, retVals, retVal, mkRet, AVal.upto, Nat.zero_le, Nat.le_refl, seqPost_ret, blockPost_ret, loopPost_ret]
            rw [he]
            exact ⟨by simp [uptoL, AVal.upto, any_upto], by simp [absentRes, Pat.enc_eq, Pat.kind, Pat.name, Pat.n, Pat.args, lstOf]⟩
          · have hany : l.any (fun p => decide (p.name = c.name)) = true := by simpa using h
            rw [if_pos hany] at he
            refine awp_skip ?_
            simp -dsimp only [vend, ne_eq, Nat.reduceEqDiff, reduceCtorEq]
            refine awp_trunc' 2 [(1, eR l), (4, .mp 1 0), (37, eC d.cons), (38, aI d.cons.length), (39, aI k)] (by first | omega | (simp; done) | (simp; omega)) (by first | omega | (simp; done) | (simp; omega)) [.cells [.lst 3 (t.datas.map Data.enc) .sh, .im .str (t.cons.map entry)], .cells zeroPat] ?_ ?_ ?_ ?_ ?_
            · rfl
            · simp [AObj.upto, uptoL, AVal.upto, zeroPat, Data.map_upto, entry_upto, Pat.map_upto]
            · simp -dsimp only [↓vpre, vpos, Int.reduceNeg, Int.reduceLE, Int.reduceLT, reduceIte, Nat.reduceEqDiff, Nat.reduceLT, Nat.reduceLeDiff, Nat.reduceAdd, Nat.reduceMul, Nat.reduceSub, Nat.reducePow, ne_eq, Int.reduceAdd, Int.reduceSub, Int.reduceMul, Int.reduceToNat, implies_true, vtab, Says, exists_eq_left', Option.some.injEq, sub_self, and_true]
            · simp [AVal.upto, uptoL, Pat.map_upto, Con.map_upto]
            · first | refine awp_seq (awp_region hT hm ?_) | refine awp_region hT hm ?_ | refine awp_seq (awp_seq (awp_region hT hm ?_)) | refine awp_seq (awp_seq (awp_seq (awp_region hT hm ?_)))
              simp -dsimp only [↓vpre, vpos, Int.reduceNeg, Int.reduceLE, Int.reduceLT, reduceIte, Nat.reduceEqDiff, Nat.reduceLT, Nat.reduceLeDiff, Nat.reduceAdd, Nat.reduceMul, Nat.reduceSub, Nat.reducePow, ne_eq, Int.reduceAdd, Int.reduceSub, Int.reduceMul, Int.reduceToNat, implies_true, vtab]
              refine ⟨by omega, by omega, ?_⟩
              refine at_intro ?_
              simp -dsimp only [vend, ne_eq, Nat.reduceEqDiff, reduceCtorEq]
              refine ⟨⟨k + 1, hlt, he⟩, by simp; omega, ?_⟩
              refine ⟨rfl, ?_, ?_⟩
              rotate_left
              simp -dsimp only [↓vpre, vpos, Int.reduceNeg, Int.reduceLE, Int.reduceLT, reduceIte, Nat.reduceEqDiff, Nat.reduceLT, Nat.reduceLeDiff, Nat.reduceAdd, Nat.reduceMul, Nat.reduceSub, Nat.reducePow, ne_eq, Int.reduceAdd, Int.reduceSub, Int.reduceMul, Int.reduceToNat, implies_true, vtab, Says, exists_eq_left', Option.some.injEq, sub_self, and_assoc, true_and, and_true]
              · exact Sub.int (by simp)
              · rfl
        · refine awp_exit ?_
          simp -dsimp only [vend, ne_eq, Nat.reduceEqDiff, reduceCtorEq]
          have hkk : k = d.cons.length := by simp at h; omega
          subst hkk
          rw [List.drop_length] at he
          first | refine awp_seq (awp_region hT hm ?_) | refine awp_region hT hm ?_ | refine awp_seq (awp_seq (awp_region hT hm ?_)) | refine awp_seq (awp_seq (awp_seq (awp_region hT hm ?_)))
          simp -dsimp only [↓vpre, vpos, Int.reduceNeg, Int.reduceLE, Int.reduceLT, reduceIte, Nat.reduceEqDiff, Nat.reduceLT, Nat.reduceLeDiff, Nat.reduceAdd, Nat.reduceMul, Nat.reduceSub, Nat.reducePow, ne_eq, Int.reduceAdd, Int.reduceSub, Int.reduceMul, Int.reduceToNat, implies_true, vtab, zeroPat]
          refine at_intro ?_
          simp -dsimp only [vend, ne_eq, Nat.reduceEqDiff, reduceCtorEq]
          refine awp_ret ?_
          simp -dsimp only [↓vpre, vpos, Int.reduceNeg, Int.reduceLE, Int.reduceLT, reduceIte, Nat.reduceEqDiff, Nat.reduceLT, Nat.reduceLeDiff, Nat.reduceAdd, Nat.reduceMul, Nat.reduceSub, Nat.reducePow, ne_eq, Int.reduceAdd, Int.reduceSub, Int.reduceMul, Int.reduceToNat, implies_true, vtab, RetTo, Try.results43, retVals, retVal, mkRet, AVal.upto, Nat.zero_le, Nat.le_refl, seqPost_ret, blockPost_ret, loopPost_ret]
          rw [he]
          exact ⟨by simp [uptoL, AVal.upto], rfl⟩

end Go.Proofs.Ytakdmelemfnmdaa
end

section
set_option linter.unusedSimpArgs false
set_option maxHeartbeats 1000000
-- !tab vtab
-- !upto Pat.enc_upto Pat.map_upto any_upto Con.enc_upto Con.map_upto Data.enc_upto Data.map_upto Tbl.enc_upto entry_upto
namespace Go.Proofs.Ytakdmelemfnmdaa
open Go.Av

/-- Clone, where nobody writes what it hands back. -/
theorem clone_pure (l : List Pat) (hb : l.length ≤ 2 ^ 30) : PCall Try.prog 46 [eR l] (eR l) := by
  refine ecall_of hT true 0 Try.func46 rfl (by kernel_rfl) (by simp [Try.ntmps46]) (by simp) ?_
  show AWP Try.prog _ _ _ ⟨8, _, _⟩
  dsimp only [Tmp, TypeId, slotsOf]
  first | refine awp_seq (awp_region hT hm ?_) | refine awp_region hT hm ?_ | refine awp_seq (awp_seq (awp_region hT hm ?_)) | refine awp_seq (awp_seq (awp_seq (awp_region hT hm ?_)))
  simp -dsimp only [↓vpre, vpos, Int.reduceNeg, Int.reduceLE, Int.reduceLT, reduceIte, Nat.reduceEqDiff, Nat.reduceLT, Nat.reduceLeDiff, Nat.reduceAdd, Nat.reduceMul, Nat.reduceSub, Nat.reducePow, ne_eq, Int.reduceAdd, Int.reduceSub, Int.reduceMul, Int.reduceToNat, implies_true, vtab]
  refine at_intro ?_
  simp -dsimp only [vend, ne_eq, Nat.reduceEqDiff, reduceCtorEq]
  refine awp_nilsplit 0 rfl (fun hnil => ?_) ?_
  · simp -dsimp only [↓vpre, vpos, Int.reduceNeg, Int.reduceLE, Int.reduceLT, reduceIte, Nat.reduceEqDiff, Nat.reduceLT, Nat.reduceLeDiff, Nat.reduceAdd, Nat.reduceMul, Nat.reduceSub, Nat.reducePow, ne_eq, Int.reduceAdd, Int.reduceSub, Int.reduceMul, Int.reduceToNat, implies_true, vtab]
    first | refine awp_seq (awp_region hT hm ?_) | refine awp_region hT hm ?_ | refine awp_seq (awp_seq (awp_region hT hm ?_)) | refine awp_seq (awp_seq (awp_seq (awp_region hT hm ?_)))
    simp -dsimp only [↓vpre, vpos, Int.reduceNeg, Int.reduceLE, Int.reduceLT, reduceIte, Nat.reduceEqDiff, Nat.reduceLT, Nat.reduceLeDiff, Nat.reduceAdd, Nat.reduceMul, Nat.reduceSub, Nat.reducePow, ne_eq, Int.reduceAdd, Int.reduceSub, Int.reduceMul, Int.reduceToNat, implies_true, vtab]
    refine at_intro ?_
    simp -dsimp only [vend, ne_eq, Nat.reduceEqDiff, reduceCtorEq]
    first | refine awp_seq (awp_cond rfl (fun h => ?_) (fun h => ?_)) | refine awp_cond rfl (fun h => ?_) (fun h => ?_) | refine awp_seq (awp_seq (awp_cond rfl (fun h => ?_) (fun h => ?_)))
    · first | refine awp_seq (awp_region hT hm ?_) | refine awp_region hT hm ?_ | refine awp_seq (awp_seq (awp_region hT hm ?_)) | refine awp_seq (awp_seq (awp_seq (awp_region hT hm ?_)))
      simp -dsimp only [↓vpre, vpos, Int.reduceNeg, Int.reduceLE, Int.reduceLT, reduceIte, Nat.reduceEqDiff, Nat.reduceLT, Nat.reduceLeDiff, Nat.reduceAdd, Nat.reduceMul, Nat.reduceSub, Nat.reducePow, ne_eq, Int.reduceAdd, Int.reduceSub, Int.reduceMul, Int.reduceToNat, implies_true, vtab]
      refine at_intro ?_
      simp -dsimp only [vend, ne_eq, Nat.reduceEqDiff, reduceCtorEq]
      refine awp_ret ?_
      simp -dsimp only [↓vpre, vpos, Int.reduceNeg, Int.reduceLE, Int.reduceLT, reduceIte, Nat.reduceEqDiff, Nat.reduceLT, Nat.reduceLeDiff, Nat.reduceAdd, Nat.reduceMul, Nat.reduceSub, Nat.reducePow, ne_eq, Int.reduceAdd, Int.reduceSub, Int.reduceMul, Int.reduceToNat, implies_true, vtab, RetTo, Try.results46, retVals, retVal, mkRet, AVal.upto, Nat.zero_le, Nat.le_refl, seqPost_ret, blockPost_ret, loopPost_ret]
      simpa [uptoL] using hnil
    · cases h
  · simp -dsimp only [↓vpre, vpos, Int.reduceNeg, Int.reduceLE, Int.reduceLT, reduceIte, Nat.reduceEqDiff, Nat.reduceLT, Nat.reduceLeDiff, Nat.reduceAdd, Nat.reduceMul, Nat.reduceSub, Nat.reducePow, ne_eq, Int.reduceAdd, Int.reduceSub, Int.reduceMul, Int.reduceToNat, implies_true, vtab]
    first | refine awp_seq (awp_region hT hm ?_) | refine awp_region hT hm ?_ | refine awp_seq (awp_seq (awp_region hT hm ?_)) | refine awp_seq (awp_seq (awp_seq (awp_region hT hm ?_)))
    simp -dsimp only [↓vpre, vpos, Int.reduceNeg, Int.reduceLE, Int.reduceLT, reduceIte, Nat.reduceEqDiff, Nat.reduceLT, Nat.reduceLeDiff, Nat.reduceAdd, Nat.reduceMul, Nat.reduceSub, Nat.reducePow, ne_eq, Int.reduceAdd, Int.reduceSub, Int.reduceMul, Int.reduceToNat, implies_true, vtab]
    refine at_intro ?_
    simp -dsimp only [vend, ne_eq, Nat.reduceEqDiff, reduceCtorEq]
    first | refine awp_seq (awp_cond rfl (fun h => ?_) (fun h => ?_)) | refine awp_cond rfl (fun h => ?_) (fun h => ?_) | refine awp_seq (awp_seq (awp_cond rfl (fun h => ?_) (fun h => ?_)))
    · cases h
    · refine awp_skip ?_
      simp -dsimp only [vend, ne_eq, Nat.reduceEqDiff, reduceCtorEq]
      first | refine awp_seq (awp_region hT hm ?_) | refine awp_region hT hm ?_ | refine awp_seq (awp_seq (awp_region hT hm ?_)) | refine awp_seq (awp_seq (awp_seq (awp_region hT hm ?_)))
      simp -dsimp only [↓vpre, vpos, Int.reduceNeg, Int.reduceLE, Int.reduceLT, reduceIte, Nat.reduceEqDiff, Nat.reduceLT, Nat.reduceLeDiff, Nat.reduceAdd, Nat.reduceMul, Nat.reduceSub, Nat.reducePow, ne_eq, Int.reduceAdd, Int.reduceSub, Int.reduceMul, Int.reduceToNat, implies_true, vtab]
      refine ⟨by omega, by omega, ?_⟩
      refine at_intro ?_
      simp -dsimp only [vend, ne_eq, Nat.reduceEqDiff, reduceCtorEq]
      refine awp_ret ?_
      simp -dsimp only [↓vpre, vpos, Int.reduceNeg, Int.reduceLE, Int.reduceLT, reduceIte, Nat.reduceEqDiff, Nat.reduceLT, Nat.reduceLeDiff, Nat.reduceAdd, Nat.reduceMul, Nat.reduceSub, Nat.reducePow, ne_eq, Int.reduceAdd, Int.reduceSub, Int.reduceMul, Int.reduceToNat, implies_true, vtab, RetTo, Try.results46, retVals, retVal, mkRet, AVal.upto, Nat.zero_le, Nat.le_refl, seqPost_ret, blockPost_ret, loopPost_ret]


end Go.Proofs.Ytakdmelemfnmdaa
end

section
set_option linter.unusedSimpArgs false
set_option maxHeartbeats 1000000
-- !tab vtab
-- !upto Pat.enc_upto Pat.map_upto any_upto Con.enc_upto Con.map_upto Data.enc_upto Data.map_upto Tbl.enc_upto entry_upto
namespace Go.Proofs.Ytakdmelemfnmdaa
open Go.Av

abbrev eI (l : List Int) : AVal := .lst 1 (l.map aI) .sh

theorem int_upto (n : Nat) (l : List Int) : uptoL n (l.map aI) := by
  rw [uptoL_iff]
  intro x hx
  obtain ⟨c, _, rfl⟩ := List.mem_map.1 hx
  trivial

theorem hasInt_spec (l : List Int) (x : Int) : PCall Try.prog 14 [eI l, aI x] (.v (.bool (decide (x ∈ l)))) := by
  refine ecall_of hT true 0 Try.func14 rfl (by kernel_rfl) (by simp [Try.ntmps14]) (by simp) ?_
  show AWP Try.prog _ _ _ ⟨17, _, _⟩
  dsimp only [Tmp, TypeId, slotsOf]
  first | refine awp_seq (awp_region hT hm ?_) | refine awp_region hT hm ?_ | refine awp_seq (awp_seq (awp_region hT hm ?_)) | refine awp_seq (awp_seq (awp_seq (awp_region hT hm ?_)))
  simp -dsimp only [↓vpre, vpos, Int.reduceNeg, Int.reduceLE, Int.reduceLT, reduceIte, Nat.reduceEqDiff, Nat.reduceLT, Nat.reduceLeDiff, Nat.reduceAdd, Nat.reduceMul, Nat.reduceSub, Nat.reducePow, ne_eq, Int.reduceAdd, Int.reduceSub, Int.reduceMul, Int.reduceToNat, implies_true, vtab]
  refine at_intro ?_
  simp -dsimp only [vend, ne_eq, Nat.reduceEqDiff, reduceCtorEq]
  refine awp_len 0 rfl (fun hlen => ?_)
  simp only [List.length_map] at hlen
  first | refine awp_seq (awp_region hT hm ?_) | refine awp_region hT hm ?_ | refine awp_seq (awp_seq (awp_region hT hm ?_)) | refine awp_seq (awp_seq (awp_seq (awp_region hT hm ?_)))
  simp -dsimp only [↓vpre, vpos, Int.reduceNeg, Int.reduceLE, Int.reduceLT, reduceIte, Nat.reduceEqDiff, Nat.reduceLT, Nat.reduceLeDiff, Nat.reduceAdd, Nat.reduceMul, Nat.reduceSub, Nat.reducePow, ne_eq, Int.reduceAdd, Int.reduceSub, Int.reduceMul, Int.reduceToNat, implies_true, vtab]
  refine at_intro ?_
  simp -dsimp only [vend, ne_eq, Nat.reduceEqDiff, reduceCtorEq]
  first | refine awp_block (awp_loop (ι := {k : Nat // k ≤ l.length ∧ x ∉ l.take k}) (fun k => ⟨17, [(1, aI x), (7, eI l), (8, aI l.length), (9, aI k.1)], []⟩) (fun k => l.length - k.1) ⟨0, by omega, by simp⟩ ?_ ?_) | refine awp_seq (awp_block (awp_loop (ι := {k : Nat // k ≤ l.length ∧ x ∉ l.take k}) (fun k => ⟨17, [(1, aI x), (7, eI l), (8, aI l.length), (9, aI k.1)], []⟩) (fun k => l.length - k.1) ⟨0, by omega, by simp⟩ ?_ ?_))
  · refine ⟨rfl, ?_, ?_⟩
    rotate_left
    simp -dsimp only [↓vpre, vpos, Int.reduceNeg, Int.reduceLE, Int.reduceLT, reduceIte, Nat.reduceEqDiff, Nat.reduceLT, Nat.reduceLeDiff, Nat.reduceAdd, Nat.reduceMul, Nat.reduceSub, Nat.reducePow, ne_eq, Int.reduceAdd, Int.reduceSub, Int.reduceMul, Int.reduceToNat, implies_true, vtab, Says, exists_eq_left', Option.some.injEq, sub_self, and_assoc, true_and, and_true]
    rfl
  · rintro ⟨k, hk, hnot⟩
    first | refine awp_seq (awp_region hT hm ?_) | refine awp_region hT hm ?_ | refine awp_seq (awp_seq (awp_region hT hm ?_)) | refine awp_seq (awp_seq (awp_seq (awp_region hT hm ?_)))
    simp -dsimp only [↓vpre, vpos, Int.reduceNeg, Int.reduceLE, Int.reduceLT, reduceIte, Nat.reduceEqDiff, Nat.reduceLT, Nat.reduceLeDiff, Nat.reduceAdd, Nat.reduceMul, Nat.reduceSub, Nat.reducePow, ne_eq, Int.reduceAdd, Int.reduceSub, Int.reduceMul, Int.reduceToNat, implies_true, vtab]
    refine at_intro ?_
    simp -dsimp only [vend, ne_eq, Nat.reduceEqDiff, reduceCtorEq]
    first | refine awp_seq (awp_cond rfl (fun h => ?_) (fun h => ?_)) | refine awp_cond rfl (fun h => ?_) (fun h => ?_) | refine awp_seq (awp_seq (awp_cond rfl (fun h => ?_) (fun h => ?_)))
    · refine awp_skip ?_
      simp -dsimp only [vend, ne_eq, Nat.reduceEqDiff, reduceCtorEq]
      have hlt : k < l.length := by simpa using h
      obtain ⟨y, hy⟩ : ∃ y, l[k]? = some y := ⟨l[k], by simp [hlt]⟩
      first | refine awp_seq (awp_block ?_) | refine awp_block ?_
      first | refine awp_seq (awp_region hT hm ?_) | refine awp_region hT hm ?_ | refine awp_seq (awp_seq (awp_region hT hm ?_)) | refine awp_seq (awp_seq (awp_seq (awp_region hT hm ?_)))
      simp -dsimp only [↓vpre, vpos, Int.reduceNeg, Int.reduceLE, Int.reduceLT, reduceIte, Nat.reduceEqDiff, Nat.reduceLT, Nat.reduceLeDiff, Nat.reduceAdd, Nat.reduceMul, Nat.reduceSub, Nat.reducePow, ne_eq, Int.reduceAdd, Int.reduceSub, Int.reduceMul, Int.reduceToNat, implies_true, vtab, hy]
      refine at_intro ?_
      simp -dsimp only [vend, ne_eq, Nat.reduceEqDiff, reduceCtorEq]
      first | refine awp_seq (awp_region hT hm ?_) | refine awp_region hT hm ?_ | refine awp_seq (awp_seq (awp_region hT hm ?_)) | refine awp_seq (awp_seq (awp_seq (awp_region hT hm ?_)))
      simp -dsimp only [↓vpre, vpos, Int.reduceNeg, Int.reduceLE, Int.reduceLT, reduceIte, Nat.reduceEqDiff, Nat.reduceLT, Nat.reduceLeDiff, Nat.reduceAdd, Nat.reduceMul, Nat.reduceSub, Nat.reducePow, ne_eq, Int.reduceAdd, Int.reduceSub, Int.reduceMul, Int.reduceToNat, implies_true, vtab]
      refine at_intro ?_
      simp -dsimp only [vend, ne_eq, Nat.reduceEqDiff, reduceCtorEq]
      first | refine awp_seq (awp_cond rfl (fun h => ?_) (fun h => ?_)) | refine awp_cond rfl (fun h => ?_) (fun h => ?_) | refine awp_seq (awp_seq (awp_cond rfl (fun h => ?_) (fun h => ?_)))
      · have hxy : y = x := by simpa using h
        have hm1 := List.mem_of_getElem? hy
        rw [hxy] at hm1
        first | refine awp_seq (awp_region hT hm ?_) | refine awp_region hT hm ?_ | refine awp_seq (awp_seq (awp_region hT hm ?_)) | refine awp_seq (awp_seq (awp_seq (awp_region hT hm ?_)))
        simp -dsimp only [↓vpre, vpos, Int.reduceNeg, Int.reduceLE, Int.reduceLT, reduceIte, Nat.reduceEqDiff, Nat.reduceLT, Nat.reduceLeDiff, Nat.reduceAdd, Nat.reduceMul, Nat.reduceSub, Nat.reducePow, ne_eq, Int.reduceAdd, Int.reduceSub, Int.reduceMul, Int.reduceToNat, implies_true, vtab]
        refine at_intro ?_
        simp -dsimp only [vend, ne_eq, Nat.reduceEqDiff, reduceCtorEq]
        refine awp_ret ?_
        simp -dsimp only [↓vpre, vpos, Int.reduceNeg, Int.reduceLE, Int.reduceLT, reduceIte, Nat.reduceEqDiff, Nat.reduceLT, Nat.reduceLeDiff, Nat.reduceAdd, Nat.reduceMul, Nat.reduceSub, Nat.reducePow, ne_eq, Int.reduceAdd, Int.reduceSub, Int.reduceMul, Int.reduceToNat, implies_true, vtab, RetTo, Try.results14, retVals, retVal, mkRet, AVal.upto, Nat.zero_le, Nat.le_refl, seqPost_ret, blockPost_ret, loopPost_ret]
        simp [hm1]
      · have hxy : ¬ y = x := by simpa using h
        refine awp_skip ?_
        simp -dsimp only [vend, ne_eq, Nat.reduceEqDiff, reduceCtorEq]
        first | refine awp_seq (awp_region hT hm ?_) | refine awp_region hT hm ?_ | refine awp_seq (awp_seq (awp_region hT hm ?_)) | refine awp_seq (awp_seq (awp_seq (awp_region hT hm ?_)))
        simp -dsimp only [↓vpre, vpos, Int.reduceNeg, Int.reduceLE, Int.reduceLT, reduceIte, Nat.reduceEqDiff, Nat.reduceLT, Nat.reduceLeDiff, Nat.reduceAdd, Nat.reduceMul, Nat.reduceSub, Nat.reducePow, ne_eq, Int.reduceAdd, Int.reduceSub, Int.reduceMul, Int.reduceToNat, implies_true, vtab]
        refine ⟨by omega, by omega, ?_⟩
        refine at_intro ?_
        simp -dsimp only [vend, ne_eq, Nat.reduceEqDiff, reduceCtorEq]
        refine ⟨⟨k + 1, hlt, ?_⟩, by simp; omega, ?_⟩
        · rw [take_next hy]
          simp [hnot]
          exact fun e => hxy e.symm
        refine ⟨rfl, ?_, ?_⟩
        rotate_left
        simp -dsimp only [↓vpre, vpos, Int.reduceNeg, Int.reduceLE, Int.reduceLT, reduceIte, Nat.reduceEqDiff, Nat.reduceLT, Nat.reduceLeDiff, Nat.reduceAdd, Nat.reduceMul, Nat.reduceSub, Nat.reducePow, ne_eq, Int.reduceAdd, Int.reduceSub, Int.reduceMul, Int.reduceToNat, implies_true, vtab, Says, exists_eq_left', Option.some.injEq, sub_self, and_assoc, true_and, and_true]
        · exact Sub.int (by simp)
        · rfl
    · refine awp_exit ?_
      simp -dsimp only [vend, ne_eq, Nat.reduceEqDiff, reduceCtorEq]
      have hlt : k = l.length := by simp at h; omega
      subst hlt
      rw [List.take_length] at hnot
      first | refine awp_seq (awp_region hT hm ?_) | refine awp_region hT hm ?_ | refine awp_seq (awp_seq (awp_region hT hm ?_)) | refine awp_seq (awp_seq (awp_seq (awp_region hT hm ?_)))
      simp -dsimp only [↓vpre, vpos, Int.reduceNeg, Int.reduceLE, Int.reduceLT, reduceIte, Nat.reduceEqDiff, Nat.reduceLT, Nat.reduceLeDiff, Nat.reduceAdd, Nat.reduceMul, Nat.reduceSub, Nat.reducePow, ne_eq, Int.reduceAdd, Int.reduceSub, Int.reduceMul, Int.reduceToNat, implies_true, vtab]
      refine at_intro ?_
      simp -dsimp only [vend, ne_eq, Nat.reduceEqDiff, reduceCtorEq]
      refine awp_ret ?_
      simp -dsimp only [↓vpre, vpos, Int.reduceNeg, Int.reduceLE, Int.reduceLT, reduceIte, Nat.reduceEqDiff, Nat.reduceLT, Nat.reduceLeDiff, Nat.reduceAdd, Nat.reduceMul, Nat.reduceSub, Nat.reducePow, ne_eq, Int.reduceAdd, Int.reduceSub, Int.reduceMul, Int.reduceToNat, implies_true, vtab, RetTo, Try.results14, retVals, retVal, mkRet, AVal.upto, Nat.zero_le, Nat.le_refl, seqPost_ret, blockPost_ret, loopPost_ret]
      simp [hnot]

theorem sameInts_spec (a b : List Int) : PCall Try.prog 17 [eI a, eI b] (.v (.bool (decide (a = b)))) := by
  refine ecall_of hT true 0 Try.func17 rfl (by kernel_rfl) (by simp [Try.ntmps17]) (by simp) ?_
  show AWP Try.prog _ _ _ ⟨26, _, _⟩
  dsimp only [Tmp, TypeId, slotsOf]
  first | refine awp_seq (awp_region hT hm ?_) | refine awp_region hT hm ?_ | refine awp_seq (awp_seq (awp_region hT hm ?_)) | refine awp_seq (awp_seq (awp_seq (awp_region hT hm ?_)))
  simp -dsimp only [↓vpre, vpos, Int.reduceNeg, Int.reduceLE, Int.reduceLT, reduceIte, Nat.reduceEqDiff, Nat.reduceLT, Nat.reduceLeDiff, Nat.reduceAdd, Nat.reduceMul, Nat.reduceSub, Nat.reducePow, ne_eq, Int.reduceAdd, Int.reduceSub, Int.reduceMul, Int.reduceToNat, implies_true, vtab]
  refine at_intro ?_
  simp -dsimp only [vend, ne_eq, Nat.reduceEqDiff, reduceCtorEq]
  first | refine awp_seq (awp_region hT hm ?_) | refine awp_region hT hm ?_ | refine awp_seq (awp_seq (awp_region hT hm ?_)) | refine awp_seq (awp_seq (awp_seq (awp_region hT hm ?_)))
  simp -dsimp only [↓vpre, vpos, Int.reduceNeg, Int.reduceLE, Int.reduceLT, reduceIte, Nat.reduceEqDiff, Nat.reduceLT, Nat.reduceLeDiff, Nat.reduceAdd, Nat.reduceMul, Nat.reduceSub, Nat.reducePow, ne_eq, Int.reduceAdd, Int.reduceSub, Int.reduceMul, Int.reduceToNat, implies_true, vtab]
  refine at_intro ?_
  simp -dsimp only [vend, ne_eq, Nat.reduceEqDiff, reduceCtorEq]
  first | refine awp_seq (awp_cond rfl (fun h => ?_) (fun h => ?_)) | refine awp_cond rfl (fun h => ?_) (fun h => ?_) | refine awp_seq (awp_seq (awp_cond rfl (fun h => ?_) (fun h => ?_)))
  · have hne : ¬ a.length = b.length := by
      simp at h
      omega
    first | refine awp_seq (awp_region hT hm ?_) | refine awp_region hT hm ?_ | refine awp_seq (awp_seq (awp_region hT hm ?_)) | refine awp_seq (awp_seq (awp_seq (awp_region hT hm ?_)))
    simp -dsimp only [↓vpre, vpos, Int.reduceNeg, Int.reduceLE, Int.reduceLT, reduceIte, Nat.reduceEqDiff, Nat.reduceLT, Nat.reduceLeDiff, Nat.reduceAdd, Nat.reduceMul, Nat.reduceSub, Nat.reducePow, ne_eq, Int.reduceAdd, Int.reduceSub, Int.reduceMul, Int.reduceToNat, implies_true, vtab]
    refine at_intro ?_
    simp -dsimp only [vend, ne_eq, Nat.reduceEqDiff, reduceCtorEq]
    refine awp_ret ?_
    simp -dsimp only [↓vpre, vpos, Int.reduceNeg, Int.reduceLE, Int.reduceLT, reduceIte, Nat.reduceEqDiff, Nat.reduceLT, Nat.reduceLeDiff, Nat.reduceAdd, Nat.reduceMul, Nat.reduceSub, Nat.reducePow, ne_eq, Int.reduceAdd, Int.reduceSub, Int.reduceMul, Int.reduceToNat, implies_true, vtab, RetTo, Try.results17, retVals, retVal, mkRet, AVal.upto, Nat.zero_le, Nat.le_refl, seqPost_ret, blockPost_ret, loopPost_ret]
    have : ¬ a = b := fun e => hne (by rw [e])
    simp [this]
  · have hee : a.length = b.length := by
      simp at h
      omega
    refine awp_skip ?_
    simp -dsimp only [vend, ne_eq, Nat.reduceEqDiff, reduceCtorEq]
    refine awp_len 0 rfl (fun hlen => ?_)
    simp only [List.length_map] at hlen
    first | refine awp_seq (awp_region hT hm ?_) | refine awp_region hT hm ?_ | refine awp_seq (awp_seq (awp_region hT hm ?_)) | refine awp_seq (awp_seq (awp_seq (awp_region hT hm ?_)))
    simp -dsimp only [↓vpre, vpos, Int.reduceNeg, Int.reduceLE, Int.reduceLT, reduceIte, Nat.reduceEqDiff, Nat.reduceLT, Nat.reduceLeDiff, Nat.reduceAdd, Nat.reduceMul, Nat.reduceSub, Nat.reducePow, ne_eq, Int.reduceAdd, Int.reduceSub, Int.reduceMul, Int.reduceToNat, implies_true, vtab]
    refine at_intro ?_
    simp -dsimp only [vend, ne_eq, Nat.reduceEqDiff, reduceCtorEq]
    first | refine awp_block (awp_loop (ι := {k : Nat // k ≤ a.length ∧ a.take k = b.take k}) (fun k => ⟨26, [(1, eI b), (12, eI a), (13, aI a.length), (14, aI k.1)], []⟩) (fun k => a.length - k.1) ⟨0, by omega, by simp⟩ ?_ ?_) | refine awp_seq (awp_block (awp_loop (ι := {k : Nat // k ≤ a.length ∧ a.take k = b.take k}) (fun k => ⟨26, [(1, eI b), (12, eI a), (13, aI a.length), (14, aI k.1)], []⟩) (fun k => a.length - k.1) ⟨0, by omega, by simp⟩ ?_ ?_))
    · refine ⟨rfl, ?_, ?_⟩
      rotate_left
      simp -dsimp only [↓vpre, vpos, Int.reduceNeg, Int.reduceLE, Int.reduceLT, reduceIte, Nat.reduceEqDiff, Nat.reduceLT, Nat.reduceLeDiff, Nat.reduceAdd, Nat.reduceMul, Nat.reduceSub, Nat.reducePow, ne_eq, Int.reduceAdd, Int.reduceSub, Int.reduceMul, Int.reduceToNat, implies_true, vtab, Says, exists_eq_left', Option.some.injEq, sub_self, and_assoc, true_and, and_true]
      rfl
    · rintro ⟨k, hk, hs⟩
      first | refine awp_seq (awp_region hT hm ?_) | refine awp_region hT hm ?_ | refine awp_seq (awp_seq (awp_region hT hm ?_)) | refine awp_seq (awp_seq (awp_seq (awp_region hT hm ?_)))
      simp -dsimp only [↓vpre, vpos, Int.reduceNeg, Int.reduceLE, Int.reduceLT, reduceIte, Nat.reduceEqDiff, Nat.reduceLT, Nat.reduceLeDiff, Nat.reduceAdd, Nat.reduceMul, Nat.reduceSub, Nat.reducePow, ne_eq, Int.reduceAdd, Int.reduceSub, Int.reduceMul, Int.reduceToNat, implies_true, vtab]
      refine at_intro ?_
      simp -dsimp only [vend, ne_eq, Nat.reduceEqDiff, reduceCtorEq]
      first | refine awp_seq (awp_cond rfl (fun h => ?_) (fun h => ?_)) | refine awp_cond rfl (fun h => ?_) (fun h => ?_) | refine awp_seq (awp_seq (awp_cond rfl (fun h => ?_) (fun h => ?_)))
      · refine awp_skip ?_
        simp -dsimp only [vend, ne_eq, Nat.reduceEqDiff, reduceCtorEq]
        have hlt : k < a.length := by simpa using h
        obtain ⟨y, hy⟩ : ∃ y, a[k]? = some y := ⟨a[k], by simp [hlt]⟩
        obtain ⟨z, hz⟩ : ∃ z, b[k]? = some z := ⟨b[k]'(by omega), by simp [show k < b.length by omega]⟩
        first | refine awp_seq (awp_block ?_) | refine awp_block ?_
        first | refine awp_seq (awp_region hT hm ?_) | refine awp_region hT hm ?_ | refine awp_seq (awp_seq (awp_region hT hm ?_)) | refine awp_seq (awp_seq (awp_seq (awp_region hT hm ?_)))
        simp -dsimp only [↓vpre, vpos, Int.reduceNeg, Int.reduceLE, Int.reduceLT, reduceIte, Nat.reduceEqDiff, Nat.reduceLT, Nat.reduceLeDiff, Nat.reduceAdd, Nat.reduceMul, Nat.reduceSub, Nat.reducePow, ne_eq, Int.reduceAdd, Int.reduceSub, Int.reduceMul, Int.reduceToNat, implies_true, vtab, hy]
        refine at_intro ?_
        simp -dsimp only [vend, ne_eq, Nat.reduceEqDiff, reduceCtorEq]
        first | refine awp_seq (awp_region hT hm ?_) | refine awp_region hT hm ?_ | refine awp_seq (awp_seq (awp_region hT hm ?_)) | refine awp_seq (awp_seq (awp_seq (awp_region hT hm ?_)))
        simp -dsimp only [↓vpre, vpos, Int.reduceNeg, Int.reduceLE, Int.reduceLT, reduceIte, Nat.reduceEqDiff, Nat.reduceLT, Nat.reduceLeDiff, Nat.reduceAdd, Nat.reduceMul, Nat.reduceSub, Nat.reducePow, ne_eq, Int.reduceAdd, Int.reduceSub, Int.reduceMul, Int.reduceToNat, implies_true, vtab, hz]
        refine at_intro ?_
        simp -dsimp only [vend, ne_eq, Nat.reduceEqDiff, reduceCtorEq]
        first | refine awp_seq (awp_cond rfl (fun h => ?_) (fun h => ?_)) | refine awp_cond rfl (fun h => ?_) (fun h => ?_) | refine awp_seq (awp_seq (awp_cond rfl (fun h => ?_) (fun h => ?_)))
        · have hzy : ¬ z = y := by simpa using h
          first | refine awp_seq (awp_region hT hm ?_) | refine awp_region hT hm ?_ | refine awp_seq (awp_seq (awp_region hT hm ?_)) | refine awp_seq (awp_seq (awp_seq (awp_region hT hm ?_)))
          simp -dsimp only [↓vpre, vpos, Int.reduceNeg, Int.reduceLE, Int.reduceLT, reduceIte, Nat.reduceEqDiff, Nat.reduceLT, Nat.reduceLeDiff, Nat.reduceAdd, Nat.reduceMul, Nat.reduceSub, Nat.reducePow, ne_eq, Int.reduceAdd, Int.reduceSub, Int.reduceMul, Int.reduceToNat, implies_true, vtab]
          refine at_intro ?_
          simp -dsimp only [vend, ne_eq, Nat.reduceEqDiff, reduceCtorEq]
          refine awp_ret ?_
          simp -dsimp only [↓vpre, vpos, Int.reduceNeg, Int.reduceLE, Int.reduceLT, reduceIte, Nat.reduceEqDiff, Nat.reduceLT, Nat.reduceLeDiff, Nat.reduceAdd, Nat.reduceMul, Nat.reduceSub, Nat.reducePow, ne_eq, Int.reduceAdd, Int.reduceSub, Int.reduceMul, Int.reduceToNat, implies_true, vtab, RetTo, Try.results17, retVals, retVal, mkRet, AVal.upto, Nat.zero_le, Nat.le_refl, seqPost_ret, blockPost_ret, loopPost_ret]
          have : ¬ a = b := fun e => by
            subst e
            rw [hy] at hz
            simp only [Option.some.injEq] at hz
            exact hzy hz.symm
          simp [this]
        · have hzy : z = y := by simpa using h
          refine awp_skip ?_
          simp -dsimp only [vend, ne_eq, Nat.reduceEqDiff, reduceCtorEq]
          first | refine awp_seq (awp_region hT hm ?_) | refine awp_region hT hm ?_ | refine awp_seq (awp_seq (awp_region hT hm ?_)) | refine awp_seq (awp_seq (awp_seq (awp_region hT hm ?_)))
          simp -dsimp only [↓vpre, vpos, Int.reduceNeg, Int.reduceLE, Int.reduceLT, reduceIte, Nat.reduceEqDiff, Nat.reduceLT, Nat.reduceLeDiff, Nat.reduceAdd, Nat.reduceMul, Nat.reduceSub, Nat.reducePow, ne_eq, Int.reduceAdd, Int.reduceSub, Int.reduceMul, Int.reduceToNat, implies_true, vtab]
          refine ⟨by omega, by omega, ?_⟩
          refine at_intro ?_
          simp -dsimp only [vend, ne_eq, Nat.reduceEqDiff, reduceCtorEq]
          refine ⟨⟨k + 1, hlt, by rw [take_next hy, take_next hz, hs, hzy]⟩, by simp; omega, ?_⟩
          refine ⟨rfl, ?_, ?_⟩
          rotate_left
          simp -dsimp only [↓vpre, vpos, Int.reduceNeg, Int.reduceLE, Int.reduceLT, reduceIte, Nat.reduceEqDiff, Nat.reduceLT, Nat.reduceLeDiff, Nat.reduceAdd, Nat.reduceMul, Nat.reduceSub, Nat.reducePow, ne_eq, Int.reduceAdd, Int.reduceSub, Int.reduceMul, Int.reduceToNat, implies_true, vtab, Says, exists_eq_left', Option.some.injEq, sub_self, and_assoc, true_and, and_true]
          · exact Sub.int (by simp)
          · rfl
      · refine awp_exit ?_
        simp -dsimp only [vend, ne_eq, Nat.reduceEqDiff, reduceCtorEq]
        have hlt : k = a.length := by simp at h; omega
        subst hlt
        rw [List.take_length, hee, List.take_length] at hs
        first | refine awp_seq (awp_region hT hm ?_) | refine awp_region hT hm ?_ | refine awp_seq (awp_seq (awp_region hT hm ?_)) | refine awp_seq (awp_seq (awp_seq (awp_region hT hm ?_)))
        simp -dsimp only [↓vpre, vpos, Int.reduceNeg, Int.reduceLE, Int.reduceLT, reduceIte, Nat.reduceEqDiff, Nat.reduceLT, Nat.reduceLeDiff, Nat.reduceAdd, Nat.reduceMul, Nat.reduceSub, Nat.reducePow, ne_eq, Int.reduceAdd, Int.reduceSub, Int.reduceMul, Int.reduceToNat, implies_true, vtab]
        refine at_intro ?_
        simp -dsimp only [vend, ne_eq, Nat.reduceEqDiff, reduceCtorEq]
        refine awp_ret ?_
        simp -dsimp only [↓vpre, vpos, Int.reduceNeg, Int.reduceLE, Int.reduceLT, reduceIte, Nat.reduceEqDiff, Nat.reduceLT, Nat.reduceLeDiff, Nat.reduceAdd, Nat.reduceMul, Nat.reduceSub, Nat.reducePow, ne_eq, Int.reduceAdd, Int.reduceSub, Int.reduceMul, Int.reduceToNat, implies_true, vtab, RetTo, Try.results17, retVals, retVal, mkRet, AVal.upto, Nat.zero_le, Nat.le_refl, seqPost_ret, blockPost_ret, loopPost_ret]
        simp [hs]

end Go.Proofs.Ytakdmelemfnmdaa
end

section
set_option linter.unusedSimpArgs false
set_option maxHeartbeats 1000000
-- !tab vtab
-- !upto Pat.enc_upto Pat.map_upto any_upto Con.enc_upto Con.map_upto Data.enc_upto Data.map_upto Tbl.enc_upto entry_upto
namespace Go.Proofs.Ytakdmelemfnmdaa
open Go.Av

mutual
/-- How many patterns. -/
def Pat.nodes : Pat → Nat
  | .mk _ _ _ l => 1 + nodesL l
def nodesL : List Pat → Nat
  | [] => 0
  | p :: r => p.nodes + nodesL r
end

theorem Pat.nodes_eq (p : Pat) : p.nodes = 1 + nodesL p.args := by
  cases p
  rw [Pat.nodes]
  rfl

theorem nodesL_mem : ∀ {l : List Pat} {p : Pat}, p ∈ l → p.nodes ≤ nodesL l
  | q :: r, p, h => by
    rw [nodesL]
    rcases List.mem_cons.1 h with e | e
    · subst e
      omega
    · have := nodesL_mem e
      omega

theorem nodesL_len : ∀ l : List Pat, l.length ≤ nodesL l
  | [] => by simp
  | p :: r => by
    have := nodesL_len r
    rw [nodesL, Pat.nodes_eq]
    simp
    omega

mutual
def Pat.plain : Pat → Pat
  | .mk k s n l => if k = 1 then Pat.any else .mk k s n (plainL l)
def plainL : List Pat → List Pat
  | [] => []
  | p :: r => p.plain :: plainL r
end

theorem Pat.plain_eq (p : Pat) : p.plain = if p.kind = 1 then Pat.any else .mk p.kind p.name p.n (plainL p.args) := by
  cases p
  rw [Pat.plain]
  rfl

theorem plainL_map : ∀ l : List Pat, plainL l = l.map Pat.plain
  | [] => rfl
  | p :: r => by rw [plainL, plainL_map r]; rfl

theorem plain_spec (l : List Pat) (hb : nodesL l ≤ 2 ^ 30) : PCall Try.prog 15 [eR l] (eR (plainL l)) := by
  have hlen := nodesL_len l
  have ih : ∀ p ∈ l, PCall Try.prog 15 [eR p.args] (eR (plainL p.args)) := fun p hp => plain_spec p.args (by
    have h1 := nodesL_mem hp
    have h2 := p.nodes_eq
    omega)
  have ih0 : l ≠ [] → PCall Try.prog 15 [eR []] (eR []) := fun hne => plain_spec [] (by simp [nodesL])
  rw [plainL_map]
  refine ecall_of hT true 0 Try.func15 rfl (by kernel_rfl) (by simp [Try.ntmps15]) (by simp) ?_
  show AWP Try.prog _ _ _ ⟨26, _, _⟩
  dsimp only [Tmp, TypeId, slotsOf]
  first | refine awp_seq (awp_region hT hm ?_) | refine awp_region hT hm ?_ | refine awp_seq (awp_seq (awp_region hT hm ?_)) | refine awp_seq (awp_seq (awp_seq (awp_region hT hm ?_)))
  simp -dsimp only [↓vpre, vpos, Int.reduceNeg, Int.reduceLE, Int.reduceLT, reduceIte, Nat.reduceEqDiff, Nat.reduceLT, Nat.reduceLeDiff, Nat.reduceAdd, Nat.reduceMul, Nat.reduceSub, Nat.reducePow, ne_eq, Int.reduceAdd, Int.reduceSub, Int.reduceMul, Int.reduceToNat, implies_true, vtab]
  refine at_intro ?_
  simp -dsimp only [vend, ne_eq, Nat.reduceEqDiff, reduceCtorEq]
  first | refine awp_seq (awp_region hT hm ?_) | refine awp_region hT hm ?_ | refine awp_seq (awp_seq (awp_region hT hm ?_)) | refine awp_seq (awp_seq (awp_seq (awp_region hT hm ?_)))
  simp -dsimp only [↓vpre, vpos, Int.reduceNeg, Int.reduceLE, Int.reduceLT, reduceIte, Nat.reduceEqDiff, Nat.reduceLT, Nat.reduceLeDiff, Nat.reduceAdd, Nat.reduceMul, Nat.reduceSub, Nat.reducePow, ne_eq, Int.reduceAdd, Int.reduceSub, Int.reduceMul, Int.reduceToNat, implies_true, vtab]
  refine at_intro ?_
  simp -dsimp only [vend, ne_eq, Nat.reduceEqDiff, reduceCtorEq]
  refine awp_own 3 rfl ?_
  simp -dsimp only [↓vpre, vpos, Int.reduceNeg, Int.reduceLE, Int.reduceLT, reduceIte, Nat.reduceEqDiff, Nat.reduceLT, Nat.reduceLeDiff, Nat.reduceAdd, Nat.reduceMul, Nat.reduceSub, Nat.reducePow, ne_eq, Int.reduceAdd, Int.reduceSub, Int.reduceMul, Int.reduceToNat, implies_true, vtab]
  first | refine awp_seq (awp_region hT hm ?_) | refine awp_region hT hm ?_ | refine awp_seq (awp_seq (awp_region hT hm ?_)) | refine awp_seq (awp_seq (awp_seq (awp_region hT hm ?_)))
  simp -dsimp only [↓vpre, vpos, Int.reduceNeg, Int.reduceLE, Int.reduceLT, reduceIte, Nat.reduceEqDiff, Nat.reduceLT, Nat.reduceLeDiff, Nat.reduceAdd, Nat.reduceMul, Nat.reduceSub, Nat.reducePow, ne_eq, Int.reduceAdd, Int.reduceSub, Int.reduceMul, Int.reduceToNat, implies_true, vtab]
  refine at_intro ?_
  simp -dsimp only [vend, ne_eq, Nat.reduceEqDiff, reduceCtorEq]
  first | refine awp_block (awp_loop (ι := {k : Nat // k ≤ l.length}) (fun k => ⟨26, [(6, eR l), (7, aI l.length), (8, aI k.1), (3, .lst 4 (((l.take k.1).map Pat.plain).map Pat.enc) (.tok 0))], [.spare (l.take k.1).length]⟩) (fun k => l.length - k.1) ⟨0, by omega⟩ ?_ ?_) | refine awp_seq (awp_block (awp_loop (ι := {k : Nat // k ≤ l.length}) (fun k => ⟨26, [(6, eR l), (7, aI l.length), (8, aI k.1), (3, .lst 4 (((l.take k.1).map Pat.plain).map Pat.enc) (.tok 0))], [.spare (l.take k.1).length]⟩) (fun k => l.length - k.1) ⟨0, by omega⟩ ?_ ?_))
  · refine ⟨rfl, ?_, ?_⟩
    rotate_left
    simp -dsimp only [↓vpre, vpos, Int.reduceNeg, Int.reduceLE, Int.reduceLT, reduceIte, Nat.reduceEqDiff, Nat.reduceLT, Nat.reduceLeDiff, Nat.reduceAdd, Nat.reduceMul, Nat.reduceSub, Nat.reducePow, ne_eq, Int.reduceAdd, Int.reduceSub, Int.reduceMul, Int.reduceToNat, implies_true, vtab, Says, exists_eq_left', Option.some.injEq, sub_self, and_assoc, true_and, and_true]
    rfl
  · rintro ⟨k, hk⟩
    first | refine awp_seq (awp_region hT hm ?_) | refine awp_region hT hm ?_ | refine awp_seq (awp_seq (awp_region hT hm ?_)) | refine awp_seq (awp_seq (awp_seq (awp_region hT hm ?_)))
    simp -dsimp only [↓vpre, vpos, Int.reduceNeg, Int.reduceLE, Int.reduceLT, reduceIte, Nat.reduceEqDiff, Nat.reduceLT, Nat.reduceLeDiff, Nat.reduceAdd, Nat.reduceMul, Nat.reduceSub, Nat.reducePow, ne_eq, Int.reduceAdd, Int.reduceSub, Int.reduceMul, Int.reduceToNat, implies_true, vtab]
    refine at_intro ?_
    simp -dsimp only [vend, ne_eq, Nat.reduceEqDiff, reduceCtorEq]
    first | refine awp_seq (awp_cond rfl (fun h => ?_) (fun h => ?_)) | refine awp_cond rfl (fun h => ?_) (fun h => ?_) | refine awp_seq (awp_seq (awp_cond rfl (fun h => ?_) (fun h => ?_)))
    · refine awp_skip ?_
      simp -dsimp only [vend, ne_eq, Nat.reduceEqDiff, reduceCtorEq]
      have hlt : k < l.length := by simpa using h
      obtain ⟨p, hp⟩ : ∃ p, l[k]? = some p := ⟨l[k], by simp [hlt]⟩
      have hmem := List.mem_of_getElem? hp
      first | refine awp_seq (awp_block ?_) | refine awp_block ?_
      first | refine awp_seq (awp_region hT hm ?_) | refine awp_region hT hm ?_ | refine awp_seq (awp_seq (awp_region hT hm ?_)) | refine awp_seq (awp_seq (awp_seq (awp_region hT hm ?_)))
      simp -dsimp only [↓vpre, vpos, Int.reduceNeg, Int.reduceLE, Int.reduceLT, reduceIte, Nat.reduceEqDiff, Nat.reduceLT, Nat.reduceLeDiff, Nat.reduceAdd, Nat.reduceMul, Nat.reduceSub, Nat.reducePow, ne_eq, Int.reduceAdd, Int.reduceSub, Int.reduceMul, Int.reduceToNat, implies_true, vtab, hp]
      refine at_intro ?_
      simp -dsimp only [vend, ne_eq, Nat.reduceEqDiff, reduceCtorEq]
      first | refine awp_seq (awp_region hT hm ?_) | refine awp_region hT hm ?_ | refine awp_seq (awp_seq (awp_region hT hm ?_)) | refine awp_seq (awp_seq (awp_seq (awp_region hT hm ?_)))
      simp -dsimp only [↓vpre, vpos, Int.reduceNeg, Int.reduceLE, Int.reduceLT, reduceIte, Nat.reduceEqDiff, Nat.reduceLT, Nat.reduceLeDiff, Nat.reduceAdd, Nat.reduceMul, Nat.reduceSub, Nat.reducePow, ne_eq, Int.reduceAdd, Int.reduceSub, Int.reduceMul, Int.reduceToNat, implies_true, vtab]
      refine at_intro ?_
      simp -dsimp only [vend, ne_eq, Nat.reduceEqDiff, reduceCtorEq]
      have e : (l.take (k + 1)).map Pat.plain = (l.take k).map Pat.plain ++ [p.plain] := by
        rw [take_next hp]
        simp
      have htl : (l.take k).length = k := by simp; omega
      have htl' : (l.take (k + 1)).length = k + 1 := by simp; omega
      first | refine awp_seq (awp_cond rfl (fun h => ?_) (fun h => ?_)) | refine awp_cond rfl (fun h => ?_) (fun h => ?_) | refine awp_seq (awp_seq (awp_cond rfl (fun h => ?_) (fun h => ?_)))
      · have hk1 : p.kind = 1 := by simpa using h
        have hpl : p.plain = Pat.any := by rw [Pat.plain_eq, if_pos hk1]
        first | refine awp_seq (awp_region hT hm ?_) | refine awp_region hT hm ?_ | refine awp_seq (awp_seq (awp_region hT hm ?_)) | refine awp_seq (awp_seq (awp_seq (awp_region hT hm ?_)))
        simp -dsimp only [↓vpre, vpos, Int.reduceNeg, Int.reduceLE, Int.reduceLT, reduceIte, Nat.reduceEqDiff, Nat.reduceLT, Nat.reduceLeDiff, Nat.reduceAdd, Nat.reduceMul, Nat.reduceSub, Nat.reducePow, ne_eq, Int.reduceAdd, Int.reduceSub, Int.reduceMul, Int.reduceToNat, implies_true, vtab]
        refine at_intro ?_
        simp -dsimp only [vend, ne_eq, Nat.reduceEqDiff, reduceCtorEq]
        first | refine awp_seq (awp_region hT hm ?_) | refine awp_region hT hm ?_ | refine awp_seq (awp_seq (awp_region hT hm ?_)) | refine awp_seq (awp_seq (awp_seq (awp_region hT hm ?_)))
        simp -dsimp only [↓vpre, vpos, Int.reduceNeg, Int.reduceLE, Int.reduceLT, reduceIte, Nat.reduceEqDiff, Nat.reduceLT, Nat.reduceLeDiff, Nat.reduceAdd, Nat.reduceMul, Nat.reduceSub, Nat.reducePow, ne_eq, Int.reduceAdd, Int.reduceSub, Int.reduceMul, Int.reduceToNat, implies_true, vtab]
        refine .inl ⟨_, (ih0 (fun e => by rw [e] at hmem; cases hmem)), by first | (simp only [uptoL, AVal.upto, and_true, true_and, and_self, Pat.enc_upto, Pat.map_upto, any_upto, Con.enc_upto, Con.map_upto, Data.enc_upto, Data.map_upto, Tbl.enc_upto, entry_upto]; done) | (simp [uptoL, AVal.upto, Pat.enc_upto, Pat.map_upto, any_upto, Con.enc_upto, Con.map_upto, Data.enc_upto, Data.map_upto, Tbl.enc_upto, entry_upto]; done), later_intro ?_⟩
        simp -dsimp only [↓vpre, vpos, Int.reduceNeg, Int.reduceLE, Int.reduceLT, reduceIte, Nat.reduceEqDiff, Nat.reduceLT, Nat.reduceLeDiff, Nat.reduceAdd, Nat.reduceMul, Nat.reduceSub, Nat.reducePow, ne_eq, Int.reduceAdd, Int.reduceSub, Int.reduceMul, Int.reduceToNat, implies_true, vtab]
        refine at_intro ?_
        simp -dsimp only [vend, ne_eq, Nat.reduceEqDiff, reduceCtorEq]
        first | refine awp_seq (awp_region hT hm ?_) | refine awp_region hT hm ?_ | refine awp_seq (awp_seq (awp_region hT hm ?_)) | refine awp_seq (awp_seq (awp_seq (awp_region hT hm ?_)))
        simp -dsimp only [↓vpre, vpos, Int.reduceNeg, Int.reduceLE, Int.reduceLT, reduceIte, Nat.reduceEqDiff, Nat.reduceLT, Nat.reduceLeDiff, Nat.reduceAdd, Nat.reduceMul, Nat.reduceSub, Nat.reducePow, ne_eq, Int.reduceAdd, Int.reduceSub, Int.reduceMul, Int.reduceToNat, implies_true, vtab]
        refine ⟨by omega, by omega, ?_⟩
        refine at_intro ?_
        simp -dsimp only [vend, ne_eq, Nat.reduceEqDiff, reduceCtorEq]
        refine awp_trunc' 1 [(6, eR l), (7, aI l.length), (8, aI k), (3, .lst 4 (((l.take (k + 1)).map Pat.plain).map Pat.enc) (.tok 0))] (by first | omega | (simp; done) | (simp; omega)) (by first | omega | (simp; done) | (simp; omega)) [.spare (l.take (k + 1)).length] ?_ ?_ ?_ ?_ ?_
        · simp [htl, htl']
        · simp [AObj.upto]
        · simp -dsimp only [↓vpre, vpos, Int.reduceNeg, Int.reduceLE, Int.reduceLT, reduceIte, Nat.reduceEqDiff, Nat.reduceLT, Nat.reduceLeDiff, Nat.reduceAdd, Nat.reduceMul, Nat.reduceSub, Nat.reducePow, ne_eq, Int.reduceAdd, Int.reduceSub, Int.reduceMul, Int.reduceToNat, implies_true, vtab, Says, exists_eq_left', Option.some.injEq, sub_self, and_true, true_and]
          refine Sub.lst ?_
          rw [e, hpl, List.map_append]
          simp [Pat.enc_eq, Pat.kind, Pat.name, Pat.n, Pat.args, lstOf, Pat.any]
        · simp only [List.mem_cons, List.not_mem_nil, or_false, forall_eq_or_imp, forall_eq]
          exact ⟨⟨Pat.map_upto _ _, trivial⟩, trivial, trivial, Pat.map_upto _ _, Nat.lt_succ_self _⟩
        · first | refine awp_seq (awp_region hT hm ?_) | refine awp_region hT hm ?_ | refine awp_seq (awp_seq (awp_region hT hm ?_)) | refine awp_seq (awp_seq (awp_seq (awp_region hT hm ?_)))
          simp -dsimp only [↓vpre, vpos, Int.reduceNeg, Int.reduceLE, Int.reduceLT, reduceIte, Nat.reduceEqDiff, Nat.reduceLT, Nat.reduceLeDiff, Nat.reduceAdd, Nat.reduceMul, Nat.reduceSub, Nat.reducePow, ne_eq, Int.reduceAdd, Int.reduceSub, Int.reduceMul, Int.reduceToNat, implies_true, vtab]
          refine ⟨by omega, by omega, ?_⟩
          refine at_intro ?_
          simp -dsimp only [vend, ne_eq, Nat.reduceEqDiff, reduceCtorEq]
          refine ⟨⟨k + 1, hlt⟩, by simp; omega, ?_⟩
          refine ⟨rfl, ?_, ?_⟩
          rotate_left
          simp -dsimp only [↓vpre, vpos, Int.reduceNeg, Int.reduceLE, Int.reduceLT, reduceIte, Nat.reduceEqDiff, Nat.reduceLT, Nat.reduceLeDiff, Nat.reduceAdd, Nat.reduceMul, Nat.reduceSub, Nat.reducePow, ne_eq, Int.reduceAdd, Int.reduceSub, Int.reduceMul, Int.reduceToNat, implies_true, vtab, Says, exists_eq_left', Option.some.injEq, sub_self, and_assoc, true_and, and_true]
          · exact Sub.int (by simp)
          · rfl
      · have hk1 : ¬ p.kind = 1 := by simpa using h
        have hpl : p.plain = .mk p.kind p.name p.n (plainL p.args) := by rw [Pat.plain_eq, if_neg hk1]
        refine awp_skip ?_
        simp -dsimp only [vend, ne_eq, Nat.reduceEqDiff, reduceCtorEq]
        first | refine awp_seq (awp_region hT hm ?_) | refine awp_region hT hm ?_ | refine awp_seq (awp_seq (awp_region hT hm ?_)) | refine awp_seq (awp_seq (awp_seq (awp_region hT hm ?_)))
        simp -dsimp only [↓vpre, vpos, Int.reduceNeg, Int.reduceLE, Int.reduceLT, reduceIte, Nat.reduceEqDiff, Nat.reduceLT, Nat.reduceLeDiff, Nat.reduceAdd, Nat.reduceMul, Nat.reduceSub, Nat.reducePow, ne_eq, Int.reduceAdd, Int.reduceSub, Int.reduceMul, Int.reduceToNat, implies_true, vtab]
        refine .inl ⟨_, (ih p hmem), by first | (simp only [uptoL, AVal.upto, and_true, true_and, and_self, Pat.enc_upto, Pat.map_upto, any_upto, Con.enc_upto, Con.map_upto, Data.enc_upto, Data.map_upto, Tbl.enc_upto, entry_upto]; done) | (simp [uptoL, AVal.upto, Pat.enc_upto, Pat.map_upto, any_upto, Con.enc_upto, Con.map_upto, Data.enc_upto, Data.map_upto, Tbl.enc_upto, entry_upto]; done), later_intro ?_⟩
        simp -dsimp only [↓vpre, vpos, Int.reduceNeg, Int.reduceLE, Int.reduceLT, reduceIte, Nat.reduceEqDiff, Nat.reduceLT, Nat.reduceLeDiff, Nat.reduceAdd, Nat.reduceMul, Nat.reduceSub, Nat.reducePow, ne_eq, Int.reduceAdd, Int.reduceSub, Int.reduceMul, Int.reduceToNat, implies_true, vtab]
        refine at_intro ?_
        simp -dsimp only [vend, ne_eq, Nat.reduceEqDiff, reduceCtorEq]
        first | refine awp_seq (awp_region hT hm ?_) | refine awp_region hT hm ?_ | refine awp_seq (awp_seq (awp_region hT hm ?_)) | refine awp_seq (awp_seq (awp_seq (awp_region hT hm ?_)))
        simp -dsimp only [↓vpre, vpos, Int.reduceNeg, Int.reduceLE, Int.reduceLT, reduceIte, Nat.reduceEqDiff, Nat.reduceLT, Nat.reduceLeDiff, Nat.reduceAdd, Nat.reduceMul, Nat.reduceSub, Nat.reducePow, ne_eq, Int.reduceAdd, Int.reduceSub, Int.reduceMul, Int.reduceToNat, implies_true, vtab]
        refine ⟨by omega, by omega, ?_⟩
        refine at_intro ?_
        simp -dsimp only [vend, ne_eq, Nat.reduceEqDiff, reduceCtorEq]
        refine awp_trunc' 1 [(6, eR l), (7, aI l.length), (8, aI k), (3, .lst 4 (((l.take (k + 1)).map Pat.plain).map Pat.enc) (.tok 0))] (by first | omega | (simp; done) | (simp; omega)) (by first | omega | (simp; done) | (simp; omega)) [.spare (l.take (k + 1)).length] ?_ ?_ ?_ ?_ ?_
        · simp [htl, htl']
        · simp [AObj.upto]
        · simp -dsimp only [↓vpre, vpos, Int.reduceNeg, Int.reduceLE, Int.reduceLT, reduceIte, Nat.reduceEqDiff, Nat.reduceLT, Nat.reduceLeDiff, Nat.reduceAdd, Nat.reduceMul, Nat.reduceSub, Nat.reducePow, ne_eq, Int.reduceAdd, Int.reduceSub, Int.reduceMul, Int.reduceToNat, implies_true, vtab, Says, exists_eq_left', Option.some.injEq, sub_self, and_true, true_and]
          refine Sub.lst ?_
          rw [e, hpl, List.map_append]
          simp [Pat.enc_eq, Pat.kind, Pat.name, Pat.n, Pat.args, lstOf, Pat.any]
        · simp only [List.mem_cons, List.not_mem_nil, or_false, forall_eq_or_imp, forall_eq]
          exact ⟨⟨Pat.map_upto _ _, trivial⟩, trivial, trivial, Pat.map_upto _ _, Nat.lt_succ_self _⟩
        · first | refine awp_seq (awp_region hT hm ?_) | refine awp_region hT hm ?_ | refine awp_seq (awp_seq (awp_region hT hm ?_)) | refine awp_seq (awp_seq (awp_seq (awp_region hT hm ?_)))
          simp -dsimp only [↓vpre, vpos, Int.reduceNeg, Int.reduceLE, Int.reduceLT, reduceIte, Nat.reduceEqDiff, Nat.reduceLT, Nat.reduceLeDiff, Nat.reduceAdd, Nat.reduceMul, Nat.reduceSub, Nat.reducePow, ne_eq, Int.reduceAdd, Int.reduceSub, Int.reduceMul, Int.reduceToNat, implies_true, vtab]
          refine ⟨by omega, by omega, ?_⟩
          refine at_intro ?_
          simp -dsimp only [vend, ne_eq, Nat.reduceEqDiff, reduceCtorEq]
          refine ⟨⟨k + 1, hlt⟩, by simp; omega, ?_⟩
          refine ⟨rfl, ?_, ?_⟩
          rotate_left
          simp -dsimp only [↓vpre, vpos, Int.reduceNeg, Int.reduceLE, Int.reduceLT, reduceIte, Nat.reduceEqDiff, Nat.reduceLT, Nat.reduceLeDiff, Nat.reduceAdd, Nat.reduceMul, Nat.reduceSub, Nat.reducePow, ne_eq, Int.reduceAdd, Int.reduceSub, Int.reduceMul, Int.reduceToNat, implies_true, vtab, Says, exists_eq_left', Option.some.injEq, sub_self, and_assoc, true_and, and_true]
          · exact Sub.int (by simp)
          · rfl
    · refine awp_exit ?_
      simp -dsimp only [vend, ne_eq, Nat.reduceEqDiff, reduceCtorEq]
      have hlt : k = l.length := by simp at h; omega
      subst hlt
      first | refine awp_seq (awp_region hT hm ?_) | refine awp_region hT hm ?_ | refine awp_seq (awp_seq (awp_region hT hm ?_)) | refine awp_seq (awp_seq (awp_seq (awp_region hT hm ?_)))
      simp -dsimp only [↓vpre, vpos, Int.reduceNeg, Int.reduceLE, Int.reduceLT, reduceIte, Nat.reduceEqDiff, Nat.reduceLT, Nat.reduceLeDiff, Nat.reduceAdd, Nat.reduceMul, Nat.reduceSub, Nat.reducePow, ne_eq, Int.reduceAdd, Int.reduceSub, Int.reduceMul, Int.reduceToNat, implies_true, vtab]
      refine at_intro ?_
      simp -dsimp only [vend, ne_eq, Nat.reduceEqDiff, reduceCtorEq]
      refine awp_ret ?_
      simp -dsimp only [↓vpre, vpos, Int.reduceNeg, Int.reduceLE, Int.reduceLT, reduceIte, Nat.reduceEqDiff, Nat.reduceLT, Nat.reduceLeDiff, Nat.reduceAdd, Nat.reduceMul, Nat.reduceSub, Nat.reducePow, ne_eq, Int.reduceAdd, Int.reduceSub, Int.reduceMul, Int.reduceToNat, implies_true, vtab, RetTo, Try.results15, retVals, retVal, mkRet, AVal.upto, Nat.zero_le, Nat.le_refl, seqPost_ret, blockPost_ret, loopPost_ret, List.take_length]
termination_by SizeOf.sizeOf l
decreasing_by
  · have h1 := List.sizeOf_lt_of_mem hp
    cases p
    simp only [Pat.args]
    simp at h1
    omega
  · cases l with
    | nil => exact absurd rfl hne
    | cons q r =>
      have : 0 < SizeOf.sizeOf q := by
        cases q
        simp
        omega
      simp
      omega

end Go.Proofs.Ytakdmelemfnmdaa
end
