/-
  Texts bound together by a program of mine: T5, T6, T7, T8, T9, T10, T11, T12, T13, T14, T15, T16, T17, M1, M2, M3, T18, T19.
-/
import Derived.Test.YtakdmelemfnmdaaH2
set_option linter.all false

section
set_option linter.unusedSimpArgs false
-- !tab vtab
-- !upto Pat.enc_upto Pat.map_upto
namespace Go.Proofs.Ytakdmelemfnmdaa
open Go.Av

def zeroPat : List AVal := [.v (.int .i64 0), .v (.string ByteArray.empty), .v (.int .i64 0), .lst 4 [] .ex]

/-- What DeleteFunc leaves in the row. -/
def delCells (f : Pat → Bool) (l : List Pat) : List AVal :=
 cellsAll ((l.filter (fun p => !f p)).map Pat.enc) ++ (List.replicate (l.length - (l.filter (fun p => !f p)).length) zeroPat).flatten

theorem set_getElem?_same {α : Type} {l : List α} {i : Nat} {x : α} (h : l[i]? = some x) : l.set i x = l := by
 apply List.ext_getElem?
 intro j
 by_cases e : i = j
 ·subst e
  rw [List.getElem?_set_self (lt_of_getElem? h), h]
 ·rw [List.getElem?_set_ne e]

theorem deleteFunc_nil (f : Pat → Bool) (id : Nat) (O : List AObj) (hO : ∀ o ∈ O, o.upto O.length) : ECall Try.prog 73 O [eR [], .fn (.func id) [] []] fun r O' => r = eR [] ∧ O' = O := by
 refine ecall_of hT true O.length Try.func73 rfl (by kernel_rfl) (by simp [Try.ntmps73]) (by simp) ?_
 show AWP Try.prog _ _ _ ⟨42, _, _⟩
 dsimp only [Tmp, TypeId, slotsOf]
 first | refine zg1 ?_ | refine zg0 ?_ | refine zg2 ?_ | refine zg3 ?_
 simp -dsimp only [simprocAttr, ↓vpre, zp]
 refine at_intro ?_
 simp -dsimp only [vend, ne_eq, Nat.reduceEqDiff, reduceCtorEq]
 first | refine zg1 ?_ | refine zg0 ?_ | refine zg2 ?_ | refine zg3 ?_
 simp -dsimp only [simprocAttr, ↓vpre, zp]
 refine .inr (.inr ⟨_, (indexFunc_spec f id [] [] O hO [] (by simp)), later_intro ?_⟩)
 simp -dsimp only [simprocAttr, ↓vpre, zp]
 refine at_intro ?_
 simp -dsimp only [vend, ne_eq, Nat.reduceEqDiff, reduceCtorEq]
 first | refine zg1 ?_ | refine zg0 ?_ | refine zg2 ?_ | refine zg3 ?_
 simp -dsimp only [simprocAttr, ↓vpre, zp, idx, List.findIdx?_nil]
 refine at_intro ?_
 simp -dsimp only [vend, ne_eq, Nat.reduceEqDiff, reduceCtorEq]
 first | refine zk1 rfl (fun h => ?_) (fun h => ?_) | refine zk0 rfl (fun h => ?_) (fun h => ?_) | refine zk2 rfl (fun h => ?_) (fun h => ?_)
 ·first | refine zg1 ?_ | refine zg0 ?_ | refine zg2 ?_ | refine zg3 ?_
  simp -dsimp only [simprocAttr, ↓vpre, zp]
  refine at_intro ?_
  simp -dsimp only [vend, ne_eq, Nat.reduceEqDiff, reduceCtorEq]
  refine awp_ret ?_
  simp -dsimp only [simprocAttr, ↓vpre, zp, RetTo, Try.results73, retVals, retVal, mkRet, AVal.upto, Nat.zero_le, Nat.le_refl, seqPost_ret, blockPost_ret, loopPost_ret, List.take_length]
  simpa [uptoL] using hO
 ·simp at h

theorem filter_idx {f : Pat → Bool} {l : List Pat} {k : Nat} (h : idx f l = k) : k < l.length ∧ (l.take (k + 1)).filter (fun p => !f p) = l.take k := by
 unfold idx at h
 cases hx : l.findIdx? f with
 | none =>
  simp only [hx] at h
  omega
 | some j =>
  simp only [hx] at h
  have : j = k := by omega
  subst this
  rw [List.findIdx?_eq_some_iff_getElem] at hx
  obtain ⟨h1, h2, h3⟩ := hx
  refine ⟨h1, ?_⟩
  rw [take_next (List.getElem?_eq_getElem h1), List.filter_append]
  have : (l.take j).filter (fun p => !f p) = l.take j := by
   rw [List.filter_eq_self]
   intro p hp
   obtain ⟨i, hi⟩ := List.getElem?_of_mem hp
   have hlt := lt_of_getElem? hi
   simp only [List.length_take] at hlt
   rw [List.getElem?_take_of_lt (by omega), List.getElem?_eq_getElem (by omega)] at hi
   simp only [Option.some.injEq] at hi
   subst hi
   simpa using h3 i (by omega)
  rw [this]
  simp [h2]

theorem idx_neg {f : Pat → Bool} {l : List Pat} (h : idx f l = -1) : l.filter (fun p => !f p) = l := by
 unfold idx at h
 cases hx : l.findIdx? f with
 | none =>
  rw [List.findIdx?_eq_none_iff] at hx
  rw [List.filter_eq_self]
  intro p hp
  simp [hx p hp]
 | some j =>
  simp only [hx] at h
  omega

theorem idx_cases (f : Pat → Bool) (l : List Pat) : idx f l = -1 ∨ ∃ k : Nat, idx f l = k := by
 unfold idx
 cases l.findIdx? f with
 | none => exact .inl rfl
 | some j => exact .inr ⟨j, rfl⟩

structure DelInv (f : Pat → Bool) (l : List Pat) (j : Nat) (L : List Pat) : Prop where
 le : j ≤ l.length
 len : L.length = l.length
 lt : ((l.take j).filter (fun p => !f p)).length < j
 pre : L.take ((l.take j).filter (fun p => !f p)).length = (l.take j).filter (fun p => !f p)
 suf : L.drop j = l.drop j

theorem DelInv.get {f : Pat → Bool} {l L : List Pat} {j : Nat} (h : DelInv f l j L) {p : Pat} (hp : l[j]? = some p) : L[j]? = some p := by
 have h1 : (L.drop j)[0]? = (l.drop j)[0]? := by rw [h.suf]
 simpa [hp] using h1

theorem DelInv.keep {f : Pat → Bool} {l L : List Pat} {j : Nat} (h : DelInv f l j L) {p : Pat} (hp : l[j]? = some p) (hf : f p = false) : DelInv f l (j + 1) (L.set ((l.take j).filter (fun p => !f p)).length p) := by
 have hlt := lt_of_getElem? hp
 have e : (l.take (j + 1)).filter (fun p => !f p) = (l.take j).filter (fun p => !f p) ++ [p] := by
  rw [take_next hp, List.filter_append]
  simp [hf]
 have h1 := h.lt
 have h2 := h.len
 refine ⟨hlt, by simp [h2], by rw [e]; simp; omega, ?_, ?_⟩
 ·rw [e, List.length_append, List.length_singleton, take_next (x := p) (by rw [List.getElem?_set_self (by omega)]), List.take_set_of_le (by omega), h.pre]
 ·rw [List.drop_set_of_lt (by omega), show j + 1 = j + 1 from rfl, ← List.drop_drop, h.suf, List.drop_drop]

theorem DelInv.skip {f : Pat → Bool} {l L : List Pat} {j : Nat} (h : DelInv f l j L) {p : Pat} (hp : l[j]? = some p) (hf : f p = true) : DelInv f l (j + 1) L := by
 have hlt := lt_of_getElem? hp
 have e : (l.take (j + 1)).filter (fun p => !f p) = (l.take j).filter (fun p => !f p) := by
  rw [take_next hp, List.filter_append]
  simp [hf]
 have h1 := h.lt
 refine ⟨hlt, h.len, by rw [e]; omega, by rw [e]; exact h.pre, by rw [← List.drop_drop, h.suf, List.drop_drop]⟩

theorem deleteFunc_spec (f : Pat → Bool) (id : Nat) (hf : ∀ p : Pat, PCall Try.prog id [p.enc] (.v (.bool (f p)))) (O : List AObj) (hO : ∀ o ∈ O, o.upto O.length) (ob : Nat) (l : List Pat) (hb : l.length ≤ 2 ^ 30)
  (hob : O[ob]? = some (.cells (cellsAll (l.map Pat.enc)))) :
  ECall Try.prog 73 O [.ms ob 0 l.length l.length, .fn (.func id) [] []] fun r O' => r = .ms ob 0 (l.filter (fun p => !f p)).length l.length ∧ O' = O.set ob (.cells (delCells f l)) := by
 have hobl := lt_of_getElem? hob
 refine ecall_of hT true O.length Try.func73 rfl (by kernel_rfl) (by simp [Try.ntmps73]) (by simp) ?_
 show AWP Try.prog _ _ _ ⟨42, _, _⟩
 dsimp only [Tmp, TypeId, slotsOf]
 first | refine zg1 ?_ | refine zg0 ?_ | refine zg2 ?_ | refine zg3 ?_
 simp -dsimp only [simprocAttr, ↓vpre, zp]
 refine at_intro ?_
 simp -dsimp only [vend, ne_eq, Nat.reduceEqDiff, reduceCtorEq]
 first | refine zg1 ?_ | refine zg0 ?_ | refine zg2 ?_ | refine zg3 ?_
 simp -dsimp only [simprocAttr, ↓vpre, zp]
 refine .inr (.inr ⟨_, (indexFuncM_spec f id [] [] O hO ob l l.length hob hb (fun p _ => (hf p).use (by simp [uptoL, Pat.enc_upto]) O)), later_intro ?_⟩)
 simp -dsimp only [simprocAttr, ↓vpre, zp]
 refine at_intro ?_
 simp -dsimp only [vend, ne_eq, Nat.reduceEqDiff, reduceCtorEq]
 first | refine zg1 ?_ | refine zg0 ?_ | refine zg2 ?_ | refine zg3 ?_
 simp -dsimp only [simprocAttr, ↓vpre, zp]
 refine at_intro ?_
 simp -dsimp only [vend, ne_eq, Nat.reduceEqDiff, reduceCtorEq]
 first | refine zk1 rfl (fun h => ?_) (fun h => ?_) | refine zk0 rfl (fun h => ?_) (fun h => ?_) | refine zk2 rfl (fun h => ?_) (fun h => ?_)
 ·have hneg : idx f l = -1 := by simpa using h
  first | refine zg1 ?_ | refine zg0 ?_ | refine zg2 ?_ | refine zg3 ?_
  simp -dsimp only [simprocAttr, ↓vpre, zp]
  refine at_intro ?_
  simp -dsimp only [vend, ne_eq, Nat.reduceEqDiff, reduceCtorEq]
  refine awp_ret ?_
  simp -dsimp only [simprocAttr, ↓vpre, zp, RetTo, Try.results73, retVals, retVal, mkRet, AVal.upto, Nat.zero_le, Nat.le_refl, seqPost_ret, blockPost_ret, loopPost_ret, List.take_length]
  rw [idx_neg hneg]
  have e : O.set ob (.cells (delCells f l)) = O := by
   rw [delCells, idx_neg hneg, Nat.sub_self, List.replicate_zero, List.flatten_nil, List.append_nil]
   exact set_getElem?_same hob
  rw [e]
  exact ⟨hO, by omega, rfl, rfl⟩
 ·have hpos : idx f l ≠ -1 := by simpa using h
  obtain ⟨k, hk⟩ := (idx_cases f l).resolve_left hpos
  obtain ⟨hkl, hkf⟩ := filter_idx hk
  refine awp_skip ?_
  simp -dsimp only [vend, ne_eq, Nat.reduceEqDiff, reduceCtorEq]
  rw [hk]
  first | refine zg1 ?_ | refine zg0 ?_ | refine zg2 ?_ | refine zg3 ?_
  simp -dsimp only [simprocAttr, ↓vpre, zp]
  repeat (refine ⟨by omega, ?_⟩)
  refine at_intro ?_
  simp -dsimp only [vend, ne_eq, Nat.reduceEqDiff, reduceCtorEq]
  first | refine awp_block (awp_loop (ι := {q : Nat × List Pat // DelInv f l q.1 q.2}) (fun q => ⟨42, [(0, .ms ob 0 l.length l.length), (1, .fn (.func id) [] []), (5, .v (.int .i64 ((l.take q.1.1).filter (fun p => !f p)).length)), (6, .v (.int .i64 q.1.1))], O.set ob (.cells (cellsAll (q.1.2.map Pat.enc)))⟩) (fun q => l.length - q.1.1) ⟨(k + 1, l), ⟨hkl, rfl, by rw [hkf]; simp <;> omega, by rw [hkf]; simp <;> omega, rfl⟩⟩ ?_ ?_) | refine awp_seq (awp_block (awp_loop (ι := {q : Nat × List Pat // DelInv f l q.1 q.2}) (fun q => ⟨42, [(0, .ms ob 0 l.length l.length), (1, .fn (.func id) [] []), (5, .v (.int .i64 ((l.take q.1.1).filter (fun p => !f p)).length)), (6, .v (.int .i64 q.1.1))], O.set ob (.cells (cellsAll (q.1.2.map Pat.enc)))⟩) (fun q => l.length - q.1.1) ⟨(k + 1, l), ⟨hkl, rfl, by rw [hkf]; simp <;> omega, by rw [hkf]; simp <;> omega, rfl⟩⟩ ?_ ?_))
  ·refine ⟨rfl, ?_, ?_⟩
   rotate_left
   simp -dsimp only [simprocAttr, ↓vpre, zp, Says, exists_eq_left', Option.some.injEq, sub_self, and_assoc, true_and, and_true]
   ·refine ⟨Sub.int ?_, Sub.int (by simp)⟩
    rw [hkf]
    simp
    omega
   ·exact (set_getElem?_same hob).symm
  ·rintro ⟨⟨j, L⟩, hI⟩
   have hle := hI.le
   have hlen := hI.len
   have hml := hI.lt
   simp only at hle hlen hml
   obtain ⟨m, hmm⟩ : ∃ m, m = ((l.take j).filter (fun p => !f p)).length := ⟨_, rfl⟩
   have hobL : ∀ x : AObj, (O.set ob x)[ob]? = some x := fun x => List.getElem?_set_self hobl
   simp only [← hmm] at hml ⊢
   obtain ⟨O2, hO2⟩ : ∃ O2, O2 = O.set ob (.cells (cellsAll (L.map Pat.enc))) := ⟨_, rfl⟩
   have hob2 : O2[ob]? = some (.cells (cellsAll (L.map Pat.enc))) := by rw [hO2]; exact hobL _
   have hl2 : O2.length = O.length := by rw [hO2]; simp
   have hup : ∀ (L : List Pat) (o : AObj), o ∈ O.set ob (.cells (cellsAll (L.map Pat.enc))) → o.upto O.length := fun L o ho => by
    rcases List.mem_or_eq_of_mem_set ho with ho | ho
    ·exact hO o ho
    ·subst ho
     exact Pat.cells_upto _ _
   have htk : ∀ (X : List AObj) (y : AObj), X.length = O.length → (X ++ [y]).take O.length = X := fun X y h => by rw [← h, snoc_take]
   simp only [← hO2]
   first | refine zg1 ?_ | refine zg0 ?_ | refine zg2 ?_ | refine zg3 ?_
   simp -dsimp only [simprocAttr, ↓vpre, zp]
   refine at_intro ?_
   simp -dsimp only [vend, ne_eq, Nat.reduceEqDiff, reduceCtorEq]
   first | refine zk1 rfl (fun h => ?_) (fun h => ?_) | refine zk0 rfl (fun h => ?_) (fun h => ?_) | refine zk2 rfl (fun h => ?_) (fun h => ?_)
   ·refine awp_skip ?_
    simp -dsimp only [vend, ne_eq, Nat.reduceEqDiff, reduceCtorEq]
    have hlt : j < l.length := by simpa using h
    obtain ⟨p, hp⟩ : ∃ p, l[j]? = some p := ⟨l[j], by simp [hlt]⟩
    have hLp := hI.get hp
    simp only at hLp
    have hml' : m < L.length := by omega
    first | refine awp_seq (awp_block ?_) | refine awp_block ?_
    first | refine zg1 ?_ | refine zg0 ?_ | refine zg2 ?_ | refine zg3 ?_
    simp -dsimp only [simprocAttr, ↓vpre, zp, hob2, snoc_old hob2, Pat.row_get hLp, Pat.row_len, Pat.agg_cells, splice]
    repeat (refine ⟨by omega, ?_⟩)
    refine at_intro ?_
    simp -dsimp only [vend, ne_eq, Nat.reduceEqDiff, reduceCtorEq]
    first | refine zg1 ?_ | refine zg0 ?_ | refine zg2 ?_ | refine zg3 ?_
    simp -dsimp only [simprocAttr, ↓vpre, zp]
    refine .inl ⟨_, hf p, by first | (simp only [uptoL, AVal.upto, zt, zu]; done) | (simp [uptoL, AVal.upto, zu]; done), later_intro ?_⟩
    simp -dsimp only [simprocAttr, ↓vpre, zp]
    refine at_intro ?_
    simp -dsimp only [vend, ne_eq, Nat.reduceEqDiff, reduceCtorEq]
    first | refine zk1 rfl (fun h => ?_) (fun h => ?_) | refine zk0 rfl (fun h => ?_) (fun h => ?_) | refine zk2 rfl (fun h => ?_) (fun h => ?_)
    ·have hfp : f p = false := by simpa using h
     first | refine zg1 ?_ | refine zg0 ?_ | refine zg2 ?_ | refine zg3 ?_
     simp -dsimp only [simprocAttr, ↓vpre, zp]
     simp -dsimp only [simprocAttr, ↓vpre, zp, snoc_old hob2, snoc_set_old hob2, Pat.row_len]
     repeat (refine ⟨by omega, ?_⟩)
     refine at_intro ?_
     simp -dsimp only [vend, ne_eq, Nat.reduceEqDiff, reduceCtorEq]
     first | refine zg1 ?_ | refine zg0 ?_ | refine zg2 ?_ | refine zg3 ?_
     simp -dsimp only [simprocAttr, ↓vpre, zp]
     repeat (refine ⟨by omega, ?_⟩)
     refine at_intro ?_
     simp -dsimp only [vend, ne_eq, Nat.reduceEqDiff, reduceCtorEq]
     have e : splice (cellsAll (L.map Pat.enc)) (m * 4) p.enc.cells = cellsAll ((L.set m p).map Pat.enc) := Pat.row_set hml' p
     rw [Pat.enc_cells] at e
     rw [e]
     have hO3 : O2.set ob (.cells (cellsAll ((L.set m p).map Pat.enc))) = O.set ob (.cells (cellsAll ((L.set m p).map Pat.enc))) := by rw [hO2, List.set_set]
     rw [hO3]
     refine awp_trunc' O.length [(0, .ms ob 0 l.length l.length), (1, .fn (.func id) [] []), (5, .v (.int .i64 (m + 1))), (6, .v (.int .i64 j))] (by first | omega | (simp; done) | (simp; omega)) (by first | omega | (simp; done) | (simp; omega)) (O.set ob (.cells (cellsAll ((L.set m p).map Pat.enc)))) ?_ ?_ ?_ ?_ ?_
     ·exact htk _ _ (by simp)
     ·exact hup _
     ·simp -dsimp only [simprocAttr, ↓vpre, zp, Says, exists_eq_left', Option.some.injEq, sub_self, and_true]
     ·simp [AVal.upto, uptoL, hobl]
     ·first | refine zg1 ?_ | refine zg0 ?_ | refine zg2 ?_ | refine zg3 ?_
      simp -dsimp only [simprocAttr, ↓vpre, zp]
      repeat (refine ⟨by omega, ?_⟩)
      refine at_intro ?_
      simp -dsimp only [vend, ne_eq, Nat.reduceEqDiff, reduceCtorEq]
      have hK := hI.keep hp hfp
      refine ⟨⟨(j + 1, _), hK⟩, by simp; omega, ?_⟩
      have em : ((l.take (j + 1)).filter (fun p => !f p)).length = m + 1 := by
       rw [take_next hp, List.filter_append, List.length_append, ← hmm]
       simp [hfp]
      refine ⟨rfl, ?_, ?_⟩
      rotate_left
      simp -dsimp only [simprocAttr, ↓vpre, zp, Says, exists_eq_left', Option.some.injEq, sub_self, and_assoc, true_and, and_true]
      ·exact ⟨Sub.int (by simp only [em]; omega), Sub.int (by omega)⟩
      ·simp only [hmm]
    ·refine awp_skip ?_
     simp -dsimp only [vend, ne_eq, Nat.reduceEqDiff, reduceCtorEq]
     have hfp : f p = true := by simpa using h
     refine awp_trunc' O.length [(0, .ms ob 0 l.length l.length), (1, .fn (.func id) [] []), (5, .v (.int .i64 m)), (6, .v (.int .i64 j))] (by first | omega | (simp; done) | (simp; omega)) (by first | omega | (simp; done) | (simp; omega)) O2 ?_ ?_ ?_ ?_ ?_
     ·exact htk _ _ hl2
     ·rw [hO2]
      exact hup _
     ·simp -dsimp only [simprocAttr, ↓vpre, zp, Says, exists_eq_left', Option.some.injEq, sub_self, and_true]
     ·simp [AVal.upto, uptoL, hobl]
     ·first | refine zg1 ?_ | refine zg0 ?_ | refine zg2 ?_ | refine zg3 ?_
      simp -dsimp only [simprocAttr, ↓vpre, zp]
      repeat (refine ⟨by omega, ?_⟩)
      refine at_intro ?_
      simp -dsimp only [vend, ne_eq, Nat.reduceEqDiff, reduceCtorEq]
      have hK := hI.skip hp hfp
      refine ⟨⟨(j + 1, _), hK⟩, by simp; omega, ?_⟩
      have em : ((l.take (j + 1)).filter (fun p => !f p)).length = m := by
       rw [take_next hp, List.filter_append, List.length_append, ← hmm]
       simp [hfp]
      refine ⟨rfl, ?_, ?_⟩
      rotate_left
      simp -dsimp only [simprocAttr, ↓vpre, zp, Says, exists_eq_left', Option.some.injEq, sub_self, and_assoc, true_and, and_true]
      ·exact ⟨Sub.int (by simp only [em]), Sub.int (by omega)⟩
      ·simp only [hO2]
   ·refine awp_exit ?_
    simp -dsimp only [vend, ne_eq, Nat.reduceEqDiff, reduceCtorEq]
    have hlt : j = l.length := by simp at h; omega
    subst hlt
    first | refine zg1 ?_ | refine zg0 ?_ | refine zg2 ?_ | refine zg3 ?_
    simp -dsimp only [simprocAttr, ↓vpre, zp, hob2, Pat.row_len]
    repeat (refine ⟨by omega, ?_⟩)
    refine at_intro ?_
    simp -dsimp only [vend, ne_eq, Nat.reduceEqDiff, reduceCtorEq]
    first | refine zg1 ?_ | refine zg0 ?_ | refine zg2 ?_ | refine zg3 ?_
    simp -dsimp only [simprocAttr, ↓vpre, zp]
    repeat (refine ⟨by omega, ?_⟩)
    refine at_intro ?_
    simp -dsimp only [vend, ne_eq, Nat.reduceEqDiff, reduceCtorEq]
    refine awp_ret ?_
    simp -dsimp only [simprocAttr, ↓vpre, zp, RetTo, Try.results73, retVals, retVal, mkRet, AVal.upto, Nat.zero_le, Nat.le_refl, seqPost_ret, blockPost_ret, loopPost_ret]
    have ez : ∀ x, O2.set ob x = O.set ob x := fun x => by rw [hO2, List.set_set]
    rw [ez]
    have em : m = (l.filter (fun p => !f p)).length := by rw [hmm, List.take_length]
    have ec : splice (cellsAll (L.map Pat.enc)) (m * 4) (List.replicate (l.length - m) zeroPat).flatten = delCells f l := by
     have hpre := hI.pre
     simp only [List.take_length, ← em] at hpre
     have hz : ((List.replicate (l.length - m) zeroPat).flatten).length = (l.length - m) * 4 := by simp [zeroPat]
     rw [splice, hz, List.drop_of_length_le (by rw [Pat.row_len]; omega), List.append_nil, delCells, ← em, ← hpre]
     congr 1
     rw [List.map_take]
     have := cellsAll_length (sz := 4) (xs := (L.map Pat.enc).take m) (fun x hx => by
      obtain ⟨p, _, rfl⟩ := List.mem_map.1 (List.mem_of_mem_take hx)
      exact p.cells_len)
     conv => lhs; rw [← List.take_append_drop m (L.map Pat.enc), cellsAll_append]
     rw [List.take_append_of_le_length (by rw [this]; simp; omega), List.take_of_length_le (by rw [this]; simp; omega)]
    simp only [zeroPat] at ec
    rw [ec]
    have hl3 : (O.set ob (.cells (delCells f l))).length = O.length := by simp
    have ht3 : (O.set ob (.cells (delCells f l))).take O.length = O.set ob (.cells (delCells f l)) := List.take_of_length_le (by rw [hl3]; exact Nat.le_refl _)
    rw [ht3]
    refine ⟨by rw [hl3]; exact Nat.le_refl _, fun o ho => ?_, hobl, by rw [← em, Nat.sub_zero, Nat.sub_zero], rfl⟩
    rcases List.mem_or_eq_of_mem_set ho with ho | ho
    ·exact hO o ho
    ·subst ho
     show uptoL _ _
     rw [uptoL_iff]
     intro c hc
     rcases List.mem_append.1 hc with hc | hc
     ·exact uptoL_iff.1 (Pat.cells_upto O.length _) c hc
     ·simp only [List.mem_flatten, List.mem_replicate] at hc
      obtain ⟨_, ⟨_, rfl⟩, hc⟩ := hc
      simp only [zeroPat, List.mem_cons, List.not_mem_nil, or_false] at hc
      rcases hc with rfl | rfl | rfl | rfl <;> simp [AVal.upto, uptoL]

end Go.Proofs.Ytakdmelemfnmdaa
end

section
set_option linter.unusedSimpArgs false
-- !tab vtab
-- !upto Pat.enc_upto Pat.map_upto
namespace Go.Proofs.Ytakdmelemfnmdaa
open Go.Av

theorem grow_nil (O : List AObj) (hO : ∀ o ∈ O, o.upto O.length) : ECall Try.prog 79 O [.v (.slice none 0 0), .v (.int .i64 0)] fun r O' => r = .lst 4 [] .ex ∧ O' = O := by
 refine ecall_of hT false O.length Try.func79 rfl (by kernel_rfl) (by simp [Try.ntmps79]) (by simp) ?_
 show AWP Try.prog _ _ _ ⟨27, _, _⟩
 dsimp only [Tmp, TypeId, slotsOf]
 refine AWP.cover (τ := ⟨27, [(0, .lst 4 [] .ex), (1, .v (.int .i64 0))], O⟩) ?_ ⟨rfl, rfl, ⟨_, rfl, Sub.nil rfl (by simp) (by simp)⟩, ⟨_, rfl, Sub.refl _⟩, trivial⟩
 first | refine zg1 ?_ | refine zg0 ?_ | refine zg2 ?_ | refine zg3 ?_
 simp -dsimp only [simprocAttr, ↓vpre, zp]
 refine at_intro ?_
 simp -dsimp only [vend, ne_eq, Nat.reduceEqDiff, reduceCtorEq]
 first | refine zg1 ?_ | refine zg0 ?_ | refine zg2 ?_ | refine zg3 ?_
 simp -dsimp only [simprocAttr, ↓vpre, zp]
 refine at_intro ?_
 simp -dsimp only [vend, ne_eq, Nat.reduceEqDiff, reduceCtorEq]
 first | refine zk1 rfl (fun h => ?_) (fun h => ?_) | refine zk0 rfl (fun h => ?_) (fun h => ?_) | refine zk2 rfl (fun h => ?_) (fun h => ?_)
 ·simp at h
 ·refine awp_skip ?_
  simp -dsimp only [vend, ne_eq, Nat.reduceEqDiff, reduceCtorEq]
  first | refine zg1 ?_ | refine zg0 ?_ | refine zg2 ?_ | refine zg3 ?_
  simp -dsimp only [simprocAttr, ↓vpre, zp]
  refine at_intro ?_
  simp -dsimp only [vend, ne_eq, Nat.reduceEqDiff, reduceCtorEq]
  first | refine zg1 ?_ | refine zg0 ?_ | refine zg2 ?_ | refine zg3 ?_
  simp -dsimp only [simprocAttr, ↓vpre, zp]
  refine at_intro ?_
  simp -dsimp only [vend, ne_eq, Nat.reduceEqDiff, reduceCtorEq]
  first | refine zk1 rfl (fun h => ?_) (fun h => ?_) | refine zk0 rfl (fun h => ?_) (fun h => ?_) | refine zk2 rfl (fun h => ?_) (fun h => ?_)
  ·simp at h
  ·refine awp_skip ?_
   simp -dsimp only [vend, ne_eq, Nat.reduceEqDiff, reduceCtorEq]
   first | refine zg1 ?_ | refine zg0 ?_ | refine zg2 ?_ | refine zg3 ?_
   simp -dsimp only [simprocAttr, ↓vpre, zp]
   refine at_intro ?_
   simp -dsimp only [vend, ne_eq, Nat.reduceEqDiff, reduceCtorEq]
   refine awp_ret ?_
   simp -dsimp only [simprocAttr, ↓vpre, zp, RetTo, Try.results79, retVals, retVal, mkRet, AVal.upto, Nat.zero_le, Nat.le_refl, seqPost_ret, blockPost_ret, loopPost_ret, List.take_length]
   simpa [uptoL] using hO

theorem grow_spec (O : List AObj) (hO : ∀ o ∈ O, o.upto (O.length + 1)) (n : Nat) (hn : 0 < n) (hb : n ≤ 2 ^ 40) : ECall Try.prog 79 O [.v (.slice none 0 0), .v (.int .i64 n)] fun r O' => r = .ms O.length 0 0 n ∧ O' = O ++ [.cells (List.replicate n zeroPat).flatten] := by
 refine ecall_of hT false (O.length+1) Try.func79 rfl (by kernel_rfl) (by simp [Try.ntmps79]) (by simp) ?_
 show AWP Try.prog _ _ _ ⟨27, _, _⟩
 dsimp only [Tmp, TypeId, slotsOf]
 refine AWP.cover (τ := ⟨27, [(0, .lst 4 [] .ex), (1, .v (.int .i64 n))], O⟩) ?_ ⟨rfl, rfl, ⟨_, rfl, Sub.nil rfl (by simp) (by simp)⟩, ⟨_, rfl, Sub.refl _⟩, trivial⟩
 first | refine zg1 ?_ | refine zg0 ?_ | refine zg2 ?_ | refine zg3 ?_
 simp -dsimp only [simprocAttr, ↓vpre, zp]
 refine at_intro ?_
 simp -dsimp only [vend, ne_eq, Nat.reduceEqDiff, reduceCtorEq]
 first | refine zg1 ?_ | refine zg0 ?_ | refine zg2 ?_ | refine zg3 ?_
 simp -dsimp only [simprocAttr, ↓vpre, zp]
 refine at_intro ?_
 simp -dsimp only [vend, ne_eq, Nat.reduceEqDiff, reduceCtorEq]
 first | refine zk1 rfl (fun h => ?_) (fun h => ?_) | refine zk0 rfl (fun h => ?_) (fun h => ?_) | refine zk2 rfl (fun h => ?_) (fun h => ?_)
 ·simp at h
  omega
 ·refine awp_skip ?_
  simp -dsimp only [vend, ne_eq, Nat.reduceEqDiff, reduceCtorEq]
  first | refine zg1 ?_ | refine zg0 ?_ | refine zg2 ?_ | refine zg3 ?_
  simp -dsimp only [simprocAttr, ↓vpre, zp]
  refine ⟨by omega, by omega, ?_⟩
  refine at_intro ?_
  simp -dsimp only [vend, ne_eq, Nat.reduceEqDiff, reduceCtorEq]
  first | refine zg1 ?_ | refine zg0 ?_ | refine zg2 ?_ | refine zg3 ?_
  simp -dsimp only [simprocAttr, ↓vpre, zp]
  refine at_intro ?_
  simp -dsimp only [vend, ne_eq, Nat.reduceEqDiff, reduceCtorEq]
  first | refine zk1 rfl (fun h => ?_) (fun h => ?_) | refine zk0 rfl (fun h => ?_) (fun h => ?_) | refine zk2 rfl (fun h => ?_) (fun h => ?_)
  ·first | refine zg1 ?_ | refine zg0 ?_ | refine zg2 ?_ | refine zg3 ?_
   simp -dsimp only [simprocAttr, ↓vpre, zp]
   refine ⟨Try.underlying3, by omega, by omega, by omega, by omega, by omega, ?_⟩
   refine at_intro ?_
   simp -dsimp only [vend, ne_eq, Nat.reduceEqDiff, reduceCtorEq]
   first | refine zg1 ?_ | refine zg0 ?_ | refine zg2 ?_ | refine zg3 ?_
   simp -dsimp only [simprocAttr, ↓vpre, zp]
   refine at_intro ?_
   simp -dsimp only [vend, ne_eq, Nat.reduceEqDiff, reduceCtorEq]
   refine awp_ret ?_
   simp -dsimp only [simprocAttr, ↓vpre, zp, RetTo, Try.results79, retVals, retVal, mkRet, AVal.upto, Nat.zero_le, Nat.le_refl, seqPost_ret, blockPost_ret, loopPost_ret]
   have e : ∀ x : AObj, (O ++ [x]).take (O.length + 1) = O ++ [x] := fun x => List.take_of_length_le (by simp)
   rw [e]
   refine ⟨fun o ho => ?_, by omega, rfl, rfl⟩
   rcases List.mem_append.1 ho with ho | ho
   ·exact hO o ho
   ·rw [List.mem_singleton.1 ho]
    show uptoL _ _
    rw [uptoL_iff]
    intro c hc
    simp only [List.mem_flatten, List.mem_replicate] at hc
    obtain ⟨_, ⟨_, rfl⟩, hc⟩ := hc
    simp only [List.mem_cons, List.not_mem_nil, or_false] at hc
    rcases hc with rfl | rfl | rfl | rfl <;> simp [AVal.upto, uptoL]
  ·simp at h
   omega

/-- How many patterns. -/
def total (rows : List (List Pat)) : Nat := rows.flatten.length

theorem total_next {rows : List (List Pat)} {k : Nat} {r : List Pat} (h : rows[k]? = some r) : total (rows.take (k + 1)) = total (rows.take k) + r.length := by
 rw [total, take_next h]
 simp [total]

theorem total_le (rows : List (List Pat)) (k : Nat) : total (rows.take k) ≤ total rows := by
 have : rows.flatten = (rows.take k).flatten ++ (rows.drop k).flatten := by rw [← List.flatten_append, List.take_append_drop]
 rw [total, total, this]
 simp

theorem zeros_len (n : Nat) : ((List.replicate n zeroPat).flatten).length = n * 4 := by simp [zeroPat]

theorem zeros_drop (n m : Nat) : ((List.replicate n zeroPat).flatten).drop (m * 4) = (List.replicate (n - m) zeroPat).flatten := by
 induction m generalizing n with
 | zero => simp
 | succ m ih =>
  cases n with
  | zero => simp
  | succ n =>
   rw [List.replicate_succ, List.flatten_cons, List.drop_append, List.drop_of_length_le (by simp [zeroPat]; omega), show (m + 1) * 4 - zeroPat.length = m * 4 by simp [zeroPat]; omega, List.nil_append, ih, Nat.add_sub_add_right]

theorem row_fill (A r : List Pat) (n : Nat) : splice (cellsAll (A.map Pat.enc) ++ (List.replicate n zeroPat).flatten) (A.length * 4) (cellsAll (r.map Pat.enc)) = cellsAll ((A ++ r).map Pat.enc) ++ (List.replicate (n - r.length) zeroPat).flatten := by
 have h1 := Pat.row_len A
 have h2 := Pat.row_len r
 rw [splice, ← h1, List.take_left, List.drop_append, List.drop_of_length_le (by omega), List.nil_append, h2, show (cellsAll (A.map Pat.enc)).length + r.length * 4 - (cellsAll (A.map Pat.enc)).length = r.length * 4 by omega, zeros_drop, List.map_append, cellsAll_append, List.append_assoc]

theorem concat_spec (rows : List (List Pat)) (hb : rows.length ≤ 2 ^ 30) (ht : total rows ≤ 2 ^ 30) : PCall Try.prog 47 [eRR rows] (eR rows.flatten) := by
 refine ecall_of hT true 0 Try.func47 rfl (by kernel_rfl) (by simp [Try.ntmps47]) (by simp) ?_
 show AWP Try.prog _ _ _ ⟨36, _, _⟩
 dsimp only [Tmp, TypeId, slotsOf]
 first | refine zg1 ?_ | refine zg0 ?_ | refine zg2 ?_ | refine zg3 ?_
 simp -dsimp only [simprocAttr, ↓vpre, zp]
 refine at_intro ?_
 simp -dsimp only [vend, ne_eq, Nat.reduceEqDiff, reduceCtorEq]
 first | refine zg1 ?_ | refine zg0 ?_ | refine zg2 ?_ | refine zg3 ?_
 simp -dsimp only [simprocAttr, ↓vpre, zp]
 refine at_intro ?_
 simp -dsimp only [vend, ne_eq, Nat.reduceEqDiff, reduceCtorEq]
 first | refine zg1 ?_ | refine zg0 ?_ | refine zg2 ?_ | refine zg3 ?_
 simp -dsimp only [simprocAttr, ↓vpre, zp]
 refine at_intro ?_
 simp -dsimp only [vend, ne_eq, Nat.reduceEqDiff, reduceCtorEq]
 first | refine awp_block (awp_loop (ι := {k : Nat // k ≤ rows.length}) (fun k => ⟨36, [(0, eRR rows), (9, eRR rows), (10, .v (.int .i64 rows.length)), (11, .v (.int .i64 k.1)), (3, .v (.int .i64 (total (rows.take k.1))))], []⟩) (fun k => rows.length - k.1) ⟨0, by omega⟩ ?_ ?_) | refine awp_seq (awp_block (awp_loop (ι := {k : Nat // k ≤ rows.length}) (fun k => ⟨36, [(0, eRR rows), (9, eRR rows), (10, .v (.int .i64 rows.length)), (11, .v (.int .i64 k.1)), (3, .v (.int .i64 (total (rows.take k.1))))], []⟩) (fun k => rows.length - k.1) ⟨0, by omega⟩ ?_ ?_))
 ·refine ⟨rfl, ?_, ?_⟩
  rotate_left
  simp -dsimp only [simprocAttr, ↓vpre, zp, Says, exists_eq_left', Option.some.injEq, sub_self, and_assoc, true_and, and_true, total, List.flatten_nil]
  rfl
 ·rintro ⟨k, hk⟩
  first | refine zg1 ?_ | refine zg0 ?_ | refine zg2 ?_ | refine zg3 ?_
  simp -dsimp only [simprocAttr, ↓vpre, zp]
  refine at_intro ?_
  simp -dsimp only [vend, ne_eq, Nat.reduceEqDiff, reduceCtorEq]
  first | refine zk1 rfl (fun h => ?_) (fun h => ?_) | refine zk0 rfl (fun h => ?_) (fun h => ?_) | refine zk2 rfl (fun h => ?_) (fun h => ?_)
  ·refine awp_skip ?_
   simp -dsimp only [vend, ne_eq, Nat.reduceEqDiff, reduceCtorEq]
   have hlt : k < rows.length := by simpa using h
   obtain ⟨r, hr⟩ : ∃ r, rows[k]? = some r := ⟨rows[k], by simp [hlt]⟩
   have h1 := total_next hr
   have h2 := total_le rows (k + 1)
   first | refine awp_seq (awp_block ?_) | refine awp_block ?_
   first | refine zg1 ?_ | refine zg0 ?_ | refine zg2 ?_ | refine zg3 ?_
   simp -dsimp only [simprocAttr, ↓vpre, zp, hr]
   refine at_intro ?_
   simp -dsimp only [vend, ne_eq, Nat.reduceEqDiff, reduceCtorEq]
   first | refine zg1 ?_ | refine zg0 ?_ | refine zg2 ?_ | refine zg3 ?_
   simp -dsimp only [simprocAttr, ↓vpre, zp]
   refine ⟨by omega, by omega, ?_⟩
   refine at_intro ?_
   simp -dsimp only [vend, ne_eq, Nat.reduceEqDiff, reduceCtorEq]
   first | refine zg1 ?_ | refine zg0 ?_ | refine zg2 ?_ | refine zg3 ?_
   simp -dsimp only [simprocAttr, ↓vpre, zp]
   refine at_intro ?_
   simp -dsimp only [vend, ne_eq, Nat.reduceEqDiff, reduceCtorEq]
   first | refine zk1 rfl (fun h => ?_) (fun h => ?_) | refine zk0 rfl (fun h => ?_) (fun h => ?_) | refine zk2 rfl (fun h => ?_) (fun h => ?_)
   ·simp at h
    omega
   ·refine awp_skip ?_
    simp -dsimp only [vend, ne_eq, Nat.reduceEqDiff, reduceCtorEq]
    first | refine zg1 ?_ | refine zg0 ?_ | refine zg2 ?_ | refine zg3 ?_
    simp -dsimp only [simprocAttr, ↓vpre, zp]
    refine ⟨by omega, by omega, ?_⟩
    refine at_intro ?_
    simp -dsimp only [vend, ne_eq, Nat.reduceEqDiff, reduceCtorEq]
    refine ⟨⟨k + 1, hlt⟩, by simp; omega, ?_⟩
    refine ⟨rfl, ?_, ?_⟩
    rotate_left
    simp -dsimp only [simprocAttr, ↓vpre, zp, Says, exists_eq_left', Option.some.injEq, sub_self, and_assoc, true_and, and_true]
    ·exact ⟨Sub.int (by simp), Sub.int (by simp only [h1]; omega)⟩
    ·rfl
  ·refine awp_exit ?_
   simp -dsimp only [vend, ne_eq, Nat.reduceEqDiff, reduceCtorEq]
   have hlt : k = rows.length := by simp at h; omega
   subst hlt
   simp only [List.take_length]
   by_cases h0 : total rows = 0
   ·rw [h0]
    first | refine zg1 ?_ | refine zg0 ?_ | refine zg2 ?_ | refine zg3 ?_
    simp -dsimp only [simprocAttr, ↓vpre, zp]
    refine .inr (.inl ⟨_, _, (grow_nil [] (by simp)), .inl (later_intro ?_)⟩)
    simp -dsimp only [simprocAttr, ↓vpre, zp]
    refine at_intro ?_
    simp -dsimp only [vend, ne_eq, Nat.reduceEqDiff, reduceCtorEq]
    have hnil : ∀ k r, rows[k]? = some r → r = [] := fun k r hr => by
     have h1 := total_next hr
     have h2 := total_le rows (k + 1)
     exact List.length_eq_zero_iff.1 (by omega)
    have hfl : rows.flatten = [] := List.length_eq_zero_iff.1 h0
    refine awp_own 6 rfl ?_
    simp -dsimp only [simprocAttr, ↓vpre, zp]
    first | refine zg1 ?_ | refine zg0 ?_ | refine zg2 ?_ | refine zg3 ?_
    simp -dsimp only [simprocAttr, ↓vpre, zp]
    refine at_intro ?_
    simp -dsimp only [vend, ne_eq, Nat.reduceEqDiff, reduceCtorEq]
    first | refine awp_block (awp_loop (ι := {k : Nat // k ≤ rows.length}) (fun k => ⟨36, [(25, eRR rows), (26, .v (.int .i64 rows.length)), (27, .v (.int .i64 k.1)), (6, .lst 4 [] (.tok 0))], [.spare 0]⟩) (fun k => rows.length - k.1) ⟨0, by omega⟩ ?_ ?_) | refine awp_seq (awp_block (awp_loop (ι := {k : Nat // k ≤ rows.length}) (fun k => ⟨36, [(25, eRR rows), (26, .v (.int .i64 rows.length)), (27, .v (.int .i64 k.1)), (6, .lst 4 [] (.tok 0))], [.spare 0]⟩) (fun k => rows.length - k.1) ⟨0, by omega⟩ ?_ ?_))
    ·refine ⟨rfl, ?_, ?_⟩
     rotate_left
     simp -dsimp only [simprocAttr, ↓vpre, zp, Says, exists_eq_left', Option.some.injEq, sub_self, and_assoc, true_and, and_true]
     rfl
    ·rintro ⟨k, hk⟩
     first | refine zg1 ?_ | refine zg0 ?_ | refine zg2 ?_ | refine zg3 ?_
     simp -dsimp only [simprocAttr, ↓vpre, zp]
     refine at_intro ?_
     simp -dsimp only [vend, ne_eq, Nat.reduceEqDiff, reduceCtorEq]
     first | refine zk1 rfl (fun h => ?_) (fun h => ?_) | refine zk0 rfl (fun h => ?_) (fun h => ?_) | refine zk2 rfl (fun h => ?_) (fun h => ?_)
     ·refine awp_skip ?_
      simp -dsimp only [vend, ne_eq, Nat.reduceEqDiff, reduceCtorEq]
      have hlt : k < rows.length := by simpa using h
      obtain ⟨r, hr⟩ : ∃ r, rows[k]? = some r := ⟨rows[k], by simp [hlt]⟩
      have hr0 := hnil k r hr
      subst hr0
      first | refine awp_seq (awp_block ?_) | refine awp_block ?_
      first | refine zg1 ?_ | refine zg0 ?_ | refine zg2 ?_ | refine zg3 ?_
      simp -dsimp only [simprocAttr, ↓vpre, zp, hr]
      refine at_intro ?_
      simp -dsimp only [vend, ne_eq, Nat.reduceEqDiff, reduceCtorEq]
      first | refine zg1 ?_ | refine zg0 ?_ | refine zg2 ?_ | refine zg3 ?_
      simp -dsimp only [simprocAttr, ↓vpre, zp]
      refine at_intro ?_
      simp -dsimp only [vend, ne_eq, Nat.reduceEqDiff, reduceCtorEq]
      first | refine zg1 ?_ | refine zg0 ?_ | refine zg2 ?_ | refine zg3 ?_
      simp -dsimp only [simprocAttr, ↓vpre, zp]
      refine ⟨by omega, by omega, ?_⟩
      refine at_intro ?_
      simp -dsimp only [vend, ne_eq, Nat.reduceEqDiff, reduceCtorEq]
      refine ⟨⟨k + 1, hlt⟩, by simp; omega, ?_⟩
      refine ⟨rfl, ?_, ?_⟩
      rotate_left
      simp -dsimp only [simprocAttr, ↓vpre, zp, Says, exists_eq_left', Option.some.injEq, sub_self, and_assoc, true_and, and_true]
      ·exact Sub.int (by simp)
      ·rfl
     ·refine awp_exit ?_
      simp -dsimp only [vend, ne_eq, Nat.reduceEqDiff, reduceCtorEq]
      first | refine zg1 ?_ | refine zg0 ?_ | refine zg2 ?_ | refine zg3 ?_
      simp -dsimp only [simprocAttr, ↓vpre, zp]
      refine at_intro ?_
      simp -dsimp only [vend, ne_eq, Nat.reduceEqDiff, reduceCtorEq]
      refine awp_ret ?_
      simp -dsimp only [simprocAttr, ↓vpre, zp, RetTo, Try.results47, retVals, retVal, mkRet, AVal.upto, Nat.zero_le, Nat.le_refl, seqPost_ret, blockPost_ret, loopPost_ret]
      simp [hfl, uptoL]
   ·first | refine zg1 ?_ | refine zg0 ?_ | refine zg2 ?_ | refine zg3 ?_
    simp -dsimp only [simprocAttr, ↓vpre, zp]
    refine .inr (.inl ⟨_, _, (grow_spec [] (by simp) (total rows) (by omega) (by omega)), .inl (later_intro ?_)⟩)
    simp -dsimp only [simprocAttr, ↓vpre, zp]
    refine at_intro ?_
    simp -dsimp only [vend, ne_eq, Nat.reduceEqDiff, reduceCtorEq]
    first | refine zg1 ?_ | refine zg0 ?_ | refine zg2 ?_ | refine zg3 ?_
    simp -dsimp only [simprocAttr, ↓vpre, zp]
    refine at_intro ?_
    simp -dsimp only [vend, ne_eq, Nat.reduceEqDiff, reduceCtorEq]
    obtain ⟨n, hn⟩ : ∃ n, n = total rows := ⟨_, rfl⟩
    simp only [← hn]
    first | refine awp_block (awp_loop (ι := {k : Nat // k ≤ rows.length}) (fun k => ⟨36, [(25, eRR rows), (26, .v (.int .i64 rows.length)), (27, .v (.int .i64 k.1)), (6, .ms 0 0 (total (rows.take k.1)) n)], [.cells (cellsAll ((rows.take k.1).flatten.map Pat.enc) ++ (List.replicate (n - total (rows.take k.1)) zeroPat).flatten)]⟩) (fun k => rows.length - k.1) ⟨0, by omega⟩ ?_ ?_) | refine awp_seq (awp_block (awp_loop (ι := {k : Nat // k ≤ rows.length}) (fun k => ⟨36, [(25, eRR rows), (26, .v (.int .i64 rows.length)), (27, .v (.int .i64 k.1)), (6, .ms 0 0 (total (rows.take k.1)) n)], [.cells (cellsAll ((rows.take k.1).flatten.map Pat.enc) ++ (List.replicate (n - total (rows.take k.1)) zeroPat).flatten)]⟩) (fun k => rows.length - k.1) ⟨0, by omega⟩ ?_ ?_))
    ·refine ⟨rfl, ?_, ?_⟩
     rotate_left
     simp -dsimp only [simprocAttr, ↓vpre, zp, Says, exists_eq_left', Option.some.injEq, sub_self, and_assoc, true_and, and_true, total, List.flatten_nil]
     simp [total, cellsAll]
    ·rintro ⟨k, hk⟩
     first | refine zg1 ?_ | refine zg0 ?_ | refine zg2 ?_ | refine zg3 ?_
     simp -dsimp only [simprocAttr, ↓vpre, zp]
     refine at_intro ?_
     simp -dsimp only [vend, ne_eq, Nat.reduceEqDiff, reduceCtorEq]
     first | refine zk1 rfl (fun h => ?_) (fun h => ?_) | refine zk0 rfl (fun h => ?_) (fun h => ?_) | refine zk2 rfl (fun h => ?_) (fun h => ?_)
     ·refine awp_skip ?_
      simp -dsimp only [vend, ne_eq, Nat.reduceEqDiff, reduceCtorEq]
      have hlt : k < rows.length := by simpa using h
      obtain ⟨r, hr⟩ : ∃ r, rows[k]? = some r := ⟨rows[k], by simp [hlt]⟩
      have h1 := total_next hr
      have h2 := total_le rows (k + 1)
      first | refine awp_seq (awp_block ?_) | refine awp_block ?_
      first | refine zg1 ?_ | refine zg0 ?_ | refine zg2 ?_ | refine zg3 ?_
      simp -dsimp only [simprocAttr, ↓vpre, zp, hr]
      refine at_intro ?_
      simp -dsimp only [vend, ne_eq, Nat.reduceEqDiff, reduceCtorEq]
      first | refine zg1 ?_ | refine zg0 ?_ | refine zg2 ?_ | refine zg3 ?_
      simp -dsimp only [simprocAttr, ↓vpre, zp]
      have hcl := Pat.row_len (rows.take k).flatten
      have htl : (rows.take k).flatten.length = total (rows.take k) := rfl
      have hzl := zeros_len (n - total (rows.take k))
      refine ⟨by omega, by omega, by omega, ?_⟩
      have hf := row_fill (rows.take k).flatten r (n - total (rows.take k))
      rw [htl] at hf
      simp -dsimp only [simprocAttr, ↓vpre, zp, hf]
      refine at_intro ?_
      simp -dsimp only [vend, ne_eq, Nat.reduceEqDiff, reduceCtorEq]
      first | refine zg1 ?_ | refine zg0 ?_ | refine zg2 ?_ | refine zg3 ?_
      simp -dsimp only [simprocAttr, ↓vpre, zp]
      refine ⟨by omega, by omega, ?_⟩
      refine at_intro ?_
      simp -dsimp only [vend, ne_eq, Nat.reduceEqDiff, reduceCtorEq]
      refine ⟨⟨k + 1, hlt⟩, by simp; omega, ?_⟩
      refine ⟨rfl, ?_, ?_⟩
      rotate_left
      simp -dsimp only [simprocAttr, ↓vpre, zp, Says, exists_eq_left', Option.some.injEq, sub_self, and_assoc, true_and, and_true]
      ·exact ⟨Sub.int (by simp), Sub.of_eq (by rw [h1])⟩
      ·have h3 := h1
       rw [take_next hr] at h3
       simp only [take_next hr, h3, List.flatten_append, List.flatten_cons, List.flatten_nil, List.append_nil, Nat.sub_add_eq]
     ·refine awp_exit ?_
      simp -dsimp only [vend, ne_eq, Nat.reduceEqDiff, reduceCtorEq]
      have hlt : k = rows.length := by simp at h; omega
      subst hlt
      simp only [List.take_length, ← hn, Nat.sub_self, List.replicate_zero, List.flatten_nil, List.append_nil]
      first | refine zg1 ?_ | refine zg0 ?_ | refine zg2 ?_ | refine zg3 ?_
      simp -dsimp only [simprocAttr, ↓vpre, zp]
      refine at_intro ?_
      simp -dsimp only [vend, ne_eq, Nat.reduceEqDiff, reduceCtorEq]
      refine awp_freeze1 2 0 (.lst 4 (rows.flatten.map Pat.enc) .sh) rfl (by simp [AObj.isSpare]) trivial rfl ?_ ?_
      rotate_left
      simp -dsimp only [simprocAttr, ↓vpre, zp]
      ·refine awp_ret ?_
       simp -dsimp only [simprocAttr, ↓vpre, zp, RetTo, Try.results47, retVals, retVal, mkRet, AVal.upto, Nat.zero_le, Nat.le_refl, seqPost_ret, blockPost_ret, loopPost_ret]
      ·refine FSub.ms rfl ?_ (by rw [List.length_map, hn]; rfl) ?_
       ·intro x hx
        obtain ⟨p, _, rfl⟩ := List.mem_map.1 hx
        exact p.cells_len
       ·rw [List.drop_zero, List.take_of_length_le (by rw [Pat.row_len, hn]; exact Nat.le_refl _)]
        rw [← cellsAll_share, Pat.map_share]

end Go.Proofs.Ytakdmelemfnmdaa
end

section
set_option linter.unusedSimpArgs false
-- !tab vtab
-- !upto Pat.enc_upto Pat.map_upto any_upto
namespace Go.Proofs.Ytakdmelemfnmdaa
open Go.Av

theorem any_upto (n m : Nat) : uptoL n (List.replicate m Pat.any.enc) := by
 rw [uptoL_iff]
 intro x hx
 rw [(List.mem_replicate.1 hx).2]
 exact Pat.enc_upto n _

theorem rows_upto (n : Nat) (l : List (List Pat)) : uptoL n (l.map eR) := by
 rw [uptoL_iff]
 intro x hx
 obtain ⟨r, _, rfl⟩ := List.mem_map.1 hx
 exact ⟨Pat.map_upto n r, trivial⟩

def rests : List (List Pat) → List (List Pat)
 | [] => []
 | [] :: r => rests r
 | (p :: x) :: r => if p.free then x :: rests r else rests r

theorem rests_len : ∀ rows : List (List Pat), (rests rows).length ≤ rows.length
 | [] => by simp [rests]
 | [] :: r => by
  have := rests_len r
  simp [rests]
  omega
 | (p :: _) :: r => by
  have := rests_len r
  simp only [rests]
  split <;> simp <;> omega

theorem rests_append : ∀ a b : List (List Pat), rests (a ++ b) = rests a ++ rests b
 | [], b => by simp [rests]
 | [] :: r, b => by simp [rests, rests_append r b]
 | (p :: _) :: r, b => by
  simp only [List.cons_append, rests, rests_append r b]
  split <;> simp

theorem rest_spec (rows : List (List Pat)) (hb : rows.length ≤ 2 ^ 30) (hne : ∀ r ∈ rows, r ≠ []) : PCall Try.prog 44 [eRR rows] (eRR (rests rows)) := by
 refine ecall_of hT true 0 Try.func44 rfl (by kernel_rfl) (by simp [Try.ntmps44]) (by simp) ?_
 show AWP Try.prog _ _ _ ⟨23, _, _⟩
 dsimp only [Tmp, TypeId, slotsOf]
 first | refine zg1 ?_ | refine zg0 ?_ | refine zg2 ?_ | refine zg3 ?_
 simp -dsimp only [simprocAttr, ↓vpre, zp]
 refine at_intro ?_
 simp -dsimp only [vend, ne_eq, Nat.reduceEqDiff, reduceCtorEq]
 first | refine zg1 ?_ | refine zg0 ?_ | refine zg2 ?_ | refine zg3 ?_
 simp -dsimp only [simprocAttr, ↓vpre, zp]
 refine at_intro ?_
 simp -dsimp only [vend, ne_eq, Nat.reduceEqDiff, reduceCtorEq]
 first | refine zg1 ?_ | refine zg0 ?_ | refine zg2 ?_ | refine zg3 ?_
 simp -dsimp only [simprocAttr, ↓vpre, zp]
 refine at_intro ?_
 simp -dsimp only [vend, ne_eq, Nat.reduceEqDiff, reduceCtorEq]
 refine awp_own 3 rfl ?_
 simp -dsimp only [simprocAttr, ↓vpre, zp]
 first | refine awp_block (awp_loop (ι := {k : Nat // k ≤ rows.length}) (fun k => ⟨23, [(6, eRR rows), (7, .v (.int .i64 rows.length)), (8, .v (.int .i64 k)), (3, .lst 1 ((rests (rows.take k)).map eR) (.tok 0))], [.spare (rests (rows.take k)).length]⟩) (fun k => rows.length - k) ⟨0, by omega⟩ ?_ ?_) | refine awp_seq (awp_block (awp_loop (ι := {k : Nat // k ≤ rows.length}) (fun k => ⟨23, [(6, eRR rows), (7, .v (.int .i64 rows.length)), (8, .v (.int .i64 k)), (3, .lst 1 ((rests (rows.take k)).map eR) (.tok 0))], [.spare (rests (rows.take k)).length]⟩) (fun k => rows.length - k) ⟨0, by omega⟩ ?_ ?_))
 ·refine ⟨rfl, ?_, ?_⟩
  rotate_left
  simp -dsimp only [simprocAttr, ↓vpre, zp, Says, exists_eq_left', Option.some.injEq, sub_self, and_assoc, true_and, and_true]
  ·exact Sub.lst (by simp [rests])
  ·simp [rests]
 ·rintro ⟨k, hk⟩
  first | refine zg1 ?_ | refine zg0 ?_ | refine zg2 ?_ | refine zg3 ?_
  simp -dsimp only [simprocAttr, ↓vpre, zp]
  refine at_intro ?_
  simp -dsimp only [vend, ne_eq, Nat.reduceEqDiff, reduceCtorEq]
  first | refine zk1 rfl (fun h => ?_) (fun h => ?_) | refine zk0 rfl (fun h => ?_) (fun h => ?_) | refine zk2 rfl (fun h => ?_) (fun h => ?_)
  ·refine awp_skip ?_
   simp -dsimp only [vend, ne_eq, Nat.reduceEqDiff, reduceCtorEq]
   have hlt : k < rows.length := by simpa using h
   obtain ⟨r, hr⟩ : ∃ r, rows[k]? = some r := ⟨rows[k], by simp [hlt]⟩
   first | refine awp_seq (awp_block ?_) | refine awp_block ?_
   first | refine zg1 ?_ | refine zg0 ?_ | refine zg2 ?_ | refine zg3 ?_
   simp -dsimp only [simprocAttr, ↓vpre, zp, hr]
   refine at_intro ?_
   simp -dsimp only [vend, ne_eq, Nat.reduceEqDiff, reduceCtorEq]
   obtain ⟨p, r', rfl⟩ : ∃ p r', r = p :: r' := List.exists_cons_of_ne_nil (hne r (List.mem_of_getElem? hr))
   first | refine zg1 ?_ | refine zg0 ?_ | refine zg2 ?_ | refine zg3 ?_
   simp -dsimp only [simprocAttr, ↓vpre, zp]
   refine .inl ⟨_, free_spec p, by first | (simp only [uptoL, AVal.upto, zt, zu, any_upto]; done) | (simp [uptoL, AVal.upto, zu, any_upto]; done), later_intro ?_⟩
   simp -dsimp only [simprocAttr, ↓vpre, zp]
   refine at_intro ?_
   simp -dsimp only [vend, ne_eq, Nat.reduceEqDiff, reduceCtorEq]
   have hf := rests_len (rows.take k)
   simp only [List.length_take] at hf
   first | refine zk1 rfl (fun h => ?_) (fun h => ?_) | refine zk0 rfl (fun h => ?_) (fun h => ?_) | refine zk2 rfl (fun h => ?_) (fun h => ?_)
   ·first | refine zg1 ?_ | refine zg0 ?_ | refine zg2 ?_ | refine zg3 ?_
    simp -dsimp only [simprocAttr, ↓vpre, zp, List.take_length, List.drop_one, List.tail_cons]
    refine ⟨by omega, by omega, ?_⟩
    refine at_intro ?_
    simp -dsimp only [vend, ne_eq, Nat.reduceEqDiff, reduceCtorEq]
    first | refine zg1 ?_ | refine zg0 ?_ | refine zg2 ?_ | refine zg3 ?_
    simp -dsimp only [simprocAttr, ↓vpre, zp]
    refine ⟨by omega, by omega, ?_⟩
    refine at_intro ?_
    simp -dsimp only [vend, ne_eq, Nat.reduceEqDiff, reduceCtorEq]
    refine ⟨⟨k + 1, hlt⟩, by simp; omega, ?_⟩
    have e : rests (rows.take (k + 1)) = rests (rows.take k) ++ [r'] := by
     simp [take_next hr, rests_append, rests, h]
    refine ⟨rfl, ?_, ?_⟩
    rotate_left
    simp -dsimp only [simprocAttr, ↓vpre, zp, Says, exists_eq_left', Option.some.injEq, sub_self, and_assoc, true_and, and_true]
    ·exact ⟨Sub.int (by simp), Sub.lst (by simp [e])⟩
    ·simp [e]
   ·refine awp_skip ?_
    simp -dsimp only [vend, ne_eq, Nat.reduceEqDiff, reduceCtorEq]
    first | refine zg1 ?_ | refine zg0 ?_ | refine zg2 ?_ | refine zg3 ?_
    simp -dsimp only [simprocAttr, ↓vpre, zp]
    refine ⟨by omega, by omega, ?_⟩
    refine at_intro ?_
    simp -dsimp only [vend, ne_eq, Nat.reduceEqDiff, reduceCtorEq]
    refine ⟨⟨k + 1, hlt⟩, by simp; omega, ?_⟩
    have e : rests (rows.take (k + 1)) = rests (rows.take k) := by
     simp [take_next hr, rests_append, rests, h]
    refine ⟨rfl, ?_, ?_⟩
    rotate_left
    simp -dsimp only [simprocAttr, ↓vpre, zp, Says, exists_eq_left', Option.some.injEq, sub_self, and_assoc, true_and, and_true]
    ·exact ⟨Sub.int (by simp), Sub.lst (by rw [e])⟩
    ·simp [e]
  ·refine awp_exit ?_
   simp -dsimp only [vend, ne_eq, Nat.reduceEqDiff, reduceCtorEq]
   have hlt : k = rows.length := by simp at h; omega
   subst hlt
   first | refine zg1 ?_ | refine zg0 ?_ | refine zg2 ?_ | refine zg3 ?_
   simp -dsimp only [simprocAttr, ↓vpre, zp]
   refine at_intro ?_
   simp -dsimp only [vend, ne_eq, Nat.reduceEqDiff, reduceCtorEq]
   refine awp_ret ?_
   simp -dsimp only [simprocAttr, ↓vpre, zp, RetTo, Try.results44, retVals, retVal, mkRet, AVal.upto, Nat.zero_le, Nat.le_refl, seqPost_ret, blockPost_ret, loopPost_ret, List.take_length]
   simpa using rows_upto _ _

def narrows (name : ByteArray) (many : Nat) : List (List Pat) → List (List Pat)
 | [] => []
 | [] :: r => narrows name many r
 | (p :: x) :: r => if p.free then (List.replicate many Pat.any ++ x) :: narrows name many r else if p.name = name then (p.args ++ x) :: narrows name many r else narrows name many r

theorem narrows_len (name : ByteArray) (many : Nat) : ∀ rows : List (List Pat), (narrows name many rows).length ≤ rows.length
 | [] => by simp [narrows]
 | [] :: r => by
  have := narrows_len name many r
  simp [narrows]
  omega
 | (p :: _) :: r => by
  have := narrows_len name many r
  simp only [narrows]
  split
  ·simp; omega
  ·split <;> simp <;> omega

theorem narrows_append (name : ByteArray) (many : Nat) : ∀ a b : List (List Pat), narrows name many (a ++ b) = narrows name many a ++ narrows name many b
 | [], b => by simp [narrows]
 | [] :: r, b => by simp [narrows, narrows_append name many r b]
 | (p :: _) :: r, b => by
  simp only [List.cons_append, narrows, narrows_append name many r b]
  split
  ·simp
  ·split <;> simp

theorem narrow_spec (rows : List (List Pat)) (name : ByteArray) (many : Nat) (hb : rows.length ≤ 2 ^ 30) (hmany : many ≤ 2 ^ 20) (hne : ∀ r ∈ rows, r ≠ []) (hr20 : ∀ r ∈ rows, r.length ≤ 2 ^ 20) (hargs : ∀ r ∈ rows, ∀ p ∈ r, p.args.length ≤ 2 ^ 20) :
  PCall Try.prog 45 [eRR rows, .v (.string name), .v (.int .i64 many)] (eRR (narrows name many rows)) := by
 refine ecall_of hT true 0 Try.func45 rfl (by kernel_rfl) (by simp [Try.ntmps45]) (by simp) ?_
 show AWP Try.prog _ _ _ ⟨50, _, _⟩
 dsimp only [Tmp, TypeId, slotsOf]
 first | refine zg1 ?_ | refine zg0 ?_ | refine zg2 ?_ | refine zg3 ?_
 simp -dsimp only [simprocAttr, ↓vpre, zp]
 refine at_intro ?_
 simp -dsimp only [vend, ne_eq, Nat.reduceEqDiff, reduceCtorEq]
 first | refine zg1 ?_ | refine zg0 ?_ | refine zg2 ?_ | refine zg3 ?_
 simp -dsimp only [simprocAttr, ↓vpre, zp]
 refine at_intro ?_
 simp -dsimp only [vend, ne_eq, Nat.reduceEqDiff, reduceCtorEq]
 first | refine zg1 ?_ | refine zg0 ?_ | refine zg2 ?_ | refine zg3 ?_
 simp -dsimp only [simprocAttr, ↓vpre, zp]
 refine at_intro ?_
 simp -dsimp only [vend, ne_eq, Nat.reduceEqDiff, reduceCtorEq]
 refine awp_own 7 rfl ?_
 simp -dsimp only [simprocAttr, ↓vpre, zp]
 first | refine awp_block (awp_loop (ι := {k : Nat // k ≤ rows.length}) (fun k => ⟨50, [(1, .v (.string name)), (2, .v (.int .i64 many)), (10, eRR rows), (11, .v (.int .i64 rows.length)), (12, .v (.int .i64 k)), (7, .lst 1 ((narrows name many (rows.take k)).map eR) (.tok 0))], [.spare (narrows name many (rows.take k)).length]⟩) (fun k => rows.length - k) ⟨0, by omega⟩ ?_ ?_) | refine awp_seq (awp_block (awp_loop (ι := {k : Nat // k ≤ rows.length}) (fun k => ⟨50, [(1, .v (.string name)), (2, .v (.int .i64 many)), (10, eRR rows), (11, .v (.int .i64 rows.length)), (12, .v (.int .i64 k)), (7, .lst 1 ((narrows name many (rows.take k)).map eR) (.tok 0))], [.spare (narrows name many (rows.take k)).length]⟩) (fun k => rows.length - k) ⟨0, by omega⟩ ?_ ?_))
 ·refine ⟨rfl, ?_, ?_⟩
  rotate_left
  simp -dsimp only [simprocAttr, ↓vpre, zp, Says, exists_eq_left', Option.some.injEq, sub_self, and_assoc, true_and, and_true]
  ·exact Sub.lst (by simp [narrows])
  ·simp [narrows]
 ·rintro ⟨k, hk⟩
  first | refine zg1 ?_ | refine zg0 ?_ | refine zg2 ?_ | refine zg3 ?_
  simp -dsimp only [simprocAttr, ↓vpre, zp]
  refine at_intro ?_
  simp -dsimp only [vend, ne_eq, Nat.reduceEqDiff, reduceCtorEq]
  first | refine zk1 rfl (fun h => ?_) (fun h => ?_) | refine zk0 rfl (fun h => ?_) (fun h => ?_) | refine zk2 rfl (fun h => ?_) (fun h => ?_)
  ·refine awp_skip ?_
   simp -dsimp only [vend, ne_eq, Nat.reduceEqDiff, reduceCtorEq]
   have hlt : k < rows.length := by simpa using h
   obtain ⟨r, hr⟩ : ∃ r, rows[k]? = some r := ⟨rows[k], by simp [hlt]⟩
   have hmem := List.mem_of_getElem? hr
   first | refine awp_seq (awp_block ?_) | refine awp_block ?_
   first | refine zg1 ?_ | refine zg0 ?_ | refine zg2 ?_ | refine zg3 ?_
   simp -dsimp only [simprocAttr, ↓vpre, zp, hr]
   refine at_intro ?_
   simp -dsimp only [vend, ne_eq, Nat.reduceEqDiff, reduceCtorEq]
   obtain ⟨p, r', rfl⟩ : ∃ p r', r = p :: r' := List.exists_cons_of_ne_nil (hne r hmem)
   have h1 := hr20 _ hmem
   have h2 := hargs _ hmem p (by simp)
   simp only [List.length_cons] at h1
   have hf := narrows_len name many (rows.take k)
   simp only [List.length_take] at hf
   first | refine awp_seq (awp_block ?_) | refine awp_block ?_
   first | refine zg1 ?_ | refine zg0 ?_ | refine zg2 ?_ | refine zg3 ?_
   simp -dsimp only [simprocAttr, ↓vpre, zp]
   refine .inl ⟨_, free_spec p, by first | (simp only [uptoL, AVal.upto, zt, zu, any_upto]; done) | (simp [uptoL, AVal.upto, zu, any_upto]; done), later_intro ?_⟩
   simp -dsimp only [simprocAttr, ↓vpre, zp]
   refine at_intro ?_
   simp -dsimp only [vend, ne_eq, Nat.reduceEqDiff, reduceCtorEq]
   first | refine zk1 rfl (fun h => ?_) (fun h => ?_) | refine zk0 rfl (fun h => ?_) (fun h => ?_) | refine zk2 rfl (fun h => ?_) (fun h => ?_)
   ·first | refine zg1 ?_ | refine zg0 ?_ | refine zg2 ?_ | refine zg3 ?_
    simp -dsimp only [simprocAttr, ↓vpre, zp, List.take_length, List.drop_one, List.tail_cons]
    refine .inl ⟨_, (anys_spec many (by omega)), by first | (simp only [uptoL, AVal.upto, zt, zu, any_upto]; done) | (simp [uptoL, AVal.upto, zu, any_upto]; done), later_intro ?_⟩
    simp -dsimp only [simprocAttr, ↓vpre, zp, List.take_length, List.drop_one, List.tail_cons]
    refine .inl ⟨_, (concat_spec [List.replicate many Pat.any, r'] (by simp) (by simp [total]; omega)), by first | (simp only [uptoL, AVal.upto, zt, zu, any_upto]; done) | (simp [uptoL, AVal.upto, zu, any_upto]; done), later_intro ?_⟩
    simp -dsimp only [simprocAttr, ↓vpre, zp]
    refine ⟨by omega, by omega, ?_, ?_⟩
    ·(show orderB _ _ = true); kernel_rfl
    refine at_intro ?_
    simp -dsimp only [vend, ne_eq, Nat.reduceEqDiff, reduceCtorEq]
    first | refine zg1 ?_ | refine zg0 ?_ | refine zg2 ?_ | refine zg3 ?_
    simp -dsimp only [simprocAttr, ↓vpre, zp]
    refine ⟨by omega, by omega, ?_⟩
    refine at_intro ?_
    simp -dsimp only [vend, ne_eq, Nat.reduceEqDiff, reduceCtorEq]
    refine ⟨⟨k + 1, hlt⟩, by simp; omega, ?_⟩
    have e : narrows name many (rows.take (k + 1)) = narrows name many (rows.take k) ++ [List.replicate many Pat.any ++ r'] := by
     simp [take_next hr, narrows_append, narrows, h]
    refine ⟨rfl, ?_, ?_⟩
    rotate_left
    simp -dsimp only [simprocAttr, ↓vpre, zp, Says, exists_eq_left', Option.some.injEq, sub_self, and_assoc, true_and, and_true]
    ·exact ⟨Sub.int (by simp), Sub.lst (by simp [e])⟩
    ·simp [e]
   ·have hfree := h
    first | refine zg1 ?_ | refine zg0 ?_ | refine zg2 ?_ | refine zg3 ?_
    simp -dsimp only [simprocAttr, ↓vpre, zp]
    refine at_intro ?_
    simp -dsimp only [vend, ne_eq, Nat.reduceEqDiff, reduceCtorEq]
    first | refine zk1 rfl (fun h => ?_) (fun h => ?_) | refine zk0 rfl (fun h => ?_) (fun h => ?_) | refine zk2 rfl (fun h => ?_) (fun h => ?_)
    ·have hnm : p.name = name := by simpa using h
     first | refine zg1 ?_ | refine zg0 ?_ | refine zg2 ?_ | refine zg3 ?_
     simp -dsimp only [simprocAttr, ↓vpre, zp, List.take_length, List.drop_one, List.tail_cons]
     refine .inl ⟨_, (concat_spec [p.args, r'] (by simp) (by simp [total]; omega)), by first | (simp only [uptoL, AVal.upto, zt, zu, any_upto]; done) | (simp [uptoL, AVal.upto, zu, any_upto]; done), later_intro ?_⟩
     simp -dsimp only [simprocAttr, ↓vpre, zp]
     refine ⟨by omega, by omega, ?_, ?_⟩
     ·(show orderB _ _ = true); kernel_rfl
     refine at_intro ?_
     simp -dsimp only [vend, ne_eq, Nat.reduceEqDiff, reduceCtorEq]
     first | refine zg1 ?_ | refine zg0 ?_ | refine zg2 ?_ | refine zg3 ?_
     simp -dsimp only [simprocAttr, ↓vpre, zp]
     refine ⟨by omega, by omega, ?_⟩
     refine at_intro ?_
     simp -dsimp only [vend, ne_eq, Nat.reduceEqDiff, reduceCtorEq]
     refine ⟨⟨k + 1, hlt⟩, by simp; omega, ?_⟩
     have e : narrows name many (rows.take (k + 1)) = narrows name many (rows.take k) ++ [p.args ++ r'] := by
      simp [take_next hr, narrows_append, narrows, hfree, hnm]
     refine ⟨rfl, ?_, ?_⟩
     rotate_left
     simp -dsimp only [simprocAttr, ↓vpre, zp, Says, exists_eq_left', Option.some.injEq, sub_self, and_assoc, true_and, and_true]
     ·exact ⟨Sub.int (by simp), Sub.lst (by simp [e])⟩
     ·simp [e]
    ·have hnm : ¬ p.name = name := by simpa using h
     refine awp_skip ?_
     simp -dsimp only [vend, ne_eq, Nat.reduceEqDiff, reduceCtorEq]
     first | refine zg1 ?_ | refine zg0 ?_ | refine zg2 ?_ | refine zg3 ?_
     simp -dsimp only [simprocAttr, ↓vpre, zp]
     refine ⟨by omega, by omega, ?_⟩
     refine at_intro ?_
     simp -dsimp only [vend, ne_eq, Nat.reduceEqDiff, reduceCtorEq]
     refine ⟨⟨k + 1, hlt⟩, by simp; omega, ?_⟩
     have e : narrows name many (rows.take (k + 1)) = narrows name many (rows.take k) := by
      simp [take_next hr, narrows_append, narrows, hfree, hnm]
     refine ⟨rfl, ?_, ?_⟩
     rotate_left
     simp -dsimp only [simprocAttr, ↓vpre, zp, Says, exists_eq_left', Option.some.injEq, sub_self, and_assoc, true_and, and_true]
     ·exact ⟨Sub.int (by simp), Sub.lst (by simp [e])⟩
     ·simp [e]
  ·refine awp_exit ?_
   simp -dsimp only [vend, ne_eq, Nat.reduceEqDiff, reduceCtorEq]
   have hlt : k = rows.length := by simp at h; omega
   subst hlt
   first | refine zg1 ?_ | refine zg0 ?_ | refine zg2 ?_ | refine zg3 ?_
   simp -dsimp only [simprocAttr, ↓vpre, zp]
   refine at_intro ?_
   simp -dsimp only [vend, ne_eq, Nat.reduceEqDiff, reduceCtorEq]
   refine awp_ret ?_
   simp -dsimp only [simprocAttr, ↓vpre, zp, RetTo, Try.results45, retVals, retVal, mkRet, AVal.upto, Nat.zero_le, Nat.le_refl, seqPost_ret, blockPost_ret, loopPost_ret, List.take_length]
   simpa using rows_upto _ _

end Go.Proofs.Ytakdmelemfnmdaa
end

section
set_option linter.unusedSimpArgs false
set_option maxHeartbeats 1000000
-- !tab vtab
-- !upto Pat.enc_upto Pat.map_upto any_upto
namespace Go.Proofs.Ytakdmelemfnmdaa
open Go.Av

def sizeGo (f : List Pat → Nat → Bool × Nat) : List Pat → Nat → Bool × Nat
 | [], m => (true, m)
 | p :: r, m => if 400 < m + 1 then (false, m + 1) else match f p.args (m + 1) with
  | (true, m2) => sizeGo f r m2
  | (false, m2) => (false, m2)

/-- size, at depth 21 - d. -/
def sizeL : Nat → List Pat → Nat → Bool × Nat
 | 0, l, m => (l.isEmpty, m)
 | d + 1, l, m => sizeGo (sizeL d) l m

theorem sizeGo_le {f : List Pat → Nat → Bool × Nat} (hf : ∀ l m, m ≤ 400 → (f l m).1 = true → (f l m).2 ≤ 400) : ∀ (l : List Pat) (m : Nat), m ≤ 400 → (sizeGo f l m).1 = true → (sizeGo f l m).2 ≤ 400
 | [], m, hm, _ => hm
 | p :: r, m, hm, h => by
  simp only [sizeGo] at h ⊢
  split at h
  ·cases h
  ·rename_i hlt
   rw [if_neg hlt]
   have := hf p.args (m + 1) (by omega)
   split at h
   ·rename_i m2 he
    rw [he] at this
    exact sizeGo_le hf r m2 (this rfl) h
   ·cases h

theorem sizeL_le : ∀ (d : Nat) (l : List Pat) (m : Nat), m ≤ 400 → (sizeL d l m).1 = true → (sizeL d l m).2 ≤ 400
 | 0, _, _, hm, _ => hm
 | d + 1, l, m, hm, h => sizeGo_le (sizeL_le d) l m hm h

abbrev aI (n : Int) : AVal := .v (.int .i64 n)

theorem size_spec : ∀ (d : Nat) (hd : d ≤ 21) (l : List Pat) (m : Nat) (hm0 : m ≤ 400) (O : List AObj) (hO : ∀ o ∈ O, o.upto O.length) (id : Nat) (hid : O[id]? = some (.cells [aI m])),
  ECall Try.prog 70 O [eR l, aI ((21 : Int) - d), .mp id 0] fun r O' => r = .v (.bool (sizeL d l m).1) ∧ O' = O.set id (.cells [aI (sizeL d l m).2])
 | 0, hd, l, m, hm0, O, hO, id, hid => by
  refine ecall_of hT true O.length Try.func70 rfl (by kernel_rfl) (by simp [Try.ntmps70]) (by simp) ?_
  show AWP Try.prog _ _ _ ⟨39, _, _⟩
  dsimp only [Tmp, TypeId, slotsOf]
  first | refine zg1 ?_ | refine zg0 ?_ | refine zg2 ?_ | refine zg3 ?_
  simp -dsimp only [simprocAttr, ↓vpre, zp]
  refine at_intro ?_
  simp -dsimp only [vend, ne_eq, Nat.reduceEqDiff, reduceCtorEq]
  first | refine zg1 ?_ | refine zg0 ?_ | refine zg2 ?_ | refine zg3 ?_
  simp -dsimp only [simprocAttr, ↓vpre, zp]
  refine at_intro ?_
  simp -dsimp only [vend, ne_eq, Nat.reduceEqDiff, reduceCtorEq]
  first | refine zk1 rfl (fun h => ?_) (fun h => ?_) | refine zk0 rfl (fun h => ?_) (fun h => ?_) | refine zk2 rfl (fun h => ?_) (fun h => ?_)
  ·first | refine zg1 ?_ | refine zg0 ?_ | refine zg2 ?_ | refine zg3 ?_
   simp -dsimp only [simprocAttr, ↓vpre, zp]
   refine at_intro ?_
   simp -dsimp only [vend, ne_eq, Nat.reduceEqDiff, reduceCtorEq]
   refine awp_ret ?_
   simp -dsimp only [simprocAttr, ↓vpre, zp, RetTo, Try.results70, retVals, retVal, mkRet, AVal.upto, Nat.zero_le, Nat.le_refl, seqPost_ret, blockPost_ret, loopPost_ret, List.take_length]
   refine ⟨hO, ?_, (set_getElem?_same hid).symm⟩
   cases l <;> simp [sizeL]
   omega
  ·simp at h
 | d + 1, hd, l, m, hm0, O, hO, id, hid => by
  have hidl := lt_of_getElem? hid
  have ih := size_spec d (by omega)
  refine ecall_of hT true O.length Try.func70 rfl (by kernel_rfl) (by simp [Try.ntmps70]) (by simp) ?_
  show AWP Try.prog _ _ _ ⟨39, _, _⟩
  dsimp only [Tmp, TypeId, slotsOf]
  first | refine zg1 ?_ | refine zg0 ?_ | refine zg2 ?_ | refine zg3 ?_
  simp -dsimp only [simprocAttr, ↓vpre, zp]
  refine at_intro ?_
  simp -dsimp only [vend, ne_eq, Nat.reduceEqDiff, reduceCtorEq]
  first | refine zg1 ?_ | refine zg0 ?_ | refine zg2 ?_ | refine zg3 ?_
  simp -dsimp only [simprocAttr, ↓vpre, zp]
  refine at_intro ?_
  simp -dsimp only [vend, ne_eq, Nat.reduceEqDiff, reduceCtorEq]
  first | refine zk1 rfl (fun h => ?_) (fun h => ?_) | refine zk0 rfl (fun h => ?_) (fun h => ?_) | refine zk2 rfl (fun h => ?_) (fun h => ?_)
  ·simp at h
   omega
  ·refine awp_skip ?_
   simp -dsimp only [vend, ne_eq, Nat.reduceEqDiff, reduceCtorEq]
   refine awp_len 0 rfl (fun hlen => ?_)
   simp only [List.length_map] at hlen
   first | refine zg1 ?_ | refine zg0 ?_ | refine zg2 ?_ | refine zg3 ?_
   simp -dsimp only [simprocAttr, ↓vpre, zp]
   refine at_intro ?_
   simp -dsimp only [vend, ne_eq, Nat.reduceEqDiff, reduceCtorEq]
   first | refine awp_block (awp_loop (ι := {q : Nat × Nat // q.1 ≤ l.length ∧ q.2 ≤ 400 ∧ sizeL (d + 1) l m = sizeGo (sizeL d) (l.drop q.1) q.2}) (fun q => ⟨39, [(1, aI ((21 : Int) - (d + 1 : Nat))), (2, .mp id 0), (14, eR l), (15, aI l.length), (16, aI q.1.1)], O.set id (.cells [aI q.1.2])⟩) (fun q => l.length - q.1.1) ⟨(0, m), by omega, hm0, rfl⟩ ?_ ?_) | refine awp_seq (awp_block (awp_loop (ι := {q : Nat × Nat // q.1 ≤ l.length ∧ q.2 ≤ 400 ∧ sizeL (d + 1) l m = sizeGo (sizeL d) (l.drop q.1) q.2}) (fun q => ⟨39, [(1, aI ((21 : Int) - (d + 1 : Nat))), (2, .mp id 0), (14, eR l), (15, aI l.length), (16, aI q.1.1)], O.set id (.cells [aI q.1.2])⟩) (fun q => l.length - q.1.1) ⟨(0, m), by omega, hm0, rfl⟩ ?_ ?_))
   ·refine ⟨rfl, ?_, ?_⟩
    rotate_left
    simp -dsimp only [simprocAttr, ↓vpre, zp, Says, exists_eq_left', Option.some.injEq, sub_self, and_assoc, true_and, and_true]
    exact (set_getElem?_same hid).symm
   ·rintro ⟨⟨k, m'⟩, hk, hm', he⟩
    simp only at hk hm' he
    have hobL : ∀ x : AObj, (O.set id x)[id]? = some x := fun x => List.getElem?_set_self hidl
    have hup : ∀ (n : Int) (o : AObj), o ∈ O.set id (.cells [aI n]) → o.upto O.length := fun n o ho => by
     rcases List.mem_or_eq_of_mem_set ho with ho | ho
     ·exact hO o ho
     ·subst ho
      simp [AObj.upto, uptoL, AVal.upto]
    obtain ⟨O2, hO2⟩ : ∃ O2, O2 = O.set id (.cells [aI m']) := ⟨_, rfl⟩
    have hob2 : O2[id]? = some (.cells [aI m']) := by rw [hO2]; exact hobL _
    have hl2 : O2.length = O.length := by rw [hO2]; simp
    have htk : ∀ (X : List AObj) (y : AObj), X.length = O.length → (X ++ [y]).take O.length = X := fun X y h => by rw [← h, snoc_take]
    have hss : ∀ x, O2.set id x = O.set id x := fun x => by rw [hO2, List.set_set]
    simp only [← hO2]
    first | refine zg1 ?_ | refine zg0 ?_ | refine zg2 ?_ | refine zg3 ?_
    simp -dsimp only [simprocAttr, ↓vpre, zp]
    refine at_intro ?_
    simp -dsimp only [vend, ne_eq, Nat.reduceEqDiff, reduceCtorEq]
    first | refine zk1 rfl (fun h => ?_) (fun h => ?_) | refine zk0 rfl (fun h => ?_) (fun h => ?_) | refine zk2 rfl (fun h => ?_) (fun h => ?_)
    ·refine awp_skip ?_
     simp -dsimp only [vend, ne_eq, Nat.reduceEqDiff, reduceCtorEq]
     have hlt : k < l.length := by simpa using h
     obtain ⟨p, hp⟩ : ∃ p, l[k]? = some p := ⟨l[k], by simp [hlt]⟩
     have hdrop : l.drop k = p :: l.drop (k + 1) := by
      rw [List.drop_eq_getElem_cons hlt]
      rw [List.getElem?_eq_getElem hlt] at hp
      simp only [Option.some.injEq] at hp
      rw [hp]
     first | refine awp_seq (awp_block ?_) | refine awp_block ?_
     first | refine zg1 ?_ | refine zg0 ?_ | refine zg2 ?_ | refine zg3 ?_
     simp -dsimp only [simprocAttr, ↓vpre, zp, hp]
     refine at_intro ?_
     simp -dsimp only [vend, ne_eq, Nat.reduceEqDiff, reduceCtorEq]
     first | refine zg1 ?_ | refine zg0 ?_ | refine zg2 ?_ | refine zg3 ?_
     simp -dsimp only [simprocAttr, ↓vpre, zp, snoc_old hob2, snoc_set_old hob2, hss]
     refine ⟨by omega, by omega, ?_⟩
     refine at_intro ?_
     simp -dsimp only [vend, ne_eq, Nat.reduceEqDiff, reduceCtorEq]
     obtain ⟨O3, hO3⟩ : ∃ O3, O3 = O.set id (.cells [aI ((m' : Int) + 1)]) := ⟨_, rfl⟩
     have hob3 : O3[id]? = some (.cells [aI ((m' : Int) + 1)]) := by rw [hO3]; exact hobL _
     have hl3 : O3.length = O.length := by rw [hO3]; simp
     have hl23 : O2.length = O3.length := by rw [hl2, hl3]
     rw [← hO3, hl23]
     first | refine zg1 ?_ | refine zg0 ?_ | refine zg2 ?_ | refine zg3 ?_
     simp -dsimp only [simprocAttr, ↓vpre, zp, snoc_old hob3]
     refine vcIf_split (fun h => ?_) (fun h => ?_)
     ·have hle : ¬ (400 < m' + 1) := by
       intro hh
       simp at h
       omega
      simp -dsimp only [simprocAttr, ↓vpre, zp, h, snoc_old hob3]
      refine ⟨by omega, by omega, ?_⟩
      have ed : (21 : Int) - ((d + 1 : Nat) : Int) + 1 = 21 - (d : Int) := by omega
      simp -dsimp only [ed]
      have hq := sizeL_le d p.args (m' + 1) (by omega)
      have hs3 : ∀ (x : List AObj) (y : AObj), (O3 ++ x).set id y = O.set id y ++ x := fun x y => by rw [snoc_set_old hob3, hO3, List.set_set]
      refine .inr (.inl ⟨_, _, (ih p.args (m' + 1) (by omega) (O3 ++ [.cells [.v (.int .i64 p.kind), .v (.string p.name), .v (.int .i64 p.n), .lst 4 (p.args.map Pat.enc) .sh]]) (fun o ho => by rcases List.mem_append.1 ho with ho | ho; exact AObj.upto_mono (by simp; omega) (hup _ o (hO3 ▸ ho)); rw [List.mem_singleton.1 ho]; simp [AObj.upto, uptoL, AVal.upto, Pat.map_upto]) id (by rw [snoc_old hob3]; rfl)), .inl (later_intro ?_)⟩)
      rw [hs3]
      obtain ⟨⟨b, m2⟩, hb⟩ : ∃ q, q = sizeL d p.args (m' + 1) := ⟨_, rfl⟩
      simp only [← hb] at hq ⊢
      have hgo : sizeL (d + 1) l m = if b then sizeGo (sizeL d) (l.drop (k + 1)) m2 else (false, m2) := by
       rw [he, hdrop, sizeGo, if_neg hle, ← hb]
       cases b <;> rfl
      simp -dsimp only [simprocAttr, ↓vpre, zp, h]
      refine at_intro ?_
      simp -dsimp only [vend, ne_eq, Nat.reduceEqDiff, reduceCtorEq]
      first | refine zk1 rfl (fun h => ?_) (fun h => ?_) | refine zk0 rfl (fun h => ?_) (fun h => ?_) | refine zk2 rfl (fun h => ?_) (fun h => ?_)
      ·have hbf : b = false := by simpa using h
       subst hbf
       first | refine zg1 ?_ | refine zg0 ?_ | refine zg2 ?_ | refine zg3 ?_
       simp -dsimp only [simprocAttr, ↓vpre, zp]
       refine at_intro ?_
       simp -dsimp only [vend, ne_eq, Nat.reduceEqDiff, reduceCtorEq]
       refine awp_ret ?_
       simp -dsimp only [simprocAttr, ↓vpre, zp, RetTo, Try.results70, retVals, retVal, mkRet, AVal.upto, Nat.zero_le, Nat.le_refl, seqPost_ret, blockPost_ret, loopPost_ret]
       simp -dsimp only [htk _ _ (show (O.set id (.cells [aI (m2 : Int)])).length = O.length by simp)]
       rw [hgo]
       exact ⟨by simp, hup _, rfl, rfl⟩
      ·have hbt : b = true := by simpa using h
       subst hbt
       refine awp_skip ?_
       simp -dsimp only [vend, ne_eq, Nat.reduceEqDiff, reduceCtorEq]
       refine awp_trunc' O.length [(1, aI ((21 : Int) - (d + 1 : Nat))), (2, .mp id 0), (14, eR l), (15, aI l.length), (16, aI k)] (by first | omega | (simp; done) | (simp; omega)) (by first | omega | (simp; done) | (simp; omega)) (O.set id (.cells [aI m2])) ?_ ?_ ?_ ?_ ?_
       ·exact htk _ _ (by simp)
       ·exact hup _
       ·simp -dsimp only [simprocAttr, ↓vpre, zp, Says, exists_eq_left', Option.some.injEq, sub_self, and_true]
       ·simp [AVal.upto, uptoL, Pat.map_upto, hidl]
       ·first | refine zg1 ?_ | refine zg0 ?_ | refine zg2 ?_ | refine zg3 ?_
        simp -dsimp only [simprocAttr, ↓vpre, zp]
        refine ⟨by omega, by omega, ?_⟩
        refine at_intro ?_
        simp -dsimp only [vend, ne_eq, Nat.reduceEqDiff, reduceCtorEq]
        refine ⟨⟨(k + 1, m2), by omega, hq rfl, by rw [hgo]; rfl⟩, by simp; omega, ?_⟩
        refine ⟨rfl, ?_, ?_⟩
        rotate_left
        simp -dsimp only [simprocAttr, ↓vpre, zp, Says, exists_eq_left', Option.some.injEq, sub_self, and_assoc, true_and, and_true]
        ·exact Sub.int (by simp)
        ·rfl
     ·have hgt : 400 < m' + 1 := by
       simp at h
       omega
      simp -dsimp only [simprocAttr, ↓vpre, zp, h]
      refine at_intro ?_
      simp -dsimp only [vend, ne_eq, Nat.reduceEqDiff, reduceCtorEq]
      first | refine zk1 rfl (fun h => ?_) (fun h => ?_) | refine zk0 rfl (fun h => ?_) (fun h => ?_) | refine zk2 rfl (fun h => ?_) (fun h => ?_)
      ·first | refine zg1 ?_ | refine zg0 ?_ | refine zg2 ?_ | refine zg3 ?_
       simp -dsimp only [simprocAttr, ↓vpre, zp]
       refine at_intro ?_
       simp -dsimp only [vend, ne_eq, Nat.reduceEqDiff, reduceCtorEq]
       refine awp_ret ?_
       simp -dsimp only [simprocAttr, ↓vpre, zp, RetTo, Try.results70, retVals, retVal, mkRet, AVal.upto, Nat.zero_le, Nat.le_refl, seqPost_ret, blockPost_ret, loopPost_ret]
       simp -dsimp only [htk _ _ hl3]
       have hgo : sizeL (d + 1) l m = (false, m' + 1) := by
        rw [he, hdrop, sizeGo, if_pos hgt]
       rw [hgo]
       refine ⟨by omega, fun o ho => hup _ o (hO3 ▸ ho), rfl, hO3⟩
      ·cases h
    ·refine awp_exit ?_
     simp -dsimp only [vend, ne_eq, Nat.reduceEqDiff, reduceCtorEq]
     have hlt : k = l.length := by simp at h; omega
     subst hlt
     first | refine zg1 ?_ | refine zg0 ?_ | refine zg2 ?_ | refine zg3 ?_
     simp -dsimp only [simprocAttr, ↓vpre, zp]
     refine at_intro ?_
     simp -dsimp only [vend, ne_eq, Nat.reduceEqDiff, reduceCtorEq]
     refine awp_ret ?_
     simp -dsimp only [simprocAttr, ↓vpre, zp, RetTo, Try.results70, retVals, retVal, mkRet, AVal.upto, Nat.zero_le, Nat.le_refl, seqPost_ret, blockPost_ret, loopPost_ret]
     have hgo : sizeL (d + 1) l m = (true, m') := by
      rw [he, List.drop_length]
      rfl
     rw [hgo, ← hl2, List.take_length, hl2]
     exact ⟨Nat.le_refl _, fun o ho => hup _ o (hO2 ▸ ho), rfl, hO2⟩

end Go.Proofs.Ytakdmelemfnmdaa
end

section
set_option linter.unusedSimpArgs false
set_option maxHeartbeats 1000000
-- !tab vtab
-- !upto Pat.enc_upto Pat.map_upto any_upto Con.enc_upto Con.map_upto Data.enc_upto Data.map_upto
namespace Go.Proofs.Ytakdmelemfnmdaa
open Go.Av

theorem indexFuncD_spec (f : Data → Bool) (id : Nat) (fs cs : List AVal) (O : List AObj) (hO : ∀ o ∈ O, o.upto O.length) (l : List Data)
  (hf : ∀ p ∈ l, ECall Try.prog id O (fs ++ [p.enc] ++ cs) fun r O' => r = .v (.bool (f p)) ∧ O' = O) :
  ECall Try.prog 91 O [eD l, .fn (.func id) fs cs] fun r O' => r = .v (.int .i64 (idx f l)) ∧ O' = O := by
 refine ecall_of hT true O.length Try.func91 rfl (by kernel_rfl) (by simp [Try.ntmps91]) (by simp) ?_
 show AWP Try.prog _ _ _ ⟨19, _, _⟩
 dsimp only [Tmp, TypeId, slotsOf]
 first | refine zg1 ?_ | refine zg0 ?_ | refine zg2 ?_ | refine zg3 ?_
 simp -dsimp only [simprocAttr, ↓vpre, zp]
 refine at_intro ?_
 simp -dsimp only [vend, ne_eq, Nat.reduceEqDiff, reduceCtorEq]
 refine awp_len 0 rfl (fun hlen => ?_)
 simp only [List.length_map] at hlen
 first | refine zg1 ?_ | refine zg0 ?_ | refine zg2 ?_ | refine zg3 ?_
 simp -dsimp only [simprocAttr, ↓vpre, zp]
 refine at_intro ?_
 simp -dsimp only [vend, ne_eq, Nat.reduceEqDiff, reduceCtorEq]
 first | refine awp_block (awp_loop (ι := {k : Nat // k ≤ l.length ∧ ∀ j p, j < k → l[j]? = some p → f p = false}) (fun k => ⟨19, [(0, eD l), (1, .fn (.func id) fs cs), (7, .v (.int .i64 l.length)), (8, .v (.int .i64 k.1))], O⟩) (fun k => l.length - k.1) ⟨0, by omega, by intros; omega⟩ ?_ ?_) | refine awp_seq (awp_block (awp_loop (ι := {k : Nat // k ≤ l.length ∧ ∀ j p, j < k → l[j]? = some p → f p = false}) (fun k => ⟨19, [(0, eD l), (1, .fn (.func id) fs cs), (7, .v (.int .i64 l.length)), (8, .v (.int .i64 k.1))], O⟩) (fun k => l.length - k.1) ⟨0, by omega, by intros; omega⟩ ?_ ?_))
 ·refine ⟨rfl, ?_, ?_⟩
  rotate_left
  simp -dsimp only [simprocAttr, ↓vpre, zp, Says, exists_eq_left', Option.some.injEq, sub_self, and_assoc, true_and, and_true]
  rfl
 ·rintro ⟨k, hk, hall⟩
  first | refine zg1 ?_ | refine zg0 ?_ | refine zg2 ?_ | refine zg3 ?_
  simp -dsimp only [simprocAttr, ↓vpre, zp]
  refine at_intro ?_
  simp -dsimp only [vend, ne_eq, Nat.reduceEqDiff, reduceCtorEq]
  first | refine zk1 rfl (fun h => ?_) (fun h => ?_) | refine zk0 rfl (fun h => ?_) (fun h => ?_) | refine zk2 rfl (fun h => ?_) (fun h => ?_)
  ·refine awp_skip ?_
   simp -dsimp only [vend, ne_eq, Nat.reduceEqDiff, reduceCtorEq]
   have hlt : k < l.length := by simpa using h
   obtain ⟨p, hp⟩ : ∃ p, l[k]? = some p := ⟨l[k], by simp [hlt]⟩
   have hmem := List.mem_of_getElem? hp
   first | refine awp_seq (awp_block ?_) | refine awp_block ?_
   first | refine zg1 ?_ | refine zg0 ?_ | refine zg2 ?_ | refine zg3 ?_
   simp -dsimp only [simprocAttr, ↓vpre, zp]
   refine at_intro ?_
   simp -dsimp only [vend, ne_eq, Nat.reduceEqDiff, reduceCtorEq]
   first | refine zg1 ?_ | refine zg0 ?_ | refine zg2 ?_ | refine zg3 ?_
   simp -dsimp only [simprocAttr, ↓vpre, zp, hp]
   refine .inr (.inr ⟨_, (hf p hmem), later_intro ?_⟩)
   simp -dsimp only [simprocAttr, ↓vpre, zp]
   refine at_intro ?_
   simp -dsimp only [vend, ne_eq, Nat.reduceEqDiff, reduceCtorEq]
   first | refine zk1 rfl (fun h => ?_) (fun h => ?_) | refine zk0 rfl (fun h => ?_) (fun h => ?_) | refine zk2 rfl (fun h => ?_) (fun h => ?_)
   ·first | refine zg1 ?_ | refine zg0 ?_ | refine zg2 ?_ | refine zg3 ?_
    simp -dsimp only [simprocAttr, ↓vpre, zp]
    refine at_intro ?_
    simp -dsimp only [vend, ne_eq, Nat.reduceEqDiff, reduceCtorEq]
    refine awp_ret ?_
    simp -dsimp only [simprocAttr, ↓vpre, zp, RetTo, Try.results91, retVals, retVal, mkRet, AVal.upto, Nat.zero_le, Nat.le_refl, seqPost_ret, blockPost_ret, loopPost_ret, List.take_length]
    rw [idx_some hp h hall]
    simpa using hO
   ·refine awp_skip ?_
    simp -dsimp only [vend, ne_eq, Nat.reduceEqDiff, reduceCtorEq]
    have hb : f p = false := by simpa using h
    first | refine zg1 ?_ | refine zg0 ?_ | refine zg2 ?_ | refine zg3 ?_
    simp -dsimp only [simprocAttr, ↓vpre, zp]
    refine ⟨by omega, by omega, ?_⟩
    refine at_intro ?_
    simp -dsimp only [vend, ne_eq, Nat.reduceEqDiff, reduceCtorEq]
    refine ⟨⟨k + 1, hlt, fun j q hj hq => ?_⟩, by simp; omega, ?_⟩
    ·rcases Nat.lt_succ_iff_lt_or_eq.1 hj with hj | hj
     ·exact hall j q hj hq
     ·subst hj
      rw [hp] at hq
      simp only [Option.some.injEq] at hq
      rw [← hq]
      exact hb
    refine ⟨rfl, ?_, ?_⟩
    rotate_left
    simp -dsimp only [simprocAttr, ↓vpre, zp, Says, exists_eq_left', Option.some.injEq, sub_self, and_assoc, true_and, and_true]
    ·exact Sub.int (by simp)
    ·rfl
  ·refine awp_exit ?_
   simp -dsimp only [vend, ne_eq, Nat.reduceEqDiff, reduceCtorEq]
   have hlt : k = l.length := by simp at h; omega
   subst hlt
   first | refine zg1 ?_ | refine zg0 ?_ | refine zg2 ?_ | refine zg3 ?_
   simp -dsimp only [simprocAttr, ↓vpre, zp]
   refine at_intro ?_
   simp -dsimp only [vend, ne_eq, Nat.reduceEqDiff, reduceCtorEq]
   refine awp_ret ?_
   simp -dsimp only [simprocAttr, ↓vpre, zp, RetTo, Try.results91, retVals, retVal, mkRet, AVal.upto, Nat.zero_le, Nat.le_refl, seqPost_ret, blockPost_ret, loopPost_ret, List.take_length]
   rw [idx_none hall]
   simpa using hO

theorem containsFuncD_spec (f : Data → Bool) (id : Nat) (fs cs : List AVal) (O : List AObj) (hO : ∀ o ∈ O, o.upto O.length) (l : List Data)
  (hf : ∀ p ∈ l, ECall Try.prog id O (fs ++ [p.enc] ++ cs) fun r O' => r = .v (.bool (f p)) ∧ O' = O) :
  ECall Try.prog 71 O [eD l, .fn (.func id) fs cs] fun r O' => r = .v (.bool (l.any f)) ∧ O' = O := by
 refine ecall_of hT true O.length Try.func71 rfl (by kernel_rfl) (by simp [Try.ntmps71]) (by simp) ?_
 show AWP Try.prog _ _ _ ⟨9, _, _⟩
 dsimp only [Tmp, TypeId, slotsOf]
 first | refine zg1 ?_ | refine zg0 ?_ | refine zg2 ?_ | refine zg3 ?_
 simp -dsimp only [simprocAttr, ↓vpre, zp]
 refine at_intro ?_
 simp -dsimp only [vend, ne_eq, Nat.reduceEqDiff, reduceCtorEq]
 first | refine zg1 ?_ | refine zg0 ?_ | refine zg2 ?_ | refine zg3 ?_
 simp -dsimp only [simprocAttr, ↓vpre, zp]
 refine .inr (.inr ⟨_, (indexFuncD_spec f id fs cs O hO l hf), later_intro ?_⟩)
 simp -dsimp only [simprocAttr, ↓vpre, zp]
 refine at_intro ?_
 simp -dsimp only [vend, ne_eq, Nat.reduceEqDiff, reduceCtorEq]
 refine awp_ret ?_
 simp -dsimp only [simprocAttr, ↓vpre, zp, RetTo, Try.results71, retVals, retVal, mkRet, AVal.upto, Nat.zero_le, Nat.le_refl, seqPost_ret, blockPost_ret, loopPost_ret, List.take_length]
 rw [idx_any]
 simpa using hO


theorem small1_spec (d : Data) : PCall Try.prog 72 [d.enc] (.v (.bool (decide ((256 : Int) < d.cons.length)))) := by
 refine ecall_of hT true 0 Try.func72 rfl (by kernel_rfl) (by simp [Try.ntmps72]) (by simp) ?_
 show AWP Try.prog _ _ _ ⟨7, _, _⟩
 dsimp only [Tmp, TypeId, slotsOf]
 first | refine zg1 ?_ | refine zg0 ?_ | refine zg2 ?_ | refine zg3 ?_
 simp -dsimp only [simprocAttr, ↓vpre, zp]
 refine at_intro ?_
 simp -dsimp only [vend, ne_eq, Nat.reduceEqDiff, reduceCtorEq]
 first | refine zg1 ?_ | refine zg0 ?_ | refine zg2 ?_ | refine zg3 ?_
 simp -dsimp only [simprocAttr, ↓vpre, zp]
 refine at_intro ?_
 simp -dsimp only [vend, ne_eq, Nat.reduceEqDiff, reduceCtorEq]
 refine awp_ret ?_
 simp -dsimp only [simprocAttr, ↓vpre, zp, RetTo, Try.results72, retVals, retVal, mkRet, AVal.upto, Nat.zero_le, Nat.le_refl, seqPost_ret, blockPost_ret, loopPost_ret]

def smallRows : List (List Pat) → Nat → Bool
 | [], _ => true
 | r :: rows, m => if 16 < r.length then false else match sizeL 20 r m with
  | (true, m2) => smallRows rows m2
  | (false, _) => false

def small (datas : List Data) (rows : List (List Pat)) : Bool := smallRows rows 0 && (decide (rows.length ≤ 64) && !datas.any (fun d => decide ((256 : Int) < d.cons.length)))

theorem small_spec (datas : List Data) (rows : List (List Pat)) : PCall Try.prog 38 [eD datas, eRR rows] (.v (.bool (small datas rows))) := by
 refine ecall_of hT true 0 Try.func38 rfl (by kernel_rfl) (by simp [Try.ntmps38]) (by simp) ?_
 show AWP Try.prog _ _ _ ⟨31, _, _⟩
 dsimp only [Tmp, TypeId, slotsOf]
 first | refine zg1 ?_ | refine zg0 ?_ | refine zg2 ?_ | refine zg3 ?_
 simp -dsimp only [simprocAttr, ↓vpre, zp]
 refine at_intro ?_
 simp -dsimp only [vend, ne_eq, Nat.reduceEqDiff, reduceCtorEq]
 first | refine zg1 ?_ | refine zg0 ?_ | refine zg2 ?_ | refine zg3 ?_
 simp -dsimp only [simprocAttr, ↓vpre, zp]
 refine at_intro ?_
 simp -dsimp only [vend, ne_eq, Nat.reduceEqDiff, reduceCtorEq]
 refine awp_len 1 rfl (fun hlen => ?_)
 simp only [List.length_map] at hlen
 first | refine zg1 ?_ | refine zg0 ?_ | refine zg2 ?_ | refine zg3 ?_
 simp -dsimp only [simprocAttr, ↓vpre, zp]
 refine at_intro ?_
 simp -dsimp only [vend, ne_eq, Nat.reduceEqDiff, reduceCtorEq]
 first | refine awp_block (awp_loop (ι := {q : Nat × Nat // q.1 ≤ rows.length ∧ q.2 ≤ 400 ∧ smallRows rows 0 = smallRows (rows.drop q.1) q.2}) (fun q => ⟨31, [(0, eD datas), (1, eRR rows), (5, .mp 0 0), (8, eRR rows), (9, aI rows.length), (10, aI q.1.1)], [.cells [aI q.1.2]]⟩) (fun q => rows.length - q.1.1) ⟨(0, 0), by omega, by omega, rfl⟩ ?_ ?_) | refine awp_seq (awp_block (awp_loop (ι := {q : Nat × Nat // q.1 ≤ rows.length ∧ q.2 ≤ 400 ∧ smallRows rows 0 = smallRows (rows.drop q.1) q.2}) (fun q => ⟨31, [(0, eD datas), (1, eRR rows), (5, .mp 0 0), (8, eRR rows), (9, aI rows.length), (10, aI q.1.1)], [.cells [aI q.1.2]]⟩) (fun q => rows.length - q.1.1) ⟨(0, 0), by omega, by omega, rfl⟩ ?_ ?_))
 ·refine ⟨rfl, ?_, ?_⟩
  rotate_left
  simp -dsimp only [simprocAttr, ↓vpre, zp, Says, exists_eq_left', Option.some.injEq, sub_self, and_assoc, true_and, and_true]
  rfl
 ·rintro ⟨⟨k, m⟩, hk, hm0, he⟩
  simp only at hk hm0 he
  first | refine zg1 ?_ | refine zg0 ?_ | refine zg2 ?_ | refine zg3 ?_
  simp -dsimp only [simprocAttr, ↓vpre, zp]
  refine at_intro ?_
  simp -dsimp only [vend, ne_eq, Nat.reduceEqDiff, reduceCtorEq]
  first | refine zk1 rfl (fun h => ?_) (fun h => ?_) | refine zk0 rfl (fun h => ?_) (fun h => ?_) | refine zk2 rfl (fun h => ?_) (fun h => ?_)
  ·refine awp_skip ?_
   simp -dsimp only [vend, ne_eq, Nat.reduceEqDiff, reduceCtorEq]
   have hlt : k < rows.length := by simpa using h
   obtain ⟨r, hr⟩ : ∃ r, rows[k]? = some r := ⟨rows[k], by simp [hlt]⟩
   have hdrop : rows.drop k = r :: rows.drop (k + 1) := by
    rw [List.drop_eq_getElem_cons hlt]
    rw [List.getElem?_eq_getElem hlt] at hr
    simp only [Option.some.injEq] at hr
    rw [hr]
   first | refine awp_seq (awp_block ?_) | refine awp_block ?_
   first | refine zg1 ?_ | refine zg0 ?_ | refine zg2 ?_ | refine zg3 ?_
   simp -dsimp only [simprocAttr, ↓vpre, zp, hr]
   refine at_intro ?_
   simp -dsimp only [vend, ne_eq, Nat.reduceEqDiff, reduceCtorEq]
   first | refine zg1 ?_ | refine zg0 ?_ | refine zg2 ?_ | refine zg3 ?_
   simp -dsimp only [simprocAttr, ↓vpre, zp]
   refine vcIf_split (fun h => ?_) (fun h => ?_)
   ·have hle : ¬ (16 < r.length) := by
     simp at h
     omega
    simp -dsimp only [simprocAttr, ↓vpre, zp, h]
    refine .inr (.inl ⟨_, _, (size_spec 20 (by omega) r m hm0 [.cells [aI m]] (by simp [AObj.upto, uptoL, AVal.upto]) 0 rfl), .inl (later_intro ?_)⟩)
    have hq := sizeL_le 20 r m hm0
    obtain ⟨⟨b, m2⟩, hb⟩ : ∃ q, q = sizeL 20 r m := ⟨_, rfl⟩
    simp only [← hb] at hq ⊢
    have hgo : smallRows rows 0 = if b then smallRows (rows.drop (k + 1)) m2 else false := by
     rw [he, hdrop, smallRows, if_neg hle, ← hb]
     cases b <;> rfl
    simp -dsimp only [simprocAttr, ↓vpre, zp, h]
    refine at_intro ?_
    simp -dsimp only [vend, ne_eq, Nat.reduceEqDiff, reduceCtorEq]
    first | refine zk1 rfl (fun h => ?_) (fun h => ?_) | refine zk0 rfl (fun h => ?_) (fun h => ?_) | refine zk2 rfl (fun h => ?_) (fun h => ?_)
    ·have hbf : b = false := by simpa using h
     subst hbf
     first | refine zg1 ?_ | refine zg0 ?_ | refine zg2 ?_ | refine zg3 ?_
     simp -dsimp only [simprocAttr, ↓vpre, zp]
     refine at_intro ?_
     simp -dsimp only [vend, ne_eq, Nat.reduceEqDiff, reduceCtorEq]
     refine awp_ret ?_
     simp -dsimp only [simprocAttr, ↓vpre, zp, RetTo, Try.results38, retVals, retVal, mkRet, AVal.upto, Nat.zero_le, Nat.le_refl, seqPost_ret, blockPost_ret, loopPost_ret]
     simp [small, hgo]
    ·have hbt : b = true := by simpa using h
     subst hbt
     refine awp_skip ?_
     simp -dsimp only [vend, ne_eq, Nat.reduceEqDiff, reduceCtorEq]
     first | refine zg1 ?_ | refine zg0 ?_ | refine zg2 ?_ | refine zg3 ?_
     simp -dsimp only [simprocAttr, ↓vpre, zp]
     refine ⟨by omega, by omega, ?_⟩
     refine at_intro ?_
     simp -dsimp only [vend, ne_eq, Nat.reduceEqDiff, reduceCtorEq]
     refine ⟨⟨(k + 1, m2), by omega, hq rfl, by rw [hgo]; rfl⟩, by simp; omega, ?_⟩
     refine ⟨rfl, ?_, ?_⟩
     rotate_left
     simp -dsimp only [simprocAttr, ↓vpre, zp, Says, exists_eq_left', Option.some.injEq, sub_self, and_assoc, true_and, and_true]
     ·exact Sub.int (by simp)
     ·rfl
   ·have hgt : 16 < r.length := by
     simp at h
     omega
    simp -dsimp only [simprocAttr, ↓vpre, zp, h]
    refine at_intro ?_
    simp -dsimp only [vend, ne_eq, Nat.reduceEqDiff, reduceCtorEq]
    first | refine zk1 rfl (fun h => ?_) (fun h => ?_) | refine zk0 rfl (fun h => ?_) (fun h => ?_) | refine zk2 rfl (fun h => ?_) (fun h => ?_)
    ·first | refine zg1 ?_ | refine zg0 ?_ | refine zg2 ?_ | refine zg3 ?_
     simp -dsimp only [simprocAttr, ↓vpre, zp]
     refine at_intro ?_
     simp -dsimp only [vend, ne_eq, Nat.reduceEqDiff, reduceCtorEq]
     refine awp_ret ?_
     simp -dsimp only [simprocAttr, ↓vpre, zp, RetTo, Try.results38, retVals, retVal, mkRet, AVal.upto, Nat.zero_le, Nat.le_refl, seqPost_ret, blockPost_ret, loopPost_ret]
     simp [small, he, hdrop, smallRows, hgt]
    ·cases h
  ·refine awp_exit ?_
   simp -dsimp only [vend, ne_eq, Nat.reduceEqDiff, reduceCtorEq]
   have hlt : k = rows.length := by simp at h; omega
   subst hlt
   have hgo : smallRows rows 0 = true := by rw [he, List.drop_length]; rfl
   first | refine zg1 ?_ | refine zg0 ?_ | refine zg2 ?_ | refine zg3 ?_
   simp -dsimp only [simprocAttr, ↓vpre, zp]
   refine vcIf_split (fun h => ?_) (fun h => ?_)
   ·have hl64 : rows.length ≤ 64 := by
     simp at h
     omega
    simp -dsimp only [simprocAttr, ↓vpre, zp, h]
    refine .inr (.inr ⟨_, (containsFuncD_spec (fun d => decide ((256 : Int) < d.cons.length)) 72 [] [] [.cells [aI m]] (by simp [AObj.upto, uptoL, AVal.upto]) datas (fun d _ => (small1_spec d).use (by simp [uptoL, Data.enc_upto]) _)), later_intro ?_⟩)
    simp -dsimp only [simprocAttr, ↓vpre, zp, h]
    refine at_intro ?_
    simp -dsimp only [vend, ne_eq, Nat.reduceEqDiff, reduceCtorEq]
    refine awp_ret ?_
    simp -dsimp only [simprocAttr, ↓vpre, zp, RetTo, Try.results38, retVals, retVal, mkRet, AVal.upto, Nat.zero_le, Nat.le_refl, seqPost_ret, blockPost_ret, loopPost_ret]
    simp [small, hgo, hl64]
   ·have hl64 : ¬ rows.length ≤ 64 := by
     simp at h
     omega
    simp -dsimp only [simprocAttr, ↓vpre, zp, h]
    refine at_intro ?_
    simp -dsimp only [vend, ne_eq, Nat.reduceEqDiff, reduceCtorEq]
    refine awp_ret ?_
    simp -dsimp only [simprocAttr, ↓vpre, zp, RetTo, Try.results38, retVals, retVal, mkRet, AVal.upto, Nat.zero_le, Nat.le_refl, seqPost_ret, blockPost_ret, loopPost_ret]
    simp [small, hl64]

end Go.Proofs.Ytakdmelemfnmdaa
end

section
set_option linter.unusedSimpArgs false
set_option maxHeartbeats 1000000
-- !tab vtab
-- !upto Pat.enc_upto Pat.map_upto any_upto Con.enc_upto Con.map_upto Data.enc_upto Data.map_upto Tbl.enc_upto entry_upto
namespace Go.Proofs.Ytakdmelemfnmdaa
open Go.Av

/-- The constructor of a name. -/
def Tbl.con (t : Tbl) (s : ByteArray) : K := (find t.cons s).getD K.zero

theorem zero_K (l : List (ByteArray × K)) (s : ByteArray) : ((find l s).map K.enc).getD (.agg [.v (.int .i64 0), .v (.int .i64 0), .v (.int .i64 0)]) = .agg [.v (.int .i64 ((find l s).getD K.zero).data), .v (.int .i64 ((find l s).getD K.zero).pos), .v (.int .i64 ((find l s).getD K.zero).many)] := look_zero l s _ rfl

def Tbl.kind (t : Tbl) (p : Pat) : Int := if p.kind = 2 then -1 else if p.kind = 3 then (t.con p.name).data else -2

theorem kind_spec (t : Tbl) (p : Pat) : PCall Try.prog 74 [t.enc, p.enc] (.v (.int .i64 (t.kind p))) := by
 refine ecall_of hT true 0 Try.func74 rfl (by kernel_rfl) (by simp [Try.ntmps74]) (by simp) ?_
 show AWP Try.prog _ _ _ ⟨17, _, _⟩
 dsimp only [Tmp, TypeId, slotsOf]
 first | refine zg1 ?_ | refine zg0 ?_ | refine zg2 ?_ | refine zg3 ?_
 simp -dsimp only [simprocAttr, ↓vpre, zp]
 refine at_intro ?_
 simp -dsimp only [vend, ne_eq, Nat.reduceEqDiff, reduceCtorEq]
 first | refine zg1 ?_ | refine zg0 ?_ | refine zg2 ?_ | refine zg3 ?_
 simp -dsimp only [simprocAttr, ↓vpre, zp]
 refine at_intro ?_
 simp -dsimp only [vend, ne_eq, Nat.reduceEqDiff, reduceCtorEq]
 first | refine awp_seq (awp_block ?_) | refine awp_block ?_
 first | refine zg1 ?_ | refine zg0 ?_ | refine zg2 ?_ | refine zg3 ?_
 simp -dsimp only [simprocAttr, ↓vpre, zp]
 refine at_intro ?_
 simp -dsimp only [vend, ne_eq, Nat.reduceEqDiff, reduceCtorEq]
 first | refine zk1 rfl (fun h => ?_) (fun h => ?_) | refine zk0 rfl (fun h => ?_) (fun h => ?_) | refine zk2 rfl (fun h => ?_) (fun h => ?_)
 ·have hk : p.kind = 2 := by simpa using h
  first | refine zg1 ?_ | refine zg0 ?_ | refine zg2 ?_ | refine zg3 ?_
  simp -dsimp only [simprocAttr, ↓vpre, zp]
  refine at_intro ?_
  simp -dsimp only [vend, ne_eq, Nat.reduceEqDiff, reduceCtorEq]
  refine awp_ret ?_
  simp -dsimp only [simprocAttr, ↓vpre, zp, RetTo, Try.results74, retVals, retVal, mkRet, AVal.upto, Nat.zero_le, Nat.le_refl, seqPost_ret, blockPost_ret, loopPost_ret]
  simp [Tbl.kind, hk]
 ·have hk2 : ¬ p.kind = 2 := by simpa using h
  first | refine zg1 ?_ | refine zg0 ?_ | refine zg2 ?_ | refine zg3 ?_
  simp -dsimp only [simprocAttr, ↓vpre, zp]
  refine at_intro ?_
  simp -dsimp only [vend, ne_eq, Nat.reduceEqDiff, reduceCtorEq]
  first | refine zk1 rfl (fun h => ?_) (fun h => ?_) | refine zk0 rfl (fun h => ?_) (fun h => ?_) | refine zk2 rfl (fun h => ?_) (fun h => ?_)
  ·have hk : p.kind = 3 := by simpa using h
   first | refine zg1 ?_ | refine zg0 ?_ | refine zg2 ?_ | refine zg3 ?_
   simp -dsimp only [simprocAttr, ↓vpre, zp, zero_K]
   refine at_intro ?_
   simp -dsimp only [vend, ne_eq, Nat.reduceEqDiff, reduceCtorEq]
   refine awp_ret ?_
   simp -dsimp only [simprocAttr, ↓vpre, zp, RetTo, Try.results74, retVals, retVal, mkRet, AVal.upto, Nat.zero_le, Nat.le_refl, seqPost_ret, blockPost_ret, loopPost_ret]
   simp [Tbl.kind, hk, Tbl.con]
  ·have hk : ¬ p.kind = 3 := by simpa using h
   refine awp_skip ?_
   simp -dsimp only [vend, ne_eq, Nat.reduceEqDiff, reduceCtorEq]
   first | refine zg1 ?_ | refine zg0 ?_ | refine zg2 ?_ | refine zg3 ?_
   simp -dsimp only [simprocAttr, ↓vpre, zp]
   refine at_intro ?_
   simp -dsimp only [vend, ne_eq, Nat.reduceEqDiff, reduceCtorEq]
   refine awp_ret ?_
   simp -dsimp only [simprocAttr, ↓vpre, zp, RetTo, Try.results74, retVals, retVal, mkRet, AVal.upto, Nat.zero_le, Nat.le_refl, seqPost_ret, blockPost_ret, loopPost_ret]
   simp [Tbl.kind, hk, hk2]

mutual
def Tbl.pattern (t : Tbl) : Pat → Int
 | .mk k s n l => if k = 0 then 0 else if k = 1 then 0 else if k = 2 then (if n < -1073741824 then 4 else if 1073741823 < n then 4 else 0) else if k = 3 then (match find t.cons s with
  | none => 6
  | some c => if l.length = c.many then t.patternL l else 3) else 3
def Tbl.patternL (t : Tbl) : List Pat → Int
 | [] => 0
 | p :: r => if t.pattern p = 0 then t.patternL r else t.pattern p
end

theorem Tbl.pattern_eq (t : Tbl) (p : Pat) : t.pattern p = if p.kind = 0 then 0 else if p.kind = 1 then 0 else if p.kind = 2 then (if p.n < -1073741824 then 4 else if 1073741823 < p.n then 4 else 0) else if p.kind = 3 then (match find t.cons p.name with
  | none => 6
  | some c => if p.args.length = c.many then t.patternL p.args else 3) else 3 := by
 cases p
 rw [Tbl.pattern]
 rfl

theorem pattern_spec (t : Tbl) (p : Pat) : PCall Try.prog 40 [t.enc, p.enc] (.v (.int .i64 (t.pattern p))) := by
  have ih : ∀ q ∈ p.args, PCall Try.prog 40 [t.enc, q.enc] (.v (.int .i64 (t.pattern q))) := fun q hq => pattern_spec t q
  have he := t.pattern_eq p
  obtain ⟨z, hz⟩ : ∃ z, z = t.pattern p := ⟨_, rfl⟩
  rw [← hz] at he ⊢
  refine ecall_of hT true 0 Try.func40 rfl (by kernel_rfl) (by simp [Try.ntmps40]) (by simp) ?_
  show AWP Try.prog _ _ _ ⟨59, _, _⟩
  dsimp only [Tmp, TypeId, slotsOf]
  first | refine zg1 ?_ | refine zg0 ?_ | refine zg2 ?_ | refine zg3 ?_
  simp -dsimp only [simprocAttr, ↓vpre, zp]
  refine at_intro ?_
  simp -dsimp only [vend, ne_eq, Nat.reduceEqDiff, reduceCtorEq]
  first | refine zg1 ?_ | refine zg0 ?_ | refine zg2 ?_ | refine zg3 ?_
  simp -dsimp only [simprocAttr, ↓vpre, zp]
  refine at_intro ?_
  simp -dsimp only [vend, ne_eq, Nat.reduceEqDiff, reduceCtorEq]
  first | refine awp_seq (awp_block ?_) | refine awp_block ?_
  first | refine zg1 ?_ | refine zg0 ?_ | refine zg2 ?_ | refine zg3 ?_
  simp -dsimp only [simprocAttr, ↓vpre, zp]
  refine at_intro ?_
  simp -dsimp only [vend, ne_eq, Nat.reduceEqDiff, reduceCtorEq]
  first | refine zk1 rfl (fun h => ?_) (fun h => ?_) | refine zk0 rfl (fun h => ?_) (fun h => ?_) | refine zk2 rfl (fun h => ?_) (fun h => ?_)
  ·have h0 : p.kind = 0 := by simpa using h
   rw [if_pos h0] at he
   refine awp_skip ?_
   simp -dsimp only [vend, ne_eq, Nat.reduceEqDiff, reduceCtorEq]
   first | refine zk1 rfl (fun h => ?_) (fun h => ?_) | refine zk0 rfl (fun h => ?_) (fun h => ?_) | refine zk2 rfl (fun h => ?_) (fun h => ?_)
   ·first | refine zg1 ?_ | refine zg0 ?_ | refine zg2 ?_ | refine zg3 ?_
    simp -dsimp only [simprocAttr, ↓vpre, zp]
    refine at_intro ?_
    simp -dsimp only [vend, ne_eq, Nat.reduceEqDiff, reduceCtorEq]
    refine awp_ret ?_
    simp -dsimp only [simprocAttr, ↓vpre, zp, RetTo, Try.results40, retVals, retVal, mkRet, AVal.upto, Nat.zero_le, Nat.le_refl, seqPost_ret, blockPost_ret, loopPost_ret]
    rw [he]
   ·simp [h0] at h
  ·have h0 : ¬ p.kind = 0 := by simpa using h
   rw [if_neg h0] at he
   first | refine zg1 ?_ | refine zg0 ?_ | refine zg2 ?_ | refine zg3 ?_
   simp -dsimp only [simprocAttr, ↓vpre, zp]
   refine at_intro ?_
   simp -dsimp only [vend, ne_eq, Nat.reduceEqDiff, reduceCtorEq]
   first | refine zk1 rfl (fun h => ?_) (fun h => ?_) | refine zk0 rfl (fun h => ?_) (fun h => ?_) | refine zk2 rfl (fun h => ?_) (fun h => ?_)
   ·have h1 : p.kind = 1 := by simpa using h
    rw [if_pos h1] at he
    first | refine zg1 ?_ | refine zg0 ?_ | refine zg2 ?_ | refine zg3 ?_
    simp -dsimp only [simprocAttr, ↓vpre, zp]
    refine at_intro ?_
    simp -dsimp only [vend, ne_eq, Nat.reduceEqDiff, reduceCtorEq]
    refine awp_ret ?_
    simp -dsimp only [simprocAttr, ↓vpre, zp, RetTo, Try.results40, retVals, retVal, mkRet, AVal.upto, Nat.zero_le, Nat.le_refl, seqPost_ret, blockPost_ret, loopPost_ret]
    rw [he]
   ·have h1 : ¬ p.kind = 1 := by simpa using h
    rw [if_neg h1] at he
    first | refine zg1 ?_ | refine zg0 ?_ | refine zg2 ?_ | refine zg3 ?_
    simp -dsimp only [simprocAttr, ↓vpre, zp]
    refine at_intro ?_
    simp -dsimp only [vend, ne_eq, Nat.reduceEqDiff, reduceCtorEq]
    first | refine zk1 rfl (fun h => ?_) (fun h => ?_) | refine zk0 rfl (fun h => ?_) (fun h => ?_) | refine zk2 rfl (fun h => ?_) (fun h => ?_)
    ·have h2 : p.kind = 2 := by simpa using h
     rw [if_pos h2] at he
     first | refine zg1 ?_ | refine zg0 ?_ | refine zg2 ?_ | refine zg3 ?_
     simp -dsimp only [simprocAttr, ↓vpre, zp]
     refine vcIf_split (fun h => ?_) (fun h => ?_)
     ·have h3 : ¬ p.n < -1073741824 := by simpa using h
      rw [if_neg h3] at he
      simp -dsimp only [simprocAttr, ↓vpre, zp, h]
      refine at_intro ?_
      simp -dsimp only [vend, ne_eq, Nat.reduceEqDiff, reduceCtorEq]
      first | refine zk1 rfl (fun h => ?_) (fun h => ?_) | refine zk0 rfl (fun h => ?_) (fun h => ?_) | refine zk2 rfl (fun h => ?_) (fun h => ?_)
      ·have h4 : 1073741823 < p.n := by simpa using h
       rw [if_pos h4] at he
       first | refine zg1 ?_ | refine zg0 ?_ | refine zg2 ?_ | refine zg3 ?_
       simp -dsimp only [simprocAttr, ↓vpre, zp]
       refine at_intro ?_
       simp -dsimp only [vend, ne_eq, Nat.reduceEqDiff, reduceCtorEq]
       refine awp_ret ?_
       simp -dsimp only [simprocAttr, ↓vpre, zp, RetTo, Try.results40, retVals, retVal, mkRet, AVal.upto, Nat.zero_le, Nat.le_refl, seqPost_ret, blockPost_ret, loopPost_ret]
       rw [he]
      ·have h4 : ¬ 1073741823 < p.n := by simpa using h
       rw [if_neg h4] at he
       refine awp_skip ?_
       simp -dsimp only [vend, ne_eq, Nat.reduceEqDiff, reduceCtorEq]
       first | refine zg1 ?_ | refine zg0 ?_ | refine zg2 ?_ | refine zg3 ?_
       simp -dsimp only [simprocAttr, ↓vpre, zp]
       refine at_intro ?_
       simp -dsimp only [vend, ne_eq, Nat.reduceEqDiff, reduceCtorEq]
       refine awp_ret ?_
       simp -dsimp only [simprocAttr, ↓vpre, zp, RetTo, Try.results40, retVals, retVal, mkRet, AVal.upto, Nat.zero_le, Nat.le_refl, seqPost_ret, blockPost_ret, loopPost_ret]
       rw [he]
     ·have h3 : p.n < -1073741824 := by simpa using h
      rw [if_pos h3] at he
      simp -dsimp only [simprocAttr, ↓vpre, zp, h]
      refine at_intro ?_
      simp -dsimp only [vend, ne_eq, Nat.reduceEqDiff, reduceCtorEq]
      first | refine zk1 rfl (fun h => ?_) (fun h => ?_) | refine zk0 rfl (fun h => ?_) (fun h => ?_) | refine zk2 rfl (fun h => ?_) (fun h => ?_)
      ·first | refine zg1 ?_ | refine zg0 ?_ | refine zg2 ?_ | refine zg3 ?_
       simp -dsimp only [simprocAttr, ↓vpre, zp]
       refine at_intro ?_
       simp -dsimp only [vend, ne_eq, Nat.reduceEqDiff, reduceCtorEq]
       refine awp_ret ?_
       simp -dsimp only [simprocAttr, ↓vpre, zp, RetTo, Try.results40, retVals, retVal, mkRet, AVal.upto, Nat.zero_le, Nat.le_refl, seqPost_ret, blockPost_ret, loopPost_ret]
       rw [he]
      ·cases h
    ·have h2 : ¬ p.kind = 2 := by simpa using h
     rw [if_neg h2] at he
     first | refine zg1 ?_ | refine zg0 ?_ | refine zg2 ?_ | refine zg3 ?_
     simp -dsimp only [simprocAttr, ↓vpre, zp]
     refine at_intro ?_
     simp -dsimp only [vend, ne_eq, Nat.reduceEqDiff, reduceCtorEq]
     first | refine zk1 rfl (fun h => ?_) (fun h => ?_) | refine zk0 rfl (fun h => ?_) (fun h => ?_) | refine zk2 rfl (fun h => ?_) (fun h => ?_)
     ·have h3 : p.kind = 3 := by simpa using h
      rw [if_pos h3] at he
      refine awp_skip ?_
      simp -dsimp only [vend, ne_eq, Nat.reduceEqDiff, reduceCtorEq]
      cases hfd : find t.cons p.name with
      | none =>
       rw [hfd] at he
       first | refine zg1 ?_ | refine zg0 ?_ | refine zg2 ?_ | refine zg3 ?_
       simp -dsimp only [simprocAttr, ↓vpre, zp, hfd, Option.getD_none]
       refine at_intro ?_
       simp -dsimp only [vend, ne_eq, Nat.reduceEqDiff, reduceCtorEq]
       first | refine awp_seq (awp_block ?_) | refine awp_block ?_
       first | refine zg1 ?_ | refine zg0 ?_ | refine zg2 ?_ | refine zg3 ?_
       simp -dsimp only [simprocAttr, ↓vpre, zp]
       refine at_intro ?_
       simp -dsimp only [vend, ne_eq, Nat.reduceEqDiff, reduceCtorEq]
       first | refine zk1 rfl (fun h => ?_) (fun h => ?_) | refine zk0 rfl (fun h => ?_) (fun h => ?_) | refine zk2 rfl (fun h => ?_) (fun h => ?_)
       ·first | refine zg1 ?_ | refine zg0 ?_ | refine zg2 ?_ | refine zg3 ?_
        simp -dsimp only [simprocAttr, ↓vpre, zp]
        refine at_intro ?_
        simp -dsimp only [vend, ne_eq, Nat.reduceEqDiff, reduceCtorEq]
        refine awp_ret ?_
        simp -dsimp only [simprocAttr, ↓vpre, zp, RetTo, Try.results40, retVals, retVal, mkRet, AVal.upto, Nat.zero_le, Nat.le_refl, seqPost_ret, blockPost_ret, loopPost_ret]
        rw [he]
       ·cases h
      | some c =>
       rw [hfd] at he
       simp only at he
       first | refine zg1 ?_ | refine zg0 ?_ | refine zg2 ?_ | refine zg3 ?_
       simp -dsimp only [simprocAttr, ↓vpre, zp, hfd, Option.getD_some]
       refine at_intro ?_
       simp -dsimp only [vend, ne_eq, Nat.reduceEqDiff, reduceCtorEq]
       first | refine awp_seq (awp_block ?_) | refine awp_block ?_
       first | refine zg1 ?_ | refine zg0 ?_ | refine zg2 ?_ | refine zg3 ?_
       simp -dsimp only [simprocAttr, ↓vpre, zp]
       refine at_intro ?_
       simp -dsimp only [vend, ne_eq, Nat.reduceEqDiff, reduceCtorEq]
       first | refine zk1 rfl (fun h => ?_) (fun h => ?_) | refine zk0 rfl (fun h => ?_) (fun h => ?_) | refine zk2 rfl (fun h => ?_) (fun h => ?_)
       ·cases h
       ·first | refine zg1 ?_ | refine zg0 ?_ | refine zg2 ?_ | refine zg3 ?_
        simp -dsimp only [simprocAttr, ↓vpre, zp]
        refine at_intro ?_
        simp -dsimp only [vend, ne_eq, Nat.reduceEqDiff, reduceCtorEq]
        first | refine zk1 rfl (fun h => ?_) (fun h => ?_) | refine zk0 rfl (fun h => ?_) (fun h => ?_) | refine zk2 rfl (fun h => ?_) (fun h => ?_)
        ·have hl : ¬ p.args.length = c.many := by
          simp at h
          omega
         rw [if_neg hl] at he
         first | refine zg1 ?_ | refine zg0 ?_ | refine zg2 ?_ | refine zg3 ?_
         simp -dsimp only [simprocAttr, ↓vpre, zp]
         refine at_intro ?_
         simp -dsimp only [vend, ne_eq, Nat.reduceEqDiff, reduceCtorEq]
         refine awp_ret ?_
         simp -dsimp only [simprocAttr, ↓vpre, zp, RetTo, Try.results40, retVals, retVal, mkRet, AVal.upto, Nat.zero_le, Nat.le_refl, seqPost_ret, blockPost_ret, loopPost_ret]
         rw [he]
        ·have hl : p.args.length = c.many := by
          simp at h
          omega
         rw [if_pos hl] at he
         refine awp_skip ?_
         simp -dsimp only [vend, ne_eq, Nat.reduceEqDiff, reduceCtorEq]
         first | refine zg1 ?_ | refine zg0 ?_ | refine zg2 ?_ | refine zg3 ?_
         simp -dsimp only [simprocAttr, ↓vpre, zp]
         refine at_intro ?_
         simp -dsimp only [vend, ne_eq, Nat.reduceEqDiff, reduceCtorEq]
         refine awp_len 46 rfl (fun hlen => ?_)
         simp only [List.length_map] at hlen
         first | refine awp_block (awp_loop (ι := {k : Nat // k ≤ p.args.length ∧ t.patternL p.args = t.patternL (p.args.drop k)}) (fun k => ⟨59, [(2, .mp 0 0), (46, eR p.args), (47, aI p.args.length), (48, aI k.1)], [.cells [.lst 3 (t.datas.map Data.enc) .sh, .im .str (t.cons.map entry)], .cells [.v (.int .i64 p.kind), .v (.string p.name), .v (.int .i64 p.n), .lst 4 (p.args.map Pat.enc) .sh], .cells [.v (.int .i64 c.data), .v (.int .i64 c.pos), .v (.int .i64 c.many)]]⟩) (fun k => p.args.length - k.1) ⟨0, by omega, rfl⟩ ?_ ?_) | refine awp_seq (awp_block (awp_loop (ι := {k : Nat // k ≤ p.args.length ∧ t.patternL p.args = t.patternL (p.args.drop k)}) (fun k => ⟨59, [(2, .mp 0 0), (46, eR p.args), (47, aI p.args.length), (48, aI k.1)], [.cells [.lst 3 (t.datas.map Data.enc) .sh, .im .str (t.cons.map entry)], .cells [.v (.int .i64 p.kind), .v (.string p.name), .v (.int .i64 p.n), .lst 4 (p.args.map Pat.enc) .sh], .cells [.v (.int .i64 c.data), .v (.int .i64 c.pos), .v (.int .i64 c.many)]]⟩) (fun k => p.args.length - k.1) ⟨0, by omega, rfl⟩ ?_ ?_))
         ·refine ⟨rfl, ?_, ?_⟩
          rotate_left
          simp -dsimp only [simprocAttr, ↓vpre, zp, Says, exists_eq_left', Option.some.injEq, sub_self, and_assoc, true_and, and_true]
          rfl
         ·rintro ⟨k, hk, hL⟩
          first | refine zg1 ?_ | refine zg0 ?_ | refine zg2 ?_ | refine zg3 ?_
          simp -dsimp only [simprocAttr, ↓vpre, zp]
          refine at_intro ?_
          simp -dsimp only [vend, ne_eq, Nat.reduceEqDiff, reduceCtorEq]
          first | refine zk1 rfl (fun h => ?_) (fun h => ?_) | refine zk0 rfl (fun h => ?_) (fun h => ?_) | refine zk2 rfl (fun h => ?_) (fun h => ?_)
          ·refine awp_skip ?_
           simp -dsimp only [vend, ne_eq, Nat.reduceEqDiff, reduceCtorEq]
           have hlt : k < p.args.length := by simpa using h
           obtain ⟨q, hq⟩ : ∃ q, p.args[k]? = some q := ⟨p.args[k], by simp [hlt]⟩
           have hdrop : p.args.drop k = q :: p.args.drop (k + 1) := by
            rw [List.drop_eq_getElem_cons hlt]
            rw [List.getElem?_eq_getElem hlt] at hq
            simp only [Option.some.injEq] at hq
            rw [hq]
           rw [hdrop, Tbl.patternL] at hL
           have ihq := ih q (List.mem_of_getElem? hq)
           first | refine awp_seq (awp_block ?_) | refine awp_block ?_
           first | refine zg1 ?_ | refine zg0 ?_ | refine zg2 ?_ | refine zg3 ?_
           simp -dsimp only [simprocAttr, ↓vpre, zp, hq]
           refine at_intro ?_
           simp -dsimp only [vend, ne_eq, Nat.reduceEqDiff, reduceCtorEq]
           first | refine zg1 ?_ | refine zg0 ?_ | refine zg2 ?_ | refine zg3 ?_
           simp -dsimp only [simprocAttr, ↓vpre, zp]
           refine .inl ⟨_, ihq, by first | (simp only [uptoL, AVal.upto, zt, zu, any_upto]; done) | (simp [uptoL, AVal.upto, zu, any_upto]; done), later_intro ?_⟩
           simp -dsimp only [simprocAttr, ↓vpre, zp]
           refine at_intro ?_
           simp -dsimp only [vend, ne_eq, Nat.reduceEqDiff, reduceCtorEq]
           first | refine zg1 ?_ | refine zg0 ?_ | refine zg2 ?_ | refine zg3 ?_
           simp -dsimp only [simprocAttr, ↓vpre, zp]
           refine at_intro ?_
           simp -dsimp only [vend, ne_eq, Nat.reduceEqDiff, reduceCtorEq]
           first | refine zk1 rfl (fun h => ?_) (fun h => ?_) | refine zk0 rfl (fun h => ?_) (fun h => ?_) | refine zk2 rfl (fun h => ?_) (fun h => ?_)
           ·have hz : ¬ t.pattern q = 0 := by simpa using h
            first | refine zg1 ?_ | refine zg0 ?_ | refine zg2 ?_ | refine zg3 ?_
            simp -dsimp only [simprocAttr, ↓vpre, zp]
            refine at_intro ?_
            simp -dsimp only [vend, ne_eq, Nat.reduceEqDiff, reduceCtorEq]
            refine awp_ret ?_
            simp -dsimp only [simprocAttr, ↓vpre, zp, RetTo, Try.results40, retVals, retVal, mkRet, AVal.upto, Nat.zero_le, Nat.le_refl, seqPost_ret, blockPost_ret, loopPost_ret]
            rw [he, hL, if_neg hz]
           ·have hz : t.pattern q = 0 := by simpa using h
            rw [if_pos hz] at hL
            refine awp_skip ?_
            simp -dsimp only [vend, ne_eq, Nat.reduceEqDiff, reduceCtorEq]
            refine awp_trunc' 3 [(2, .mp 0 0), (46, eR p.args), (47, aI p.args.length), (48, aI k)] (by first | omega | (simp; done) | (simp; omega)) (by first | omega | (simp; done) | (simp; omega)) [.cells [.lst 3 (t.datas.map Data.enc) .sh, .im .str (t.cons.map entry)], .cells [.v (.int .i64 p.kind), .v (.string p.name), .v (.int .i64 p.n), .lst 4 (p.args.map Pat.enc) .sh], .cells [.v (.int .i64 c.data), .v (.int .i64 c.pos), .v (.int .i64 c.many)]] ?_ ?_ ?_ ?_ ?_
            ·rfl
            ·simp [AObj.upto, uptoL, AVal.upto, Data.map_upto, Pat.map_upto, entry_upto]
            ·simp -dsimp only [simprocAttr, ↓vpre, zp, Says, exists_eq_left', Option.some.injEq, sub_self, and_true]
            ·simp [AVal.upto, uptoL, Pat.map_upto]
            ·first | refine zg1 ?_ | refine zg0 ?_ | refine zg2 ?_ | refine zg3 ?_
             simp -dsimp only [simprocAttr, ↓vpre, zp]
             refine ⟨by omega, by omega, ?_⟩
             refine at_intro ?_
             simp -dsimp only [vend, ne_eq, Nat.reduceEqDiff, reduceCtorEq]
             refine ⟨⟨k + 1, hlt, hL⟩, by simp; omega, ?_⟩
             refine ⟨rfl, ?_, ?_⟩
             rotate_left
             simp -dsimp only [simprocAttr, ↓vpre, zp, Says, exists_eq_left', Option.some.injEq, sub_self, and_assoc, true_and, and_true]
             ·exact Sub.int (by simp)
             ·rfl
          ·refine awp_exit ?_
           simp -dsimp only [vend, ne_eq, Nat.reduceEqDiff, reduceCtorEq]
           have hlt : k = p.args.length := by simp at h; omega
           subst hlt
           first | refine zg1 ?_ | refine zg0 ?_ | refine zg2 ?_ | refine zg3 ?_
           simp -dsimp only [simprocAttr, ↓vpre, zp]
           refine at_intro ?_
           simp -dsimp only [vend, ne_eq, Nat.reduceEqDiff, reduceCtorEq]
           refine awp_ret ?_
           simp -dsimp only [simprocAttr, ↓vpre, zp, RetTo, Try.results40, retVals, retVal, mkRet, AVal.upto, Nat.zero_le, Nat.le_refl, seqPost_ret, blockPost_ret, loopPost_ret]
           rw [he, hL, List.drop_length]
           rfl
     ·have h3 : ¬ p.kind = 3 := by simpa using h
      rw [if_neg h3] at he
      first | refine zg1 ?_ | refine zg0 ?_ | refine zg2 ?_ | refine zg3 ?_
      simp -dsimp only [simprocAttr, ↓vpre, zp]
      refine at_intro ?_
      simp -dsimp only [vend, ne_eq, Nat.reduceEqDiff, reduceCtorEq]
      refine awp_ret ?_
      simp -dsimp only [simprocAttr, ↓vpre, zp, RetTo, Try.results40, retVals, retVal, mkRet, AVal.upto, Nat.zero_le, Nat.le_refl, seqPost_ret, blockPost_ret, loopPost_ret]
      rw [he]
termination_by SizeOf.sizeOf p
decreasing_by
 cases p
 simp only [Pat.args] at hq
 have := List.sizeOf_lt_of_mem hq
 simp
 omega

end Go.Proofs.Ytakdmelemfnmdaa
end

section
set_option linter.unusedSimpArgs false
set_option maxHeartbeats 1000000
-- !tab vtab
-- !upto Pat.enc_upto Pat.map_upto any_upto Con.enc_upto Con.map_upto Data.enc_upto Data.map_upto Tbl.enc_upto entry_upto
namespace Go.Proofs.Ytakdmelemfnmdaa
open Go.Av

theorem absent1_spec (O : List AObj) (hO : ∀ o ∈ O, o.upto O.length) (id : Nat) (m : Int) (hid : O[id]? = some (.cells [aI m])) (p : Pat) :
  ECall Try.prog 77 O [p.enc, .mp id 0] fun r O' => r = .v (.bool (decide (p.n = m))) ∧ O' = O := by
 refine ecall_of hT true O.length Try.func77 rfl (by kernel_rfl) (by simp [Try.ntmps77]) (by simp) ?_
 show AWP Try.prog _ _ _ ⟨8, _, _⟩
 dsimp only [Tmp, TypeId, slotsOf]
 first | refine zg1 ?_ | refine zg0 ?_ | refine zg2 ?_ | refine zg3 ?_
 simp -dsimp only [simprocAttr, ↓vpre, zp]
 refine at_intro ?_
 simp -dsimp only [vend, ne_eq, Nat.reduceEqDiff, reduceCtorEq]
 first | refine zg1 ?_ | refine zg0 ?_ | refine zg2 ?_ | refine zg3 ?_
 simp -dsimp only [simprocAttr, ↓vpre, zp, snoc_old hid]
 refine at_intro ?_
 simp -dsimp only [vend, ne_eq, Nat.reduceEqDiff, reduceCtorEq]
 refine awp_ret ?_
 simp -dsimp only [simprocAttr, ↓vpre, zp, RetTo, Try.results77, retVals, retVal, mkRet, AVal.upto, Nat.zero_le, Nat.le_refl, seqPost_ret, blockPost_ret, loopPost_ret, snoc_take]
 simp
 exact hO

theorem absent2_spec (O : List AObj) (hO : ∀ o ∈ O, o.upto O.length) (id : Nat) (s : ByteArray) (a : AVal) (hid : O[id]? = some (.cells [.v (.string s), a])) (p : Pat) :
  ECall Try.prog 78 O [p.enc, .mp id 0] fun r O' => r = .v (.bool (decide (p.name = s))) ∧ O' = O := by
 refine ecall_of hT true O.length Try.func78 rfl (by kernel_rfl) (by simp [Try.ntmps78]) (by simp) ?_
 show AWP Try.prog _ _ _ ⟨9, _, _⟩
 dsimp only [Tmp, TypeId, slotsOf]
 first | refine zg1 ?_ | refine zg0 ?_ | refine zg2 ?_ | refine zg3 ?_
 simp -dsimp only [simprocAttr, ↓vpre, zp]
 refine at_intro ?_
 simp -dsimp only [vend, ne_eq, Nat.reduceEqDiff, reduceCtorEq]
 first | refine zg1 ?_ | refine zg0 ?_ | refine zg2 ?_ | refine zg3 ?_
 simp -dsimp only [simprocAttr, ↓vpre, zp, snoc_old hid]
 refine at_intro ?_
 simp -dsimp only [vend, ne_eq, Nat.reduceEqDiff, reduceCtorEq]
 refine awp_ret ?_
 simp -dsimp only [simprocAttr, ↓vpre, zp, RetTo, Try.results78, retVals, retVal, mkRet, AVal.upto, Nat.zero_le, Nat.le_refl, seqPost_ret, blockPost_ret, loopPost_ret, snoc_take]
 simp
 exact hO

theorem agree1_spec (O : List AObj) (hO : ∀ o ∈ O, o.upto O.length) (id : Nat) (q : Pat) (hid : O[id]? = some (.cells [.v (.int .i64 q.kind), .v (.string q.name), .v (.int .i64 q.n), .lst 4 (q.args.map Pat.enc) .sh])) (p : Pat) :
  ECall Try.prog 76 O [p.enc, .mp id 0] fun r O' => r = .v (.bool (decide (p.name = q.name))) ∧ O' = O := by
 refine ecall_of hT true O.length Try.func76 rfl (by kernel_rfl) (by simp [Try.ntmps76]) (by simp) ?_
 show AWP Try.prog _ _ _ ⟨9, _, _⟩
 dsimp only [Tmp, TypeId, slotsOf]
 first | refine zg1 ?_ | refine zg0 ?_ | refine zg2 ?_ | refine zg3 ?_
 simp -dsimp only [simprocAttr, ↓vpre, zp]
 refine at_intro ?_
 simp -dsimp only [vend, ne_eq, Nat.reduceEqDiff, reduceCtorEq]
 first | refine zg1 ?_ | refine zg0 ?_ | refine zg2 ?_ | refine zg3 ?_
 simp -dsimp only [simprocAttr, ↓vpre, zp, snoc_old hid]
 refine at_intro ?_
 simp -dsimp only [vend, ne_eq, Nat.reduceEqDiff, reduceCtorEq]
 refine awp_ret ?_
 simp -dsimp only [simprocAttr, ↓vpre, zp, RetTo, Try.results76, retVals, retVal, mkRet, AVal.upto, Nat.zero_le, Nat.le_refl, seqPost_ret, blockPost_ret, loopPost_ret, snoc_take]
 simp
 exact hO

end Go.Proofs.Ytakdmelemfnmdaa
end

section
set_option linter.unusedSimpArgs false
set_option maxHeartbeats 1000000
-- !tab vtab
-- !upto Pat.enc_upto Pat.map_upto any_upto Con.enc_upto Con.map_upto Data.enc_upto Data.map_upto Tbl.enc_upto entry_upto
namespace Go.Proofs.Ytakdmelemfnmdaa
open Go.Av

/-- A list that holds n different numbers is not shorter than n. -/
theorem pigeon : ∀ (n : Nat) (l : List Int), (∀ j : Nat, j < n → (j : Int) ∈ l) → n ≤ l.length
 | 0, _, _ => Nat.zero_le _
 | n + 1, l, h => by
  have hn := h n (by omega)
  have ih := pigeon n (l.erase (n : Int)) (fun j hj => by
   rw [List.mem_erase_of_ne (by omega)]
   exact h j (by omega))
  rw [List.length_erase_of_mem hn] at ih
  have : 0 < l.length := List.length_pos_of_mem hn
  omega

/-- The number at which absent's search ends: from n on, at most f steps. -/
def nextN (l : List Pat) : Nat → Nat → Nat
 | n, 0 => n
 | n, f + 1 => if l.any (fun p => decide (p.n = (n : Int))) then nextN l (n + 1) f else n

def absentCon (l : List Pat) : List Con → Option Con
 | [] => none
 | c :: r => if l.any (fun p => decide (p.name = c.name)) then absentCon l r else some c

/-- A value that no pattern of the column matches. -/
def Tbl.absent (t : Tbl) (l : List Pat) : Option Pat :=
 match l with
 | [] => some Pat.any
 | p :: _ =>
  if p.kind = 2 then some (.mk 2 ByteArray.empty (nextN l 0 (l.length + 1)) [])
  else match t.datas[(t.con p.name).data]? with
   | none => none
   | some d => (absentCon l d.cons).map fun c => .mk 3 c.name 0 (List.replicate c.args.length Pat.any)

def absentRes : Option Pat → AVal
 | some p => .tup [p.enc, .v (.bool true)]
 | none => .tup [Pat.any.enc, .v (.bool false)]

theorem absent_nil (t : Tbl) : PCall Try.prog 43 [t.enc, eR []] (.tup [Pat.any.enc, .v (.bool true)]) := by
 refine ecall_of hT true 0 Try.func43 rfl (by kernel_rfl) (by simp [Try.ntmps43]) (by simp) ?_
 show AWP Try.prog _ _ _ ⟨56, _, _⟩
 dsimp only [Tmp, TypeId, slotsOf]
 first | refine zg1 ?_ | refine zg0 ?_ | refine zg2 ?_ | refine zg3 ?_
 simp -dsimp only [simprocAttr, ↓vpre, zp]
 refine at_intro ?_
 simp -dsimp only [vend, ne_eq, Nat.reduceEqDiff, reduceCtorEq]
 first | refine zg1 ?_ | refine zg0 ?_ | refine zg2 ?_ | refine zg3 ?_
 simp -dsimp only [simprocAttr, ↓vpre, zp]
 refine at_intro ?_
 simp -dsimp only [vend, ne_eq, Nat.reduceEqDiff, reduceCtorEq]
 first | refine zk1 rfl (fun h => ?_) (fun h => ?_) | refine zk0 rfl (fun h => ?_) (fun h => ?_) | refine zk2 rfl (fun h => ?_) (fun h => ?_)
 ·first | refine zg1 ?_ | refine zg0 ?_ | refine zg2 ?_ | refine zg3 ?_
  simp -dsimp only [simprocAttr, ↓vpre, zp]
  refine at_intro ?_
  simp -dsimp only [vend, ne_eq, Nat.reduceEqDiff, reduceCtorEq]
  refine awp_ret ?_
  simp -dsimp only [simprocAttr, ↓vpre, zp, RetTo, Try.results43, retVals, retVal, mkRet, AVal.upto, Nat.zero_le, Nat.le_refl, seqPost_ret, blockPost_ret, loopPost_ret]
  exact ⟨by simp [uptoL, AVal.upto], rfl⟩
 ·cases h

theorem nextN_stop {l : List Pat} {n f : Nat} (h : l.any (fun p => decide (p.n = (n : Int))) = false) : nextN l n f = n := by
 cases f with
 | zero => rfl
 | succ f => rw [nextN, h]; rfl

theorem absent_int (t : Tbl) (p : Pat) (r : List Pat) (hk : p.kind = 2) (hb : r.length ≤ 2 ^ 30) : PCall Try.prog 43 [t.enc, eR (p :: r)] (.tup [(Pat.mk 2 ByteArray.empty (nextN (p :: r) 0 (r.length + 2)) []).enc, .v (.bool true)]) := by
 obtain ⟨l, hl⟩ : ∃ l, l = p :: r := ⟨_, rfl⟩
 have hlen : l.length = r.length + 1 := by rw [hl]; rfl
 refine ecall_of hT true 0 Try.func43 rfl (by kernel_rfl) (by simp [Try.ntmps43]) (by simp) ?_
 show AWP Try.prog _ _ _ ⟨56, _, _⟩
 dsimp only [Tmp, TypeId, slotsOf]
 first | refine zg1 ?_ | refine zg0 ?_ | refine zg2 ?_ | refine zg3 ?_
 simp -dsimp only [simprocAttr, ↓vpre, zp]
 refine at_intro ?_
 simp -dsimp only [vend, ne_eq, Nat.reduceEqDiff, reduceCtorEq]
 first | refine zg1 ?_ | refine zg0 ?_ | refine zg2 ?_ | refine zg3 ?_
 simp -dsimp only [simprocAttr, ↓vpre, zp]
 refine at_intro ?_
 simp -dsimp only [vend, ne_eq, Nat.reduceEqDiff, reduceCtorEq]
 first | refine zk1 rfl (fun h => ?_) (fun h => ?_) | refine zk0 rfl (fun h => ?_) (fun h => ?_) | refine zk2 rfl (fun h => ?_) (fun h => ?_)
 ·simp at h
  omega
 ·refine awp_skip ?_
  simp -dsimp only [vend, ne_eq, Nat.reduceEqDiff, reduceCtorEq]
  first | refine zg1 ?_ | refine zg0 ?_ | refine zg2 ?_ | refine zg3 ?_
  simp -dsimp only [simprocAttr, ↓vpre, zp, hk]
  refine at_intro ?_
  simp -dsimp only [vend, ne_eq, Nat.reduceEqDiff, reduceCtorEq]
  first | refine zk1 rfl (fun h => ?_) (fun h => ?_) | refine zk0 rfl (fun h => ?_) (fun h => ?_) | refine zk2 rfl (fun h => ?_) (fun h => ?_)
  ·first | refine zg1 ?_ | refine zg0 ?_ | refine zg2 ?_ | refine zg3 ?_
   simp -dsimp only [simprocAttr, ↓vpre, zp]
   refine at_intro ?_
   simp -dsimp only [vend, ne_eq, Nat.reduceEqDiff, reduceCtorEq]
   have hl' : (AVal.lst 4 (p.enc :: List.map Pat.enc r) .sh) = eR l := by rw [hl]; rfl
   simp -dsimp only [hl', ← hl]
   first | refine awp_block (awp_loop (ι := {n : Nat // n ≤ l.length ∧ (∀ j : Nat, j < n → (j : Int) ∈ l.map Pat.n) ∧ nextN l 0 (r.length + 2) = nextN l n (r.length + 2 - n)}) (fun n => ⟨56, [(1, eR l), (4, .mp 1 0), (6, .mp 2 0), (5, .v (.bool false))], [.cells [.lst 3 (t.datas.map Data.enc) .sh, .im .str (t.cons.map entry)], .cells zeroPat, .cells [aI n.1]]⟩) (fun n => l.length - n.1) ⟨0, by omega, by intros; omega, rfl⟩ ?_ ?_) | refine awp_seq (awp_block (awp_loop (ι := {n : Nat // n ≤ l.length ∧ (∀ j : Nat, j < n → (j : Int) ∈ l.map Pat.n) ∧ nextN l 0 (r.length + 2) = nextN l n (r.length + 2 - n)}) (fun n => ⟨56, [(1, eR l), (4, .mp 1 0), (6, .mp 2 0), (5, .v (.bool false))], [.cells [.lst 3 (t.datas.map Data.enc) .sh, .im .str (t.cons.map entry)], .cells zeroPat, .cells [aI n.1]]⟩) (fun n => l.length - n.1) ⟨0, by omega, by intros; omega, rfl⟩ ?_ ?_))
   ·refine ⟨rfl, ?_, ?_⟩
    rotate_left
    simp -dsimp only [simprocAttr, ↓vpre, zp, Says, exists_eq_left', Option.some.injEq, sub_self, and_assoc, true_and, and_true]
    rfl
   ·rintro ⟨n, hn, hj, he⟩
    first | refine zg1 ?_ | refine zg0 ?_ | refine zg2 ?_ | refine zg3 ?_
    simp -dsimp only [simprocAttr, ↓vpre, zp]
    refine .inr (.inr ⟨_, (containsFunc_spec (fun p => decide (p.n = (n : Int))) 77 [] [.mp 2 0] [.cells [.lst 3 (t.datas.map Data.enc) .sh, .im .str (t.cons.map entry)], .cells zeroPat, .cells [aI n]] (by simp [AObj.upto, uptoL, AVal.upto, zeroPat, Data.map_upto, entry_upto]) l (fun p _ => absent1_spec _ (by simp [AObj.upto, uptoL, AVal.upto, zeroPat, Data.map_upto, entry_upto]) 2 n rfl p)), later_intro ?_⟩)
    simp -dsimp only [simprocAttr, ↓vpre, zp]
    refine at_intro ?_
    simp -dsimp only [vend, ne_eq, Nat.reduceEqDiff, reduceCtorEq]
    first | refine zk1 rfl (fun h => ?_) (fun h => ?_) | refine zk0 rfl (fun h => ?_) (fun h => ?_) | refine zk2 rfl (fun h => ?_) (fun h => ?_)
    ·refine awp_skip ?_
     simp -dsimp only [vend, ne_eq, Nat.reduceEqDiff, reduceCtorEq]
     have hmem : (n : Int) ∈ l.map Pat.n := by
      obtain ⟨q, hq, e⟩ := List.any_eq_true.1 h
      exact List.mem_map.2 ⟨q, hq, by simpa using e⟩
     have hj' : ∀ j : Nat, j < n + 1 → (j : Int) ∈ l.map Pat.n := fun j hj1 => by
      rcases Nat.lt_succ_iff_lt_or_eq.1 hj1 with q | q
      ·exact hj j q
      ·rw [q]
       exact hmem
     have hpg := pigeon (n + 1) _ hj'
     simp only [List.length_map] at hpg
     have he' : nextN l 0 (r.length + 2) = nextN l (n + 1) (r.length + 2 - (n + 1)) := by
      rw [he, show r.length + 2 - n = (r.length + 2 - (n + 1)) + 1 by omega, nextN, h]
      rfl
     first | refine awp_seq (awp_block ?_) | refine awp_block ?_
     first | refine zg1 ?_ | refine zg0 ?_ | refine zg2 ?_ | refine zg3 ?_
     simp -dsimp only [simprocAttr, ↓vpre, zp]
     refine ⟨by omega, by omega, ?_⟩
     refine at_intro ?_
     simp -dsimp only [vend, ne_eq, Nat.reduceEqDiff, reduceCtorEq]
     refine ⟨⟨n + 1, hpg, hj', he'⟩, by simp; omega, ?_⟩
     refine ⟨rfl, ?_, ?_⟩
     rotate_left
     simp -dsimp only [simprocAttr, ↓vpre, zp, Says, exists_eq_left', Option.some.injEq, sub_self, and_assoc, true_and, and_true]
     rfl
    ·refine awp_exit ?_
     simp -dsimp only [vend, ne_eq, Nat.reduceEqDiff, reduceCtorEq]
     first | refine zg1 ?_ | refine zg0 ?_ | refine zg2 ?_ | refine zg3 ?_
     simp -dsimp only [simprocAttr, ↓vpre, zp, zeroPat]
     refine at_intro ?_
     simp -dsimp only [vend, ne_eq, Nat.reduceEqDiff, reduceCtorEq]
     refine awp_ret ?_
     simp -dsimp only [simprocAttr, ↓vpre, zp, RetTo, Try.results43, retVals, retVal, mkRet, AVal.upto, Nat.zero_le, Nat.le_refl, seqPost_ret, blockPost_ret, loopPost_ret]
     rw [he, nextN_stop h]
     exact ⟨by simp [uptoL, AVal.upto], rfl⟩
  ·cases h

theorem zero_K' (l : List (ByteArray × K)) (s : ByteArray) : ((find l s).map K.enc).getD (.agg [.v (.int .i64 0), .v (.int .i64 0), .v (.int .i64 0)]) = .agg [.v (.int .i64 ((find l s).getD K.zero).data), .v (.int .i64 ((find l s).getD K.zero).pos), .v (.int .i64 ((find l s).getD K.zero).many)] := look_zero l s _ rfl

theorem absent_con (t : Tbl) (p : Pat) (r : List Pat) (hk : ¬ p.kind = 2) (d : Data) (hd : t.datas[(t.con p.name).data]? = some d) (hsm : ∀ c ∈ d.cons, c.args.length ≤ 2513169434843) :
  PCall Try.prog 43 [t.enc, eR (p :: r)] (absentRes ((absentCon (p :: r) d.cons).map fun c => .mk 3 c.name 0 (List.replicate c.args.length Pat.any))) := by
 obtain ⟨l, hl⟩ : ∃ l, l = p :: r := ⟨_, rfl⟩
 have hlen : l.length = r.length + 1 := by rw [hl]; rfl
 have hl' : (AVal.lst 4 (p.enc :: List.map Pat.enc r) .sh) = eR l := by rw [hl]; rfl
 rw [Tbl.con] at hd
 refine ecall_of hT true 0 Try.func43 rfl (by kernel_rfl) (by simp [Try.ntmps43]) (by simp) ?_
 show AWP Try.prog _ _ _ ⟨56, _, _⟩
 dsimp only [Tmp, TypeId, slotsOf]
 first | refine zg1 ?_ | refine zg0 ?_ | refine zg2 ?_ | refine zg3 ?_
 simp -dsimp only [simprocAttr, ↓vpre, zp]
 refine at_intro ?_
 simp -dsimp only [vend, ne_eq, Nat.reduceEqDiff, reduceCtorEq]
 first | refine zg1 ?_ | refine zg0 ?_ | refine zg2 ?_ | refine zg3 ?_
 simp -dsimp only [simprocAttr, ↓vpre, zp]
 refine at_intro ?_
 simp -dsimp only [vend, ne_eq, Nat.reduceEqDiff, reduceCtorEq]
 first | refine zk1 rfl (fun h => ?_) (fun h => ?_) | refine zk0 rfl (fun h => ?_) (fun h => ?_) | refine zk2 rfl (fun h => ?_) (fun h => ?_)
 ·simp at h
  omega
 ·refine awp_skip ?_
  simp -dsimp only [vend, ne_eq, Nat.reduceEqDiff, reduceCtorEq]
  first | refine zg1 ?_ | refine zg0 ?_ | refine zg2 ?_ | refine zg3 ?_
  simp -dsimp only [simprocAttr, ↓vpre, zp]
  refine at_intro ?_
  simp -dsimp only [vend, ne_eq, Nat.reduceEqDiff, reduceCtorEq]
  first | refine zk1 rfl (fun h => ?_) (fun h => ?_) | refine zk0 rfl (fun h => ?_) (fun h => ?_) | refine zk2 rfl (fun h => ?_) (fun h => ?_)
  ·exact absurd (by simpa using h) hk
  ·refine awp_skip ?_
   simp -dsimp only [vend, ne_eq, Nat.reduceEqDiff, reduceCtorEq]
   first | refine zg1 ?_ | refine zg0 ?_ | refine zg2 ?_ | refine zg3 ?_
   simp -dsimp only [simprocAttr, ↓vpre, zp, zero_K', hd]
   refine ⟨?_, ?_⟩
   ·(show orderB _ _ = true); kernel_rfl
   refine at_intro ?_
   simp -dsimp only [vend, ne_eq, Nat.reduceEqDiff, reduceCtorEq]
   refine awp_len 37 rfl (fun hlc => ?_)
   simp only [List.length_map] at hlc
   simp -dsimp only [hl', ← hl]
   first | refine awp_block (awp_loop (ι := {k : Nat // k ≤ d.cons.length ∧ absentCon l d.cons = absentCon l (d.cons.drop k)}) (fun k => ⟨56, [(1, eR l), (4, .mp 1 0), (37, eC d.cons), (38, aI d.cons.length), (39, aI k.1)], [.cells [.lst 3 (t.datas.map Data.enc) .sh, .im .str (t.cons.map entry)], .cells zeroPat]⟩) (fun k => d.cons.length - k.1) ⟨0, by omega, rfl⟩ ?_ ?_) | refine awp_seq (awp_block (awp_loop (ι := {k : Nat // k ≤ d.cons.length ∧ absentCon l d.cons = absentCon l (d.cons.drop k)}) (fun k => ⟨56, [(1, eR l), (4, .mp 1 0), (37, eC d.cons), (38, aI d.cons.length), (39, aI k.1)], [.cells [.lst 3 (t.datas.map Data.enc) .sh, .im .str (t.cons.map entry)], .cells zeroPat]⟩) (fun k => d.cons.length - k.1) ⟨0, by omega, rfl⟩ ?_ ?_))
   ·refine ⟨rfl, ?_, ?_⟩
    rotate_left
    simp -dsimp only [simprocAttr, ↓vpre, zp, Says, exists_eq_left', Option.some.injEq, sub_self, and_assoc, true_and, and_true]
    rfl
   ·rintro ⟨k, hkl, he⟩
    first | refine zg1 ?_ | refine zg0 ?_ | refine zg2 ?_ | refine zg3 ?_
    simp -dsimp only [simprocAttr, ↓vpre, zp]
    refine at_intro ?_
    simp -dsimp only [vend, ne_eq, Nat.reduceEqDiff, reduceCtorEq]
    first | refine zk1 rfl (fun h => ?_) (fun h => ?_) | refine zk0 rfl (fun h => ?_) (fun h => ?_) | refine zk2 rfl (fun h => ?_) (fun h => ?_)
    ·refine awp_skip ?_
     simp -dsimp only [vend, ne_eq, Nat.reduceEqDiff, reduceCtorEq]
     have hlt : k < d.cons.length := by simpa using h
     obtain ⟨c, hc⟩ : ∃ c, d.cons[k]? = some c := ⟨d.cons[k], by simp [hlt]⟩
     have hdrop : d.cons.drop k = c :: d.cons.drop (k + 1) := by
      rw [List.drop_eq_getElem_cons hlt]
      rw [List.getElem?_eq_getElem hlt] at hc
      simp only [Option.some.injEq] at hc
      rw [hc]
     rw [hdrop, absentCon] at he
     have hcs := hsm c (List.mem_of_getElem? hc)
     first | refine awp_seq (awp_block ?_) | refine awp_block ?_
     first | refine zg1 ?_ | refine zg0 ?_ | refine zg2 ?_ | refine zg3 ?_
     simp -dsimp only [simprocAttr, ↓vpre, zp, hc]
     refine at_intro ?_
     simp -dsimp only [vend, ne_eq, Nat.reduceEqDiff, reduceCtorEq]
     first | refine zg1 ?_ | refine zg0 ?_ | refine zg2 ?_ | refine zg3 ?_
     simp -dsimp only [simprocAttr, ↓vpre, zp]
     refine .inr (.inr ⟨_, (containsFunc_spec (fun p => decide (p.name = c.name)) 78 [] [.mp 2 0] [.cells [.lst 3 (t.datas.map Data.enc) .sh, .im .str (t.cons.map entry)], .cells zeroPat, .cells [.v (.string c.name), .lst 4 (c.args.map Pat.enc) .sh]] (by simp [AObj.upto, uptoL, AVal.upto, zeroPat, Data.map_upto, entry_upto, Pat.map_upto]) l (fun p _ => absent2_spec _ (by simp [AObj.upto, uptoL, AVal.upto, zeroPat, Data.map_upto, entry_upto, Pat.map_upto]) 2 c.name _ rfl p)), later_intro ?_⟩)
     simp -dsimp only [simprocAttr, ↓vpre, zp]
     refine at_intro ?_
     simp -dsimp only [vend, ne_eq, Nat.reduceEqDiff, reduceCtorEq]
     first | refine zk1 rfl (fun h => ?_) (fun h => ?_) | refine zk0 rfl (fun h => ?_) (fun h => ?_) | refine zk2 rfl (fun h => ?_) (fun h => ?_)
     ·have hany : l.any (fun p => decide (p.name = c.name)) = false := by simpa using h
      rw [hany] at he
      simp only [Bool.false_eq_true, if_false] at he
      first | refine zg1 ?_ | refine zg0 ?_ | refine zg2 ?_ | refine zg3 ?_
      simp -dsimp only [simprocAttr, ↓vpre, zp, zeroPat]
      refine .inl ⟨_, (anys_spec c.args.length (by omega)), by first | (simp only [uptoL, AVal.upto, zt, zu, any_upto]; done) | (simp [uptoL, AVal.upto, zu, any_upto]; done), later_intro ?_⟩
      simp -dsimp only [simprocAttr, ↓vpre, zp, zeroPat]
      refine ⟨?_, ?_⟩
      ·(show orderB _ _ = true); kernel_rfl
      refine at_intro ?_
      simp -dsimp only [vend, ne_eq, Nat.reduceEqDiff, reduceCtorEq]
      refine awp_ret ?_
      simp -dsimp only [simprocAttr, ↓vpre, zp, RetTo, Try.results43, retVals, retVal, mkRet, AVal.upto, Nat.zero_le, Nat.le_refl, seqPost_ret, blockPost_ret, loopPost_ret]
      rw [he]
      exact ⟨by simp [uptoL, AVal.upto, any_upto], by simp [absentRes, Pat.enc_eq, Pat.kind, Pat.name, Pat.n, Pat.args, lstOf]⟩
     ·have hany : l.any (fun p => decide (p.name = c.name)) = true := by simpa using h
      rw [if_pos hany] at he
      refine awp_skip ?_
      simp -dsimp only [vend, ne_eq, Nat.reduceEqDiff, reduceCtorEq]
      refine awp_trunc' 2 [(1, eR l), (4, .mp 1 0), (37, eC d.cons), (38, aI d.cons.length), (39, aI k)] (by first | omega | (simp; done) | (simp; omega)) (by first | omega | (simp; done) | (simp; omega)) [.cells [.lst 3 (t.datas.map Data.enc) .sh, .im .str (t.cons.map entry)], .cells zeroPat] ?_ ?_ ?_ ?_ ?_
      ·rfl
      ·simp [AObj.upto, uptoL, AVal.upto, zeroPat, Data.map_upto, entry_upto, Pat.map_upto]
      ·simp -dsimp only [simprocAttr, ↓vpre, zp, Says, exists_eq_left', Option.some.injEq, sub_self, and_true]
      ·simp [AVal.upto, uptoL, Pat.map_upto, Con.map_upto]
      ·first | refine zg1 ?_ | refine zg0 ?_ | refine zg2 ?_ | refine zg3 ?_
       simp -dsimp only [simprocAttr, ↓vpre, zp]
       refine ⟨by omega, by omega, ?_⟩
       refine at_intro ?_
       simp -dsimp only [vend, ne_eq, Nat.reduceEqDiff, reduceCtorEq]
       refine ⟨⟨k + 1, hlt, he⟩, by simp; omega, ?_⟩
       refine ⟨rfl, ?_, ?_⟩
       rotate_left
       simp -dsimp only [simprocAttr, ↓vpre, zp, Says, exists_eq_left', Option.some.injEq, sub_self, and_assoc, true_and, and_true]
       ·exact Sub.int (by simp)
       ·rfl
    ·refine awp_exit ?_
     simp -dsimp only [vend, ne_eq, Nat.reduceEqDiff, reduceCtorEq]
     have hkk : k = d.cons.length := by simp at h; omega
     subst hkk
     rw [List.drop_length] at he
     first | refine zg1 ?_ | refine zg0 ?_ | refine zg2 ?_ | refine zg3 ?_
     simp -dsimp only [simprocAttr, ↓vpre, zp, zeroPat]
     refine at_intro ?_
     simp -dsimp only [vend, ne_eq, Nat.reduceEqDiff, reduceCtorEq]
     refine awp_ret ?_
     simp -dsimp only [simprocAttr, ↓vpre, zp, RetTo, Try.results43, retVals, retVal, mkRet, AVal.upto, Nat.zero_le, Nat.le_refl, seqPost_ret, blockPost_ret, loopPost_ret]
     rw [he]
     exact ⟨by simp [uptoL, AVal.upto], rfl⟩

end Go.Proofs.Ytakdmelemfnmdaa
end

section
set_option linter.unusedSimpArgs false
set_option maxHeartbeats 1000000
-- !tab vtab
-- !upto Pat.enc_upto Pat.map_upto any_upto Con.enc_upto Con.map_upto Data.enc_upto Data.map_upto Tbl.enc_upto entry_upto
namespace Go.Proofs.Ytakdmelemfnmdaa
open Go.Av

/-- Clone, where nobody writes what it hands back. -/
theorem clone_pure (l : List Pat) (hb : l.length ≤ 2 ^ 30) : PCall Try.prog 46 [eR l] (eR l) := by
 refine ecall_of hT true 0 Try.func46 rfl (by kernel_rfl) (by simp [Try.ntmps46]) (by simp) ?_
 show AWP Try.prog _ _ _ ⟨8, _, _⟩
 dsimp only [Tmp, TypeId, slotsOf]
 first | refine zg1 ?_ | refine zg0 ?_ | refine zg2 ?_ | refine zg3 ?_
 simp -dsimp only [simprocAttr, ↓vpre, zp]
 refine at_intro ?_
 simp -dsimp only [vend, ne_eq, Nat.reduceEqDiff, reduceCtorEq]
 refine awp_nilsplit 0 rfl (fun hnil => ?_) ?_
 ·simp -dsimp only [simprocAttr, ↓vpre, zp]
  first | refine zg1 ?_ | refine zg0 ?_ | refine zg2 ?_ | refine zg3 ?_
  simp -dsimp only [simprocAttr, ↓vpre, zp]
  refine at_intro ?_
  simp -dsimp only [vend, ne_eq, Nat.reduceEqDiff, reduceCtorEq]
  first | refine zk1 rfl (fun h => ?_) (fun h => ?_) | refine zk0 rfl (fun h => ?_) (fun h => ?_) | refine zk2 rfl (fun h => ?_) (fun h => ?_)
  ·first | refine zg1 ?_ | refine zg0 ?_ | refine zg2 ?_ | refine zg3 ?_
   simp -dsimp only [simprocAttr, ↓vpre, zp]
   refine at_intro ?_
   simp -dsimp only [vend, ne_eq, Nat.reduceEqDiff, reduceCtorEq]
   refine awp_ret ?_
   simp -dsimp only [simprocAttr, ↓vpre, zp, RetTo, Try.results46, retVals, retVal, mkRet, AVal.upto, Nat.zero_le, Nat.le_refl, seqPost_ret, blockPost_ret, loopPost_ret]
   simpa [uptoL] using hnil
  ·cases h
 ·simp -dsimp only [simprocAttr, ↓vpre, zp]
  first | refine zg1 ?_ | refine zg0 ?_ | refine zg2 ?_ | refine zg3 ?_
  simp -dsimp only [simprocAttr, ↓vpre, zp]
  refine at_intro ?_
  simp -dsimp only [vend, ne_eq, Nat.reduceEqDiff, reduceCtorEq]
  first | refine zk1 rfl (fun h => ?_) (fun h => ?_) | refine zk0 rfl (fun h => ?_) (fun h => ?_) | refine zk2 rfl (fun h => ?_) (fun h => ?_)
  ·cases h
  ·refine awp_skip ?_
   simp -dsimp only [vend, ne_eq, Nat.reduceEqDiff, reduceCtorEq]
   first | refine zg1 ?_ | refine zg0 ?_ | refine zg2 ?_ | refine zg3 ?_
   simp -dsimp only [simprocAttr, ↓vpre, zp]
   refine ⟨by omega, by omega, ?_⟩
   refine at_intro ?_
   simp -dsimp only [vend, ne_eq, Nat.reduceEqDiff, reduceCtorEq]
   refine awp_ret ?_
   simp -dsimp only [simprocAttr, ↓vpre, zp, RetTo, Try.results46, retVals, retVal, mkRet, AVal.upto, Nat.zero_le, Nat.le_refl, seqPost_ret, blockPost_ret, loopPost_ret]


end Go.Proofs.Ytakdmelemfnmdaa
end

section
set_option linter.unusedSimpArgs false
set_option maxHeartbeats 1000000
-- !tab vtab
-- !upto Pat.enc_upto Pat.map_upto any_upto Con.enc_upto Con.map_upto Data.enc_upto Data.map_upto Tbl.enc_upto entry_upto
namespace Go.Proofs.Ytakdmelemfnmdaa
open Go.Av

abbrev eI (l : List Int) : AVal := .lst 1 (l.map aI) .sh

theorem int_upto (n : Nat) (l : List Int) : uptoL n (l.map aI) := by
 rw [uptoL_iff]
 intro x hx
 obtain ⟨c, _, rfl⟩ := List.mem_map.1 hx
 trivial

theorem hasInt_spec (l : List Int) (x : Int) : PCall Try.prog 14 [eI l, aI x] (.v (.bool (decide (x ∈ l)))) := by
 refine ecall_of hT true 0 Try.func14 rfl (by kernel_rfl) (by simp [Try.ntmps14]) (by simp) ?_
 show AWP Try.prog _ _ _ ⟨17, _, _⟩
 dsimp only [Tmp, TypeId, slotsOf]
 first | refine zg1 ?_ | refine zg0 ?_ | refine zg2 ?_ | refine zg3 ?_
 simp -dsimp only [simprocAttr, ↓vpre, zp]
 refine at_intro ?_
 simp -dsimp only [vend, ne_eq, Nat.reduceEqDiff, reduceCtorEq]
 refine awp_len 0 rfl (fun hlen => ?_)
 simp only [List.length_map] at hlen
 first | refine zg1 ?_ | refine zg0 ?_ | refine zg2 ?_ | refine zg3 ?_
 simp -dsimp only [simprocAttr, ↓vpre, zp]
 refine at_intro ?_
 simp -dsimp only [vend, ne_eq, Nat.reduceEqDiff, reduceCtorEq]
 first | refine awp_block (awp_loop (ι := {k : Nat // k ≤ l.length ∧ x ∉ l.take k}) (fun k => ⟨17, [(1, aI x), (7, eI l), (8, aI l.length), (9, aI k.1)], []⟩) (fun k => l.length - k.1) ⟨0, by omega, by simp⟩ ?_ ?_) | refine awp_seq (awp_block (awp_loop (ι := {k : Nat // k ≤ l.length ∧ x ∉ l.take k}) (fun k => ⟨17, [(1, aI x), (7, eI l), (8, aI l.length), (9, aI k.1)], []⟩) (fun k => l.length - k.1) ⟨0, by omega, by simp⟩ ?_ ?_))
 ·refine ⟨rfl, ?_, ?_⟩
  rotate_left
  simp -dsimp only [simprocAttr, ↓vpre, zp, Says, exists_eq_left', Option.some.injEq, sub_self, and_assoc, true_and, and_true]
  rfl
 ·rintro ⟨k, hk, hnot⟩
  first | refine zg1 ?_ | refine zg0 ?_ | refine zg2 ?_ | refine zg3 ?_
  simp -dsimp only [simprocAttr, ↓vpre, zp]
  refine at_intro ?_
  simp -dsimp only [vend, ne_eq, Nat.reduceEqDiff, reduceCtorEq]
  first | refine zk1 rfl (fun h => ?_) (fun h => ?_) | refine zk0 rfl (fun h => ?_) (fun h => ?_) | refine zk2 rfl (fun h => ?_) (fun h => ?_)
  ·refine awp_skip ?_
   simp -dsimp only [vend, ne_eq, Nat.reduceEqDiff, reduceCtorEq]
   have hlt : k < l.length := by simpa using h
   obtain ⟨y, hy⟩ : ∃ y, l[k]? = some y := ⟨l[k], by simp [hlt]⟩
   first | refine awp_seq (awp_block ?_) | refine awp_block ?_
   first | refine zg1 ?_ | refine zg0 ?_ | refine zg2 ?_ | refine zg3 ?_
   simp -dsimp only [simprocAttr, ↓vpre, zp, hy]
   refine at_intro ?_
   simp -dsimp only [vend, ne_eq, Nat.reduceEqDiff, reduceCtorEq]
   first | refine zg1 ?_ | refine zg0 ?_ | refine zg2 ?_ | refine zg3 ?_
   simp -dsimp only [simprocAttr, ↓vpre, zp]
   refine at_intro ?_
   simp -dsimp only [vend, ne_eq, Nat.reduceEqDiff, reduceCtorEq]
   first | refine zk1 rfl (fun h => ?_) (fun h => ?_) | refine zk0 rfl (fun h => ?_) (fun h => ?_) | refine zk2 rfl (fun h => ?_) (fun h => ?_)
   ·have hxy : y = x := by simpa using h
    have hm1 := List.mem_of_getElem? hy
    rw [hxy] at hm1
    first | refine zg1 ?_ | refine zg0 ?_ | refine zg2 ?_ | refine zg3 ?_
    simp -dsimp only [simprocAttr, ↓vpre, zp]
    refine at_intro ?_
    simp -dsimp only [vend, ne_eq, Nat.reduceEqDiff, reduceCtorEq]
    refine awp_ret ?_
    simp -dsimp only [simprocAttr, ↓vpre, zp, RetTo, Try.results14, retVals, retVal, mkRet, AVal.upto, Nat.zero_le, Nat.le_refl, seqPost_ret, blockPost_ret, loopPost_ret]
    simp [hm1]
   ·have hxy : ¬ y = x := by simpa using h
    refine awp_skip ?_
    simp -dsimp only [vend, ne_eq, Nat.reduceEqDiff, reduceCtorEq]
    first | refine zg1 ?_ | refine zg0 ?_ | refine zg2 ?_ | refine zg3 ?_
    simp -dsimp only [simprocAttr, ↓vpre, zp]
    refine ⟨by omega, by omega, ?_⟩
    refine at_intro ?_
    simp -dsimp only [vend, ne_eq, Nat.reduceEqDiff, reduceCtorEq]
    refine ⟨⟨k + 1, hlt, ?_⟩, by simp; omega, ?_⟩
    ·rw [take_next hy]
     simp [hnot]
     exact fun e => hxy e.symm
    refine ⟨rfl, ?_, ?_⟩
    rotate_left
    simp -dsimp only [simprocAttr, ↓vpre, zp, Says, exists_eq_left', Option.some.injEq, sub_self, and_assoc, true_and, and_true]
    ·exact Sub.int (by simp)
    ·rfl
  ·refine awp_exit ?_
   simp -dsimp only [vend, ne_eq, Nat.reduceEqDiff, reduceCtorEq]
   have hlt : k = l.length := by simp at h; omega
   subst hlt
   rw [List.take_length] at hnot
   first | refine zg1 ?_ | refine zg0 ?_ | refine zg2 ?_ | refine zg3 ?_
   simp -dsimp only [simprocAttr, ↓vpre, zp]
   refine at_intro ?_
   simp -dsimp only [vend, ne_eq, Nat.reduceEqDiff, reduceCtorEq]
   refine awp_ret ?_
   simp -dsimp only [simprocAttr, ↓vpre, zp, RetTo, Try.results14, retVals, retVal, mkRet, AVal.upto, Nat.zero_le, Nat.le_refl, seqPost_ret, blockPost_ret, loopPost_ret]
   simp [hnot]

theorem sameInts_spec (a b : List Int) : PCall Try.prog 17 [eI a, eI b] (.v (.bool (decide (a = b)))) := by
 refine ecall_of hT true 0 Try.func17 rfl (by kernel_rfl) (by simp [Try.ntmps17]) (by simp) ?_
 show AWP Try.prog _ _ _ ⟨26, _, _⟩
 dsimp only [Tmp, TypeId, slotsOf]
 first | refine zg1 ?_ | refine zg0 ?_ | refine zg2 ?_ | refine zg3 ?_
 simp -dsimp only [simprocAttr, ↓vpre, zp]
 refine at_intro ?_
 simp -dsimp only [vend, ne_eq, Nat.reduceEqDiff, reduceCtorEq]
 first | refine zg1 ?_ | refine zg0 ?_ | refine zg2 ?_ | refine zg3 ?_
 simp -dsimp only [simprocAttr, ↓vpre, zp]
 refine at_intro ?_
 simp -dsimp only [vend, ne_eq, Nat.reduceEqDiff, reduceCtorEq]
 first | refine zk1 rfl (fun h => ?_) (fun h => ?_) | refine zk0 rfl (fun h => ?_) (fun h => ?_) | refine zk2 rfl (fun h => ?_) (fun h => ?_)
 ·have hne : ¬ a.length = b.length := by
   simp at h
   omega
  first | refine zg1 ?_ | refine zg0 ?_ | refine zg2 ?_ | refine zg3 ?_
  simp -dsimp only [simprocAttr, ↓vpre, zp]
  refine at_intro ?_
  simp -dsimp only [vend, ne_eq, Nat.reduceEqDiff, reduceCtorEq]
  refine awp_ret ?_
  simp -dsimp only [simprocAttr, ↓vpre, zp, RetTo, Try.results17, retVals, retVal, mkRet, AVal.upto, Nat.zero_le, Nat.le_refl, seqPost_ret, blockPost_ret, loopPost_ret]
  have : ¬ a = b := fun e => hne (by rw [e])
  simp [this]
 ·have hee : a.length = b.length := by
   simp at h
   omega
  refine awp_skip ?_
  simp -dsimp only [vend, ne_eq, Nat.reduceEqDiff, reduceCtorEq]
  refine awp_len 0 rfl (fun hlen => ?_)
  simp only [List.length_map] at hlen
  first | refine zg1 ?_ | refine zg0 ?_ | refine zg2 ?_ | refine zg3 ?_
  simp -dsimp only [simprocAttr, ↓vpre, zp]
  refine at_intro ?_
  simp -dsimp only [vend, ne_eq, Nat.reduceEqDiff, reduceCtorEq]
  first | refine awp_block (awp_loop (ι := {k : Nat // k ≤ a.length ∧ a.take k = b.take k}) (fun k => ⟨26, [(1, eI b), (12, eI a), (13, aI a.length), (14, aI k.1)], []⟩) (fun k => a.length - k.1) ⟨0, by omega, by simp⟩ ?_ ?_) | refine awp_seq (awp_block (awp_loop (ι := {k : Nat // k ≤ a.length ∧ a.take k = b.take k}) (fun k => ⟨26, [(1, eI b), (12, eI a), (13, aI a.length), (14, aI k.1)], []⟩) (fun k => a.length - k.1) ⟨0, by omega, by simp⟩ ?_ ?_))
  ·refine ⟨rfl, ?_, ?_⟩
   rotate_left
   simp -dsimp only [simprocAttr, ↓vpre, zp, Says, exists_eq_left', Option.some.injEq, sub_self, and_assoc, true_and, and_true]
   rfl
  ·rintro ⟨k, hk, hs⟩
   first | refine zg1 ?_ | refine zg0 ?_ | refine zg2 ?_ | refine zg3 ?_
   simp -dsimp only [simprocAttr, ↓vpre, zp]
   refine at_intro ?_
   simp -dsimp only [vend, ne_eq, Nat.reduceEqDiff, reduceCtorEq]
   first | refine zk1 rfl (fun h => ?_) (fun h => ?_) | refine zk0 rfl (fun h => ?_) (fun h => ?_) | refine zk2 rfl (fun h => ?_) (fun h => ?_)
   ·refine awp_skip ?_
    simp -dsimp only [vend, ne_eq, Nat.reduceEqDiff, reduceCtorEq]
    have hlt : k < a.length := by simpa using h
    obtain ⟨y, hy⟩ : ∃ y, a[k]? = some y := ⟨a[k], by simp [hlt]⟩
    obtain ⟨z, hz⟩ : ∃ z, b[k]? = some z := ⟨b[k]'(by omega), by simp [show k < b.length by omega]⟩
    first | refine awp_seq (awp_block ?_) | refine awp_block ?_
    first | refine zg1 ?_ | refine zg0 ?_ | refine zg2 ?_ | refine zg3 ?_
    simp -dsimp only [simprocAttr, ↓vpre, zp, hy]
    refine at_intro ?_
    simp -dsimp only [vend, ne_eq, Nat.reduceEqDiff, reduceCtorEq]
    first | refine zg1 ?_ | refine zg0 ?_ | refine zg2 ?_ | refine zg3 ?_
    simp -dsimp only [simprocAttr, ↓vpre, zp, hz]
    refine at_intro ?_
    simp -dsimp only [vend, ne_eq, Nat.reduceEqDiff, reduceCtorEq]
    first | refine zk1 rfl (fun h => ?_) (fun h => ?_) | refine zk0 rfl (fun h => ?_) (fun h => ?_) | refine zk2 rfl (fun h => ?_) (fun h => ?_)
    ·have hzy : ¬ z = y := by simpa using h
     first | refine zg1 ?_ | refine zg0 ?_ | refine zg2 ?_ | refine zg3 ?_
     simp -dsimp only [simprocAttr, ↓vpre, zp]
     refine at_intro ?_
     simp -dsimp only [vend, ne_eq, Nat.reduceEqDiff, reduceCtorEq]
     refine awp_ret ?_
     simp -dsimp only [simprocAttr, ↓vpre, zp, RetTo, Try.results17, retVals, retVal, mkRet, AVal.upto, Nat.zero_le, Nat.le_refl, seqPost_ret, blockPost_ret, loopPost_ret]
     have : ¬ a = b := fun e => by
      subst e
      rw [hy] at hz
      simp only [Option.some.injEq] at hz
      exact hzy hz.symm
     simp [this]
    ·have hzy : z = y := by simpa using h
     refine awp_skip ?_
     simp -dsimp only [vend, ne_eq, Nat.reduceEqDiff, reduceCtorEq]
     first | refine zg1 ?_ | refine zg0 ?_ | refine zg2 ?_ | refine zg3 ?_
     simp -dsimp only [simprocAttr, ↓vpre, zp]
     refine ⟨by omega, by omega, ?_⟩
     refine at_intro ?_
     simp -dsimp only [vend, ne_eq, Nat.reduceEqDiff, reduceCtorEq]
     refine ⟨⟨k + 1, hlt, by rw [take_next hy, take_next hz, hs, hzy]⟩, by simp; omega, ?_⟩
     refine ⟨rfl, ?_, ?_⟩
     rotate_left
     simp -dsimp only [simprocAttr, ↓vpre, zp, Says, exists_eq_left', Option.some.injEq, sub_self, and_assoc, true_and, and_true]
     ·exact Sub.int (by simp)
     ·rfl
   ·refine awp_exit ?_
    simp -dsimp only [vend, ne_eq, Nat.reduceEqDiff, reduceCtorEq]
    have hlt : k = a.length := by simp at h; omega
    subst hlt
    rw [List.take_length, hee, List.take_length] at hs
    first | refine zg1 ?_ | refine zg0 ?_ | refine zg2 ?_ | refine zg3 ?_
    simp -dsimp only [simprocAttr, ↓vpre, zp]
    refine at_intro ?_
    simp -dsimp only [vend, ne_eq, Nat.reduceEqDiff, reduceCtorEq]
    refine awp_ret ?_
    simp -dsimp only [simprocAttr, ↓vpre, zp, RetTo, Try.results17, retVals, retVal, mkRet, AVal.upto, Nat.zero_le, Nat.le_refl, seqPost_ret, blockPost_ret, loopPost_ret]
    simp [hs]

end Go.Proofs.Ytakdmelemfnmdaa
end

section
set_option linter.unusedSimpArgs false
set_option maxHeartbeats 1000000
-- !tab vtab
-- !upto Pat.enc_upto Pat.map_upto any_upto Con.enc_upto Con.map_upto Data.enc_upto Data.map_upto Tbl.enc_upto entry_upto
namespace Go.Proofs.Ytakdmelemfnmdaa
open Go.Av

mutual
/-- How many patterns. -/
def Pat.nodes : Pat → Nat
 | .mk _ _ _ l => 1 + nodesL l
def nodesL : List Pat → Nat
 | [] => 0
 | p :: r => p.nodes + nodesL r
end

theorem Pat.nodes_eq (p : Pat) : p.nodes = 1 + nodesL p.args := by
 cases p
 rw [Pat.nodes]
 rfl

theorem nodesL_mem : ∀ {l : List Pat} {p : Pat}, p ∈ l → p.nodes ≤ nodesL l
 | q :: r, p, h => by
  rw [nodesL]
  rcases List.mem_cons.1 h with e | e
  ·subst e
   omega
  ·have := nodesL_mem e
   omega

theorem nodesL_len : ∀ l : List Pat, l.length ≤ nodesL l
 | [] => by simp
 | p :: r => by
  have := nodesL_len r
  rw [nodesL, Pat.nodes_eq]
  simp
  omega

mutual
def Pat.plain : Pat → Pat
 | .mk k s n l => if k = 1 then Pat.any else .mk k s n (plainL l)
def plainL : List Pat → List Pat
 | [] => []
 | p :: r => p.plain :: plainL r
end

theorem Pat.plain_eq (p : Pat) : p.plain = if p.kind = 1 then Pat.any else .mk p.kind p.name p.n (plainL p.args) := by
 cases p
 rw [Pat.plain]
 rfl

theorem plainL_map : ∀ l : List Pat, plainL l = l.map Pat.plain
 | [] => rfl
 | p :: r => by rw [plainL, plainL_map r]; rfl

theorem plain_spec (l : List Pat) (hb : nodesL l ≤ 2 ^ 30) : PCall Try.prog 15 [eR l] (eR (plainL l)) := by
 have hlen := nodesL_len l
 have ih : ∀ p ∈ l, PCall Try.prog 15 [eR p.args] (eR (plainL p.args)) := fun p hp => plain_spec p.args (by
  have h1 := nodesL_mem hp
  have h2 := p.nodes_eq
  omega)
 have ih0 : l ≠ [] → PCall Try.prog 15 [eR []] (eR []) := fun hne => plain_spec [] (by simp [nodesL])
 rw [plainL_map]
 refine ecall_of hT true 0 Try.func15 rfl (by kernel_rfl) (by simp [Try.ntmps15]) (by simp) ?_
 show AWP Try.prog _ _ _ ⟨26, _, _⟩
 dsimp only [Tmp, TypeId, slotsOf]
 first | refine zg1 ?_ | refine zg0 ?_ | refine zg2 ?_ | refine zg3 ?_
 simp -dsimp only [simprocAttr, ↓vpre, zp]
 refine at_intro ?_
 simp -dsimp only [vend, ne_eq, Nat.reduceEqDiff, reduceCtorEq]
 first | refine zg1 ?_ | refine zg0 ?_ | refine zg2 ?_ | refine zg3 ?_
 simp -dsimp only [simprocAttr, ↓vpre, zp]
 refine at_intro ?_
 simp -dsimp only [vend, ne_eq, Nat.reduceEqDiff, reduceCtorEq]
 refine awp_own 3 rfl ?_
 simp -dsimp only [simprocAttr, ↓vpre, zp]
 first | refine zg1 ?_ | refine zg0 ?_ | refine zg2 ?_ | refine zg3 ?_
 simp -dsimp only [simprocAttr, ↓vpre, zp]
 refine at_intro ?_
 simp -dsimp only [vend, ne_eq, Nat.reduceEqDiff, reduceCtorEq]
 first | refine awp_block (awp_loop (ι := {k : Nat // k ≤ l.length}) (fun k => ⟨26, [(6, eR l), (7, aI l.length), (8, aI k.1), (3, .lst 4 (((l.take k.1).map Pat.plain).map Pat.enc) (.tok 0))], [.spare (l.take k.1).length]⟩) (fun k => l.length - k.1) ⟨0, by omega⟩ ?_ ?_) | refine awp_seq (awp_block (awp_loop (ι := {k : Nat // k ≤ l.length}) (fun k => ⟨26, [(6, eR l), (7, aI l.length), (8, aI k.1), (3, .lst 4 (((l.take k.1).map Pat.plain).map Pat.enc) (.tok 0))], [.spare (l.take k.1).length]⟩) (fun k => l.length - k.1) ⟨0, by omega⟩ ?_ ?_))
 ·refine ⟨rfl, ?_, ?_⟩
  rotate_left
  simp -dsimp only [simprocAttr, ↓vpre, zp, Says, exists_eq_left', Option.some.injEq, sub_self, and_assoc, true_and, and_true]
  rfl
 ·rintro ⟨k, hk⟩
  first | refine zg1 ?_ | refine zg0 ?_ | refine zg2 ?_ | refine zg3 ?_
  simp -dsimp only [simprocAttr, ↓vpre, zp]
  refine at_intro ?_
  simp -dsimp only [vend, ne_eq, Nat.reduceEqDiff, reduceCtorEq]
  first | refine zk1 rfl (fun h => ?_) (fun h => ?_) | refine zk0 rfl (fun h => ?_) (fun h => ?_) | refine zk2 rfl (fun h => ?_) (fun h => ?_)
  ·refine awp_skip ?_
   simp -dsimp only [vend, ne_eq, Nat.reduceEqDiff, reduceCtorEq]
   have hlt : k < l.length := by simpa using h
   obtain ⟨p, hp⟩ : ∃ p, l[k]? = some p := ⟨l[k], by simp [hlt]⟩
   have hmem := List.mem_of_getElem? hp
   first | refine awp_seq (awp_block ?_) | refine awp_block ?_
   first | refine zg1 ?_ | refine zg0 ?_ | refine zg2 ?_ | refine zg3 ?_
   simp -dsimp only [simprocAttr, ↓vpre, zp, hp]
   refine at_intro ?_
   simp -dsimp only [vend, ne_eq, Nat.reduceEqDiff, reduceCtorEq]
   first | refine zg1 ?_ | refine zg0 ?_ | refine zg2 ?_ | refine zg3 ?_
   simp -dsimp only [simprocAttr, ↓vpre, zp]
   refine at_intro ?_
   simp -dsimp only [vend, ne_eq, Nat.reduceEqDiff, reduceCtorEq]
   have e : (l.take (k + 1)).map Pat.plain = (l.take k).map Pat.plain ++ [p.plain] := by
    rw [take_next hp]
    simp
   have htl : (l.take k).length = k := by simp; omega
   have htl' : (l.take (k + 1)).length = k + 1 := by simp; omega
   first | refine zk1 rfl (fun h => ?_) (fun h => ?_) | refine zk0 rfl (fun h => ?_) (fun h => ?_) | refine zk2 rfl (fun h => ?_) (fun h => ?_)
   ·have hk1 : p.kind = 1 := by simpa using h
    have hpl : p.plain = Pat.any := by rw [Pat.plain_eq, if_pos hk1]
    first | refine zg1 ?_ | refine zg0 ?_ | refine zg2 ?_ | refine zg3 ?_
    simp -dsimp only [simprocAttr, ↓vpre, zp]
    refine at_intro ?_
    simp -dsimp only [vend, ne_eq, Nat.reduceEqDiff, reduceCtorEq]
    first | refine zg1 ?_ | refine zg0 ?_ | refine zg2 ?_ | refine zg3 ?_
    simp -dsimp only [simprocAttr, ↓vpre, zp]
    refine .inl ⟨_, (ih0 (fun e => by rw [e] at hmem; cases hmem)), by first | (simp only [uptoL, AVal.upto, zt, zu, any_upto]; done) | (simp [uptoL, AVal.upto, zu, any_upto]; done), later_intro ?_⟩
    simp -dsimp only [simprocAttr, ↓vpre, zp]
    refine at_intro ?_
    simp -dsimp only [vend, ne_eq, Nat.reduceEqDiff, reduceCtorEq]
    first | refine zg1 ?_ | refine zg0 ?_ | refine zg2 ?_ | refine zg3 ?_
    simp -dsimp only [simprocAttr, ↓vpre, zp]
    refine ⟨by omega, by omega, ?_⟩
    refine at_intro ?_
    simp -dsimp only [vend, ne_eq, Nat.reduceEqDiff, reduceCtorEq]
    refine awp_trunc' 1 [(6, eR l), (7, aI l.length), (8, aI k), (3, .lst 4 (((l.take (k + 1)).map Pat.plain).map Pat.enc) (.tok 0))] (by first | omega | (simp; done) | (simp; omega)) (by first | omega | (simp; done) | (simp; omega)) [.spare (l.take (k + 1)).length] ?_ ?_ ?_ ?_ ?_
    ·simp [htl, htl']
    ·simp [AObj.upto]
    ·simp -dsimp only [simprocAttr, ↓vpre, zp, Says, exists_eq_left', Option.some.injEq, sub_self, and_true, true_and]
     refine Sub.lst ?_
     rw [e, hpl, List.map_append]
     simp [Pat.enc_eq, Pat.kind, Pat.name, Pat.n, Pat.args, lstOf, Pat.any]
    ·simp only [List.mem_cons, List.not_mem_nil, or_false, forall_eq_or_imp, forall_eq]
     exact ⟨⟨Pat.map_upto _ _, trivial⟩, trivial, trivial, Pat.map_upto _ _, Nat.lt_succ_self _⟩
    ·first | refine zg1 ?_ | refine zg0 ?_ | refine zg2 ?_ | refine zg3 ?_
     simp -dsimp only [simprocAttr, ↓vpre, zp]
     refine ⟨by omega, by omega, ?_⟩
     refine at_intro ?_
     simp -dsimp only [vend, ne_eq, Nat.reduceEqDiff, reduceCtorEq]
     refine ⟨⟨k + 1, hlt⟩, by simp; omega, ?_⟩
     refine ⟨rfl, ?_, ?_⟩
     rotate_left
     simp -dsimp only [simprocAttr, ↓vpre, zp, Says, exists_eq_left', Option.some.injEq, sub_self, and_assoc, true_and, and_true]
     ·exact Sub.int (by simp)
     ·rfl
   ·have hk1 : ¬ p.kind = 1 := by simpa using h
    have hpl : p.plain = .mk p.kind p.name p.n (plainL p.args) := by rw [Pat.plain_eq, if_neg hk1]
    refine awp_skip ?_
    simp -dsimp only [vend, ne_eq, Nat.reduceEqDiff, reduceCtorEq]
    first | refine zg1 ?_ | refine zg0 ?_ | refine zg2 ?_ | refine zg3 ?_
    simp -dsimp only [simprocAttr, ↓vpre, zp]
    refine .inl ⟨_, (ih p hmem), by first | (simp only [uptoL, AVal.upto, zt, zu, any_upto]; done) | (simp [uptoL, AVal.upto, zu, any_upto]; done), later_intro ?_⟩
    simp -dsimp only [simprocAttr, ↓vpre, zp]
    refine at_intro ?_
    simp -dsimp only [vend, ne_eq, Nat.reduceEqDiff, reduceCtorEq]
    first | refine zg1 ?_ | refine zg0 ?_ | refine zg2 ?_ | refine zg3 ?_
    simp -dsimp only [simprocAttr, ↓vpre, zp]
    refine ⟨by omega, by omega, ?_⟩
    refine at_intro ?_
    simp -dsimp only [vend, ne_eq, Nat.reduceEqDiff, reduceCtorEq]
    refine awp_trunc' 1 [(6, eR l), (7, aI l.length), (8, aI k), (3, .lst 4 (((l.take (k + 1)).map Pat.plain).map Pat.enc) (.tok 0))] (by first | omega | (simp; done) | (simp; omega)) (by first | omega | (simp; done) | (simp; omega)) [.spare (l.take (k + 1)).length] ?_ ?_ ?_ ?_ ?_
    ·simp [htl, htl']
    ·simp [AObj.upto]
    ·simp -dsimp only [simprocAttr, ↓vpre, zp, Says, exists_eq_left', Option.some.injEq, sub_self, and_true, true_and]
     refine Sub.lst ?_
     rw [e, hpl, List.map_append]
     simp [Pat.enc_eq, Pat.kind, Pat.name, Pat.n, Pat.args, lstOf, Pat.any]
    ·simp only [List.mem_cons, List.not_mem_nil, or_false, forall_eq_or_imp, forall_eq]
     exact ⟨⟨Pat.map_upto _ _, trivial⟩, trivial, trivial, Pat.map_upto _ _, Nat.lt_succ_self _⟩
    ·first | refine zg1 ?_ | refine zg0 ?_ | refine zg2 ?_ | refine zg3 ?_
     simp -dsimp only [simprocAttr, ↓vpre, zp]
     refine ⟨by omega, by omega, ?_⟩
     refine at_intro ?_
     simp -dsimp only [vend, ne_eq, Nat.reduceEqDiff, reduceCtorEq]
     refine ⟨⟨k + 1, hlt⟩, by simp; omega, ?_⟩
     refine ⟨rfl, ?_, ?_⟩
     rotate_left
     simp -dsimp only [simprocAttr, ↓vpre, zp, Says, exists_eq_left', Option.some.injEq, sub_self, and_assoc, true_and, and_true]
     ·exact Sub.int (by simp)
     ·rfl
  ·refine awp_exit ?_
   simp -dsimp only [vend, ne_eq, Nat.reduceEqDiff, reduceCtorEq]
   have hlt : k = l.length := by simp at h; omega
   subst hlt
   first | refine zg1 ?_ | refine zg0 ?_ | refine zg2 ?_ | refine zg3 ?_
   simp -dsimp only [simprocAttr, ↓vpre, zp]
   refine at_intro ?_
   simp -dsimp only [vend, ne_eq, Nat.reduceEqDiff, reduceCtorEq]
   refine awp_ret ?_
   simp -dsimp only [simprocAttr, ↓vpre, zp, RetTo, Try.results15, retVals, retVal, mkRet, AVal.upto, Nat.zero_le, Nat.le_refl, seqPost_ret, blockPost_ret, loopPost_ret, List.take_length]
termination_by SizeOf.sizeOf l
decreasing_by
 ·have h1 := List.sizeOf_lt_of_mem hp
  cases p
  simp only [Pat.args]
  simp at h1
  omega
 ·cases l with
  | nil => exact absurd rfl hne
  | cons q r =>
   have : 0 < SizeOf.sizeOf q := by
    cases q
    simp
    omega
   simp
   omega

end Go.Proofs.Ytakdmelemfnmdaa
end

section
set_option linter.unusedSimpArgs false
set_option maxHeartbeats 1000000
set_option maxRecDepth 100000
-- !tab vtab
-- !upto Pat.enc_upto Pat.map_upto any_upto Con.enc_upto Con.map_upto Data.enc_upto Data.map_upto Tbl.enc_upto entry_upto
namespace Go.Proofs.Ytakdmelemfnmdaa
open Go.Av

/-- A list is the same as itself. -/
theorem samePats_refl (l : List Pat) : PCall Try.prog 16 [eR l, eR l] (.v (.bool true)) := by
 have ih : ∀ p ∈ l, PCall Try.prog 16 [eR p.args, eR p.args] (.v (.bool true)) := fun p hp => samePats_refl p.args
 refine ecall_of hT true 0 Try.func16 rfl (by kernel_rfl) (by simp [Try.ntmps16]) (by simp) ?_
 show AWP Try.prog _ _ _ ⟨52, _, _⟩
 dsimp only [Tmp, TypeId, slotsOf]
 first | refine zg1 ?_ | refine zg0 ?_ | refine zg2 ?_ | refine zg3 ?_
 simp -dsimp only [simprocAttr, ↓vpre, zp]
 refine at_intro ?_
 simp -dsimp only [vend, ne_eq, Nat.reduceEqDiff, reduceCtorEq]
 first | refine zg1 ?_ | refine zg0 ?_ | refine zg2 ?_ | refine zg3 ?_
 simp -dsimp only [simprocAttr, ↓vpre, zp, eq_self]
 refine at_intro ?_
 simp -dsimp only [vend, ne_eq, Nat.reduceEqDiff, reduceCtorEq]
 first | refine zk1 rfl (fun h => ?_) (fun h => ?_) | refine zk0 rfl (fun h => ?_) (fun h => ?_) | refine zk2 rfl (fun h => ?_) (fun h => ?_)
 ·cases h
 ·refine awp_skip ?_
  simp -dsimp only [vend, ne_eq, Nat.reduceEqDiff, reduceCtorEq]
  refine awp_len 0 rfl (fun hlen => ?_)
  simp only [List.length_map] at hlen
  first | refine zg1 ?_ | refine zg0 ?_ | refine zg2 ?_ | refine zg3 ?_
  simp -dsimp only [simprocAttr, ↓vpre, zp]
  refine at_intro ?_
  simp -dsimp only [vend, ne_eq, Nat.reduceEqDiff, reduceCtorEq]
  first | refine awp_block (awp_loop (ι := {k : Nat // k ≤ l.length}) (fun k => ⟨52, [(1, eR l), (13, eR l), (14, aI l.length), (15, aI k.1)], []⟩) (fun k => l.length - k.1) ⟨0, by omega⟩ ?_ ?_) | refine awp_seq (awp_block (awp_loop (ι := {k : Nat // k ≤ l.length}) (fun k => ⟨52, [(1, eR l), (13, eR l), (14, aI l.length), (15, aI k.1)], []⟩) (fun k => l.length - k.1) ⟨0, by omega⟩ ?_ ?_))
  ·refine ⟨rfl, ?_, ?_⟩
   rotate_left
   simp -dsimp only [simprocAttr, ↓vpre, zp, Says, exists_eq_left', Option.some.injEq, sub_self, and_assoc, true_and, and_true]
   rfl
  ·rintro ⟨k, hk⟩
   first | refine zg1 ?_ | refine zg0 ?_ | refine zg2 ?_ | refine zg3 ?_
   simp -dsimp only [simprocAttr, ↓vpre, zp]
   refine at_intro ?_
   simp -dsimp only [vend, ne_eq, Nat.reduceEqDiff, reduceCtorEq]
   first | refine zk1 rfl (fun h => ?_) (fun h => ?_) | refine zk0 rfl (fun h => ?_) (fun h => ?_) | refine zk2 rfl (fun h => ?_) (fun h => ?_)
   ·refine awp_skip ?_
    simp -dsimp only [vend, ne_eq, Nat.reduceEqDiff, reduceCtorEq]
    have hlt : k < l.length := by simpa using h
    obtain ⟨p, hp⟩ : ∃ p, l[k]? = some p := ⟨l[k], by simp [hlt]⟩
    first | refine awp_seq (awp_block ?_) | refine awp_block ?_
    first | refine zg1 ?_ | refine zg0 ?_ | refine zg2 ?_ | refine zg3 ?_
    simp -dsimp only [simprocAttr, ↓vpre, zp, hp]
    refine at_intro ?_
    simp -dsimp only [vend, ne_eq, Nat.reduceEqDiff, reduceCtorEq]
    first | refine zg1 ?_ | refine zg0 ?_ | refine zg2 ?_ | refine zg3 ?_
    simp -dsimp only [simprocAttr, ↓vpre, zp, hp]
    refine at_intro ?_
    simp -dsimp only [vend, ne_eq, Nat.reduceEqDiff, reduceCtorEq]
    first | refine zg1 ?_ | refine zg0 ?_ | refine zg2 ?_ | refine zg3 ?_
    simp -dsimp only [simprocAttr, ↓vpre, zp, eq_self]
    refine .inl ⟨_, (ih p (List.mem_of_getElem? hp)), by first | (simp only [uptoL, AVal.upto, zt, zu, any_upto]; done) | (simp [uptoL, AVal.upto, zu, any_upto]; done), later_intro ?_⟩
    simp -dsimp only [simprocAttr, ↓vpre, zp]
    refine at_intro ?_
    simp -dsimp only [vend, ne_eq, Nat.reduceEqDiff, reduceCtorEq]
    first | refine zk1 rfl (fun h => ?_) (fun h => ?_) | refine zk0 rfl (fun h => ?_) (fun h => ?_) | refine zk2 rfl (fun h => ?_) (fun h => ?_)
    ·cases h
    ·refine awp_skip ?_
     simp -dsimp only [vend, ne_eq, Nat.reduceEqDiff, reduceCtorEq]
     refine awp_trunc' 0 [(1, eR l), (13, eR l), (14, aI l.length), (15, aI k)] (by first | omega | (simp; done) | (simp; omega)) (by first | omega | (simp; done) | (simp; omega)) [] ?_ ?_ ?_ ?_ ?_
     ·rfl
     ·simp
     ·simp -dsimp only [simprocAttr, ↓vpre, zp, Says, exists_eq_left', Option.some.injEq, sub_self, and_true]
     ·simp [AVal.upto, uptoL, Pat.map_upto]
     ·first | refine zg1 ?_ | refine zg0 ?_ | refine zg2 ?_ | refine zg3 ?_
      simp -dsimp only [simprocAttr, ↓vpre, zp]
      refine ⟨by omega, by omega, ?_⟩
      refine at_intro ?_
      simp -dsimp only [vend, ne_eq, Nat.reduceEqDiff, reduceCtorEq]
      refine ⟨⟨k + 1, hlt⟩, by simp; omega, ?_⟩
      refine ⟨rfl, ?_, ?_⟩
      rotate_left
      simp -dsimp only [simprocAttr, ↓vpre, zp, Says, exists_eq_left', Option.some.injEq, sub_self, and_assoc, true_and, and_true]
      ·exact Sub.int (by simp)
      ·rfl
   ·refine awp_exit ?_
    simp -dsimp only [vend, ne_eq, Nat.reduceEqDiff, reduceCtorEq]
    first | refine zg1 ?_ | refine zg0 ?_ | refine zg2 ?_ | refine zg3 ?_
    simp -dsimp only [simprocAttr, ↓vpre, zp]
    refine at_intro ?_
    simp -dsimp only [vend, ne_eq, Nat.reduceEqDiff, reduceCtorEq]
    refine awp_ret ?_
    simp -dsimp only [simprocAttr, ↓vpre, zp, RetTo, Try.results16, retVals, retVal, mkRet, AVal.upto, Nat.zero_le, Nat.le_refl, seqPost_ret, blockPost_ret, loopPost_ret]
termination_by SizeOf.sizeOf l
decreasing_by
 have h1 := List.sizeOf_lt_of_mem hp
 cases p
 simp only [Pat.args]
 simp at h1
 omega

end Go.Proofs.Ytakdmelemfnmdaa
end

section
set_option linter.unusedSimpArgs false
set_option maxHeartbeats 1000000
-- !tab vtab
-- !upto Pat.enc_upto Pat.map_upto any_upto Con.enc_upto Con.map_upto Data.enc_upto Data.map_upto Tbl.enc_upto entry_upto
namespace Go.Proofs.Ytakdmelemfnmdaa
open Go.Av

def addCons (k : Nat) : Nat → List Con → List (ByteArray × K) → Option (List (ByteArray × K))
 | _, [], acc => some acc
 | n, c :: r, acc => match find acc c.name with
  | some _ => none
  | none => addCons k (n + 1) r (acc ++ [(c.name, (⟨k, n, c.args.length⟩ : K))])

def addDatas : Nat → List Data → List (ByteArray × K) → Option (List (ByteArray × K))
 | _, [], acc => some acc
 | k, d :: r, acc => (addCons k 0 d.cons acc).bind (addDatas (k + 1) r)

/-- The table of data types; none: a constructor occurs twice. -/
def build (datas : List Data) : Option Tbl := (addDatas 0 datas []).map fun l => ⟨datas, l⟩

def zeroTbl : AVal := .agg [.lst 3 [] .sh, .v (.map none)]

def buildRes : Option Tbl → AVal
 | some t => .tup [t.enc, aI 0]
 | none => .tup [zeroTbl, aI 7]

theorem build_spec (datas : List Data) : PCall Try.prog 39 [eD datas] (buildRes (build datas)) := by
 refine ecall_of hT true 0 Try.func39 rfl (by kernel_rfl) (by simp [Try.ntmps39]) (by simp) ?_
 show AWP Try.prog _ _ _ ⟨52, _, _⟩
 dsimp only [Tmp, TypeId, slotsOf]
 first | refine zg1 ?_ | refine zg0 ?_ | refine zg2 ?_ | refine zg3 ?_
 simp -dsimp only [simprocAttr, ↓vpre, zp]
 refine at_intro ?_
 simp -dsimp only [vend, ne_eq, Nat.reduceEqDiff, reduceCtorEq]
 first | refine zg1 ?_ | refine zg0 ?_ | refine zg2 ?_ | refine zg3 ?_
 simp -dsimp only [simprocAttr, ↓vpre, zp]
 refine at_intro ?_
 simp -dsimp only [vend, ne_eq, Nat.reduceEqDiff, reduceCtorEq]
 refine awp_len 0 rfl (fun hlen => ?_)
 simp only [List.length_map] at hlen
 first | refine zg1 ?_ | refine zg0 ?_ | refine zg2 ?_ | refine zg3 ?_
 simp -dsimp only [simprocAttr, ↓vpre, zp]
 refine at_intro ?_
 simp -dsimp only [vend, ne_eq, Nat.reduceEqDiff, reduceCtorEq]
 first | refine awp_block (awp_loop (ι := {q : Nat × List (ByteArray × K) // q.1 ≤ datas.length ∧ addDatas 0 datas [] = addDatas q.1 (datas.drop q.1) q.2}) (fun q => ⟨52, [(14, eD datas), (15, aI datas.length), (16, aI q.1.1), (2, .mp 0 0), (4, .mp 2 0)], [.cells [.lst 3 [] .ex, .v (.map none)], .map .str (q.1.2.map entry), .cells [.lst 3 (datas.map Data.enc) .sh, .mm 1]]⟩) (fun q => datas.length - q.1.1) ⟨(0, []), by omega, rfl⟩ ?_ ?_) | refine awp_seq (awp_block (awp_loop (ι := {q : Nat × List (ByteArray × K) // q.1 ≤ datas.length ∧ addDatas 0 datas [] = addDatas q.1 (datas.drop q.1) q.2}) (fun q => ⟨52, [(14, eD datas), (15, aI datas.length), (16, aI q.1.1), (2, .mp 0 0), (4, .mp 2 0)], [.cells [.lst 3 [] .ex, .v (.map none)], .map .str (q.1.2.map entry), .cells [.lst 3 (datas.map Data.enc) .sh, .mm 1]]⟩) (fun q => datas.length - q.1.1) ⟨(0, []), by omega, rfl⟩ ?_ ?_))
 ·refine ⟨rfl, ?_, ?_⟩
  rotate_left
  simp -dsimp only [simprocAttr, ↓vpre, zp, Says, exists_eq_left', Option.some.injEq, sub_self, and_assoc, true_and, and_true]
  rfl
 ·rintro ⟨⟨k, acc⟩, hk, he⟩
  simp only at hk he
  first | refine zg1 ?_ | refine zg0 ?_ | refine zg2 ?_ | refine zg3 ?_
  simp -dsimp only [simprocAttr, ↓vpre, zp]
  refine at_intro ?_
  simp -dsimp only [vend, ne_eq, Nat.reduceEqDiff, reduceCtorEq]
  first | refine zk1 rfl (fun h => ?_) (fun h => ?_) | refine zk0 rfl (fun h => ?_) (fun h => ?_) | refine zk2 rfl (fun h => ?_) (fun h => ?_)
  ·refine awp_skip ?_
   simp -dsimp only [vend, ne_eq, Nat.reduceEqDiff, reduceCtorEq]
   have hlt : k < datas.length := by simpa using h
   obtain ⟨d, hd⟩ : ∃ d : Data, datas[k]? = some d := ⟨datas[k], by simp [hlt]⟩
   have hdrop : datas.drop k = d :: datas.drop (k + 1) := by
    rw [List.drop_eq_getElem_cons hlt]
    rw [List.getElem?_eq_getElem hlt] at hd
    simp only [Option.some.injEq] at hd
    rw [hd]
   rw [hdrop, addDatas] at he
   first | refine awp_seq (awp_block ?_) | refine awp_block ?_
   first | refine zg1 ?_ | refine zg0 ?_ | refine zg2 ?_ | refine zg3 ?_
   simp -dsimp only [simprocAttr, ↓vpre, zp, hd]
   refine at_intro ?_
   simp -dsimp only [vend, ne_eq, Nat.reduceEqDiff, reduceCtorEq]
   first | refine zg1 ?_ | refine zg0 ?_ | refine zg2 ?_ | refine zg3 ?_
   simp -dsimp only [simprocAttr, ↓vpre, zp]
   refine at_intro ?_
   simp -dsimp only [vend, ne_eq, Nat.reduceEqDiff, reduceCtorEq]
   refine awp_len 22 rfl (fun hlc => ?_)
   simp only [List.length_map] at hlc
   first | refine awp_block (awp_loop (ι := {q : Nat × List (ByteArray × K) // q.1 ≤ d.cons.length ∧ addDatas 0 datas [] = (addCons k q.1 (d.cons.drop q.1) q.2).bind (addDatas (k + 1) (datas.drop (k + 1)))}) (fun q => ⟨52, [(22, eC d.cons), (23, aI d.cons.length), (24, aI q.1.1), (5, aI k), (14, eD datas), (15, aI datas.length), (16, aI k), (2, .mp 0 0), (4, .mp 2 0)], [.cells [.lst 3 [] .ex, .v (.map none)], .map .str (q.1.2.map entry), .cells [.lst 3 (datas.map Data.enc) .sh, .mm 1], .cells [.v (.string d.name), .v (.int .i64 d.params), .lst 2 (d.cons.map Con.enc) .sh]]⟩) (fun q => d.cons.length - q.1.1) ⟨(0, acc), by omega, he⟩ ?_ ?_) | refine awp_seq (awp_block (awp_loop (ι := {q : Nat × List (ByteArray × K) // q.1 ≤ d.cons.length ∧ addDatas 0 datas [] = (addCons k q.1 (d.cons.drop q.1) q.2).bind (addDatas (k + 1) (datas.drop (k + 1)))}) (fun q => ⟨52, [(22, eC d.cons), (23, aI d.cons.length), (24, aI q.1.1), (5, aI k), (14, eD datas), (15, aI datas.length), (16, aI k), (2, .mp 0 0), (4, .mp 2 0)], [.cells [.lst 3 [] .ex, .v (.map none)], .map .str (q.1.2.map entry), .cells [.lst 3 (datas.map Data.enc) .sh, .mm 1], .cells [.v (.string d.name), .v (.int .i64 d.params), .lst 2 (d.cons.map Con.enc) .sh]]⟩) (fun q => d.cons.length - q.1.1) ⟨(0, acc), by omega, he⟩ ?_ ?_))
   ·refine ⟨rfl, ?_, ?_⟩
    rotate_left
    simp -dsimp only [simprocAttr, ↓vpre, zp, Says, exists_eq_left', Option.some.injEq, sub_self, and_assoc, true_and, and_true]
    rfl
   ·rintro ⟨⟨n, acc'⟩, hn, he'⟩
    simp only at hn he'
    first | refine zg1 ?_ | refine zg0 ?_ | refine zg2 ?_ | refine zg3 ?_
    simp -dsimp only [simprocAttr, ↓vpre, zp]
    refine at_intro ?_
    simp -dsimp only [vend, ne_eq, Nat.reduceEqDiff, reduceCtorEq]
    first | refine zk1 rfl (fun h => ?_) (fun h => ?_) | refine zk0 rfl (fun h => ?_) (fun h => ?_) | refine zk2 rfl (fun h => ?_) (fun h => ?_)
    ·refine awp_skip ?_
     simp -dsimp only [vend, ne_eq, Nat.reduceEqDiff, reduceCtorEq]
     have hlt' : n < d.cons.length := by simpa using h
     obtain ⟨c, hc⟩ : ∃ c, d.cons[n]? = some c := ⟨d.cons[n], by simp [hlt']⟩
     have hdrop' : d.cons.drop n = c :: d.cons.drop (n + 1) := by
      rw [List.drop_eq_getElem_cons hlt']
      rw [List.getElem?_eq_getElem hlt'] at hc
      simp only [Option.some.injEq] at hc
      rw [hc]
     rw [hdrop', addCons] at he'
     first | refine awp_seq (awp_block ?_) | refine awp_block ?_
     first | refine zg1 ?_ | refine zg0 ?_ | refine zg2 ?_ | refine zg3 ?_
     simp -dsimp only [simprocAttr, ↓vpre, zp, hc]
     refine at_intro ?_
     simp -dsimp only [vend, ne_eq, Nat.reduceEqDiff, reduceCtorEq]
     cases hf : find acc' c.name with
     | some x =>
      rw [hf] at he'
      have hb : build datas = none := by rw [build, he']; rfl
      first | refine zg1 ?_ | refine zg0 ?_ | refine zg2 ?_ | refine zg3 ?_
      simp -dsimp only [simprocAttr, ↓vpre, zp, hf, Option.getD_some, Option.getD_none]
      refine at_intro ?_
      simp -dsimp only [vend, ne_eq, Nat.reduceEqDiff, reduceCtorEq]
      first | refine zg1 ?_ | refine zg0 ?_ | refine zg2 ?_ | refine zg3 ?_
      simp -dsimp only [simprocAttr, ↓vpre, zp]
      refine at_intro ?_
      simp -dsimp only [vend, ne_eq, Nat.reduceEqDiff, reduceCtorEq]
      first | refine zk1 rfl (fun h => ?_) (fun h => ?_) | refine zk0 rfl (fun h => ?_) (fun h => ?_) | refine zk2 rfl (fun h => ?_) (fun h => ?_)
      ·first | refine zg1 ?_ | refine zg0 ?_ | refine zg2 ?_ | refine zg3 ?_
       simp -dsimp only [simprocAttr, ↓vpre, zp]
       refine at_intro ?_
       simp -dsimp only [vend, ne_eq, Nat.reduceEqDiff, reduceCtorEq]
       refine awp_ret ?_
       simp -dsimp only [simprocAttr, ↓vpre, zp, RetTo, Try.results39, retVals, retVal, mkRet, AVal.upto, Nat.zero_le, Nat.le_refl, seqPost_ret, blockPost_ret, loopPost_ret]
       rw [hb]
       exact ⟨by simp [uptoL, AVal.upto], rfl⟩
      ·cases h
     | none =>
      rw [hf] at he'
      have hput : putV (acc'.map entry) (.string c.name) (.agg [aI k, aI n, aI c.args.length]) = (acc' ++ [(c.name, (⟨k, n, c.args.length⟩ : K))]).map entry := put_entry acc' c.name ⟨k, n, c.args.length⟩ hf
      first | refine zg1 ?_ | refine zg0 ?_ | refine zg2 ?_ | refine zg3 ?_
      simp -dsimp only [simprocAttr, ↓vpre, zp, hf, Option.getD_some, Option.getD_none]
      refine at_intro ?_
      simp -dsimp only [vend, ne_eq, Nat.reduceEqDiff, reduceCtorEq]
      first | refine zg1 ?_ | refine zg0 ?_ | refine zg2 ?_ | refine zg3 ?_
      simp -dsimp only [simprocAttr, ↓vpre, zp]
      refine at_intro ?_
      simp -dsimp only [vend, ne_eq, Nat.reduceEqDiff, reduceCtorEq]
      first | refine zk1 rfl (fun h => ?_) (fun h => ?_) | refine zk0 rfl (fun h => ?_) (fun h => ?_) | refine zk2 rfl (fun h => ?_) (fun h => ?_)
      ·cases h
      ·refine awp_skip ?_
       simp -dsimp only [vend, ne_eq, Nat.reduceEqDiff, reduceCtorEq]
       first | refine zg1 ?_ | refine zg0 ?_ | refine zg2 ?_ | refine zg3 ?_
       simp -dsimp only [simprocAttr, ↓vpre, zp, hput]
       refine at_intro ?_
       simp -dsimp only [vend, ne_eq, Nat.reduceEqDiff, reduceCtorEq]
       refine awp_trunc' 4 [(22, eC d.cons), (23, aI d.cons.length), (24, aI n), (5, aI k), (14, eD datas), (15, aI datas.length), (16, aI k), (2, .mp 0 0), (4, .mp 2 0)] (by first | omega | (simp; done) | (simp; omega)) (by first | omega | (simp; done) | (simp; omega)) [.cells [.lst 3 [] .ex, .v (.map none)], .map .str ((acc' ++ [(c.name, (⟨k, n, c.args.length⟩ : K))]).map entry), .cells [.lst 3 (datas.map Data.enc) .sh, .mm 1], .cells [.v (.string d.name), .v (.int .i64 d.params), .lst 2 (d.cons.map Con.enc) .sh]] ?_ ?_ ?_ ?_ ?_
       ·rfl
       ·simp [AObj.upto, uptoL, AVal.upto, Data.map_upto, entry_upto, Con.map_upto]
        simpa using entry_upto 4 (acc' ++ [(c.name, (⟨k, n, c.args.length⟩ : K))])
       ·simp -dsimp only [simprocAttr, ↓vpre, zp, Says, exists_eq_left', Option.some.injEq, sub_self, and_true]
       ·simp [AVal.upto, uptoL, Data.map_upto, Con.map_upto]
       ·first | refine zg1 ?_ | refine zg0 ?_ | refine zg2 ?_ | refine zg3 ?_
        simp -dsimp only [simprocAttr, ↓vpre, zp]
        repeat (refine ⟨by omega, ?_⟩)
        refine at_intro ?_
        simp -dsimp only [vend, ne_eq, Nat.reduceEqDiff, reduceCtorEq]
        refine ⟨⟨(n + 1, acc' ++ [(c.name, (⟨k, n, c.args.length⟩ : K))]), hlt', he'⟩, by simp; omega, ?_⟩
        refine ⟨rfl, ?_, ?_⟩
        rotate_left
        simp -dsimp only [simprocAttr, ↓vpre, zp, Says, exists_eq_left', Option.some.injEq, sub_self, and_assoc, true_and, and_true]
        ·exact Sub.int (by simp)
        ·rfl
    ·refine awp_exit ?_
     simp -dsimp only [vend, ne_eq, Nat.reduceEqDiff, reduceCtorEq]
     have hnn : n = d.cons.length := by simp at h; omega
     subst hnn
     rw [List.drop_length, addCons] at he'
     refine awp_trunc' 3 [(14, eD datas), (15, aI datas.length), (16, aI k), (2, .mp 0 0), (4, .mp 2 0)] (by first | omega | (simp; done) | (simp; omega)) (by first | omega | (simp; done) | (simp; omega)) [.cells [.lst 3 [] .ex, .v (.map none)], .map .str (acc'.map entry), .cells [.lst 3 (datas.map Data.enc) .sh, .mm 1]] ?_ ?_ ?_ ?_ ?_
     ·rfl
     ·simp [AObj.upto, uptoL, AVal.upto, Data.map_upto, entry_upto]
     ·simp -dsimp only [simprocAttr, ↓vpre, zp, Says, exists_eq_left', Option.some.injEq, sub_self, and_true]
     ·simp [AVal.upto, uptoL, Data.map_upto]
     ·first | refine zg1 ?_ | refine zg0 ?_ | refine zg2 ?_ | refine zg3 ?_
      simp -dsimp only [simprocAttr, ↓vpre, zp]
      repeat (refine ⟨by omega, ?_⟩)
      refine at_intro ?_
      simp -dsimp only [vend, ne_eq, Nat.reduceEqDiff, reduceCtorEq]
      refine ⟨⟨(k + 1, acc'), hlt, he'⟩, by simp; omega, ?_⟩
      refine ⟨rfl, ?_, ?_⟩
      rotate_left
      simp -dsimp only [simprocAttr, ↓vpre, zp, Says, exists_eq_left', Option.some.injEq, sub_self, and_assoc, true_and, and_true]
      ·exact Sub.int (by simp)
      ·rfl
  ·refine awp_exit ?_
   simp -dsimp only [vend, ne_eq, Nat.reduceEqDiff, reduceCtorEq]
   have hkk : k = datas.length := by simp at h; omega
   subst hkk
   rw [List.drop_length, addDatas] at he
   have hb : build datas = some ⟨datas, acc⟩ := by rw [build, he]; rfl
   first | refine zg1 ?_ | refine zg0 ?_ | refine zg2 ?_ | refine zg3 ?_
   simp -dsimp only [simprocAttr, ↓vpre, zp]
   refine at_intro ?_
   simp -dsimp only [vend, ne_eq, Nat.reduceEqDiff, reduceCtorEq]
   refine awp_freeze_in 1 rfl (by simp [AObj.isSpare]) trivial [(2, .mp 0 0), (3, aI 0)] ?_ 0 (by omega) _ [.lst 3 (datas.map Data.enc) .sh, .im .str (acc.map entry)] rfl rfl ?_ ?_ ?_
   ·intro s y hy
    simp only [Go.Av.look] at hy
    split at hy
    ·cases hy
     rename_i e
     subst e
     exact ⟨_, rfl, .refl _⟩
    ·split at hy
     ·cases hy
      rename_i e
      subst e
      exact ⟨_, rfl, .refl _⟩
     ·cases hy
   ·simp [AVal.scalar]
   ·intro j c d hc hd
    match j, hc, hd with
    | 0, hc, hd =>
     cases hc
     cases hd
     exact .refl _
    | 1, hc, hd =>
     cases hc
     cases hd
     exact .mm rfl
   ·refine awp_ret ?_
    simp -dsimp only [simprocAttr, ↓vpre, zp, RetTo, Try.results39, retVals, retVal, mkRet, AVal.upto, Nat.zero_le, Nat.le_refl, seqPost_ret, blockPost_ret, loopPost_ret]
    rw [hb]
    exact ⟨by simp [uptoL, AVal.upto, Data.map_upto, entry_upto], rfl⟩

end Go.Proofs.Ytakdmelemfnmdaa
end

section
/-
  What missing and useful compute, as functions on trees; types of columns, values, and what it means that a row matches.
-/
set_option linter.unusedVariables false
namespace Go.Proofs.Ytakdmelemfnmdaa

mutual
/-- The weight of a pattern: what is free weighs nothing. -/
def Pat.wt : Pat → Nat
  | .mk k _ _ l => if k = 0 ∨ k = 1 then 0 else 1 + l.length + wtL l
def wtL : List Pat → Nat
  | [] => 0
  | p :: r => p.wt + wtL r
end

def wtR : List (List Pat) → Nat
  | [] => 0
  | r :: rs => wtL r + wtR rs

theorem Pat.free_iff (p : Pat) : p.free = true ↔ p.kind = 0 ∨ p.kind = 1 := by simp [Pat.free]

theorem Pat.wt_eq (p : Pat) : p.wt = if p.free then 0 else 1 + p.args.length + wtL p.args := by
  cases p with
  | mk k s n l =>
    have hf : (Pat.mk k s n l).free = true ↔ k = 0 ∨ k = 1 := Pat.free_iff _
    rw [Pat.wt]
    by_cases h : (Pat.mk k s n l).free = true
    · rw [if_pos h, if_pos (hf.1 h)]
    · rw [if_neg h, if_neg (fun e => h (hf.2 e))]
      rfl

theorem wtL_append : ∀ a b : List Pat, wtL (a ++ b) = wtL a + wtL b
  | [], b => by simp [wtL]
  | p :: a, b => by
    rw [List.cons_append, wtL, wtL, wtL_append a b]
    omega

theorem wtL_any (n : Nat) : wtL (List.replicate n Pat.any) = 0 := by
  induction n with
  | zero => rfl
  | succ n ih =>
    rw [List.replicate_succ, wtL, ih, Pat.wt_eq]
    rfl

theorem rests_wt : ∀ rows : List (List Pat), wtR (rests rows) ≤ wtR rows
  | [] => Nat.le_refl _
  | [] :: r => by
    have := rests_wt r
    simp only [rests, wtR]
    omega
  | (p :: x) :: r => by
    have := rests_wt r
    simp only [rests]
    split
    · simp only [wtR, wtL]
      omega
    · simp only [wtR]
      omega

theorem narrows_wt (s : ByteArray) (n : Nat) : ∀ rows : List (List Pat), wtR (narrows s n rows) ≤ wtR rows
  | [] => Nat.le_refl _
  | [] :: r => by
    have := narrows_wt s n r
    simp only [narrows, wtR]
    omega
  | (p :: x) :: r => by
    have := narrows_wt s n r
    have hp := p.wt_eq
    simp only [narrows]
    split
    · simp only [wtR, wtL, wtL_append, wtL_any]
      omega
    · split
      · rename_i h1 h2
        rw [if_neg h1] at hp
        simp only [wtR, wtL, wtL_append]
        omega
      · simp only [wtR]
        omega

/-- Where a pattern of this name stands in the first column, what is left weighs less. -/
theorem narrows_wt_lt (s : ByteArray) (n : Nat) : ∀ rows : List (List Pat), (∀ p ∈ firsts rows, p.name = s → p.args.length = n) → (∃ p ∈ firsts rows, p.name = s) → wtR (narrows s n rows) + 1 + n ≤ wtR rows
  | [], _, h => by
    obtain ⟨p, hp, _⟩ := h
    simp [firsts] at hp
  | [] :: r, h1, h2 => by
    have := narrows_wt_lt s n r (by simpa [firsts] using h1) (by simpa [firsts] using h2)
    simp only [narrows, wtR]
    omega
  | (p :: x) :: r, h1, h2 => by
    have hp := p.wt_eq
    simp only [narrows]
    simp only [firsts] at h1 h2
    split
    · rename_i hf
      rw [if_pos hf] at h1 h2
      have := narrows_wt_lt s n r h1 h2
      simp only [wtR, wtL, wtL_append, wtL_any]
      omega
    · rename_i hf
      rw [if_neg hf] at h1 h2 hp
      split
      · rename_i hs
        have hl := h1 p (by simp) hs
        have := narrows_wt s n r
        simp only [wtR, wtL, wtL_append]
        omega
      · rename_i hs
        have := narrows_wt_lt s n r (fun q hq => h1 q (by simp [hq])) (by
          obtain ⟨q, hq, e⟩ := h2
          rcases List.mem_cons.1 hq with rfl | hq
          · exact absurd e hs
          · exact ⟨q, hq, e⟩)
        simp only [wtR]
        omega

/-! The functions. -/

def missCons (g : Con → List Pat × Bool) : List Con → List Pat × Bool
  | [] => ([], false)
  | c :: r => if (g c).2 then (.mk 3 c.name 0 ((g c).1.take c.args.length) :: (g c).1.drop c.args.length, true) else missCons g r

def Tbl.missingF (t : Tbl) : Nat → List (List Pat) → Nat → List Pat × Bool
  | 0, _, _ => ([], false)
  | _ + 1, rows, 0 => ([], rows.isEmpty)
  | f + 1, rows, m + 1 => match t.absent (firsts rows) with
    | some p => (p :: (t.missingF f (rests rows) m).1, (t.missingF f (rests rows) m).2)
    | none => match firsts rows with
      | [] => ([], false)
      | p :: _ => match t.datas[(t.con p.name).data]? with
        | none => ([], false)
        | some d => missCons (fun c => t.missingF f (narrows c.name c.args.length rows) (c.args.length + m)) d.cons

def lefts (n : Int) : List (List Pat) → List (List Pat)
  | [] => []
  | [] :: r => lefts n r
  | (p :: x) :: r => if p.free || decide (p.n = n) then x :: lefts n r else lefts n r

def Tbl.usefulF (t : Tbl) : Nat → List (List Pat) → List Pat → Bool
  | 0, _, _ => false
  | _ + 1, rows, [] => rows.isEmpty
  | f + 1, rows, p :: x =>
    if p.kind = 3 then t.usefulF f (narrows p.name (t.con p.name).many rows) (p.args ++ x)
    else if p.kind = 2 then t.usefulF f (lefts p.n rows) x
    else match t.absent (firsts rows) with
      | some _ => t.usefulF f (rests rows) x
      | none => match firsts rows with
        | [] => false
        | q :: _ => match t.datas[(t.con q.name).data]? with
          | none => false
          | some d => d.cons.any fun c => t.usefulF f (narrows c.name c.args.length rows) (List.replicate c.args.length Pat.any ++ x)

/-! Types of columns. -/

inductive Ty where
  | any
  | int
  | data (i : Nat) (f : ByteArray → List Ty)

mutual
def HasTy (t : Tbl) : Pat → Ty → Prop
  | .mk k s _ l, ty => if k = 0 ∨ k = 1 then True else if k = 2 then ty = .int else k = 3 ∧ ∃ i f K, ty = .data i f ∧ find t.cons s = some K ∧ K.data = i ∧ HasTyL t l (f s)
def HasTyL (t : Tbl) : List Pat → List Ty → Prop
  | [], tys => tys = []
  | p :: r, tys => ∃ ty tys', tys = ty :: tys' ∧ HasTy t p ty ∧ HasTyL t r tys'
end

theorem HasTy_eq (t : Tbl) (p : Pat) (ty : Ty) : HasTy t p ty ↔ if p.free then True else if p.kind = 2 then ty = .int else p.kind = 3 ∧ ∃ i f K, ty = .data i f ∧ find t.cons p.name = some K ∧ K.data = i ∧ HasTyL t p.args (f p.name) := by
  cases p with
  | mk k s n l =>
    have hf : (Pat.mk k s n l).free = true ↔ k = 0 ∨ k = 1 := Pat.free_iff _
    rw [HasTy]
    by_cases h : (Pat.mk k s n l).free = true
    · rw [if_pos h, if_pos (hf.1 h)]
    · rw [if_neg h, if_neg (fun e => h (hf.2 e))]
      rfl

inductive WfTy (t : Tbl) : Ty → Prop
  | any : WfTy t .any
  | int : WfTy t .int
  | data {i : Nat} {f : ByteArray → List Ty} {d : Data} (hd : t.datas[i]? = some d) (hne : d.cons ≠ []) (hl : ∀ c ∈ d.cons, (f c.name).length = c.args.length) (hw : ∀ c ∈ d.cons, ∀ ty ∈ f c.name, WfTy t ty) : WfTy t (.data i f)

structure TblOK (t : Tbl) : Prop where
  back : ∀ s K, find t.cons s = some K → ∃ d c, t.datas[K.data]? = some d ∧ c ∈ d.cons ∧ c.name = s ∧ c.args.length = K.many
  uniq : ∀ i d c, t.datas[i]? = some d → c ∈ d.cons → ∃ K, find t.cons c.name = some K ∧ K.data = i ∧ K.many = c.args.length

/-! Values. -/

inductive Val where
  | blank
  | int (n : Int)
  | con (s : ByteArray) (args : List Val)

mutual
def mat : Pat → Val → Prop
  | .mk k s n l, v => if k = 0 ∨ k = 1 then True else if k = 2 then v = .int n else ∃ vs, v = .con s vs ∧ matL l vs
def matL : List Pat → List Val → Prop
  | [], vs => vs = []
  | p :: r, vs => ∃ v vs', vs = v :: vs' ∧ mat p v ∧ matL r vs'
end

theorem mat_eq (p : Pat) (v : Val) : mat p v ↔ if p.free then True else if p.kind = 2 then v = .int p.n else ∃ vs, v = .con p.name vs ∧ matL p.args vs := by
  cases p with
  | mk k s n l =>
    have hf : (Pat.mk k s n l).free = true ↔ k = 0 ∨ k = 1 := Pat.free_iff _
    rw [mat]
    by_cases h : (Pat.mk k s n l).free = true
    · rw [if_pos h, if_pos (hf.1 h)]
    · rw [if_neg h, if_neg (fun e => h (hf.2 e))]
      rfl

mutual
inductive Inh (t : Tbl) : Val → Ty → Prop
  | any : Inh t .blank .any
  | int (n : Int) : Inh t (.int n) .int
  | con {i : Nat} {f : ByteArray → List Ty} {d : Data} {c : Con} {vs : List Val} (hd : t.datas[i]? = some d) (hc : c ∈ d.cons) (h : InhL t vs (f c.name)) : Inh t (.con c.name vs) (.data i f)
inductive InhL (t : Tbl) : List Val → List Ty → Prop
  | nil : InhL t [] []
  | cons {v : Val} {ty : Ty} {vs : List Val} {tys : List Ty} (h : Inh t v ty) (k : InhL t vs tys) : InhL t (v :: vs) (ty :: tys)
end

theorem InhL.of_all {t : Tbl} : ∀ {tys : List Ty}, (∀ ty ∈ tys, ∃ v, Inh t v ty) → ∃ vs, InhL t vs tys
  | [], _ => ⟨[], .nil⟩
  | ty :: tys, h => by
    obtain ⟨v, hv⟩ := h ty (by simp)
    obtain ⟨vs, hvs⟩ := InhL.of_all (tys := tys) fun y hy => h y (by simp [hy])
    exact ⟨v :: vs, .cons hv hvs⟩

theorem InhL.append {t : Tbl} : ∀ {vs : List Val} {tys : List Ty} {us : List Val} {sys : List Ty}, InhL t vs tys → InhL t us sys → InhL t (vs ++ us) (tys ++ sys)
  | _, _, _, _, .nil, k => k
  | _, _, _, _, .cons h1 h2, k => .cons h1 (h2.append k)

theorem InhL.split {t : Tbl} : ∀ {tys sys : List Ty} {ws : List Val}, InhL t ws (tys ++ sys) → ∃ vs us, ws = vs ++ us ∧ InhL t vs tys ∧ InhL t us sys
  | [], _, ws, h => ⟨[], ws, rfl, .nil, h⟩
  | ty :: tys, sys, _, .cons h1 h2 => by
    obtain ⟨vs, us, rfl, k1, k2⟩ := InhL.split h2
    exact ⟨_ :: vs, us, rfl, .cons h1 k1, k2⟩

theorem InhL.len {t : Tbl} : ∀ {vs : List Val} {tys : List Ty}, InhL t vs tys → vs.length = tys.length
  | _, _, .nil => rfl
  | _, _, .cons _ h => by simp [h.len]

theorem WfTy.inh {t : Tbl} {ty : Ty} (h : WfTy t ty) : ∃ v, Inh t v ty := by
  induction h with
  | any => exact ⟨_, .any⟩
  | int => exact ⟨_, .int 0⟩
  | data hd hne hl hw ih =>
    rename_i i f d
    obtain ⟨c, hc⟩ : ∃ c, c ∈ d.cons := List.exists_mem_of_ne_nil _ hne
    obtain ⟨vs, hvs⟩ := InhL.of_all (ih c hc)
    exact ⟨_, .con hd hc hvs⟩

theorem matL_append : ∀ {a b : List Pat} {u v : List Val}, a.length = u.length → (matL (a ++ b) (u ++ v) ↔ matL a u ∧ matL b v)
  | [], b, [], v, _ => by simp [matL]
  | [], b, x :: u, v, h => by simp at h
  | p :: a, b, [], v, h => by simp at h
  | p :: a, b, x :: u, v, h => by
    have ih := matL_append (a := a) (b := b) (u := u) (v := v) (by simpa using h)
    simp only [List.cons_append, matL]
    constructor
    · rintro ⟨y, ys, e, h1, h2⟩
      cases e
      exact ⟨⟨x, u, rfl, h1, (ih.1 h2).1⟩, (ih.1 h2).2⟩
    · rintro ⟨⟨y, ys, e, h1, h2⟩, h3⟩
      cases e
      exact ⟨x, u ++ v, rfl, h1, ih.2 ⟨h2, h3⟩⟩

theorem matL_len : ∀ {a : List Pat} {u : List Val}, matL a u → a.length = u.length
  | [], u, h => by
    simp only [matL] at h
    subst h
    rfl
  | p :: a, u, h => by
    simp only [matL] at h
    obtain ⟨v, vs, rfl, _, h2⟩ := h
    simp [matL_len h2]

theorem mat_any (v : Val) : mat Pat.any v := by
  rw [mat_eq]
  simp [Pat.any, Pat.free, Pat.kind]

theorem matL_anys : ∀ {n : Nat} {u : List Val}, u.length = n → matL (List.replicate n Pat.any) u
  | 0, [], _ => by simp [matL]
  | 0, _ :: _, h => by simp at h
  | n + 1, [], h => by simp at h
  | n + 1, x :: u, h => by
    simp only [List.replicate_succ, matL]
    exact ⟨x, u, rfl, mat_any x, matL_anys (by simpa using h)⟩

/-- No row matches. -/
def Disj (rows : List (List Pat)) (vs : List Val) : Prop := ∀ r ∈ rows, ¬ matL r vs

theorem mem_firsts : ∀ {rows : List (List Pat)} {p : Pat}, p ∈ firsts rows ↔ p.free = false ∧ ∃ x, (p :: x) ∈ rows
  | [], p => by simp [firsts]
  | [] :: r, p => by simp [firsts, mem_firsts (rows := r)]
  | (q :: x) :: r, p => by
    simp only [firsts]
    have ih := mem_firsts (rows := r) (p := p)
    split
    · rename_i h
      rw [ih]
      constructor
      · rintro ⟨h1, y, hy⟩
        exact ⟨h1, y, by simp [hy]⟩
      · rintro ⟨h1, y, hy⟩
        rcases List.mem_cons.1 hy with e | hy
        · cases e
          rw [h] at h1
          cases h1
        · exact ⟨h1, y, hy⟩
    · rename_i h
      rw [List.mem_cons, ih]
      constructor
      · rintro (rfl | ⟨h1, y, hy⟩)
        · exact ⟨by simpa using h, x, by simp⟩
        · exact ⟨h1, y, by simp [hy]⟩
      · rintro ⟨h1, y, hy⟩
        rcases List.mem_cons.1 hy with e | hy
        · cases e
          exact .inl rfl
        · exact .inr ⟨h1, y, hy⟩

theorem mem_rests : ∀ {rows : List (List Pat)} {x : List Pat}, x ∈ rests rows ↔ ∃ p : Pat, p.free = true ∧ (p :: x) ∈ rows
  | [], x => by simp [rests]
  | [] :: r, x => by simp [rests, mem_rests (rows := r)]
  | (q :: y) :: r, x => by
    simp only [rests]
    have ih := mem_rests (rows := r) (x := x)
    split
    · rename_i h
      rw [List.mem_cons, ih]
      constructor
      · rintro (rfl | ⟨p, h1, h2⟩)
        · exact ⟨q, h, by simp⟩
        · exact ⟨p, h1, by simp [h2]⟩
      · rintro ⟨p, h1, h2⟩
        rcases List.mem_cons.1 h2 with e | h2
        · cases e
          exact .inl rfl
        · exact .inr ⟨p, h1, h2⟩
    · rename_i h
      rw [ih]
      constructor
      · rintro ⟨p, h1, h2⟩
        exact ⟨p, h1, by simp [h2]⟩
      · rintro ⟨p, h1, h2⟩
        rcases List.mem_cons.1 h2 with e | h2
        · cases e
          exact absurd h1 h
        · exact ⟨p, h1, h2⟩

theorem mem_narrows {s : ByteArray} {n : Nat} : ∀ {rows : List (List Pat)} {y : List Pat}, y ∈ narrows s n rows ↔ ∃ p x, (p :: x) ∈ rows ∧ (p.free = true ∧ y = List.replicate n Pat.any ++ x ∨ p.free = false ∧ p.name = s ∧ y = p.args ++ x)
  | [], y => by simp [narrows]
  | [] :: r, y => by simp [narrows, mem_narrows (rows := r)]
  | (q :: z) :: r, y => by
    have ih := mem_narrows (rows := r) (y := y) (s := s) (n := n)
    have key : (∃ p x, (p :: x) ∈ (q :: z) :: r ∧ (p.free = true ∧ y = List.replicate n Pat.any ++ x ∨ p.free = false ∧ p.name = s ∧ y = p.args ++ x)) ↔ (q.free = true ∧ y = List.replicate n Pat.any ++ z ∨ q.free = false ∧ q.name = s ∧ y = q.args ++ z) ∨ y ∈ narrows s n r := by
      rw [ih]
      constructor
      · rintro ⟨p, x, h1, h2⟩
        rcases List.mem_cons.1 h1 with e | h1
        · cases e
          exact .inl h2
        · exact .inr ⟨p, x, h1, h2⟩
      · rintro (h | ⟨p, x, h1, h2⟩)
        · exact ⟨q, z, by simp, h⟩
        · exact ⟨p, x, by simp [h1], h2⟩
    rw [key]
    simp only [narrows]
    split
    · rename_i h
      rw [List.mem_cons]
      simp [h]
    · rename_i h
      have h' : q.free = false := by simpa using h
      split
      · rename_i h2
        rw [List.mem_cons]
        simp [h', h2]
      · rename_i h2
        simp [h', h2]

theorem mem_lefts {n : Int} : ∀ {rows : List (List Pat)} {x : List Pat}, x ∈ lefts n rows ↔ ∃ p : Pat, (p.free = true ∨ p.n = n) ∧ (p :: x) ∈ rows
  | [], x => by simp [lefts]
  | [] :: r, x => by simp [lefts, mem_lefts (rows := r)]
  | (q :: y) :: r, x => by
    simp only [lefts]
    have ih := mem_lefts (rows := r) (x := x) (n := n)
    split
    · rename_i h
      rw [List.mem_cons, ih]
      constructor
      · rintro (rfl | ⟨p, h1, h2⟩)
        · exact ⟨q, by simpa using h, by simp⟩
        · exact ⟨p, h1, by simp [h2]⟩
      · rintro ⟨p, h1, h2⟩
        rcases List.mem_cons.1 h2 with e | h2
        · cases e
          exact .inl rfl
        · exact .inr ⟨p, h1, h2⟩
    · rename_i h
      rw [ih]
      constructor
      · rintro ⟨p, h1, h2⟩
        exact ⟨p, h1, by simp [h2]⟩
      · rintro ⟨p, h1, h2⟩
        rcases List.mem_cons.1 h2 with e | h2
        · cases e
          exact absurd (by simpa using h1) h
        · exact ⟨p, h1, h2⟩

end Go.Proofs.Ytakdmelemfnmdaa
end

section
/-
  What missing finds: a list of patterns all of whose values no row matches; and it finds one, if there are such values of the columns' types.
-/
set_option linter.unusedVariables false
namespace Go.Proofs.Ytakdmelemfnmdaa

theorem nextN_fresh (l : List Pat) : ∀ (f n : Nat), l.any (fun p => decide (p.n = (nextN l n f : Int))) = false ∨ ∀ j : Nat, n ≤ j → j < n + f → (j : Int) ∈ l.map Pat.n
  | 0, n => .inr fun j h1 h2 => by omega
  | f + 1, n => by
    rw [nextN]
    by_cases h : l.any (fun p => decide (p.n = (n : Int))) = true
    · rw [if_pos h]
      rcases nextN_fresh l f (n + 1) with h1 | h1
      · exact .inl h1
      · refine .inr fun j h2 h3 => ?_
        by_cases e : j = n
        · subst e
          obtain ⟨q, hq, e⟩ := List.any_eq_true.1 h
          exact List.mem_map.2 ⟨q, hq, by simpa using e⟩
        · exact h1 j (by omega) (by omega)
    · rw [if_neg h]
      exact .inl (by simpa using h)

theorem nextN_new (l : List Pat) (p : Pat) (hp : p ∈ l) : p.n ≠ (nextN l 0 (l.length + 1) : Int) := by
  rcases nextN_fresh l (l.length + 1) 0 with h | h
  · intro e
    have : l.any (fun p => decide (p.n = (nextN l 0 (l.length + 1) : Int))) = true := List.any_eq_true.2 ⟨p, hp, by simpa using e⟩
    rw [this] at h
    cases h
  · have := pigeon (l.length + 1) (l.map Pat.n) fun j hj => h j (Nat.zero_le _) (by omega)
    simp at this
    omega

theorem absentCon_some : ∀ {l : List Pat} {cs : List Con} {c : Con}, absentCon l cs = some c → c ∈ cs ∧ ∀ p ∈ l, p.name ≠ c.name
  | l, [], c, h => by cases h
  | l, c0 :: r, c, h => by
    rw [absentCon] at h
    split at h
    · obtain ⟨h1, h2⟩ := absentCon_some h
      exact ⟨by simp [h1], h2⟩
    · rename_i hn
      cases h
      refine ⟨by simp, fun p hp e => hn ?_⟩
      exact List.any_eq_true.2 ⟨p, hp, by simpa using e⟩

theorem absentCon_none : ∀ {l : List Pat} {cs : List Con}, absentCon l cs = none → ∀ c ∈ cs, ∃ p ∈ l, p.name = c.name
  | l, [], h, c, hc => by cases hc
  | l, c0 :: r, h, c, hc => by
    rw [absentCon] at h
    split at h
    · rename_i hn
      rcases List.mem_cons.1 hc with rfl | hc
      · obtain ⟨p, hp, e⟩ := List.any_eq_true.1 hn
        exact ⟨p, hp, by simpa using e⟩
      · exact absentCon_none h c hc
    · cases h

/-- What is known where a constructor pattern stands. -/
theorem HasTy.con {t : Tbl} {p : Pat} {ty : Ty} (h : HasTy t p ty) (hf : p.free = false) (h2 : ¬ p.kind = 2) : p.kind = 3 ∧ ∃ i f K, ty = .data i f ∧ find t.cons p.name = some K ∧ K.data = i ∧ HasTyL t p.args (f p.name) := by
  rw [HasTy_eq, if_neg (by simp [hf]), if_neg h2] at h
  exact h

theorem HasTy.int {t : Tbl} {p : Pat} {ty : Ty} (h : HasTy t p ty) (hf : p.free = false) (h2 : p.kind = 2) : ty = .int := by
  rw [HasTy_eq, if_neg (by simp [hf]), if_pos h2] at h
  exact h

/-- What the absent value tells. -/
inductive AbsOut (t : Tbl) (l : List Pat) (ty : Ty) : Prop
  | some (q : Pat) (hq : t.absent l = some q) (h1 : ∃ v, Inh t v ty ∧ ∀ p ∈ l, ¬ mat p v) (h2 : ∀ v, mat q v → ∀ p ∈ l, ¬ mat p v)
  | none (hq : t.absent l = none) (i : Nat) (f : ByteArray → List Ty) (d : Data) (p : Pat) (r : List Pat) (hl : l = p :: r) (ht : ty = .data i f) (hd : t.datas[i]? = some d) (hp : (t.con p.name).data = i)
      (hall : ∀ c ∈ d.cons, ∃ p ∈ l, p.name = c.name) (h3 : ∀ p ∈ l, p.kind = 3)

theorem absent_out {t : Tbl} (hT : TblOK t) {ty : Ty} (hw : WfTy t ty) {l : List Pat} (h : ∀ p ∈ l, p.free = false ∧ HasTy t p ty) : AbsOut t l ty := by
  cases l with
  | nil =>
    obtain ⟨v, hv⟩ := hw.inh
    exact .some Pat.any rfl ⟨v, hv, by simp⟩ (by simp)
  | cons p r =>
    obtain ⟨hf, hp⟩ := h p (by simp)
    by_cases h2 : p.kind = 2
    · have hty := hp.int hf h2
      subst hty
      have hall : ∀ q ∈ p :: r, q.kind = 2 := fun q hq => by
        obtain ⟨k1, k2⟩ := h q hq
        by_cases e : q.kind = 2
        · exact e
        · obtain ⟨_, i, f, K, e, _⟩ := k2.con k1 e
          cases e
      have hne : ∀ q ∈ p :: r, ∀ v, v = .int (nextN (p :: r) 0 ((p :: r).length + 1)) → ¬ mat q v := fun q hq v hv hm => by
        rw [mat_eq, if_neg (by simp [(h q hq).1]), if_pos (hall q hq), hv] at hm
        simp only [Val.int.injEq] at hm
        exact nextN_new _ q hq hm.symm
      refine .some (.mk 2 ByteArray.empty (nextN (p :: r) 0 ((p :: r).length + 1)) []) (by rw [Tbl.absent, if_pos h2]) ⟨_, .int _, fun q hq => hne q hq _ rfl⟩ fun v hm q hq => hne q hq v ?_
      rw [mat_eq] at hm
      simpa [Pat.free, Pat.kind, Pat.n] using hm
    · obtain ⟨h3, i, f, K, rfl, hK, hi, _⟩ := hp.con hf h2
      have hcon : t.con p.name = K := by rw [Tbl.con, hK]; rfl
      obtain ⟨d, c, hd, hc, _, _⟩ := hT.back _ _ hK
      have hall : ∀ q ∈ p :: r, q.kind = 3 := fun q hq => by
        obtain ⟨k1, k2⟩ := h q hq
        by_cases e : q.kind = 2
        · have := k2.int k1 e
          cases this
        · exact (k2.con k1 e).1
      have hab : t.absent (p :: r) = (absentCon (p :: r) d.cons).map fun c => .mk 3 c.name 0 (List.replicate c.args.length Pat.any) := by
        rw [Tbl.absent, if_neg h2, hcon, hd]
      cases hac : absentCon (p :: r) d.cons with
      | some c =>
        obtain ⟨k1, k2⟩ := absentCon_some hac
        have hne : ∀ q ∈ p :: r, ∀ vs, ¬ mat q (.con c.name vs) := fun q hq vs hm => by
          have h3 := hall q hq
          rw [mat_eq, if_neg (by simp [(h q hq).1]), if_neg (by omega)] at hm
          obtain ⟨vs', e, _⟩ := hm
          simp only [Val.con.injEq] at e
          exact k2 q hq e.1.symm
        refine .some (.mk 3 c.name 0 (List.replicate c.args.length Pat.any)) (by rw [hab, hac]; rfl) ?_ ?_
        · cases hw with
          | data hd' hne' hl' hw' =>
            rw [← hi, hd] at hd'
            simp only [Option.some.injEq] at hd'
            subst hd'
            obtain ⟨vs, hvs⟩ := InhL.of_all fun ty hty => (hw' c k1 ty hty).inh
            exact ⟨_, .con (hi ▸ hd) k1 hvs, fun q hq => hne q hq vs⟩
        · intro v hm q hq
          rw [mat_eq] at hm
          simp only [Pat.free, Pat.kind, Pat.name, Pat.args] at hm
          obtain ⟨vs, rfl, _⟩ := hm
          exact hne q hq vs
      | none =>
        exact .none (by rw [hab, hac]; rfl) i f d p r rfl rfl (hi ▸ hd) (by rw [hcon, hi]) (absentCon_none hac) hall

/-! How the rows of the parts match. -/

theorem disj_rests {rows : List (List Pat)} {v : Val} {vs : List Val} (h : Disj rows (v :: vs)) : Disj (rests rows) vs := fun x hx hm => by
  obtain ⟨p, h1, h2⟩ := mem_rests.1 hx
  exact h _ h2 (by
    simp only [matL]
    exact ⟨v, vs, rfl, by rw [mat_eq, if_pos h1]; trivial, hm⟩)

theorem disj_rests_of {rows : List (List Pat)} {v : Val} {vs : List Val} (hv : ∀ p ∈ firsts rows, ¬ mat p v) (h : Disj (rests rows) vs) : Disj rows (v :: vs) := fun r hr hm => by
  cases r with
  | nil =>
    simp only [matL] at hm
    cases hm
  | cons p x =>
    simp only [matL] at hm
    obtain ⟨v', vs', e, h1, h2⟩ := hm
    cases e
    by_cases hf : p.free = true
    · exact h x (mem_rests.2 ⟨p, hf, hr⟩) h2
    · exact hv p (mem_firsts.2 ⟨by simpa using hf, x, hr⟩) h1

theorem disj_narrows {rows : List (List Pat)} {s : ByteArray} {us vs : List Val} (h : ∀ p ∈ firsts rows, p.kind = 3 ∧ (p.name = s → p.args.length = us.length)) : Disj rows (.con s us :: vs) ↔ Disj (narrows s us.length rows) (us ++ vs) := by
  constructor
  · intro hd y hy hm
    obtain ⟨p, x, h1, h2⟩ := mem_narrows.1 hy
    refine hd _ h1 ?_
    simp only [matL]
    rcases h2 with ⟨hf, rfl⟩ | ⟨hf, hs, rfl⟩
    · exact ⟨_, vs, rfl, by rw [mat_eq, if_pos hf]; trivial, ((matL_append (by simp)).1 hm).2⟩
    · obtain ⟨h3, h4⟩ := h p (mem_firsts.2 ⟨hf, x, h1⟩)
      obtain ⟨k1, k2⟩ := (matL_append (h4 hs)).1 hm
      exact ⟨_, vs, rfl, by rw [mat_eq, if_neg (by simp [hf]), if_neg (by omega)]; exact ⟨us, by rw [hs], k1⟩, k2⟩
  · intro hd r hr hm
    cases r with
    | nil =>
      simp only [matL] at hm
      cases hm
    | cons p x =>
      simp only [matL] at hm
      obtain ⟨v', vs', e, h1, h2⟩ := hm
      cases e
      by_cases hf : p.free = true
      · exact hd _ (mem_narrows.2 ⟨p, x, hr, .inl ⟨hf, rfl⟩⟩) ((matL_append (by simp)).2 ⟨matL_anys rfl, h2⟩)
      · obtain ⟨h3, h4⟩ := h p (mem_firsts.2 ⟨by simpa using hf, x, hr⟩)
        rw [mat_eq, if_neg hf, if_neg (by omega)] at h1
        obtain ⟨us', e, h5⟩ := h1
        simp only [Val.con.injEq] at e
        obtain ⟨e1, rfl⟩ := e
        exact hd _ (mem_narrows.2 ⟨p, x, hr, .inr ⟨by simpa using hf, e1.symm, rfl⟩⟩) ((matL_append (h4 e1.symm)).2 ⟨h5, h2⟩)

theorem disj_lefts {rows : List (List Pat)} {n : Int} {vs : List Val} (h : ∀ p ∈ firsts rows, p.kind = 2) : Disj rows (.int n :: vs) ↔ Disj (lefts n rows) vs := by
  constructor
  · intro hd x hx hm
    obtain ⟨p, h1, h2⟩ := mem_lefts.1 hx
    refine hd _ h2 ?_
    simp only [matL]
    refine ⟨_, vs, rfl, ?_, hm⟩
    by_cases hf : p.free = true
    · rw [mat_eq, if_pos hf]
      trivial
    · rw [mat_eq, if_neg hf, if_pos (h p (mem_firsts.2 ⟨by simpa using hf, x, h2⟩))]
      rcases h1 with h1 | h1
      · exact absurd h1 hf
      · rw [h1]
  · intro hd r hr hm
    cases r with
    | nil =>
      simp only [matL] at hm
      cases hm
    | cons p x =>
      simp only [matL] at hm
      obtain ⟨v', vs', e, h1, h2⟩ := hm
      cases e
      by_cases hf : p.free = true
      · exact hd _ (mem_lefts.2 ⟨p, .inl hf, hr⟩) h2
      · rw [mat_eq, if_neg hf, if_pos (h p (mem_firsts.2 ⟨by simpa using hf, x, hr⟩))] at h1
        simp only [Val.int.injEq] at h1
        exact hd _ (mem_lefts.2 ⟨p, .inr h1.symm, hr⟩) h2

/-! Types of the parts. -/

def TypedR (t : Tbl) (rows : List (List Pat)) (tys : List Ty) : Prop := ∀ r ∈ rows, HasTyL t r tys

theorem HasTyL.append {t : Tbl} : ∀ {a b : List Pat} {ta tb : List Ty}, HasTyL t a ta → HasTyL t b tb → HasTyL t (a ++ b) (ta ++ tb)
  | [], b, ta, tb, h, k => by
    simp only [HasTyL] at h
    subst h
    exact k
  | p :: a, b, ta, tb, h, k => by
    simp only [HasTyL] at h
    obtain ⟨ty, tys, rfl, h1, h2⟩ := h
    simp only [List.cons_append, HasTyL]
    exact ⟨ty, tys ++ tb, rfl, h1, h2.append k⟩

theorem HasTyL.anys {t : Tbl} : ∀ {tys : List Ty}, HasTyL t (List.replicate tys.length Pat.any) tys
  | [] => by simp [HasTyL]
  | ty :: tys => by
    simp only [List.length_cons, List.replicate_succ, HasTyL]
    exact ⟨ty, tys, rfl, by rw [HasTy_eq]; simp [Pat.any, Pat.free, Pat.kind], HasTyL.anys⟩

theorem HasTyL.len {t : Tbl} : ∀ {a : List Pat} {ta : List Ty}, HasTyL t a ta → a.length = ta.length
  | [], ta, h => by
    simp only [HasTyL] at h
    subst h
    rfl
  | p :: a, ta, h => by
    simp only [HasTyL] at h
    obtain ⟨ty, tys, rfl, h1, h2⟩ := h
    simp [h2.len]

theorem TypedR.firsts {t : Tbl} {rows : List (List Pat)} {ty : Ty} {tys : List Ty} (h : TypedR t rows (ty :: tys)) : ∀ p ∈ firsts rows, p.free = false ∧ HasTy t p ty := fun p hp => by
  obtain ⟨h1, x, hx⟩ := mem_firsts.1 hp
  have := h _ hx
  simp only [HasTyL] at this
  obtain ⟨ty', tys', e, h2, _⟩ := this
  cases e
  exact ⟨h1, h2⟩

theorem TypedR.rests {t : Tbl} {rows : List (List Pat)} {ty : Ty} {tys : List Ty} (h : TypedR t rows (ty :: tys)) : TypedR t (rests rows) tys := fun x hx => by
  obtain ⟨p, _, hp⟩ := mem_rests.1 hx
  have := h _ hp
  simp only [HasTyL] at this
  obtain ⟨ty', tys', e, _, h2⟩ := this
  cases e
  exact h2

theorem TypedR.lefts {t : Tbl} {rows : List (List Pat)} {ty : Ty} {tys : List Ty} (h : TypedR t rows (ty :: tys)) (n : Int) : TypedR t (lefts n rows) tys := fun x hx => by
  obtain ⟨p, _, hp⟩ := mem_lefts.1 hx
  have := h _ hp
  simp only [HasTyL] at this
  obtain ⟨ty', tys', e, _, h2⟩ := this
  cases e
  exact h2

theorem TypedR.narrows {t : Tbl} {rows : List (List Pat)} {i : Nat} {f : ByteArray → List Ty} {tys : List Ty} (h : TypedR t rows (.data i f :: tys)) (s : ByteArray) : TypedR t (narrows s (f s).length rows) (f s ++ tys) := fun y hy => by
  obtain ⟨p, x, h1, h2⟩ := mem_narrows.1 hy
  have := h _ h1
  simp only [HasTyL] at this
  obtain ⟨ty', tys', e, h3, h4⟩ := this
  cases e
  rcases h2 with ⟨_, rfl⟩ | ⟨hf, hs, rfl⟩
  · exact HasTyL.anys.append h4
  · by_cases e2 : p.kind = 2
    · have := h3.int hf e2
      cases this
    · obtain ⟨_, i', f', K, e, _, _, h5⟩ := h3.con hf e2
      cases e
      rw [hs] at h5
      exact h5.append h4

/-- In a column of a data type the patterns of a constructor have as many fields as it has. -/
theorem TypedR.con {t : Tbl} (hT : TblOK t) {rows : List (List Pat)} {i : Nat} {f : ByteArray → List Ty} {tys : List Ty} (h : TypedR t rows (.data i f :: tys)) (hw : WfTy t (.data i f)) {d : Data} (hd : t.datas[i]? = some d) {c : Con} (hc : c ∈ d.cons) :
    (f c.name).length = c.args.length ∧ ∀ p ∈ Go.Proofs.Ytakdmelemfnmdaa.firsts rows, p.kind = 3 ∧ (p.name = c.name → p.args.length = c.args.length) := by
  have hl : (f c.name).length = c.args.length := by
    cases hw with
    | data hd' hne' hl' hw' =>
      rw [hd] at hd'
      cases hd'
      exact hl' c hc
  refine ⟨hl, fun p hp => ?_⟩
  obtain ⟨h1, h2⟩ := h.firsts p hp
  by_cases e2 : p.kind = 2
  · have := h2.int h1 e2
    cases this
  · obtain ⟨h3, i', f', K, e, _, _, h5⟩ := h2.con h1 e2
    cases e
    exact ⟨h3, fun e => by rw [e] at h5; rw [h5.len, hl]⟩

def WfL (t : Tbl) (tys : List Ty) : Prop := ∀ ty ∈ tys, WfTy t ty

theorem WfL.con {t : Tbl} {i : Nat} {f : ByteArray → List Ty} {tys : List Ty} (h : WfL t (.data i f :: tys)) {d : Data} (hd : t.datas[i]? = some d) {c : Con} (hc : c ∈ d.cons) : WfL t (f c.name ++ tys) := fun ty hty => by
  rcases List.mem_append.1 hty with hty | hty
  · have := h (.data i f) (by simp)
    cases this with
    | data hd' hne' hl' hw' =>
      rw [hd] at hd'
      cases hd'
      exact hw' c hc ty hty
  · exact h ty (by simp [hty])

/-! missing -/

theorem missCons_true {g : Con → List Pat × Bool} : ∀ {l : List Con}, (missCons g l).2 = true → ∃ c ∈ l, (g c).2 = true ∧ (missCons g l).1 = .mk 3 c.name 0 ((g c).1.take c.args.length) :: (g c).1.drop c.args.length
  | [], h => by cases h
  | c :: r, h => by
    rw [missCons] at h ⊢
    split
    · rename_i hc
      exact ⟨c, by simp, hc, rfl⟩
    · rename_i hc
      rw [if_neg hc] at h
      obtain ⟨c', h1, h2, h3⟩ := missCons_true h
      exact ⟨c', by simp [h1], h2, h3⟩

theorem missCons_of {g : Con → List Pat × Bool} : ∀ {l : List Con} {c : Con}, c ∈ l → (g c).2 = true → (missCons g l).2 = true
  | c0 :: r, c, hc, h => by
    rw [missCons]
    split
    · rfl
    · rename_i hn
      rcases List.mem_cons.1 hc with rfl | hc
      · exact absurd h hn
      · exact missCons_of hc h

/-- What missing gives. -/
theorem missing_main {t : Tbl} (hT : TblOK t) : ∀ (fu : Nat) (rows : List (List Pat)) (tys : List Ty), wtR rows + tys.length < fu → TypedR t rows tys → WfL t tys →
    ((t.missingF fu rows tys.length).2 = true ↔ ∃ vs, InhL t vs tys ∧ Disj rows vs) ∧
    ((t.missingF fu rows tys.length).2 = true → (t.missingF fu rows tys.length).1.length = tys.length ∧ ∀ vs, matL (t.missingF fu rows tys.length).1 vs → Disj rows vs)
  | 0, rows, tys, h, _, _ => by omega
  | fu + 1, rows, [], _, hty, _ => by
    have e : t.missingF (fu + 1) rows ([] : List Ty).length = ([], rows.isEmpty) := rfl
    rw [e]
    refine ⟨⟨fun h => ⟨[], .nil, fun r hr => ?_⟩, fun ⟨vs, h1, h2⟩ => ?_⟩, fun h => ⟨rfl, fun vs _ r hr => ?_⟩⟩
    · have : rows = [] := List.isEmpty_iff.1 h
      rw [this] at hr
      cases hr
    · cases h1
      cases rows with
      | nil => rfl
      | cons r rows =>
        have h3 := hty r (by simp)
        cases r with
        | nil => exact absurd (by simp [matL]) (h2 [] (by simp))
        | cons p x =>
          simp only [HasTyL] at h3
          obtain ⟨_, _, e, _⟩ := h3
          cases e
    · have : rows = [] := List.isEmpty_iff.1 h
      rw [this] at hr
      cases hr
  | fu + 1, rows, ty :: tys, hfu, hty, hw => by
    simp only [List.length_cons] at hfu
    have hwt : WfTy t ty := hw ty (by simp)
    have hwl : WfL t tys := fun y hy => hw y (by simp [hy])
    cases absent_out hT hwt hty.firsts with
    | some q hq h1 h2 =>
      have hr := rests_wt rows
      obtain ⟨ih1, ih2⟩ := missing_main hT fu (rests rows) tys (by omega) hty.rests hwl
      have e : t.missingF (fu + 1) rows (ty :: tys).length = (q :: (t.missingF fu (rests rows) tys.length).1, (t.missingF fu (rests rows) tys.length).2) := by
        rw [List.length_cons, Tbl.missingF, hq]
      rw [e]
      refine ⟨⟨fun h => ?_, fun ⟨vs, k1, k2⟩ => ?_⟩, fun h => ?_⟩
      · obtain ⟨vs, k1, k2⟩ := ih1.1 h
        obtain ⟨v, hv, hn⟩ := h1
        exact ⟨v :: vs, .cons hv k1, disj_rests_of hn k2⟩
      · cases k1 with
        | cons k3 k4 => exact ih1.2 ⟨_, k4, disj_rests k2⟩
      · obtain ⟨k1, k2⟩ := ih2 h
        refine ⟨by simp [k1], fun vs hm => ?_⟩
        simp only [matL] at hm
        obtain ⟨v, vs', rfl, h3, h4⟩ := hm
        exact disj_rests_of (h2 v h3) (k2 vs' h4)
    | none hq i f d p r hl ht hd hp hall h3 =>
      subst ht
      have e : t.missingF (fu + 1) rows (Ty.data i f :: tys).length = missCons (fun c => t.missingF fu (narrows c.name c.args.length rows) (c.args.length + tys.length)) d.cons := by
        rw [List.length_cons, Tbl.missingF, hq, hl]
        simp only [hp, hd]
      have key : ∀ c ∈ d.cons, ((t.missingF fu (narrows c.name c.args.length rows) (c.args.length + tys.length)).2 = true ↔ ∃ vs, InhL t vs (f c.name ++ tys) ∧ Disj (narrows c.name c.args.length rows) vs) ∧
          ((t.missingF fu (narrows c.name c.args.length rows) (c.args.length + tys.length)).2 = true → (t.missingF fu (narrows c.name c.args.length rows) (c.args.length + tys.length)).1.length = c.args.length + tys.length ∧
            ∀ vs, matL (t.missingF fu (narrows c.name c.args.length rows) (c.args.length + tys.length)).1 vs → Disj (narrows c.name c.args.length rows) vs) := fun c hc => by
        obtain ⟨k1, k2⟩ := hty.con hT hwt hd hc
        have k3 := narrows_wt_lt c.name c.args.length rows (fun p hp => (k2 p hp).2) (hall c hc)
        have k4 := hty.narrows c.name
        rw [k1] at k4
        have := missing_main hT fu (narrows c.name c.args.length rows) (f c.name ++ tys) (by rw [List.length_append, k1]; omega) k4 (hw.con hd hc)
        rw [List.length_append, k1] at this
        exact this
      have hdis : ∀ c ∈ d.cons, ∀ us vs : List Val, us.length = c.args.length → (Disj rows (.con c.name us :: vs) ↔ Disj (narrows c.name c.args.length rows) (us ++ vs)) := fun c hc us vs hu => by
        rw [← hu]
        exact disj_narrows fun p hp => by
          rw [hu]
          exact (hty.con hT hwt hd hc).2 p hp
      rw [e]
      refine ⟨⟨fun h => ?_, fun ⟨vs, k1, k2⟩ => ?_⟩, fun h => ?_⟩
      · obtain ⟨c, hc, h4, _⟩ := missCons_true h
        obtain ⟨ws, k1, k2⟩ := ((key c hc).1).1 h4
        obtain ⟨us, vs, rfl, k3, k4⟩ := k1.split
        exact ⟨.con c.name us :: vs, .cons (.con hd hc k3) k4, (hdis c hc us vs (by rw [k3.len, (hty.con hT hwt hd hc).1])).2 k2⟩
      · cases k1 with
        | cons k3 k4 =>
          cases k3 with
          | con hd' hc k5 =>
            rw [hd] at hd'
            cases hd'
            refine missCons_of hc (((key _ hc).1).2 ⟨_, k5.append k4, ?_⟩)
            exact (hdis _ hc _ _ (by rw [k5.len, (hty.con hT hwt hd hc).1])).1 k2
      · obtain ⟨c, hc, h4, h5⟩ := missCons_true h
        obtain ⟨k1, k2⟩ := (key c hc).2 h4
        rw [h5]
        refine ⟨by simp [k1], fun vs hm => ?_⟩
        simp only [matL] at hm
        obtain ⟨v, vs', rfl, h6, h7⟩ := hm
        rw [mat_eq] at h6
        simp only [Pat.free, Pat.kind, Pat.name, Pat.args] at h6
        obtain ⟨us, rfl, h8⟩ := h6
        have hu : us.length = c.args.length := by
          have := matL_len h8
          simp [k1] at this
          omega
        refine (hdis c hc us vs' hu).2 (k2 _ ?_)
        have := (matL_append (a := (t.missingF fu (narrows c.name c.args.length rows) (c.args.length + tys.length)).1.take c.args.length) (b := (t.missingF fu (narrows c.name c.args.length rows) (c.args.length + tys.length)).1.drop c.args.length) (u := us) (v := vs') (matL_len h8)).2 ⟨h8, h7⟩
        rw [List.take_append_drop] at this
        exact this

end Go.Proofs.Ytakdmelemfnmdaa
end

section
/-
  What useful tells: there is a list of values of the columns' types that the row matches and none of the others.
-/
set_option linter.unusedVariables false
namespace Go.Proofs.Ytakdmelemfnmdaa

theorem lefts_wt (n : Int) : ∀ rows : List (List Pat), wtR (lefts n rows) ≤ wtR rows
  | [] => Nat.le_refl _
  | [] :: r => by
    have := lefts_wt n r
    simp only [lefts, wtR]
    omega
  | (p :: x) :: r => by
    have := lefts_wt n r
    simp only [lefts]
    split
    · simp only [wtR, wtL]
      omega
    · simp only [wtR]
      omega

theorem useful_main {t : Tbl} (hT : TblOK t) : ∀ (fu : Nat) (rows : List (List Pat)) (row : List Pat) (tys : List Ty), wtR rows + wtL row + row.length < fu → TypedR t rows tys → HasTyL t row tys → WfL t tys →
    (t.usefulF fu rows row = true ↔ ∃ vs, InhL t vs tys ∧ matL row vs ∧ Disj rows vs)
  | 0, rows, row, tys, h, _, _, _ => by omega
  | fu + 1, rows, [], tys, _, hty, hrow, _ => by
    simp only [HasTyL] at hrow
    subst hrow
    rw [Tbl.usefulF]
    refine ⟨fun h => ⟨[], .nil, by simp [matL], fun r hr => ?_⟩, fun ⟨vs, h1, _, h2⟩ => ?_⟩
    · have : rows = [] := List.isEmpty_iff.1 h
      rw [this] at hr
      cases hr
    · cases h1
      cases rows with
      | nil => rfl
      | cons r rows =>
        have h3 := hty r (by simp)
        cases r with
        | nil => exact absurd (by simp [matL]) (h2 [] (by simp))
        | cons p x =>
          simp only [HasTyL] at h3
          obtain ⟨_, _, e, _⟩ := h3
          cases e
  | fu + 1, rows, p :: x, tys0, hfu, hty, hrow, hw => by
    simp only [HasTyL] at hrow
    obtain ⟨ty, tys, rfl, hp, hx⟩ := hrow
    simp only [wtL, List.length_cons] at hfu
    have hwt : WfTy t ty := hw ty (by simp)
    have hwl : WfL t tys := fun y hy => hw y (by simp [hy])
    have hpw := p.wt_eq
    rw [Tbl.usefulF]
    by_cases h3 : p.kind = 3
    · have hf : p.free = false := by simp [Pat.free, h3]
      rw [if_neg (by simp [hf])] at hpw
      obtain ⟨_, i, f, K, rfl, hK, hi, hargs⟩ := hp.con hf (by omega)
      obtain ⟨d, c, hd, hc, hcn, hm⟩ := hT.back _ _ hK
      rw [hi] at hd
      have hmany : (t.con p.name).many = c.args.length := by rw [Tbl.con, hK, hm]; rfl
      obtain ⟨k1, k2⟩ := hty.con hT hwt hd hc
      have k4 := hty.narrows c.name
      rw [k1, hcn] at k4
      have hnw := narrows_wt p.name c.args.length rows
      have hdis : ∀ us vs : List Val, us.length = c.args.length → (Disj rows (.con p.name us :: vs) ↔ Disj (narrows p.name c.args.length rows) (us ++ vs)) := fun us vs hu => by
        rw [← hu]
        exact disj_narrows fun q hq => by
          rw [hu, ← hcn]
          exact k2 q hq
      rw [if_pos h3, hmany]
      have hwc := hw.con hd hc
      rw [hcn] at hwc
      rw [useful_main hT fu (narrows p.name c.args.length rows) (p.args ++ x) (f p.name ++ tys) (by rw [wtL_append, List.length_append]; omega) k4 (hargs.append hx) hwc]
      have hlen : (f p.name).length = c.args.length := by rw [← hcn, k1]
      constructor
      · rintro ⟨ws, h1, h2, h4⟩
        obtain ⟨us, vs, rfl, h5, h6⟩ := h1.split
        have hu : us.length = c.args.length := by rw [h5.len, hlen]
        obtain ⟨m1, m2⟩ := (matL_append (by rw [hargs.len, h5.len])).1 h2
        refine ⟨.con p.name us :: vs, .cons ?_ h6, ?_, (hdis us vs hu).2 h4⟩
        · rw [← hcn] at h5 ⊢
          exact .con hd hc h5
        · simp only [matL]
          exact ⟨_, vs, rfl, by rw [mat_eq, if_neg (by simp [hf]), if_neg (by omega)]; exact ⟨us, rfl, m1⟩, m2⟩
      · rintro ⟨vs, h1, h2, h4⟩
        simp only [matL] at h2
        obtain ⟨v, vs', rfl, h5, h6⟩ := h2
        rw [mat_eq, if_neg (by simp [hf]), if_neg (by omega)] at h5
        obtain ⟨us, rfl, h7⟩ := h5
        have hu : us.length = c.args.length := by rw [← matL_len h7, hargs.len, hlen]
        generalize hs : p.name = s at *
        cases h1 with
        | cons k5 k6 =>
          cases k5 with
          | con hd' hc' k7 => exact ⟨us ++ vs', k7.append k6, (matL_append (matL_len h7)).2 ⟨h7, h6⟩, (hdis us vs' hu).1 h4⟩
    · rw [if_neg h3]
      by_cases h2 : p.kind = 2
      · have hf : p.free = false := by simp [Pat.free, h2]
        have := hp.int hf h2
        subst this
        have hk2 : ∀ q ∈ firsts rows, q.kind = 2 := fun q hq => by
          obtain ⟨m1, m2⟩ := hty.firsts q hq
          by_cases e : q.kind = 2
          · exact e
          · obtain ⟨_, i, f, K, e, _⟩ := m2.con m1 e
            cases e
        rw [if_pos h2, useful_main hT fu (lefts p.n rows) x tys (by have := lefts_wt p.n rows; omega) (hty.lefts _) hx hwl]
        constructor
        · rintro ⟨vs, m1, m2, m3⟩
          refine ⟨.int p.n :: vs, .cons (.int _) m1, ?_, (disj_lefts hk2).2 m3⟩
          simp only [matL]
          exact ⟨_, vs, rfl, by rw [mat_eq, if_neg (by simp [hf]), if_pos h2], m2⟩
        · rintro ⟨vs, m1, m2, m3⟩
          simp only [matL] at m2
          obtain ⟨v, vs', rfl, m4, m5⟩ := m2
          rw [mat_eq, if_neg (by simp [hf]), if_pos h2] at m4
          subst m4
          cases m1 with
          | cons _ m6 => exact ⟨vs', m6, m5, (disj_lefts hk2).1 m3⟩
      · rw [if_neg h2]
        have hf : p.free = true := by
          by_cases e : p.free = true
          · exact e
          · exact absurd (hp.con (by simpa using e) h2).1 h3
        have hmat : ∀ v, mat p v := fun v => by rw [mat_eq, if_pos hf]; trivial
        cases absent_out hT hwt hty.firsts with
        | some q hq h1 h4 =>
          rw [hq]
          have hr := rests_wt rows
          show t.usefulF fu (rests rows) x = true ↔ _
          rw [useful_main hT fu (rests rows) x tys (by omega) hty.rests hx hwl]
          constructor
          · rintro ⟨vs, m1, m2, m3⟩
            obtain ⟨v, hv, hn⟩ := h1
            refine ⟨v :: vs, .cons hv m1, ?_, disj_rests_of hn m3⟩
            simp only [matL]
            exact ⟨v, vs, rfl, hmat v, m2⟩
          · rintro ⟨vs, m1, m2, m3⟩
            simp only [matL] at m2
            obtain ⟨v, vs', rfl, m4, m5⟩ := m2
            cases m1 with
            | cons _ m6 => exact ⟨vs', m6, m5, disj_rests m3⟩
        | none hq i f d q r hl ht hd hp' hall h5 =>
          subst ht
          rw [hq, hl]
          simp only [hp', hd, List.any_eq_true]
          have key : ∀ c ∈ d.cons, (t.usefulF fu (narrows c.name c.args.length rows) (List.replicate c.args.length Pat.any ++ x) = true ↔ ∃ vs, InhL t vs (f c.name ++ tys) ∧ matL (List.replicate c.args.length Pat.any ++ x) vs ∧ Disj (narrows c.name c.args.length rows) vs) := fun c hc => by
            obtain ⟨k1, k2⟩ := hty.con hT hwt hd hc
            have k3 := narrows_wt_lt c.name c.args.length rows (fun p hp => (k2 p hp).2) (hall c hc)
            have k4 := hty.narrows c.name
            have ha := HasTyL.anys (t := t) (tys := f c.name)
            rw [k1] at k4 ha
            exact useful_main hT fu (narrows c.name c.args.length rows) _ (f c.name ++ tys) (by rw [wtL_append, wtL_any, List.length_append, List.length_replicate]; omega) k4 (ha.append hx) (hw.con hd hc)
          have hdis : ∀ c ∈ d.cons, ∀ us vs : List Val, us.length = c.args.length → (Disj rows (.con c.name us :: vs) ↔ Disj (narrows c.name c.args.length rows) (us ++ vs)) := fun c hc us vs hu => by
            rw [← hu]
            exact disj_narrows fun p hp => by
              rw [hu]
              exact (hty.con hT hwt hd hc).2 p hp
          constructor
          · rintro ⟨c, hc, h6⟩
            obtain ⟨ws, m1, m2, m3⟩ := (key c hc).1 h6
            obtain ⟨us, vs, rfl, m4, m5⟩ := m1.split
            have hu : us.length = c.args.length := by rw [m4.len, (hty.con hT hwt hd hc).1]
            refine ⟨.con c.name us :: vs, .cons (.con hd hc m4) m5, ?_, (hdis c hc us vs hu).2 m3⟩
            simp only [matL]
            exact ⟨_, vs, rfl, hmat _, ((matL_append (by simp [hu])).1 m2).2⟩
          · rintro ⟨vs, m1, m2, m3⟩
            simp only [matL] at m2
            obtain ⟨v, vs', rfl, m4, m5⟩ := m2
            cases m1 with
            | cons k3 k4 =>
              cases k3 with
              | con hd' hc k5 =>
                rename_i c us
                rw [hd] at hd'
                cases hd'
                have hu : us.length = c.args.length := by rw [k5.len, (hty.con hT hwt hd hc).1]
                exact ⟨c, hc, (key c hc).2 ⟨us ++ vs', k5.append k4, (matL_append (by simp [hu])).2 ⟨matL_anys hu, m5⟩, (hdis c hc us vs' hu).1 m3⟩⟩

end Go.Proofs.Ytakdmelemfnmdaa
end

section
set_option linter.unusedSimpArgs false
set_option linter.unusedVariables false
set_option maxHeartbeats 1000000
set_option maxRecDepth 100000
-- !tab vtab
-- !upto Pat.enc_upto Pat.map_upto any_upto rows_upto Con.enc_upto Con.map_upto Data.enc_upto Data.map_upto Tbl.enc_upto entry_upto
namespace Go.Proofs.Ytakdmelemfnmdaa
open Go.Av

/-- The types of the constructors' fields are no more than fit memory. -/
def FitD (datas : List Data) : Prop := ∀ d ∈ datas, ∀ c ∈ d.cons, c.args.length ≤ 2513169434843

theorem absent_spec {t : Tbl} (hT : TblOK t) (hF : FitD t.datas) {ty : Ty} {l : List Pat} (h : ∀ p ∈ l, p.free = false ∧ HasTy t p ty) (hb : l.length ≤ 2 ^ 30) : PCall Try.prog 43 [t.enc, eR l] (absentRes (t.absent l)) := by
 cases l with
 | nil => exact absent_nil t
 | cons p r =>
  simp only [List.length_cons] at hb
  by_cases h2 : p.kind = 2
  ·have := absent_int t p r h2 (by omega)
   rw [Tbl.absent, if_pos h2]
   exact this
  ·obtain ⟨hf, hp⟩ := h p (by simp)
   obtain ⟨_, i, f, K, rfl, hK, hi, _⟩ := hp.con hf h2
   have hcon : t.con p.name = K := by rw [Tbl.con, hK]; rfl
   obtain ⟨d, c, hd, hc, _, _⟩ := hT.back _ _ hK
   have := absent_con t p r h2 d (by rw [hcon, hd]) (hF d (List.mem_of_getElem? hd))
   rw [Tbl.absent, if_neg h2, hcon, hd]
   exact this

/-- The rows are small. -/
def SmallR (rows : List (List Pat)) : Prop := rows.length ≤ 64 ∧ ∀ r ∈ rows, ∀ p ∈ r, p.nodes ≤ 400

theorem SmallR.rests {rows : List (List Pat)} (h : SmallR rows) : SmallR (rests rows) := by
 refine ⟨Nat.le_trans (rests_len rows) h.1, fun r hr p hp => ?_⟩
 obtain ⟨q, _, hq⟩ := mem_rests.1 hr
 exact h.2 _ hq p (by simp [hp])

theorem SmallR.lefts {rows : List (List Pat)} (h : SmallR rows) (n : Int) : SmallR (lefts n rows) := by
 refine ⟨?_, fun r hr p hp => ?_⟩
 ·have : ∀ l : List (List Pat), (Go.Proofs.Ytakdmelemfnmdaa.lefts n l).length ≤ l.length := fun l => by
   induction l with
   | nil => simp [Go.Proofs.Ytakdmelemfnmdaa.lefts]
   | cons r l ih =>
    cases r with
    | nil => simp only [Go.Proofs.Ytakdmelemfnmdaa.lefts, List.length_cons]; omega
    | cons p x =>
     simp only [Go.Proofs.Ytakdmelemfnmdaa.lefts]
     split <;> simp only [List.length_cons] <;> omega
  exact Nat.le_trans (this rows) h.1
 ·obtain ⟨q, _, hq⟩ := mem_lefts.1 hr
  exact h.2 _ hq p (by simp [hp])

theorem SmallR.narrows {rows : List (List Pat)} (h : SmallR rows) (s : ByteArray) (n : Nat) : SmallR (narrows s n rows) := by
 refine ⟨Nat.le_trans (narrows_len s n rows) h.1, fun r hr p hp => ?_⟩
 obtain ⟨q, x, hq, h1⟩ := mem_narrows.1 hr
 rcases h1 with ⟨_, rfl⟩ | ⟨_, _, rfl⟩
 ·rcases List.mem_append.1 hp with hp | hp
  ·rw [(List.mem_replicate.1 hp).2, Pat.nodes_eq]
   simp [Pat.any, Pat.args, nodesL]
  ·exact h.2 _ hq p (by simp [hp])
 ·rcases List.mem_append.1 hp with hp | hp
  ·have h1 := nodesL_mem hp
   have h2 := h.2 _ hq q (by simp)
   rw [Pat.nodes_eq] at h2
   omega
  ·exact h.2 _ hq p (by simp [hp])

theorem SmallR.args {rows : List (List Pat)} (h : SmallR rows) : ∀ r ∈ rows, ∀ p ∈ r, p.args.length ≤ 400 := fun r hr p hp => by
 have h1 := nodesL_len p.args
 have h2 := h.2 r hr p hp
 rw [Pat.nodes_eq] at h2
 omega

theorem TypedR.ne {t : Tbl} {rows : List (List Pat)} {ty : Ty} {tys : List Ty} (h : TypedR t rows (ty :: tys)) : ∀ r ∈ rows, r ≠ [] ∧ r.length = tys.length + 1 := fun r hr => by
 have := (h r hr).len
 simp only [List.length_cons] at this
 exact ⟨fun e => by rw [e] at this; simp at this, this⟩

def missRes (q : List Pat × Bool) : AVal := .tup [eR q.1, .v (.bool q.2)]

theorem missCons_len {g : Con → List Pat × Bool} {m : Nat} : ∀ {l : List Con}, (∀ c ∈ l, (g c).1.length ≤ m) → (missCons g l).1.length ≤ m + 1
 | [], _ => by simp [missCons]
 | c :: r, h => by
  rw [missCons]
  split
  ·have := h c (by simp)
   simp
   omega
  ·exact missCons_len fun c hc => h c (by simp [hc])

theorem miss_len (t : Tbl) : ∀ (fu : Nat) (rows : List (List Pat)) (m : Nat), (t.missingF fu rows m).1.length ≤ fu
 | 0, _, _ => by simp [Tbl.missingF]
 | fu + 1, rows, 0 => by simp [Tbl.missingF]
 | fu + 1, rows, m + 1 => by
  rw [Tbl.missingF]
  split
  ·have := miss_len t fu (rests rows) m
   simp
   omega
  ·split
   ·simp
   ·split
    ·simp
    ·exact missCons_len fun c _ => miss_len t fu _ _

def MissOK (t : Tbl) (fu : Nat) : Prop := ∀ (rows : List (List Pat)) (tys : List Ty), wtR rows + tys.length < fu → TypedR t rows tys → WfL t tys → SmallR rows → fu ≤ 2 ^ 19 →
  PCall Try.prog 28 [t.enc, eRR rows, aI tys.length] (missRes (t.missingF fu rows tys.length))

theorem missing_nil {t : Tbl} (fu : Nat) (rows : List (List Pat)) : PCall Try.prog 28 [t.enc, eRR rows, aI ([] : List Ty).length] (missRes (t.missingF (fu + 1) rows ([] : List Ty).length)) := by
  have e : t.missingF (fu + 1) rows ([] : List Ty).length = ([], rows.isEmpty) := rfl
  rw [e]
  refine ecall_of hT true 0 Try.func28 rfl (by kernel_rfl) (by simp [Try.ntmps28]) (by simp) ?_
  show AWP Try.prog _ _ _ ⟨97, _, _⟩
  dsimp only [Tmp, TypeId, slotsOf]
  first | refine zg1 ?_ | refine zg0 ?_ | refine zg2 ?_ | refine zg3 ?_
  simp -dsimp only [simprocAttr, ↓vpre, zp]
  refine at_intro ?_
  simp -dsimp only [vend, ne_eq, Nat.reduceEqDiff, reduceCtorEq]
  first | refine zg1 ?_ | refine zg0 ?_ | refine zg2 ?_ | refine zg3 ?_
  simp -dsimp only [simprocAttr, ↓vpre, zp]
  refine at_intro ?_
  simp -dsimp only [vend, ne_eq, Nat.reduceEqDiff, reduceCtorEq]
  first | refine zk1 rfl (fun h => ?_) (fun h => ?_) | refine zk0 rfl (fun h => ?_) (fun h => ?_) | refine zk2 rfl (fun h => ?_) (fun h => ?_)
  ·first | refine zg1 ?_ | refine zg0 ?_ | refine zg2 ?_ | refine zg3 ?_
   simp -dsimp only [simprocAttr, ↓vpre, zp]
   refine at_intro ?_
   simp -dsimp only [vend, ne_eq, Nat.reduceEqDiff, reduceCtorEq]
   refine awp_ret ?_
   simp -dsimp only [simprocAttr, ↓vpre, zp, RetTo, Try.results28, retVals, retVal, mkRet, AVal.upto, Nat.zero_le, Nat.le_refl, seqPost_ret, blockPost_ret, loopPost_ret]
   exact ⟨by simp [uptoL, AVal.upto], by cases rows <;> simp [missRes] <;> omega⟩
  ·cases h

theorem missing_cons {t : Tbl} (hT0 : TblOK t) (hF : FitD t.datas) (fu : Nat) (ih : MissOK t fu) (rows : List (List Pat)) (ty : Ty) (tys : List Ty) (hfu : wtR rows + (ty :: tys).length < fu + 1) (hty : TypedR t rows (ty :: tys)) (hw : WfL t (ty :: tys)) (hs : SmallR rows) (hb : fu + 1 ≤ 2 ^ 19) :
  PCall Try.prog 28 [t.enc, eRR rows, aI (ty :: tys).length] (missRes (t.missingF (fu + 1) rows (ty :: tys).length)) := by
  simp only [List.length_cons] at hfu
  have hwt : WfTy t ty := hw ty (by simp)
  have hwl : WfL t tys := fun y hy => hw y (by simp [hy])
  have hl64 := hs.1
  have hfl := firsts_len rows
  have hab := absent_spec hT0 hF hty.firsts (by omega)
  have hsub : ((tys.length + 1 : Nat) : Int) - 1 = tys.length := by omega
  rw [List.length_cons]
  refine ecall_of hT true 0 Try.func28 rfl (by kernel_rfl) (by simp [Try.ntmps28]) (by simp) ?_
  show AWP Try.prog _ _ _ ⟨97, _, _⟩
  dsimp only [Tmp, TypeId, slotsOf]
  first | refine zg1 ?_ | refine zg0 ?_ | refine zg2 ?_ | refine zg3 ?_
  simp -dsimp only [simprocAttr, ↓vpre, zp]
  refine at_intro ?_
  simp -dsimp only [vend, ne_eq, Nat.reduceEqDiff, reduceCtorEq]
  first | refine zg1 ?_ | refine zg0 ?_ | refine zg2 ?_ | refine zg3 ?_
  simp -dsimp only [simprocAttr, ↓vpre, zp]
  refine at_intro ?_
  simp -dsimp only [vend, ne_eq, Nat.reduceEqDiff, reduceCtorEq]
  first | refine zk1 rfl (fun h => ?_) (fun h => ?_) | refine zk0 rfl (fun h => ?_) (fun h => ?_) | refine zk2 rfl (fun h => ?_) (fun h => ?_)
  ·simp at h
   omega
  ·refine awp_skip ?_
   simp -dsimp only [vend, ne_eq, Nat.reduceEqDiff, reduceCtorEq]
   first | refine zg1 ?_ | refine zg0 ?_ | refine zg2 ?_ | refine zg3 ?_
   simp -dsimp only [simprocAttr, ↓vpre, zp]
   refine .inl ⟨_, (first_spec rows (by omega) (fun r hr => (hty.ne r hr).1)), by first | (simp only [uptoL, AVal.upto, zt, zu, any_upto, rows_upto]; done) | (simp [uptoL, AVal.upto, zu, any_upto, rows_upto]; done), later_intro ?_⟩
   simp -dsimp only [simprocAttr, ↓vpre, zp]
   refine at_intro ?_
   simp -dsimp only [vend, ne_eq, Nat.reduceEqDiff, reduceCtorEq]
   cases absent_out hT0 hwt hty.firsts with
   | some q hq h1 h2 =>
    rw [hq] at hab
    first | refine zg1 ?_ | refine zg0 ?_ | refine zg2 ?_ | refine zg3 ?_
    simp -dsimp only [simprocAttr, ↓vpre, zp]
    refine .inl ⟨_, hab, by first | (simp only [uptoL, AVal.upto, zt, zu, any_upto, rows_upto]; done) | (simp [uptoL, AVal.upto, zu, any_upto, rows_upto]; done), later_intro ?_⟩
    simp -dsimp only [simprocAttr, ↓vpre, zp, absentRes]
    refine at_intro ?_
    simp -dsimp only [vend, ne_eq, Nat.reduceEqDiff, reduceCtorEq]
    first | refine zg1 ?_ | refine zg0 ?_ | refine zg2 ?_ | refine zg3 ?_
    simp -dsimp only [simprocAttr, ↓vpre, zp]
    refine at_intro ?_
    simp -dsimp only [vend, ne_eq, Nat.reduceEqDiff, reduceCtorEq]
    first | refine zk1 rfl (fun h => ?_) (fun h => ?_) | refine zk0 rfl (fun h => ?_) (fun h => ?_) | refine zk2 rfl (fun h => ?_) (fun h => ?_)
    ·have e : t.missingF (fu + 1) rows (tys.length + 1) = (q :: (t.missingF fu (rests rows) tys.length).1, (t.missingF fu (rests rows) tys.length).2) := by
      rw [Tbl.missingF, hq]
     have hr := rests_wt rows
     have hlen := miss_len t fu (rests rows) tys.length
     rw [e]
     first | refine zg1 ?_ | refine zg0 ?_ | refine zg2 ?_ | refine zg3 ?_
     simp -dsimp only [simprocAttr, ↓vpre, zp]
     refine .inl ⟨_, (rest_spec rows (by omega) (fun r hr => (hty.ne r hr).1)), by first | (simp only [uptoL, AVal.upto, zt, zu, any_upto, rows_upto]; done) | (simp [uptoL, AVal.upto, zu, any_upto, rows_upto]; done), later_intro ?_⟩
     simp -dsimp only [simprocAttr, ↓vpre, zp]
     repeat (refine ⟨by omega, ?_⟩)
     simp -dsimp only [hsub]
     refine .inl ⟨_, (ih (rests rows) tys (by omega) hty.rests hwl hs.rests (by omega)), by first | (simp only [uptoL, AVal.upto, zt, zu, any_upto, rows_upto]; done) | (simp [uptoL, AVal.upto, zu, any_upto, rows_upto]; done), later_intro ?_⟩
     simp -dsimp only [simprocAttr, ↓vpre, zp, missRes]
     refine ⟨?_, ?_⟩
     ·(show orderB _ _ = true); kernel_rfl
     refine at_intro ?_
     simp -dsimp only [vend, ne_eq, Nat.reduceEqDiff, reduceCtorEq]
     first | refine zg1 ?_ | refine zg0 ?_ | refine zg2 ?_ | refine zg3 ?_
     simp -dsimp only [simprocAttr, ↓vpre, zp]
     repeat (refine ⟨by omega, ?_⟩)
     refine at_intro ?_
     simp -dsimp only [vend, ne_eq, Nat.reduceEqDiff, reduceCtorEq]
     refine awp_ret ?_
     simp -dsimp only [simprocAttr, ↓vpre, zp, RetTo, Try.results28, retVals, retVal, mkRet, AVal.upto, Nat.zero_le, Nat.le_refl, seqPost_ret, blockPost_ret, loopPost_ret]
     exact ⟨by simp [uptoL, AVal.upto, Pat.map_upto, Pat.enc_upto], by simp [missRes]⟩
    ·cases h
   | none hq i f d p r hl ht hd hp hall h3 =>
    rw [hq] at hab
    have e : t.missingF (fu + 1) rows (tys.length + 1) = missCons (fun c => t.missingF fu (narrows c.name c.args.length rows) (c.args.length + tys.length)) d.cons := by
     rw [Tbl.missingF, hq, hl]
     simp only [hp, hd]
    rw [e]
    subst ht
    first | refine zg1 ?_ | refine zg0 ?_ | refine zg2 ?_ | refine zg3 ?_
    simp -dsimp only [simprocAttr, ↓vpre, zp]
    refine .inl ⟨_, hab, by first | (simp only [uptoL, AVal.upto, zt, zu, any_upto, rows_upto]; done) | (simp [uptoL, AVal.upto, zu, any_upto, rows_upto]; done), later_intro ?_⟩
    simp -dsimp only [simprocAttr, ↓vpre, zp, absentRes]
    refine at_intro ?_
    simp -dsimp only [vend, ne_eq, Nat.reduceEqDiff, reduceCtorEq]
    first | refine zg1 ?_ | refine zg0 ?_ | refine zg2 ?_ | refine zg3 ?_
    simp -dsimp only [simprocAttr, ↓vpre, zp]
    refine at_intro ?_
    simp -dsimp only [vend, ne_eq, Nat.reduceEqDiff, reduceCtorEq]
    first | refine zk1 rfl (fun h => ?_) (fun h => ?_) | refine zk0 rfl (fun h => ?_) (fun h => ?_) | refine zk2 rfl (fun h => ?_) (fun h => ?_)
    ·cases h
    ·refine awp_skip ?_
     simp -dsimp only [vend, ne_eq, Nat.reduceEqDiff, reduceCtorEq]
     rw [hl]
     have hd' : t.datas[((find t.cons p.name).getD K.zero).data]? = some d := by
      rw [← hd, ← hp]
      rfl
     first | refine zg1 ?_ | refine zg0 ?_ | refine zg2 ?_ | refine zg3 ?_
     simp -dsimp only [simprocAttr, ↓vpre, zp, zero_K', hd']
     refine ⟨?_, ?_⟩
     ·(show orderB _ _ = true); kernel_rfl
     refine at_intro ?_
     simp -dsimp only [vend, ne_eq, Nat.reduceEqDiff, reduceCtorEq]
     refine awp_len 59 rfl (fun hlc => ?_)
     simp only [List.length_map] at hlc
     have key : ∀ c ∈ d.cons, c.args.length ≤ 400 ∧ PCall Try.prog 28 [t.enc, eRR (narrows c.name c.args.length rows), aI (c.args.length + tys.length : Nat)] (missRes (t.missingF fu (narrows c.name c.args.length rows) (c.args.length + tys.length))) ∧
       ((t.missingF fu (narrows c.name c.args.length rows) (c.args.length + tys.length)).2 = true → (t.missingF fu (narrows c.name c.args.length rows) (c.args.length + tys.length)).1.length = c.args.length + tys.length) := fun c hc => by
      obtain ⟨k1, k2⟩ := hty.con hT0 hwt hd hc
      have k3 := narrows_wt_lt c.name c.args.length rows (fun p hp => (k2 p hp).2) (hall c hc)
      have k4 := hty.narrows c.name
      rw [k1] at k4
      have k5 := ih (narrows c.name c.args.length rows) (f c.name ++ tys) (by rw [List.length_append, k1]; omega) k4 (hw.con hd hc) (hs.narrows _ _) (by omega)
      have k6 := (missing_main hT0 fu (narrows c.name c.args.length rows) (f c.name ++ tys) (by rw [List.length_append, k1]; omega) k4 (hw.con hd hc)).2
      rw [List.length_append, k1] at k5 k6
      refine ⟨?_, k5, fun h => (k6 h).1⟩
      obtain ⟨q, hq, hn⟩ := hall c hc
      rw [← (k2 q hq).2 hn]
      obtain ⟨_, x, hx⟩ := mem_firsts.1 hq
      exact hs.args _ hx q (by simp)
     first | refine awp_block (awp_loop (ι := {k : Nat // k ≤ d.cons.length ∧ missCons (fun c => t.missingF fu (narrows c.name c.args.length rows) (c.args.length + tys.length)) d.cons = missCons (fun c => t.missingF fu (narrows c.name c.args.length rows) (c.args.length + tys.length)) (d.cons.drop k)}) (fun k => ⟨97, [(1, eRR rows), (2, aI (tys.length + 1 : Nat)), (3, .mp 0 0), (59, eC d.cons), (60, aI d.cons.length), (61, aI k.1)], [.cells [.lst 3 (t.datas.map Data.enc) .sh, .im .str (t.cons.map entry)], .cells [.v (.int .i64 Pat.any.kind), .v (.string Pat.any.name), .v (.int .i64 Pat.any.n), .lst 4 (Pat.any.args.map Pat.enc) .sh]]⟩) (fun k => d.cons.length - k.1) ⟨0, by omega, rfl⟩ ?_ ?_) | refine awp_seq (awp_block (awp_loop (ι := {k : Nat // k ≤ d.cons.length ∧ missCons (fun c => t.missingF fu (narrows c.name c.args.length rows) (c.args.length + tys.length)) d.cons = missCons (fun c => t.missingF fu (narrows c.name c.args.length rows) (c.args.length + tys.length)) (d.cons.drop k)}) (fun k => ⟨97, [(1, eRR rows), (2, aI (tys.length + 1 : Nat)), (3, .mp 0 0), (59, eC d.cons), (60, aI d.cons.length), (61, aI k.1)], [.cells [.lst 3 (t.datas.map Data.enc) .sh, .im .str (t.cons.map entry)], .cells [.v (.int .i64 Pat.any.kind), .v (.string Pat.any.name), .v (.int .i64 Pat.any.n), .lst 4 (Pat.any.args.map Pat.enc) .sh]]⟩) (fun k => d.cons.length - k.1) ⟨0, by omega, rfl⟩ ?_ ?_))
     ·refine ⟨rfl, ?_, ?_⟩
      rotate_left
      simp -dsimp only [simprocAttr, ↓vpre, zp, Says, exists_eq_left', Option.some.injEq, sub_self, and_assoc, true_and, and_true]
      rfl
     ·rintro ⟨k, hkl, he⟩
      first | refine zg1 ?_ | refine zg0 ?_ | refine zg2 ?_ | refine zg3 ?_
      simp -dsimp only [simprocAttr, ↓vpre, zp]
      refine at_intro ?_
      simp -dsimp only [vend, ne_eq, Nat.reduceEqDiff, reduceCtorEq]
      first | refine zk1 rfl (fun h => ?_) (fun h => ?_) | refine zk0 rfl (fun h => ?_) (fun h => ?_) | refine zk2 rfl (fun h => ?_) (fun h => ?_)
      ·refine awp_skip ?_
       simp -dsimp only [vend, ne_eq, Nat.reduceEqDiff, reduceCtorEq]
       have hlt : k < d.cons.length := by simpa using h
       obtain ⟨c, hc⟩ : ∃ c : Con, d.cons[k]? = some c := ⟨d.cons[k], by simp [hlt]⟩
       have hdrop : d.cons.drop k = c :: d.cons.drop (k + 1) := by
        rw [List.drop_eq_getElem_cons hlt]
        rw [List.getElem?_eq_getElem hlt] at hc
        simp only [Option.some.injEq] at hc
        rw [hc]
       rw [hdrop, missCons] at he
       obtain ⟨h400, hcall, hlen⟩ := key c (List.mem_of_getElem? hc)
       have hadd : ((c.args.length : Int) + ((tys.length + 1 : Nat) : Int)) - 1 = ((c.args.length + tys.length : Nat) : Int) := by omega
       first | refine awp_seq (awp_block ?_) | refine awp_block ?_
       first | refine zg1 ?_ | refine zg0 ?_ | refine zg2 ?_ | refine zg3 ?_
       simp -dsimp only [simprocAttr, ↓vpre, zp, hc]
       refine at_intro ?_
       simp -dsimp only [vend, ne_eq, Nat.reduceEqDiff, reduceCtorEq]
       first | refine zg1 ?_ | refine zg0 ?_ | refine zg2 ?_ | refine zg3 ?_
       simp -dsimp only [simprocAttr, ↓vpre, zp]
       refine at_intro ?_
       simp -dsimp only [vend, ne_eq, Nat.reduceEqDiff, reduceCtorEq]
       first | refine zg1 ?_ | refine zg0 ?_ | refine zg2 ?_ | refine zg3 ?_
       simp -dsimp only [simprocAttr, ↓vpre, zp]
       refine .inl ⟨_, (narrow_spec rows c.name c.args.length (by omega) (by omega) (fun r hr => (hty.ne r hr).1) (fun r hr => by have := (hty.ne r hr).2; omega) (fun r hr p hp => by have := hs.args r hr p hp; omega)), by first | (simp only [uptoL, AVal.upto, zt, zu, any_upto, rows_upto]; done) | (simp [uptoL, AVal.upto, zu, any_upto, rows_upto]; done), later_intro ?_⟩
       simp -dsimp only [simprocAttr, ↓vpre, zp]
       repeat (refine ⟨by omega, ?_⟩)
       simp -dsimp only [hadd]
       refine .inl ⟨_, hcall, by first | (simp only [uptoL, AVal.upto, zt, zu, any_upto, rows_upto]; done) | (simp [uptoL, AVal.upto, zu, any_upto, rows_upto]; done), later_intro ?_⟩
       simp -dsimp only [simprocAttr, ↓vpre, zp, missRes]
       refine ⟨?_, ?_⟩
       ·(show orderB _ _ = true); kernel_rfl
       refine at_intro ?_
       simp -dsimp only [vend, ne_eq, Nat.reduceEqDiff, reduceCtorEq]
       first | refine zg1 ?_ | refine zg0 ?_ | refine zg2 ?_ | refine zg3 ?_
       simp -dsimp only [simprocAttr, ↓vpre, zp]
       refine at_intro ?_
       simp -dsimp only [vend, ne_eq, Nat.reduceEqDiff, reduceCtorEq]
       obtain ⟨⟨out, is⟩, hq⟩ : ∃ q, q = t.missingF fu (narrows c.name c.args.length rows) (c.args.length + tys.length) := ⟨_, rfl⟩
       have hml := miss_len t fu (narrows c.name c.args.length rows) (c.args.length + tys.length)
       rw [← hq] at he hlen hml
       simp only [← hq]
       simp only at he hlen hml
       first | refine zk1 rfl (fun h => ?_) (fun h => ?_) | refine zk0 rfl (fun h => ?_) (fun h => ?_) | refine zk2 rfl (fun h => ?_) (fun h => ?_)
       ·subst h
        have hol := hlen rfl
        rw [if_pos rfl] at he
        refine awp_freeze1 14 2 (.ip none [.v (.string c.name), .lst 4 (c.args.map Pat.enc) .sh]) rfl (by simp [AObj.isSpare]) trivial rfl ?_ ?_
        rotate_left
        simp -dsimp only [simprocAttr, ↓vpre, zp]
        rotate_left
        ·exact FSub.mp rfl rfl
        first | refine zg1 ?_ | refine zg0 ?_ | refine zg2 ?_ | refine zg3 ?_
        simp -dsimp only [simprocAttr, ↓vpre, zp]
        repeat (refine ⟨by omega, ?_⟩)
        simp -dsimp only [← List.map_take]
        refine .inl ⟨_, clone_pure (out.take c.args.length) (by simp; omega), ⟨⟨Pat.map_upto _ _, trivial⟩, trivial⟩, later_intro ?_⟩
        simp -dsimp only [simprocAttr, ↓vpre, zp]
        refine ⟨?_, ?_⟩
        ·(show orderB _ _ = true); kernel_rfl
        refine at_intro ?_
        simp -dsimp only [vend, ne_eq, Nat.reduceEqDiff, reduceCtorEq]
        first | refine zg1 ?_ | refine zg0 ?_ | refine zg2 ?_ | refine zg3 ?_
        simp -dsimp only [simprocAttr, ↓vpre, zp]
        have hdl : (List.drop c.args.length (List.map Pat.enc out)).length = tys.length := by rw [List.length_drop, List.length_map]; omega
        refine ⟨by omega, by omega, by omega, ?_, ?_⟩
        ·(show orderB _ _ = true); kernel_rfl
        refine at_intro ?_
        simp -dsimp only [vend, ne_eq, Nat.reduceEqDiff, reduceCtorEq]
        refine awp_ret ?_
        simp -dsimp only [simprocAttr, ↓vpre, zp, RetTo, Try.results28, retVals, retVal, mkRet, AVal.upto, Nat.zero_le, Nat.le_refl, seqPost_ret, blockPost_ret, loopPost_ret]
        rw [he]
        have hx : (AVal.agg [.v (.int .i64 3), .v (.string c.name), .v (.int .i64 0), .lst 4 ((out.take c.args.length).map Pat.enc) .sh] :: List.map AVal.share (List.drop c.args.length (List.map Pat.enc out))) = ((Pat.mk 3 c.name 0 (out.take c.args.length)) :: out.drop c.args.length).map Pat.enc := by
         rw [← List.map_drop, Pat.map_share, List.map_cons, Pat.enc_eq]
         rfl
        rw [hx]
        exact ⟨⟨⟨Pat.map_upto _ _, trivial⟩, trivial, trivial⟩, rfl⟩
       ·subst h
        rw [if_neg (by simp)] at he
        refine awp_skip ?_
        simp -dsimp only [vend, ne_eq, Nat.reduceEqDiff, reduceCtorEq]
        refine awp_trunc' 2 [(1, eRR rows), (2, aI (tys.length + 1 : Nat)), (3, .mp 0 0), (59, eC d.cons), (60, aI d.cons.length), (61, aI k)] (by first | omega | (simp; done) | (simp; omega)) (by first | omega | (simp; done) | (simp; omega)) [.cells [.lst 3 (t.datas.map Data.enc) .sh, .im .str (t.cons.map entry)], .cells [.v (.int .i64 Pat.any.kind), .v (.string Pat.any.name), .v (.int .i64 Pat.any.n), .lst 4 (Pat.any.args.map Pat.enc) .sh]] ?_ ?_ ?_ ?_ ?_
        ·rfl
        ·simp [AObj.upto, uptoL, AVal.upto, Data.map_upto, entry_upto, Pat.map_upto]
        ·simp -dsimp only [simprocAttr, ↓vpre, zp, Says, exists_eq_left', Option.some.injEq, sub_self, and_true]
        ·simp [AVal.upto, uptoL, rows_upto, Con.map_upto]
        ·first | refine zg1 ?_ | refine zg0 ?_ | refine zg2 ?_ | refine zg3 ?_
         simp -dsimp only [simprocAttr, ↓vpre, zp]
         repeat (refine ⟨by omega, ?_⟩)
         refine at_intro ?_
         simp -dsimp only [vend, ne_eq, Nat.reduceEqDiff, reduceCtorEq]
         refine ⟨⟨k + 1, hlt, he⟩, by simp; omega, ?_⟩
         refine ⟨rfl, ?_, ?_⟩
         rotate_left
         simp -dsimp only [simprocAttr, ↓vpre, zp, Says, exists_eq_left', Option.some.injEq, sub_self, and_assoc, true_and, and_true]
         ·exact Sub.int (by simp)
         ·rfl
      ·refine awp_exit ?_
       simp -dsimp only [vend, ne_eq, Nat.reduceEqDiff, reduceCtorEq]
       have hkk : k = d.cons.length := by simp at h; omega
       subst hkk
       rw [List.drop_length, missCons] at he
       first | refine zg1 ?_ | refine zg0 ?_ | refine zg2 ?_ | refine zg3 ?_
       simp -dsimp only [simprocAttr, ↓vpre, zp]
       refine at_intro ?_
       simp -dsimp only [vend, ne_eq, Nat.reduceEqDiff, reduceCtorEq]
       refine awp_ret ?_
       simp -dsimp only [simprocAttr, ↓vpre, zp, RetTo, Try.results28, retVals, retVal, mkRet, AVal.upto, Nat.zero_le, Nat.le_refl, seqPost_ret, blockPost_ret, loopPost_ret]
       rw [he]
       exact ⟨by simp [uptoL, AVal.upto], by simp [missRes]⟩

theorem missing_spec {t : Tbl} (hT0 : TblOK t) (hF : FitD t.datas) : ∀ fu : Nat, MissOK t fu
 | 0, rows, tys, h, _, _, _, _ => by omega
 | fu + 1, rows, [], _, _, _, _, _ => missing_nil fu rows
 | fu + 1, rows, ty :: tys, h1, h2, h3, h4, h5 => missing_cons hT0 hF fu (missing_spec hT0 hF fu) rows ty tys h1 h2 h3 h4 h5

end Go.Proofs.Ytakdmelemfnmdaa
end

section
set_option linter.unusedSimpArgs false
set_option linter.unusedVariables false
set_option maxHeartbeats 1000000
set_option maxRecDepth 100000
-- !tab vtab
-- !upto Pat.enc_upto Pat.map_upto any_upto rows_upto Con.enc_upto Con.map_upto Data.enc_upto Data.map_upto Tbl.enc_upto entry_upto
namespace Go.Proofs.Ytakdmelemfnmdaa
open Go.Av

def SmallL (l : List Pat) : Prop := ∀ p ∈ l, p.nodes ≤ 400

theorem SmallL.args {p : Pat} {x : List Pat} (h : SmallL (p :: x)) : SmallL (p.args ++ x) ∧ p.args.length ≤ 400 := by
 have h1 := h p (by simp)
 rw [Pat.nodes_eq] at h1
 refine ⟨fun q hq => ?_, by have := nodesL_len p.args; omega⟩
 rcases List.mem_append.1 hq with hq | hq
 ·have := nodesL_mem hq
  omega
 ·exact h q (by simp [hq])

theorem SmallL.tail {p : Pat} {x : List Pat} (h : SmallL (p :: x)) : SmallL x := fun q hq => h q (by simp [hq])

theorem SmallL.anys {n : Nat} {x : List Pat} (h : SmallL x) : SmallL (List.replicate n Pat.any ++ x) := fun q hq => by
 rcases List.mem_append.1 hq with hq | hq
 ·rw [(List.mem_replicate.1 hq).2, Pat.nodes_eq]
  simp [Pat.any, Pat.args, nodesL]
 ·exact h q hq

def UsefulOK (t : Tbl) (fu : Nat) : Prop := ∀ (rows : List (List Pat)) (row : List Pat) (tys : List Ty), wtR rows + wtL row + row.length < fu → TypedR t rows tys → HasTyL t row tys → WfL t tys → SmallR rows → SmallL row → fu ≤ 2 ^ 19 →
  PCall Try.prog 29 [t.enc, eRR rows, eR row] (.v (.bool (t.usefulF fu rows row)))

theorem useful_nil {t : Tbl} (fu : Nat) (rows : List (List Pat)) : PCall Try.prog 29 [t.enc, eRR rows, eR []] (.v (.bool (t.usefulF (fu + 1) rows []))) := by
 rw [Tbl.usefulF]
 refine ecall_of hT true 0 Try.func29 rfl (by kernel_rfl) (by simp [Try.ntmps29]) (by simp) ?_
 show AWP Try.prog _ _ _ ⟨138, _, _⟩
 dsimp only [Tmp, TypeId, slotsOf]
 first | refine zg1 ?_ | refine zg0 ?_ | refine zg2 ?_ | refine zg3 ?_
 simp -dsimp only [simprocAttr, ↓vpre, zp]
 refine at_intro ?_
 simp -dsimp only [vend, ne_eq, Nat.reduceEqDiff, reduceCtorEq]
 first | refine zg1 ?_ | refine zg0 ?_ | refine zg2 ?_ | refine zg3 ?_
 simp -dsimp only [simprocAttr, ↓vpre, zp]
 refine at_intro ?_
 simp -dsimp only [vend, ne_eq, Nat.reduceEqDiff, reduceCtorEq]
 first | refine zk1 rfl (fun h => ?_) (fun h => ?_) | refine zk0 rfl (fun h => ?_) (fun h => ?_) | refine zk2 rfl (fun h => ?_) (fun h => ?_)
 ·first | refine zg1 ?_ | refine zg0 ?_ | refine zg2 ?_ | refine zg3 ?_
  simp -dsimp only [simprocAttr, ↓vpre, zp]
  refine at_intro ?_
  simp -dsimp only [vend, ne_eq, Nat.reduceEqDiff, reduceCtorEq]
  refine awp_ret ?_
  simp -dsimp only [simprocAttr, ↓vpre, zp, RetTo, Try.results29, retVals, retVal, mkRet, AVal.upto, Nat.zero_le, Nat.le_refl, seqPost_ret, blockPost_ret, loopPost_ret]
  cases rows <;> simp <;> omega
 ·cases h

theorem useful_con {t : Tbl} (hT0 : TblOK t) (fu : Nat) (ih : UsefulOK t fu) (rows : List (List Pat)) (p : Pat) (x : List Pat) (ty : Ty) (tys : List Ty) (hfu : wtR rows + wtL (p :: x) + (p :: x).length < fu + 1) (hty : TypedR t rows (ty :: tys)) (hp : HasTy t p ty) (hx : HasTyL t x tys)
  (hw : WfL t (ty :: tys)) (hs : SmallR rows) (hsl : SmallL (p :: x)) (hb : fu + 1 ≤ 2 ^ 19) (h3 : p.kind = 3) : PCall Try.prog 29 [t.enc, eRR rows, eR (p :: x)] (.v (.bool (t.usefulF (fu + 1) rows (p :: x)))) := by
 rw [Tbl.usefulF, if_pos h3]
 have hpw := p.wt_eq
 have hf : p.free = false := by simp [Pat.free, h3]
 rw [if_neg (by simp [hf])] at hpw
 have hwt : WfTy t ty := hw ty (by simp)
 obtain ⟨_, i, f, k0, rfl, hK, hi, hargs⟩ := hp.con hf (by omega)
 obtain ⟨d, c, hd, hc, hcn, hmn⟩ := hT0.back _ _ hK
 rw [hi] at hd
 have hmany : (t.con p.name).many = c.args.length := by rw [Tbl.con, hK, hmn]; rfl
 have hmany' : ((find t.cons p.name).getD K.zero).many = c.args.length := hmany
 obtain ⟨k1, k2⟩ := hty.con hT0 hwt hd hc
 have k4 := hty.narrows c.name
 rw [k1, hcn] at k4
 have hnw := narrows_wt p.name c.args.length rows
 have hwc := hw.con hd hc
 rw [hcn] at hwc
 rw [hmany]
 simp only [wtL, List.length_cons] at hfu
 obtain ⟨hsl1, hsl2⟩ := hsl.args
 have h400 : c.args.length ≤ 400 := by
  have := hargs.len
  rw [← hcn, k1] at this
  omega
 have hl64 := hs.1
 have hlx := hx.len
 have hcall := ih (narrows p.name c.args.length rows) (p.args ++ x) _ (by rw [wtL_append, List.length_append]; omega) k4 (hargs.append hx) hwc (hs.narrows _ _) hsl1 (by omega)
 refine ecall_of hT true 0 Try.func29 rfl (by kernel_rfl) (by simp [Try.ntmps29]) (by simp) ?_
 show AWP Try.prog _ _ _ ⟨138, _, _⟩
 dsimp only [Tmp, TypeId, slotsOf]
 first | refine zg1 ?_ | refine zg0 ?_ | refine zg2 ?_ | refine zg3 ?_
 simp -dsimp only [simprocAttr, ↓vpre, zp]
 refine at_intro ?_
 simp -dsimp only [vend, ne_eq, Nat.reduceEqDiff, reduceCtorEq]
 first | refine zg1 ?_ | refine zg0 ?_ | refine zg2 ?_ | refine zg3 ?_
 simp -dsimp only [simprocAttr, ↓vpre, zp]
 refine at_intro ?_
 simp -dsimp only [vend, ne_eq, Nat.reduceEqDiff, reduceCtorEq]
 first | refine zk1 rfl (fun h => ?_) (fun h => ?_) | refine zk0 rfl (fun h => ?_) (fun h => ?_) | refine zk2 rfl (fun h => ?_) (fun h => ?_)
 ·simp at h
  omega
 ·refine awp_skip ?_
  simp -dsimp only [vend, ne_eq, Nat.reduceEqDiff, reduceCtorEq]
  first | refine zg1 ?_ | refine zg0 ?_ | refine zg2 ?_ | refine zg3 ?_
  simp -dsimp only [simprocAttr, ↓vpre, zp]
  refine at_intro ?_
  simp -dsimp only [vend, ne_eq, Nat.reduceEqDiff, reduceCtorEq]
  first | refine awp_seq (awp_block ?_) | refine awp_block ?_
  first | refine zg1 ?_ | refine zg0 ?_ | refine zg2 ?_ | refine zg3 ?_
  simp -dsimp only [simprocAttr, ↓vpre, zp]
  refine at_intro ?_
  simp -dsimp only [vend, ne_eq, Nat.reduceEqDiff, reduceCtorEq]
  first | refine zk1 rfl (fun h => ?_) (fun h => ?_) | refine zk0 rfl (fun h => ?_) (fun h => ?_) | refine zk2 rfl (fun h => ?_) (fun h => ?_)
  ·first | refine zg1 ?_ | refine zg0 ?_ | refine zg2 ?_ | refine zg3 ?_
   simp -dsimp only [simprocAttr, ↓vpre, zp, zero_K', hmany']
   refine ⟨by (show orderB _ _ = true); kernel_rfl, at_intro ?_⟩
   simp -dsimp only [vend, ne_eq, Nat.reduceEqDiff, reduceCtorEq]
   first | refine zg1 ?_ | refine zg0 ?_ | refine zg2 ?_ | refine zg3 ?_
   simp -dsimp only [simprocAttr, ↓vpre, zp]
   refine .inl ⟨_, (narrow_spec rows p.name c.args.length (by omega) (by omega) (fun r hr => (hty.ne r hr).1) (fun r hr => by have := (hty.ne r hr).2; omega) (fun r hr p hp => by have := hs.args r hr p hp; omega)), by first | (simp only [uptoL, AVal.upto, zt, zu, any_upto, rows_upto]; done) | (simp [uptoL, AVal.upto, zu, any_upto, rows_upto]; done), later_intro ?_⟩
   simp -dsimp only [simprocAttr, ↓vpre, zp, List.take_length, List.drop_one, List.tail_cons]
   refine .inl ⟨_, (concat_spec [p.args, x] (by simp) (by simp [total]; omega)), by first | (simp only [uptoL, AVal.upto, zt, zu, any_upto, rows_upto]; done) | (simp [uptoL, AVal.upto, zu, any_upto, rows_upto]; done), later_intro ?_⟩
   simp -dsimp only [simprocAttr, ↓vpre, zp, List.flatten_cons, List.flatten_nil, List.append_nil]
   repeat (refine ⟨by omega, ?_⟩)
   refine .inl ⟨_, hcall, by first | (simp only [uptoL, AVal.upto, zt, zu, any_upto, rows_upto]; done) | (simp [uptoL, AVal.upto, zu, any_upto, rows_upto]; done), later_intro ?_⟩
   simp -dsimp only [simprocAttr, ↓vpre, zp]
   repeat (refine ⟨by omega, ?_⟩)
   refine ⟨by (show orderB _ _ = true); kernel_rfl, at_intro ?_⟩
   simp -dsimp only [vend, ne_eq, Nat.reduceEqDiff, reduceCtorEq]
   refine awp_ret ?_
   simp -dsimp only [simprocAttr, ↓vpre, zp, RetTo, Try.results29, retVals, retVal, mkRet, AVal.upto, Nat.zero_le, Nat.le_refl, seqPost_ret, blockPost_ret, loopPost_ret]
  ·have : ¬ p.kind = 3 := by simpa using h
   exact absurd h3 this

theorem lefts_append (n : Int) : ∀ a b : List (List Pat), lefts n (a ++ b) = lefts n a ++ lefts n b
 | [], b => by simp [lefts]
 | [] :: r, b => by simp [lefts, lefts_append n r b]
 | (p :: _) :: r, b => by
  simp only [List.cons_append, lefts, lefts_append n r b]
  split <;> simp

theorem useful_int {t : Tbl} (fu : Nat) (ih : UsefulOK t fu) (rows : List (List Pat)) (p : Pat) (x : List Pat) (ty : Ty) (tys : List Ty) (hfu : wtR rows + wtL (p :: x) + (p :: x).length < fu + 1) (hty : TypedR t rows (ty :: tys)) (hx : HasTyL t x tys)
  (hw : WfL t (ty :: tys)) (hs : SmallR rows) (hsl : SmallL (p :: x)) (hb : fu + 1 ≤ 2 ^ 19) (h2 : p.kind = 2) : PCall Try.prog 29 [t.enc, eRR rows, eR (p :: x)] (.v (.bool (t.usefulF (fu + 1) rows (p :: x)))) := by
 rw [Tbl.usefulF, if_neg (by omega), if_pos h2]
 have hlw := lefts_wt p.n rows
 have hl64 := hs.1
 simp only [wtL, List.length_cons] at hfu
 have hwl : WfL t tys := fun y hy => hw y (by simp [hy])
 have hcall := ih (lefts p.n rows) x tys (by omega) (hty.lefts _) hx hwl (hs.lefts _) hsl.tail (by omega)
 refine ecall_of hT true 0 Try.func29 rfl (by kernel_rfl) (by simp [Try.ntmps29]) (by simp) ?_
 show AWP Try.prog _ _ _ ⟨138, _, _⟩
 dsimp only [Tmp, TypeId, slotsOf]
 first | refine zg1 ?_ | refine zg0 ?_ | refine zg2 ?_ | refine zg3 ?_
 simp -dsimp only [simprocAttr, ↓vpre, zp]
 refine at_intro ?_
 simp -dsimp only [vend, ne_eq, Nat.reduceEqDiff, reduceCtorEq]
 first | refine zg1 ?_ | refine zg0 ?_ | refine zg2 ?_ | refine zg3 ?_
 simp -dsimp only [simprocAttr, ↓vpre, zp]
 refine at_intro ?_
 simp -dsimp only [vend, ne_eq, Nat.reduceEqDiff, reduceCtorEq]
 first | refine zk1 rfl (fun h => ?_) (fun h => ?_) | refine zk0 rfl (fun h => ?_) (fun h => ?_) | refine zk2 rfl (fun h => ?_) (fun h => ?_)
 ·simp at h
  omega
 ·refine awp_skip ?_
  simp -dsimp only [vend, ne_eq, Nat.reduceEqDiff, reduceCtorEq]
  first | refine zg1 ?_ | refine zg0 ?_ | refine zg2 ?_ | refine zg3 ?_
  simp -dsimp only [simprocAttr, ↓vpre, zp]
  refine at_intro ?_
  simp -dsimp only [vend, ne_eq, Nat.reduceEqDiff, reduceCtorEq]
  first | refine awp_seq (awp_block ?_) | refine awp_block ?_
  first | refine zg1 ?_ | refine zg0 ?_ | refine zg2 ?_ | refine zg3 ?_
  simp -dsimp only [simprocAttr, ↓vpre, zp]
  refine at_intro ?_
  simp -dsimp only [vend, ne_eq, Nat.reduceEqDiff, reduceCtorEq]
  first | refine zk1 rfl (fun h => ?_) (fun h => ?_) | refine zk0 rfl (fun h => ?_) (fun h => ?_) | refine zk2 rfl (fun h => ?_) (fun h => ?_)
  ·simp [h2] at h
  ·first | refine zg1 ?_ | refine zg0 ?_ | refine zg2 ?_ | refine zg3 ?_
   simp -dsimp only [simprocAttr, ↓vpre, zp]
   refine at_intro ?_
   simp -dsimp only [vend, ne_eq, Nat.reduceEqDiff, reduceCtorEq]
   first | refine zk1 rfl (fun h => ?_) (fun h => ?_) | refine zk0 rfl (fun h => ?_) (fun h => ?_) | refine zk2 rfl (fun h => ?_) (fun h => ?_)
   ·first | refine zg1 ?_ | refine zg0 ?_ | refine zg2 ?_ | refine zg3 ?_
    simp -dsimp only [simprocAttr, ↓vpre, zp]
    refine at_intro ?_
    simp -dsimp only [vend, ne_eq, Nat.reduceEqDiff, reduceCtorEq]
    refine awp_own 8 rfl ?_
    simp -dsimp only [simprocAttr, ↓vpre, zp]
    refine awp_len 1 rfl (fun hlr => ?_)
    first | refine zg1 ?_ | refine zg0 ?_ | refine zg2 ?_ | refine zg3 ?_
    simp -dsimp only [simprocAttr, ↓vpre, zp]
    refine at_intro ?_
    simp -dsimp only [vend, ne_eq, Nat.reduceEqDiff, reduceCtorEq]
    have hlen : ∀ l : List (List Pat), (lefts p.n l).length ≤ l.length := fun l => by
     induction l with
     | nil => simp [lefts]
     | cons r l ih =>
      cases r with
      | nil => simp only [lefts, List.length_cons]; omega
      | cons p x =>
       simp only [lefts]
       split <;> simp only [List.length_cons] <;> omega
    first | refine awp_block (awp_loop (ι := {k : Nat // k ≤ rows.length}) (fun k => ⟨138, [(2, eR (p :: x)), (3, .mp 0 0), (56, eRR rows), (57, aI rows.length), (58, aI k.1), (8, .lst 1 ((lefts p.n (rows.take k)).map eR) (.tok 1))], [.cells [.lst 3 (t.datas.map Data.enc) .sh, .im .str (t.cons.map entry)], .spare (lefts p.n (rows.take k)).length]⟩) (fun k => rows.length - k.1) ⟨0, by omega⟩ ?_ ?_) | refine awp_seq (awp_block (awp_loop (ι := {k : Nat // k ≤ rows.length}) (fun k => ⟨138, [(2, eR (p :: x)), (3, .mp 0 0), (56, eRR rows), (57, aI rows.length), (58, aI k.1), (8, .lst 1 ((lefts p.n (rows.take k)).map eR) (.tok 1))], [.cells [.lst 3 (t.datas.map Data.enc) .sh, .im .str (t.cons.map entry)], .spare (lefts p.n (rows.take k)).length]⟩) (fun k => rows.length - k.1) ⟨0, by omega⟩ ?_ ?_))
    ·refine ⟨rfl, ?_, ?_⟩
     rotate_left
     simp -dsimp only [simprocAttr, ↓vpre, zp, Says, exists_eq_left', Option.some.injEq, sub_self, and_assoc, true_and, and_true]
     ·exact Sub.lst (by simp [lefts])
     ·simp [lefts]
    ·rintro ⟨k, hk⟩
     first | refine zg1 ?_ | refine zg0 ?_ | refine zg2 ?_ | refine zg3 ?_
     simp -dsimp only [simprocAttr, ↓vpre, zp]
     refine at_intro ?_
     simp -dsimp only [vend, ne_eq, Nat.reduceEqDiff, reduceCtorEq]
     first | refine zk1 rfl (fun h => ?_) (fun h => ?_) | refine zk0 rfl (fun h => ?_) (fun h => ?_) | refine zk2 rfl (fun h => ?_) (fun h => ?_)
     ·refine awp_skip ?_
      simp -dsimp only [vend, ne_eq, Nat.reduceEqDiff, reduceCtorEq]
      have hlt : k < rows.length := by simpa using h
      obtain ⟨r, hr⟩ : ∃ r, rows[k]? = some r := ⟨rows[k], by simp [hlt]⟩
      have hmem := List.mem_of_getElem? hr
      first | refine awp_seq (awp_block ?_) | refine awp_block ?_
      first | refine zg1 ?_ | refine zg0 ?_ | refine zg2 ?_ | refine zg3 ?_
      simp -dsimp only [simprocAttr, ↓vpre, zp, hr]
      refine at_intro ?_
      simp -dsimp only [vend, ne_eq, Nat.reduceEqDiff, reduceCtorEq]
      obtain ⟨q, r', rfl⟩ : ∃ p r', r = p :: r' := List.exists_cons_of_ne_nil (hty.ne r hmem).1
      have hf := hlen (rows.take k)
      simp only [List.length_take] at hf
      first | refine zg1 ?_ | refine zg0 ?_ | refine zg2 ?_ | refine zg3 ?_
      simp -dsimp only [simprocAttr, ↓vpre, zp]
      refine .inl ⟨_, free_spec q, by first | (simp only [uptoL, AVal.upto, zt, zu, any_upto, rows_upto]; done) | (simp [uptoL, AVal.upto, zu, any_upto, rows_upto]; done), later_intro ?_⟩
      simp -dsimp only [simprocAttr, ↓vpre, zp]
      have e : lefts p.n (rows.take (k + 1)) = if q.free || decide (q.n = p.n) then lefts p.n (rows.take k) ++ [r'] else lefts p.n (rows.take k) := by
       rw [take_next hr, lefts_append, lefts]
       split <;> simp [lefts]
      refine vcIf_split (fun h => ?_) (fun h => ?_)
      ·have hqf : q.free = false := by simpa using h
       simp -dsimp only [simprocAttr, ↓vpre, zp, hqf, h]
       refine ⟨by (show orderB _ _ = true); kernel_rfl, at_intro ?_⟩
       simp -dsimp only [vend, ne_eq, Nat.reduceEqDiff, reduceCtorEq]
       first | refine zk1 rfl (fun h => ?_) (fun h => ?_) | refine zk0 rfl (fun h => ?_) (fun h => ?_) | refine zk2 rfl (fun h => ?_) (fun h => ?_)
       ·have hqn : q.n = p.n := by simpa using h
        rw [hqf, hqn] at e
        simp only [Bool.false_or, decide_true, if_true] at e
        first | refine zg1 ?_ | refine zg0 ?_ | refine zg2 ?_ | refine zg3 ?_
        simp -dsimp only [simprocAttr, ↓vpre, zp, List.take_length, List.drop_one, List.tail_cons]
        repeat (refine ⟨by omega, ?_⟩)
        refine at_intro ?_
        simp -dsimp only [vend, ne_eq, Nat.reduceEqDiff, reduceCtorEq]
        first | refine zg1 ?_ | refine zg0 ?_ | refine zg2 ?_ | refine zg3 ?_
        simp -dsimp only [simprocAttr, ↓vpre, zp]
        repeat (refine ⟨by omega, ?_⟩)
        refine at_intro ?_
        simp -dsimp only [vend, ne_eq, Nat.reduceEqDiff, reduceCtorEq]
        refine ⟨⟨k + 1, hlt⟩, by simp; omega, ?_⟩
        refine ⟨rfl, ?_, ?_⟩
        rotate_left
        simp -dsimp only [simprocAttr, ↓vpre, zp, Says, exists_eq_left', Option.some.injEq, sub_self, and_assoc, true_and, and_true]
        ·exact ⟨Sub.int (by simp), Sub.lst (by simp [e])⟩
        ·simp [e]
       ·have hqn : ¬ q.n = p.n := by simpa using h
        rw [hqf] at e
        simp only [Bool.false_or, hqn, decide_false, Bool.false_eq_true, if_false] at e
        refine awp_skip ?_
        simp -dsimp only [vend, ne_eq, Nat.reduceEqDiff, reduceCtorEq]
        first | refine zg1 ?_ | refine zg0 ?_ | refine zg2 ?_ | refine zg3 ?_
        simp -dsimp only [simprocAttr, ↓vpre, zp]
        repeat (refine ⟨by omega, ?_⟩)
        refine at_intro ?_
        simp -dsimp only [vend, ne_eq, Nat.reduceEqDiff, reduceCtorEq]
        refine ⟨⟨k + 1, hlt⟩, by simp; omega, ?_⟩
        refine ⟨rfl, ?_, ?_⟩
        rotate_left
        simp -dsimp only [simprocAttr, ↓vpre, zp, Says, exists_eq_left', Option.some.injEq, sub_self, and_assoc, true_and, and_true]
        ·exact ⟨Sub.int (by simp), Sub.lst (by rw [e])⟩
        ·simp [e]
      ·have hqf : q.free = true := by simpa using h
       simp -dsimp only [simprocAttr, ↓vpre, zp, hqf, h]
       refine ⟨by (show orderB _ _ = true); kernel_rfl, at_intro ?_⟩
       simp -dsimp only [vend, ne_eq, Nat.reduceEqDiff, reduceCtorEq]
       rw [hqf] at e
       simp only [Bool.true_or, if_true] at e
       first | refine zk1 rfl (fun h => ?_) (fun h => ?_) | refine zk0 rfl (fun h => ?_) (fun h => ?_) | refine zk2 rfl (fun h => ?_) (fun h => ?_)
       ·first | refine zg1 ?_ | refine zg0 ?_ | refine zg2 ?_ | refine zg3 ?_
        simp -dsimp only [simprocAttr, ↓vpre, zp, List.take_length, List.drop_one, List.tail_cons]
        repeat (refine ⟨by omega, ?_⟩)
        refine at_intro ?_
        simp -dsimp only [vend, ne_eq, Nat.reduceEqDiff, reduceCtorEq]
        first | refine zg1 ?_ | refine zg0 ?_ | refine zg2 ?_ | refine zg3 ?_
        simp -dsimp only [simprocAttr, ↓vpre, zp]
        repeat (refine ⟨by omega, ?_⟩)
        refine at_intro ?_
        simp -dsimp only [vend, ne_eq, Nat.reduceEqDiff, reduceCtorEq]
        refine ⟨⟨k + 1, hlt⟩, by simp; omega, ?_⟩
        refine ⟨rfl, ?_, ?_⟩
        rotate_left
        simp -dsimp only [simprocAttr, ↓vpre, zp, Says, exists_eq_left', Option.some.injEq, sub_self, and_assoc, true_and, and_true]
        ·exact ⟨Sub.int (by simp), Sub.lst (by simp [e])⟩
        ·simp [e]
       ·cases h
     ·refine awp_exit ?_
      simp -dsimp only [vend, ne_eq, Nat.reduceEqDiff, reduceCtorEq]
      have hkk : k = rows.length := by simp at h; omega
      subst hkk
      first | refine zg1 ?_ | refine zg0 ?_ | refine zg2 ?_ | refine zg3 ?_
      simp -dsimp only [simprocAttr, ↓vpre, zp, List.take_length, List.drop_one, List.tail_cons]
      refine .inl ⟨_, hcall, by first | (simp only [uptoL, AVal.upto, zt, zu, any_upto, rows_upto]; done) | (simp [uptoL, AVal.upto, zu, any_upto, rows_upto]; done), later_intro ?_⟩
      simp -dsimp only [simprocAttr, ↓vpre, zp]
      refine ⟨by (show orderB _ _ = true); kernel_rfl, at_intro ?_⟩
      simp -dsimp only [vend, ne_eq, Nat.reduceEqDiff, reduceCtorEq]
      refine awp_ret ?_
      simp -dsimp only [simprocAttr, ↓vpre, zp, RetTo, Try.results29, retVals, retVal, mkRet, AVal.upto, Nat.zero_le, Nat.le_refl, seqPost_ret, blockPost_ret, loopPost_ret]
   ·simp [h2] at h

theorem useful_free {t : Tbl} (hT0 : TblOK t) (hF : FitD t.datas) (fu : Nat) (ih : UsefulOK t fu) (rows : List (List Pat)) (p : Pat) (x : List Pat) (ty : Ty) (tys : List Ty) (hfu : wtR rows + wtL (p :: x) + (p :: x).length < fu + 1) (hty : TypedR t rows (ty :: tys)) (hx : HasTyL t x tys)
  (hw : WfL t (ty :: tys)) (hs : SmallR rows) (hsl : SmallL (p :: x)) (hb : fu + 1 ≤ 2 ^ 19) (hk3 : ¬ p.kind = 3) (hk2 : ¬ p.kind = 2) : PCall Try.prog 29 [t.enc, eRR rows, eR (p :: x)] (.v (.bool (t.usefulF (fu + 1) rows (p :: x)))) := by
 rw [Tbl.usefulF, if_neg hk3, if_neg hk2]
 have hl64 := hs.1
 simp only [wtL, List.length_cons] at hfu
 have hwt : WfTy t ty := hw ty (by simp)
 have hwl : WfL t tys := fun y hy => hw y (by simp [hy])
 have hfl := firsts_len rows
 have hab := absent_spec hT0 hF hty.firsts (by omega)
 have hlx := hx.len
 refine ecall_of hT true 0 Try.func29 rfl (by kernel_rfl) (by simp [Try.ntmps29]) (by simp) ?_
 show AWP Try.prog _ _ _ ⟨138, _, _⟩
 dsimp only [Tmp, TypeId, slotsOf]
 first | refine zg1 ?_ | refine zg0 ?_ | refine zg2 ?_ | refine zg3 ?_
 simp -dsimp only [simprocAttr, ↓vpre, zp]
 refine at_intro ?_
 simp -dsimp only [vend, ne_eq, Nat.reduceEqDiff, reduceCtorEq]
 first | refine zg1 ?_ | refine zg0 ?_ | refine zg2 ?_ | refine zg3 ?_
 simp -dsimp only [simprocAttr, ↓vpre, zp]
 refine at_intro ?_
 simp -dsimp only [vend, ne_eq, Nat.reduceEqDiff, reduceCtorEq]
 first | refine zk1 rfl (fun h => ?_) (fun h => ?_) | refine zk0 rfl (fun h => ?_) (fun h => ?_) | refine zk2 rfl (fun h => ?_) (fun h => ?_)
 ·simp at h
  omega
 ·refine awp_skip ?_
  simp -dsimp only [vend, ne_eq, Nat.reduceEqDiff, reduceCtorEq]
  first | refine zg1 ?_ | refine zg0 ?_ | refine zg2 ?_ | refine zg3 ?_
  simp -dsimp only [simprocAttr, ↓vpre, zp]
  refine at_intro ?_
  simp -dsimp only [vend, ne_eq, Nat.reduceEqDiff, reduceCtorEq]
  first | refine awp_seq (awp_block ?_) | refine awp_block ?_
  first | refine zg1 ?_ | refine zg0 ?_ | refine zg2 ?_ | refine zg3 ?_
  simp -dsimp only [simprocAttr, ↓vpre, zp]
  refine at_intro ?_
  simp -dsimp only [vend, ne_eq, Nat.reduceEqDiff, reduceCtorEq]
  first | refine zk1 rfl (fun h => ?_) (fun h => ?_) | refine zk0 rfl (fun h => ?_) (fun h => ?_) | refine zk2 rfl (fun h => ?_) (fun h => ?_)
  ·have : p.kind = 3 := by simpa using h
   exact absurd this hk3
  ·first | refine zg1 ?_ | refine zg0 ?_ | refine zg2 ?_ | refine zg3 ?_
   simp -dsimp only [simprocAttr, ↓vpre, zp]
   refine at_intro ?_
   simp -dsimp only [vend, ne_eq, Nat.reduceEqDiff, reduceCtorEq]
   first | refine zk1 rfl (fun h => ?_) (fun h => ?_) | refine zk0 rfl (fun h => ?_) (fun h => ?_) | refine zk2 rfl (fun h => ?_) (fun h => ?_)
   ·have : p.kind = 2 := by simpa using h
    exact absurd this hk2
   ·refine awp_skip ?_
    simp -dsimp only [vend, ne_eq, Nat.reduceEqDiff, reduceCtorEq]
    first | refine zg1 ?_ | refine zg0 ?_ | refine zg2 ?_ | refine zg3 ?_
    simp -dsimp only [simprocAttr, ↓vpre, zp]
    refine .inl ⟨_, (first_spec rows (by omega) (fun r hr => (hty.ne r hr).1)), by first | (simp only [uptoL, AVal.upto, zt, zu, any_upto, rows_upto]; done) | (simp [uptoL, AVal.upto, zu, any_upto, rows_upto]; done), later_intro ?_⟩
    simp -dsimp only [simprocAttr, ↓vpre, zp]
    refine at_intro ?_
    simp -dsimp only [vend, ne_eq, Nat.reduceEqDiff, reduceCtorEq]
    cases absent_out hT0 hwt hty.firsts with
    | some q hq h1 h2 =>
     rw [hq] at hab ⊢
     have hr := rests_wt rows
     have hcall := ih (rests rows) x tys (by omega) hty.rests hx hwl hs.rests hsl.tail (by omega)
     first | refine zg1 ?_ | refine zg0 ?_ | refine zg2 ?_ | refine zg3 ?_
     simp -dsimp only [simprocAttr, ↓vpre, zp]
     refine .inl ⟨_, hab, by first | (simp only [uptoL, AVal.upto, zt, zu, any_upto, rows_upto]; done) | (simp [uptoL, AVal.upto, zu, any_upto, rows_upto]; done), later_intro ?_⟩
     simp -dsimp only [simprocAttr, ↓vpre, zp, absentRes]
     refine at_intro ?_
     simp -dsimp only [vend, ne_eq, Nat.reduceEqDiff, reduceCtorEq]
     first | refine zg1 ?_ | refine zg0 ?_ | refine zg2 ?_ | refine zg3 ?_
     simp -dsimp only [simprocAttr, ↓vpre, zp]
     refine at_intro ?_
     simp -dsimp only [vend, ne_eq, Nat.reduceEqDiff, reduceCtorEq]
     first | refine zk1 rfl (fun h => ?_) (fun h => ?_) | refine zk0 rfl (fun h => ?_) (fun h => ?_) | refine zk2 rfl (fun h => ?_) (fun h => ?_)
     ·first | refine zg1 ?_ | refine zg0 ?_ | refine zg2 ?_ | refine zg3 ?_
      simp -dsimp only [simprocAttr, ↓vpre, zp, List.take_length, List.drop_one, List.tail_cons]
      refine .inl ⟨_, (rest_spec rows (by omega) (fun r hr => (hty.ne r hr).1)), by first | (simp only [uptoL, AVal.upto, zt, zu, any_upto, rows_upto]; done) | (simp [uptoL, AVal.upto, zu, any_upto, rows_upto]; done), later_intro ?_⟩
      simp -dsimp only [simprocAttr, ↓vpre, zp, List.take_length, List.drop_one, List.tail_cons]
      repeat (refine ⟨by omega, ?_⟩)
      refine .inl ⟨_, hcall, by first | (simp only [uptoL, AVal.upto, zt, zu, any_upto, rows_upto]; done) | (simp [uptoL, AVal.upto, zu, any_upto, rows_upto]; done), later_intro ?_⟩
      simp -dsimp only [simprocAttr, ↓vpre, zp]
      repeat (refine ⟨by omega, ?_⟩)
      refine ⟨by (show orderB _ _ = true); kernel_rfl, at_intro ?_⟩
      simp -dsimp only [vend, ne_eq, Nat.reduceEqDiff, reduceCtorEq]
      refine awp_ret ?_
      simp -dsimp only [simprocAttr, ↓vpre, zp, RetTo, Try.results29, retVals, retVal, mkRet, AVal.upto, Nat.zero_le, Nat.le_refl, seqPost_ret, blockPost_ret, loopPost_ret]
     ·cases h
    | none hq i f d q r hl ht hd hp hall h3 =>
     rw [hq] at hab ⊢
     subst ht
     rw [hl] at hab ⊢
     simp only [hp, hd]
     first | refine zg1 ?_ | refine zg0 ?_ | refine zg2 ?_ | refine zg3 ?_
     simp -dsimp only [simprocAttr, ↓vpre, zp]
     refine .inl ⟨_, hab, by first | (simp only [uptoL, AVal.upto, zt, zu, any_upto, rows_upto]; done) | (simp [uptoL, AVal.upto, zu, any_upto, rows_upto]; done), later_intro ?_⟩
     simp -dsimp only [simprocAttr, ↓vpre, zp, absentRes]
     refine at_intro ?_
     simp -dsimp only [vend, ne_eq, Nat.reduceEqDiff, reduceCtorEq]
     first | refine zg1 ?_ | refine zg0 ?_ | refine zg2 ?_ | refine zg3 ?_
     simp -dsimp only [simprocAttr, ↓vpre, zp]
     refine at_intro ?_
     simp -dsimp only [vend, ne_eq, Nat.reduceEqDiff, reduceCtorEq]
     first | refine zk1 rfl (fun h => ?_) (fun h => ?_) | refine zk0 rfl (fun h => ?_) (fun h => ?_) | refine zk2 rfl (fun h => ?_) (fun h => ?_)
     ·cases h
     ·refine awp_skip ?_
      simp -dsimp only [vend, ne_eq, Nat.reduceEqDiff, reduceCtorEq]
      have hd' : t.datas[((find t.cons q.name).getD K.zero).data]? = some d := by
       rw [← hd, ← hp]
       rfl
      first | refine zg1 ?_ | refine zg0 ?_ | refine zg2 ?_ | refine zg3 ?_
      simp -dsimp only [simprocAttr, ↓vpre, zp, zero_K', hd']
      refine ⟨by (show orderB _ _ = true); kernel_rfl, at_intro ?_⟩
      simp -dsimp only [vend, ne_eq, Nat.reduceEqDiff, reduceCtorEq]
      refine awp_len 115 rfl (fun hlc => ?_)
      simp only [List.length_map] at hlc
      have key : ∀ c ∈ d.cons, c.args.length ≤ 400 ∧ PCall Try.prog 29 [t.enc, eRR (narrows c.name c.args.length rows), eR (List.replicate c.args.length Pat.any ++ x)] (.v (.bool (t.usefulF fu (narrows c.name c.args.length rows) (List.replicate c.args.length Pat.any ++ x)))) := fun c hc => by
       obtain ⟨k1, k2⟩ := hty.con hT0 hwt hd hc
       have k3 := narrows_wt_lt c.name c.args.length rows (fun p hp => (k2 p hp).2) (hall c hc)
       have k4 := hty.narrows c.name
       have ha := HasTyL.anys (t := t) (tys := f c.name)
       rw [k1] at k4 ha
       refine ⟨?_, ih (narrows c.name c.args.length rows) _ (f c.name ++ tys) (by rw [wtL_append, wtL_any, List.length_append, List.length_replicate]; omega) k4 (ha.append hx) (hw.con hd hc) (hs.narrows _ _) hsl.tail.anys (by omega)⟩
       obtain ⟨q, hq, hn⟩ := hall c hc
       rw [← (k2 q hq).2 hn]
       obtain ⟨_, x, hx⟩ := mem_firsts.1 hq
       exact hs.args _ hx q (by simp)
      first | refine awp_block (awp_loop (ι := {k : Nat // k ≤ d.cons.length ∧ (d.cons.any fun c => t.usefulF fu (narrows c.name c.args.length rows) (List.replicate c.args.length Pat.any ++ x)) = ((d.cons.drop k).any fun c => t.usefulF fu (narrows c.name c.args.length rows) (List.replicate c.args.length Pat.any ++ x))}) (fun k => ⟨138, [(1, eRR rows), (2, eR (p :: x)), (3, .mp 0 0), (115, eC d.cons), (116, aI d.cons.length), (117, aI k.1)], [.cells [.lst 3 (t.datas.map Data.enc) .sh, .im .str (t.cons.map entry)], .cells [.v (.int .i64 Pat.any.kind), .v (.string Pat.any.name), .v (.int .i64 Pat.any.n), .lst 4 (Pat.any.args.map Pat.enc) .sh]]⟩) (fun k => d.cons.length - k.1) ⟨0, by omega, rfl⟩ ?_ ?_) | refine awp_seq (awp_block (awp_loop (ι := {k : Nat // k ≤ d.cons.length ∧ (d.cons.any fun c => t.usefulF fu (narrows c.name c.args.length rows) (List.replicate c.args.length Pat.any ++ x)) = ((d.cons.drop k).any fun c => t.usefulF fu (narrows c.name c.args.length rows) (List.replicate c.args.length Pat.any ++ x))}) (fun k => ⟨138, [(1, eRR rows), (2, eR (p :: x)), (3, .mp 0 0), (115, eC d.cons), (116, aI d.cons.length), (117, aI k.1)], [.cells [.lst 3 (t.datas.map Data.enc) .sh, .im .str (t.cons.map entry)], .cells [.v (.int .i64 Pat.any.kind), .v (.string Pat.any.name), .v (.int .i64 Pat.any.n), .lst 4 (Pat.any.args.map Pat.enc) .sh]]⟩) (fun k => d.cons.length - k.1) ⟨0, by omega, rfl⟩ ?_ ?_))
      ·refine ⟨rfl, ?_, ?_⟩
       rotate_left
       simp -dsimp only [simprocAttr, ↓vpre, zp, Says, exists_eq_left', Option.some.injEq, sub_self, and_assoc, true_and, and_true]
       rfl
      ·rintro ⟨k, hkl, he⟩
       first | refine zg1 ?_ | refine zg0 ?_ | refine zg2 ?_ | refine zg3 ?_
       simp -dsimp only [simprocAttr, ↓vpre, zp]
       refine at_intro ?_
       simp -dsimp only [vend, ne_eq, Nat.reduceEqDiff, reduceCtorEq]
       first | refine zk1 rfl (fun h => ?_) (fun h => ?_) | refine zk0 rfl (fun h => ?_) (fun h => ?_) | refine zk2 rfl (fun h => ?_) (fun h => ?_)
       ·refine awp_skip ?_
        simp -dsimp only [vend, ne_eq, Nat.reduceEqDiff, reduceCtorEq]
        have hlt : k < d.cons.length := by simpa using h
        obtain ⟨c, hc⟩ : ∃ c : Con, d.cons[k]? = some c := ⟨d.cons[k], by simp [hlt]⟩
        have hdrop : d.cons.drop k = c :: d.cons.drop (k + 1) := by
         rw [List.drop_eq_getElem_cons hlt]
         rw [List.getElem?_eq_getElem hlt] at hc
         simp only [Option.some.injEq] at hc
         rw [hc]
        rw [hdrop, List.any_cons] at he
        obtain ⟨h400, hcall⟩ := key c (List.mem_of_getElem? hc)
        first | refine awp_seq (awp_block ?_) | refine awp_block ?_
        first | refine zg1 ?_ | refine zg0 ?_ | refine zg2 ?_ | refine zg3 ?_
        simp -dsimp only [simprocAttr, ↓vpre, zp, hc]
        refine at_intro ?_
        simp -dsimp only [vend, ne_eq, Nat.reduceEqDiff, reduceCtorEq]
        first | refine zg1 ?_ | refine zg0 ?_ | refine zg2 ?_ | refine zg3 ?_
        simp -dsimp only [simprocAttr, ↓vpre, zp]
        refine at_intro ?_
        simp -dsimp only [vend, ne_eq, Nat.reduceEqDiff, reduceCtorEq]
        first | refine zg1 ?_ | refine zg0 ?_ | refine zg2 ?_ | refine zg3 ?_
        simp -dsimp only [simprocAttr, ↓vpre, zp, List.take_length, List.drop_one, List.tail_cons]
        refine .inl ⟨_, (narrow_spec rows c.name c.args.length (by omega) (by omega) (fun r hr => (hty.ne r hr).1) (fun r hr => by have := (hty.ne r hr).2; omega) (fun r hr p hp => by have := hs.args r hr p hp; omega)), by first | (simp only [uptoL, AVal.upto, zt, zu, any_upto, rows_upto]; done) | (simp [uptoL, AVal.upto, zu, any_upto, rows_upto]; done), later_intro ?_⟩
        simp -dsimp only [simprocAttr, ↓vpre, zp, List.take_length, List.drop_one, List.tail_cons]
        refine .inl ⟨_, (anys_spec c.args.length (by omega)), by first | (simp only [uptoL, AVal.upto, zt, zu, any_upto, rows_upto]; done) | (simp [uptoL, AVal.upto, zu, any_upto, rows_upto]; done), later_intro ?_⟩
        simp -dsimp only [simprocAttr, ↓vpre, zp, List.take_length, List.drop_one, List.tail_cons]
        refine .inl ⟨_, (concat_spec [List.replicate c.args.length Pat.any, x] (by simp) (by simp [total]; omega)), by first | (simp only [uptoL, AVal.upto, zt, zu, any_upto, rows_upto]; done) | (simp [uptoL, AVal.upto, zu, any_upto, rows_upto]; done), later_intro ?_⟩
        simp -dsimp only [simprocAttr, ↓vpre, zp, List.flatten_cons, List.flatten_nil, List.append_nil]
        repeat (refine ⟨by omega, ?_⟩)
        refine .inl ⟨_, hcall, by first | (simp only [uptoL, AVal.upto, zt, zu, any_upto, rows_upto]; done) | (simp [uptoL, AVal.upto, zu, any_upto, rows_upto]; done), later_intro ?_⟩
        simp -dsimp only [simprocAttr, ↓vpre, zp]
        repeat (refine ⟨by omega, ?_⟩)
        refine ⟨by (show orderB _ _ = true); kernel_rfl, at_intro ?_⟩
        simp -dsimp only [vend, ne_eq, Nat.reduceEqDiff, reduceCtorEq]
        first | refine zk1 rfl (fun h => ?_) (fun h => ?_) | refine zk0 rfl (fun h => ?_) (fun h => ?_) | refine zk2 rfl (fun h => ?_) (fun h => ?_)
        ·have hu : t.usefulF fu (narrows c.name c.args.length rows) (List.replicate c.args.length Pat.any ++ x) = true := h
         rw [hu, Bool.true_or] at he
         first | refine zg1 ?_ | refine zg0 ?_ | refine zg2 ?_ | refine zg3 ?_
         simp -dsimp only [simprocAttr, ↓vpre, zp]
         refine at_intro ?_
         simp -dsimp only [vend, ne_eq, Nat.reduceEqDiff, reduceCtorEq]
         refine awp_ret ?_
         simp -dsimp only [simprocAttr, ↓vpre, zp, RetTo, Try.results29, retVals, retVal, mkRet, AVal.upto, Nat.zero_le, Nat.le_refl, seqPost_ret, blockPost_ret, loopPost_ret]
         rw [he]
        ·have hu : t.usefulF fu (narrows c.name c.args.length rows) (List.replicate c.args.length Pat.any ++ x) = false := h
         rw [hu, Bool.false_or] at he
         refine awp_skip ?_
         simp -dsimp only [vend, ne_eq, Nat.reduceEqDiff, reduceCtorEq]
         refine awp_trunc' 2 [(1, eRR rows), (2, eR (p :: x)), (3, .mp 0 0), (115, eC d.cons), (116, aI d.cons.length), (117, aI k)] (by first | omega | (simp; done) | (simp; omega)) (by first | omega | (simp; done) | (simp; omega)) [.cells [.lst 3 (t.datas.map Data.enc) .sh, .im .str (t.cons.map entry)], .cells [.v (.int .i64 Pat.any.kind), .v (.string Pat.any.name), .v (.int .i64 Pat.any.n), .lst 4 (Pat.any.args.map Pat.enc) .sh]] ?_ ?_ ?_ ?_ ?_
         ·rfl
         ·simp [AObj.upto, uptoL, AVal.upto, Data.map_upto, entry_upto, Pat.map_upto]
         ·simp -dsimp only [simprocAttr, ↓vpre, zp, Says, exists_eq_left', Option.some.injEq, sub_self, and_true]
         ·simp [AVal.upto, uptoL, rows_upto, Con.map_upto, Pat.map_upto, Pat.enc_upto]
         ·first | refine zg1 ?_ | refine zg0 ?_ | refine zg2 ?_ | refine zg3 ?_
          simp -dsimp only [simprocAttr, ↓vpre, zp]
          repeat (refine ⟨by omega, ?_⟩)
          refine at_intro ?_
          simp -dsimp only [vend, ne_eq, Nat.reduceEqDiff, reduceCtorEq]
          refine ⟨⟨k + 1, hlt, he⟩, by simp; omega, ?_⟩
          refine ⟨rfl, ?_, ?_⟩
          rotate_left
          simp -dsimp only [simprocAttr, ↓vpre, zp, Says, exists_eq_left', Option.some.injEq, sub_self, and_assoc, true_and, and_true]
          ·exact Sub.int (by simp)
          ·rfl
       ·refine awp_exit ?_
        simp -dsimp only [vend, ne_eq, Nat.reduceEqDiff, reduceCtorEq]
        have hkk : k = d.cons.length := by simp at h; omega
        subst hkk
        rw [List.drop_length] at he
        first | refine zg1 ?_ | refine zg0 ?_ | refine zg2 ?_ | refine zg3 ?_
        simp -dsimp only [simprocAttr, ↓vpre, zp]
        refine at_intro ?_
        simp -dsimp only [vend, ne_eq, Nat.reduceEqDiff, reduceCtorEq]
        refine awp_ret ?_
        simp -dsimp only [simprocAttr, ↓vpre, zp, RetTo, Try.results29, retVals, retVal, mkRet, AVal.upto, Nat.zero_le, Nat.le_refl, seqPost_ret, blockPost_ret, loopPost_ret]
        rw [he]
        rfl

theorem useful_spec {t : Tbl} (hT0 : TblOK t) (hF : FitD t.datas) : ∀ fu : Nat, UsefulOK t fu
 | 0, rows, row, tys, h, _, _, _, _, _, _ => by omega
 | fu + 1, rows, [], _, _, _, _, _, _, _, _ => useful_nil fu rows
 | fu + 1, rows, p :: x, tys0, h1, h2, h3, h4, h5, h6, h7 => by
  simp only [HasTyL] at h3
  obtain ⟨ty, tys, rfl, hp, hx⟩ := h3
  by_cases hk3 : p.kind = 3
  ·exact useful_con hT0 fu (useful_spec hT0 hF fu) rows p x ty tys h1 h2 hp hx h4 h5 h6 h7 hk3
  ·by_cases hk2 : p.kind = 2
   ·exact useful_int fu (useful_spec hT0 hF fu) rows p x ty tys h1 h2 hx h4 h5 h6 h7 hk2
   ·exact useful_free hT0 hF fu (useful_spec hT0 hF fu) rows p x ty tys h1 h2 hx h4 h5 h6 h7 hk3 hk2

end Go.Proofs.Ytakdmelemfnmdaa
end
