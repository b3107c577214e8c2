/-
  Texts bound together by a program of mine: T26, T27.
-/
import Derived.Test.YtakdmelemfnmdaaC4
set_option linter.all false

section
set_option linter.unusedSimpArgs false
set_option linter.unusedVariables false
set_option maxHeartbeats 1000000
set_option maxRecDepth 100000
-- !tab vtab
-- !upto Pat.enc_upto Pat.map_upto any_upto rows_upto Con.enc_upto Con.map_upto Data.enc_upto Data.map_upto Tbl.enc_upto entry_upto int_upto
namespace Go.Proofs.Ytakdmelemfnmdaa
open Go.Av

theorem patternsNames_law (datas : List Data) (hF : FitD datas) (rows : List (List Pat)) (columns : Int) (lo : IntKind.min .i64 ≤ columns) (hi : columns ≤ IntKind.max .i64) : PCall Try.prog 6 [eD datas, eRR rows, aI columns] (.v (.bool true)) := by
  have hm1 := Missing_spec hF rows columns
  have hm2 := Missing_spec hF (rows.map plainL) columns
  have hr1 := Redundant_spec hF rows
  have hr2 := Redundant_spec hF (rows.map plainL)
  have herr := missingE_err (datas := datas) (rows := rows) (columns := columns)
  have hmz := missingE_zero (datas := datas) (rows := rows) (columns := columns)
  have hmp := missing_plain (datas := datas) (rows := rows) (columns := columns)
  have hrp := redundant_plain (datas := datas) (rows := rows)
  have hsf := check_small (datas := datas) (rows := rows)
  obtain ⟨⟨l, e⟩, hq⟩ : ∃ q, q = missingE datas rows columns := ⟨_, rfl⟩
  obtain ⟨⟨r, e3⟩, hq3⟩ : ∃ q, q = redundantE datas rows := ⟨_, rfl⟩
  rw [← hq] at hm1 herr hmz hmp
  rw [← hq3] at hr1 hrp
  simp only at hm1 herr hmz hmp hr1 hrp
  refine ecall_of hT true 0 Try.func6 rfl (by kernel_rfl) (by simp [Try.ntmps6]) (by simp) ?_
  show AWP Try.prog _ _ _ ⟨83, _, _⟩
  dsimp only [Tmp, TypeId, slotsOf]
  first | refine zg1 ?_ | refine zg0 ?_ | refine zg2 ?_ | refine zg3 ?_
  simp -dsimp only [simprocAttr, ↓vpre, vpos, ne_eq, implies_true, vtab]
  refine at_intro ?_
  simp -dsimp only [vend, ne_eq, Nat.reduceEqDiff, reduceCtorEq]
  first | refine zg1 ?_ | refine zg0 ?_ | refine zg2 ?_ | refine zg3 ?_
  simp -dsimp only [simprocAttr, ↓vpre, vpos, ne_eq, implies_true, vtab]
  refine .inl ⟨_, patternsWork_spec, by first | (simp only [uptoL, AVal.upto, and_true, true_and, and_self, Pat.enc_upto, Pat.map_upto, any_upto, rows_upto, Con.enc_upto, Con.map_upto, Data.enc_upto, Data.map_upto, Tbl.enc_upto, entry_upto, int_upto]; done) | (simp [uptoL, AVal.upto, Pat.enc_upto, Pat.map_upto, any_upto, rows_upto, Con.enc_upto, Con.map_upto, Data.enc_upto, Data.map_upto, Tbl.enc_upto, entry_upto, int_upto]; done), later_intro ?_⟩
  simp -dsimp only [simprocAttr, ↓vpre, vpos, ne_eq, implies_true, vtab]
  refine at_intro ?_
  simp -dsimp only [vend, ne_eq, Nat.reduceEqDiff, reduceCtorEq]
  first | refine zk1 rfl (fun h => ?_) (fun h => ?_) | refine zk0 rfl (fun h => ?_) (fun h => ?_) | refine zk2 rfl (fun h => ?_) (fun h => ?_)
  · cases h
  · refine awp_skip ?_
    simp -dsimp only [vend, ne_eq, Nat.reduceEqDiff, reduceCtorEq]
    first | refine zg1 ?_ | refine zg0 ?_ | refine zg2 ?_ | refine zg3 ?_
    simp -dsimp only [simprocAttr, ↓vpre, vpos, ne_eq, implies_true, vtab]
    refine .inl ⟨_, hm1, by first | (simp only [uptoL, AVal.upto, and_true, true_and, and_self, Pat.enc_upto, Pat.map_upto, any_upto, rows_upto, Con.enc_upto, Con.map_upto, Data.enc_upto, Data.map_upto, Tbl.enc_upto, entry_upto, int_upto]; done) | (simp [uptoL, AVal.upto, Pat.enc_upto, Pat.map_upto, any_upto, rows_upto, Con.enc_upto, Con.map_upto, Data.enc_upto, Data.map_upto, Tbl.enc_upto, entry_upto, int_upto]; done), later_intro ?_⟩
    simp -dsimp only [simprocAttr, ↓vpre, vpos, ne_eq, implies_true, vtab]
    refine at_intro ?_
    simp -dsimp only [vend, ne_eq, Nat.reduceEqDiff, reduceCtorEq]
    first | refine zg1 ?_ | refine zg0 ?_ | refine zg2 ?_ | refine zg3 ?_
    simp -dsimp only [simprocAttr, ↓vpre, vpos, ne_eq, implies_true, vtab]
    refine at_intro ?_
    simp -dsimp only [vend, ne_eq, Nat.reduceEqDiff, reduceCtorEq]
    first | refine zk1 rfl (fun h => ?_) (fun h => ?_) | refine zk0 rfl (fun h => ?_) (fun h => ?_) | refine zk2 rfl (fun h => ?_) (fun h => ?_)
    · have hne : e ≠ 0 := by simpa using h
      have hl := herr hne
      subst hl
      first | refine zg1 ?_ | refine zg0 ?_ | refine zg2 ?_ | refine zg3 ?_
      simp -dsimp only [simprocAttr, ↓vpre, vpos, ne_eq, implies_true, vtab]
      refine at_intro ?_
      simp -dsimp only [vend, ne_eq, Nat.reduceEqDiff, reduceCtorEq]
      refine awp_ret ?_
      simp -dsimp only [simprocAttr, ↓vpre, vpos, ne_eq, implies_true, vtab, RetTo, Try.results6, retVals, retVal, mkRet, AVal.upto, Nat.zero_le, Nat.le_refl, seqPost_ret, blockPost_ret, loopPost_ret]
    · have he0 : e = 0 := by simpa using h
      subst he0
      obtain ⟨hc, _⟩ := hmz rfl
      obtain ⟨h64, hnod, _⟩ := small_facts (hsf hc)
      obtain ⟨he3, hrp2⟩ := hrp hc
      subst he3
      rw [hmp rfl] at hm2
      rw [hrp2] at hr2
      simp only at hm2 hr2
      clear hmp hrp hrp2 hq hq3 herr hmz hsf
      have hsp := samePats_refl l
      have hsi := sameInts_spec r r
      rw [show decide (r = r) = true by simp] at hsi
      refine awp_skip ?_
      simp -dsimp only [vend, ne_eq, Nat.reduceEqDiff, reduceCtorEq]
      first | refine zg1 ?_ | refine zg0 ?_ | refine zg2 ?_ | refine zg3 ?_
      simp -dsimp only [simprocAttr, ↓vpre, vpos, ne_eq, implies_true, vtab]
      refine at_intro ?_
      simp -dsimp only [vend, ne_eq, Nat.reduceEqDiff, reduceCtorEq]
      refine awp_own 9 rfl ?_
      simp -dsimp only [simprocAttr, ↓vpre, vpos, ne_eq, implies_true, vtab]
      refine awp_len 1 rfl (fun hrl => ?_)
      simp only [List.length_map] at hrl
      first | refine zg1 ?_ | refine zg0 ?_ | refine zg2 ?_ | refine zg3 ?_
      simp -dsimp only [simprocAttr, ↓vpre, vpos, ne_eq, implies_true, vtab]
      refine at_intro ?_
      simp -dsimp only [vend, ne_eq, Nat.reduceEqDiff, reduceCtorEq]
      first | refine awp_block (awp_loop (ι := {k : Nat // k ≤ rows.length}) (fun k => ⟨83, [(0, eD datas), (1, eRR rows), (2, aI columns), (7, eR l), (32, eRR rows), (33, aI rows.length), (34, aI k.1), (9, .lst 1 (((rows.take k.1).map plainL).map eR) (.tok 0))], [.spare (rows.take k.1).length]⟩) (fun k => rows.length - k.1) ⟨0, by omega⟩ ?_ ?_) | refine awp_seq (awp_block (awp_loop (ι := {k : Nat // k ≤ rows.length}) (fun k => ⟨83, [(0, eD datas), (1, eRR rows), (2, aI columns), (7, eR l), (32, eRR rows), (33, aI rows.length), (34, aI k.1), (9, .lst 1 (((rows.take k.1).map plainL).map eR) (.tok 0))], [.spare (rows.take k.1).length]⟩) (fun k => rows.length - k.1) ⟨0, by omega⟩ ?_ ?_))
      · refine ⟨rfl, ?_, ?_⟩
        rotate_left
        simp -dsimp only [simprocAttr, ↓vpre, vpos, ne_eq, implies_true, vtab, Says, exists_eq_left', Option.some.injEq, sub_self, and_assoc, true_and, and_true]
        rfl
      · rintro ⟨k, hk⟩
        first | refine zg1 ?_ | refine zg0 ?_ | refine zg2 ?_ | refine zg3 ?_
        simp -dsimp only [simprocAttr, ↓vpre, vpos, ne_eq, implies_true, vtab]
        refine at_intro ?_
        simp -dsimp only [vend, ne_eq, Nat.reduceEqDiff, reduceCtorEq]
        first | refine zk1 rfl (fun h => ?_) (fun h => ?_) | refine zk0 rfl (fun h => ?_) (fun h => ?_) | refine zk2 rfl (fun h => ?_) (fun h => ?_)
        · refine awp_skip ?_
          simp -dsimp only [vend, ne_eq, Nat.reduceEqDiff, reduceCtorEq]
          have hlt : k < rows.length := by simpa using h
          obtain ⟨x, hx⟩ : ∃ x, rows[k]? = some x := ⟨rows[k], by simp [hlt]⟩
          have hxm := List.mem_of_getElem? hx
          have hxn := nodesR_mem hxm
          have e : (rows.take (k + 1)).map plainL = (rows.take k).map plainL ++ [plainL x] := by
            rw [take_next hx]
            simp
          have htl : (rows.take k).length = k := by simp; omega
          have htl' : (rows.take (k + 1)).length = k + 1 := by simp; omega
          first | refine awp_seq (awp_block ?_) | refine awp_block ?_
          first | refine zg1 ?_ | refine zg0 ?_ | refine zg2 ?_ | refine zg3 ?_
          simp -dsimp only [simprocAttr, ↓vpre, vpos, ne_eq, implies_true, vtab, hx]
          refine at_intro ?_
          simp -dsimp only [vend, ne_eq, Nat.reduceEqDiff, reduceCtorEq]
          first | refine zg1 ?_ | refine zg0 ?_ | refine zg2 ?_ | refine zg3 ?_
          simp -dsimp only [simprocAttr, ↓vpre, vpos, ne_eq, implies_true, vtab]
          refine .inl ⟨_, (plain_spec x (by omega)), by first | (simp only [uptoL, AVal.upto, and_true, true_and, and_self, Pat.enc_upto, Pat.map_upto, any_upto, rows_upto, Con.enc_upto, Con.map_upto, Data.enc_upto, Data.map_upto, Tbl.enc_upto, entry_upto, int_upto]; done) | (simp [uptoL, AVal.upto, Pat.enc_upto, Pat.map_upto, any_upto, rows_upto, Con.enc_upto, Con.map_upto, Data.enc_upto, Data.map_upto, Tbl.enc_upto, entry_upto, int_upto]; done), later_intro ?_⟩
          simp -dsimp only [simprocAttr, ↓vpre, vpos, ne_eq, implies_true, vtab]
          repeat (refine ⟨by omega, ?_⟩)
          refine at_intro ?_
          simp -dsimp only [vend, ne_eq, Nat.reduceEqDiff, reduceCtorEq]
          first | refine zg1 ?_ | refine zg0 ?_ | refine zg2 ?_ | refine zg3 ?_
          simp -dsimp only [simprocAttr, ↓vpre, vpos, ne_eq, implies_true, vtab]
          repeat (refine ⟨by omega, ?_⟩)
          refine at_intro ?_
          simp -dsimp only [vend, ne_eq, Nat.reduceEqDiff, reduceCtorEq]
          refine ⟨⟨k + 1, hlt⟩, by simp; omega, ?_⟩
          refine ⟨rfl, ?_, ?_⟩
          rotate_left
          simp -dsimp only [simprocAttr, ↓vpre, vpos, ne_eq, implies_true, vtab, Says, exists_eq_left', Option.some.injEq, sub_self, and_assoc, true_and, and_true]
          · exact ⟨Sub.int (by simp), Sub.lst (by rw [e]; simp)⟩
          · simp [htl, htl']
        · refine awp_exit ?_
          simp -dsimp only [vend, ne_eq, Nat.reduceEqDiff, reduceCtorEq]
          have hkk : k = rows.length := by simp at h; omega
          subst hkk
          first | refine zg1 ?_ | refine zg0 ?_ | refine zg2 ?_ | refine zg3 ?_
          simp -dsimp only [simprocAttr, ↓vpre, vpos, ne_eq, implies_true, vtab, List.take_length]
          refine .inl ⟨_, hm2, by first | (simp only [uptoL, AVal.upto, and_true, true_and, and_self, Pat.enc_upto, Pat.map_upto, any_upto, rows_upto, Con.enc_upto, Con.map_upto, Data.enc_upto, Data.map_upto, Tbl.enc_upto, entry_upto, int_upto]; done) | (simp [uptoL, AVal.upto, Pat.enc_upto, Pat.map_upto, any_upto, rows_upto, Con.enc_upto, Con.map_upto, Data.enc_upto, Data.map_upto, Tbl.enc_upto, entry_upto, int_upto]; done), later_intro ?_⟩
          simp -dsimp only [simprocAttr, ↓vpre, vpos, ne_eq, implies_true, vtab]
          refine at_intro ?_
          simp -dsimp only [vend, ne_eq, Nat.reduceEqDiff, reduceCtorEq]
          first | refine zg1 ?_ | refine zg0 ?_ | refine zg2 ?_ | refine zg3 ?_
          simp -dsimp only [simprocAttr, ↓vpre, vpos, ne_eq, implies_true, vtab]
          refine .inl ⟨_, hr1, by first | (simp only [uptoL, AVal.upto, and_true, true_and, and_self, Pat.enc_upto, Pat.map_upto, any_upto, rows_upto, Con.enc_upto, Con.map_upto, Data.enc_upto, Data.map_upto, Tbl.enc_upto, entry_upto, int_upto]; done) | (simp [uptoL, AVal.upto, Pat.enc_upto, Pat.map_upto, any_upto, rows_upto, Con.enc_upto, Con.map_upto, Data.enc_upto, Data.map_upto, Tbl.enc_upto, entry_upto, int_upto]; done), later_intro ?_⟩
          simp -dsimp only [simprocAttr, ↓vpre, vpos, ne_eq, implies_true, vtab]
          refine at_intro ?_
          simp -dsimp only [vend, ne_eq, Nat.reduceEqDiff, reduceCtorEq]
          first | refine zg1 ?_ | refine zg0 ?_ | refine zg2 ?_ | refine zg3 ?_
          simp -dsimp only [simprocAttr, ↓vpre, vpos, ne_eq, implies_true, vtab, List.take_length]
          refine .inl ⟨_, hr2, by first | (simp only [uptoL, AVal.upto, and_true, true_and, and_self, Pat.enc_upto, Pat.map_upto, any_upto, rows_upto, Con.enc_upto, Con.map_upto, Data.enc_upto, Data.map_upto, Tbl.enc_upto, entry_upto, int_upto]; done) | (simp [uptoL, AVal.upto, Pat.enc_upto, Pat.map_upto, any_upto, rows_upto, Con.enc_upto, Con.map_upto, Data.enc_upto, Data.map_upto, Tbl.enc_upto, entry_upto, int_upto]; done), later_intro ?_⟩
          simp -dsimp only [simprocAttr, ↓vpre, vpos, ne_eq, implies_true, vtab]
          refine at_intro ?_
          simp -dsimp only [vend, ne_eq, Nat.reduceEqDiff, reduceCtorEq]
          first | refine zg1 ?_ | refine zg0 ?_ | refine zg2 ?_ | refine zg3 ?_
          simp -dsimp only [simprocAttr, ↓vpre, vpos, ne_eq, implies_true, vtab, eq_self]
          refine .inl ⟨_, hsp, by first | (simp only [uptoL, AVal.upto, and_true, true_and, and_self, Pat.enc_upto, Pat.map_upto, any_upto, rows_upto, Con.enc_upto, Con.map_upto, Data.enc_upto, Data.map_upto, Tbl.enc_upto, entry_upto, int_upto]; done) | (simp [uptoL, AVal.upto, Pat.enc_upto, Pat.map_upto, any_upto, rows_upto, Con.enc_upto, Con.map_upto, Data.enc_upto, Data.map_upto, Tbl.enc_upto, entry_upto, int_upto]; done), later_intro ?_⟩
          simp -dsimp only [simprocAttr, ↓vpre, vpos, ne_eq, implies_true, vtab, eq_self]
          refine .inl ⟨_, hsi, by first | (simp only [uptoL, AVal.upto, and_true, true_and, and_self, Pat.enc_upto, Pat.map_upto, any_upto, rows_upto, Con.enc_upto, Con.map_upto, Data.enc_upto, Data.map_upto, Tbl.enc_upto, entry_upto, int_upto]; done) | (simp [uptoL, AVal.upto, Pat.enc_upto, Pat.map_upto, any_upto, rows_upto, Con.enc_upto, Con.map_upto, Data.enc_upto, Data.map_upto, Tbl.enc_upto, entry_upto, int_upto]; done), later_intro ?_⟩
          simp -dsimp only [simprocAttr, ↓vpre, vpos, ne_eq, implies_true, vtab, eq_self]
          refine at_intro ?_
          simp -dsimp only [vend, ne_eq, Nat.reduceEqDiff, reduceCtorEq]
          refine awp_ret ?_
          simp -dsimp only [simprocAttr, ↓vpre, vpos, ne_eq, implies_true, vtab, RetTo, Try.results6, retVals, retVal, mkRet, AVal.upto, Nat.zero_le, Nat.le_refl, seqPost_ret, blockPost_ret, loopPost_ret]

end Go.Proofs.Ytakdmelemfnmdaa
end

section
set_option linter.unusedSimpArgs false
set_option linter.unusedVariables false
set_option maxHeartbeats 1000000
set_option maxRecDepth 100000
-- !tab vtab
-- !upto Pat.enc_upto Pat.map_upto any_upto rows_upto Con.enc_upto Con.map_upto Data.enc_upto Data.map_upto Tbl.enc_upto entry_upto int_upto
namespace Go.Proofs.Ytakdmelemfnmdaa
open Go.Av

theorem patternsTurned_law (datas : List Data) (hF : FitD datas) (rows : List (List Pat)) (columns : Int) (lo : IntKind.min .i64 ≤ columns) (hi : columns ≤ IntKind.max .i64) : PCall Try.prog 3 [eD datas, eRR rows, aI columns] (.v (.bool true)) := by
  have hm1 := Missing_spec hF rows columns
  have hm2 := Missing_spec hF (rows.map (swapRow columns.toNat)) columns
  have herr := missingE_err (datas := datas) (rows := rows) (columns := columns)
  have hmz := missingE_zero (datas := datas) (rows := rows) (columns := columns)
  have hsw := missing_swap (datas := datas) (rows := rows) (columns := columns)
  have hsf := check_small (datas := datas) (rows := rows)
  obtain ⟨⟨l, e⟩, hq⟩ : ∃ q, q = missingE datas rows columns := ⟨_, rfl⟩
  obtain ⟨⟨l2, e2⟩, hq2⟩ : ∃ q, q = missingE datas (rows.map (swapRow columns.toNat)) columns := ⟨_, rfl⟩
  rw [← hq] at hm1 herr hmz hsw
  rw [← hq2] at hm2 hsw
  simp only at hm1 herr hmz hm2 hsw
  clear hq hq2
  refine ecall_of hT true 0 Try.func3 rfl (by kernel_rfl) (by simp [Try.ntmps3]) (by simp) ?_
  show AWP Try.prog _ _ _ ⟨83, _, _⟩
  dsimp only [Tmp, TypeId, slotsOf]
  first | refine zg1 ?_ | refine zg0 ?_ | refine zg2 ?_ | refine zg3 ?_
  simp -dsimp only [simprocAttr, ↓vpre, vpos, ne_eq, implies_true, vtab]
  refine at_intro ?_
  simp -dsimp only [vend, ne_eq, Nat.reduceEqDiff, reduceCtorEq]
  first | refine zg1 ?_ | refine zg0 ?_ | refine zg2 ?_ | refine zg3 ?_
  simp -dsimp only [simprocAttr, ↓vpre, vpos, ne_eq, implies_true, vtab]
  refine .inl ⟨_, patternsWork_spec, by first | (simp only [uptoL, AVal.upto, and_true, true_and, and_self, Pat.enc_upto, Pat.map_upto, any_upto, rows_upto, Con.enc_upto, Con.map_upto, Data.enc_upto, Data.map_upto, Tbl.enc_upto, entry_upto, int_upto]; done) | (simp [uptoL, AVal.upto, Pat.enc_upto, Pat.map_upto, any_upto, rows_upto, Con.enc_upto, Con.map_upto, Data.enc_upto, Data.map_upto, Tbl.enc_upto, entry_upto, int_upto]; done), later_intro ?_⟩
  simp -dsimp only [simprocAttr, ↓vpre, vpos, ne_eq, implies_true, vtab]
  refine at_intro ?_
  simp -dsimp only [vend, ne_eq, Nat.reduceEqDiff, reduceCtorEq]
  first | refine zk1 rfl (fun h => ?_) (fun h => ?_) | refine zk0 rfl (fun h => ?_) (fun h => ?_) | refine zk2 rfl (fun h => ?_) (fun h => ?_)
  · cases h
  · refine awp_skip ?_
    simp -dsimp only [vend, ne_eq, Nat.reduceEqDiff, reduceCtorEq]
    first | refine zg1 ?_ | refine zg0 ?_ | refine zg2 ?_ | refine zg3 ?_
    simp -dsimp only [simprocAttr, ↓vpre, vpos, ne_eq, implies_true, vtab]
    refine .inl ⟨_, hm1, by first | (simp only [uptoL, AVal.upto, and_true, true_and, and_self, Pat.enc_upto, Pat.map_upto, any_upto, rows_upto, Con.enc_upto, Con.map_upto, Data.enc_upto, Data.map_upto, Tbl.enc_upto, entry_upto, int_upto]; done) | (simp [uptoL, AVal.upto, Pat.enc_upto, Pat.map_upto, any_upto, rows_upto, Con.enc_upto, Con.map_upto, Data.enc_upto, Data.map_upto, Tbl.enc_upto, entry_upto, int_upto]; done), later_intro ?_⟩
    simp -dsimp only [simprocAttr, ↓vpre, vpos, ne_eq, implies_true, vtab]
    refine at_intro ?_
    simp -dsimp only [vend, ne_eq, Nat.reduceEqDiff, reduceCtorEq]
    first | refine zg1 ?_ | refine zg0 ?_ | refine zg2 ?_ | refine zg3 ?_
    simp -dsimp only [simprocAttr, ↓vpre, vpos, ne_eq, implies_true, vtab]
    refine vcIf_split (fun h1 => ?_) (fun h1 => ?_)
    · have he0 : e = 0 := by simpa using h1
      subst he0
      simp -dsimp only [simprocAttr, ↓vpre, vpos, ne_eq, implies_true, vtab, eq_self]
      refine at_intro ?_
      simp -dsimp only [vend, ne_eq, Nat.reduceEqDiff, reduceCtorEq]
      first | refine zk1 rfl (fun h => ?_) (fun h => ?_) | refine zk0 rfl (fun h => ?_) (fun h => ?_) | refine zk2 rfl (fun h => ?_) (fun h => ?_)
      · first | refine zg1 ?_ | refine zg0 ?_ | refine zg2 ?_ | refine zg3 ?_
        simp -dsimp only [simprocAttr, ↓vpre, vpos, ne_eq, implies_true, vtab, eq_self]
        refine at_intro ?_
        simp -dsimp only [vend, ne_eq, Nat.reduceEqDiff, reduceCtorEq]
        refine awp_ret ?_
        simp -dsimp only [simprocAttr, ↓vpre, vpos, ne_eq, implies_true, vtab, RetTo, Try.results3, retVals, retVal, mkRet, AVal.upto, Nat.zero_le, Nat.le_refl, seqPost_ret, blockPost_ret, loopPost_ret]
      · have hc2 : 2 ≤ columns := by simpa using h
        obtain ⟨hc, _, hc16, t, _, _, tys, hty, hst, hlens⟩ := hmz rfl
        obtain ⟨h64, hnod, _⟩ := small_facts (hsf hc)
        obtain ⟨he2, hiff⟩ := hsw rfl hc2
        subst he2
        have hlen : ∀ r ∈ rows, r.length = columns.toNat := fun r hr => by
          rw [hlens r hr]
          omega
        clear hsw hmz herr hsf
        refine awp_skip ?_
        simp -dsimp only [vend, ne_eq, Nat.reduceEqDiff, reduceCtorEq]
        first | refine zg1 ?_ | refine zg0 ?_ | refine zg2 ?_ | refine zg3 ?_
        simp -dsimp only [simprocAttr, ↓vpre, vpos, ne_eq, implies_true, vtab]
        refine at_intro ?_
        simp -dsimp only [vend, ne_eq, Nat.reduceEqDiff, reduceCtorEq]
        refine awp_own 9 rfl ?_
        simp -dsimp only [simprocAttr, ↓vpre, vpos, ne_eq, implies_true, vtab]
        refine awp_len 1 rfl (fun hrl => ?_)
        simp only [List.length_map] at hrl
        first | refine zg1 ?_ | refine zg0 ?_ | refine zg2 ?_ | refine zg3 ?_
        simp -dsimp only [simprocAttr, ↓vpre, vpos, ne_eq, implies_true, vtab]
        refine at_intro ?_
        simp -dsimp only [vend, ne_eq, Nat.reduceEqDiff, reduceCtorEq]
        first | refine awp_block (awp_loop (ι := {k : Nat // k ≤ rows.length}) (fun k => ⟨83, [(0, eD datas), (1, eRR rows), (2, aI columns), (7, eR l), (37, eRR rows), (38, aI rows.length), (39, aI k.1), (9, .lst 1 (((rows.take k.1).map (swapRow columns.toNat)).map eR) (.tok 0))], [.spare (rows.take k.1).length]⟩) (fun k => rows.length - k.1) ⟨0, by omega⟩ ?_ ?_) | refine awp_seq (awp_block (awp_loop (ι := {k : Nat // k ≤ rows.length}) (fun k => ⟨83, [(0, eD datas), (1, eRR rows), (2, aI columns), (7, eR l), (37, eRR rows), (38, aI rows.length), (39, aI k.1), (9, .lst 1 (((rows.take k.1).map (swapRow columns.toNat)).map eR) (.tok 0))], [.spare (rows.take k.1).length]⟩) (fun k => rows.length - k.1) ⟨0, by omega⟩ ?_ ?_))
        · refine ⟨rfl, ?_, ?_⟩
          rotate_left
          simp -dsimp only [simprocAttr, ↓vpre, vpos, ne_eq, implies_true, vtab, Says, exists_eq_left', Option.some.injEq, sub_self, and_assoc, true_and, and_true]
          rfl
        · rintro ⟨k, hk⟩
          first | refine zg1 ?_ | refine zg0 ?_ | refine zg2 ?_ | refine zg3 ?_
          simp -dsimp only [simprocAttr, ↓vpre, vpos, ne_eq, implies_true, vtab]
          refine at_intro ?_
          simp -dsimp only [vend, ne_eq, Nat.reduceEqDiff, reduceCtorEq]
          first | refine zk1 rfl (fun h => ?_) (fun h => ?_) | refine zk0 rfl (fun h => ?_) (fun h => ?_) | refine zk2 rfl (fun h => ?_) (fun h => ?_)
          · refine awp_skip ?_
            simp -dsimp only [vend, ne_eq, Nat.reduceEqDiff, reduceCtorEq]
            have hlt : k < rows.length := by simpa using h
            obtain ⟨x, hx⟩ : ∃ x, rows[k]? = some x := ⟨rows[k], by simp [hlt]⟩
            have hxm := List.mem_of_getElem? hx
            have hxl := hlen x hxm
            first | refine awp_seq (awp_block ?_) | refine awp_block ?_
            first | refine zg1 ?_ | refine zg0 ?_ | refine zg2 ?_ | refine zg3 ?_
            simp -dsimp only [simprocAttr, ↓vpre, vpos, ne_eq, implies_true, vtab, hx]
            refine at_intro ?_
            simp -dsimp only [vend, ne_eq, Nat.reduceEqDiff, reduceCtorEq]
            first | refine zm1 ?_ | refine zm0 ?_ | refine zm2 ?_
            simp -dsimp only [simprocAttr, ↓vpre, vpos, ne_eq, implies_true, vtab]
            refine ⟨by omega, by omega, by omega, ?_⟩
            refine at_intro ?_
            simp -dsimp only [vend, ne_eq, Nat.reduceEqDiff, reduceCtorEq]
            have hx2 : 2 ≤ x.length := by omega
            have hcc : (columns - 1).toNat = columns.toNat - 1 := by omega
            obtain ⟨a, ha⟩ : ∃ a, a = x.getD 0 Pat.any := ⟨_, rfl⟩
            obtain ⟨b, hb⟩ : ∃ b, b = x.getD (columns.toNat - 1) Pat.any := ⟨_, rfl⟩
            have hxa : x[0]? = some a := by
              rw [ha, List.getD_eq_getElem?_getD, List.getElem?_eq_getElem (by omega)]
              rfl
            have hxb : x[columns.toNat - 1]? = some b := by
              rw [hb, List.getD_eq_getElem?_getD, List.getElem?_eq_getElem (by omega)]
              rfl
            have hg0 : List.take 4 (cellsAll (List.map Pat.enc x)) = a.enc.cells := by
              have := Pat.row_get hxa
              rw [Nat.zero_mul, List.drop_zero] at this
              exact this
            have hg1 : List.take 4 (List.drop ((columns - 1).toNat * 4) (cellsAll (List.map Pat.enc x))) = b.enc.cells := by
              rw [hcc]
              exact Pat.row_get hxb
            have hs0 : splice (cellsAll (List.map Pat.enc x)) 0 [.v (.int .i64 b.kind), .v (.string b.name), .v (.int .i64 b.n), .lst 4 (b.args.map Pat.enc) .sh] = cellsAll ((x.set 0 b).map Pat.enc) := by
              have := Pat.row_set (l := x) (k := 0) (by omega) b
              rw [Nat.zero_mul, Pat.enc_cells] at this
              exact this
            have hs1 : splice (cellsAll ((x.set 0 b).map Pat.enc)) ((columns - 1).toNat * 4) [.v (.int .i64 a.kind), .v (.string a.name), .v (.int .i64 a.n), .lst 4 (a.args.map Pat.enc) .sh] = cellsAll ((swapRow columns.toNat x).map Pat.enc) := by
              have := Pat.row_set (l := x.set 0 b) (k := columns.toNat - 1) (by rw [List.length_set]; omega) a
              rw [Pat.enc_cells] at this
              rw [hcc, this, swapRow, ← ha, ← hb]
            have hlx : (cellsAll (List.map Pat.enc x)).length = x.length * 4 := Pat.row_len x
            have hlx2 : (cellsAll (List.map Pat.enc (x.set 0 b))).length = x.length * 4 := by rw [Pat.row_len, List.length_set]
            first | refine zg1 ?_ | refine zg0 ?_ | refine zg2 ?_ | refine zg3 ?_
            simp -dsimp only [simprocAttr, ↓vpre, vpos, ne_eq, implies_true, vtab, hg0, hg1, hs0, hs1]
            repeat (refine ⟨by omega, ?_⟩)
            refine ⟨by (show orderB _ _ = true); kernel_rfl, at_intro ?_⟩
            simp -dsimp only [vend, ne_eq, Nat.reduceEqDiff, reduceCtorEq]
            have hswl : (swapRow columns.toNat x).length = x.length := by rw [swapRow, List.length_set, List.length_set]
            refine awp_freeze1 12 1 (eR (swapRow columns.toNat x)) rfl (by simp [AObj.isSpare]) trivial rfl ?_ ?_
            rotate_left
            simp -dsimp only [simprocAttr, ↓vpre, vpos, ne_eq, implies_true, vtab]
            rotate_left
            · refine FSub.ms (sz := 4) rfl ?_ ?_ ?_
              · simp [Pat.enc_cells]
              · rw [List.length_map, hswl]
              · rw [List.drop_zero, List.take_of_length_le (by rw [Pat.row_len, hswl]; exact Nat.le_refl _), row_share]
            have e : (rows.take (k + 1)).map (swapRow columns.toNat) = (rows.take k).map (swapRow columns.toNat) ++ [swapRow columns.toNat x] := by
              rw [take_next hx]
              simp
            have htl : (rows.take k).length = k := by simp; omega
            have htl' : (rows.take (k + 1)).length = k + 1 := by simp; omega
            first | refine zg1 ?_ | refine zg0 ?_ | refine zg2 ?_ | refine zg3 ?_
            simp -dsimp only [simprocAttr, ↓vpre, vpos, ne_eq, implies_true, vtab]
            repeat (refine ⟨by omega, ?_⟩)
            refine at_intro ?_
            simp -dsimp only [vend, ne_eq, Nat.reduceEqDiff, reduceCtorEq]
            refine awp_trunc' 1 [(0, eD datas), (1, eRR rows), (2, aI columns), (7, eR l), (37, eRR rows), (38, aI rows.length), (39, aI k), (9, .lst 1 (((rows.take (k + 1)).map (swapRow columns.toNat)).map eR) (.tok 0))] (by first | omega | (simp; done) | (simp; omega)) (by first | omega | (simp; done) | (simp; omega)) [.spare (rows.take (k + 1)).length] ?_ ?_ ?_ ?_ ?_
            · simp [htl, htl']
            · simp [AObj.upto]
            · simp -dsimp only [simprocAttr, ↓vpre, vpos, ne_eq, implies_true, vtab, Says, exists_eq_left', Option.some.injEq, sub_self, and_true, true_and]
              exact Sub.lst (by rw [e]; simp)
            · simp only [List.mem_cons, List.not_mem_nil, or_false, forall_eq_or_imp, forall_eq, AVal.upto, uptoL, Pat.map_upto, rows_upto, Data.map_upto, and_true, true_and]
              omega
            · first | refine zg1 ?_ | refine zg0 ?_ | refine zg2 ?_ | refine zg3 ?_
              simp -dsimp only [simprocAttr, ↓vpre, vpos, ne_eq, implies_true, vtab]
              repeat (refine ⟨by omega, ?_⟩)
              refine at_intro ?_
              simp -dsimp only [vend, ne_eq, Nat.reduceEqDiff, reduceCtorEq]
              refine ⟨⟨k + 1, hlt⟩, by simp; omega, ?_⟩
              refine ⟨rfl, ?_, ?_⟩
              rotate_left
              simp -dsimp only [simprocAttr, ↓vpre, vpos, ne_eq, implies_true, vtab, Says, exists_eq_left', Option.some.injEq, sub_self, and_assoc, true_and, and_true]
              · exact Sub.int (by simp)
              · rfl
          · refine awp_exit ?_
            simp -dsimp only [vend, ne_eq, Nat.reduceEqDiff, reduceCtorEq]
            have hkk : k = rows.length := by simp at h; omega
            subst hkk
            have hab := len_iff hiff
            first | refine zg1 ?_ | refine zg0 ?_ | refine zg2 ?_ | refine zg3 ?_
            simp -dsimp only [simprocAttr, ↓vpre, vpos, ne_eq, implies_true, vtab, List.take_length]
            refine .inl ⟨_, hm2, by first | (simp only [uptoL, AVal.upto, and_true, true_and, and_self, Pat.enc_upto, Pat.map_upto, any_upto, rows_upto, Con.enc_upto, Con.map_upto, Data.enc_upto, Data.map_upto, Tbl.enc_upto, entry_upto, int_upto]; done) | (simp [uptoL, AVal.upto, Pat.enc_upto, Pat.map_upto, any_upto, rows_upto, Con.enc_upto, Con.map_upto, Data.enc_upto, Data.map_upto, Tbl.enc_upto, entry_upto, int_upto]; done), later_intro ?_⟩
            simp -dsimp only [simprocAttr, ↓vpre, vpos, ne_eq, implies_true, vtab]
            refine at_intro ?_
            simp -dsimp only [vend, ne_eq, Nat.reduceEqDiff, reduceCtorEq]
            first | refine zg1 ?_ | refine zg0 ?_ | refine zg2 ?_ | refine zg3 ?_
            simp -dsimp only [simprocAttr, ↓vpre, vpos, ne_eq, implies_true, vtab, eq_self]
            refine ⟨Try.underlying4, ?_⟩
            refine at_intro ?_
            simp -dsimp only [vend, ne_eq, Nat.reduceEqDiff, reduceCtorEq]
            refine awp_ret ?_
            simp -dsimp only [simprocAttr, ↓vpre, vpos, ne_eq, implies_true, vtab, RetTo, Try.results3, retVals, retVal, mkRet, AVal.upto, Nat.zero_le, Nat.le_refl, seqPost_ret, blockPost_ret, loopPost_ret, hab]
    · have hne : e ≠ 0 := by simpa using h1
      have hl := herr hne
      subst hl
      simp -dsimp only [simprocAttr, ↓vpre, vpos, ne_eq, implies_true, vtab, h1]
      refine at_intro ?_
      simp -dsimp only [vend, ne_eq, Nat.reduceEqDiff, reduceCtorEq]
      first | refine zk1 rfl (fun h => ?_) (fun h => ?_) | refine zk0 rfl (fun h => ?_) (fun h => ?_) | refine zk2 rfl (fun h => ?_) (fun h => ?_)
      · first | refine zg1 ?_ | refine zg0 ?_ | refine zg2 ?_ | refine zg3 ?_
        simp -dsimp only [simprocAttr, ↓vpre, vpos, ne_eq, implies_true, vtab]
        refine vcIf_split (fun h2 => ?_) (fun h2 => ?_)
        · simp -dsimp only [simprocAttr, ↓vpre, vpos, ne_eq, implies_true, vtab, h2]
          refine at_intro ?_
          simp -dsimp only [vend, ne_eq, Nat.reduceEqDiff, reduceCtorEq]
          refine awp_ret ?_
          simp -dsimp only [simprocAttr, ↓vpre, vpos, ne_eq, implies_true, vtab, RetTo, Try.results3, retVals, retVal, mkRet, AVal.upto, Nat.zero_le, Nat.le_refl, seqPost_ret, blockPost_ret, loopPost_ret]
        · have : e = 0 := by simpa using h2
          exact absurd this hne
      · cases h

end Go.Proofs.Ytakdmelemfnmdaa
end
