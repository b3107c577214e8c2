/-
  Texts bound together by a program of mine: T16, T17, M1, M2, M3, T18, T19, T20.
-/
import Derived.Test.YtakdmelemfnmdaaC3
set_option linter.all false

section
set_option linter.unusedSimpArgs false
set_option maxHeartbeats 1000000
set_option maxRecDepth 100000
-- !tab vtab
-- !upto Pat.enc_upto Pat.map_upto any_upto Con.enc_upto Con.map_upto Data.enc_upto Data.map_upto Tbl.enc_upto entry_upto
namespace Go.Proofs.Ytakdmelemfnmdaa
open Go.Av

/-- A list is the same as itself. -/
theorem samePats_refl (l : List Pat) : PCall Try.prog 16 [eR l, eR l] (.v (.bool true)) := by
  have ih : ∀ p ∈ l, PCall Try.prog 16 [eR p.args, eR p.args] (.v (.bool true)) := fun p hp => samePats_refl p.args
  refine ecall_of hT true 0 Try.func16 rfl (by kernel_rfl) (by simp [Try.ntmps16]) (by simp) ?_
  show AWP Try.prog _ _ _ ⟨52, _, _⟩
  dsimp only [Tmp, TypeId, slotsOf]
  first | refine awp_seq (awp_region hT hm ?_) | refine awp_region hT hm ?_ | refine awp_seq (awp_seq (awp_region hT hm ?_)) | refine awp_seq (awp_seq (awp_seq (awp_region hT hm ?_)))
  simp -dsimp only [↓vpre, vpos, Int.reduceNeg, Int.reduceLE, Int.reduceLT, reduceIte, Nat.reduceEqDiff, Nat.reduceLT, Nat.reduceLeDiff, Nat.reduceAdd, Nat.reduceMul, Nat.reduceSub, Nat.reducePow, ne_eq, Int.reduceAdd, Int.reduceSub, Int.reduceMul, Int.reduceToNat, implies_true, vtab]
  refine at_intro ?_
  simp -dsimp only [vend, ne_eq, Nat.reduceEqDiff, reduceCtorEq]
  first | refine awp_seq (awp_region hT hm ?_) | refine awp_region hT hm ?_ | refine awp_seq (awp_seq (awp_region hT hm ?_)) | refine awp_seq (awp_seq (awp_seq (awp_region hT hm ?_)))
  simp -dsimp only [↓vpre, vpos, Int.reduceNeg, Int.reduceLE, Int.reduceLT, reduceIte, Nat.reduceEqDiff, Nat.reduceLT, Nat.reduceLeDiff, Nat.reduceAdd, Nat.reduceMul, Nat.reduceSub, Nat.reducePow, ne_eq, Int.reduceAdd, Int.reduceSub, Int.reduceMul, Int.reduceToNat, implies_true, vtab, eq_self]
  refine at_intro ?_
  simp -dsimp only [vend, ne_eq, Nat.reduceEqDiff, reduceCtorEq]
  first | refine awp_seq (awp_cond rfl (fun h => ?_) (fun h => ?_)) | refine awp_cond rfl (fun h => ?_) (fun h => ?_) | refine awp_seq (awp_seq (awp_cond rfl (fun h => ?_) (fun h => ?_)))
  · cases h
  · refine awp_skip ?_
    simp -dsimp only [vend, ne_eq, Nat.reduceEqDiff, reduceCtorEq]
    refine awp_len 0 rfl (fun hlen => ?_)
    simp only [List.length_map] at hlen
    first | refine awp_seq (awp_region hT hm ?_) | refine awp_region hT hm ?_ | refine awp_seq (awp_seq (awp_region hT hm ?_)) | refine awp_seq (awp_seq (awp_seq (awp_region hT hm ?_)))
    simp -dsimp only [↓vpre, vpos, Int.reduceNeg, Int.reduceLE, Int.reduceLT, reduceIte, Nat.reduceEqDiff, Nat.reduceLT, Nat.reduceLeDiff, Nat.reduceAdd, Nat.reduceMul, Nat.reduceSub, Nat.reducePow, ne_eq, Int.reduceAdd, Int.reduceSub, Int.reduceMul, Int.reduceToNat, implies_true, vtab]
    refine at_intro ?_
    simp -dsimp only [vend, ne_eq, Nat.reduceEqDiff, reduceCtorEq]
    first | refine awp_block (awp_loop (ι := {k : Nat // k ≤ l.length}) (fun k => ⟨52, [(1, eR l), (13, eR l), (14, aI l.length), (15, aI k.1)], []⟩) (fun k => l.length - k.1) ⟨0, by omega⟩ ?_ ?_) | refine awp_seq (awp_block (awp_loop (ι := {k : Nat // k ≤ l.length}) (fun k => ⟨52, [(1, eR l), (13, eR l), (14, aI l.length), (15, aI k.1)], []⟩) (fun k => l.length - k.1) ⟨0, by omega⟩ ?_ ?_))
    · refine ⟨rfl, ?_, ?_⟩
      rotate_left
      simp -dsimp only [↓vpre, vpos, Int.reduceNeg, Int.reduceLE, Int.reduceLT, reduceIte, Nat.reduceEqDiff, Nat.reduceLT, Nat.reduceLeDiff, Nat.reduceAdd, Nat.reduceMul, Nat.reduceSub, Nat.reducePow, ne_eq, Int.reduceAdd, Int.reduceSub, Int.reduceMul, Int.reduceToNat, implies_true, vtab, Says, exists_eq_left', Option.some.injEq, sub_self, and_assoc, true_and, and_true]
      rfl
    · rintro ⟨k, hk⟩
      first | refine awp_seq (awp_region hT hm ?_) | refine awp_region hT hm ?_ | refine awp_seq (awp_seq (awp_region hT hm ?_)) | refine awp_seq (awp_seq (awp_seq (awp_region hT hm ?_)))
      simp -dsimp only [↓vpre, vpos, Int.reduceNeg, Int.reduceLE, Int.reduceLT, reduceIte, Nat.reduceEqDiff, Nat.reduceLT, Nat.reduceLeDiff, Nat.reduceAdd, Nat.reduceMul, Nat.reduceSub, Nat.reducePow, ne_eq, Int.reduceAdd, Int.reduceSub, Int.reduceMul, Int.reduceToNat, implies_true, vtab]
      refine at_intro ?_
      simp -dsimp only [vend, ne_eq, Nat.reduceEqDiff, reduceCtorEq]
      first | refine awp_seq (awp_cond rfl (fun h => ?_) (fun h => ?_)) | refine awp_cond rfl (fun h => ?_) (fun h => ?_) | refine awp_seq (awp_seq (awp_cond rfl (fun h => ?_) (fun h => ?_)))
      · refine awp_skip ?_
        simp -dsimp only [vend, ne_eq, Nat.reduceEqDiff, reduceCtorEq]
        have hlt : k < l.length := by simpa using h
        obtain ⟨p, hp⟩ : ∃ p, l[k]? = some p := ⟨l[k], by simp [hlt]⟩
        first | refine awp_seq (awp_block ?_) | refine awp_block ?_
        first | refine awp_seq (awp_region hT hm ?_) | refine awp_region hT hm ?_ | refine awp_seq (awp_seq (awp_region hT hm ?_)) | refine awp_seq (awp_seq (awp_seq (awp_region hT hm ?_)))
        simp -dsimp only [↓vpre, vpos, Int.reduceNeg, Int.reduceLE, Int.reduceLT, reduceIte, Nat.reduceEqDiff, Nat.reduceLT, Nat.reduceLeDiff, Nat.reduceAdd, Nat.reduceMul, Nat.reduceSub, Nat.reducePow, ne_eq, Int.reduceAdd, Int.reduceSub, Int.reduceMul, Int.reduceToNat, implies_true, vtab, hp]
        refine at_intro ?_
        simp -dsimp only [vend, ne_eq, Nat.reduceEqDiff, reduceCtorEq]
        first | refine awp_seq (awp_region hT hm ?_) | refine awp_region hT hm ?_ | refine awp_seq (awp_seq (awp_region hT hm ?_)) | refine awp_seq (awp_seq (awp_seq (awp_region hT hm ?_)))
        simp -dsimp only [↓vpre, vpos, Int.reduceNeg, Int.reduceLE, Int.reduceLT, reduceIte, Nat.reduceEqDiff, Nat.reduceLT, Nat.reduceLeDiff, Nat.reduceAdd, Nat.reduceMul, Nat.reduceSub, Nat.reducePow, ne_eq, Int.reduceAdd, Int.reduceSub, Int.reduceMul, Int.reduceToNat, implies_true, vtab, hp]
        refine at_intro ?_
        simp -dsimp only [vend, ne_eq, Nat.reduceEqDiff, reduceCtorEq]
        first | refine awp_seq (awp_region hT hm ?_) | refine awp_region hT hm ?_ | refine awp_seq (awp_seq (awp_region hT hm ?_)) | refine awp_seq (awp_seq (awp_seq (awp_region hT hm ?_)))
        simp -dsimp only [↓vpre, vpos, Int.reduceNeg, Int.reduceLE, Int.reduceLT, reduceIte, Nat.reduceEqDiff, Nat.reduceLT, Nat.reduceLeDiff, Nat.reduceAdd, Nat.reduceMul, Nat.reduceSub, Nat.reducePow, ne_eq, Int.reduceAdd, Int.reduceSub, Int.reduceMul, Int.reduceToNat, implies_true, vtab, eq_self]
        refine .inl ⟨_, (ih p (List.mem_of_getElem? hp)), by first | (simp only [uptoL, AVal.upto, and_true, true_and, and_self, Pat.enc_upto, Pat.map_upto, any_upto, Con.enc_upto, Con.map_upto, Data.enc_upto, Data.map_upto, Tbl.enc_upto, entry_upto]; done) | (simp [uptoL, AVal.upto, Pat.enc_upto, Pat.map_upto, any_upto, Con.enc_upto, Con.map_upto, Data.enc_upto, Data.map_upto, Tbl.enc_upto, entry_upto]; done), later_intro ?_⟩
        simp -dsimp only [↓vpre, vpos, Int.reduceNeg, Int.reduceLE, Int.reduceLT, reduceIte, Nat.reduceEqDiff, Nat.reduceLT, Nat.reduceLeDiff, Nat.reduceAdd, Nat.reduceMul, Nat.reduceSub, Nat.reducePow, ne_eq, Int.reduceAdd, Int.reduceSub, Int.reduceMul, Int.reduceToNat, implies_true, vtab]
        refine at_intro ?_
        simp -dsimp only [vend, ne_eq, Nat.reduceEqDiff, reduceCtorEq]
        first | refine awp_seq (awp_cond rfl (fun h => ?_) (fun h => ?_)) | refine awp_cond rfl (fun h => ?_) (fun h => ?_) | refine awp_seq (awp_seq (awp_cond rfl (fun h => ?_) (fun h => ?_)))
        · cases h
        · refine awp_skip ?_
          simp -dsimp only [vend, ne_eq, Nat.reduceEqDiff, reduceCtorEq]
          refine awp_trunc' 0 [(1, eR l), (13, eR l), (14, aI l.length), (15, aI k)] (by first | omega | (simp; done) | (simp; omega)) (by first | omega | (simp; done) | (simp; omega)) [] ?_ ?_ ?_ ?_ ?_
          · rfl
          · simp
          · simp -dsimp only [↓vpre, vpos, Int.reduceNeg, Int.reduceLE, Int.reduceLT, reduceIte, Nat.reduceEqDiff, Nat.reduceLT, Nat.reduceLeDiff, Nat.reduceAdd, Nat.reduceMul, Nat.reduceSub, Nat.reducePow, ne_eq, Int.reduceAdd, Int.reduceSub, Int.reduceMul, Int.reduceToNat, implies_true, vtab, Says, exists_eq_left', Option.some.injEq, sub_self, and_true]
          · simp [AVal.upto, uptoL, Pat.map_upto]
          · first | refine awp_seq (awp_region hT hm ?_) | refine awp_region hT hm ?_ | refine awp_seq (awp_seq (awp_region hT hm ?_)) | refine awp_seq (awp_seq (awp_seq (awp_region hT hm ?_)))
            simp -dsimp only [↓vpre, vpos, Int.reduceNeg, Int.reduceLE, Int.reduceLT, reduceIte, Nat.reduceEqDiff, Nat.reduceLT, Nat.reduceLeDiff, Nat.reduceAdd, Nat.reduceMul, Nat.reduceSub, Nat.reducePow, ne_eq, Int.reduceAdd, Int.reduceSub, Int.reduceMul, Int.reduceToNat, implies_true, vtab]
            refine ⟨by omega, by omega, ?_⟩
            refine at_intro ?_
            simp -dsimp only [vend, ne_eq, Nat.reduceEqDiff, reduceCtorEq]
            refine ⟨⟨k + 1, hlt⟩, by simp; omega, ?_⟩
            refine ⟨rfl, ?_, ?_⟩
            rotate_left
            simp -dsimp only [↓vpre, vpos, Int.reduceNeg, Int.reduceLE, Int.reduceLT, reduceIte, Nat.reduceEqDiff, Nat.reduceLT, Nat.reduceLeDiff, Nat.reduceAdd, Nat.reduceMul, Nat.reduceSub, Nat.reducePow, ne_eq, Int.reduceAdd, Int.reduceSub, Int.reduceMul, Int.reduceToNat, implies_true, vtab, Says, exists_eq_left', Option.some.injEq, sub_self, and_assoc, true_and, and_true]
            · exact Sub.int (by simp)
            · rfl
      · refine awp_exit ?_
        simp -dsimp only [vend, ne_eq, Nat.reduceEqDiff, reduceCtorEq]
        first | refine awp_seq (awp_region hT hm ?_) | refine awp_region hT hm ?_ | refine awp_seq (awp_seq (awp_region hT hm ?_)) | refine awp_seq (awp_seq (awp_seq (awp_region hT hm ?_)))
        simp -dsimp only [↓vpre, vpos, Int.reduceNeg, Int.reduceLE, Int.reduceLT, reduceIte, Nat.reduceEqDiff, Nat.reduceLT, Nat.reduceLeDiff, Nat.reduceAdd, Nat.reduceMul, Nat.reduceSub, Nat.reducePow, ne_eq, Int.reduceAdd, Int.reduceSub, Int.reduceMul, Int.reduceToNat, implies_true, vtab]
        refine at_intro ?_
        simp -dsimp only [vend, ne_eq, Nat.reduceEqDiff, reduceCtorEq]
        refine awp_ret ?_
        simp -dsimp only [↓vpre, vpos, Int.reduceNeg, Int.reduceLE, Int.reduceLT, reduceIte, Nat.reduceEqDiff, Nat.reduceLT, Nat.reduceLeDiff, Nat.reduceAdd, Nat.reduceMul, Nat.reduceSub, Nat.reducePow, ne_eq, Int.reduceAdd, Int.reduceSub, Int.reduceMul, Int.reduceToNat, implies_true, vtab, RetTo, Try.results16, retVals, retVal, mkRet, AVal.upto, Nat.zero_le, Nat.le_refl, seqPost_ret, blockPost_ret, loopPost_ret]
termination_by SizeOf.sizeOf l
decreasing_by
  have h1 := List.sizeOf_lt_of_mem hp
  cases p
  simp only [Pat.args]
  simp at h1
  omega

end Go.Proofs.Ytakdmelemfnmdaa
end

section
set_option linter.unusedSimpArgs false
set_option maxHeartbeats 1000000
-- !tab vtab
-- !upto Pat.enc_upto Pat.map_upto any_upto Con.enc_upto Con.map_upto Data.enc_upto Data.map_upto Tbl.enc_upto entry_upto
namespace Go.Proofs.Ytakdmelemfnmdaa
open Go.Av

def addCons (k : Nat) : Nat → List Con → List (ByteArray × K) → Option (List (ByteArray × K))
  | _, [], acc => some acc
  | n, c :: r, acc => match find acc c.name with
    | some _ => none
    | none => addCons k (n + 1) r (acc ++ [(c.name, (⟨k, n, c.args.length⟩ : K))])

def addDatas : Nat → List Data → List (ByteArray × K) → Option (List (ByteArray × K))
  | _, [], acc => some acc
  | k, d :: r, acc => (addCons k 0 d.cons acc).bind (addDatas (k + 1) r)

/-- The table of data types; none: a constructor occurs twice. -/
def build (datas : List Data) : Option Tbl := (addDatas 0 datas []).map fun l => ⟨datas, l⟩

def zeroTbl : AVal := .agg [.lst 3 [] .sh, .v (.map none)]

def buildRes : Option Tbl → AVal
  | some t => .tup [t.enc, aI 0]
  | none => .tup [zeroTbl, aI 7]

theorem build_spec (datas : List Data) : PCall Try.prog 39 [eD datas] (buildRes (build datas)) := by
  refine ecall_of hT true 0 Try.func39 rfl (by kernel_rfl) (by simp [Try.ntmps39]) (by simp) ?_
  show AWP Try.prog _ _ _ ⟨52, _, _⟩
  dsimp only [Tmp, TypeId, slotsOf]
  first | refine awp_seq (awp_region hT hm ?_) | refine awp_region hT hm ?_ | refine awp_seq (awp_seq (awp_region hT hm ?_)) | refine awp_seq (awp_seq (awp_seq (awp_region hT hm ?_)))
  simp -dsimp only [↓vpre, vpos, Int.reduceNeg, Int.reduceLE, Int.reduceLT, reduceIte, Nat.reduceEqDiff, Nat.reduceLT, Nat.reduceLeDiff, Nat.reduceAdd, Nat.reduceMul, Nat.reduceSub, Nat.reducePow, ne_eq, Int.reduceAdd, Int.reduceSub, Int.reduceMul, Int.reduceToNat, implies_true, vtab]
  refine at_intro ?_
  simp -dsimp only [vend, ne_eq, Nat.reduceEqDiff, reduceCtorEq]
  first | refine awp_seq (awp_region hT hm ?_) | refine awp_region hT hm ?_ | refine awp_seq (awp_seq (awp_region hT hm ?_)) | refine awp_seq (awp_seq (awp_seq (awp_region hT hm ?_)))
  simp -dsimp only [↓vpre, vpos, Int.reduceNeg, Int.reduceLE, Int.reduceLT, reduceIte, Nat.reduceEqDiff, Nat.reduceLT, Nat.reduceLeDiff, Nat.reduceAdd, Nat.reduceMul, Nat.reduceSub, Nat.reducePow, ne_eq, Int.reduceAdd, Int.reduceSub, Int.reduceMul, Int.reduceToNat, implies_true, vtab]
  refine at_intro ?_
  simp -dsimp only [vend, ne_eq, Nat.reduceEqDiff, reduceCtorEq]
  refine awp_len 0 rfl (fun hlen => ?_)
  simp only [List.length_map] at hlen
  first | refine awp_seq (awp_region hT hm ?_) | refine awp_region hT hm ?_ | refine awp_seq (awp_seq (awp_region hT hm ?_)) | refine awp_seq (awp_seq (awp_seq (awp_region hT hm ?_)))
  simp -dsimp only [↓vpre, vpos, Int.reduceNeg, Int.reduceLE, Int.reduceLT, reduceIte, Nat.reduceEqDiff, Nat.reduceLT, Nat.reduceLeDiff, Nat.reduceAdd, Nat.reduceMul, Nat.reduceSub, Nat.reducePow, ne_eq, Int.reduceAdd, Int.reduceSub, Int.reduceMul, Int.reduceToNat, implies_true, vtab]
  refine at_intro ?_
  simp -dsimp only [vend, ne_eq, Nat.reduceEqDiff, reduceCtorEq]
  first | refine awp_block (awp_loop (ι := {q : Nat × List (ByteArray × K) // q.1 ≤ datas.length ∧ addDatas 0 datas [] = addDatas q.1 (datas.drop q.1) q.2}) (fun q => ⟨52, [(14, eD datas), (15, aI datas.length), (16, aI q.1.1), (2, .mp 0 0), (4, .mp 2 0)], [.cells [.lst 3 [] .ex, .v (.map none)], .map .str (q.1.2.map entry), .cells [.lst 3 (datas.map Data.enc) .sh, .mm 1]]⟩) (fun q => datas.length - q.1.1) ⟨(0, []), by omega, rfl⟩ ?_ ?_) | refine awp_seq (awp_block (awp_loop (ι := {q : Nat × List (ByteArray × K) // q.1 ≤ datas.length ∧ addDatas 0 datas [] = addDatas q.1 (datas.drop q.1) q.2}) (fun q => ⟨52, [(14, eD datas), (15, aI datas.length), (16, aI q.1.1), (2, .mp 0 0), (4, .mp 2 0)], [.cells [.lst 3 [] .ex, .v (.map none)], .map .str (q.1.2.map entry), .cells [.lst 3 (datas.map Data.enc) .sh, .mm 1]]⟩) (fun q => datas.length - q.1.1) ⟨(0, []), by omega, rfl⟩ ?_ ?_))
  · refine ⟨rfl, ?_, ?_⟩
    rotate_left
    simp -dsimp only [↓vpre, vpos, Int.reduceNeg, Int.reduceLE, Int.reduceLT, reduceIte, Nat.reduceEqDiff, Nat.reduceLT, Nat.reduceLeDiff, Nat.reduceAdd, Nat.reduceMul, Nat.reduceSub, Nat.reducePow, ne_eq, Int.reduceAdd, Int.reduceSub, Int.reduceMul, Int.reduceToNat, implies_true, vtab, Says, exists_eq_left', Option.some.injEq, sub_self, and_assoc, true_and, and_true]
    rfl
  · rintro ⟨⟨k, acc⟩, hk, he⟩
    simp only at hk he
    first | refine awp_seq (awp_region hT hm ?_) | refine awp_region hT hm ?_ | refine awp_seq (awp_seq (awp_region hT hm ?_)) | refine awp_seq (awp_seq (awp_seq (awp_region hT hm ?_)))
    simp -dsimp only [↓vpre, vpos, Int.reduceNeg, Int.reduceLE, Int.reduceLT, reduceIte, Nat.reduceEqDiff, Nat.reduceLT, Nat.reduceLeDiff, Nat.reduceAdd, Nat.reduceMul, Nat.reduceSub, Nat.reducePow, ne_eq, Int.reduceAdd, Int.reduceSub, Int.reduceMul, Int.reduceToNat, implies_true, vtab]
    refine at_intro ?_
    simp -dsimp only [vend, ne_eq, Nat.reduceEqDiff, reduceCtorEq]
    first | refine awp_seq (awp_cond rfl (fun h => ?_) (fun h => ?_)) | refine awp_cond rfl (fun h => ?_) (fun h => ?_) | refine awp_seq (awp_seq (awp_cond rfl (fun h => ?_) (fun h => ?_)))
    · refine awp_skip ?_
      simp -dsimp only [vend, ne_eq, Nat.reduceEqDiff, reduceCtorEq]
      have hlt : k < datas.length := by simpa using h
      obtain ⟨d, hd⟩ : ∃ d : Data, datas[k]? = some d := ⟨datas[k], by simp [hlt]⟩
      have hdrop : datas.drop k = d :: datas.drop (k + 1) := by
        rw [List.drop_eq_getElem_cons hlt]
        rw [List.getElem?_eq_getElem hlt] at hd
        simp only [Option.some.injEq] at hd
        rw [hd]
      rw [hdrop, addDatas] at he
      first | refine awp_seq (awp_block ?_) | refine awp_block ?_
      first | refine awp_seq (awp_region hT hm ?_) | refine awp_region hT hm ?_ | refine awp_seq (awp_seq (awp_region hT hm ?_)) | refine awp_seq (awp_seq (awp_seq (awp_region hT hm ?_)))
      simp -dsimp only [↓vpre, vpos, Int.reduceNeg, Int.reduceLE, Int.reduceLT, reduceIte, Nat.reduceEqDiff, Nat.reduceLT, Nat.reduceLeDiff, Nat.reduceAdd, Nat.reduceMul, Nat.reduceSub, Nat.reducePow, ne_eq, Int.reduceAdd, Int.reduceSub, Int.reduceMul, Int.reduceToNat, implies_true, vtab, hd]
      refine at_intro ?_
      simp -dsimp only [vend, ne_eq, Nat.reduceEqDiff, reduceCtorEq]
      first | refine awp_seq (awp_region hT hm ?_) | refine awp_region hT hm ?_ | refine awp_seq (awp_seq (awp_region hT hm ?_)) | refine awp_seq (awp_seq (awp_seq (awp_region hT hm ?_)))
      simp -dsimp only [↓vpre, vpos, Int.reduceNeg, Int.reduceLE, Int.reduceLT, reduceIte, Nat.reduceEqDiff, Nat.reduceLT, Nat.reduceLeDiff, Nat.reduceAdd, Nat.reduceMul, Nat.reduceSub, Nat.reducePow, ne_eq, Int.reduceAdd, Int.reduceSub, Int.reduceMul, Int.reduceToNat, implies_true, vtab]
      refine at_intro ?_
      simp -dsimp only [vend, ne_eq, Nat.reduceEqDiff, reduceCtorEq]
      refine awp_len 22 rfl (fun hlc => ?_)
      simp only [List.length_map] at hlc
      first | refine awp_block (awp_loop (ι := {q : Nat × List (ByteArray × K) // q.1 ≤ d.cons.length ∧ addDatas 0 datas [] = (addCons k q.1 (d.cons.drop q.1) q.2).bind (addDatas (k + 1) (datas.drop (k + 1)))}) (fun q => ⟨52, [(22, eC d.cons), (23, aI d.cons.length), (24, aI q.1.1), (5, aI k), (14, eD datas), (15, aI datas.length), (16, aI k), (2, .mp 0 0), (4, .mp 2 0)], [.cells [.lst 3 [] .ex, .v (.map none)], .map .str (q.1.2.map entry), .cells [.lst 3 (datas.map Data.enc) .sh, .mm 1], .cells [.v (.string d.name), .v (.int .i64 d.params), .lst 2 (d.cons.map Con.enc) .sh]]⟩) (fun q => d.cons.length - q.1.1) ⟨(0, acc), by omega, he⟩ ?_ ?_) | refine awp_seq (awp_block (awp_loop (ι := {q : Nat × List (ByteArray × K) // q.1 ≤ d.cons.length ∧ addDatas 0 datas [] = (addCons k q.1 (d.cons.drop q.1) q.2).bind (addDatas (k + 1) (datas.drop (k + 1)))}) (fun q => ⟨52, [(22, eC d.cons), (23, aI d.cons.length), (24, aI q.1.1), (5, aI k), (14, eD datas), (15, aI datas.length), (16, aI k), (2, .mp 0 0), (4, .mp 2 0)], [.cells [.lst 3 [] .ex, .v (.map none)], .map .str (q.1.2.map entry), .cells [.lst 3 (datas.map Data.enc) .sh, .mm 1], .cells [.v (.string d.name), .v (.int .i64 d.params), .lst 2 (d.cons.map Con.enc) .sh]]⟩) (fun q => d.cons.length - q.1.1) ⟨(0, acc), by omega, he⟩ ?_ ?_))
      · refine ⟨rfl, ?_, ?_⟩
        rotate_left
        simp -dsimp only [↓vpre, vpos, Int.reduceNeg, Int.reduceLE, Int.reduceLT, reduceIte, Nat.reduceEqDiff, Nat.reduceLT, Nat.reduceLeDiff, Nat.reduceAdd, Nat.reduceMul, Nat.reduceSub, Nat.reducePow, ne_eq, Int.reduceAdd, Int.reduceSub, Int.reduceMul, Int.reduceToNat, implies_true, vtab, Says, exists_eq_left', Option.some.injEq, sub_self, and_assoc, true_and, and_true]
        rfl
      · rintro ⟨⟨n, acc'⟩, hn, he'⟩
        simp only at hn he'
        first | refine awp_seq (awp_region hT hm ?_) | refine awp_region hT hm ?_ | refine awp_seq (awp_seq (awp_region hT hm ?_)) | refine awp_seq (awp_seq (awp_seq (awp_region hT hm ?_)))
        simp -dsimp only [↓vpre, vpos, Int.reduceNeg, Int.reduceLE, Int.reduceLT, reduceIte, Nat.reduceEqDiff, Nat.reduceLT, Nat.reduceLeDiff, Nat.reduceAdd, Nat.reduceMul, Nat.reduceSub, Nat.reducePow, ne_eq, Int.reduceAdd, Int.reduceSub, Int.reduceMul, Int.reduceToNat, implies_true, vtab]
        refine at_intro ?_
        simp -dsimp only [vend, ne_eq, Nat.reduceEqDiff, reduceCtorEq]
        first | refine awp_seq (awp_cond rfl (fun h => ?_) (fun h => ?_)) | refine awp_cond rfl (fun h => ?_) (fun h => ?_) | refine awp_seq (awp_seq (awp_cond rfl (fun h => ?_) (fun h => ?_)))
        · refine awp_skip ?_
          simp -dsimp only [vend, ne_eq, Nat.reduceEqDiff, reduceCtorEq]
          have hlt' : n < d.cons.length := by simpa using h
          obtain ⟨c, hc⟩ : ∃ c, d.cons[n]? = some c := ⟨d.cons[n], by simp [hlt']⟩
          have hdrop' : d.cons.drop n = c :: d.cons.drop (n + 1) := by
            rw [List.drop_eq_getElem_cons hlt']
            rw [List.getElem?_eq_getElem hlt'] at hc
            simp only [Option.some.injEq] at hc
            rw [hc]
          rw [hdrop', addCons] at he'
          first | refine awp_seq (awp_block ?_) | refine awp_block ?_
          first | refine awp_seq (awp_region hT hm ?_) | refine awp_region hT hm ?_ | refine awp_seq (awp_seq (awp_region hT hm ?_)) | refine awp_seq (awp_seq (awp_seq (awp_region hT hm ?_)))
          simp -dsimp only [↓vpre, vpos, Int.reduceNeg, Int.reduceLE, Int.reduceLT, reduceIte, Nat.reduceEqDiff, Nat.reduceLT, Nat.reduceLeDiff, Nat.reduceAdd, Nat.reduceMul, Nat.reduceSub, Nat.reducePow, ne_eq, Int.reduceAdd, Int.reduceSub, Int.reduceMul, Int.reduceToNat, implies_true, vtab, hc]
          refine at_intro ?_
          simp -dsimp only [vend, ne_eq, Nat.reduceEqDiff, reduceCtorEq]
          cases hf : find acc' c.name with
          | some x =>
            rw [hf] at he'
            have hb : build datas = none := by rw [build, he']; rfl
            first | refine awp_seq (awp_region hT hm ?_) | refine awp_region hT hm ?_ | refine awp_seq (awp_seq (awp_region hT hm ?_)) | refine awp_seq (awp_seq (awp_seq (awp_region hT hm ?_)))
            simp -dsimp only [↓vpre, vpos, Int.reduceNeg, Int.reduceLE, Int.reduceLT, reduceIte, Nat.reduceEqDiff, Nat.reduceLT, Nat.reduceLeDiff, Nat.reduceAdd, Nat.reduceMul, Nat.reduceSub, Nat.reducePow, ne_eq, Int.reduceAdd, Int.reduceSub, Int.reduceMul, Int.reduceToNat, implies_true, vtab, hf, Option.getD_some, Option.getD_none]
            refine at_intro ?_
            simp -dsimp only [vend, ne_eq, Nat.reduceEqDiff, reduceCtorEq]
            first | refine awp_seq (awp_region hT hm ?_) | refine awp_region hT hm ?_ | refine awp_seq (awp_seq (awp_region hT hm ?_)) | refine awp_seq (awp_seq (awp_seq (awp_region hT hm ?_)))
            simp -dsimp only [↓vpre, vpos, Int.reduceNeg, Int.reduceLE, Int.reduceLT, reduceIte, Nat.reduceEqDiff, Nat.reduceLT, Nat.reduceLeDiff, Nat.reduceAdd, Nat.reduceMul, Nat.reduceSub, Nat.reducePow, ne_eq, Int.reduceAdd, Int.reduceSub, Int.reduceMul, Int.reduceToNat, implies_true, vtab]
            refine at_intro ?_
            simp -dsimp only [vend, ne_eq, Nat.reduceEqDiff, reduceCtorEq]
            first | refine awp_seq (awp_cond rfl (fun h => ?_) (fun h => ?_)) | refine awp_cond rfl (fun h => ?_) (fun h => ?_) | refine awp_seq (awp_seq (awp_cond rfl (fun h => ?_) (fun h => ?_)))
            · first | refine awp_seq (awp_region hT hm ?_) | refine awp_region hT hm ?_ | refine awp_seq (awp_seq (awp_region hT hm ?_)) | refine awp_seq (awp_seq (awp_seq (awp_region hT hm ?_)))
              simp -dsimp only [↓vpre, vpos, Int.reduceNeg, Int.reduceLE, Int.reduceLT, reduceIte, Nat.reduceEqDiff, Nat.reduceLT, Nat.reduceLeDiff, Nat.reduceAdd, Nat.reduceMul, Nat.reduceSub, Nat.reducePow, ne_eq, Int.reduceAdd, Int.reduceSub, Int.reduceMul, Int.reduceToNat, implies_true, vtab]
              refine at_intro ?_
              simp -dsimp only [vend, ne_eq, Nat.reduceEqDiff, reduceCtorEq]
              refine awp_ret ?_
              simp -dsimp only [↓vpre, vpos, Int.reduceNeg, Int.reduceLE, Int.reduceLT, reduceIte, Nat.reduceEqDiff, Nat.reduceLT, Nat.reduceLeDiff, Nat.reduceAdd, Nat.reduceMul, Nat.reduceSub, Nat.reducePow, ne_eq, Int.reduceAdd, Int.reduceSub, Int.reduceMul, Int.reduceToNat, implies_true, vtab, RetTo, Try.results39, retVals, retVal, mkRet, AVal.upto, Nat.zero_le, Nat.le_refl, seqPost_ret, blockPost_ret, loopPost_ret]
              rw [hb]
              exact ⟨by simp [uptoL, AVal.upto], rfl⟩
            · cases h
          | none =>
            rw [hf] at he'
            have hput : putV (acc'.map entry) (.string c.name) (.agg [aI k, aI n, aI c.args.length]) = (acc' ++ [(c.name, (⟨k, n, c.args.length⟩ : K))]).map entry := put_entry acc' c.name ⟨k, n, c.args.length⟩ hf
            first | refine awp_seq (awp_region hT hm ?_) | refine awp_region hT hm ?_ | refine awp_seq (awp_seq (awp_region hT hm ?_)) | refine awp_seq (awp_seq (awp_seq (awp_region hT hm ?_)))
            simp -dsimp only [↓vpre, vpos, Int.reduceNeg, Int.reduceLE, Int.reduceLT, reduceIte, Nat.reduceEqDiff, Nat.reduceLT, Nat.reduceLeDiff, Nat.reduceAdd, Nat.reduceMul, Nat.reduceSub, Nat.reducePow, ne_eq, Int.reduceAdd, Int.reduceSub, Int.reduceMul, Int.reduceToNat, implies_true, vtab, hf, Option.getD_some, Option.getD_none]
            refine at_intro ?_
            simp -dsimp only [vend, ne_eq, Nat.reduceEqDiff, reduceCtorEq]
            first | refine awp_seq (awp_region hT hm ?_) | refine awp_region hT hm ?_ | refine awp_seq (awp_seq (awp_region hT hm ?_)) | refine awp_seq (awp_seq (awp_seq (awp_region hT hm ?_)))
            simp -dsimp only [↓vpre, vpos, Int.reduceNeg, Int.reduceLE, Int.reduceLT, reduceIte, Nat.reduceEqDiff, Nat.reduceLT, Nat.reduceLeDiff, Nat.reduceAdd, Nat.reduceMul, Nat.reduceSub, Nat.reducePow, ne_eq, Int.reduceAdd, Int.reduceSub, Int.reduceMul, Int.reduceToNat, implies_true, vtab]
            refine at_intro ?_
            simp -dsimp only [vend, ne_eq, Nat.reduceEqDiff, reduceCtorEq]
            first | refine awp_seq (awp_cond rfl (fun h => ?_) (fun h => ?_)) | refine awp_cond rfl (fun h => ?_) (fun h => ?_) | refine awp_seq (awp_seq (awp_cond rfl (fun h => ?_) (fun h => ?_)))
            · cases h
            · refine awp_skip ?_
              simp -dsimp only [vend, ne_eq, Nat.reduceEqDiff, reduceCtorEq]
              first | refine awp_seq (awp_region hT hm ?_) | refine awp_region hT hm ?_ | refine awp_seq (awp_seq (awp_region hT hm ?_)) | refine awp_seq (awp_seq (awp_seq (awp_region hT hm ?_)))
              simp -dsimp only [↓vpre, vpos, Int.reduceNeg, Int.reduceLE, Int.reduceLT, reduceIte, Nat.reduceEqDiff, Nat.reduceLT, Nat.reduceLeDiff, Nat.reduceAdd, Nat.reduceMul, Nat.reduceSub, Nat.reducePow, ne_eq, Int.reduceAdd, Int.reduceSub, Int.reduceMul, Int.reduceToNat, implies_true, vtab, hput]
              refine at_intro ?_
              simp -dsimp only [vend, ne_eq, Nat.reduceEqDiff, reduceCtorEq]
              refine awp_trunc' 4 [(22, eC d.cons), (23, aI d.cons.length), (24, aI n), (5, aI k), (14, eD datas), (15, aI datas.length), (16, aI k), (2, .mp 0 0), (4, .mp 2 0)] (by first | omega | (simp; done) | (simp; omega)) (by first | omega | (simp; done) | (simp; omega)) [.cells [.lst 3 [] .ex, .v (.map none)], .map .str ((acc' ++ [(c.name, (⟨k, n, c.args.length⟩ : K))]).map entry), .cells [.lst 3 (datas.map Data.enc) .sh, .mm 1], .cells [.v (.string d.name), .v (.int .i64 d.params), .lst 2 (d.cons.map Con.enc) .sh]] ?_ ?_ ?_ ?_ ?_
              · rfl
              · simp [AObj.upto, uptoL, AVal.upto, Data.map_upto, entry_upto, Con.map_upto]
                simpa using entry_upto 4 (acc' ++ [(c.name, (⟨k, n, c.args.length⟩ : K))])
              · simp -dsimp only [↓vpre, vpos, Int.reduceNeg, Int.reduceLE, Int.reduceLT, reduceIte, Nat.reduceEqDiff, Nat.reduceLT, Nat.reduceLeDiff, Nat.reduceAdd, Nat.reduceMul, Nat.reduceSub, Nat.reducePow, ne_eq, Int.reduceAdd, Int.reduceSub, Int.reduceMul, Int.reduceToNat, implies_true, vtab, Says, exists_eq_left', Option.some.injEq, sub_self, and_true]
              · simp [AVal.upto, uptoL, Data.map_upto, Con.map_upto]
              · first | refine awp_seq (awp_region hT hm ?_) | refine awp_region hT hm ?_ | refine awp_seq (awp_seq (awp_region hT hm ?_)) | refine awp_seq (awp_seq (awp_seq (awp_region hT hm ?_)))
                simp -dsimp only [↓vpre, vpos, Int.reduceNeg, Int.reduceLE, Int.reduceLT, reduceIte, Nat.reduceEqDiff, Nat.reduceLT, Nat.reduceLeDiff, Nat.reduceAdd, Nat.reduceMul, Nat.reduceSub, Nat.reducePow, ne_eq, Int.reduceAdd, Int.reduceSub, Int.reduceMul, Int.reduceToNat, implies_true, vtab]
                repeat (refine ⟨by omega, ?_⟩)
                refine at_intro ?_
                simp -dsimp only [vend, ne_eq, Nat.reduceEqDiff, reduceCtorEq]
                refine ⟨⟨(n + 1, acc' ++ [(c.name, (⟨k, n, c.args.length⟩ : K))]), hlt', he'⟩, by simp; omega, ?_⟩
                refine ⟨rfl, ?_, ?_⟩
                rotate_left
                simp -dsimp only [↓vpre, vpos, Int.reduceNeg, Int.reduceLE, Int.reduceLT, reduceIte, Nat.reduceEqDiff, Nat.reduceLT, Nat.reduceLeDiff, Nat.reduceAdd, Nat.reduceMul, Nat.reduceSub, Nat.reducePow, ne_eq, Int.reduceAdd, Int.reduceSub, Int.reduceMul, Int.reduceToNat, implies_true, vtab, Says, exists_eq_left', Option.some.injEq, sub_self, and_assoc, true_and, and_true]
                · exact Sub.int (by simp)
                · rfl
        · refine awp_exit ?_
          simp -dsimp only [vend, ne_eq, Nat.reduceEqDiff, reduceCtorEq]
          have hnn : n = d.cons.length := by simp at h; omega
          subst hnn
          rw [List.drop_length, addCons] at he'
          refine awp_trunc' 3 [(14, eD datas), (15, aI datas.length), (16, aI k), (2, .mp 0 0), (4, .mp 2 0)] (by first | omega | (simp; done) | (simp; omega)) (by first | omega | (simp; done) | (simp; omega)) [.cells [.lst 3 [] .ex, .v (.map none)], .map .str (acc'.map entry), .cells [.lst 3 (datas.map Data.enc) .sh, .mm 1]] ?_ ?_ ?_ ?_ ?_
          · rfl
          · simp [AObj.upto, uptoL, AVal.upto, Data.map_upto, entry_upto]
          · simp -dsimp only [↓vpre, vpos, Int.reduceNeg, Int.reduceLE, Int.reduceLT, reduceIte, Nat.reduceEqDiff, Nat.reduceLT, Nat.reduceLeDiff, Nat.reduceAdd, Nat.reduceMul, Nat.reduceSub, Nat.reducePow, ne_eq, Int.reduceAdd, Int.reduceSub, Int.reduceMul, Int.reduceToNat, implies_true, vtab, Says, exists_eq_left', Option.some.injEq, sub_self, and_true]
          · simp [AVal.upto, uptoL, Data.map_upto]
          · first | refine awp_seq (awp_region hT hm ?_) | refine awp_region hT hm ?_ | refine awp_seq (awp_seq (awp_region hT hm ?_)) | refine awp_seq (awp_seq (awp_seq (awp_region hT hm ?_)))
            simp -dsimp only [↓vpre, vpos, Int.reduceNeg, Int.reduceLE, Int.reduceLT, reduceIte, Nat.reduceEqDiff, Nat.reduceLT, Nat.reduceLeDiff, Nat.reduceAdd, Nat.reduceMul, Nat.reduceSub, Nat.reducePow, ne_eq, Int.reduceAdd, Int.reduceSub, Int.reduceMul, Int.reduceToNat, implies_true, vtab]
            repeat (refine ⟨by omega, ?_⟩)
            refine at_intro ?_
            simp -dsimp only [vend, ne_eq, Nat.reduceEqDiff, reduceCtorEq]
            refine ⟨⟨(k + 1, acc'), hlt, he'⟩, by simp; omega, ?_⟩
            refine ⟨rfl, ?_, ?_⟩
            rotate_left
            simp -dsimp only [↓vpre, vpos, Int.reduceNeg, Int.reduceLE, Int.reduceLT, reduceIte, Nat.reduceEqDiff, Nat.reduceLT, Nat.reduceLeDiff, Nat.reduceAdd, Nat.reduceMul, Nat.reduceSub, Nat.reducePow, ne_eq, Int.reduceAdd, Int.reduceSub, Int.reduceMul, Int.reduceToNat, implies_true, vtab, Says, exists_eq_left', Option.some.injEq, sub_self, and_assoc, true_and, and_true]
            · exact Sub.int (by simp)
            · rfl
    · refine awp_exit ?_
      simp -dsimp only [vend, ne_eq, Nat.reduceEqDiff, reduceCtorEq]
      have hkk : k = datas.length := by simp at h; omega
      subst hkk
      rw [List.drop_length, addDatas] at he
      have hb : build datas = some ⟨datas, acc⟩ := by rw [build, he]; rfl
      first | refine awp_seq (awp_region hT hm ?_) | refine awp_region hT hm ?_ | refine awp_seq (awp_seq (awp_region hT hm ?_)) | refine awp_seq (awp_seq (awp_seq (awp_region hT hm ?_)))
      simp -dsimp only [↓vpre, vpos, Int.reduceNeg, Int.reduceLE, Int.reduceLT, reduceIte, Nat.reduceEqDiff, Nat.reduceLT, Nat.reduceLeDiff, Nat.reduceAdd, Nat.reduceMul, Nat.reduceSub, Nat.reducePow, ne_eq, Int.reduceAdd, Int.reduceSub, Int.reduceMul, Int.reduceToNat, implies_true, vtab]
      refine at_intro ?_
      simp -dsimp only [vend, ne_eq, Nat.reduceEqDiff, reduceCtorEq]
      refine awp_freeze_in 1 rfl (by simp [AObj.isSpare]) trivial [(2, .mp 0 0), (3, aI 0)] ?_ 0 (by omega) _ [.lst 3 (datas.map Data.enc) .sh, .im .str (acc.map entry)] rfl rfl ?_ ?_ ?_
      · intro s y hy
        simp only [Go.Av.look] at hy
        split at hy
        · cases hy
          rename_i e
          subst e
          exact ⟨_, rfl, .refl _⟩
        · split at hy
          · cases hy
            rename_i e
            subst e
            exact ⟨_, rfl, .refl _⟩
          · cases hy
      · simp [AVal.scalar]
      · intro j c d hc hd
        match j, hc, hd with
        | 0, hc, hd =>
          cases hc
          cases hd
          exact .refl _
        | 1, hc, hd =>
          cases hc
          cases hd
          exact .mm rfl
      · refine awp_ret ?_
        simp -dsimp only [↓vpre, vpos, Int.reduceNeg, Int.reduceLE, Int.reduceLT, reduceIte, Nat.reduceEqDiff, Nat.reduceLT, Nat.reduceLeDiff, Nat.reduceAdd, Nat.reduceMul, Nat.reduceSub, Nat.reducePow, ne_eq, Int.reduceAdd, Int.reduceSub, Int.reduceMul, Int.reduceToNat, implies_true, vtab, RetTo, Try.results39, retVals, retVal, mkRet, AVal.upto, Nat.zero_le, Nat.le_refl, seqPost_ret, blockPost_ret, loopPost_ret]
        rw [hb]
        exact ⟨by simp [uptoL, AVal.upto, Data.map_upto, entry_upto], rfl⟩

end Go.Proofs.Ytakdmelemfnmdaa
end

section
/-
  What missing and useful compute, as functions on trees; types of columns, values, and what it means that a row matches.
-/
set_option linter.unusedVariables false
namespace Go.Proofs.Ytakdmelemfnmdaa

mutual
/-- The weight of a pattern: what is free weighs nothing. -/
def Pat.wt : Pat → Nat
  | .mk k _ _ l => if k = 0 ∨ k = 1 then 0 else 1 + l.length + wtL l
def wtL : List Pat → Nat
  | [] => 0
  | p :: r => p.wt + wtL r
end

def wtR : List (List Pat) → Nat
  | [] => 0
  | r :: rs => wtL r + wtR rs

theorem Pat.free_iff (p : Pat) : p.free = true ↔ p.kind = 0 ∨ p.kind = 1 := by simp [Pat.free]

theorem Pat.wt_eq (p : Pat) : p.wt = if p.free then 0 else 1 + p.args.length + wtL p.args := by
  cases p with
  | mk k s n l =>
    have hf : (Pat.mk k s n l).free = true ↔ k = 0 ∨ k = 1 := Pat.free_iff _
    rw [Pat.wt]
    by_cases h : (Pat.mk k s n l).free = true
    · rw [if_pos h, if_pos (hf.1 h)]
    · rw [if_neg h, if_neg (fun e => h (hf.2 e))]
      rfl

theorem wtL_append : ∀ a b : List Pat, wtL (a ++ b) = wtL a + wtL b
  | [], b => by simp [wtL]
  | p :: a, b => by
    rw [List.cons_append, wtL, wtL, wtL_append a b]
    omega

theorem wtL_any (n : Nat) : wtL (List.replicate n Pat.any) = 0 := by
  induction n with
  | zero => rfl
  | succ n ih =>
    rw [List.replicate_succ, wtL, ih, Pat.wt_eq]
    rfl

theorem rests_wt : ∀ rows : List (List Pat), wtR (rests rows) ≤ wtR rows
  | [] => Nat.le_refl _
  | [] :: r => by
    have := rests_wt r
    simp only [rests, wtR]
    omega
  | (p :: x) :: r => by
    have := rests_wt r
    simp only [rests]
    split
    · simp only [wtR, wtL]
      omega
    · simp only [wtR]
      omega

theorem narrows_wt (s : ByteArray) (n : Nat) : ∀ rows : List (List Pat), wtR (narrows s n rows) ≤ wtR rows
  | [] => Nat.le_refl _
  | [] :: r => by
    have := narrows_wt s n r
    simp only [narrows, wtR]
    omega
  | (p :: x) :: r => by
    have := narrows_wt s n r
    have hp := p.wt_eq
    simp only [narrows]
    split
    · simp only [wtR, wtL, wtL_append, wtL_any]
      omega
    · split
      · rename_i h1 h2
        rw [if_neg h1] at hp
        simp only [wtR, wtL, wtL_append]
        omega
      · simp only [wtR]
        omega

/-- Where a pattern of this name stands in the first column, what is left weighs less. -/
theorem narrows_wt_lt (s : ByteArray) (n : Nat) : ∀ rows : List (List Pat), (∀ p ∈ firsts rows, p.name = s → p.args.length = n) → (∃ p ∈ firsts rows, p.name = s) → wtR (narrows s n rows) + 1 + n ≤ wtR rows
  | [], _, h => by
    obtain ⟨p, hp, _⟩ := h
    simp [firsts] at hp
  | [] :: r, h1, h2 => by
    have := narrows_wt_lt s n r (by simpa [firsts] using h1) (by simpa [firsts] using h2)
    simp only [narrows, wtR]
    omega
  | (p :: x) :: r, h1, h2 => by
    have hp := p.wt_eq
    simp only [narrows]
    simp only [firsts] at h1 h2
    split
    · rename_i hf
      rw [if_pos hf] at h1 h2
      have := narrows_wt_lt s n r h1 h2
      simp only [wtR, wtL, wtL_append, wtL_any]
      omega
    · rename_i hf
      rw [if_neg hf] at h1 h2 hp
      split
      · rename_i hs
        have hl := h1 p (by simp) hs
        have := narrows_wt s n r
        simp only [wtR, wtL, wtL_append]
        omega
      · rename_i hs
        have := narrows_wt_lt s n r (fun q hq => h1 q (by simp [hq])) (by
          obtain ⟨q, hq, e⟩ := h2
          rcases List.mem_cons.1 hq with rfl | hq
          · exact absurd e hs
          · exact ⟨q, hq, e⟩)
        simp only [wtR]
        omega

/-! The functions. -/

def missCons (g : Con → List Pat × Bool) : List Con → List Pat × Bool
  | [] => ([], false)
  | c :: r => if (g c).2 then (.mk 3 c.name 0 ((g c).1.take c.args.length) :: (g c).1.drop c.args.length, true) else missCons g r

def Tbl.missingF (t : Tbl) : Nat → List (List Pat) → Nat → List Pat × Bool
  | 0, _, _ => ([], false)
  | _ + 1, rows, 0 => ([], rows.isEmpty)
  | f + 1, rows, m + 1 => match t.absent (firsts rows) with
    | some p => (p :: (t.missingF f (rests rows) m).1, (t.missingF f (rests rows) m).2)
    | none => match firsts rows with
      | [] => ([], false)
      | p :: _ => match t.datas[(t.con p.name).data]? with
        | none => ([], false)
        | some d => missCons (fun c => t.missingF f (narrows c.name c.args.length rows) (c.args.length + m)) d.cons

def lefts (n : Int) : List (List Pat) → List (List Pat)
  | [] => []
  | [] :: r => lefts n r
  | (p :: x) :: r => if p.free || decide (p.n = n) then x :: lefts n r else lefts n r

def Tbl.usefulF (t : Tbl) : Nat → List (List Pat) → List Pat → Bool
  | 0, _, _ => false
  | _ + 1, rows, [] => rows.isEmpty
  | f + 1, rows, p :: x =>
    if p.kind = 3 then t.usefulF f (narrows p.name (t.con p.name).many rows) (p.args ++ x)
    else if p.kind = 2 then t.usefulF f (lefts p.n rows) x
    else match t.absent (firsts rows) with
      | some _ => t.usefulF f (rests rows) x
      | none => match firsts rows with
        | [] => false
        | q :: _ => match t.datas[(t.con q.name).data]? with
          | none => false
          | some d => d.cons.any fun c => t.usefulF f (narrows c.name c.args.length rows) (List.replicate c.args.length Pat.any ++ x)

/-! Types of columns. -/

inductive Ty where
  | any
  | int
  | data (i : Nat) (f : ByteArray → List Ty)

mutual
def HasTy (t : Tbl) : Pat → Ty → Prop
  | .mk k s _ l, ty => if k = 0 ∨ k = 1 then True else if k = 2 then ty = .int else k = 3 ∧ ∃ i f K, ty = .data i f ∧ find t.cons s = some K ∧ K.data = i ∧ HasTyL t l (f s)
def HasTyL (t : Tbl) : List Pat → List Ty → Prop
  | [], tys => tys = []
  | p :: r, tys => ∃ ty tys', tys = ty :: tys' ∧ HasTy t p ty ∧ HasTyL t r tys'
end

theorem HasTy_eq (t : Tbl) (p : Pat) (ty : Ty) : HasTy t p ty ↔ if p.free then True else if p.kind = 2 then ty = .int else p.kind = 3 ∧ ∃ i f K, ty = .data i f ∧ find t.cons p.name = some K ∧ K.data = i ∧ HasTyL t p.args (f p.name) := by
  cases p with
  | mk k s n l =>
    have hf : (Pat.mk k s n l).free = true ↔ k = 0 ∨ k = 1 := Pat.free_iff _
    rw [HasTy]
    by_cases h : (Pat.mk k s n l).free = true
    · rw [if_pos h, if_pos (hf.1 h)]
    · rw [if_neg h, if_neg (fun e => h (hf.2 e))]
      rfl

inductive WfTy (t : Tbl) : Ty → Prop
  | any : WfTy t .any
  | int : WfTy t .int
  | data {i : Nat} {f : ByteArray → List Ty} {d : Data} (hd : t.datas[i]? = some d) (hne : d.cons ≠ []) (hl : ∀ c ∈ d.cons, (f c.name).length = c.args.length) (hw : ∀ c ∈ d.cons, ∀ ty ∈ f c.name, WfTy t ty) : WfTy t (.data i f)

structure TblOK (t : Tbl) : Prop where
  back : ∀ s K, find t.cons s = some K → ∃ d c, t.datas[K.data]? = some d ∧ c ∈ d.cons ∧ c.name = s ∧ c.args.length = K.many
  uniq : ∀ i d c, t.datas[i]? = some d → c ∈ d.cons → ∃ K, find t.cons c.name = some K ∧ K.data = i ∧ K.many = c.args.length

/-! Values. -/

inductive Val where
  | blank
  | int (n : Int)
  | con (s : ByteArray) (args : List Val)

mutual
def mat : Pat → Val → Prop
  | .mk k s n l, v => if k = 0 ∨ k = 1 then True else if k = 2 then v = .int n else ∃ vs, v = .con s vs ∧ matL l vs
def matL : List Pat → List Val → Prop
  | [], vs => vs = []
  | p :: r, vs => ∃ v vs', vs = v :: vs' ∧ mat p v ∧ matL r vs'
end

theorem mat_eq (p : Pat) (v : Val) : mat p v ↔ if p.free then True else if p.kind = 2 then v = .int p.n else ∃ vs, v = .con p.name vs ∧ matL p.args vs := by
  cases p with
  | mk k s n l =>
    have hf : (Pat.mk k s n l).free = true ↔ k = 0 ∨ k = 1 := Pat.free_iff _
    rw [mat]
    by_cases h : (Pat.mk k s n l).free = true
    · rw [if_pos h, if_pos (hf.1 h)]
    · rw [if_neg h, if_neg (fun e => h (hf.2 e))]
      rfl

mutual
inductive Inh (t : Tbl) : Val → Ty → Prop
  | any : Inh t .blank .any
  | int (n : Int) : Inh t (.int n) .int
  | con {i : Nat} {f : ByteArray → List Ty} {d : Data} {c : Con} {vs : List Val} (hd : t.datas[i]? = some d) (hc : c ∈ d.cons) (h : InhL t vs (f c.name)) : Inh t (.con c.name vs) (.data i f)
inductive InhL (t : Tbl) : List Val → List Ty → Prop
  | nil : InhL t [] []
  | cons {v : Val} {ty : Ty} {vs : List Val} {tys : List Ty} (h : Inh t v ty) (k : InhL t vs tys) : InhL t (v :: vs) (ty :: tys)
end

theorem InhL.of_all {t : Tbl} : ∀ {tys : List Ty}, (∀ ty ∈ tys, ∃ v, Inh t v ty) → ∃ vs, InhL t vs tys
  | [], _ => ⟨[], .nil⟩
  | ty :: tys, h => by
    obtain ⟨v, hv⟩ := h ty (by simp)
    obtain ⟨vs, hvs⟩ := InhL.of_all (tys := tys) fun y hy => h y (by simp [hy])
    exact ⟨v :: vs, .cons hv hvs⟩

theorem InhL.append {t : Tbl} : ∀ {vs : List Val} {tys : List Ty} {us : List Val} {sys : List Ty}, InhL t vs tys → InhL t us sys → InhL t (vs ++ us) (tys ++ sys)
  | _, _, _, _, .nil, k => k
  | _, _, _, _, .cons h1 h2, k => .cons h1 (h2.append k)

theorem InhL.split {t : Tbl} : ∀ {tys sys : List Ty} {ws : List Val}, InhL t ws (tys ++ sys) → ∃ vs us, ws = vs ++ us ∧ InhL t vs tys ∧ InhL t us sys
  | [], _, ws, h => ⟨[], ws, rfl, .nil, h⟩
  | ty :: tys, sys, _, .cons h1 h2 => by
    obtain ⟨vs, us, rfl, k1, k2⟩ := InhL.split h2
    exact ⟨_ :: vs, us, rfl, .cons h1 k1, k2⟩

theorem InhL.len {t : Tbl} : ∀ {vs : List Val} {tys : List Ty}, InhL t vs tys → vs.length = tys.length
  | _, _, .nil => rfl
  | _, _, .cons _ h => by simp [h.len]

theorem WfTy.inh {t : Tbl} {ty : Ty} (h : WfTy t ty) : ∃ v, Inh t v ty := by
  induction h with
  | any => exact ⟨_, .any⟩
  | int => exact ⟨_, .int 0⟩
  | data hd hne hl hw ih =>
    rename_i i f d
    obtain ⟨c, hc⟩ : ∃ c, c ∈ d.cons := List.exists_mem_of_ne_nil _ hne
    obtain ⟨vs, hvs⟩ := InhL.of_all (ih c hc)
    exact ⟨_, .con hd hc hvs⟩

theorem matL_append : ∀ {a b : List Pat} {u v : List Val}, a.length = u.length → (matL (a ++ b) (u ++ v) ↔ matL a u ∧ matL b v)
  | [], b, [], v, _ => by simp [matL]
  | [], b, x :: u, v, h => by simp at h
  | p :: a, b, [], v, h => by simp at h
  | p :: a, b, x :: u, v, h => by
    have ih := matL_append (a := a) (b := b) (u := u) (v := v) (by simpa using h)
    simp only [List.cons_append, matL]
    constructor
    · rintro ⟨y, ys, e, h1, h2⟩
      cases e
      exact ⟨⟨x, u, rfl, h1, (ih.1 h2).1⟩, (ih.1 h2).2⟩
    · rintro ⟨⟨y, ys, e, h1, h2⟩, h3⟩
      cases e
      exact ⟨x, u ++ v, rfl, h1, ih.2 ⟨h2, h3⟩⟩

theorem matL_len : ∀ {a : List Pat} {u : List Val}, matL a u → a.length = u.length
  | [], u, h => by
    simp only [matL] at h
    subst h
    rfl
  | p :: a, u, h => by
    simp only [matL] at h
    obtain ⟨v, vs, rfl, _, h2⟩ := h
    simp [matL_len h2]

theorem mat_any (v : Val) : mat Pat.any v := by
  rw [mat_eq]
  simp [Pat.any, Pat.free, Pat.kind]

theorem matL_anys : ∀ {n : Nat} {u : List Val}, u.length = n → matL (List.replicate n Pat.any) u
  | 0, [], _ => by simp [matL]
  | 0, _ :: _, h => by simp at h
  | n + 1, [], h => by simp at h
  | n + 1, x :: u, h => by
    simp only [List.replicate_succ, matL]
    exact ⟨x, u, rfl, mat_any x, matL_anys (by simpa using h)⟩

/-- No row matches. -/
def Disj (rows : List (List Pat)) (vs : List Val) : Prop := ∀ r ∈ rows, ¬ matL r vs

theorem mem_firsts : ∀ {rows : List (List Pat)} {p : Pat}, p ∈ firsts rows ↔ p.free = false ∧ ∃ x, (p :: x) ∈ rows
  | [], p => by simp [firsts]
  | [] :: r, p => by simp [firsts, mem_firsts (rows := r)]
  | (q :: x) :: r, p => by
    simp only [firsts]
    have ih := mem_firsts (rows := r) (p := p)
    split
    · rename_i h
      rw [ih]
      constructor
      · rintro ⟨h1, y, hy⟩
        exact ⟨h1, y, by simp [hy]⟩
      · rintro ⟨h1, y, hy⟩
        rcases List.mem_cons.1 hy with e | hy
        · cases e
          rw [h] at h1
          cases h1
        · exact ⟨h1, y, hy⟩
    · rename_i h
      rw [List.mem_cons, ih]
      constructor
      · rintro (rfl | ⟨h1, y, hy⟩)
        · exact ⟨by simpa using h, x, by simp⟩
        · exact ⟨h1, y, by simp [hy]⟩
      · rintro ⟨h1, y, hy⟩
        rcases List.mem_cons.1 hy with e | hy
        · cases e
          exact .inl rfl
        · exact .inr ⟨h1, y, hy⟩

theorem mem_rests : ∀ {rows : List (List Pat)} {x : List Pat}, x ∈ rests rows ↔ ∃ p : Pat, p.free = true ∧ (p :: x) ∈ rows
  | [], x => by simp [rests]
  | [] :: r, x => by simp [rests, mem_rests (rows := r)]
  | (q :: y) :: r, x => by
    simp only [rests]
    have ih := mem_rests (rows := r) (x := x)
    split
    · rename_i h
      rw [List.mem_cons, ih]
      constructor
      · rintro (rfl | ⟨p, h1, h2⟩)
        · exact ⟨q, h, by simp⟩
        · exact ⟨p, h1, by simp [h2]⟩
      · rintro ⟨p, h1, h2⟩
        rcases List.mem_cons.1 h2 with e | h2
        · cases e
          exact .inl rfl
        · exact .inr ⟨p, h1, h2⟩
    · rename_i h
      rw [ih]
      constructor
      · rintro ⟨p, h1, h2⟩
        exact ⟨p, h1, by simp [h2]⟩
      · rintro ⟨p, h1, h2⟩
        rcases List.mem_cons.1 h2 with e | h2
        · cases e
          exact absurd h1 h
        · exact ⟨p, h1, h2⟩

theorem mem_narrows {s : ByteArray} {n : Nat} : ∀ {rows : List (List Pat)} {y : List Pat}, y ∈ narrows s n rows ↔ ∃ p x, (p :: x) ∈ rows ∧ (p.free = true ∧ y = List.replicate n Pat.any ++ x ∨ p.free = false ∧ p.name = s ∧ y = p.args ++ x)
  | [], y => by simp [narrows]
  | [] :: r, y => by simp [narrows, mem_narrows (rows := r)]
  | (q :: z) :: r, y => by
    have ih := mem_narrows (rows := r) (y := y) (s := s) (n := n)
    have key : (∃ p x, (p :: x) ∈ (q :: z) :: r ∧ (p.free = true ∧ y = List.replicate n Pat.any ++ x ∨ p.free = false ∧ p.name = s ∧ y = p.args ++ x)) ↔ (q.free = true ∧ y = List.replicate n Pat.any ++ z ∨ q.free = false ∧ q.name = s ∧ y = q.args ++ z) ∨ y ∈ narrows s n r := by
      rw [ih]
      constructor
      · rintro ⟨p, x, h1, h2⟩
        rcases List.mem_cons.1 h1 with e | h1
        · cases e
          exact .inl h2
        · exact .inr ⟨p, x, h1, h2⟩
      · rintro (h | ⟨p, x, h1, h2⟩)
        · exact ⟨q, z, by simp, h⟩
        · exact ⟨p, x, by simp [h1], h2⟩
    rw [key]
    simp only [narrows]
    split
    · rename_i h
      rw [List.mem_cons]
      simp [h]
    · rename_i h
      have h' : q.free = false := by simpa using h
      split
      · rename_i h2
        rw [List.mem_cons]
        simp [h', h2]
      · rename_i h2
        simp [h', h2]

theorem mem_lefts {n : Int} : ∀ {rows : List (List Pat)} {x : List Pat}, x ∈ lefts n rows ↔ ∃ p : Pat, (p.free = true ∨ p.n = n) ∧ (p :: x) ∈ rows
  | [], x => by simp [lefts]
  | [] :: r, x => by simp [lefts, mem_lefts (rows := r)]
  | (q :: y) :: r, x => by
    simp only [lefts]
    have ih := mem_lefts (rows := r) (x := x) (n := n)
    split
    · rename_i h
      rw [List.mem_cons, ih]
      constructor
      · rintro (rfl | ⟨p, h1, h2⟩)
        · exact ⟨q, by simpa using h, by simp⟩
        · exact ⟨p, h1, by simp [h2]⟩
      · rintro ⟨p, h1, h2⟩
        rcases List.mem_cons.1 h2 with e | h2
        · cases e
          exact .inl rfl
        · exact .inr ⟨p, h1, h2⟩
    · rename_i h
      rw [ih]
      constructor
      · rintro ⟨p, h1, h2⟩
        exact ⟨p, h1, by simp [h2]⟩
      · rintro ⟨p, h1, h2⟩
        rcases List.mem_cons.1 h2 with e | h2
        · cases e
          exact absurd (by simpa using h1) h
        · exact ⟨p, h1, h2⟩

end Go.Proofs.Ytakdmelemfnmdaa
end

section
/-
  What missing finds: a list of patterns all of whose values no row matches; and it finds one, if there are such values of the columns' types.
-/
set_option linter.unusedVariables false
namespace Go.Proofs.Ytakdmelemfnmdaa

theorem nextN_fresh (l : List Pat) : ∀ (f n : Nat), l.any (fun p => decide (p.n = (nextN l n f : Int))) = false ∨ ∀ j : Nat, n ≤ j → j < n + f → (j : Int) ∈ l.map Pat.n
  | 0, n => .inr fun j h1 h2 => by omega
  | f + 1, n => by
    rw [nextN]
    by_cases h : l.any (fun p => decide (p.n = (n : Int))) = true
    · rw [if_pos h]
      rcases nextN_fresh l f (n + 1) with h1 | h1
      · exact .inl h1
      · refine .inr fun j h2 h3 => ?_
        by_cases e : j = n
        · subst e
          obtain ⟨q, hq, e⟩ := List.any_eq_true.1 h
          exact List.mem_map.2 ⟨q, hq, by simpa using e⟩
        · exact h1 j (by omega) (by omega)
    · rw [if_neg h]
      exact .inl (by simpa using h)

theorem nextN_new (l : List Pat) (p : Pat) (hp : p ∈ l) : p.n ≠ (nextN l 0 (l.length + 1) : Int) := by
  rcases nextN_fresh l (l.length + 1) 0 with h | h
  · intro e
    have : l.any (fun p => decide (p.n = (nextN l 0 (l.length + 1) : Int))) = true := List.any_eq_true.2 ⟨p, hp, by simpa using e⟩
    rw [this] at h
    cases h
  · have := pigeon (l.length + 1) (l.map Pat.n) fun j hj => h j (Nat.zero_le _) (by omega)
    simp at this
    omega

theorem absentCon_some : ∀ {l : List Pat} {cs : List Con} {c : Con}, absentCon l cs = some c → c ∈ cs ∧ ∀ p ∈ l, p.name ≠ c.name
  | l, [], c, h => by cases h
  | l, c0 :: r, c, h => by
    rw [absentCon] at h
    split at h
    · obtain ⟨h1, h2⟩ := absentCon_some h
      exact ⟨by simp [h1], h2⟩
    · rename_i hn
      cases h
      refine ⟨by simp, fun p hp e => hn ?_⟩
      exact List.any_eq_true.2 ⟨p, hp, by simpa using e⟩

theorem absentCon_none : ∀ {l : List Pat} {cs : List Con}, absentCon l cs = none → ∀ c ∈ cs, ∃ p ∈ l, p.name = c.name
  | l, [], h, c, hc => by cases hc
  | l, c0 :: r, h, c, hc => by
    rw [absentCon] at h
    split at h
    · rename_i hn
      rcases List.mem_cons.1 hc with rfl | hc
      · obtain ⟨p, hp, e⟩ := List.any_eq_true.1 hn
        exact ⟨p, hp, by simpa using e⟩
      · exact absentCon_none h c hc
    · cases h

/-- What is known where a constructor pattern stands. -/
theorem HasTy.con {t : Tbl} {p : Pat} {ty : Ty} (h : HasTy t p ty) (hf : p.free = false) (h2 : ¬ p.kind = 2) : p.kind = 3 ∧ ∃ i f K, ty = .data i f ∧ find t.cons p.name = some K ∧ K.data = i ∧ HasTyL t p.args (f p.name) := by
  rw [HasTy_eq, if_neg (by simp [hf]), if_neg h2] at h
  exact h

theorem HasTy.int {t : Tbl} {p : Pat} {ty : Ty} (h : HasTy t p ty) (hf : p.free = false) (h2 : p.kind = 2) : ty = .int := by
  rw [HasTy_eq, if_neg (by simp [hf]), if_pos h2] at h
  exact h

/-- What the absent value tells. -/
inductive AbsOut (t : Tbl) (l : List Pat) (ty : Ty) : Prop
  | some (q : Pat) (hq : t.absent l = some q) (h1 : ∃ v, Inh t v ty ∧ ∀ p ∈ l, ¬ mat p v) (h2 : ∀ v, mat q v → ∀ p ∈ l, ¬ mat p v)
  | none (hq : t.absent l = none) (i : Nat) (f : ByteArray → List Ty) (d : Data) (p : Pat) (r : List Pat) (hl : l = p :: r) (ht : ty = .data i f) (hd : t.datas[i]? = some d) (hp : (t.con p.name).data = i)
      (hall : ∀ c ∈ d.cons, ∃ p ∈ l, p.name = c.name) (h3 : ∀ p ∈ l, p.kind = 3)

theorem absent_out {t : Tbl} (hT : TblOK t) {ty : Ty} (hw : WfTy t ty) {l : List Pat} (h : ∀ p ∈ l, p.free = false ∧ HasTy t p ty) : AbsOut t l ty := by
  cases l with
  | nil =>
    obtain ⟨v, hv⟩ := hw.inh
    exact .some Pat.any rfl ⟨v, hv, by simp⟩ (by simp)
  | cons p r =>
    obtain ⟨hf, hp⟩ := h p (by simp)
    by_cases h2 : p.kind = 2
    · have hty := hp.int hf h2
      subst hty
      have hall : ∀ q ∈ p :: r, q.kind = 2 := fun q hq => by
        obtain ⟨k1, k2⟩ := h q hq
        by_cases e : q.kind = 2
        · exact e
        · obtain ⟨_, i, f, K, e, _⟩ := k2.con k1 e
          cases e
      have hne : ∀ q ∈ p :: r, ∀ v, v = .int (nextN (p :: r) 0 ((p :: r).length + 1)) → ¬ mat q v := fun q hq v hv hm => by
        rw [mat_eq, if_neg (by simp [(h q hq).1]), if_pos (hall q hq), hv] at hm
        simp only [Val.int.injEq] at hm
        exact nextN_new _ q hq hm.symm
      refine .some (.mk 2 ByteArray.empty (nextN (p :: r) 0 ((p :: r).length + 1)) []) (by rw [Tbl.absent, if_pos h2]) ⟨_, .int _, fun q hq => hne q hq _ rfl⟩ fun v hm q hq => hne q hq v ?_
      rw [mat_eq] at hm
      simpa [Pat.free, Pat.kind, Pat.n] using hm
    · obtain ⟨h3, i, f, K, rfl, hK, hi, _⟩ := hp.con hf h2
      have hcon : t.con p.name = K := by rw [Tbl.con, hK]; rfl
      obtain ⟨d, c, hd, hc, _, _⟩ := hT.back _ _ hK
      have hall : ∀ q ∈ p :: r, q.kind = 3 := fun q hq => by
        obtain ⟨k1, k2⟩ := h q hq
        by_cases e : q.kind = 2
        · have := k2.int k1 e
          cases this
        · exact (k2.con k1 e).1
      have hab : t.absent (p :: r) = (absentCon (p :: r) d.cons).map fun c => .mk 3 c.name 0 (List.replicate c.args.length Pat.any) := by
        rw [Tbl.absent, if_neg h2, hcon, hd]
      cases hac : absentCon (p :: r) d.cons with
      | some c =>
        obtain ⟨k1, k2⟩ := absentCon_some hac
        have hne : ∀ q ∈ p :: r, ∀ vs, ¬ mat q (.con c.name vs) := fun q hq vs hm => by
          have h3 := hall q hq
          rw [mat_eq, if_neg (by simp [(h q hq).1]), if_neg (by omega)] at hm
          obtain ⟨vs', e, _⟩ := hm
          simp only [Val.con.injEq] at e
          exact k2 q hq e.1.symm
        refine .some (.mk 3 c.name 0 (List.replicate c.args.length Pat.any)) (by rw [hab, hac]; rfl) ?_ ?_
        · cases hw with
          | data hd' hne' hl' hw' =>
            rw [← hi, hd] at hd'
            simp only [Option.some.injEq] at hd'
            subst hd'
            obtain ⟨vs, hvs⟩ := InhL.of_all fun ty hty => (hw' c k1 ty hty).inh
            exact ⟨_, .con (hi ▸ hd) k1 hvs, fun q hq => hne q hq vs⟩
        · intro v hm q hq
          rw [mat_eq] at hm
          simp only [Pat.free, Pat.kind, Pat.name, Pat.args] at hm
          obtain ⟨vs, rfl, _⟩ := hm
          exact hne q hq vs
      | none =>
        exact .none (by rw [hab, hac]; rfl) i f d p r rfl rfl (hi ▸ hd) (by rw [hcon, hi]) (absentCon_none hac) hall

/-! How the rows of the parts match. -/

theorem disj_rests {rows : List (List Pat)} {v : Val} {vs : List Val} (h : Disj rows (v :: vs)) : Disj (rests rows) vs := fun x hx hm => by
  obtain ⟨p, h1, h2⟩ := mem_rests.1 hx
  exact h _ h2 (by
    simp only [matL]
    exact ⟨v, vs, rfl, by rw [mat_eq, if_pos h1]; trivial, hm⟩)

theorem disj_rests_of {rows : List (List Pat)} {v : Val} {vs : List Val} (hv : ∀ p ∈ firsts rows, ¬ mat p v) (h : Disj (rests rows) vs) : Disj rows (v :: vs) := fun r hr hm => by
  cases r with
  | nil =>
    simp only [matL] at hm
    cases hm
  | cons p x =>
    simp only [matL] at hm
    obtain ⟨v', vs', e, h1, h2⟩ := hm
    cases e
    by_cases hf : p.free = true
    · exact h x (mem_rests.2 ⟨p, hf, hr⟩) h2
    · exact hv p (mem_firsts.2 ⟨by simpa using hf, x, hr⟩) h1

theorem disj_narrows {rows : List (List Pat)} {s : ByteArray} {us vs : List Val} (h : ∀ p ∈ firsts rows, p.kind = 3 ∧ (p.name = s → p.args.length = us.length)) : Disj rows (.con s us :: vs) ↔ Disj (narrows s us.length rows) (us ++ vs) := by
  constructor
  · intro hd y hy hm
    obtain ⟨p, x, h1, h2⟩ := mem_narrows.1 hy
    refine hd _ h1 ?_
    simp only [matL]
    rcases h2 with ⟨hf, rfl⟩ | ⟨hf, hs, rfl⟩
    · exact ⟨_, vs, rfl, by rw [mat_eq, if_pos hf]; trivial, ((matL_append (by simp)).1 hm).2⟩
    · obtain ⟨h3, h4⟩ := h p (mem_firsts.2 ⟨hf, x, h1⟩)
      obtain ⟨k1, k2⟩ := (matL_append (h4 hs)).1 hm
      exact ⟨_, vs, rfl, by rw [mat_eq, if_neg (by simp [hf]), if_neg (by omega)]; exact ⟨us, by rw [hs], k1⟩, k2⟩
  · intro hd r hr hm
    cases r with
    | nil =>
      simp only [matL] at hm
      cases hm
    | cons p x =>
      simp only [matL] at hm
      obtain ⟨v', vs', e, h1, h2⟩ := hm
      cases e
      by_cases hf : p.free = true
      · exact hd _ (mem_narrows.2 ⟨p, x, hr, .inl ⟨hf, rfl⟩⟩) ((matL_append (by simp)).2 ⟨matL_anys rfl, h2⟩)
      · obtain ⟨h3, h4⟩ := h p (mem_firsts.2 ⟨by simpa using hf, x, hr⟩)
        rw [mat_eq, if_neg hf, if_neg (by omega)] at h1
        obtain ⟨us', e, h5⟩ := h1
        simp only [Val.con.injEq] at e
        obtain ⟨e1, rfl⟩ := e
        exact hd _ (mem_narrows.2 ⟨p, x, hr, .inr ⟨by simpa using hf, e1.symm, rfl⟩⟩) ((matL_append (h4 e1.symm)).2 ⟨h5, h2⟩)

theorem disj_lefts {rows : List (List Pat)} {n : Int} {vs : List Val} (h : ∀ p ∈ firsts rows, p.kind = 2) : Disj rows (.int n :: vs) ↔ Disj (lefts n rows) vs := by
  constructor
  · intro hd x hx hm
    obtain ⟨p, h1, h2⟩ := mem_lefts.1 hx
    refine hd _ h2 ?_
    simp only [matL]
    refine ⟨_, vs, rfl, ?_, hm⟩
    by_cases hf : p.free = true
    · rw [mat_eq, if_pos hf]
      trivial
    · rw [mat_eq, if_neg hf, if_pos (h p (mem_firsts.2 ⟨by simpa using hf, x, h2⟩))]
      rcases h1 with h1 | h1
      · exact absurd h1 hf
      · rw [h1]
  · intro hd r hr hm
    cases r with
    | nil =>
      simp only [matL] at hm
      cases hm
    | cons p x =>
      simp only [matL] at hm
      obtain ⟨v', vs', e, h1, h2⟩ := hm
      cases e
      by_cases hf : p.free = true
      · exact hd _ (mem_lefts.2 ⟨p, .inl hf, hr⟩) h2
      · rw [mat_eq, if_neg hf, if_pos (h p (mem_firsts.2 ⟨by simpa using hf, x, hr⟩))] at h1
        simp only [Val.int.injEq] at h1
        exact hd _ (mem_lefts.2 ⟨p, .inr h1.symm, hr⟩) h2

/-! Types of the parts. -/

def TypedR (t : Tbl) (rows : List (List Pat)) (tys : List Ty) : Prop := ∀ r ∈ rows, HasTyL t r tys

theorem HasTyL.append {t : Tbl} : ∀ {a b : List Pat} {ta tb : List Ty}, HasTyL t a ta → HasTyL t b tb → HasTyL t (a ++ b) (ta ++ tb)
  | [], b, ta, tb, h, k => by
    simp only [HasTyL] at h
    subst h
    exact k
  | p :: a, b, ta, tb, h, k => by
    simp only [HasTyL] at h
    obtain ⟨ty, tys, rfl, h1, h2⟩ := h
    simp only [List.cons_append, HasTyL]
    exact ⟨ty, tys ++ tb, rfl, h1, h2.append k⟩

theorem HasTyL.anys {t : Tbl} : ∀ {tys : List Ty}, HasTyL t (List.replicate tys.length Pat.any) tys
  | [] => by simp [HasTyL]
  | ty :: tys => by
    simp only [List.length_cons, List.replicate_succ, HasTyL]
    exact ⟨ty, tys, rfl, by rw [HasTy_eq]; simp [Pat.any, Pat.free, Pat.kind], HasTyL.anys⟩

theorem HasTyL.len {t : Tbl} : ∀ {a : List Pat} {ta : List Ty}, HasTyL t a ta → a.length = ta.length
  | [], ta, h => by
    simp only [HasTyL] at h
    subst h
    rfl
  | p :: a, ta, h => by
    simp only [HasTyL] at h
    obtain ⟨ty, tys, rfl, h1, h2⟩ := h
    simp [h2.len]

theorem TypedR.firsts {t : Tbl} {rows : List (List Pat)} {ty : Ty} {tys : List Ty} (h : TypedR t rows (ty :: tys)) : ∀ p ∈ firsts rows, p.free = false ∧ HasTy t p ty := fun p hp => by
  obtain ⟨h1, x, hx⟩ := mem_firsts.1 hp
  have := h _ hx
  simp only [HasTyL] at this
  obtain ⟨ty', tys', e, h2, _⟩ := this
  cases e
  exact ⟨h1, h2⟩

theorem TypedR.rests {t : Tbl} {rows : List (List Pat)} {ty : Ty} {tys : List Ty} (h : TypedR t rows (ty :: tys)) : TypedR t (rests rows) tys := fun x hx => by
  obtain ⟨p, _, hp⟩ := mem_rests.1 hx
  have := h _ hp
  simp only [HasTyL] at this
  obtain ⟨ty', tys', e, _, h2⟩ := this
  cases e
  exact h2

theorem TypedR.lefts {t : Tbl} {rows : List (List Pat)} {ty : Ty} {tys : List Ty} (h : TypedR t rows (ty :: tys)) (n : Int) : TypedR t (lefts n rows) tys := fun x hx => by
  obtain ⟨p, _, hp⟩ := mem_lefts.1 hx
  have := h _ hp
  simp only [HasTyL] at this
  obtain ⟨ty', tys', e, _, h2⟩ := this
  cases e
  exact h2

theorem TypedR.narrows {t : Tbl} {rows : List (List Pat)} {i : Nat} {f : ByteArray → List Ty} {tys : List Ty} (h : TypedR t rows (.data i f :: tys)) (s : ByteArray) : TypedR t (narrows s (f s).length rows) (f s ++ tys) := fun y hy => by
  obtain ⟨p, x, h1, h2⟩ := mem_narrows.1 hy
  have := h _ h1
  simp only [HasTyL] at this
  obtain ⟨ty', tys', e, h3, h4⟩ := this
  cases e
  rcases h2 with ⟨_, rfl⟩ | ⟨hf, hs, rfl⟩
  · exact HasTyL.anys.append h4
  · by_cases e2 : p.kind = 2
    · have := h3.int hf e2
      cases this
    · obtain ⟨_, i', f', K, e, _, _, h5⟩ := h3.con hf e2
      cases e
      rw [hs] at h5
      exact h5.append h4

/-- In a column of a data type the patterns of a constructor have as many fields as it has. -/
theorem TypedR.con {t : Tbl} (hT : TblOK t) {rows : List (List Pat)} {i : Nat} {f : ByteArray → List Ty} {tys : List Ty} (h : TypedR t rows (.data i f :: tys)) (hw : WfTy t (.data i f)) {d : Data} (hd : t.datas[i]? = some d) {c : Con} (hc : c ∈ d.cons) :
    (f c.name).length = c.args.length ∧ ∀ p ∈ Go.Proofs.Ytakdmelemfnmdaa.firsts rows, p.kind = 3 ∧ (p.name = c.name → p.args.length = c.args.length) := by
  have hl : (f c.name).length = c.args.length := by
    cases hw with
    | data hd' hne' hl' hw' =>
      rw [hd] at hd'
      cases hd'
      exact hl' c hc
  refine ⟨hl, fun p hp => ?_⟩
  obtain ⟨h1, h2⟩ := h.firsts p hp
  by_cases e2 : p.kind = 2
  · have := h2.int h1 e2
    cases this
  · obtain ⟨h3, i', f', K, e, _, _, h5⟩ := h2.con h1 e2
    cases e
    exact ⟨h3, fun e => by rw [e] at h5; rw [h5.len, hl]⟩

def WfL (t : Tbl) (tys : List Ty) : Prop := ∀ ty ∈ tys, WfTy t ty

theorem WfL.con {t : Tbl} {i : Nat} {f : ByteArray → List Ty} {tys : List Ty} (h : WfL t (.data i f :: tys)) {d : Data} (hd : t.datas[i]? = some d) {c : Con} (hc : c ∈ d.cons) : WfL t (f c.name ++ tys) := fun ty hty => by
  rcases List.mem_append.1 hty with hty | hty
  · have := h (.data i f) (by simp)
    cases this with
    | data hd' hne' hl' hw' =>
      rw [hd] at hd'
      cases hd'
      exact hw' c hc ty hty
  · exact h ty (by simp [hty])

/-! missing -/

theorem missCons_true {g : Con → List Pat × Bool} : ∀ {l : List Con}, (missCons g l).2 = true → ∃ c ∈ l, (g c).2 = true ∧ (missCons g l).1 = .mk 3 c.name 0 ((g c).1.take c.args.length) :: (g c).1.drop c.args.length
  | [], h => by cases h
  | c :: r, h => by
    rw [missCons] at h ⊢
    split
    · rename_i hc
      exact ⟨c, by simp, hc, rfl⟩
    · rename_i hc
      rw [if_neg hc] at h
      obtain ⟨c', h1, h2, h3⟩ := missCons_true h
      exact ⟨c', by simp [h1], h2, h3⟩

theorem missCons_of {g : Con → List Pat × Bool} : ∀ {l : List Con} {c : Con}, c ∈ l → (g c).2 = true → (missCons g l).2 = true
  | c0 :: r, c, hc, h => by
    rw [missCons]
    split
    · rfl
    · rename_i hn
      rcases List.mem_cons.1 hc with rfl | hc
      · exact absurd h hn
      · exact missCons_of hc h

/-- What missing gives. -/
theorem missing_main {t : Tbl} (hT : TblOK t) : ∀ (fu : Nat) (rows : List (List Pat)) (tys : List Ty), wtR rows + tys.length < fu → TypedR t rows tys → WfL t tys →
    ((t.missingF fu rows tys.length).2 = true ↔ ∃ vs, InhL t vs tys ∧ Disj rows vs) ∧
    ((t.missingF fu rows tys.length).2 = true → (t.missingF fu rows tys.length).1.length = tys.length ∧ ∀ vs, matL (t.missingF fu rows tys.length).1 vs → Disj rows vs)
  | 0, rows, tys, h, _, _ => by omega
  | fu + 1, rows, [], _, hty, _ => by
    have e : t.missingF (fu + 1) rows ([] : List Ty).length = ([], rows.isEmpty) := rfl
    rw [e]
    refine ⟨⟨fun h => ⟨[], .nil, fun r hr => ?_⟩, fun ⟨vs, h1, h2⟩ => ?_⟩, fun h => ⟨rfl, fun vs _ r hr => ?_⟩⟩
    · have : rows = [] := List.isEmpty_iff.1 h
      rw [this] at hr
      cases hr
    · cases h1
      cases rows with
      | nil => rfl
      | cons r rows =>
        have h3 := hty r (by simp)
        cases r with
        | nil => exact absurd (by simp [matL]) (h2 [] (by simp))
        | cons p x =>
          simp only [HasTyL] at h3
          obtain ⟨_, _, e, _⟩ := h3
          cases e
    · have : rows = [] := List.isEmpty_iff.1 h
      rw [this] at hr
      cases hr
  | fu + 1, rows, ty :: tys, hfu, hty, hw => by
    simp only [List.length_cons] at hfu
    have hwt : WfTy t ty := hw ty (by simp)
    have hwl : WfL t tys := fun y hy => hw y (by simp [hy])
    cases absent_out hT hwt hty.firsts with
    | some q hq h1 h2 =>
      have hr := rests_wt rows
      obtain ⟨ih1, ih2⟩ := missing_main hT fu (rests rows) tys (by omega) hty.rests hwl
      have e : t.missingF (fu + 1) rows (ty :: tys).length = (q :: (t.missingF fu (rests rows) tys.length).1, (t.missingF fu (rests rows) tys.length).2) := by
        rw [List.length_cons, Tbl.missingF, hq]
      rw [e]
      refine ⟨⟨fun h => ?_, fun ⟨vs, k1, k2⟩ => ?_⟩, fun h => ?_⟩
      · obtain ⟨vs, k1, k2⟩ := ih1.1 h
        obtain ⟨v, hv, hn⟩ := h1
        exact ⟨v :: vs, .cons hv k1, disj_rests_of hn k2⟩
      · cases k1 with
        | cons k3 k4 => exact ih1.2 ⟨_, k4, disj_rests k2⟩
      · obtain ⟨k1, k2⟩ := ih2 h
        refine ⟨by simp [k1], fun vs hm => ?_⟩
        simp only [matL] at hm
        obtain ⟨v, vs', rfl, h3, h4⟩ := hm
        exact disj_rests_of (h2 v h3) (k2 vs' h4)
    | none hq i f d p r hl ht hd hp hall h3 =>
      subst ht
      have e : t.missingF (fu + 1) rows (Ty.data i f :: tys).length = missCons (fun c => t.missingF fu (narrows c.name c.args.length rows) (c.args.length + tys.length)) d.cons := by
        rw [List.length_cons, Tbl.missingF, hq, hl]
        simp only [hp, hd]
      have key : ∀ c ∈ d.cons, ((t.missingF fu (narrows c.name c.args.length rows) (c.args.length + tys.length)).2 = true ↔ ∃ vs, InhL t vs (f c.name ++ tys) ∧ Disj (narrows c.name c.args.length rows) vs) ∧
          ((t.missingF fu (narrows c.name c.args.length rows) (c.args.length + tys.length)).2 = true → (t.missingF fu (narrows c.name c.args.length rows) (c.args.length + tys.length)).1.length = c.args.length + tys.length ∧
            ∀ vs, matL (t.missingF fu (narrows c.name c.args.length rows) (c.args.length + tys.length)).1 vs → Disj (narrows c.name c.args.length rows) vs) := fun c hc => by
        obtain ⟨k1, k2⟩ := hty.con hT hwt hd hc
        have k3 := narrows_wt_lt c.name c.args.length rows (fun p hp => (k2 p hp).2) (hall c hc)
        have k4 := hty.narrows c.name
        rw [k1] at k4
        have := missing_main hT fu (narrows c.name c.args.length rows) (f c.name ++ tys) (by rw [List.length_append, k1]; omega) k4 (hw.con hd hc)
        rw [List.length_append, k1] at this
        exact this
      have hdis : ∀ c ∈ d.cons, ∀ us vs : List Val, us.length = c.args.length → (Disj rows (.con c.name us :: vs) ↔ Disj (narrows c.name c.args.length rows) (us ++ vs)) := fun c hc us vs hu => by
        rw [← hu]
        exact disj_narrows fun p hp => by
          rw [hu]
          exact (hty.con hT hwt hd hc).2 p hp
      rw [e]
      refine ⟨⟨fun h => ?_, fun ⟨vs, k1, k2⟩ => ?_⟩, fun h => ?_⟩
      · obtain ⟨c, hc, h4, _⟩ := missCons_true h
        obtain ⟨ws, k1, k2⟩ := ((key c hc).1).1 h4
        obtain ⟨us, vs, rfl, k3, k4⟩ := k1.split
        exact ⟨.con c.name us :: vs, .cons (.con hd hc k3) k4, (hdis c hc us vs (by rw [k3.len, (hty.con hT hwt hd hc).1])).2 k2⟩
      · cases k1 with
        | cons k3 k4 =>
          cases k3 with
          | con hd' hc k5 =>
            rw [hd] at hd'
            cases hd'
            refine missCons_of hc (((key _ hc).1).2 ⟨_, k5.append k4, ?_⟩)
            exact (hdis _ hc _ _ (by rw [k5.len, (hty.con hT hwt hd hc).1])).1 k2
      · obtain ⟨c, hc, h4, h5⟩ := missCons_true h
        obtain ⟨k1, k2⟩ := (key c hc).2 h4
        rw [h5]
        refine ⟨by simp [k1], fun vs hm => ?_⟩
        simp only [matL] at hm
        obtain ⟨v, vs', rfl, h6, h7⟩ := hm
        rw [mat_eq] at h6
        simp only [Pat.free, Pat.kind, Pat.name, Pat.args] at h6
        obtain ⟨us, rfl, h8⟩ := h6
        have hu : us.length = c.args.length := by
          have := matL_len h8
          simp [k1] at this
          omega
        refine (hdis c hc us vs' hu).2 (k2 _ ?_)
        have := (matL_append (a := (t.missingF fu (narrows c.name c.args.length rows) (c.args.length + tys.length)).1.take c.args.length) (b := (t.missingF fu (narrows c.name c.args.length rows) (c.args.length + tys.length)).1.drop c.args.length) (u := us) (v := vs') (matL_len h8)).2 ⟨h8, h7⟩
        rw [List.take_append_drop] at this
        exact this

end Go.Proofs.Ytakdmelemfnmdaa
end

section
/-
  What useful tells: there is a list of values of the columns' types that the row matches and none of the others.
-/
set_option linter.unusedVariables false
namespace Go.Proofs.Ytakdmelemfnmdaa

theorem lefts_wt (n : Int) : ∀ rows : List (List Pat), wtR (lefts n rows) ≤ wtR rows
  | [] => Nat.le_refl _
  | [] :: r => by
    have := lefts_wt n r
    simp only [lefts, wtR]
    omega
  | (p :: x) :: r => by
    have := lefts_wt n r
    simp only [lefts]
    split
    · simp only [wtR, wtL]
      omega
    · simp only [wtR]
      omega

theorem useful_main {t : Tbl} (hT : TblOK t) : ∀ (fu : Nat) (rows : List (List Pat)) (row : List Pat) (tys : List Ty), wtR rows + wtL row + row.length < fu → TypedR t rows tys → HasTyL t row tys → WfL t tys →
    (t.usefulF fu rows row = true ↔ ∃ vs, InhL t vs tys ∧ matL row vs ∧ Disj rows vs)
  | 0, rows, row, tys, h, _, _, _ => by omega
  | fu + 1, rows, [], tys, _, hty, hrow, _ => by
    simp only [HasTyL] at hrow
    subst hrow
    rw [Tbl.usefulF]
    refine ⟨fun h => ⟨[], .nil, by simp [matL], fun r hr => ?_⟩, fun ⟨vs, h1, _, h2⟩ => ?_⟩
    · have : rows = [] := List.isEmpty_iff.1 h
      rw [this] at hr
      cases hr
    · cases h1
      cases rows with
      | nil => rfl
      | cons r rows =>
        have h3 := hty r (by simp)
        cases r with
        | nil => exact absurd (by simp [matL]) (h2 [] (by simp))
        | cons p x =>
          simp only [HasTyL] at h3
          obtain ⟨_, _, e, _⟩ := h3
          cases e
  | fu + 1, rows, p :: x, tys0, hfu, hty, hrow, hw => by
    simp only [HasTyL] at hrow
    obtain ⟨ty, tys, rfl, hp, hx⟩ := hrow
    simp only [wtL, List.length_cons] at hfu
    have hwt : WfTy t ty := hw ty (by simp)
    have hwl : WfL t tys := fun y hy => hw y (by simp [hy])
    have hpw := p.wt_eq
    rw [Tbl.usefulF]
    by_cases h3 : p.kind = 3
    · have hf : p.free = false := by simp [Pat.free, h3]
      rw [if_neg (by simp [hf])] at hpw
      obtain ⟨_, i, f, K, rfl, hK, hi, hargs⟩ := hp.con hf (by omega)
      obtain ⟨d, c, hd, hc, hcn, hm⟩ := hT.back _ _ hK
      rw [hi] at hd
      have hmany : (t.con p.name).many = c.args.length := by rw [Tbl.con, hK, hm]; rfl
      obtain ⟨k1, k2⟩ := hty.con hT hwt hd hc
      have k4 := hty.narrows c.name
      rw [k1, hcn] at k4
      have hnw := narrows_wt p.name c.args.length rows
      have hdis : ∀ us vs : List Val, us.length = c.args.length → (Disj rows (.con p.name us :: vs) ↔ Disj (narrows p.name c.args.length rows) (us ++ vs)) := fun us vs hu => by
        rw [← hu]
        exact disj_narrows fun q hq => by
          rw [hu, ← hcn]
          exact k2 q hq
      rw [if_pos h3, hmany]
      have hwc := hw.con hd hc
      rw [hcn] at hwc
      rw [useful_main hT fu (narrows p.name c.args.length rows) (p.args ++ x) (f p.name ++ tys) (by rw [wtL_append, List.length_append]; omega) k4 (hargs.append hx) hwc]
      have hlen : (f p.name).length = c.args.length := by rw [← hcn, k1]
      constructor
      · rintro ⟨ws, h1, h2, h4⟩
        obtain ⟨us, vs, rfl, h5, h6⟩ := h1.split
        have hu : us.length = c.args.length := by rw [h5.len, hlen]
        obtain ⟨m1, m2⟩ := (matL_append (by rw [hargs.len, h5.len])).1 h2
        refine ⟨.con p.name us :: vs, .cons ?_ h6, ?_, (hdis us vs hu).2 h4⟩
        · rw [← hcn] at h5 ⊢
          exact .con hd hc h5
        · simp only [matL]
          exact ⟨_, vs, rfl, by rw [mat_eq, if_neg (by simp [hf]), if_neg (by omega)]; exact ⟨us, rfl, m1⟩, m2⟩
      · rintro ⟨vs, h1, h2, h4⟩
        simp only [matL] at h2
        obtain ⟨v, vs', rfl, h5, h6⟩ := h2
        rw [mat_eq, if_neg (by simp [hf]), if_neg (by omega)] at h5
        obtain ⟨us, rfl, h7⟩ := h5
        have hu : us.length = c.args.length := by rw [← matL_len h7, hargs.len, hlen]
        generalize hs : p.name = s at *
        cases h1 with
        | cons k5 k6 =>
          cases k5 with
          | con hd' hc' k7 => exact ⟨us ++ vs', k7.append k6, (matL_append (matL_len h7)).2 ⟨h7, h6⟩, (hdis us vs' hu).1 h4⟩
    · rw [if_neg h3]
      by_cases h2 : p.kind = 2
      · have hf : p.free = false := by simp [Pat.free, h2]
        have := hp.int hf h2
        subst this
        have hk2 : ∀ q ∈ firsts rows, q.kind = 2 := fun q hq => by
          obtain ⟨m1, m2⟩ := hty.firsts q hq
          by_cases e : q.kind = 2
          · exact e
          · obtain ⟨_, i, f, K, e, _⟩ := m2.con m1 e
            cases e
        rw [if_pos h2, useful_main hT fu (lefts p.n rows) x tys (by have := lefts_wt p.n rows; omega) (hty.lefts _) hx hwl]
        constructor
        · rintro ⟨vs, m1, m2, m3⟩
          refine ⟨.int p.n :: vs, .cons (.int _) m1, ?_, (disj_lefts hk2).2 m3⟩
          simp only [matL]
          exact ⟨_, vs, rfl, by rw [mat_eq, if_neg (by simp [hf]), if_pos h2], m2⟩
        · rintro ⟨vs, m1, m2, m3⟩
          simp only [matL] at m2
          obtain ⟨v, vs', rfl, m4, m5⟩ := m2
          rw [mat_eq, if_neg (by simp [hf]), if_pos h2] at m4
          subst m4
          cases m1 with
          | cons _ m6 => exact ⟨vs', m6, m5, (disj_lefts hk2).1 m3⟩
      · rw [if_neg h2]
        have hf : p.free = true := by
          by_cases e : p.free = true
          · exact e
          · exact absurd (hp.con (by simpa using e) h2).1 h3
        have hmat : ∀ v, mat p v := fun v => by rw [mat_eq, if_pos hf]; trivial
        cases absent_out hT hwt hty.firsts with
        | some q hq h1 h4 =>
          rw [hq]
          have hr := rests_wt rows
          show t.usefulF fu (rests rows) x = true ↔ _
          rw [useful_main hT fu (rests rows) x tys (by omega) hty.rests hx hwl]
          constructor
          · rintro ⟨vs, m1, m2, m3⟩
            obtain ⟨v, hv, hn⟩ := h1
            refine ⟨v :: vs, .cons hv m1, ?_, disj_rests_of hn m3⟩
            simp only [matL]
            exact ⟨v, vs, rfl, hmat v, m2⟩
          · rintro ⟨vs, m1, m2, m3⟩
            simp only [matL] at m2
            obtain ⟨v, vs', rfl, m4, m5⟩ := m2
            cases m1 with
            | cons _ m6 => exact ⟨vs', m6, m5, disj_rests m3⟩
        | none hq i f d q r hl ht hd hp' hall h5 =>
          subst ht
          rw [hq, hl]
          simp only [hp', hd, List.any_eq_true]
          have key : ∀ c ∈ d.cons, (t.usefulF fu (narrows c.name c.args.length rows) (List.replicate c.args.length Pat.any ++ x) = true ↔ ∃ vs, InhL t vs (f c.name ++ tys) ∧ matL (List.replicate c.args.length Pat.any ++ x) vs ∧ Disj (narrows c.name c.args.length rows) vs) := fun c hc => by
            obtain ⟨k1, k2⟩ := hty.con hT hwt hd hc
            have k3 := narrows_wt_lt c.name c.args.length rows (fun p hp => (k2 p hp).2) (hall c hc)
            have k4 := hty.narrows c.name
            have ha := HasTyL.anys (t := t) (tys := f c.name)
            rw [k1] at k4 ha
            exact useful_main hT fu (narrows c.name c.args.length rows) _ (f c.name ++ tys) (by rw [wtL_append, wtL_any, List.length_append, List.length_replicate]; omega) k4 (ha.append hx) (hw.con hd hc)
          have hdis : ∀ c ∈ d.cons, ∀ us vs : List Val, us.length = c.args.length → (Disj rows (.con c.name us :: vs) ↔ Disj (narrows c.name c.args.length rows) (us ++ vs)) := fun c hc us vs hu => by
            rw [← hu]
            exact disj_narrows fun p hp => by
              rw [hu]
              exact (hty.con hT hwt hd hc).2 p hp
          constructor
          · rintro ⟨c, hc, h6⟩
            obtain ⟨ws, m1, m2, m3⟩ := (key c hc).1 h6
            obtain ⟨us, vs, rfl, m4, m5⟩ := m1.split
            have hu : us.length = c.args.length := by rw [m4.len, (hty.con hT hwt hd hc).1]
            refine ⟨.con c.name us :: vs, .cons (.con hd hc m4) m5, ?_, (hdis c hc us vs hu).2 m3⟩
            simp only [matL]
            exact ⟨_, vs, rfl, hmat _, ((matL_append (by simp [hu])).1 m2).2⟩
          · rintro ⟨vs, m1, m2, m3⟩
            simp only [matL] at m2
            obtain ⟨v, vs', rfl, m4, m5⟩ := m2
            cases m1 with
            | cons k3 k4 =>
              cases k3 with
              | con hd' hc k5 =>
                rename_i c us
                rw [hd] at hd'
                cases hd'
                have hu : us.length = c.args.length := by rw [k5.len, (hty.con hT hwt hd hc).1]
                exact ⟨c, hc, (key c hc).2 ⟨us ++ vs', k5.append k4, (matL_append (by simp [hu])).2 ⟨matL_anys hu, m5⟩, (hdis c hc us vs' hu).1 m3⟩⟩

end Go.Proofs.Ytakdmelemfnmdaa
end

section
set_option linter.unusedSimpArgs false
set_option linter.unusedVariables false
set_option maxHeartbeats 1000000
set_option maxRecDepth 100000
-- !tab vtab
-- !upto Pat.enc_upto Pat.map_upto any_upto rows_upto Con.enc_upto Con.map_upto Data.enc_upto Data.map_upto Tbl.enc_upto entry_upto
namespace Go.Proofs.Ytakdmelemfnmdaa
open Go.Av

/-- The types of the constructors' fields are no more than fit memory. -/
def FitD (datas : List Data) : Prop := ∀ d ∈ datas, ∀ c ∈ d.cons, c.args.length ≤ 2513169434843

theorem absent_spec {t : Tbl} (hT : TblOK t) (hF : FitD t.datas) {ty : Ty} {l : List Pat} (h : ∀ p ∈ l, p.free = false ∧ HasTy t p ty) (hb : l.length ≤ 2 ^ 30) : PCall Try.prog 43 [t.enc, eR l] (absentRes (t.absent l)) := by
  cases l with
  | nil => exact absent_nil t
  | cons p r =>
    simp only [List.length_cons] at hb
    by_cases h2 : p.kind = 2
    · have := absent_int t p r h2 (by omega)
      rw [Tbl.absent, if_pos h2]
      exact this
    · obtain ⟨hf, hp⟩ := h p (by simp)
      obtain ⟨_, i, f, K, rfl, hK, hi, _⟩ := hp.con hf h2
      have hcon : t.con p.name = K := by rw [Tbl.con, hK]; rfl
      obtain ⟨d, c, hd, hc, _, _⟩ := hT.back _ _ hK
      have := absent_con t p r h2 d (by rw [hcon, hd]) (hF d (List.mem_of_getElem? hd))
      rw [Tbl.absent, if_neg h2, hcon, hd]
      exact this

/-- The rows are small. -/
def SmallR (rows : List (List Pat)) : Prop := rows.length ≤ 64 ∧ ∀ r ∈ rows, ∀ p ∈ r, p.nodes ≤ 400

theorem SmallR.rests {rows : List (List Pat)} (h : SmallR rows) : SmallR (rests rows) := by
  refine ⟨Nat.le_trans (rests_len rows) h.1, fun r hr p hp => ?_⟩
  obtain ⟨q, _, hq⟩ := mem_rests.1 hr
  exact h.2 _ hq p (by simp [hp])

theorem SmallR.lefts {rows : List (List Pat)} (h : SmallR rows) (n : Int) : SmallR (lefts n rows) := by
  refine ⟨?_, fun r hr p hp => ?_⟩
  · have : ∀ l : List (List Pat), (Go.Proofs.Ytakdmelemfnmdaa.lefts n l).length ≤ l.length := fun l => by
      induction l with
      | nil => simp [Go.Proofs.Ytakdmelemfnmdaa.lefts]
      | cons r l ih =>
        cases r with
        | nil => simp only [Go.Proofs.Ytakdmelemfnmdaa.lefts, List.length_cons]; omega
        | cons p x =>
          simp only [Go.Proofs.Ytakdmelemfnmdaa.lefts]
          split <;> simp only [List.length_cons] <;> omega
    exact Nat.le_trans (this rows) h.1
  · obtain ⟨q, _, hq⟩ := mem_lefts.1 hr
    exact h.2 _ hq p (by simp [hp])

theorem SmallR.narrows {rows : List (List Pat)} (h : SmallR rows) (s : ByteArray) (n : Nat) : SmallR (narrows s n rows) := by
  refine ⟨Nat.le_trans (narrows_len s n rows) h.1, fun r hr p hp => ?_⟩
  obtain ⟨q, x, hq, h1⟩ := mem_narrows.1 hr
  rcases h1 with ⟨_, rfl⟩ | ⟨_, _, rfl⟩
  · rcases List.mem_append.1 hp with hp | hp
    · rw [(List.mem_replicate.1 hp).2, Pat.nodes_eq]
      simp [Pat.any, Pat.args, nodesL]
    · exact h.2 _ hq p (by simp [hp])
  · rcases List.mem_append.1 hp with hp | hp
    · have h1 := nodesL_mem hp
      have h2 := h.2 _ hq q (by simp)
      rw [Pat.nodes_eq] at h2
      omega
    · exact h.2 _ hq p (by simp [hp])

theorem SmallR.args {rows : List (List Pat)} (h : SmallR rows) : ∀ r ∈ rows, ∀ p ∈ r, p.args.length ≤ 400 := fun r hr p hp => by
  have h1 := nodesL_len p.args
  have h2 := h.2 r hr p hp
  rw [Pat.nodes_eq] at h2
  omega

theorem TypedR.ne {t : Tbl} {rows : List (List Pat)} {ty : Ty} {tys : List Ty} (h : TypedR t rows (ty :: tys)) : ∀ r ∈ rows, r ≠ [] ∧ r.length = tys.length + 1 := fun r hr => by
  have := (h r hr).len
  simp only [List.length_cons] at this
  exact ⟨fun e => by rw [e] at this; simp at this, this⟩

def missRes (q : List Pat × Bool) : AVal := .tup [eR q.1, .v (.bool q.2)]

theorem missCons_len {g : Con → List Pat × Bool} {m : Nat} : ∀ {l : List Con}, (∀ c ∈ l, (g c).1.length ≤ m) → (missCons g l).1.length ≤ m + 1
  | [], _ => by simp [missCons]
  | c :: r, h => by
    rw [missCons]
    split
    · have := h c (by simp)
      simp
      omega
    · exact missCons_len fun c hc => h c (by simp [hc])

theorem miss_len (t : Tbl) : ∀ (fu : Nat) (rows : List (List Pat)) (m : Nat), (t.missingF fu rows m).1.length ≤ fu
  | 0, _, _ => by simp [Tbl.missingF]
  | fu + 1, rows, 0 => by simp [Tbl.missingF]
  | fu + 1, rows, m + 1 => by
    rw [Tbl.missingF]
    split
    · have := miss_len t fu (rests rows) m
      simp
      omega
    · split
      · simp
      · split
        · simp
        · exact missCons_len fun c _ => miss_len t fu _ _

def MissOK (t : Tbl) (fu : Nat) : Prop := ∀ (rows : List (List Pat)) (tys : List Ty), wtR rows + tys.length < fu → TypedR t rows tys → WfL t tys → SmallR rows → fu ≤ 2 ^ 19 →
    PCall Try.prog 28 [t.enc, eRR rows, aI tys.length] (missRes (t.missingF fu rows tys.length))

theorem missing_nil {t : Tbl} (fu : Nat) (rows : List (List Pat)) : PCall Try.prog 28 [t.enc, eRR rows, aI ([] : List Ty).length] (missRes (t.missingF (fu + 1) rows ([] : List Ty).length)) := by
    have e : t.missingF (fu + 1) rows ([] : List Ty).length = ([], rows.isEmpty) := rfl
    rw [e]
    refine ecall_of hT true 0 Try.func28 rfl (by kernel_rfl) (by simp [Try.ntmps28]) (by simp) ?_
    show AWP Try.prog _ _ _ ⟨97, _, _⟩
    dsimp only [Tmp, TypeId, slotsOf]
    first | refine awp_seq (awp_region hT hm ?_) | refine awp_region hT hm ?_ | refine awp_seq (awp_seq (awp_region hT hm ?_)) | refine awp_seq (awp_seq (awp_seq (awp_region hT hm ?_)))
    simp -dsimp only [↓vpre, vpos, Int.reduceNeg, Int.reduceLE, Int.reduceLT, reduceIte, Nat.reduceEqDiff, Nat.reduceLT, Nat.reduceLeDiff, Nat.reduceAdd, Nat.reduceMul, Nat.reduceSub, Nat.reducePow, ne_eq, Int.reduceAdd, Int.reduceSub, Int.reduceMul, Int.reduceToNat, implies_true, vtab]
    refine at_intro ?_
    simp -dsimp only [vend, ne_eq, Nat.reduceEqDiff, reduceCtorEq]
    first | refine awp_seq (awp_region hT hm ?_) | refine awp_region hT hm ?_ | refine awp_seq (awp_seq (awp_region hT hm ?_)) | refine awp_seq (awp_seq (awp_seq (awp_region hT hm ?_)))
    simp -dsimp only [↓vpre, vpos, Int.reduceNeg, Int.reduceLE, Int.reduceLT, reduceIte, Nat.reduceEqDiff, Nat.reduceLT, Nat.reduceLeDiff, Nat.reduceAdd, Nat.reduceMul, Nat.reduceSub, Nat.reducePow, ne_eq, Int.reduceAdd, Int.reduceSub, Int.reduceMul, Int.reduceToNat, implies_true, vtab]
    refine at_intro ?_
    simp -dsimp only [vend, ne_eq, Nat.reduceEqDiff, reduceCtorEq]
    first | refine awp_seq (awp_cond rfl (fun h => ?_) (fun h => ?_)) | refine awp_cond rfl (fun h => ?_) (fun h => ?_) | refine awp_seq (awp_seq (awp_cond rfl (fun h => ?_) (fun h => ?_)))
    · first | refine awp_seq (awp_region hT hm ?_) | refine awp_region hT hm ?_ | refine awp_seq (awp_seq (awp_region hT hm ?_)) | refine awp_seq (awp_seq (awp_seq (awp_region hT hm ?_)))
      simp -dsimp only [↓vpre, vpos, Int.reduceNeg, Int.reduceLE, Int.reduceLT, reduceIte, Nat.reduceEqDiff, Nat.reduceLT, Nat.reduceLeDiff, Nat.reduceAdd, Nat.reduceMul, Nat.reduceSub, Nat.reducePow, ne_eq, Int.reduceAdd, Int.reduceSub, Int.reduceMul, Int.reduceToNat, implies_true, vtab]
      refine at_intro ?_
      simp -dsimp only [vend, ne_eq, Nat.reduceEqDiff, reduceCtorEq]
      refine awp_ret ?_
      simp -dsimp only [↓vpre, vpos, Int.reduceNeg, Int.reduceLE, Int.reduceLT, reduceIte, Nat.reduceEqDiff, Nat.reduceLT, Nat.reduceLeDiff, Nat.reduceAdd, Nat.reduceMul, Nat.reduceSub, Nat.reducePow, ne_eq, Int.reduceAdd, Int.reduceSub, Int.reduceMul, Int.reduceToNat, implies_true, vtab, RetTo, Try.results28, retVals, retVal, mkRet, AVal.upto, Nat.zero_le, Nat.le_refl, seqPost_ret, blockPost_ret, loopPost_ret]
      exact ⟨by simp [uptoL, AVal.upto], by cases rows <;> simp [missRes] <;> omega⟩
    · cases h

theorem missing_cons {t : Tbl} (hT0 : TblOK t) (hF : FitD t.datas) (fu : Nat) (ih : MissOK t fu) (rows : List (List Pat)) (ty : Ty) (tys : List Ty) (hfu : wtR rows + (ty :: tys).length < fu + 1) (hty : TypedR t rows (ty :: tys)) (hw : WfL t (ty :: tys)) (hs : SmallR rows) (hb : fu + 1 ≤ 2 ^ 19) :
    PCall Try.prog 28 [t.enc, eRR rows, aI (ty :: tys).length] (missRes (t.missingF (fu + 1) rows (ty :: tys).length)) := by
    simp only [List.length_cons] at hfu
    have hwt : WfTy t ty := hw ty (by simp)
    have hwl : WfL t tys := fun y hy => hw y (by simp [hy])
    have hl64 := hs.1
    have hfl := firsts_len rows
    have hab := absent_spec hT0 hF hty.firsts (by omega)
    have hsub : ((tys.length + 1 : Nat) : Int) - 1 = tys.length := by omega
    rw [List.length_cons]
    refine ecall_of hT true 0 Try.func28 rfl (by kernel_rfl) (by simp [Try.ntmps28]) (by simp) ?_
    show AWP Try.prog _ _ _ ⟨97, _, _⟩
    dsimp only [Tmp, TypeId, slotsOf]
    first | refine awp_seq (awp_region hT hm ?_) | refine awp_region hT hm ?_ | refine awp_seq (awp_seq (awp_region hT hm ?_)) | refine awp_seq (awp_seq (awp_seq (awp_region hT hm ?_)))
    simp -dsimp only [↓vpre, vpos, Int.reduceNeg, Int.reduceLE, Int.reduceLT, reduceIte, Nat.reduceEqDiff, Nat.reduceLT, Nat.reduceLeDiff, Nat.reduceAdd, Nat.reduceMul, Nat.reduceSub, Nat.reducePow, ne_eq, Int.reduceAdd, Int.reduceSub, Int.reduceMul, Int.reduceToNat, implies_true, vtab]
    refine at_intro ?_
    simp -dsimp only [vend, ne_eq, Nat.reduceEqDiff, reduceCtorEq]
    first | refine awp_seq (awp_region hT hm ?_) | refine awp_region hT hm ?_ | refine awp_seq (awp_seq (awp_region hT hm ?_)) | refine awp_seq (awp_seq (awp_seq (awp_region hT hm ?_)))
    simp -dsimp only [↓vpre, vpos, Int.reduceNeg, Int.reduceLE, Int.reduceLT, reduceIte, Nat.reduceEqDiff, Nat.reduceLT, Nat.reduceLeDiff, Nat.reduceAdd, Nat.reduceMul, Nat.reduceSub, Nat.reducePow, ne_eq, Int.reduceAdd, Int.reduceSub, Int.reduceMul, Int.reduceToNat, implies_true, vtab]
    refine at_intro ?_
    simp -dsimp only [vend, ne_eq, Nat.reduceEqDiff, reduceCtorEq]
    first | refine awp_seq (awp_cond rfl (fun h => ?_) (fun h => ?_)) | refine awp_cond rfl (fun h => ?_) (fun h => ?_) | refine awp_seq (awp_seq (awp_cond rfl (fun h => ?_) (fun h => ?_)))
    · simp at h
      omega
    · refine awp_skip ?_
      simp -dsimp only [vend, ne_eq, Nat.reduceEqDiff, reduceCtorEq]
      first | refine awp_seq (awp_region hT hm ?_) | refine awp_region hT hm ?_ | refine awp_seq (awp_seq (awp_region hT hm ?_)) | refine awp_seq (awp_seq (awp_seq (awp_region hT hm ?_)))
      simp -dsimp only [↓vpre, vpos, Int.reduceNeg, Int.reduceLE, Int.reduceLT, reduceIte, Nat.reduceEqDiff, Nat.reduceLT, Nat.reduceLeDiff, Nat.reduceAdd, Nat.reduceMul, Nat.reduceSub, Nat.reducePow, ne_eq, Int.reduceAdd, Int.reduceSub, Int.reduceMul, Int.reduceToNat, implies_true, vtab]
      refine .inl ⟨_, (first_spec rows (by omega) (fun r hr => (hty.ne r hr).1)), by first | (simp only [uptoL, AVal.upto, and_true, true_and, and_self, Pat.enc_upto, Pat.map_upto, any_upto, rows_upto, Con.enc_upto, Con.map_upto, Data.enc_upto, Data.map_upto, Tbl.enc_upto, entry_upto]; done) | (simp [uptoL, AVal.upto, Pat.enc_upto, Pat.map_upto, any_upto, rows_upto, Con.enc_upto, Con.map_upto, Data.enc_upto, Data.map_upto, Tbl.enc_upto, entry_upto]; done), later_intro ?_⟩
      simp -dsimp only [↓vpre, vpos, Int.reduceNeg, Int.reduceLE, Int.reduceLT, reduceIte, Nat.reduceEqDiff, Nat.reduceLT, Nat.reduceLeDiff, Nat.reduceAdd, Nat.reduceMul, Nat.reduceSub, Nat.reducePow, ne_eq, Int.reduceAdd, Int.reduceSub, Int.reduceMul, Int.reduceToNat, implies_true, vtab]
      refine at_intro ?_
      simp -dsimp only [vend, ne_eq, Nat.reduceEqDiff, reduceCtorEq]
      cases absent_out hT0 hwt hty.firsts with
      | some q hq h1 h2 =>
        rw [hq] at hab
        first | refine awp_seq (awp_region hT hm ?_) | refine awp_region hT hm ?_ | refine awp_seq (awp_seq (awp_region hT hm ?_)) | refine awp_seq (awp_seq (awp_seq (awp_region hT hm ?_)))
        simp -dsimp only [↓vpre, vpos, Int.reduceNeg, Int.reduceLE, Int.reduceLT, reduceIte, Nat.reduceEqDiff, Nat.reduceLT, Nat.reduceLeDiff, Nat.reduceAdd, Nat.reduceMul, Nat.reduceSub, Nat.reducePow, ne_eq, Int.reduceAdd, Int.reduceSub, Int.reduceMul, Int.reduceToNat, implies_true, vtab]
        refine .inl ⟨_, hab, by first | (simp only [uptoL, AVal.upto, and_true, true_and, and_self, Pat.enc_upto, Pat.map_upto, any_upto, rows_upto, Con.enc_upto, Con.map_upto, Data.enc_upto, Data.map_upto, Tbl.enc_upto, entry_upto]; done) | (simp [uptoL, AVal.upto, Pat.enc_upto, Pat.map_upto, any_upto, rows_upto, Con.enc_upto, Con.map_upto, Data.enc_upto, Data.map_upto, Tbl.enc_upto, entry_upto]; done), later_intro ?_⟩
        simp -dsimp only [↓vpre, vpos, Int.reduceNeg, Int.reduceLE, Int.reduceLT, reduceIte, Nat.reduceEqDiff, Nat.reduceLT, Nat.reduceLeDiff, Nat.reduceAdd, Nat.reduceMul, Nat.reduceSub, Nat.reducePow, ne_eq, Int.reduceAdd, Int.reduceSub, Int.reduceMul, Int.reduceToNat, implies_true, vtab, absentRes]
        refine at_intro ?_
        simp -dsimp only [vend, ne_eq, Nat.reduceEqDiff, reduceCtorEq]
        first | refine awp_seq (awp_region hT hm ?_) | refine awp_region hT hm ?_ | refine awp_seq (awp_seq (awp_region hT hm ?_)) | refine awp_seq (awp_seq (awp_seq (awp_region hT hm ?_)))
        simp -dsimp only [↓vpre, vpos, Int.reduceNeg, Int.reduceLE, Int.reduceLT, reduceIte, Nat.reduceEqDiff, Nat.reduceLT, Nat.reduceLeDiff, Nat.reduceAdd, Nat.reduceMul, Nat.reduceSub, Nat.reducePow, ne_eq, Int.reduceAdd, Int.reduceSub, Int.reduceMul, Int.reduceToNat, implies_true, vtab]
        refine at_intro ?_
        simp -dsimp only [vend, ne_eq, Nat.reduceEqDiff, reduceCtorEq]
        first | refine awp_seq (awp_cond rfl (fun h => ?_) (fun h => ?_)) | refine awp_cond rfl (fun h => ?_) (fun h => ?_) | refine awp_seq (awp_seq (awp_cond rfl (fun h => ?_) (fun h => ?_)))
        · have e : t.missingF (fu + 1) rows (tys.length + 1) = (q :: (t.missingF fu (rests rows) tys.length).1, (t.missingF fu (rests rows) tys.length).2) := by
            rw [Tbl.missingF, hq]
          have hr := rests_wt rows
          have hlen := miss_len t fu (rests rows) tys.length
          rw [e]
          first | refine awp_seq (awp_region hT hm ?_) | refine awp_region hT hm ?_ | refine awp_seq (awp_seq (awp_region hT hm ?_)) | refine awp_seq (awp_seq (awp_seq (awp_region hT hm ?_)))
          simp -dsimp only [↓vpre, vpos, Int.reduceNeg, Int.reduceLE, Int.reduceLT, reduceIte, Nat.reduceEqDiff, Nat.reduceLT, Nat.reduceLeDiff, Nat.reduceAdd, Nat.reduceMul, Nat.reduceSub, Nat.reducePow, ne_eq, Int.reduceAdd, Int.reduceSub, Int.reduceMul, Int.reduceToNat, implies_true, vtab]
          refine .inl ⟨_, (rest_spec rows (by omega) (fun r hr => (hty.ne r hr).1)), by first | (simp only [uptoL, AVal.upto, and_true, true_and, and_self, Pat.enc_upto, Pat.map_upto, any_upto, rows_upto, Con.enc_upto, Con.map_upto, Data.enc_upto, Data.map_upto, Tbl.enc_upto, entry_upto]; done) | (simp [uptoL, AVal.upto, Pat.enc_upto, Pat.map_upto, any_upto, rows_upto, Con.enc_upto, Con.map_upto, Data.enc_upto, Data.map_upto, Tbl.enc_upto, entry_upto]; done), later_intro ?_⟩
          simp -dsimp only [↓vpre, vpos, Int.reduceNeg, Int.reduceLE, Int.reduceLT, reduceIte, Nat.reduceEqDiff, Nat.reduceLT, Nat.reduceLeDiff, Nat.reduceAdd, Nat.reduceMul, Nat.reduceSub, Nat.reducePow, ne_eq, Int.reduceAdd, Int.reduceSub, Int.reduceMul, Int.reduceToNat, implies_true, vtab]
          repeat (refine ⟨by omega, ?_⟩)
          simp -dsimp only [hsub]
          refine .inl ⟨_, (ih (rests rows) tys (by omega) hty.rests hwl hs.rests (by omega)), by first | (simp only [uptoL, AVal.upto, and_true, true_and, and_self, Pat.enc_upto, Pat.map_upto, any_upto, rows_upto, Con.enc_upto, Con.map_upto, Data.enc_upto, Data.map_upto, Tbl.enc_upto, entry_upto]; done) | (simp [uptoL, AVal.upto, Pat.enc_upto, Pat.map_upto, any_upto, rows_upto, Con.enc_upto, Con.map_upto, Data.enc_upto, Data.map_upto, Tbl.enc_upto, entry_upto]; done), later_intro ?_⟩
          simp -dsimp only [↓vpre, vpos, Int.reduceNeg, Int.reduceLE, Int.reduceLT, reduceIte, Nat.reduceEqDiff, Nat.reduceLT, Nat.reduceLeDiff, Nat.reduceAdd, Nat.reduceMul, Nat.reduceSub, Nat.reducePow, ne_eq, Int.reduceAdd, Int.reduceSub, Int.reduceMul, Int.reduceToNat, implies_true, vtab, missRes]
          refine ⟨?_, ?_⟩
          · (show orderB _ _ = true); kernel_rfl
          refine at_intro ?_
          simp -dsimp only [vend, ne_eq, Nat.reduceEqDiff, reduceCtorEq]
          first | refine awp_seq (awp_region hT hm ?_) | refine awp_region hT hm ?_ | refine awp_seq (awp_seq (awp_region hT hm ?_)) | refine awp_seq (awp_seq (awp_seq (awp_region hT hm ?_)))
          simp -dsimp only [↓vpre, vpos, Int.reduceNeg, Int.reduceLE, Int.reduceLT, reduceIte, Nat.reduceEqDiff, Nat.reduceLT, Nat.reduceLeDiff, Nat.reduceAdd, Nat.reduceMul, Nat.reduceSub, Nat.reducePow, ne_eq, Int.reduceAdd, Int.reduceSub, Int.reduceMul, Int.reduceToNat, implies_true, vtab]
          repeat (refine ⟨by omega, ?_⟩)
          refine at_intro ?_
          simp -dsimp only [vend, ne_eq, Nat.reduceEqDiff, reduceCtorEq]
          refine awp_ret ?_
          simp -dsimp only [↓vpre, vpos, Int.reduceNeg, Int.reduceLE, Int.reduceLT, reduceIte, Nat.reduceEqDiff, Nat.reduceLT, Nat.reduceLeDiff, Nat.reduceAdd, Nat.reduceMul, Nat.reduceSub, Nat.reducePow, ne_eq, Int.reduceAdd, Int.reduceSub, Int.reduceMul, Int.reduceToNat, implies_true, vtab, RetTo, Try.results28, retVals, retVal, mkRet, AVal.upto, Nat.zero_le, Nat.le_refl, seqPost_ret, blockPost_ret, loopPost_ret]
          exact ⟨by simp [uptoL, AVal.upto, Pat.map_upto, Pat.enc_upto], by simp [missRes]⟩
        · cases h
      | none hq i f d p r hl ht hd hp hall h3 =>
        rw [hq] at hab
        have e : t.missingF (fu + 1) rows (tys.length + 1) = missCons (fun c => t.missingF fu (narrows c.name c.args.length rows) (c.args.length + tys.length)) d.cons := by
          rw [Tbl.missingF, hq, hl]
          simp only [hp, hd]
        rw [e]
        subst ht
        first | refine awp_seq (awp_region hT hm ?_) | refine awp_region hT hm ?_ | refine awp_seq (awp_seq (awp_region hT hm ?_)) | refine awp_seq (awp_seq (awp_seq (awp_region hT hm ?_)))
        simp -dsimp only [↓vpre, vpos, Int.reduceNeg, Int.reduceLE, Int.reduceLT, reduceIte, Nat.reduceEqDiff, Nat.reduceLT, Nat.reduceLeDiff, Nat.reduceAdd, Nat.reduceMul, Nat.reduceSub, Nat.reducePow, ne_eq, Int.reduceAdd, Int.reduceSub, Int.reduceMul, Int.reduceToNat, implies_true, vtab]
        refine .inl ⟨_, hab, by first | (simp only [uptoL, AVal.upto, and_true, true_and, and_self, Pat.enc_upto, Pat.map_upto, any_upto, rows_upto, Con.enc_upto, Con.map_upto, Data.enc_upto, Data.map_upto, Tbl.enc_upto, entry_upto]; done) | (simp [uptoL, AVal.upto, Pat.enc_upto, Pat.map_upto, any_upto, rows_upto, Con.enc_upto, Con.map_upto, Data.enc_upto, Data.map_upto, Tbl.enc_upto, entry_upto]; done), later_intro ?_⟩
        simp -dsimp only [↓vpre, vpos, Int.reduceNeg, Int.reduceLE, Int.reduceLT, reduceIte, Nat.reduceEqDiff, Nat.reduceLT, Nat.reduceLeDiff, Nat.reduceAdd, Nat.reduceMul, Nat.reduceSub, Nat.reducePow, ne_eq, Int.reduceAdd, Int.reduceSub, Int.reduceMul, Int.reduceToNat, implies_true, vtab, absentRes]
        refine at_intro ?_
        simp -dsimp only [vend, ne_eq, Nat.reduceEqDiff, reduceCtorEq]
        first | refine awp_seq (awp_region hT hm ?_) | refine awp_region hT hm ?_ | refine awp_seq (awp_seq (awp_region hT hm ?_)) | refine awp_seq (awp_seq (awp_seq (awp_region hT hm ?_)))
        simp -dsimp only [↓vpre, vpos, Int.reduceNeg, Int.reduceLE, Int.reduceLT, reduceIte, Nat.reduceEqDiff, Nat.reduceLT, Nat.reduceLeDiff, Nat.reduceAdd, Nat.reduceMul, Nat.reduceSub, Nat.reducePow, ne_eq, Int.reduceAdd, Int.reduceSub, Int.reduceMul, Int.reduceToNat, implies_true, vtab]
        refine at_intro ?_
        simp -dsimp only [vend, ne_eq, Nat.reduceEqDiff, reduceCtorEq]
        first | refine awp_seq (awp_cond rfl (fun h => ?_) (fun h => ?_)) | refine awp_cond rfl (fun h => ?_) (fun h => ?_) | refine awp_seq (awp_seq (awp_cond rfl (fun h => ?_) (fun h => ?_)))
        · cases h
        · refine awp_skip ?_
          simp -dsimp only [vend, ne_eq, Nat.reduceEqDiff, reduceCtorEq]
          rw [hl]
          have hd' : t.datas[((find t.cons p.name).getD K.zero).data]? = some d := by
            rw [← hd, ← hp]
            rfl
          first | refine awp_seq (awp_region hT hm ?_) | refine awp_region hT hm ?_ | refine awp_seq (awp_seq (awp_region hT hm ?_)) | refine awp_seq (awp_seq (awp_seq (awp_region hT hm ?_)))
          simp -dsimp only [↓vpre, vpos, Int.reduceNeg, Int.reduceLE, Int.reduceLT, reduceIte, Nat.reduceEqDiff, Nat.reduceLT, Nat.reduceLeDiff, Nat.reduceAdd, Nat.reduceMul, Nat.reduceSub, Nat.reducePow, ne_eq, Int.reduceAdd, Int.reduceSub, Int.reduceMul, Int.reduceToNat, implies_true, vtab, zero_K', hd']
          refine ⟨?_, ?_⟩
          · (show orderB _ _ = true); kernel_rfl
          refine at_intro ?_
          simp -dsimp only [vend, ne_eq, Nat.reduceEqDiff, reduceCtorEq]
          refine awp_len 59 rfl (fun hlc => ?_)
          simp only [List.length_map] at hlc
          have key : ∀ c ∈ d.cons, c.args.length ≤ 400 ∧ PCall Try.prog 28 [t.enc, eRR (narrows c.name c.args.length rows), aI (c.args.length + tys.length : Nat)] (missRes (t.missingF fu (narrows c.name c.args.length rows) (c.args.length + tys.length))) ∧
              ((t.missingF fu (narrows c.name c.args.length rows) (c.args.length + tys.length)).2 = true → (t.missingF fu (narrows c.name c.args.length rows) (c.args.length + tys.length)).1.length = c.args.length + tys.length) := fun c hc => by
            obtain ⟨k1, k2⟩ := hty.con hT0 hwt hd hc
            have k3 := narrows_wt_lt c.name c.args.length rows (fun p hp => (k2 p hp).2) (hall c hc)
            have k4 := hty.narrows c.name
            rw [k1] at k4
            have k5 := ih (narrows c.name c.args.length rows) (f c.name ++ tys) (by rw [List.length_append, k1]; omega) k4 (hw.con hd hc) (hs.narrows _ _) (by omega)
            have k6 := (missing_main hT0 fu (narrows c.name c.args.length rows) (f c.name ++ tys) (by rw [List.length_append, k1]; omega) k4 (hw.con hd hc)).2
            rw [List.length_append, k1] at k5 k6
            refine ⟨?_, k5, fun h => (k6 h).1⟩
            obtain ⟨q, hq, hn⟩ := hall c hc
            rw [← (k2 q hq).2 hn]
            obtain ⟨_, x, hx⟩ := mem_firsts.1 hq
            exact hs.args _ hx q (by simp)
          first | refine awp_block (awp_loop (ι := {k : Nat // k ≤ d.cons.length ∧ missCons (fun c => t.missingF fu (narrows c.name c.args.length rows) (c.args.length + tys.length)) d.cons = missCons (fun c => t.missingF fu (narrows c.name c.args.length rows) (c.args.length + tys.length)) (d.cons.drop k)}) (fun k => ⟨97, [(1, eRR rows), (2, aI (tys.length + 1 : Nat)), (3, .mp 0 0), (59, eC d.cons), (60, aI d.cons.length), (61, aI k.1)], [.cells [.lst 3 (t.datas.map Data.enc) .sh, .im .str (t.cons.map entry)], .cells [.v (.int .i64 Pat.any.kind), .v (.string Pat.any.name), .v (.int .i64 Pat.any.n), .lst 4 (Pat.any.args.map Pat.enc) .sh]]⟩) (fun k => d.cons.length - k.1) ⟨0, by omega, rfl⟩ ?_ ?_) | refine awp_seq (awp_block (awp_loop (ι := {k : Nat // k ≤ d.cons.length ∧ missCons (fun c => t.missingF fu (narrows c.name c.args.length rows) (c.args.length + tys.length)) d.cons = missCons (fun c => t.missingF fu (narrows c.name c.args.length rows) (c.args.length + tys.length)) (d.cons.drop k)}) (fun k => ⟨97, [(1, eRR rows), (2, aI (tys.length + 1 : Nat)), (3, .mp 0 0), (59, eC d.cons), (60, aI d.cons.length), (61, aI k.1)], [.cells [.lst 3 (t.datas.map Data.enc) .sh, .im .str (t.cons.map entry)], .cells [.v (.int .i64 Pat.any.kind), .v (.string Pat.any.name), .v (.int .i64 Pat.any.n), .lst 4 (Pat.any.args.map Pat.enc) .sh]]⟩) (fun k => d.cons.length - k.1) ⟨0, by omega, rfl⟩ ?_ ?_))
          · refine ⟨rfl, ?_, ?_⟩
            rotate_left
            simp -dsimp only [↓vpre, vpos, Int.reduceNeg, Int.reduceLE, Int.reduceLT, reduceIte, Nat.reduceEqDiff, Nat.reduceLT, Nat.reduceLeDiff, Nat.reduceAdd, Nat.reduceMul, Nat.reduceSub, Nat.reducePow, ne_eq, Int.reduceAdd, Int.reduceSub, Int.reduceMul, Int.reduceToNat, implies_true, vtab, Says, exists_eq_left', Option.some.injEq, sub_self, and_assoc, true_and, and_true]
            rfl
          · rintro ⟨k, hkl, he⟩
            first | refine awp_seq (awp_region hT hm ?_) | refine awp_region hT hm ?_ | refine awp_seq (awp_seq (awp_region hT hm ?_)) | refine awp_seq (awp_seq (awp_seq (awp_region hT hm ?_)))
            simp -dsimp only [↓vpre, vpos, Int.reduceNeg, Int.reduceLE, Int.reduceLT, reduceIte, Nat.reduceEqDiff, Nat.reduceLT, Nat.reduceLeDiff, Nat.reduceAdd, Nat.reduceMul, Nat.reduceSub, Nat.reducePow, ne_eq, Int.reduceAdd, Int.reduceSub, Int.reduceMul, Int.reduceToNat, implies_true, vtab]
            refine at_intro ?_
            simp -dsimp only [vend, ne_eq, Nat.reduceEqDiff, reduceCtorEq]
            first | refine awp_seq (awp_cond rfl (fun h => ?_) (fun h => ?_)) | refine awp_cond rfl (fun h => ?_) (fun h => ?_) | refine awp_seq (awp_seq (awp_cond rfl (fun h => ?_) (fun h => ?_)))
            · refine awp_skip ?_
              simp -dsimp only [vend, ne_eq, Nat.reduceEqDiff, reduceCtorEq]
              have hlt : k < d.cons.length := by simpa using h
              obtain ⟨c, hc⟩ : ∃ c : Con, d.cons[k]? = some c := ⟨d.cons[k], by simp [hlt]⟩
              have hdrop : d.cons.drop k = c :: d.cons.drop (k + 1) := by
                rw [List.drop_eq_getElem_cons hlt]
                rw [List.getElem?_eq_getElem hlt] at hc
                simp only [Option.some.injEq] at hc
                rw [hc]
              rw [hdrop, missCons] at he
              obtain ⟨h400, hcall, hlen⟩ := key c (List.mem_of_getElem? hc)
              have hadd : ((c.args.length : Int) + ((tys.length + 1 : Nat) : Int)) - 1 = ((c.args.length + tys.length : Nat) : Int) := by omega
              first | refine awp_seq (awp_block ?_) | refine awp_block ?_
              first | refine awp_seq (awp_region hT hm ?_) | refine awp_region hT hm ?_ | refine awp_seq (awp_seq (awp_region hT hm ?_)) | refine awp_seq (awp_seq (awp_seq (awp_region hT hm ?_)))
              simp -dsimp only [↓vpre, vpos, Int.reduceNeg, Int.reduceLE, Int.reduceLT, reduceIte, Nat.reduceEqDiff, Nat.reduceLT, Nat.reduceLeDiff, Nat.reduceAdd, Nat.reduceMul, Nat.reduceSub, Nat.reducePow, ne_eq, Int.reduceAdd, Int.reduceSub, Int.reduceMul, Int.reduceToNat, implies_true, vtab, hc]
              refine at_intro ?_
              simp -dsimp only [vend, ne_eq, Nat.reduceEqDiff, reduceCtorEq]
              first | refine awp_seq (awp_region hT hm ?_) | refine awp_region hT hm ?_ | refine awp_seq (awp_seq (awp_region hT hm ?_)) | refine awp_seq (awp_seq (awp_seq (awp_region hT hm ?_)))
              simp -dsimp only [↓vpre, vpos, Int.reduceNeg, Int.reduceLE, Int.reduceLT, reduceIte, Nat.reduceEqDiff, Nat.reduceLT, Nat.reduceLeDiff, Nat.reduceAdd, Nat.reduceMul, Nat.reduceSub, Nat.reducePow, ne_eq, Int.reduceAdd, Int.reduceSub, Int.reduceMul, Int.reduceToNat, implies_true, vtab]
              refine at_intro ?_
              simp -dsimp only [vend, ne_eq, Nat.reduceEqDiff, reduceCtorEq]
              first | refine awp_seq (awp_region hT hm ?_) | refine awp_region hT hm ?_ | refine awp_seq (awp_seq (awp_region hT hm ?_)) | refine awp_seq (awp_seq (awp_seq (awp_region hT hm ?_)))
              simp -dsimp only [↓vpre, vpos, Int.reduceNeg, Int.reduceLE, Int.reduceLT, reduceIte, Nat.reduceEqDiff, Nat.reduceLT, Nat.reduceLeDiff, Nat.reduceAdd, Nat.reduceMul, Nat.reduceSub, Nat.reducePow, ne_eq, Int.reduceAdd, Int.reduceSub, Int.reduceMul, Int.reduceToNat, implies_true, vtab]
              refine .inl ⟨_, (narrow_spec rows c.name c.args.length (by omega) (by omega) (fun r hr => (hty.ne r hr).1) (fun r hr => by have := (hty.ne r hr).2; omega) (fun r hr p hp => by have := hs.args r hr p hp; omega)), by first | (simp only [uptoL, AVal.upto, and_true, true_and, and_self, Pat.enc_upto, Pat.map_upto, any_upto, rows_upto, Con.enc_upto, Con.map_upto, Data.enc_upto, Data.map_upto, Tbl.enc_upto, entry_upto]; done) | (simp [uptoL, AVal.upto, Pat.enc_upto, Pat.map_upto, any_upto, rows_upto, Con.enc_upto, Con.map_upto, Data.enc_upto, Data.map_upto, Tbl.enc_upto, entry_upto]; done), later_intro ?_⟩
              simp -dsimp only [↓vpre, vpos, Int.reduceNeg, Int.reduceLE, Int.reduceLT, reduceIte, Nat.reduceEqDiff, Nat.reduceLT, Nat.reduceLeDiff, Nat.reduceAdd, Nat.reduceMul, Nat.reduceSub, Nat.reducePow, ne_eq, Int.reduceAdd, Int.reduceSub, Int.reduceMul, Int.reduceToNat, implies_true, vtab]
              repeat (refine ⟨by omega, ?_⟩)
              simp -dsimp only [hadd]
              refine .inl ⟨_, hcall, by first | (simp only [uptoL, AVal.upto, and_true, true_and, and_self, Pat.enc_upto, Pat.map_upto, any_upto, rows_upto, Con.enc_upto, Con.map_upto, Data.enc_upto, Data.map_upto, Tbl.enc_upto, entry_upto]; done) | (simp [uptoL, AVal.upto, Pat.enc_upto, Pat.map_upto, any_upto, rows_upto, Con.enc_upto, Con.map_upto, Data.enc_upto, Data.map_upto, Tbl.enc_upto, entry_upto]; done), later_intro ?_⟩
              simp -dsimp only [↓vpre, vpos, Int.reduceNeg, Int.reduceLE, Int.reduceLT, reduceIte, Nat.reduceEqDiff, Nat.reduceLT, Nat.reduceLeDiff, Nat.reduceAdd, Nat.reduceMul, Nat.reduceSub, Nat.reducePow, ne_eq, Int.reduceAdd, Int.reduceSub, Int.reduceMul, Int.reduceToNat, implies_true, vtab, missRes]
              refine ⟨?_, ?_⟩
              · (show orderB _ _ = true); kernel_rfl
              refine at_intro ?_
              simp -dsimp only [vend, ne_eq, Nat.reduceEqDiff, reduceCtorEq]
              first | refine awp_seq (awp_region hT hm ?_) | refine awp_region hT hm ?_ | refine awp_seq (awp_seq (awp_region hT hm ?_)) | refine awp_seq (awp_seq (awp_seq (awp_region hT hm ?_)))
              simp -dsimp only [↓vpre, vpos, Int.reduceNeg, Int.reduceLE, Int.reduceLT, reduceIte, Nat.reduceEqDiff, Nat.reduceLT, Nat.reduceLeDiff, Nat.reduceAdd, Nat.reduceMul, Nat.reduceSub, Nat.reducePow, ne_eq, Int.reduceAdd, Int.reduceSub, Int.reduceMul, Int.reduceToNat, implies_true, vtab]
              refine at_intro ?_
              simp -dsimp only [vend, ne_eq, Nat.reduceEqDiff, reduceCtorEq]
              obtain ⟨⟨out, is⟩, hq⟩ : ∃ q, q = t.missingF fu (narrows c.name c.args.length rows) (c.args.length + tys.length) := ⟨_, rfl⟩
              have hml := miss_len t fu (narrows c.name c.args.length rows) (c.args.length + tys.length)
              rw [← hq] at he hlen hml
              simp only [← hq]
              simp only at he hlen hml
              first | refine awp_seq (awp_cond rfl (fun h => ?_) (fun h => ?_)) | refine awp_cond rfl (fun h => ?_) (fun h => ?_) | refine awp_seq (awp_seq (awp_cond rfl (fun h => ?_) (fun h => ?_)))
              · subst h
                have hol := hlen rfl
                rw [if_pos rfl] at he
                refine awp_freeze1 14 2 (.ip none [.v (.string c.name), .lst 4 (c.args.map Pat.enc) .sh]) rfl (by simp [AObj.isSpare]) trivial rfl ?_ ?_
                rotate_left
                simp -dsimp only [↓vpre, vpos, Int.reduceNeg, Int.reduceLE, Int.reduceLT, reduceIte, Nat.reduceEqDiff, Nat.reduceLT, Nat.reduceLeDiff, Nat.reduceAdd, Nat.reduceMul, Nat.reduceSub, Nat.reducePow, ne_eq, Int.reduceAdd, Int.reduceSub, Int.reduceMul, Int.reduceToNat, implies_true, vtab]
                rotate_left
                · exact FSub.mp rfl rfl
                first | refine awp_seq (awp_region hT hm ?_) | refine awp_region hT hm ?_ | refine awp_seq (awp_seq (awp_region hT hm ?_)) | refine awp_seq (awp_seq (awp_seq (awp_region hT hm ?_)))
                simp -dsimp only [↓vpre, vpos, Int.reduceNeg, Int.reduceLE, Int.reduceLT, reduceIte, Nat.reduceEqDiff, Nat.reduceLT, Nat.reduceLeDiff, Nat.reduceAdd, Nat.reduceMul, Nat.reduceSub, Nat.reducePow, ne_eq, Int.reduceAdd, Int.reduceSub, Int.reduceMul, Int.reduceToNat, implies_true, vtab]
                repeat (refine ⟨by omega, ?_⟩)
                simp -dsimp only [← List.map_take]
                refine .inl ⟨_, clone_pure (out.take c.args.length) (by simp; omega), ⟨⟨Pat.map_upto _ _, trivial⟩, trivial⟩, later_intro ?_⟩
                simp -dsimp only [↓vpre, vpos, Int.reduceNeg, Int.reduceLE, Int.reduceLT, reduceIte, Nat.reduceEqDiff, Nat.reduceLT, Nat.reduceLeDiff, Nat.reduceAdd, Nat.reduceMul, Nat.reduceSub, Nat.reducePow, ne_eq, Int.reduceAdd, Int.reduceSub, Int.reduceMul, Int.reduceToNat, implies_true, vtab]
                refine ⟨?_, ?_⟩
                · (show orderB _ _ = true); kernel_rfl
                refine at_intro ?_
                simp -dsimp only [vend, ne_eq, Nat.reduceEqDiff, reduceCtorEq]
                first | refine awp_seq (awp_region hT hm ?_) | refine awp_region hT hm ?_ | refine awp_seq (awp_seq (awp_region hT hm ?_)) | refine awp_seq (awp_seq (awp_seq (awp_region hT hm ?_)))
                simp -dsimp only [↓vpre, vpos, Int.reduceNeg, Int.reduceLE, Int.reduceLT, reduceIte, Nat.reduceEqDiff, Nat.reduceLT, Nat.reduceLeDiff, Nat.reduceAdd, Nat.reduceMul, Nat.reduceSub, Nat.reducePow, ne_eq, Int.reduceAdd, Int.reduceSub, Int.reduceMul, Int.reduceToNat, implies_true, vtab]
                have hdl : (List.drop c.args.length (List.map Pat.enc out)).length = tys.length := by rw [List.length_drop, List.length_map]; omega
                refine ⟨by omega, by omega, by omega, ?_, ?_⟩
                · (show orderB _ _ = true); kernel_rfl
                refine at_intro ?_
                simp -dsimp only [vend, ne_eq, Nat.reduceEqDiff, reduceCtorEq]
                refine awp_ret ?_
                simp -dsimp only [↓vpre, vpos, Int.reduceNeg, Int.reduceLE, Int.reduceLT, reduceIte, Nat.reduceEqDiff, Nat.reduceLT, Nat.reduceLeDiff, Nat.reduceAdd, Nat.reduceMul, Nat.reduceSub, Nat.reducePow, ne_eq, Int.reduceAdd, Int.reduceSub, Int.reduceMul, Int.reduceToNat, implies_true, vtab, RetTo, Try.results28, retVals, retVal, mkRet, AVal.upto, Nat.zero_le, Nat.le_refl, seqPost_ret, blockPost_ret, loopPost_ret]
                rw [he]
                have hx : (AVal.agg [.v (.int .i64 3), .v (.string c.name), .v (.int .i64 0), .lst 4 ((out.take c.args.length).map Pat.enc) .sh] :: List.map AVal.share (List.drop c.args.length (List.map Pat.enc out))) = ((Pat.mk 3 c.name 0 (out.take c.args.length)) :: out.drop c.args.length).map Pat.enc := by
                  rw [← List.map_drop, Pat.map_share, List.map_cons, Pat.enc_eq]
                  rfl
                rw [hx]
                exact ⟨⟨⟨Pat.map_upto _ _, trivial⟩, trivial, trivial⟩, rfl⟩
              · subst h
                rw [if_neg (by simp)] at he
                refine awp_skip ?_
                simp -dsimp only [vend, ne_eq, Nat.reduceEqDiff, reduceCtorEq]
                refine awp_trunc' 2 [(1, eRR rows), (2, aI (tys.length + 1 : Nat)), (3, .mp 0 0), (59, eC d.cons), (60, aI d.cons.length), (61, aI k)] (by first | omega | (simp; done) | (simp; omega)) (by first | omega | (simp; done) | (simp; omega)) [.cells [.lst 3 (t.datas.map Data.enc) .sh, .im .str (t.cons.map entry)], .cells [.v (.int .i64 Pat.any.kind), .v (.string Pat.any.name), .v (.int .i64 Pat.any.n), .lst 4 (Pat.any.args.map Pat.enc) .sh]] ?_ ?_ ?_ ?_ ?_
                · rfl
                · simp [AObj.upto, uptoL, AVal.upto, Data.map_upto, entry_upto, Pat.map_upto]
                · simp -dsimp only [↓vpre, vpos, Int.reduceNeg, Int.reduceLE, Int.reduceLT, reduceIte, Nat.reduceEqDiff, Nat.reduceLT, Nat.reduceLeDiff, Nat.reduceAdd, Nat.reduceMul, Nat.reduceSub, Nat.reducePow, ne_eq, Int.reduceAdd, Int.reduceSub, Int.reduceMul, Int.reduceToNat, implies_true, vtab, Says, exists_eq_left', Option.some.injEq, sub_self, and_true]
                · simp [AVal.upto, uptoL, rows_upto, Con.map_upto]
                · first | refine awp_seq (awp_region hT hm ?_) | refine awp_region hT hm ?_ | refine awp_seq (awp_seq (awp_region hT hm ?_)) | refine awp_seq (awp_seq (awp_seq (awp_region hT hm ?_)))
                  simp -dsimp only [↓vpre, vpos, Int.reduceNeg, Int.reduceLE, Int.reduceLT, reduceIte, Nat.reduceEqDiff, Nat.reduceLT, Nat.reduceLeDiff, Nat.reduceAdd, Nat.reduceMul, Nat.reduceSub, Nat.reducePow, ne_eq, Int.reduceAdd, Int.reduceSub, Int.reduceMul, Int.reduceToNat, implies_true, vtab]
                  repeat (refine ⟨by omega, ?_⟩)
                  refine at_intro ?_
                  simp -dsimp only [vend, ne_eq, Nat.reduceEqDiff, reduceCtorEq]
                  refine ⟨⟨k + 1, hlt, he⟩, by simp; omega, ?_⟩
                  refine ⟨rfl, ?_, ?_⟩
                  rotate_left
                  simp -dsimp only [↓vpre, vpos, Int.reduceNeg, Int.reduceLE, Int.reduceLT, reduceIte, Nat.reduceEqDiff, Nat.reduceLT, Nat.reduceLeDiff, Nat.reduceAdd, Nat.reduceMul, Nat.reduceSub, Nat.reducePow, ne_eq, Int.reduceAdd, Int.reduceSub, Int.reduceMul, Int.reduceToNat, implies_true, vtab, Says, exists_eq_left', Option.some.injEq, sub_self, and_assoc, true_and, and_true]
                  · exact Sub.int (by simp)
                  · rfl
            · refine awp_exit ?_
              simp -dsimp only [vend, ne_eq, Nat.reduceEqDiff, reduceCtorEq]
              have hkk : k = d.cons.length := by simp at h; omega
              subst hkk
              rw [List.drop_length, missCons] at he
              first | refine awp_seq (awp_region hT hm ?_) | refine awp_region hT hm ?_ | refine awp_seq (awp_seq (awp_region hT hm ?_)) | refine awp_seq (awp_seq (awp_seq (awp_region hT hm ?_)))
              simp -dsimp only [↓vpre, vpos, Int.reduceNeg, Int.reduceLE, Int.reduceLT, reduceIte, Nat.reduceEqDiff, Nat.reduceLT, Nat.reduceLeDiff, Nat.reduceAdd, Nat.reduceMul, Nat.reduceSub, Nat.reducePow, ne_eq, Int.reduceAdd, Int.reduceSub, Int.reduceMul, Int.reduceToNat, implies_true, vtab]
              refine at_intro ?_
              simp -dsimp only [vend, ne_eq, Nat.reduceEqDiff, reduceCtorEq]
              refine awp_ret ?_
              simp -dsimp only [↓vpre, vpos, Int.reduceNeg, Int.reduceLE, Int.reduceLT, reduceIte, Nat.reduceEqDiff, Nat.reduceLT, Nat.reduceLeDiff, Nat.reduceAdd, Nat.reduceMul, Nat.reduceSub, Nat.reducePow, ne_eq, Int.reduceAdd, Int.reduceSub, Int.reduceMul, Int.reduceToNat, implies_true, vtab, RetTo, Try.results28, retVals, retVal, mkRet, AVal.upto, Nat.zero_le, Nat.le_refl, seqPost_ret, blockPost_ret, loopPost_ret]
              rw [he]
              exact ⟨by simp [uptoL, AVal.upto], by simp [missRes]⟩

theorem missing_spec {t : Tbl} (hT0 : TblOK t) (hF : FitD t.datas) : ∀ fu : Nat, MissOK t fu
  | 0, rows, tys, h, _, _, _, _ => by omega
  | fu + 1, rows, [], _, _, _, _, _ => missing_nil fu rows
  | fu + 1, rows, ty :: tys, h1, h2, h3, h4, h5 => missing_cons hT0 hF fu (missing_spec hT0 hF fu) rows ty tys h1 h2 h3 h4 h5

end Go.Proofs.Ytakdmelemfnmdaa
end

section
set_option linter.unusedSimpArgs false
set_option linter.unusedVariables false
set_option maxHeartbeats 1000000
set_option maxRecDepth 100000
-- !tab vtab
-- !upto Pat.enc_upto Pat.map_upto any_upto rows_upto Con.enc_upto Con.map_upto Data.enc_upto Data.map_upto Tbl.enc_upto entry_upto
namespace Go.Proofs.Ytakdmelemfnmdaa
open Go.Av

def SmallL (l : List Pat) : Prop := ∀ p ∈ l, p.nodes ≤ 400

theorem SmallL.args {p : Pat} {x : List Pat} (h : SmallL (p :: x)) : SmallL (p.args ++ x) ∧ p.args.length ≤ 400 := by
  have h1 := h p (by simp)
  rw [Pat.nodes_eq] at h1
  refine ⟨fun q hq => ?_, by have := nodesL_len p.args; omega⟩
  rcases List.mem_append.1 hq with hq | hq
  · have := nodesL_mem hq
    omega
  · exact h q (by simp [hq])

theorem SmallL.tail {p : Pat} {x : List Pat} (h : SmallL (p :: x)) : SmallL x := fun q hq => h q (by simp [hq])

theorem SmallL.anys {n : Nat} {x : List Pat} (h : SmallL x) : SmallL (List.replicate n Pat.any ++ x) := fun q hq => by
  rcases List.mem_append.1 hq with hq | hq
  · rw [(List.mem_replicate.1 hq).2, Pat.nodes_eq]
    simp [Pat.any, Pat.args, nodesL]
  · exact h q hq

def UsefulOK (t : Tbl) (fu : Nat) : Prop := ∀ (rows : List (List Pat)) (row : List Pat) (tys : List Ty), wtR rows + wtL row + row.length < fu → TypedR t rows tys → HasTyL t row tys → WfL t tys → SmallR rows → SmallL row → fu ≤ 2 ^ 19 →
    PCall Try.prog 29 [t.enc, eRR rows, eR row] (.v (.bool (t.usefulF fu rows row)))

theorem useful_nil {t : Tbl} (fu : Nat) (rows : List (List Pat)) : PCall Try.prog 29 [t.enc, eRR rows, eR []] (.v (.bool (t.usefulF (fu + 1) rows []))) := by
  rw [Tbl.usefulF]
  refine ecall_of hT true 0 Try.func29 rfl (by kernel_rfl) (by simp [Try.ntmps29]) (by simp) ?_
  show AWP Try.prog _ _ _ ⟨138, _, _⟩
  dsimp only [Tmp, TypeId, slotsOf]
  first | refine awp_seq (awp_region hT hm ?_) | refine awp_region hT hm ?_ | refine awp_seq (awp_seq (awp_region hT hm ?_)) | refine awp_seq (awp_seq (awp_seq (awp_region hT hm ?_)))
  simp -dsimp only [↓vpre, vpos, Int.reduceNeg, Int.reduceLE, Int.reduceLT, reduceIte, Nat.reduceEqDiff, Nat.reduceLT, Nat.reduceLeDiff, Nat.reduceAdd, Nat.reduceMul, Nat.reduceSub, Nat.reducePow, ne_eq, Int.reduceAdd, Int.reduceSub, Int.reduceMul, Int.reduceToNat, implies_true, vtab]
  refine at_intro ?_
  simp -dsimp only [vend, ne_eq, Nat.reduceEqDiff, reduceCtorEq]
  first | refine awp_seq (awp_region hT hm ?_) | refine awp_region hT hm ?_ | refine awp_seq (awp_seq (awp_region hT hm ?_)) | refine awp_seq (awp_seq (awp_seq (awp_region hT hm ?_)))
  simp -dsimp only [↓vpre, vpos, Int.reduceNeg, Int.reduceLE, Int.reduceLT, reduceIte, Nat.reduceEqDiff, Nat.reduceLT, Nat.reduceLeDiff, Nat.reduceAdd, Nat.reduceMul, Nat.reduceSub, Nat.reducePow, ne_eq, Int.reduceAdd, Int.reduceSub, Int.reduceMul, Int.reduceToNat, implies_true, vtab]
  refine at_intro ?_
  simp -dsimp only [vend, ne_eq, Nat.reduceEqDiff, reduceCtorEq]
  first | refine awp_seq (awp_cond rfl (fun h => ?_) (fun h => ?_)) | refine awp_cond rfl (fun h => ?_) (fun h => ?_) | refine awp_seq (awp_seq (awp_cond rfl (fun h => ?_) (fun h => ?_)))
  · first | refine awp_seq (awp_region hT hm ?_) | refine awp_region hT hm ?_ | refine awp_seq (awp_seq (awp_region hT hm ?_)) | refine awp_seq (awp_seq (awp_seq (awp_region hT hm ?_)))
    simp -dsimp only [↓vpre, vpos, Int.reduceNeg, Int.reduceLE, Int.reduceLT, reduceIte, Nat.reduceEqDiff, Nat.reduceLT, Nat.reduceLeDiff, Nat.reduceAdd, Nat.reduceMul, Nat.reduceSub, Nat.reducePow, ne_eq, Int.reduceAdd, Int.reduceSub, Int.reduceMul, Int.reduceToNat, implies_true, vtab]
    refine at_intro ?_
    simp -dsimp only [vend, ne_eq, Nat.reduceEqDiff, reduceCtorEq]
    refine awp_ret ?_
    simp -dsimp only [↓vpre, vpos, Int.reduceNeg, Int.reduceLE, Int.reduceLT, reduceIte, Nat.reduceEqDiff, Nat.reduceLT, Nat.reduceLeDiff, Nat.reduceAdd, Nat.reduceMul, Nat.reduceSub, Nat.reducePow, ne_eq, Int.reduceAdd, Int.reduceSub, Int.reduceMul, Int.reduceToNat, implies_true, vtab, RetTo, Try.results29, retVals, retVal, mkRet, AVal.upto, Nat.zero_le, Nat.le_refl, seqPost_ret, blockPost_ret, loopPost_ret]
    cases rows <;> simp <;> omega
  · cases h

theorem useful_con {t : Tbl} (hT0 : TblOK t) (fu : Nat) (ih : UsefulOK t fu) (rows : List (List Pat)) (p : Pat) (x : List Pat) (ty : Ty) (tys : List Ty) (hfu : wtR rows + wtL (p :: x) + (p :: x).length < fu + 1) (hty : TypedR t rows (ty :: tys)) (hp : HasTy t p ty) (hx : HasTyL t x tys)
    (hw : WfL t (ty :: tys)) (hs : SmallR rows) (hsl : SmallL (p :: x)) (hb : fu + 1 ≤ 2 ^ 19) (h3 : p.kind = 3) : PCall Try.prog 29 [t.enc, eRR rows, eR (p :: x)] (.v (.bool (t.usefulF (fu + 1) rows (p :: x)))) := by
  rw [Tbl.usefulF, if_pos h3]
  have hpw := p.wt_eq
  have hf : p.free = false := by simp [Pat.free, h3]
  rw [if_neg (by simp [hf])] at hpw
  have hwt : WfTy t ty := hw ty (by simp)
  obtain ⟨_, i, f, k0, rfl, hK, hi, hargs⟩ := hp.con hf (by omega)
  obtain ⟨d, c, hd, hc, hcn, hmn⟩ := hT0.back _ _ hK
  rw [hi] at hd
  have hmany : (t.con p.name).many = c.args.length := by rw [Tbl.con, hK, hmn]; rfl
  have hmany' : ((find t.cons p.name).getD K.zero).many = c.args.length := hmany
  obtain ⟨k1, k2⟩ := hty.con hT0 hwt hd hc
  have k4 := hty.narrows c.name
  rw [k1, hcn] at k4
  have hnw := narrows_wt p.name c.args.length rows
  have hwc := hw.con hd hc
  rw [hcn] at hwc
  rw [hmany]
  simp only [wtL, List.length_cons] at hfu
  obtain ⟨hsl1, hsl2⟩ := hsl.args
  have h400 : c.args.length ≤ 400 := by
    have := hargs.len
    rw [← hcn, k1] at this
    omega
  have hl64 := hs.1
  have hlx := hx.len
  have hcall := ih (narrows p.name c.args.length rows) (p.args ++ x) _ (by rw [wtL_append, List.length_append]; omega) k4 (hargs.append hx) hwc (hs.narrows _ _) hsl1 (by omega)
  refine ecall_of hT true 0 Try.func29 rfl (by kernel_rfl) (by simp [Try.ntmps29]) (by simp) ?_
  show AWP Try.prog _ _ _ ⟨138, _, _⟩
  dsimp only [Tmp, TypeId, slotsOf]
  first | refine awp_seq (awp_region hT hm ?_) | refine awp_region hT hm ?_ | refine awp_seq (awp_seq (awp_region hT hm ?_)) | refine awp_seq (awp_seq (awp_seq (awp_region hT hm ?_)))
  simp -dsimp only [↓vpre, vpos, Int.reduceNeg, Int.reduceLE, Int.reduceLT, reduceIte, Nat.reduceEqDiff, Nat.reduceLT, Nat.reduceLeDiff, Nat.reduceAdd, Nat.reduceMul, Nat.reduceSub, Nat.reducePow, ne_eq, Int.reduceAdd, Int.reduceSub, Int.reduceMul, Int.reduceToNat, implies_true, vtab]
  refine at_intro ?_
  simp -dsimp only [vend, ne_eq, Nat.reduceEqDiff, reduceCtorEq]
  first | refine awp_seq (awp_region hT hm ?_) | refine awp_region hT hm ?_ | refine awp_seq (awp_seq (awp_region hT hm ?_)) | refine awp_seq (awp_seq (awp_seq (awp_region hT hm ?_)))
  simp -dsimp only [↓vpre, vpos, Int.reduceNeg, Int.reduceLE, Int.reduceLT, reduceIte, Nat.reduceEqDiff, Nat.reduceLT, Nat.reduceLeDiff, Nat.reduceAdd, Nat.reduceMul, Nat.reduceSub, Nat.reducePow, ne_eq, Int.reduceAdd, Int.reduceSub, Int.reduceMul, Int.reduceToNat, implies_true, vtab]
  refine at_intro ?_
  simp -dsimp only [vend, ne_eq, Nat.reduceEqDiff, reduceCtorEq]
  first | refine awp_seq (awp_cond rfl (fun h => ?_) (fun h => ?_)) | refine awp_cond rfl (fun h => ?_) (fun h => ?_) | refine awp_seq (awp_seq (awp_cond rfl (fun h => ?_) (fun h => ?_)))
  · simp at h
    omega
  · refine awp_skip ?_
    simp -dsimp only [vend, ne_eq, Nat.reduceEqDiff, reduceCtorEq]
    first | refine awp_seq (awp_region hT hm ?_) | refine awp_region hT hm ?_ | refine awp_seq (awp_seq (awp_region hT hm ?_)) | refine awp_seq (awp_seq (awp_seq (awp_region hT hm ?_)))
    simp -dsimp only [↓vpre, vpos, Int.reduceNeg, Int.reduceLE, Int.reduceLT, reduceIte, Nat.reduceEqDiff, Nat.reduceLT, Nat.reduceLeDiff, Nat.reduceAdd, Nat.reduceMul, Nat.reduceSub, Nat.reducePow, ne_eq, Int.reduceAdd, Int.reduceSub, Int.reduceMul, Int.reduceToNat, implies_true, vtab]
    refine at_intro ?_
    simp -dsimp only [vend, ne_eq, Nat.reduceEqDiff, reduceCtorEq]
    first | refine awp_seq (awp_block ?_) | refine awp_block ?_
    first | refine awp_seq (awp_region hT hm ?_) | refine awp_region hT hm ?_ | refine awp_seq (awp_seq (awp_region hT hm ?_)) | refine awp_seq (awp_seq (awp_seq (awp_region hT hm ?_)))
    simp -dsimp only [↓vpre, vpos, Int.reduceNeg, Int.reduceLE, Int.reduceLT, reduceIte, Nat.reduceEqDiff, Nat.reduceLT, Nat.reduceLeDiff, Nat.reduceAdd, Nat.reduceMul, Nat.reduceSub, Nat.reducePow, ne_eq, Int.reduceAdd, Int.reduceSub, Int.reduceMul, Int.reduceToNat, implies_true, vtab]
    refine at_intro ?_
    simp -dsimp only [vend, ne_eq, Nat.reduceEqDiff, reduceCtorEq]
    first | refine awp_seq (awp_cond rfl (fun h => ?_) (fun h => ?_)) | refine awp_cond rfl (fun h => ?_) (fun h => ?_) | refine awp_seq (awp_seq (awp_cond rfl (fun h => ?_) (fun h => ?_)))
    · first | refine awp_seq (awp_region hT hm ?_) | refine awp_region hT hm ?_ | refine awp_seq (awp_seq (awp_region hT hm ?_)) | refine awp_seq (awp_seq (awp_seq (awp_region hT hm ?_)))
      simp -dsimp only [↓vpre, vpos, Int.reduceNeg, Int.reduceLE, Int.reduceLT, reduceIte, Nat.reduceEqDiff, Nat.reduceLT, Nat.reduceLeDiff, Nat.reduceAdd, Nat.reduceMul, Nat.reduceSub, Nat.reducePow, ne_eq, Int.reduceAdd, Int.reduceSub, Int.reduceMul, Int.reduceToNat, implies_true, vtab, zero_K', hmany']
      refine ⟨by (show orderB _ _ = true); kernel_rfl, ?_⟩
      refine at_intro ?_
      simp -dsimp only [vend, ne_eq, Nat.reduceEqDiff, reduceCtorEq]
      first | refine awp_seq (awp_region hT hm ?_) | refine awp_region hT hm ?_ | refine awp_seq (awp_seq (awp_region hT hm ?_)) | refine awp_seq (awp_seq (awp_seq (awp_region hT hm ?_)))
      simp -dsimp only [↓vpre, vpos, Int.reduceNeg, Int.reduceLE, Int.reduceLT, reduceIte, Nat.reduceEqDiff, Nat.reduceLT, Nat.reduceLeDiff, Nat.reduceAdd, Nat.reduceMul, Nat.reduceSub, Nat.reducePow, ne_eq, Int.reduceAdd, Int.reduceSub, Int.reduceMul, Int.reduceToNat, implies_true, vtab]
      refine .inl ⟨_, (narrow_spec rows p.name c.args.length (by omega) (by omega) (fun r hr => (hty.ne r hr).1) (fun r hr => by have := (hty.ne r hr).2; omega) (fun r hr p hp => by have := hs.args r hr p hp; omega)), by first | (simp only [uptoL, AVal.upto, and_true, true_and, and_self, Pat.enc_upto, Pat.map_upto, any_upto, rows_upto, Con.enc_upto, Con.map_upto, Data.enc_upto, Data.map_upto, Tbl.enc_upto, entry_upto]; done) | (simp [uptoL, AVal.upto, Pat.enc_upto, Pat.map_upto, any_upto, rows_upto, Con.enc_upto, Con.map_upto, Data.enc_upto, Data.map_upto, Tbl.enc_upto, entry_upto]; done), later_intro ?_⟩
      simp -dsimp only [↓vpre, vpos, Int.reduceNeg, Int.reduceLE, Int.reduceLT, reduceIte, Nat.reduceEqDiff, Nat.reduceLT, Nat.reduceLeDiff, Nat.reduceAdd, Nat.reduceMul, Nat.reduceSub, Nat.reducePow, ne_eq, Int.reduceAdd, Int.reduceSub, Int.reduceMul, Int.reduceToNat, implies_true, vtab, List.take_length, List.drop_one, List.tail_cons]
      refine .inl ⟨_, (concat_spec [p.args, x] (by simp) (by simp [total]; omega)), by first | (simp only [uptoL, AVal.upto, and_true, true_and, and_self, Pat.enc_upto, Pat.map_upto, any_upto, rows_upto, Con.enc_upto, Con.map_upto, Data.enc_upto, Data.map_upto, Tbl.enc_upto, entry_upto]; done) | (simp [uptoL, AVal.upto, Pat.enc_upto, Pat.map_upto, any_upto, rows_upto, Con.enc_upto, Con.map_upto, Data.enc_upto, Data.map_upto, Tbl.enc_upto, entry_upto]; done), later_intro ?_⟩
      simp -dsimp only [↓vpre, vpos, Int.reduceNeg, Int.reduceLE, Int.reduceLT, reduceIte, Nat.reduceEqDiff, Nat.reduceLT, Nat.reduceLeDiff, Nat.reduceAdd, Nat.reduceMul, Nat.reduceSub, Nat.reducePow, ne_eq, Int.reduceAdd, Int.reduceSub, Int.reduceMul, Int.reduceToNat, implies_true, vtab, List.flatten_cons, List.flatten_nil, List.append_nil]
      repeat (refine ⟨by omega, ?_⟩)
      refine .inl ⟨_, hcall, by first | (simp only [uptoL, AVal.upto, and_true, true_and, and_self, Pat.enc_upto, Pat.map_upto, any_upto, rows_upto, Con.enc_upto, Con.map_upto, Data.enc_upto, Data.map_upto, Tbl.enc_upto, entry_upto]; done) | (simp [uptoL, AVal.upto, Pat.enc_upto, Pat.map_upto, any_upto, rows_upto, Con.enc_upto, Con.map_upto, Data.enc_upto, Data.map_upto, Tbl.enc_upto, entry_upto]; done), later_intro ?_⟩
      simp -dsimp only [↓vpre, vpos, Int.reduceNeg, Int.reduceLE, Int.reduceLT, reduceIte, Nat.reduceEqDiff, Nat.reduceLT, Nat.reduceLeDiff, Nat.reduceAdd, Nat.reduceMul, Nat.reduceSub, Nat.reducePow, ne_eq, Int.reduceAdd, Int.reduceSub, Int.reduceMul, Int.reduceToNat, implies_true, vtab]
      repeat (refine ⟨by omega, ?_⟩)
      refine ⟨by (show orderB _ _ = true); kernel_rfl, ?_⟩
      refine at_intro ?_
      simp -dsimp only [vend, ne_eq, Nat.reduceEqDiff, reduceCtorEq]
      refine awp_ret ?_
      simp -dsimp only [↓vpre, vpos, Int.reduceNeg, Int.reduceLE, Int.reduceLT, reduceIte, Nat.reduceEqDiff, Nat.reduceLT, Nat.reduceLeDiff, Nat.reduceAdd, Nat.reduceMul, Nat.reduceSub, Nat.reducePow, ne_eq, Int.reduceAdd, Int.reduceSub, Int.reduceMul, Int.reduceToNat, implies_true, vtab, RetTo, Try.results29, retVals, retVal, mkRet, AVal.upto, Nat.zero_le, Nat.le_refl, seqPost_ret, blockPost_ret, loopPost_ret]
    · have : ¬ p.kind = 3 := by simpa using h
      exact absurd h3 this

theorem lefts_append (n : Int) : ∀ a b : List (List Pat), lefts n (a ++ b) = lefts n a ++ lefts n b
  | [], b => by simp [lefts]
  | [] :: r, b => by simp [lefts, lefts_append n r b]
  | (p :: _) :: r, b => by
    simp only [List.cons_append, lefts, lefts_append n r b]
    split <;> simp

theorem useful_int {t : Tbl} (fu : Nat) (ih : UsefulOK t fu) (rows : List (List Pat)) (p : Pat) (x : List Pat) (ty : Ty) (tys : List Ty) (hfu : wtR rows + wtL (p :: x) + (p :: x).length < fu + 1) (hty : TypedR t rows (ty :: tys)) (hx : HasTyL t x tys)
    (hw : WfL t (ty :: tys)) (hs : SmallR rows) (hsl : SmallL (p :: x)) (hb : fu + 1 ≤ 2 ^ 19) (h2 : p.kind = 2) : PCall Try.prog 29 [t.enc, eRR rows, eR (p :: x)] (.v (.bool (t.usefulF (fu + 1) rows (p :: x)))) := by
  rw [Tbl.usefulF, if_neg (by omega), if_pos h2]
  have hlw := lefts_wt p.n rows
  have hl64 := hs.1
  simp only [wtL, List.length_cons] at hfu
  have hwl : WfL t tys := fun y hy => hw y (by simp [hy])
  have hcall := ih (lefts p.n rows) x tys (by omega) (hty.lefts _) hx hwl (hs.lefts _) hsl.tail (by omega)
  refine ecall_of hT true 0 Try.func29 rfl (by kernel_rfl) (by simp [Try.ntmps29]) (by simp) ?_
  show AWP Try.prog _ _ _ ⟨138, _, _⟩
  dsimp only [Tmp, TypeId, slotsOf]
  first | refine awp_seq (awp_region hT hm ?_) | refine awp_region hT hm ?_ | refine awp_seq (awp_seq (awp_region hT hm ?_)) | refine awp_seq (awp_seq (awp_seq (awp_region hT hm ?_)))
  simp -dsimp only [↓vpre, vpos, Int.reduceNeg, Int.reduceLE, Int.reduceLT, reduceIte, Nat.reduceEqDiff, Nat.reduceLT, Nat.reduceLeDiff, Nat.reduceAdd, Nat.reduceMul, Nat.reduceSub, Nat.reducePow, ne_eq, Int.reduceAdd, Int.reduceSub, Int.reduceMul, Int.reduceToNat, implies_true, vtab]
  refine at_intro ?_
  simp -dsimp only [vend, ne_eq, Nat.reduceEqDiff, reduceCtorEq]
  first | refine awp_seq (awp_region hT hm ?_) | refine awp_region hT hm ?_ | refine awp_seq (awp_seq (awp_region hT hm ?_)) | refine awp_seq (awp_seq (awp_seq (awp_region hT hm ?_)))
  simp -dsimp only [↓vpre, vpos, Int.reduceNeg, Int.reduceLE, Int.reduceLT, reduceIte, Nat.reduceEqDiff, Nat.reduceLT, Nat.reduceLeDiff, Nat.reduceAdd, Nat.reduceMul, Nat.reduceSub, Nat.reducePow, ne_eq, Int.reduceAdd, Int.reduceSub, Int.reduceMul, Int.reduceToNat, implies_true, vtab]
  refine at_intro ?_
  simp -dsimp only [vend, ne_eq, Nat.reduceEqDiff, reduceCtorEq]
  first | refine awp_seq (awp_cond rfl (fun h => ?_) (fun h => ?_)) | refine awp_cond rfl (fun h => ?_) (fun h => ?_) | refine awp_seq (awp_seq (awp_cond rfl (fun h => ?_) (fun h => ?_)))
  · simp at h
    omega
  · refine awp_skip ?_
    simp -dsimp only [vend, ne_eq, Nat.reduceEqDiff, reduceCtorEq]
    first | refine awp_seq (awp_region hT hm ?_) | refine awp_region hT hm ?_ | refine awp_seq (awp_seq (awp_region hT hm ?_)) | refine awp_seq (awp_seq (awp_seq (awp_region hT hm ?_)))
    simp -dsimp only [↓vpre, vpos, Int.reduceNeg, Int.reduceLE, Int.reduceLT, reduceIte, Nat.reduceEqDiff, Nat.reduceLT, Nat.reduceLeDiff, Nat.reduceAdd, Nat.reduceMul, Nat.reduceSub, Nat.reducePow, ne_eq, Int.reduceAdd, Int.reduceSub, Int.reduceMul, Int.reduceToNat, implies_true, vtab]
    refine at_intro ?_
    simp -dsimp only [vend, ne_eq, Nat.reduceEqDiff, reduceCtorEq]
    first | refine awp_seq (awp_block ?_) | refine awp_block ?_
    first | refine awp_seq (awp_region hT hm ?_) | refine awp_region hT hm ?_ | refine awp_seq (awp_seq (awp_region hT hm ?_)) | refine awp_seq (awp_seq (awp_seq (awp_region hT hm ?_)))
    simp -dsimp only [↓vpre, vpos, Int.reduceNeg, Int.reduceLE, Int.reduceLT, reduceIte, Nat.reduceEqDiff, Nat.reduceLT, Nat.reduceLeDiff, Nat.reduceAdd, Nat.reduceMul, Nat.reduceSub, Nat.reducePow, ne_eq, Int.reduceAdd, Int.reduceSub, Int.reduceMul, Int.reduceToNat, implies_true, vtab]
    refine at_intro ?_
    simp -dsimp only [vend, ne_eq, Nat.reduceEqDiff, reduceCtorEq]
    first | refine awp_seq (awp_cond rfl (fun h => ?_) (fun h => ?_)) | refine awp_cond rfl (fun h => ?_) (fun h => ?_) | refine awp_seq (awp_seq (awp_cond rfl (fun h => ?_) (fun h => ?_)))
    · simp [h2] at h
    · first | refine awp_seq (awp_region hT hm ?_) | refine awp_region hT hm ?_ | refine awp_seq (awp_seq (awp_region hT hm ?_)) | refine awp_seq (awp_seq (awp_seq (awp_region hT hm ?_)))
      simp -dsimp only [↓vpre, vpos, Int.reduceNeg, Int.reduceLE, Int.reduceLT, reduceIte, Nat.reduceEqDiff, Nat.reduceLT, Nat.reduceLeDiff, Nat.reduceAdd, Nat.reduceMul, Nat.reduceSub, Nat.reducePow, ne_eq, Int.reduceAdd, Int.reduceSub, Int.reduceMul, Int.reduceToNat, implies_true, vtab]
      refine at_intro ?_
      simp -dsimp only [vend, ne_eq, Nat.reduceEqDiff, reduceCtorEq]
      first | refine awp_seq (awp_cond rfl (fun h => ?_) (fun h => ?_)) | refine awp_cond rfl (fun h => ?_) (fun h => ?_) | refine awp_seq (awp_seq (awp_cond rfl (fun h => ?_) (fun h => ?_)))
      · first | refine awp_seq (awp_region hT hm ?_) | refine awp_region hT hm ?_ | refine awp_seq (awp_seq (awp_region hT hm ?_)) | refine awp_seq (awp_seq (awp_seq (awp_region hT hm ?_)))
        simp -dsimp only [↓vpre, vpos, Int.reduceNeg, Int.reduceLE, Int.reduceLT, reduceIte, Nat.reduceEqDiff, Nat.reduceLT, Nat.reduceLeDiff, Nat.reduceAdd, Nat.reduceMul, Nat.reduceSub, Nat.reducePow, ne_eq, Int.reduceAdd, Int.reduceSub, Int.reduceMul, Int.reduceToNat, implies_true, vtab]
        refine at_intro ?_
        simp -dsimp only [vend, ne_eq, Nat.reduceEqDiff, reduceCtorEq]
        refine awp_own 8 rfl ?_
        simp -dsimp only [↓vpre, vpos, Int.reduceNeg, Int.reduceLE, Int.reduceLT, reduceIte, Nat.reduceEqDiff, Nat.reduceLT, Nat.reduceLeDiff, Nat.reduceAdd, Nat.reduceMul, Nat.reduceSub, Nat.reducePow, ne_eq, Int.reduceAdd, Int.reduceSub, Int.reduceMul, Int.reduceToNat, implies_true, vtab]
        refine awp_len 1 rfl (fun hlr => ?_)
        first | refine awp_seq (awp_region hT hm ?_) | refine awp_region hT hm ?_ | refine awp_seq (awp_seq (awp_region hT hm ?_)) | refine awp_seq (awp_seq (awp_seq (awp_region hT hm ?_)))
        simp -dsimp only [↓vpre, vpos, Int.reduceNeg, Int.reduceLE, Int.reduceLT, reduceIte, Nat.reduceEqDiff, Nat.reduceLT, Nat.reduceLeDiff, Nat.reduceAdd, Nat.reduceMul, Nat.reduceSub, Nat.reducePow, ne_eq, Int.reduceAdd, Int.reduceSub, Int.reduceMul, Int.reduceToNat, implies_true, vtab]
        refine at_intro ?_
        simp -dsimp only [vend, ne_eq, Nat.reduceEqDiff, reduceCtorEq]
        have hlen : ∀ l : List (List Pat), (lefts p.n l).length ≤ l.length := fun l => by
          induction l with
          | nil => simp [lefts]
          | cons r l ih =>
            cases r with
            | nil => simp only [lefts, List.length_cons]; omega
            | cons p x =>
              simp only [lefts]
              split <;> simp only [List.length_cons] <;> omega
        first | refine awp_block (awp_loop (ι := {k : Nat // k ≤ rows.length}) (fun k => ⟨138, [(2, eR (p :: x)), (3, .mp 0 0), (56, eRR rows), (57, aI rows.length), (58, aI k.1), (8, .lst 1 ((lefts p.n (rows.take k)).map eR) (.tok 1))], [.cells [.lst 3 (t.datas.map Data.enc) .sh, .im .str (t.cons.map entry)], .spare (lefts p.n (rows.take k)).length]⟩) (fun k => rows.length - k.1) ⟨0, by omega⟩ ?_ ?_) | refine awp_seq (awp_block (awp_loop (ι := {k : Nat // k ≤ rows.length}) (fun k => ⟨138, [(2, eR (p :: x)), (3, .mp 0 0), (56, eRR rows), (57, aI rows.length), (58, aI k.1), (8, .lst 1 ((lefts p.n (rows.take k)).map eR) (.tok 1))], [.cells [.lst 3 (t.datas.map Data.enc) .sh, .im .str (t.cons.map entry)], .spare (lefts p.n (rows.take k)).length]⟩) (fun k => rows.length - k.1) ⟨0, by omega⟩ ?_ ?_))
        · refine ⟨rfl, ?_, ?_⟩
          rotate_left
          simp -dsimp only [↓vpre, vpos, Int.reduceNeg, Int.reduceLE, Int.reduceLT, reduceIte, Nat.reduceEqDiff, Nat.reduceLT, Nat.reduceLeDiff, Nat.reduceAdd, Nat.reduceMul, Nat.reduceSub, Nat.reducePow, ne_eq, Int.reduceAdd, Int.reduceSub, Int.reduceMul, Int.reduceToNat, implies_true, vtab, Says, exists_eq_left', Option.some.injEq, sub_self, and_assoc, true_and, and_true]
          · exact Sub.lst (by simp [lefts])
          · simp [lefts]
        · rintro ⟨k, hk⟩
          first | refine awp_seq (awp_region hT hm ?_) | refine awp_region hT hm ?_ | refine awp_seq (awp_seq (awp_region hT hm ?_)) | refine awp_seq (awp_seq (awp_seq (awp_region hT hm ?_)))
          simp -dsimp only [↓vpre, vpos, Int.reduceNeg, Int.reduceLE, Int.reduceLT, reduceIte, Nat.reduceEqDiff, Nat.reduceLT, Nat.reduceLeDiff, Nat.reduceAdd, Nat.reduceMul, Nat.reduceSub, Nat.reducePow, ne_eq, Int.reduceAdd, Int.reduceSub, Int.reduceMul, Int.reduceToNat, implies_true, vtab]
          refine at_intro ?_
          simp -dsimp only [vend, ne_eq, Nat.reduceEqDiff, reduceCtorEq]
          first | refine awp_seq (awp_cond rfl (fun h => ?_) (fun h => ?_)) | refine awp_cond rfl (fun h => ?_) (fun h => ?_) | refine awp_seq (awp_seq (awp_cond rfl (fun h => ?_) (fun h => ?_)))
          · refine awp_skip ?_
            simp -dsimp only [vend, ne_eq, Nat.reduceEqDiff, reduceCtorEq]
            have hlt : k < rows.length := by simpa using h
            obtain ⟨r, hr⟩ : ∃ r, rows[k]? = some r := ⟨rows[k], by simp [hlt]⟩
            have hmem := List.mem_of_getElem? hr
            first | refine awp_seq (awp_block ?_) | refine awp_block ?_
            first | refine awp_seq (awp_region hT hm ?_) | refine awp_region hT hm ?_ | refine awp_seq (awp_seq (awp_region hT hm ?_)) | refine awp_seq (awp_seq (awp_seq (awp_region hT hm ?_)))
            simp -dsimp only [↓vpre, vpos, Int.reduceNeg, Int.reduceLE, Int.reduceLT, reduceIte, Nat.reduceEqDiff, Nat.reduceLT, Nat.reduceLeDiff, Nat.reduceAdd, Nat.reduceMul, Nat.reduceSub, Nat.reducePow, ne_eq, Int.reduceAdd, Int.reduceSub, Int.reduceMul, Int.reduceToNat, implies_true, vtab, hr]
            refine at_intro ?_
            simp -dsimp only [vend, ne_eq, Nat.reduceEqDiff, reduceCtorEq]
            obtain ⟨q, r', rfl⟩ : ∃ p r', r = p :: r' := List.exists_cons_of_ne_nil (hty.ne r hmem).1
            have hf := hlen (rows.take k)
            simp only [List.length_take] at hf
            first | refine awp_seq (awp_region hT hm ?_) | refine awp_region hT hm ?_ | refine awp_seq (awp_seq (awp_region hT hm ?_)) | refine awp_seq (awp_seq (awp_seq (awp_region hT hm ?_)))
            simp -dsimp only [↓vpre, vpos, Int.reduceNeg, Int.reduceLE, Int.reduceLT, reduceIte, Nat.reduceEqDiff, Nat.reduceLT, Nat.reduceLeDiff, Nat.reduceAdd, Nat.reduceMul, Nat.reduceSub, Nat.reducePow, ne_eq, Int.reduceAdd, Int.reduceSub, Int.reduceMul, Int.reduceToNat, implies_true, vtab]
            refine .inl ⟨_, free_spec q, by first | (simp only [uptoL, AVal.upto, and_true, true_and, and_self, Pat.enc_upto, Pat.map_upto, any_upto, rows_upto, Con.enc_upto, Con.map_upto, Data.enc_upto, Data.map_upto, Tbl.enc_upto, entry_upto]; done) | (simp [uptoL, AVal.upto, Pat.enc_upto, Pat.map_upto, any_upto, rows_upto, Con.enc_upto, Con.map_upto, Data.enc_upto, Data.map_upto, Tbl.enc_upto, entry_upto]; done), later_intro ?_⟩
            simp -dsimp only [↓vpre, vpos, Int.reduceNeg, Int.reduceLE, Int.reduceLT, reduceIte, Nat.reduceEqDiff, Nat.reduceLT, Nat.reduceLeDiff, Nat.reduceAdd, Nat.reduceMul, Nat.reduceSub, Nat.reducePow, ne_eq, Int.reduceAdd, Int.reduceSub, Int.reduceMul, Int.reduceToNat, implies_true, vtab]
            have e : lefts p.n (rows.take (k + 1)) = if q.free || decide (q.n = p.n) then lefts p.n (rows.take k) ++ [r'] else lefts p.n (rows.take k) := by
              rw [take_next hr, lefts_append, lefts]
              split <;> simp [lefts]
            refine vcIf_split (fun h => ?_) (fun h => ?_)
            · have hqf : q.free = false := by simpa using h
              simp -dsimp only [↓vpre, vpos, Int.reduceNeg, Int.reduceLE, Int.reduceLT, reduceIte, Nat.reduceEqDiff, Nat.reduceLT, Nat.reduceLeDiff, Nat.reduceAdd, Nat.reduceMul, Nat.reduceSub, Nat.reducePow, ne_eq, Int.reduceAdd, Int.reduceSub, Int.reduceMul, Int.reduceToNat, implies_true, vtab, hqf, h]
              refine ⟨by (show orderB _ _ = true); kernel_rfl, ?_⟩
              refine at_intro ?_
              simp -dsimp only [vend, ne_eq, Nat.reduceEqDiff, reduceCtorEq]
              first | refine awp_seq (awp_cond rfl (fun h => ?_) (fun h => ?_)) | refine awp_cond rfl (fun h => ?_) (fun h => ?_) | refine awp_seq (awp_seq (awp_cond rfl (fun h => ?_) (fun h => ?_)))
              · have hqn : q.n = p.n := by simpa using h
                rw [hqf, hqn] at e
                simp only [Bool.false_or, decide_true, if_true] at e
                first | refine awp_seq (awp_region hT hm ?_) | refine awp_region hT hm ?_ | refine awp_seq (awp_seq (awp_region hT hm ?_)) | refine awp_seq (awp_seq (awp_seq (awp_region hT hm ?_)))
                simp -dsimp only [↓vpre, vpos, Int.reduceNeg, Int.reduceLE, Int.reduceLT, reduceIte, Nat.reduceEqDiff, Nat.reduceLT, Nat.reduceLeDiff, Nat.reduceAdd, Nat.reduceMul, Nat.reduceSub, Nat.reducePow, ne_eq, Int.reduceAdd, Int.reduceSub, Int.reduceMul, Int.reduceToNat, implies_true, vtab, List.take_length, List.drop_one, List.tail_cons]
                repeat (refine ⟨by omega, ?_⟩)
                refine at_intro ?_
                simp -dsimp only [vend, ne_eq, Nat.reduceEqDiff, reduceCtorEq]
                first | refine awp_seq (awp_region hT hm ?_) | refine awp_region hT hm ?_ | refine awp_seq (awp_seq (awp_region hT hm ?_)) | refine awp_seq (awp_seq (awp_seq (awp_region hT hm ?_)))
                simp -dsimp only [↓vpre, vpos, Int.reduceNeg, Int.reduceLE, Int.reduceLT, reduceIte, Nat.reduceEqDiff, Nat.reduceLT, Nat.reduceLeDiff, Nat.reduceAdd, Nat.reduceMul, Nat.reduceSub, Nat.reducePow, ne_eq, Int.reduceAdd, Int.reduceSub, Int.reduceMul, Int.reduceToNat, implies_true, vtab]
                repeat (refine ⟨by omega, ?_⟩)
                refine at_intro ?_
                simp -dsimp only [vend, ne_eq, Nat.reduceEqDiff, reduceCtorEq]
                refine ⟨⟨k + 1, hlt⟩, by simp; omega, ?_⟩
                refine ⟨rfl, ?_, ?_⟩
                rotate_left
                simp -dsimp only [↓vpre, vpos, Int.reduceNeg, Int.reduceLE, Int.reduceLT, reduceIte, Nat.reduceEqDiff, Nat.reduceLT, Nat.reduceLeDiff, Nat.reduceAdd, Nat.reduceMul, Nat.reduceSub, Nat.reducePow, ne_eq, Int.reduceAdd, Int.reduceSub, Int.reduceMul, Int.reduceToNat, implies_true, vtab, Says, exists_eq_left', Option.some.injEq, sub_self, and_assoc, true_and, and_true]
                · exact ⟨Sub.int (by simp), Sub.lst (by simp [e])⟩
                · simp [e]
              · have hqn : ¬ q.n = p.n := by simpa using h
                rw [hqf] at e
                simp only [Bool.false_or, hqn, decide_false, Bool.false_eq_true, if_false] at e
                refine awp_skip ?_
                simp -dsimp only [vend, ne_eq, Nat.reduceEqDiff, reduceCtorEq]
                first | refine awp_seq (awp_region hT hm ?_) | refine awp_region hT hm ?_ | refine awp_seq (awp_seq (awp_region hT hm ?_)) | refine awp_seq (awp_seq (awp_seq (awp_region hT hm ?_)))
                simp -dsimp only [↓vpre, vpos, Int.reduceNeg, Int.reduceLE, Int.reduceLT, reduceIte, Nat.reduceEqDiff, Nat.reduceLT, Nat.reduceLeDiff, Nat.reduceAdd, Nat.reduceMul, Nat.reduceSub, Nat.reducePow, ne_eq, Int.reduceAdd, Int.reduceSub, Int.reduceMul, Int.reduceToNat, implies_true, vtab]
                repeat (refine ⟨by omega, ?_⟩)
                refine at_intro ?_
                simp -dsimp only [vend, ne_eq, Nat.reduceEqDiff, reduceCtorEq]
                refine ⟨⟨k + 1, hlt⟩, by simp; omega, ?_⟩
                refine ⟨rfl, ?_, ?_⟩
                rotate_left
                simp -dsimp only [↓vpre, vpos, Int.reduceNeg, Int.reduceLE, Int.reduceLT, reduceIte, Nat.reduceEqDiff, Nat.reduceLT, Nat.reduceLeDiff, Nat.reduceAdd, Nat.reduceMul, Nat.reduceSub, Nat.reducePow, ne_eq, Int.reduceAdd, Int.reduceSub, Int.reduceMul, Int.reduceToNat, implies_true, vtab, Says, exists_eq_left', Option.some.injEq, sub_self, and_assoc, true_and, and_true]
                · exact ⟨Sub.int (by simp), Sub.lst (by rw [e])⟩
                · simp [e]
            · have hqf : q.free = true := by simpa using h
              simp -dsimp only [↓vpre, vpos, Int.reduceNeg, Int.reduceLE, Int.reduceLT, reduceIte, Nat.reduceEqDiff, Nat.reduceLT, Nat.reduceLeDiff, Nat.reduceAdd, Nat.reduceMul, Nat.reduceSub, Nat.reducePow, ne_eq, Int.reduceAdd, Int.reduceSub, Int.reduceMul, Int.reduceToNat, implies_true, vtab, hqf, h]
              refine ⟨by (show orderB _ _ = true); kernel_rfl, ?_⟩
              refine at_intro ?_
              simp -dsimp only [vend, ne_eq, Nat.reduceEqDiff, reduceCtorEq]
              rw [hqf] at e
              simp only [Bool.true_or, if_true] at e
              first | refine awp_seq (awp_cond rfl (fun h => ?_) (fun h => ?_)) | refine awp_cond rfl (fun h => ?_) (fun h => ?_) | refine awp_seq (awp_seq (awp_cond rfl (fun h => ?_) (fun h => ?_)))
              · first | refine awp_seq (awp_region hT hm ?_) | refine awp_region hT hm ?_ | refine awp_seq (awp_seq (awp_region hT hm ?_)) | refine awp_seq (awp_seq (awp_seq (awp_region hT hm ?_)))
                simp -dsimp only [↓vpre, vpos, Int.reduceNeg, Int.reduceLE, Int.reduceLT, reduceIte, Nat.reduceEqDiff, Nat.reduceLT, Nat.reduceLeDiff, Nat.reduceAdd, Nat.reduceMul, Nat.reduceSub, Nat.reducePow, ne_eq, Int.reduceAdd, Int.reduceSub, Int.reduceMul, Int.reduceToNat, implies_true, vtab, List.take_length, List.drop_one, List.tail_cons]
                repeat (refine ⟨by omega, ?_⟩)
                refine at_intro ?_
                simp -dsimp only [vend, ne_eq, Nat.reduceEqDiff, reduceCtorEq]
                first | refine awp_seq (awp_region hT hm ?_) | refine awp_region hT hm ?_ | refine awp_seq (awp_seq (awp_region hT hm ?_)) | refine awp_seq (awp_seq (awp_seq (awp_region hT hm ?_)))
                simp -dsimp only [↓vpre, vpos, Int.reduceNeg, Int.reduceLE, Int.reduceLT, reduceIte, Nat.reduceEqDiff, Nat.reduceLT, Nat.reduceLeDiff, Nat.reduceAdd, Nat.reduceMul, Nat.reduceSub, Nat.reducePow, ne_eq, Int.reduceAdd, Int.reduceSub, Int.reduceMul, Int.reduceToNat, implies_true, vtab]
                repeat (refine ⟨by omega, ?_⟩)
                refine at_intro ?_
                simp -dsimp only [vend, ne_eq, Nat.reduceEqDiff, reduceCtorEq]
                refine ⟨⟨k + 1, hlt⟩, by simp; omega, ?_⟩
                refine ⟨rfl, ?_, ?_⟩
                rotate_left
                simp -dsimp only [↓vpre, vpos, Int.reduceNeg, Int.reduceLE, Int.reduceLT, reduceIte, Nat.reduceEqDiff, Nat.reduceLT, Nat.reduceLeDiff, Nat.reduceAdd, Nat.reduceMul, Nat.reduceSub, Nat.reducePow, ne_eq, Int.reduceAdd, Int.reduceSub, Int.reduceMul, Int.reduceToNat, implies_true, vtab, Says, exists_eq_left', Option.some.injEq, sub_self, and_assoc, true_and, and_true]
                · exact ⟨Sub.int (by simp), Sub.lst (by simp [e])⟩
                · simp [e]
              · cases h
          · refine awp_exit ?_
            simp -dsimp only [vend, ne_eq, Nat.reduceEqDiff, reduceCtorEq]
            have hkk : k = rows.length := by simp at h; omega
            subst hkk
            first | refine awp_seq (awp_region hT hm ?_) | refine awp_region hT hm ?_ | refine awp_seq (awp_seq (awp_region hT hm ?_)) | refine awp_seq (awp_seq (awp_seq (awp_region hT hm ?_)))
            simp -dsimp only [↓vpre, vpos, Int.reduceNeg, Int.reduceLE, Int.reduceLT, reduceIte, Nat.reduceEqDiff, Nat.reduceLT, Nat.reduceLeDiff, Nat.reduceAdd, Nat.reduceMul, Nat.reduceSub, Nat.reducePow, ne_eq, Int.reduceAdd, Int.reduceSub, Int.reduceMul, Int.reduceToNat, implies_true, vtab, List.take_length, List.drop_one, List.tail_cons]
            refine .inl ⟨_, hcall, by first | (simp only [uptoL, AVal.upto, and_true, true_and, and_self, Pat.enc_upto, Pat.map_upto, any_upto, rows_upto, Con.enc_upto, Con.map_upto, Data.enc_upto, Data.map_upto, Tbl.enc_upto, entry_upto]; done) | (simp [uptoL, AVal.upto, Pat.enc_upto, Pat.map_upto, any_upto, rows_upto, Con.enc_upto, Con.map_upto, Data.enc_upto, Data.map_upto, Tbl.enc_upto, entry_upto]; done), later_intro ?_⟩
            simp -dsimp only [↓vpre, vpos, Int.reduceNeg, Int.reduceLE, Int.reduceLT, reduceIte, Nat.reduceEqDiff, Nat.reduceLT, Nat.reduceLeDiff, Nat.reduceAdd, Nat.reduceMul, Nat.reduceSub, Nat.reducePow, ne_eq, Int.reduceAdd, Int.reduceSub, Int.reduceMul, Int.reduceToNat, implies_true, vtab]
            refine ⟨by (show orderB _ _ = true); kernel_rfl, ?_⟩
            refine at_intro ?_
            simp -dsimp only [vend, ne_eq, Nat.reduceEqDiff, reduceCtorEq]
            refine awp_ret ?_
            simp -dsimp only [↓vpre, vpos, Int.reduceNeg, Int.reduceLE, Int.reduceLT, reduceIte, Nat.reduceEqDiff, Nat.reduceLT, Nat.reduceLeDiff, Nat.reduceAdd, Nat.reduceMul, Nat.reduceSub, Nat.reducePow, ne_eq, Int.reduceAdd, Int.reduceSub, Int.reduceMul, Int.reduceToNat, implies_true, vtab, RetTo, Try.results29, retVals, retVal, mkRet, AVal.upto, Nat.zero_le, Nat.le_refl, seqPost_ret, blockPost_ret, loopPost_ret]
      · simp [h2] at h

theorem useful_free {t : Tbl} (hT0 : TblOK t) (hF : FitD t.datas) (fu : Nat) (ih : UsefulOK t fu) (rows : List (List Pat)) (p : Pat) (x : List Pat) (ty : Ty) (tys : List Ty) (hfu : wtR rows + wtL (p :: x) + (p :: x).length < fu + 1) (hty : TypedR t rows (ty :: tys)) (hx : HasTyL t x tys)
    (hw : WfL t (ty :: tys)) (hs : SmallR rows) (hsl : SmallL (p :: x)) (hb : fu + 1 ≤ 2 ^ 19) (hk3 : ¬ p.kind = 3) (hk2 : ¬ p.kind = 2) : PCall Try.prog 29 [t.enc, eRR rows, eR (p :: x)] (.v (.bool (t.usefulF (fu + 1) rows (p :: x)))) := by
  rw [Tbl.usefulF, if_neg hk3, if_neg hk2]
  have hl64 := hs.1
  simp only [wtL, List.length_cons] at hfu
  have hwt : WfTy t ty := hw ty (by simp)
  have hwl : WfL t tys := fun y hy => hw y (by simp [hy])
  have hfl := firsts_len rows
  have hab := absent_spec hT0 hF hty.firsts (by omega)
  have hlx := hx.len
  refine ecall_of hT true 0 Try.func29 rfl (by kernel_rfl) (by simp [Try.ntmps29]) (by simp) ?_
  show AWP Try.prog _ _ _ ⟨138, _, _⟩
  dsimp only [Tmp, TypeId, slotsOf]
  first | refine awp_seq (awp_region hT hm ?_) | refine awp_region hT hm ?_ | refine awp_seq (awp_seq (awp_region hT hm ?_)) | refine awp_seq (awp_seq (awp_seq (awp_region hT hm ?_)))
  simp -dsimp only [↓vpre, vpos, Int.reduceNeg, Int.reduceLE, Int.reduceLT, reduceIte, Nat.reduceEqDiff, Nat.reduceLT, Nat.reduceLeDiff, Nat.reduceAdd, Nat.reduceMul, Nat.reduceSub, Nat.reducePow, ne_eq, Int.reduceAdd, Int.reduceSub, Int.reduceMul, Int.reduceToNat, implies_true, vtab]
  refine at_intro ?_
  simp -dsimp only [vend, ne_eq, Nat.reduceEqDiff, reduceCtorEq]
  first | refine awp_seq (awp_region hT hm ?_) | refine awp_region hT hm ?_ | refine awp_seq (awp_seq (awp_region hT hm ?_)) | refine awp_seq (awp_seq (awp_seq (awp_region hT hm ?_)))
  simp -dsimp only [↓vpre, vpos, Int.reduceNeg, Int.reduceLE, Int.reduceLT, reduceIte, Nat.reduceEqDiff, Nat.reduceLT, Nat.reduceLeDiff, Nat.reduceAdd, Nat.reduceMul, Nat.reduceSub, Nat.reducePow, ne_eq, Int.reduceAdd, Int.reduceSub, Int.reduceMul, Int.reduceToNat, implies_true, vtab]
  refine at_intro ?_
  simp -dsimp only [vend, ne_eq, Nat.reduceEqDiff, reduceCtorEq]
  first | refine awp_seq (awp_cond rfl (fun h => ?_) (fun h => ?_)) | refine awp_cond rfl (fun h => ?_) (fun h => ?_) | refine awp_seq (awp_seq (awp_cond rfl (fun h => ?_) (fun h => ?_)))
  · simp at h
    omega
  · refine awp_skip ?_
    simp -dsimp only [vend, ne_eq, Nat.reduceEqDiff, reduceCtorEq]
    first | refine awp_seq (awp_region hT hm ?_) | refine awp_region hT hm ?_ | refine awp_seq (awp_seq (awp_region hT hm ?_)) | refine awp_seq (awp_seq (awp_seq (awp_region hT hm ?_)))
    simp -dsimp only [↓vpre, vpos, Int.reduceNeg, Int.reduceLE, Int.reduceLT, reduceIte, Nat.reduceEqDiff, Nat.reduceLT, Nat.reduceLeDiff, Nat.reduceAdd, Nat.reduceMul, Nat.reduceSub, Nat.reducePow, ne_eq, Int.reduceAdd, Int.reduceSub, Int.reduceMul, Int.reduceToNat, implies_true, vtab]
    refine at_intro ?_
    simp -dsimp only [vend, ne_eq, Nat.reduceEqDiff, reduceCtorEq]
    first | refine awp_seq (awp_block ?_) | refine awp_block ?_
    first | refine awp_seq (awp_region hT hm ?_) | refine awp_region hT hm ?_ | refine awp_seq (awp_seq (awp_region hT hm ?_)) | refine awp_seq (awp_seq (awp_seq (awp_region hT hm ?_)))
    simp -dsimp only [↓vpre, vpos, Int.reduceNeg, Int.reduceLE, Int.reduceLT, reduceIte, Nat.reduceEqDiff, Nat.reduceLT, Nat.reduceLeDiff, Nat.reduceAdd, Nat.reduceMul, Nat.reduceSub, Nat.reducePow, ne_eq, Int.reduceAdd, Int.reduceSub, Int.reduceMul, Int.reduceToNat, implies_true, vtab]
    refine at_intro ?_
    simp -dsimp only [vend, ne_eq, Nat.reduceEqDiff, reduceCtorEq]
    first | refine awp_seq (awp_cond rfl (fun h => ?_) (fun h => ?_)) | refine awp_cond rfl (fun h => ?_) (fun h => ?_) | refine awp_seq (awp_seq (awp_cond rfl (fun h => ?_) (fun h => ?_)))
    · have : p.kind = 3 := by simpa using h
      exact absurd this hk3
    · first | refine awp_seq (awp_region hT hm ?_) | refine awp_region hT hm ?_ | refine awp_seq (awp_seq (awp_region hT hm ?_)) | refine awp_seq (awp_seq (awp_seq (awp_region hT hm ?_)))
      simp -dsimp only [↓vpre, vpos, Int.reduceNeg, Int.reduceLE, Int.reduceLT, reduceIte, Nat.reduceEqDiff, Nat.reduceLT, Nat.reduceLeDiff, Nat.reduceAdd, Nat.reduceMul, Nat.reduceSub, Nat.reducePow, ne_eq, Int.reduceAdd, Int.reduceSub, Int.reduceMul, Int.reduceToNat, implies_true, vtab]
      refine at_intro ?_
      simp -dsimp only [vend, ne_eq, Nat.reduceEqDiff, reduceCtorEq]
      first | refine awp_seq (awp_cond rfl (fun h => ?_) (fun h => ?_)) | refine awp_cond rfl (fun h => ?_) (fun h => ?_) | refine awp_seq (awp_seq (awp_cond rfl (fun h => ?_) (fun h => ?_)))
      · have : p.kind = 2 := by simpa using h
        exact absurd this hk2
      · refine awp_skip ?_
        simp -dsimp only [vend, ne_eq, Nat.reduceEqDiff, reduceCtorEq]
        first | refine awp_seq (awp_region hT hm ?_) | refine awp_region hT hm ?_ | refine awp_seq (awp_seq (awp_region hT hm ?_)) | refine awp_seq (awp_seq (awp_seq (awp_region hT hm ?_)))
        simp -dsimp only [↓vpre, vpos, Int.reduceNeg, Int.reduceLE, Int.reduceLT, reduceIte, Nat.reduceEqDiff, Nat.reduceLT, Nat.reduceLeDiff, Nat.reduceAdd, Nat.reduceMul, Nat.reduceSub, Nat.reducePow, ne_eq, Int.reduceAdd, Int.reduceSub, Int.reduceMul, Int.reduceToNat, implies_true, vtab]
        refine .inl ⟨_, (first_spec rows (by omega) (fun r hr => (hty.ne r hr).1)), by first | (simp only [uptoL, AVal.upto, and_true, true_and, and_self, Pat.enc_upto, Pat.map_upto, any_upto, rows_upto, Con.enc_upto, Con.map_upto, Data.enc_upto, Data.map_upto, Tbl.enc_upto, entry_upto]; done) | (simp [uptoL, AVal.upto, Pat.enc_upto, Pat.map_upto, any_upto, rows_upto, Con.enc_upto, Con.map_upto, Data.enc_upto, Data.map_upto, Tbl.enc_upto, entry_upto]; done), later_intro ?_⟩
        simp -dsimp only [↓vpre, vpos, Int.reduceNeg, Int.reduceLE, Int.reduceLT, reduceIte, Nat.reduceEqDiff, Nat.reduceLT, Nat.reduceLeDiff, Nat.reduceAdd, Nat.reduceMul, Nat.reduceSub, Nat.reducePow, ne_eq, Int.reduceAdd, Int.reduceSub, Int.reduceMul, Int.reduceToNat, implies_true, vtab]
        refine at_intro ?_
        simp -dsimp only [vend, ne_eq, Nat.reduceEqDiff, reduceCtorEq]
        cases absent_out hT0 hwt hty.firsts with
        | some q hq h1 h2 =>
          rw [hq] at hab ⊢
          have hr := rests_wt rows
          have hcall := ih (rests rows) x tys (by omega) hty.rests hx hwl hs.rests hsl.tail (by omega)
          first | refine awp_seq (awp_region hT hm ?_) | refine awp_region hT hm ?_ | refine awp_seq (awp_seq (awp_region hT hm ?_)) | refine awp_seq (awp_seq (awp_seq (awp_region hT hm ?_)))
          simp -dsimp only [↓vpre, vpos, Int.reduceNeg, Int.reduceLE, Int.reduceLT, reduceIte, Nat.reduceEqDiff, Nat.reduceLT, Nat.reduceLeDiff, Nat.reduceAdd, Nat.reduceMul, Nat.reduceSub, Nat.reducePow, ne_eq, Int.reduceAdd, Int.reduceSub, Int.reduceMul, Int.reduceToNat, implies_true, vtab]
          refine .inl ⟨_, hab, by first | (simp only [uptoL, AVal.upto, and_true, true_and, and_self, Pat.enc_upto, Pat.map_upto, any_upto, rows_upto, Con.enc_upto, Con.map_upto, Data.enc_upto, Data.map_upto, Tbl.enc_upto, entry_upto]; done) | (simp [uptoL, AVal.upto, Pat.enc_upto, Pat.map_upto, any_upto, rows_upto, Con.enc_upto, Con.map_upto, Data.enc_upto, Data.map_upto, Tbl.enc_upto, entry_upto]; done), later_intro ?_⟩
          simp -dsimp only [↓vpre, vpos, Int.reduceNeg, Int.reduceLE, Int.reduceLT, reduceIte, Nat.reduceEqDiff, Nat.reduceLT, Nat.reduceLeDiff, Nat.reduceAdd, Nat.reduceMul, Nat.reduceSub, Nat.reducePow, ne_eq, Int.reduceAdd, Int.reduceSub, Int.reduceMul, Int.reduceToNat, implies_true, vtab, absentRes]
          refine at_intro ?_
          simp -dsimp only [vend, ne_eq, Nat.reduceEqDiff, reduceCtorEq]
          first | refine awp_seq (awp_region hT hm ?_) | refine awp_region hT hm ?_ | refine awp_seq (awp_seq (awp_region hT hm ?_)) | refine awp_seq (awp_seq (awp_seq (awp_region hT hm ?_)))
          simp -dsimp only [↓vpre, vpos, Int.reduceNeg, Int.reduceLE, Int.reduceLT, reduceIte, Nat.reduceEqDiff, Nat.reduceLT, Nat.reduceLeDiff, Nat.reduceAdd, Nat.reduceMul, Nat.reduceSub, Nat.reducePow, ne_eq, Int.reduceAdd, Int.reduceSub, Int.reduceMul, Int.reduceToNat, implies_true, vtab]
          refine at_intro ?_
          simp -dsimp only [vend, ne_eq, Nat.reduceEqDiff, reduceCtorEq]
          first | refine awp_seq (awp_cond rfl (fun h => ?_) (fun h => ?_)) | refine awp_cond rfl (fun h => ?_) (fun h => ?_) | refine awp_seq (awp_seq (awp_cond rfl (fun h => ?_) (fun h => ?_)))
          · first | refine awp_seq (awp_region hT hm ?_) | refine awp_region hT hm ?_ | refine awp_seq (awp_seq (awp_region hT hm ?_)) | refine awp_seq (awp_seq (awp_seq (awp_region hT hm ?_)))
            simp -dsimp only [↓vpre, vpos, Int.reduceNeg, Int.reduceLE, Int.reduceLT, reduceIte, Nat.reduceEqDiff, Nat.reduceLT, Nat.reduceLeDiff, Nat.reduceAdd, Nat.reduceMul, Nat.reduceSub, Nat.reducePow, ne_eq, Int.reduceAdd, Int.reduceSub, Int.reduceMul, Int.reduceToNat, implies_true, vtab, List.take_length, List.drop_one, List.tail_cons]
            refine .inl ⟨_, (rest_spec rows (by omega) (fun r hr => (hty.ne r hr).1)), by first | (simp only [uptoL, AVal.upto, and_true, true_and, and_self, Pat.enc_upto, Pat.map_upto, any_upto, rows_upto, Con.enc_upto, Con.map_upto, Data.enc_upto, Data.map_upto, Tbl.enc_upto, entry_upto]; done) | (simp [uptoL, AVal.upto, Pat.enc_upto, Pat.map_upto, any_upto, rows_upto, Con.enc_upto, Con.map_upto, Data.enc_upto, Data.map_upto, Tbl.enc_upto, entry_upto]; done), later_intro ?_⟩
            simp -dsimp only [↓vpre, vpos, Int.reduceNeg, Int.reduceLE, Int.reduceLT, reduceIte, Nat.reduceEqDiff, Nat.reduceLT, Nat.reduceLeDiff, Nat.reduceAdd, Nat.reduceMul, Nat.reduceSub, Nat.reducePow, ne_eq, Int.reduceAdd, Int.reduceSub, Int.reduceMul, Int.reduceToNat, implies_true, vtab, List.take_length, List.drop_one, List.tail_cons]
            repeat (refine ⟨by omega, ?_⟩)
            refine .inl ⟨_, hcall, by first | (simp only [uptoL, AVal.upto, and_true, true_and, and_self, Pat.enc_upto, Pat.map_upto, any_upto, rows_upto, Con.enc_upto, Con.map_upto, Data.enc_upto, Data.map_upto, Tbl.enc_upto, entry_upto]; done) | (simp [uptoL, AVal.upto, Pat.enc_upto, Pat.map_upto, any_upto, rows_upto, Con.enc_upto, Con.map_upto, Data.enc_upto, Data.map_upto, Tbl.enc_upto, entry_upto]; done), later_intro ?_⟩
            simp -dsimp only [↓vpre, vpos, Int.reduceNeg, Int.reduceLE, Int.reduceLT, reduceIte, Nat.reduceEqDiff, Nat.reduceLT, Nat.reduceLeDiff, Nat.reduceAdd, Nat.reduceMul, Nat.reduceSub, Nat.reducePow, ne_eq, Int.reduceAdd, Int.reduceSub, Int.reduceMul, Int.reduceToNat, implies_true, vtab]
            repeat (refine ⟨by omega, ?_⟩)
            refine ⟨by (show orderB _ _ = true); kernel_rfl, ?_⟩
            refine at_intro ?_
            simp -dsimp only [vend, ne_eq, Nat.reduceEqDiff, reduceCtorEq]
            refine awp_ret ?_
            simp -dsimp only [↓vpre, vpos, Int.reduceNeg, Int.reduceLE, Int.reduceLT, reduceIte, Nat.reduceEqDiff, Nat.reduceLT, Nat.reduceLeDiff, Nat.reduceAdd, Nat.reduceMul, Nat.reduceSub, Nat.reducePow, ne_eq, Int.reduceAdd, Int.reduceSub, Int.reduceMul, Int.reduceToNat, implies_true, vtab, RetTo, Try.results29, retVals, retVal, mkRet, AVal.upto, Nat.zero_le, Nat.le_refl, seqPost_ret, blockPost_ret, loopPost_ret]
          · cases h
        | none hq i f d q r hl ht hd hp hall h3 =>
          rw [hq] at hab ⊢
          subst ht
          rw [hl] at hab ⊢
          simp only [hp, hd]
          first | refine awp_seq (awp_region hT hm ?_) | refine awp_region hT hm ?_ | refine awp_seq (awp_seq (awp_region hT hm ?_)) | refine awp_seq (awp_seq (awp_seq (awp_region hT hm ?_)))
          simp -dsimp only [↓vpre, vpos, Int.reduceNeg, Int.reduceLE, Int.reduceLT, reduceIte, Nat.reduceEqDiff, Nat.reduceLT, Nat.reduceLeDiff, Nat.reduceAdd, Nat.reduceMul, Nat.reduceSub, Nat.reducePow, ne_eq, Int.reduceAdd, Int.reduceSub, Int.reduceMul, Int.reduceToNat, implies_true, vtab]
          refine .inl ⟨_, hab, by first | (simp only [uptoL, AVal.upto, and_true, true_and, and_self, Pat.enc_upto, Pat.map_upto, any_upto, rows_upto, Con.enc_upto, Con.map_upto, Data.enc_upto, Data.map_upto, Tbl.enc_upto, entry_upto]; done) | (simp [uptoL, AVal.upto, Pat.enc_upto, Pat.map_upto, any_upto, rows_upto, Con.enc_upto, Con.map_upto, Data.enc_upto, Data.map_upto, Tbl.enc_upto, entry_upto]; done), later_intro ?_⟩
          simp -dsimp only [↓vpre, vpos, Int.reduceNeg, Int.reduceLE, Int.reduceLT, reduceIte, Nat.reduceEqDiff, Nat.reduceLT, Nat.reduceLeDiff, Nat.reduceAdd, Nat.reduceMul, Nat.reduceSub, Nat.reducePow, ne_eq, Int.reduceAdd, Int.reduceSub, Int.reduceMul, Int.reduceToNat, implies_true, vtab, absentRes]
          refine at_intro ?_
          simp -dsimp only [vend, ne_eq, Nat.reduceEqDiff, reduceCtorEq]
          first | refine awp_seq (awp_region hT hm ?_) | refine awp_region hT hm ?_ | refine awp_seq (awp_seq (awp_region hT hm ?_)) | refine awp_seq (awp_seq (awp_seq (awp_region hT hm ?_)))
          simp -dsimp only [↓vpre, vpos, Int.reduceNeg, Int.reduceLE, Int.reduceLT, reduceIte, Nat.reduceEqDiff, Nat.reduceLT, Nat.reduceLeDiff, Nat.reduceAdd, Nat.reduceMul, Nat.reduceSub, Nat.reducePow, ne_eq, Int.reduceAdd, Int.reduceSub, Int.reduceMul, Int.reduceToNat, implies_true, vtab]
          refine at_intro ?_
          simp -dsimp only [vend, ne_eq, Nat.reduceEqDiff, reduceCtorEq]
          first | refine awp_seq (awp_cond rfl (fun h => ?_) (fun h => ?_)) | refine awp_cond rfl (fun h => ?_) (fun h => ?_) | refine awp_seq (awp_seq (awp_cond rfl (fun h => ?_) (fun h => ?_)))
          · cases h
          · refine awp_skip ?_
            simp -dsimp only [vend, ne_eq, Nat.reduceEqDiff, reduceCtorEq]
            have hd' : t.datas[((find t.cons q.name).getD K.zero).data]? = some d := by
              rw [← hd, ← hp]
              rfl
            first | refine awp_seq (awp_region hT hm ?_) | refine awp_region hT hm ?_ | refine awp_seq (awp_seq (awp_region hT hm ?_)) | refine awp_seq (awp_seq (awp_seq (awp_region hT hm ?_)))
            simp -dsimp only [↓vpre, vpos, Int.reduceNeg, Int.reduceLE, Int.reduceLT, reduceIte, Nat.reduceEqDiff, Nat.reduceLT, Nat.reduceLeDiff, Nat.reduceAdd, Nat.reduceMul, Nat.reduceSub, Nat.reducePow, ne_eq, Int.reduceAdd, Int.reduceSub, Int.reduceMul, Int.reduceToNat, implies_true, vtab, zero_K', hd']
            refine ⟨by (show orderB _ _ = true); kernel_rfl, ?_⟩
            refine at_intro ?_
            simp -dsimp only [vend, ne_eq, Nat.reduceEqDiff, reduceCtorEq]
            refine awp_len 115 rfl (fun hlc => ?_)
            simp only [List.length_map] at hlc
            have key : ∀ c ∈ d.cons, c.args.length ≤ 400 ∧ PCall Try.prog 29 [t.enc, eRR (narrows c.name c.args.length rows), eR (List.replicate c.args.length Pat.any ++ x)] (.v (.bool (t.usefulF fu (narrows c.name c.args.length rows) (List.replicate c.args.length Pat.any ++ x)))) := fun c hc => by
              obtain ⟨k1, k2⟩ := hty.con hT0 hwt hd hc
              have k3 := narrows_wt_lt c.name c.args.length rows (fun p hp => (k2 p hp).2) (hall c hc)
              have k4 := hty.narrows c.name
              have ha := HasTyL.anys (t := t) (tys := f c.name)
              rw [k1] at k4 ha
              refine ⟨?_, ih (narrows c.name c.args.length rows) _ (f c.name ++ tys) (by rw [wtL_append, wtL_any, List.length_append, List.length_replicate]; omega) k4 (ha.append hx) (hw.con hd hc) (hs.narrows _ _) hsl.tail.anys (by omega)⟩
              obtain ⟨q, hq, hn⟩ := hall c hc
              rw [← (k2 q hq).2 hn]
              obtain ⟨_, x, hx⟩ := mem_firsts.1 hq
              exact hs.args _ hx q (by simp)
            first | refine awp_block (awp_loop (ι := {k : Nat // k ≤ d.cons.length ∧ (d.cons.any fun c => t.usefulF fu (narrows c.name c.args.length rows) (List.replicate c.args.length Pat.any ++ x)) = ((d.cons.drop k).any fun c => t.usefulF fu (narrows c.name c.args.length rows) (List.replicate c.args.length Pat.any ++ x))}) (fun k => ⟨138, [(1, eRR rows), (2, eR (p :: x)), (3, .mp 0 0), (115, eC d.cons), (116, aI d.cons.length), (117, aI k.1)], [.cells [.lst 3 (t.datas.map Data.enc) .sh, .im .str (t.cons.map entry)], .cells [.v (.int .i64 Pat.any.kind), .v (.string Pat.any.name), .v (.int .i64 Pat.any.n), .lst 4 (Pat.any.args.map Pat.enc) .sh]]⟩) (fun k => d.cons.length - k.1) ⟨0, by omega, rfl⟩ ?_ ?_) | refine awp_seq (awp_block (awp_loop (ι := {k : Nat // k ≤ d.cons.length ∧ (d.cons.any fun c => t.usefulF fu (narrows c.name c.args.length rows) (List.replicate c.args.length Pat.any ++ x)) = ((d.cons.drop k).any fun c => t.usefulF fu (narrows c.name c.args.length rows) (List.replicate c.args.length Pat.any ++ x))}) (fun k => ⟨138, [(1, eRR rows), (2, eR (p :: x)), (3, .mp 0 0), (115, eC d.cons), (116, aI d.cons.length), (117, aI k.1)], [.cells [.lst 3 (t.datas.map Data.enc) .sh, .im .str (t.cons.map entry)], .cells [.v (.int .i64 Pat.any.kind), .v (.string Pat.any.name), .v (.int .i64 Pat.any.n), .lst 4 (Pat.any.args.map Pat.enc) .sh]]⟩) (fun k => d.cons.length - k.1) ⟨0, by omega, rfl⟩ ?_ ?_))
            · refine ⟨rfl, ?_, ?_⟩
              rotate_left
              simp -dsimp only [↓vpre, vpos, Int.reduceNeg, Int.reduceLE, Int.reduceLT, reduceIte, Nat.reduceEqDiff, Nat.reduceLT, Nat.reduceLeDiff, Nat.reduceAdd, Nat.reduceMul, Nat.reduceSub, Nat.reducePow, ne_eq, Int.reduceAdd, Int.reduceSub, Int.reduceMul, Int.reduceToNat, implies_true, vtab, Says, exists_eq_left', Option.some.injEq, sub_self, and_assoc, true_and, and_true]
              rfl
            · rintro ⟨k, hkl, he⟩
              first | refine awp_seq (awp_region hT hm ?_) | refine awp_region hT hm ?_ | refine awp_seq (awp_seq (awp_region hT hm ?_)) | refine awp_seq (awp_seq (awp_seq (awp_region hT hm ?_)))
              simp -dsimp only [↓vpre, vpos, Int.reduceNeg, Int.reduceLE, Int.reduceLT, reduceIte, Nat.reduceEqDiff, Nat.reduceLT, Nat.reduceLeDiff, Nat.reduceAdd, Nat.reduceMul, Nat.reduceSub, Nat.reducePow, ne_eq, Int.reduceAdd, Int.reduceSub, Int.reduceMul, Int.reduceToNat, implies_true, vtab]
              refine at_intro ?_
              simp -dsimp only [vend, ne_eq, Nat.reduceEqDiff, reduceCtorEq]
              first | refine awp_seq (awp_cond rfl (fun h => ?_) (fun h => ?_)) | refine awp_cond rfl (fun h => ?_) (fun h => ?_) | refine awp_seq (awp_seq (awp_cond rfl (fun h => ?_) (fun h => ?_)))
              · refine awp_skip ?_
                simp -dsimp only [vend, ne_eq, Nat.reduceEqDiff, reduceCtorEq]
                have hlt : k < d.cons.length := by simpa using h
                obtain ⟨c, hc⟩ : ∃ c : Con, d.cons[k]? = some c := ⟨d.cons[k], by simp [hlt]⟩
                have hdrop : d.cons.drop k = c :: d.cons.drop (k + 1) := by
                  rw [List.drop_eq_getElem_cons hlt]
                  rw [List.getElem?_eq_getElem hlt] at hc
                  simp only [Option.some.injEq] at hc
                  rw [hc]
                rw [hdrop, List.any_cons] at he
                obtain ⟨h400, hcall⟩ := key c (List.mem_of_getElem? hc)
                first | refine awp_seq (awp_block ?_) | refine awp_block ?_
                first | refine awp_seq (awp_region hT hm ?_) | refine awp_region hT hm ?_ | refine awp_seq (awp_seq (awp_region hT hm ?_)) | refine awp_seq (awp_seq (awp_seq (awp_region hT hm ?_)))
                simp -dsimp only [↓vpre, vpos, Int.reduceNeg, Int.reduceLE, Int.reduceLT, reduceIte, Nat.reduceEqDiff, Nat.reduceLT, Nat.reduceLeDiff, Nat.reduceAdd, Nat.reduceMul, Nat.reduceSub, Nat.reducePow, ne_eq, Int.reduceAdd, Int.reduceSub, Int.reduceMul, Int.reduceToNat, implies_true, vtab, hc]
                refine at_intro ?_
                simp -dsimp only [vend, ne_eq, Nat.reduceEqDiff, reduceCtorEq]
                first | refine awp_seq (awp_region hT hm ?_) | refine awp_region hT hm ?_ | refine awp_seq (awp_seq (awp_region hT hm ?_)) | refine awp_seq (awp_seq (awp_seq (awp_region hT hm ?_)))
                simp -dsimp only [↓vpre, vpos, Int.reduceNeg, Int.reduceLE, Int.reduceLT, reduceIte, Nat.reduceEqDiff, Nat.reduceLT, Nat.reduceLeDiff, Nat.reduceAdd, Nat.reduceMul, Nat.reduceSub, Nat.reducePow, ne_eq, Int.reduceAdd, Int.reduceSub, Int.reduceMul, Int.reduceToNat, implies_true, vtab]
                refine at_intro ?_
                simp -dsimp only [vend, ne_eq, Nat.reduceEqDiff, reduceCtorEq]
                first | refine awp_seq (awp_region hT hm ?_) | refine awp_region hT hm ?_ | refine awp_seq (awp_seq (awp_region hT hm ?_)) | refine awp_seq (awp_seq (awp_seq (awp_region hT hm ?_)))
                simp -dsimp only [↓vpre, vpos, Int.reduceNeg, Int.reduceLE, Int.reduceLT, reduceIte, Nat.reduceEqDiff, Nat.reduceLT, Nat.reduceLeDiff, Nat.reduceAdd, Nat.reduceMul, Nat.reduceSub, Nat.reducePow, ne_eq, Int.reduceAdd, Int.reduceSub, Int.reduceMul, Int.reduceToNat, implies_true, vtab, List.take_length, List.drop_one, List.tail_cons]
                refine .inl ⟨_, (narrow_spec rows c.name c.args.length (by omega) (by omega) (fun r hr => (hty.ne r hr).1) (fun r hr => by have := (hty.ne r hr).2; omega) (fun r hr p hp => by have := hs.args r hr p hp; omega)), by first | (simp only [uptoL, AVal.upto, and_true, true_and, and_self, Pat.enc_upto, Pat.map_upto, any_upto, rows_upto, Con.enc_upto, Con.map_upto, Data.enc_upto, Data.map_upto, Tbl.enc_upto, entry_upto]; done) | (simp [uptoL, AVal.upto, Pat.enc_upto, Pat.map_upto, any_upto, rows_upto, Con.enc_upto, Con.map_upto, Data.enc_upto, Data.map_upto, Tbl.enc_upto, entry_upto]; done), later_intro ?_⟩
                simp -dsimp only [↓vpre, vpos, Int.reduceNeg, Int.reduceLE, Int.reduceLT, reduceIte, Nat.reduceEqDiff, Nat.reduceLT, Nat.reduceLeDiff, Nat.reduceAdd, Nat.reduceMul, Nat.reduceSub, Nat.reducePow, ne_eq, Int.reduceAdd, Int.reduceSub, Int.reduceMul, Int.reduceToNat, implies_true, vtab, List.take_length, List.drop_one, List.tail_cons]
                refine .inl ⟨_, (anys_spec c.args.length (by omega)), by first | (simp only [uptoL, AVal.upto, and_true, true_and, and_self, Pat.enc_upto, Pat.map_upto, any_upto, rows_upto, Con.enc_upto, Con.map_upto, Data.enc_upto, Data.map_upto, Tbl.enc_upto, entry_upto]; done) | (simp [uptoL, AVal.upto, Pat.enc_upto, Pat.map_upto, any_upto, rows_upto, Con.enc_upto, Con.map_upto, Data.enc_upto, Data.map_upto, Tbl.enc_upto, entry_upto]; done), later_intro ?_⟩
                simp -dsimp only [↓vpre, vpos, Int.reduceNeg, Int.reduceLE, Int.reduceLT, reduceIte, Nat.reduceEqDiff, Nat.reduceLT, Nat.reduceLeDiff, Nat.reduceAdd, Nat.reduceMul, Nat.reduceSub, Nat.reducePow, ne_eq, Int.reduceAdd, Int.reduceSub, Int.reduceMul, Int.reduceToNat, implies_true, vtab, List.take_length, List.drop_one, List.tail_cons]
                refine .inl ⟨_, (concat_spec [List.replicate c.args.length Pat.any, x] (by simp) (by simp [total]; omega)), by first | (simp only [uptoL, AVal.upto, and_true, true_and, and_self, Pat.enc_upto, Pat.map_upto, any_upto, rows_upto, Con.enc_upto, Con.map_upto, Data.enc_upto, Data.map_upto, Tbl.enc_upto, entry_upto]; done) | (simp [uptoL, AVal.upto, Pat.enc_upto, Pat.map_upto, any_upto, rows_upto, Con.enc_upto, Con.map_upto, Data.enc_upto, Data.map_upto, Tbl.enc_upto, entry_upto]; done), later_intro ?_⟩
                simp -dsimp only [↓vpre, vpos, Int.reduceNeg, Int.reduceLE, Int.reduceLT, reduceIte, Nat.reduceEqDiff, Nat.reduceLT, Nat.reduceLeDiff, Nat.reduceAdd, Nat.reduceMul, Nat.reduceSub, Nat.reducePow, ne_eq, Int.reduceAdd, Int.reduceSub, Int.reduceMul, Int.reduceToNat, implies_true, vtab, List.flatten_cons, List.flatten_nil, List.append_nil]
                repeat (refine ⟨by omega, ?_⟩)
                refine .inl ⟨_, hcall, by first | (simp only [uptoL, AVal.upto, and_true, true_and, and_self, Pat.enc_upto, Pat.map_upto, any_upto, rows_upto, Con.enc_upto, Con.map_upto, Data.enc_upto, Data.map_upto, Tbl.enc_upto, entry_upto]; done) | (simp [uptoL, AVal.upto, Pat.enc_upto, Pat.map_upto, any_upto, rows_upto, Con.enc_upto, Con.map_upto, Data.enc_upto, Data.map_upto, Tbl.enc_upto, entry_upto]; done), later_intro ?_⟩
                simp -dsimp only [↓vpre, vpos, Int.reduceNeg, Int.reduceLE, Int.reduceLT, reduceIte, Nat.reduceEqDiff, Nat.reduceLT, Nat.reduceLeDiff, Nat.reduceAdd, Nat.reduceMul, Nat.reduceSub, Nat.reducePow, ne_eq, Int.reduceAdd, Int.reduceSub, Int.reduceMul, Int.reduceToNat, implies_true, vtab]
                repeat (refine ⟨by omega, ?_⟩)
                refine ⟨by (show orderB _ _ = true); kernel_rfl, ?_⟩
                refine at_intro ?_
                simp -dsimp only [vend, ne_eq, Nat.reduceEqDiff, reduceCtorEq]
                first | refine awp_seq (awp_cond rfl (fun h => ?_) (fun h => ?_)) | refine awp_cond rfl (fun h => ?_) (fun h => ?_) | refine awp_seq (awp_seq (awp_cond rfl (fun h => ?_) (fun h => ?_)))
                · have hu : t.usefulF fu (narrows c.name c.args.length rows) (List.replicate c.args.length Pat.any ++ x) = true := h
                  rw [hu, Bool.true_or] at he
                  first | refine awp_seq (awp_region hT hm ?_) | refine awp_region hT hm ?_ | refine awp_seq (awp_seq (awp_region hT hm ?_)) | refine awp_seq (awp_seq (awp_seq (awp_region hT hm ?_)))
                  simp -dsimp only [↓vpre, vpos, Int.reduceNeg, Int.reduceLE, Int.reduceLT, reduceIte, Nat.reduceEqDiff, Nat.reduceLT, Nat.reduceLeDiff, Nat.reduceAdd, Nat.reduceMul, Nat.reduceSub, Nat.reducePow, ne_eq, Int.reduceAdd, Int.reduceSub, Int.reduceMul, Int.reduceToNat, implies_true, vtab]
                  refine at_intro ?_
                  simp -dsimp only [vend, ne_eq, Nat.reduceEqDiff, reduceCtorEq]
                  refine awp_ret ?_
                  simp -dsimp only [↓vpre, vpos, Int.reduceNeg, Int.reduceLE, Int.reduceLT, reduceIte, Nat.reduceEqDiff, Nat.reduceLT, Nat.reduceLeDiff, Nat.reduceAdd, Nat.reduceMul, Nat.reduceSub, Nat.reducePow, ne_eq, Int.reduceAdd, Int.reduceSub, Int.reduceMul, Int.reduceToNat, implies_true, vtab, RetTo, Try.results29, retVals, retVal, mkRet, AVal.upto, Nat.zero_le, Nat.le_refl, seqPost_ret, blockPost_ret, loopPost_ret]
                  rw [he]
                · have hu : t.usefulF fu (narrows c.name c.args.length rows) (List.replicate c.args.length Pat.any ++ x) = false := h
                  rw [hu, Bool.false_or] at he
                  refine awp_skip ?_
                  simp -dsimp only [vend, ne_eq, Nat.reduceEqDiff, reduceCtorEq]
                  refine awp_trunc' 2 [(1, eRR rows), (2, eR (p :: x)), (3, .mp 0 0), (115, eC d.cons), (116, aI d.cons.length), (117, aI k)] (by first | omega | (simp; done) | (simp; omega)) (by first | omega | (simp; done) | (simp; omega)) [.cells [.lst 3 (t.datas.map Data.enc) .sh, .im .str (t.cons.map entry)], .cells [.v (.int .i64 Pat.any.kind), .v (.string Pat.any.name), .v (.int .i64 Pat.any.n), .lst 4 (Pat.any.args.map Pat.enc) .sh]] ?_ ?_ ?_ ?_ ?_
                  · rfl
                  · simp [AObj.upto, uptoL, AVal.upto, Data.map_upto, entry_upto, Pat.map_upto]
                  · simp -dsimp only [↓vpre, vpos, Int.reduceNeg, Int.reduceLE, Int.reduceLT, reduceIte, Nat.reduceEqDiff, Nat.reduceLT, Nat.reduceLeDiff, Nat.reduceAdd, Nat.reduceMul, Nat.reduceSub, Nat.reducePow, ne_eq, Int.reduceAdd, Int.reduceSub, Int.reduceMul, Int.reduceToNat, implies_true, vtab, Says, exists_eq_left', Option.some.injEq, sub_self, and_true]
                  · simp [AVal.upto, uptoL, rows_upto, Con.map_upto, Pat.map_upto, Pat.enc_upto]
                  · first | refine awp_seq (awp_region hT hm ?_) | refine awp_region hT hm ?_ | refine awp_seq (awp_seq (awp_region hT hm ?_)) | refine awp_seq (awp_seq (awp_seq (awp_region hT hm ?_)))
                    simp -dsimp only [↓vpre, vpos, Int.reduceNeg, Int.reduceLE, Int.reduceLT, reduceIte, Nat.reduceEqDiff, Nat.reduceLT, Nat.reduceLeDiff, Nat.reduceAdd, Nat.reduceMul, Nat.reduceSub, Nat.reducePow, ne_eq, Int.reduceAdd, Int.reduceSub, Int.reduceMul, Int.reduceToNat, implies_true, vtab]
                    repeat (refine ⟨by omega, ?_⟩)
                    refine at_intro ?_
                    simp -dsimp only [vend, ne_eq, Nat.reduceEqDiff, reduceCtorEq]
                    refine ⟨⟨k + 1, hlt, he⟩, by simp; omega, ?_⟩
                    refine ⟨rfl, ?_, ?_⟩
                    rotate_left
                    simp -dsimp only [↓vpre, vpos, Int.reduceNeg, Int.reduceLE, Int.reduceLT, reduceIte, Nat.reduceEqDiff, Nat.reduceLT, Nat.reduceLeDiff, Nat.reduceAdd, Nat.reduceMul, Nat.reduceSub, Nat.reducePow, ne_eq, Int.reduceAdd, Int.reduceSub, Int.reduceMul, Int.reduceToNat, implies_true, vtab, Says, exists_eq_left', Option.some.injEq, sub_self, and_assoc, true_and, and_true]
                    · exact Sub.int (by simp)
                    · rfl
              · refine awp_exit ?_
                simp -dsimp only [vend, ne_eq, Nat.reduceEqDiff, reduceCtorEq]
                have hkk : k = d.cons.length := by simp at h; omega
                subst hkk
                rw [List.drop_length] at he
                first | refine awp_seq (awp_region hT hm ?_) | refine awp_region hT hm ?_ | refine awp_seq (awp_seq (awp_region hT hm ?_)) | refine awp_seq (awp_seq (awp_seq (awp_region hT hm ?_)))
                simp -dsimp only [↓vpre, vpos, Int.reduceNeg, Int.reduceLE, Int.reduceLT, reduceIte, Nat.reduceEqDiff, Nat.reduceLT, Nat.reduceLeDiff, Nat.reduceAdd, Nat.reduceMul, Nat.reduceSub, Nat.reducePow, ne_eq, Int.reduceAdd, Int.reduceSub, Int.reduceMul, Int.reduceToNat, implies_true, vtab]
                refine at_intro ?_
                simp -dsimp only [vend, ne_eq, Nat.reduceEqDiff, reduceCtorEq]
                refine awp_ret ?_
                simp -dsimp only [↓vpre, vpos, Int.reduceNeg, Int.reduceLE, Int.reduceLT, reduceIte, Nat.reduceEqDiff, Nat.reduceLT, Nat.reduceLeDiff, Nat.reduceAdd, Nat.reduceMul, Nat.reduceSub, Nat.reducePow, ne_eq, Int.reduceAdd, Int.reduceSub, Int.reduceMul, Int.reduceToNat, implies_true, vtab, RetTo, Try.results29, retVals, retVal, mkRet, AVal.upto, Nat.zero_le, Nat.le_refl, seqPost_ret, blockPost_ret, loopPost_ret]
                rw [he]
                rfl

theorem useful_spec {t : Tbl} (hT0 : TblOK t) (hF : FitD t.datas) : ∀ fu : Nat, UsefulOK t fu
  | 0, rows, row, tys, h, _, _, _, _, _, _ => by omega
  | fu + 1, rows, [], _, _, _, _, _, _, _, _ => useful_nil fu rows
  | fu + 1, rows, p :: x, tys0, h1, h2, h3, h4, h5, h6, h7 => by
    simp only [HasTyL] at h3
    obtain ⟨ty, tys, rfl, hp, hx⟩ := h3
    by_cases hk3 : p.kind = 3
    · exact useful_con hT0 fu (useful_spec hT0 hF fu) rows p x ty tys h1 h2 hp hx h4 h5 h6 h7 hk3
    · by_cases hk2 : p.kind = 2
      · exact useful_int fu (useful_spec hT0 hF fu) rows p x ty tys h1 h2 hx h4 h5 h6 h7 hk2
      · exact useful_free hT0 hF fu (useful_spec hT0 hF fu) rows p x ty tys h1 h2 hx h4 h5 h6 h7 hk3 hk2

end Go.Proofs.Ytakdmelemfnmdaa
end

section
set_option linter.unusedSimpArgs false
set_option linter.unusedVariables false
set_option maxHeartbeats 1000000
set_option maxRecDepth 100000
-- !tab vtab
-- !upto Pat.enc_upto Pat.map_upto any_upto rows_upto Con.enc_upto Con.map_upto Data.enc_upto Data.map_upto Tbl.enc_upto entry_upto
namespace Go.Proofs.Ytakdmelemfnmdaa
open Go.Av

/-- The n-th fields of the patterns of a constructor. -/
def below (l : List Pat) (s : ByteArray) (n : Nat) : List Pat := (l.filter fun q => decide (q.name = s)).map fun q => q.args.getD n Pat.any

def bare (l : List Pat) : List Pat := l.filter fun p => !p.free

def Tbl.agreeF (t : Tbl) : Nat → List Pat → Bool
  | 0, _ => false
  | f + 1, l0 => ((bare l0).all fun p => decide (t.kind p = t.kind ((bare l0).headD Pat.any))) &&
      (List.range (bare l0).length).all fun k => match (bare l0)[k]? with
        | none => true
        | some p => ((bare l0).take k).any (fun q => decide (q.name = p.name)) || decide (p.kind ≠ 3) || (List.range p.args.length).all fun n => t.agreeF f (below (bare l0) p.name n)

theorem row_share (l : List Pat) : (cellsAll (l.map Pat.enc)).map AVal.shareCell = cellsAll (l.map Pat.enc) := by
  induction l with
  | nil => rfl
  | cons p l ih =>
    simp only [List.map_cons, cellsAll, List.flatMap_cons, List.map_append] at ih ⊢
    rw [ih, Pat.enc_cells]
    rfl

theorem patternL_zero (t : Tbl) : ∀ {l : List Pat}, t.patternL l = 0 ↔ ∀ a ∈ l, t.pattern a = 0
  | [] => by simp [Tbl.patternL]
  | p :: r => by
    rw [Tbl.patternL]
    have ih := patternL_zero t (l := r)
    by_cases h : t.pattern p = 0
    · rw [if_pos h, ih]
      simp [h]
    · rw [if_neg h]
      simp [h]

theorem pat_con {t : Tbl} {p : Pat} (h : t.pattern p = 0) (h3 : p.kind = 3) : ∃ k0, find t.cons p.name = some k0 ∧ p.args.length = k0.many ∧ ∀ a ∈ p.args, t.pattern a = 0 := by
  rw [Tbl.pattern_eq, if_neg (by omega), if_neg (by omega), if_neg (by omega), if_pos h3] at h
  cases hf : find t.cons p.name with
  | none =>
    rw [hf] at h
    simp at h
  | some k0 =>
    rw [hf] at h
    simp only at h
    by_cases hl : p.args.length = k0.many
    · rw [if_pos hl, patternL_zero] at h
      exact ⟨k0, rfl, hl, h⟩
    · rw [if_neg hl] at h
      simp at h

theorem kind3 {t : Tbl} {p q : Pat} (h : t.kind q = t.kind p) (h3 : p.kind = 3) : q.kind = 3 := by
  unfold Tbl.kind at h
  rw [if_neg (show ¬ p.kind = 2 by omega), if_pos h3] at h
  split at h
  · omega
  · split at h
    · assumption
    · omega

theorem nodes_below {l : List Pat} {s : ByteArray} {n : Nat} (h : ∀ q ∈ l, q.name = s → n < q.args.length) : nodesL (below l s n) + (below l s n).length ≤ nodesL l := by
  induction l with
  | nil => simp [below, nodesL]
  | cons q r ih =>
    have ih := ih fun x hx => h x (by simp [hx])
    simp only [below] at ih ⊢
    rw [List.filter_cons]
    by_cases hq : q.name = s
    · rw [if_pos (by simpa using hq)]
      have hn := h q (by simp) hq
      have hm : q.args.getD n Pat.any ∈ q.args := by
        rw [List.getD_eq_getElem?_getD, List.getElem?_eq_getElem hn]
        exact List.getElem_mem hn
      have h1 := nodesL_mem hm
      have h2 := q.nodes_eq
      simp only [List.map_cons, nodesL, List.length_cons]
      omega
    · rw [if_neg (by simpa using hq)]
      simp only [nodesL]
      omega

theorem bare_nodes : ∀ l : List Pat, nodesL (bare l) ≤ nodesL l
  | [] => Nat.le_refl _
  | p :: r => by
    have ih := bare_nodes r
    simp only [bare] at ih ⊢
    rw [List.filter_cons]
    split
    · simp only [nodesL]
      omega
    · simp only [nodesL]
      omega

theorem below_take {l : List Pat} {j : Nat} {q : Pat} (h : l[j]? = some q) (s : ByteArray) (n : Nat) : below (l.take (j + 1)) s n = if q.name = s then below (l.take j) s n ++ [q.args.getD n Pat.any] else below (l.take j) s n := by
  rw [take_next h, below, List.filter_append, List.map_append]
  by_cases hq : q.name = s
  · rw [if_pos hq]
    simp [below, hq]
  · rw [if_neg hq]
    simp [below, hq]

/-- What the second loop asks of a place. -/
def Tbl.agreeAt (t : Tbl) (f : Nat) (l : List Pat) (k : Nat) : Bool := match l[k]? with
  | none => true
  | some p => (l.take k).any (fun q => decide (q.name = p.name)) || decide (p.kind ≠ 3) || (List.range p.args.length).all fun n => t.agreeF f (below l p.name n)

def AgreeOK (t : Tbl) (fu : Nat) : Prop := ∀ l : List Pat, nodesL l < fu → l ≠ [] → l.length ≤ 2 ^ 30 → (∀ p ∈ l, t.pattern p = 0) → PCall Try.prog 41 [t.enc, eR l] (.v (.bool (t.agreeF fu l)))

theorem agree_step (t : Tbl) (fu : Nat) (ih : AgreeOK t fu) (l0 : List Pat) (hfu : nodesL l0 < fu + 1) (hne : l0 ≠ []) (hb : l0.length ≤ 2 ^ 30) (hok : ∀ p ∈ l0, t.pattern p = 0) : PCall Try.prog 41 [t.enc, eR l0] (.v (.bool (t.agreeF (fu + 1) l0))) := by
    obtain ⟨l, hl⟩ : ∃ l, l = bare l0 := ⟨_, rfl⟩
    rw [Tbl.agreeF, ← hl]
    refine ecall_of hT true 0 Try.func41 rfl (by kernel_rfl) (by simp [Try.ntmps41]) (by simp) ?_
    show AWP Try.prog _ _ _ ⟨79, _, _⟩
    dsimp only [Tmp, TypeId, slotsOf]
    first | refine awp_seq (awp_region hT hm ?_) | refine awp_region hT hm ?_ | refine awp_seq (awp_seq (awp_region hT hm ?_)) | refine awp_seq (awp_seq (awp_seq (awp_region hT hm ?_)))
    simp -dsimp only [↓vpre, vpos, Int.reduceNeg, Int.reduceLE, Int.reduceLT, reduceIte, Nat.reduceEqDiff, Nat.reduceLT, Nat.reduceLeDiff, Nat.reduceAdd, Nat.reduceMul, Nat.reduceSub, Nat.reducePow, ne_eq, Int.reduceAdd, Int.reduceSub, Int.reduceMul, Int.reduceToNat, implies_true, vtab]
    refine at_intro ?_
    simp -dsimp only [vend, ne_eq, Nat.reduceEqDiff, reduceCtorEq]
    first | refine awp_seq (awp_region hT hm ?_) | refine awp_region hT hm ?_ | refine awp_seq (awp_seq (awp_region hT hm ?_)) | refine awp_seq (awp_seq (awp_seq (awp_region hT hm ?_)))
    simp -dsimp only [↓vpre, vpos, Int.reduceNeg, Int.reduceLE, Int.reduceLT, reduceIte, Nat.reduceEqDiff, Nat.reduceLT, Nat.reduceLeDiff, Nat.reduceAdd, Nat.reduceMul, Nat.reduceSub, Nat.reducePow, ne_eq, Int.reduceAdd, Int.reduceSub, Int.reduceMul, Int.reduceToNat, implies_true, vtab]
    refine .inr (.inl ⟨_, _, (clone_spec l0 hne hb [.cells [.lst 3 (t.datas.map Data.enc) .sh, .im .str (t.cons.map entry)]] (by simp [AObj.upto, uptoL, AVal.upto, Data.map_upto, entry_upto])), later_intro ?_⟩)
    simp -dsimp only [↓vpre, vpos, Int.reduceNeg, Int.reduceLE, Int.reduceLT, reduceIte, Nat.reduceEqDiff, Nat.reduceLT, Nat.reduceLeDiff, Nat.reduceAdd, Nat.reduceMul, Nat.reduceSub, Nat.reducePow, ne_eq, Int.reduceAdd, Int.reduceSub, Int.reduceMul, Int.reduceToNat, implies_true, vtab]
    refine .inr (.inl ⟨_, _, (deleteFunc_spec Pat.free 48 free_spec [.cells [.lst 3 (t.datas.map Data.enc) .sh, .im .str (t.cons.map entry)], .cells (cellsAll (l0.map Pat.enc))] (by simp [AObj.upto, uptoL, AVal.upto, Data.map_upto, entry_upto, Pat.cells_upto]) 1 l0 hb rfl), later_intro ?_⟩)
    simp -dsimp only [↓vpre, vpos, Int.reduceNeg, Int.reduceLE, Int.reduceLT, reduceIte, Nat.reduceEqDiff, Nat.reduceLT, Nat.reduceLeDiff, Nat.reduceAdd, Nat.reduceMul, Nat.reduceSub, Nat.reducePow, ne_eq, Int.reduceAdd, Int.reduceSub, Int.reduceMul, Int.reduceToNat, implies_true, vtab]
    refine at_intro ?_
    simp -dsimp only [vend, ne_eq, Nat.reduceEqDiff, reduceCtorEq]
    refine awp_freeze 1 rfl (by simp [AObj.isSpare]) trivial [(1, eR l), (2, .mp 0 0)] ?_ ?_
    · intro s y hy
      simp only [Go.Av.look] at hy
      split at hy
      · cases hy
        rename_i e
        subst e
        refine ⟨_, rfl, FSub.ms (sz := 4) rfl ?_ ?_ ?_⟩
        · simp [Pat.enc_cells]
        · rw [hl, List.length_map]
          rfl
        · rw [List.drop_zero, delCells, List.take_append_of_le_length (by rw [Pat.row_len]; exact Nat.le_refl _), List.take_of_length_le (by rw [Pat.row_len]; exact Nat.le_refl _), row_share, hl]
          rfl
      · split at hy
        · cases hy
          rename_i e
          subst e
          exact ⟨_, rfl, .refl _⟩
        · cases hy
    · refine awp_trunc' 1 [(1, eR l), (2, .mp 0 0)] (by first | omega | (simp; done) | (simp; omega)) (by first | omega | (simp; done) | (simp; omega)) [.cells [.lst 3 (t.datas.map Data.enc) .sh, .im .str (t.cons.map entry)]] ?_ ?_ ?_ ?_ ?_
      · rfl
      · simp [AObj.upto, uptoL, AVal.upto, Data.map_upto, entry_upto]
      · simp -dsimp only [↓vpre, vpos, Int.reduceNeg, Int.reduceLE, Int.reduceLT, reduceIte, Nat.reduceEqDiff, Nat.reduceLT, Nat.reduceLeDiff, Nat.reduceAdd, Nat.reduceMul, Nat.reduceSub, Nat.reducePow, ne_eq, Int.reduceAdd, Int.reduceSub, Int.reduceMul, Int.reduceToNat, implies_true, vtab, Says, exists_eq_left', Option.some.injEq, sub_self, and_true]
      · simp [AVal.upto, uptoL, Pat.map_upto]
      · refine awp_len 1 rfl (fun hlen => ?_)
        simp only [List.length_map] at hlen
        first | refine awp_seq (awp_region hT hm ?_) | refine awp_region hT hm ?_ | refine awp_seq (awp_seq (awp_region hT hm ?_)) | refine awp_seq (awp_seq (awp_seq (awp_region hT hm ?_)))
        simp -dsimp only [↓vpre, vpos, Int.reduceNeg, Int.reduceLE, Int.reduceLT, reduceIte, Nat.reduceEqDiff, Nat.reduceLT, Nat.reduceLeDiff, Nat.reduceAdd, Nat.reduceMul, Nat.reduceSub, Nat.reducePow, ne_eq, Int.reduceAdd, Int.reduceSub, Int.reduceMul, Int.reduceToNat, implies_true, vtab]
        refine at_intro ?_
        simp -dsimp only [vend, ne_eq, Nat.reduceEqDiff, reduceCtorEq]
        obtain ⟨B2, hB2⟩ : ∃ B2, B2 = (List.range l.length).all (t.agreeAt fu l) := ⟨_, rfl⟩
        have hB2' : ((List.range l.length).all fun k => match l[k]? with
          | none => true
          | some p => (l.take k).any (fun q => decide (q.name = p.name)) || decide (p.kind ≠ 3) || (List.range p.args.length).all fun n => t.agreeF fu (below l p.name n)) = B2 := by
          rw [hB2]
          rfl
        rw [hB2']
        clear hB2'
        first | refine awp_block (awp_loop (ι := {k : Nat // k ≤ l.length ∧ (l.all fun p => decide (t.kind p = t.kind (l.headD Pat.any))) = ((l.drop k).all fun p => decide (t.kind p = t.kind (l.headD Pat.any)))}) (fun k => ⟨79, [(1, eR l), (2, .mp 0 0), (16, eR l), (17, aI l.length), (18, aI k.1)], [.cells [.lst 3 (t.datas.map Data.enc) .sh, .im .str (t.cons.map entry)]]⟩) (fun k => l.length - k.1) ⟨0, by omega, rfl⟩ ?_ ?_) | refine awp_seq (awp_block (awp_loop (ι := {k : Nat // k ≤ l.length ∧ (l.all fun p => decide (t.kind p = t.kind (l.headD Pat.any))) = ((l.drop k).all fun p => decide (t.kind p = t.kind (l.headD Pat.any)))}) (fun k => ⟨79, [(1, eR l), (2, .mp 0 0), (16, eR l), (17, aI l.length), (18, aI k.1)], [.cells [.lst 3 (t.datas.map Data.enc) .sh, .im .str (t.cons.map entry)]]⟩) (fun k => l.length - k.1) ⟨0, by omega, rfl⟩ ?_ ?_))
        · refine ⟨rfl, ?_, ?_⟩
          rotate_left
          simp -dsimp only [↓vpre, vpos, Int.reduceNeg, Int.reduceLE, Int.reduceLT, reduceIte, Nat.reduceEqDiff, Nat.reduceLT, Nat.reduceLeDiff, Nat.reduceAdd, Nat.reduceMul, Nat.reduceSub, Nat.reducePow, ne_eq, Int.reduceAdd, Int.reduceSub, Int.reduceMul, Int.reduceToNat, implies_true, vtab, Says, exists_eq_left', Option.some.injEq, sub_self, and_assoc, true_and, and_true]
          rfl
        · rintro ⟨k, hk, he⟩
          first | refine awp_seq (awp_region hT hm ?_) | refine awp_region hT hm ?_ | refine awp_seq (awp_seq (awp_region hT hm ?_)) | refine awp_seq (awp_seq (awp_seq (awp_region hT hm ?_)))
          simp -dsimp only [↓vpre, vpos, Int.reduceNeg, Int.reduceLE, Int.reduceLT, reduceIte, Nat.reduceEqDiff, Nat.reduceLT, Nat.reduceLeDiff, Nat.reduceAdd, Nat.reduceMul, Nat.reduceSub, Nat.reducePow, ne_eq, Int.reduceAdd, Int.reduceSub, Int.reduceMul, Int.reduceToNat, implies_true, vtab]
          refine at_intro ?_
          simp -dsimp only [vend, ne_eq, Nat.reduceEqDiff, reduceCtorEq]
          first | refine awp_seq (awp_cond rfl (fun h => ?_) (fun h => ?_)) | refine awp_cond rfl (fun h => ?_) (fun h => ?_) | refine awp_seq (awp_seq (awp_cond rfl (fun h => ?_) (fun h => ?_)))
          · refine awp_skip ?_
            simp -dsimp only [vend, ne_eq, Nat.reduceEqDiff, reduceCtorEq]
            have hlt : k < l.length := by simpa using h
            obtain ⟨p, hp⟩ : ∃ p, l[k]? = some p := ⟨l[k], by simp [hlt]⟩
            obtain ⟨p0, hp0⟩ : ∃ p, l[0]? = some p := ⟨l[0], by simp [show 0 < l.length by omega]⟩
            have hdrop : l.drop k = p :: l.drop (k + 1) := by
              rw [List.drop_eq_getElem_cons hlt]
              rw [List.getElem?_eq_getElem hlt] at hp
              simp only [Option.some.injEq] at hp
              rw [hp]
            have hhead : l.headD Pat.any = p0 := by
              cases hle : l with
              | nil => rw [hle] at hp0; cases hp0
              | cons q r => rw [hle] at hp0; cases hp0; rfl
            rw [hdrop, List.all_cons, hhead] at he
            first | refine awp_seq (awp_block ?_) | refine awp_block ?_
            first | refine awp_seq (awp_region hT hm ?_) | refine awp_region hT hm ?_ | refine awp_seq (awp_seq (awp_region hT hm ?_)) | refine awp_seq (awp_seq (awp_seq (awp_region hT hm ?_)))
            simp -dsimp only [↓vpre, vpos, Int.reduceNeg, Int.reduceLE, Int.reduceLT, reduceIte, Nat.reduceEqDiff, Nat.reduceLT, Nat.reduceLeDiff, Nat.reduceAdd, Nat.reduceMul, Nat.reduceSub, Nat.reducePow, ne_eq, Int.reduceAdd, Int.reduceSub, Int.reduceMul, Int.reduceToNat, implies_true, vtab, hp]
            refine at_intro ?_
            simp -dsimp only [vend, ne_eq, Nat.reduceEqDiff, reduceCtorEq]
            first | refine awp_seq (awp_region hT hm ?_) | refine awp_region hT hm ?_ | refine awp_seq (awp_seq (awp_region hT hm ?_)) | refine awp_seq (awp_seq (awp_seq (awp_region hT hm ?_)))
            simp -dsimp only [↓vpre, vpos, Int.reduceNeg, Int.reduceLE, Int.reduceLT, reduceIte, Nat.reduceEqDiff, Nat.reduceLT, Nat.reduceLeDiff, Nat.reduceAdd, Nat.reduceMul, Nat.reduceSub, Nat.reducePow, ne_eq, Int.reduceAdd, Int.reduceSub, Int.reduceMul, Int.reduceToNat, implies_true, vtab, hp0]
            refine .inl ⟨_, (kind_spec t p), by first | (simp only [uptoL, AVal.upto, and_true, true_and, and_self, Pat.enc_upto, Pat.map_upto, any_upto, rows_upto, Con.enc_upto, Con.map_upto, Data.enc_upto, Data.map_upto, Tbl.enc_upto, entry_upto]; done) | (simp [uptoL, AVal.upto, Pat.enc_upto, Pat.map_upto, any_upto, rows_upto, Con.enc_upto, Con.map_upto, Data.enc_upto, Data.map_upto, Tbl.enc_upto, entry_upto]; done), later_intro ?_⟩
            simp -dsimp only [↓vpre, vpos, Int.reduceNeg, Int.reduceLE, Int.reduceLT, reduceIte, Nat.reduceEqDiff, Nat.reduceLT, Nat.reduceLeDiff, Nat.reduceAdd, Nat.reduceMul, Nat.reduceSub, Nat.reducePow, ne_eq, Int.reduceAdd, Int.reduceSub, Int.reduceMul, Int.reduceToNat, implies_true, vtab, hp0]
            refine .inl ⟨_, (kind_spec t p0), by first | (simp only [uptoL, AVal.upto, and_true, true_and, and_self, Pat.enc_upto, Pat.map_upto, any_upto, rows_upto, Con.enc_upto, Con.map_upto, Data.enc_upto, Data.map_upto, Tbl.enc_upto, entry_upto]; done) | (simp [uptoL, AVal.upto, Pat.enc_upto, Pat.map_upto, any_upto, rows_upto, Con.enc_upto, Con.map_upto, Data.enc_upto, Data.map_upto, Tbl.enc_upto, entry_upto]; done), later_intro ?_⟩
            simp -dsimp only [↓vpre, vpos, Int.reduceNeg, Int.reduceLE, Int.reduceLT, reduceIte, Nat.reduceEqDiff, Nat.reduceLT, Nat.reduceLeDiff, Nat.reduceAdd, Nat.reduceMul, Nat.reduceSub, Nat.reducePow, ne_eq, Int.reduceAdd, Int.reduceSub, Int.reduceMul, Int.reduceToNat, implies_true, vtab]
            refine ⟨by (show orderB _ _ = true); kernel_rfl, ?_⟩
            refine at_intro ?_
            simp -dsimp only [vend, ne_eq, Nat.reduceEqDiff, reduceCtorEq]
            first | refine awp_seq (awp_cond rfl (fun h => ?_) (fun h => ?_)) | refine awp_cond rfl (fun h => ?_) (fun h => ?_) | refine awp_seq (awp_seq (awp_cond rfl (fun h => ?_) (fun h => ?_)))
            · have hkk : ¬ t.kind p = t.kind p0 := by simpa using h
              simp only [hkk, decide_false, Bool.false_and] at he
              first | refine awp_seq (awp_region hT hm ?_) | refine awp_region hT hm ?_ | refine awp_seq (awp_seq (awp_region hT hm ?_)) | refine awp_seq (awp_seq (awp_seq (awp_region hT hm ?_)))
              simp -dsimp only [↓vpre, vpos, Int.reduceNeg, Int.reduceLE, Int.reduceLT, reduceIte, Nat.reduceEqDiff, Nat.reduceLT, Nat.reduceLeDiff, Nat.reduceAdd, Nat.reduceMul, Nat.reduceSub, Nat.reducePow, ne_eq, Int.reduceAdd, Int.reduceSub, Int.reduceMul, Int.reduceToNat, implies_true, vtab]
              refine at_intro ?_
              simp -dsimp only [vend, ne_eq, Nat.reduceEqDiff, reduceCtorEq]
              refine awp_ret ?_
              simp -dsimp only [↓vpre, vpos, Int.reduceNeg, Int.reduceLE, Int.reduceLT, reduceIte, Nat.reduceEqDiff, Nat.reduceLT, Nat.reduceLeDiff, Nat.reduceAdd, Nat.reduceMul, Nat.reduceSub, Nat.reducePow, ne_eq, Int.reduceAdd, Int.reduceSub, Int.reduceMul, Int.reduceToNat, implies_true, vtab, RetTo, Try.results41, retVals, retVal, mkRet, AVal.upto, Nat.zero_le, Nat.le_refl, seqPost_ret, blockPost_ret, loopPost_ret]
              rw [hhead, he]
              simp
            · have hkk : t.kind p = t.kind p0 := by simpa using h
              simp only [hkk, decide_true, Bool.true_and] at he
              refine awp_skip ?_
              simp -dsimp only [vend, ne_eq, Nat.reduceEqDiff, reduceCtorEq]
              refine awp_trunc' 1 [(1, eR l), (2, .mp 0 0), (16, eR l), (17, aI l.length), (18, aI k)] (by first | omega | (simp; done) | (simp; omega)) (by first | omega | (simp; done) | (simp; omega)) [.cells [.lst 3 (t.datas.map Data.enc) .sh, .im .str (t.cons.map entry)]] ?_ ?_ ?_ ?_ ?_
              · rfl
              · simp [AObj.upto, uptoL, AVal.upto, Data.map_upto, entry_upto]
              · simp -dsimp only [↓vpre, vpos, Int.reduceNeg, Int.reduceLE, Int.reduceLT, reduceIte, Nat.reduceEqDiff, Nat.reduceLT, Nat.reduceLeDiff, Nat.reduceAdd, Nat.reduceMul, Nat.reduceSub, Nat.reducePow, ne_eq, Int.reduceAdd, Int.reduceSub, Int.reduceMul, Int.reduceToNat, implies_true, vtab, Says, exists_eq_left', Option.some.injEq, sub_self, and_true]
              · simp [AVal.upto, uptoL, Pat.map_upto]
              · first | refine awp_seq (awp_region hT hm ?_) | refine awp_region hT hm ?_ | refine awp_seq (awp_seq (awp_region hT hm ?_)) | refine awp_seq (awp_seq (awp_seq (awp_region hT hm ?_)))
                simp -dsimp only [↓vpre, vpos, Int.reduceNeg, Int.reduceLE, Int.reduceLT, reduceIte, Nat.reduceEqDiff, Nat.reduceLT, Nat.reduceLeDiff, Nat.reduceAdd, Nat.reduceMul, Nat.reduceSub, Nat.reducePow, ne_eq, Int.reduceAdd, Int.reduceSub, Int.reduceMul, Int.reduceToNat, implies_true, vtab]
                repeat (refine ⟨by omega, ?_⟩)
                refine at_intro ?_
                simp -dsimp only [vend, ne_eq, Nat.reduceEqDiff, reduceCtorEq]
                refine ⟨⟨k + 1, hlt, ?_⟩, by simp; omega, ?_⟩
                · rw [hhead]
                  exact he
                refine ⟨rfl, ?_, ?_⟩
                rotate_left
                simp -dsimp only [↓vpre, vpos, Int.reduceNeg, Int.reduceLE, Int.reduceLT, reduceIte, Nat.reduceEqDiff, Nat.reduceLT, Nat.reduceLeDiff, Nat.reduceAdd, Nat.reduceMul, Nat.reduceSub, Nat.reducePow, ne_eq, Int.reduceAdd, Int.reduceSub, Int.reduceMul, Int.reduceToNat, implies_true, vtab, Says, exists_eq_left', Option.some.injEq, sub_self, and_assoc, true_and, and_true]
                · exact Sub.int (by simp)
                · rfl
          · refine awp_exit ?_
            simp -dsimp only [vend, ne_eq, Nat.reduceEqDiff, reduceCtorEq]
            have hkk : k = l.length := by simp at h; omega
            subst hkk
            rw [List.drop_length, List.all_nil] at he
            rw [he, Bool.true_and]
            first | refine awp_seq (awp_region hT hm ?_) | refine awp_region hT hm ?_ | refine awp_seq (awp_seq (awp_region hT hm ?_)) | refine awp_seq (awp_seq (awp_seq (awp_region hT hm ?_)))
            simp -dsimp only [↓vpre, vpos, Int.reduceNeg, Int.reduceLE, Int.reduceLT, reduceIte, Nat.reduceEqDiff, Nat.reduceLT, Nat.reduceLeDiff, Nat.reduceAdd, Nat.reduceMul, Nat.reduceSub, Nat.reducePow, ne_eq, Int.reduceAdd, Int.reduceSub, Int.reduceMul, Int.reduceToNat, implies_true, vtab]
            refine at_intro ?_
            simp -dsimp only [vend, ne_eq, Nat.reduceEqDiff, reduceCtorEq]
            have hnod : nodesL l ≤ nodesL l0 := by
              rw [hl]
              exact bare_nodes l0
            have hmem0 : ∀ q ∈ l, q ∈ l0 := fun q hq => by
              rw [hl] at hq
              exact (List.mem_filter.1 hq).1
            have hkinds : ∀ p ∈ l, t.kind p = t.kind (l.headD Pat.any) := fun p hp => by
              have := List.all_eq_true.1 he p hp
              simpa using this
            have hll := nodesL_len l
            first | refine awp_block (awp_loop (ι := {k : Nat // k ≤ l.length ∧ ∀ j, j < k → t.agreeAt fu l j = true}) (fun k => ⟨79, [(1, eR l), (2, .mp 0 0), (32, eR l), (33, aI l.length), (34, aI k.1)], [.cells [.lst 3 (t.datas.map Data.enc) .sh, .im .str (t.cons.map entry)]]⟩) (fun k => l.length - k.1) ⟨0, by omega, fun j hj => by omega⟩ ?_ ?_) | refine awp_seq (awp_block (awp_loop (ι := {k : Nat // k ≤ l.length ∧ ∀ j, j < k → t.agreeAt fu l j = true}) (fun k => ⟨79, [(1, eR l), (2, .mp 0 0), (32, eR l), (33, aI l.length), (34, aI k.1)], [.cells [.lst 3 (t.datas.map Data.enc) .sh, .im .str (t.cons.map entry)]]⟩) (fun k => l.length - k.1) ⟨0, by omega, fun j hj => by omega⟩ ?_ ?_))
            · refine ⟨rfl, ?_, ?_⟩
              rotate_left
              simp -dsimp only [↓vpre, vpos, Int.reduceNeg, Int.reduceLE, Int.reduceLT, reduceIte, Nat.reduceEqDiff, Nat.reduceLT, Nat.reduceLeDiff, Nat.reduceAdd, Nat.reduceMul, Nat.reduceSub, Nat.reducePow, ne_eq, Int.reduceAdd, Int.reduceSub, Int.reduceMul, Int.reduceToNat, implies_true, vtab, Says, exists_eq_left', Option.some.injEq, sub_self, and_assoc, true_and, and_true]
              rfl
            · rintro ⟨k, hk, hall⟩
              first | refine awp_seq (awp_region hT hm ?_) | refine awp_region hT hm ?_ | refine awp_seq (awp_seq (awp_region hT hm ?_)) | refine awp_seq (awp_seq (awp_seq (awp_region hT hm ?_)))
              simp -dsimp only [↓vpre, vpos, Int.reduceNeg, Int.reduceLE, Int.reduceLT, reduceIte, Nat.reduceEqDiff, Nat.reduceLT, Nat.reduceLeDiff, Nat.reduceAdd, Nat.reduceMul, Nat.reduceSub, Nat.reducePow, ne_eq, Int.reduceAdd, Int.reduceSub, Int.reduceMul, Int.reduceToNat, implies_true, vtab]
              refine at_intro ?_
              simp -dsimp only [vend, ne_eq, Nat.reduceEqDiff, reduceCtorEq]
              first | refine awp_seq (awp_cond rfl (fun h => ?_) (fun h => ?_)) | refine awp_cond rfl (fun h => ?_) (fun h => ?_) | refine awp_seq (awp_seq (awp_cond rfl (fun h => ?_) (fun h => ?_)))
              · refine awp_skip ?_
                simp -dsimp only [vend, ne_eq, Nat.reduceEqDiff, reduceCtorEq]
                have hlt : k < l.length := by simpa using h
                obtain ⟨p, hp⟩ : ∃ p, l[k]? = some p := ⟨l[k], by simp [hlt]⟩
                have hpl := List.mem_of_getElem? hp
                first | refine awp_seq (awp_block ?_) | refine awp_block ?_
                first | refine awp_seq (awp_region hT hm ?_) | refine awp_region hT hm ?_ | refine awp_seq (awp_seq (awp_region hT hm ?_)) | refine awp_seq (awp_seq (awp_seq (awp_region hT hm ?_)))
                simp -dsimp only [↓vpre, vpos, Int.reduceNeg, Int.reduceLE, Int.reduceLT, reduceIte, Nat.reduceEqDiff, Nat.reduceLT, Nat.reduceLeDiff, Nat.reduceAdd, Nat.reduceMul, Nat.reduceSub, Nat.reducePow, ne_eq, Int.reduceAdd, Int.reduceSub, Int.reduceMul, Int.reduceToNat, implies_true, vtab, hp]
                refine at_intro ?_
                simp -dsimp only [vend, ne_eq, Nat.reduceEqDiff, reduceCtorEq]
                first | refine awp_seq (awp_region hT hm ?_) | refine awp_region hT hm ?_ | refine awp_seq (awp_seq (awp_region hT hm ?_)) | refine awp_seq (awp_seq (awp_seq (awp_region hT hm ?_)))
                simp -dsimp only [↓vpre, vpos, Int.reduceNeg, Int.reduceLE, Int.reduceLT, reduceIte, Nat.reduceEqDiff, Nat.reduceLT, Nat.reduceLeDiff, Nat.reduceAdd, Nat.reduceMul, Nat.reduceSub, Nat.reducePow, ne_eq, Int.reduceAdd, Int.reduceSub, Int.reduceMul, Int.reduceToNat, implies_true, vtab]
                simp -dsimp only [← List.map_take]
                repeat (refine ⟨by omega, ?_⟩)
                refine .inr (.inr ⟨_, (containsFunc_spec (fun q => decide (q.name = p.name)) 76 [] [.mp 1 0] [.cells [.lst 3 (t.datas.map Data.enc) .sh, .im .str (t.cons.map entry)], .cells [.v (.int .i64 p.kind), .v (.string p.name), .v (.int .i64 p.n), .lst 4 (p.args.map Pat.enc) .sh]] (by simp [AObj.upto, uptoL, AVal.upto, Data.map_upto, entry_upto, Pat.map_upto]) (l.take k) (fun q _ => agree1_spec _ (by simp [AObj.upto, uptoL, AVal.upto, Data.map_upto, entry_upto, Pat.map_upto]) 1 p rfl q)), later_intro ?_⟩)
                simp -dsimp only [↓vpre, vpos, Int.reduceNeg, Int.reduceLE, Int.reduceLT, reduceIte, Nat.reduceEqDiff, Nat.reduceLT, Nat.reduceLeDiff, Nat.reduceAdd, Nat.reduceMul, Nat.reduceSub, Nat.reducePow, ne_eq, Int.reduceAdd, Int.reduceSub, Int.reduceMul, Int.reduceToNat, implies_true, vtab]
                refine at_intro ?_
                simp -dsimp only [vend, ne_eq, Nat.reduceEqDiff, reduceCtorEq]
                first | refine awp_seq (awp_cond rfl (fun h => ?_) (fun h => ?_)) | refine awp_cond rfl (fun h => ?_) (fun h => ?_) | refine awp_seq (awp_seq (awp_cond rfl (fun h => ?_) (fun h => ?_)))
                · have hany : (l.take k).any (fun q => decide (q.name = p.name)) = true := h
                  refine awp_exit ?_
                  simp -dsimp only [vend, ne_eq, Nat.reduceEqDiff, reduceCtorEq]
                  have hat : t.agreeAt fu l k = true := by
                    rw [Tbl.agreeAt, hp]
                    simp [hany]
                  refine awp_trunc' 1 [(1, eR l), (2, .mp 0 0), (32, eR l), (33, aI l.length), (34, aI k)] (by first | omega | (simp; done) | (simp; omega)) (by first | omega | (simp; done) | (simp; omega)) [.cells [.lst 3 (t.datas.map Data.enc) .sh, .im .str (t.cons.map entry)]] ?_ ?_ ?_ ?_ ?_
                  · rfl
                  · simp [AObj.upto, uptoL, AVal.upto, Data.map_upto, entry_upto]
                  · simp -dsimp only [↓vpre, vpos, Int.reduceNeg, Int.reduceLE, Int.reduceLT, reduceIte, Nat.reduceEqDiff, Nat.reduceLT, Nat.reduceLeDiff, Nat.reduceAdd, Nat.reduceMul, Nat.reduceSub, Nat.reducePow, ne_eq, Int.reduceAdd, Int.reduceSub, Int.reduceMul, Int.reduceToNat, implies_true, vtab, Says, exists_eq_left', Option.some.injEq, sub_self, and_true]
                  · simp [AVal.upto, uptoL, Pat.map_upto]
                  · first | refine awp_seq (awp_region hT hm ?_) | refine awp_region hT hm ?_ | refine awp_seq (awp_seq (awp_region hT hm ?_)) | refine awp_seq (awp_seq (awp_seq (awp_region hT hm ?_)))
                    simp -dsimp only [↓vpre, vpos, Int.reduceNeg, Int.reduceLE, Int.reduceLT, reduceIte, Nat.reduceEqDiff, Nat.reduceLT, Nat.reduceLeDiff, Nat.reduceAdd, Nat.reduceMul, Nat.reduceSub, Nat.reducePow, ne_eq, Int.reduceAdd, Int.reduceSub, Int.reduceMul, Int.reduceToNat, implies_true, vtab]
                    repeat (refine ⟨by omega, ?_⟩)
                    refine at_intro ?_
                    simp -dsimp only [vend, ne_eq, Nat.reduceEqDiff, reduceCtorEq]
                    refine ⟨⟨k + 1, hlt, ?_⟩, by simp; omega, ?_⟩
                    · intro j hj
                      rcases Nat.lt_succ_iff_lt_or_eq.1 hj with hj | hj
                      · exact hall j hj
                      · rw [hj]
                        exact hat
                    refine ⟨rfl, ?_, ?_⟩
                    rotate_left
                    simp -dsimp only [↓vpre, vpos, Int.reduceNeg, Int.reduceLE, Int.reduceLT, reduceIte, Nat.reduceEqDiff, Nat.reduceLT, Nat.reduceLeDiff, Nat.reduceAdd, Nat.reduceMul, Nat.reduceSub, Nat.reducePow, ne_eq, Int.reduceAdd, Int.reduceSub, Int.reduceMul, Int.reduceToNat, implies_true, vtab, Says, exists_eq_left', Option.some.injEq, sub_self, and_assoc, true_and, and_true]
                    · exact Sub.int (by simp)
                    · rfl
                · have hany : (l.take k).any (fun q => decide (q.name = p.name)) = false := h
                  refine awp_skip ?_
                  simp -dsimp only [vend, ne_eq, Nat.reduceEqDiff, reduceCtorEq]
                  first | refine awp_seq (awp_region hT hm ?_) | refine awp_region hT hm ?_ | refine awp_seq (awp_seq (awp_region hT hm ?_)) | refine awp_seq (awp_seq (awp_seq (awp_region hT hm ?_)))
                  simp -dsimp only [↓vpre, vpos, Int.reduceNeg, Int.reduceLE, Int.reduceLT, reduceIte, Nat.reduceEqDiff, Nat.reduceLT, Nat.reduceLeDiff, Nat.reduceAdd, Nat.reduceMul, Nat.reduceSub, Nat.reducePow, ne_eq, Int.reduceAdd, Int.reduceSub, Int.reduceMul, Int.reduceToNat, implies_true, vtab]
                  refine at_intro ?_
                  simp -dsimp only [vend, ne_eq, Nat.reduceEqDiff, reduceCtorEq]
                  first | refine awp_seq (awp_cond rfl (fun h => ?_) (fun h => ?_)) | refine awp_cond rfl (fun h => ?_) (fun h => ?_) | refine awp_seq (awp_seq (awp_cond rfl (fun h => ?_) (fun h => ?_)))
                  · have hk3 : ¬ p.kind = 3 := by simpa using h
                    refine awp_exit ?_
                    simp -dsimp only [vend, ne_eq, Nat.reduceEqDiff, reduceCtorEq]
                    have hat : t.agreeAt fu l k = true := by
                      rw [Tbl.agreeAt, hp]
                      simp [hk3]
                    refine awp_trunc' 1 [(1, eR l), (2, .mp 0 0), (32, eR l), (33, aI l.length), (34, aI k)] (by first | omega | (simp; done) | (simp; omega)) (by first | omega | (simp; done) | (simp; omega)) [.cells [.lst 3 (t.datas.map Data.enc) .sh, .im .str (t.cons.map entry)]] ?_ ?_ ?_ ?_ ?_
                    · rfl
                    · simp [AObj.upto, uptoL, AVal.upto, Data.map_upto, entry_upto]
                    · simp -dsimp only [↓vpre, vpos, Int.reduceNeg, Int.reduceLE, Int.reduceLT, reduceIte, Nat.reduceEqDiff, Nat.reduceLT, Nat.reduceLeDiff, Nat.reduceAdd, Nat.reduceMul, Nat.reduceSub, Nat.reducePow, ne_eq, Int.reduceAdd, Int.reduceSub, Int.reduceMul, Int.reduceToNat, implies_true, vtab, Says, exists_eq_left', Option.some.injEq, sub_self, and_true]
                    · simp [AVal.upto, uptoL, Pat.map_upto]
                    · first | refine awp_seq (awp_region hT hm ?_) | refine awp_region hT hm ?_ | refine awp_seq (awp_seq (awp_region hT hm ?_)) | refine awp_seq (awp_seq (awp_seq (awp_region hT hm ?_)))
                      simp -dsimp only [↓vpre, vpos, Int.reduceNeg, Int.reduceLE, Int.reduceLT, reduceIte, Nat.reduceEqDiff, Nat.reduceLT, Nat.reduceLeDiff, Nat.reduceAdd, Nat.reduceMul, Nat.reduceSub, Nat.reducePow, ne_eq, Int.reduceAdd, Int.reduceSub, Int.reduceMul, Int.reduceToNat, implies_true, vtab]
                      repeat (refine ⟨by omega, ?_⟩)
                      refine at_intro ?_
                      simp -dsimp only [vend, ne_eq, Nat.reduceEqDiff, reduceCtorEq]
                      refine ⟨⟨k + 1, hlt, ?_⟩, by simp; omega, ?_⟩
                      · intro j hj
                        rcases Nat.lt_succ_iff_lt_or_eq.1 hj with hj | hj
                        · exact hall j hj
                        · rw [hj]
                          exact hat
                      refine ⟨rfl, ?_, ?_⟩
                      rotate_left
                      simp -dsimp only [↓vpre, vpos, Int.reduceNeg, Int.reduceLE, Int.reduceLT, reduceIte, Nat.reduceEqDiff, Nat.reduceLT, Nat.reduceLeDiff, Nat.reduceAdd, Nat.reduceMul, Nat.reduceSub, Nat.reducePow, ne_eq, Int.reduceAdd, Int.reduceSub, Int.reduceMul, Int.reduceToNat, implies_true, vtab, Says, exists_eq_left', Option.some.injEq, sub_self, and_assoc, true_and, and_true]
                      · exact Sub.int (by simp)
                      · rfl
                  · have hk3 : p.kind = 3 := by simpa using h
                    refine awp_skip ?_
                    simp -dsimp only [vend, ne_eq, Nat.reduceEqDiff, reduceCtorEq]
                    obtain ⟨k0, hf0, hm0, hargs0⟩ := pat_con (hok p (hmem0 p hpl)) hk3
                    have hsame : ∀ q ∈ l, q.name = p.name → q.args.length = p.args.length ∧ ∀ a ∈ q.args, t.pattern a = 0 := fun q hq hn => by
                      obtain ⟨k1, hf1, hm1, hargs1⟩ := pat_con (hok q (hmem0 q hq)) (kind3 ((hkinds q hq).trans (hkinds p hpl).symm) hk3)
                      rw [hn, hf0] at hf1
                      cases hf1
                      exact ⟨by rw [hm1, hm0], hargs1⟩
                    first | refine awp_seq (awp_region hT hm ?_) | refine awp_region hT hm ?_ | refine awp_seq (awp_seq (awp_region hT hm ?_)) | refine awp_seq (awp_seq (awp_seq (awp_region hT hm ?_)))
                    simp -dsimp only [↓vpre, vpos, Int.reduceNeg, Int.reduceLE, Int.reduceLT, reduceIte, Nat.reduceEqDiff, Nat.reduceLT, Nat.reduceLeDiff, Nat.reduceAdd, Nat.reduceMul, Nat.reduceSub, Nat.reducePow, ne_eq, Int.reduceAdd, Int.reduceSub, Int.reduceMul, Int.reduceToNat, implies_true, vtab]
                    refine at_intro ?_
                    simp -dsimp only [vend, ne_eq, Nat.reduceEqDiff, reduceCtorEq]
                    refine awp_len 48 rfl (fun hpn => ?_)
                    simp only [List.length_map] at hpn
                    first | refine awp_block (awp_loop (ι := {n : Nat // n ≤ p.args.length ∧ ∀ j, j < n → t.agreeF fu (below l p.name j) = true}) (fun n => ⟨79, [(1, eR l), (2, .mp 0 0), (8, .mp 1 0), (32, eR l), (33, aI l.length), (34, aI k), (48, eR p.args), (49, aI p.args.length), (50, aI n.1)], [.cells [.lst 3 (t.datas.map Data.enc) .sh, .im .str (t.cons.map entry)], .cells [.v (.int .i64 p.kind), .v (.string p.name), .v (.int .i64 p.n), .lst 4 (p.args.map Pat.enc) .sh]]⟩) (fun n => p.args.length - n.1) ⟨0, by omega, fun j hj => by omega⟩ ?_ ?_) | refine awp_seq (awp_block (awp_loop (ι := {n : Nat // n ≤ p.args.length ∧ ∀ j, j < n → t.agreeF fu (below l p.name j) = true}) (fun n => ⟨79, [(1, eR l), (2, .mp 0 0), (8, .mp 1 0), (32, eR l), (33, aI l.length), (34, aI k), (48, eR p.args), (49, aI p.args.length), (50, aI n.1)], [.cells [.lst 3 (t.datas.map Data.enc) .sh, .im .str (t.cons.map entry)], .cells [.v (.int .i64 p.kind), .v (.string p.name), .v (.int .i64 p.n), .lst 4 (p.args.map Pat.enc) .sh]]⟩) (fun n => p.args.length - n.1) ⟨0, by omega, fun j hj => by omega⟩ ?_ ?_))
                    · refine ⟨rfl, ?_, ?_⟩
                      rotate_left
                      simp -dsimp only [↓vpre, vpos, Int.reduceNeg, Int.reduceLE, Int.reduceLT, reduceIte, Nat.reduceEqDiff, Nat.reduceLT, Nat.reduceLeDiff, Nat.reduceAdd, Nat.reduceMul, Nat.reduceSub, Nat.reducePow, ne_eq, Int.reduceAdd, Int.reduceSub, Int.reduceMul, Int.reduceToNat, implies_true, vtab, Says, exists_eq_left', Option.some.injEq, sub_self, and_assoc, true_and, and_true]
                      rfl
                    · rintro ⟨n, hn, halln⟩
                      first | refine awp_seq (awp_region hT hm ?_) | refine awp_region hT hm ?_ | refine awp_seq (awp_seq (awp_region hT hm ?_)) | refine awp_seq (awp_seq (awp_seq (awp_region hT hm ?_)))
                      simp -dsimp only [↓vpre, vpos, Int.reduceNeg, Int.reduceLE, Int.reduceLT, reduceIte, Nat.reduceEqDiff, Nat.reduceLT, Nat.reduceLeDiff, Nat.reduceAdd, Nat.reduceMul, Nat.reduceSub, Nat.reducePow, ne_eq, Int.reduceAdd, Int.reduceSub, Int.reduceMul, Int.reduceToNat, implies_true, vtab]
                      refine at_intro ?_
                      simp -dsimp only [vend, ne_eq, Nat.reduceEqDiff, reduceCtorEq]
                      first | refine awp_seq (awp_cond rfl (fun h => ?_) (fun h => ?_)) | refine awp_cond rfl (fun h => ?_) (fun h => ?_) | refine awp_seq (awp_seq (awp_cond rfl (fun h => ?_) (fun h => ?_)))
                      · refine awp_skip ?_
                        simp -dsimp only [vend, ne_eq, Nat.reduceEqDiff, reduceCtorEq]
                        have hltn : n < p.args.length := by simpa using h
                        have hb6 := nodes_below (l := l) (s := p.name) (n := n) (fun q hq e => by rw [(hsame q hq e).1]; exact hltn)
                        have hpb : p.args.getD n Pat.any ∈ below l p.name n := List.mem_map.2 ⟨p, List.mem_filter.2 ⟨hpl, by simp⟩, rfl⟩
                        have hbne : below l p.name n ≠ [] := fun e => by rw [e] at hpb; cases hpb
                        have hblen : ∀ x : List Pat, (below x p.name n).length ≤ x.length := fun x => by
                          rw [below, List.length_map]
                          exact List.length_filter_le _ _
                        have hbpos : 0 < (below l p.name n).length := List.length_pos_iff.2 hbne
                        have hl0 : l.length ≤ l0.length := by
                          rw [hl]
                          exact List.length_filter_le _ _
                        have hcall := ih (below l p.name n) (by omega) hbne (by have := hblen l; omega) (fun a ha => by
                          obtain ⟨q, hq, rfl⟩ := List.mem_map.1 ha
                          obtain ⟨hq1, hq2⟩ := List.mem_filter.1 hq
                          obtain ⟨e1, e2⟩ := hsame q hq1 (by simpa using hq2)
                          refine e2 _ ?_
                          rw [List.getD_eq_getElem?_getD, List.getElem?_eq_getElem (by omega)]
                          exact List.getElem_mem _)
                        first | refine awp_seq (awp_block ?_) | refine awp_block ?_
                        first | refine awp_seq (awp_region hT hm ?_) | refine awp_region hT hm ?_ | refine awp_seq (awp_seq (awp_region hT hm ?_)) | refine awp_seq (awp_seq (awp_seq (awp_region hT hm ?_)))
                        simp -dsimp only [↓vpre, vpos, Int.reduceNeg, Int.reduceLE, Int.reduceLT, reduceIte, Nat.reduceEqDiff, Nat.reduceLT, Nat.reduceLeDiff, Nat.reduceAdd, Nat.reduceMul, Nat.reduceSub, Nat.reducePow, ne_eq, Int.reduceAdd, Int.reduceSub, Int.reduceMul, Int.reduceToNat, implies_true, vtab]
                        refine at_intro ?_
                        simp -dsimp only [vend, ne_eq, Nat.reduceEqDiff, reduceCtorEq]
                        first | refine awp_seq (awp_region hT hm ?_) | refine awp_region hT hm ?_ | refine awp_seq (awp_seq (awp_region hT hm ?_)) | refine awp_seq (awp_seq (awp_seq (awp_region hT hm ?_)))
                        simp -dsimp only [↓vpre, vpos, Int.reduceNeg, Int.reduceLE, Int.reduceLT, reduceIte, Nat.reduceEqDiff, Nat.reduceLT, Nat.reduceLeDiff, Nat.reduceAdd, Nat.reduceMul, Nat.reduceSub, Nat.reducePow, ne_eq, Int.reduceAdd, Int.reduceSub, Int.reduceMul, Int.reduceToNat, implies_true, vtab]
                        refine at_intro ?_
                        simp -dsimp only [vend, ne_eq, Nat.reduceEqDiff, reduceCtorEq]
                        refine awp_own 10 rfl ?_
                        simp -dsimp only [↓vpre, vpos, Int.reduceNeg, Int.reduceLE, Int.reduceLT, reduceIte, Nat.reduceEqDiff, Nat.reduceLT, Nat.reduceLeDiff, Nat.reduceAdd, Nat.reduceMul, Nat.reduceSub, Nat.reducePow, ne_eq, Int.reduceAdd, Int.reduceSub, Int.reduceMul, Int.reduceToNat, implies_true, vtab]
                        first | refine awp_seq (awp_region hT hm ?_) | refine awp_region hT hm ?_ | refine awp_seq (awp_seq (awp_region hT hm ?_)) | refine awp_seq (awp_seq (awp_seq (awp_region hT hm ?_)))
                        simp -dsimp only [↓vpre, vpos, Int.reduceNeg, Int.reduceLE, Int.reduceLT, reduceIte, Nat.reduceEqDiff, Nat.reduceLT, Nat.reduceLeDiff, Nat.reduceAdd, Nat.reduceMul, Nat.reduceSub, Nat.reducePow, ne_eq, Int.reduceAdd, Int.reduceSub, Int.reduceMul, Int.reduceToNat, implies_true, vtab]
                        refine at_intro ?_
                        simp -dsimp only [vend, ne_eq, Nat.reduceEqDiff, reduceCtorEq]
                        first | refine awp_block (awp_loop (ι := {j : Nat // j ≤ l.length}) (fun j => ⟨79, [(1, eR l), (2, .mp 0 0), (8, .mp 1 0), (9, aI n), (32, eR l), (33, aI l.length), (34, aI k), (48, eR p.args), (49, aI p.args.length), (50, aI n), (53, eR l), (54, aI l.length), (55, aI j.1), (10, .lst 4 ((below (l.take j.1) p.name n).map Pat.enc) (.tok 2))], [.cells [.lst 3 (t.datas.map Data.enc) .sh, .im .str (t.cons.map entry)], .cells [.v (.int .i64 p.kind), .v (.string p.name), .v (.int .i64 p.n), .lst 4 (p.args.map Pat.enc) .sh], .spare (below (l.take j.1) p.name n).length]⟩) (fun j => l.length - j.1) ⟨0, by omega⟩ ?_ ?_) | refine awp_seq (awp_block (awp_loop (ι := {j : Nat // j ≤ l.length}) (fun j => ⟨79, [(1, eR l), (2, .mp 0 0), (8, .mp 1 0), (9, aI n), (32, eR l), (33, aI l.length), (34, aI k), (48, eR p.args), (49, aI p.args.length), (50, aI n), (53, eR l), (54, aI l.length), (55, aI j.1), (10, .lst 4 ((below (l.take j.1) p.name n).map Pat.enc) (.tok 2))], [.cells [.lst 3 (t.datas.map Data.enc) .sh, .im .str (t.cons.map entry)], .cells [.v (.int .i64 p.kind), .v (.string p.name), .v (.int .i64 p.n), .lst 4 (p.args.map Pat.enc) .sh], .spare (below (l.take j.1) p.name n).length]⟩) (fun j => l.length - j.1) ⟨0, by omega⟩ ?_ ?_))
                        · refine ⟨rfl, ?_, ?_⟩
                          rotate_left
                          simp -dsimp only [↓vpre, vpos, Int.reduceNeg, Int.reduceLE, Int.reduceLT, reduceIte, Nat.reduceEqDiff, Nat.reduceLT, Nat.reduceLeDiff, Nat.reduceAdd, Nat.reduceMul, Nat.reduceSub, Nat.reducePow, ne_eq, Int.reduceAdd, Int.reduceSub, Int.reduceMul, Int.reduceToNat, implies_true, vtab, Says, exists_eq_left', Option.some.injEq, sub_self, and_assoc, true_and, and_true]
                          · exact Sub.lst (by simp [below])
                          · simp [below]
                        · rintro ⟨j, hj⟩
                          first | refine awp_seq (awp_region hT hm ?_) | refine awp_region hT hm ?_ | refine awp_seq (awp_seq (awp_region hT hm ?_)) | refine awp_seq (awp_seq (awp_seq (awp_region hT hm ?_)))
                          simp -dsimp only [↓vpre, vpos, Int.reduceNeg, Int.reduceLE, Int.reduceLT, reduceIte, Nat.reduceEqDiff, Nat.reduceLT, Nat.reduceLeDiff, Nat.reduceAdd, Nat.reduceMul, Nat.reduceSub, Nat.reducePow, ne_eq, Int.reduceAdd, Int.reduceSub, Int.reduceMul, Int.reduceToNat, implies_true, vtab]
                          refine at_intro ?_
                          simp -dsimp only [vend, ne_eq, Nat.reduceEqDiff, reduceCtorEq]
                          first | refine awp_seq (awp_cond rfl (fun h => ?_) (fun h => ?_)) | refine awp_cond rfl (fun h => ?_) (fun h => ?_) | refine awp_seq (awp_seq (awp_cond rfl (fun h => ?_) (fun h => ?_)))
                          · refine awp_skip ?_
                            simp -dsimp only [vend, ne_eq, Nat.reduceEqDiff, reduceCtorEq]
                            have hltj : j < l.length := by simpa using h
                            obtain ⟨q, hq⟩ : ∃ q, l[j]? = some q := ⟨l[j], by simp [hltj]⟩
                            have hbj := below_take hq p.name n
                            have hbl := hblen (l.take j)
                            simp only [List.length_take] at hbl
                            first | refine awp_seq (awp_block ?_) | refine awp_block ?_
                            first | refine awp_seq (awp_region hT hm ?_) | refine awp_region hT hm ?_ | refine awp_seq (awp_seq (awp_region hT hm ?_)) | refine awp_seq (awp_seq (awp_seq (awp_region hT hm ?_)))
                            simp -dsimp only [↓vpre, vpos, Int.reduceNeg, Int.reduceLE, Int.reduceLT, reduceIte, Nat.reduceEqDiff, Nat.reduceLT, Nat.reduceLeDiff, Nat.reduceAdd, Nat.reduceMul, Nat.reduceSub, Nat.reducePow, ne_eq, Int.reduceAdd, Int.reduceSub, Int.reduceMul, Int.reduceToNat, implies_true, vtab, hq]
                            refine at_intro ?_
                            simp -dsimp only [vend, ne_eq, Nat.reduceEqDiff, reduceCtorEq]
                            first | refine awp_seq (awp_region hT hm ?_) | refine awp_region hT hm ?_ | refine awp_seq (awp_seq (awp_region hT hm ?_)) | refine awp_seq (awp_seq (awp_seq (awp_region hT hm ?_)))
                            simp -dsimp only [↓vpre, vpos, Int.reduceNeg, Int.reduceLE, Int.reduceLT, reduceIte, Nat.reduceEqDiff, Nat.reduceLT, Nat.reduceLeDiff, Nat.reduceAdd, Nat.reduceMul, Nat.reduceSub, Nat.reducePow, ne_eq, Int.reduceAdd, Int.reduceSub, Int.reduceMul, Int.reduceToNat, implies_true, vtab]
                            refine at_intro ?_
                            simp -dsimp only [vend, ne_eq, Nat.reduceEqDiff, reduceCtorEq]
                            first | refine awp_seq (awp_cond rfl (fun h => ?_) (fun h => ?_)) | refine awp_cond rfl (fun h => ?_) (fun h => ?_) | refine awp_seq (awp_seq (awp_cond rfl (fun h => ?_) (fun h => ?_)))
                            · have hqn : q.name = p.name := by simpa using h
                              obtain ⟨hql, _⟩ := hsame q (List.mem_of_getElem? hq) hqn
                              have hqa : q.args[n]? = some (q.args.getD n Pat.any) := by
                                rw [List.getD_eq_getElem?_getD, List.getElem?_eq_getElem (by omega)]
                                rfl
                              first | refine awp_seq (awp_region hT hm ?_) | refine awp_region hT hm ?_ | refine awp_seq (awp_seq (awp_region hT hm ?_)) | refine awp_seq (awp_seq (awp_seq (awp_region hT hm ?_)))
                              simp -dsimp only [↓vpre, vpos, Int.reduceNeg, Int.reduceLE, Int.reduceLT, reduceIte, Nat.reduceEqDiff, Nat.reduceLT, Nat.reduceLeDiff, Nat.reduceAdd, Nat.reduceMul, Nat.reduceSub, Nat.reducePow, ne_eq, Int.reduceAdd, Int.reduceSub, Int.reduceMul, Int.reduceToNat, implies_true, vtab, hqa]
                              repeat (refine ⟨by omega, ?_⟩)
                              refine at_intro ?_
                              simp -dsimp only [vend, ne_eq, Nat.reduceEqDiff, reduceCtorEq]
                              refine awp_trunc' 3 [(1, eR l), (2, .mp 0 0), (8, .mp 1 0), (9, aI n), (32, eR l), (33, aI l.length), (34, aI k), (48, eR p.args), (49, aI p.args.length), (50, aI n), (53, eR l), (54, aI l.length), (55, aI j), (10, .lst 4 ((below (l.take j) p.name n ++ [q.args.getD n Pat.any]).map Pat.enc) (.tok 2))] (by first | omega | (simp; done) | (simp; omega)) (by first | omega | (simp; done) | (simp; omega)) [.cells [.lst 3 (t.datas.map Data.enc) .sh, .im .str (t.cons.map entry)], .cells [.v (.int .i64 p.kind), .v (.string p.name), .v (.int .i64 p.n), .lst 4 (p.args.map Pat.enc) .sh], .spare (below (l.take j) p.name n ++ [q.args.getD n Pat.any]).length] ?_ ?_ ?_ ?_ ?_
                              · simp
                              · simp [AObj.upto, uptoL, AVal.upto, Data.map_upto, entry_upto, Pat.map_upto]
                              · simp -dsimp only [↓vpre, vpos, Int.reduceNeg, Int.reduceLE, Int.reduceLT, reduceIte, Nat.reduceEqDiff, Nat.reduceLT, Nat.reduceLeDiff, Nat.reduceAdd, Nat.reduceMul, Nat.reduceSub, Nat.reducePow, ne_eq, Int.reduceAdd, Int.reduceSub, Int.reduceMul, Int.reduceToNat, implies_true, vtab, Says, exists_eq_left', Option.some.injEq, sub_self, and_true, true_and]
                                exact Sub.lst (by simp)
                              · simp only [List.mem_cons, List.not_mem_nil, or_false, forall_eq_or_imp, forall_eq, AVal.upto, Pat.map_upto, and_true, true_and]
                                omega
                              · first | refine awp_seq (awp_region hT hm ?_) | refine awp_region hT hm ?_ | refine awp_seq (awp_seq (awp_region hT hm ?_)) | refine awp_seq (awp_seq (awp_seq (awp_region hT hm ?_)))
                                simp -dsimp only [↓vpre, vpos, Int.reduceNeg, Int.reduceLE, Int.reduceLT, reduceIte, Nat.reduceEqDiff, Nat.reduceLT, Nat.reduceLeDiff, Nat.reduceAdd, Nat.reduceMul, Nat.reduceSub, Nat.reducePow, ne_eq, Int.reduceAdd, Int.reduceSub, Int.reduceMul, Int.reduceToNat, implies_true, vtab]
                                repeat (refine ⟨by omega, ?_⟩)
                                refine at_intro ?_
                                simp -dsimp only [vend, ne_eq, Nat.reduceEqDiff, reduceCtorEq]
                                refine ⟨⟨j + 1, hltj⟩, by simp; omega, ?_⟩
                                refine ⟨rfl, ?_, ?_⟩
                                rotate_left
                                simp -dsimp only [↓vpre, vpos, Int.reduceNeg, Int.reduceLE, Int.reduceLT, reduceIte, Nat.reduceEqDiff, Nat.reduceLT, Nat.reduceLeDiff, Nat.reduceAdd, Nat.reduceMul, Nat.reduceSub, Nat.reducePow, ne_eq, Int.reduceAdd, Int.reduceSub, Int.reduceMul, Int.reduceToNat, implies_true, vtab, Says, exists_eq_left', Option.some.injEq, sub_self, and_assoc, true_and, and_true]
                                · exact ⟨Sub.int (by simp), Sub.lst (by simp [hbj, hqn])⟩
                                · simp [hbj, hqn]

                            · have hqn : ¬ q.name = p.name := by simpa using h
                              refine awp_skip ?_
                              simp -dsimp only [vend, ne_eq, Nat.reduceEqDiff, reduceCtorEq]
                              refine awp_trunc' 3 [(1, eR l), (2, .mp 0 0), (8, .mp 1 0), (9, aI n), (32, eR l), (33, aI l.length), (34, aI k), (48, eR p.args), (49, aI p.args.length), (50, aI n), (53, eR l), (54, aI l.length), (55, aI j), (10, .lst 4 ((below (l.take j) p.name n).map Pat.enc) (.tok 2))] (by first | omega | (simp; done) | (simp; omega)) (by first | omega | (simp; done) | (simp; omega)) [.cells [.lst 3 (t.datas.map Data.enc) .sh, .im .str (t.cons.map entry)], .cells [.v (.int .i64 p.kind), .v (.string p.name), .v (.int .i64 p.n), .lst 4 (p.args.map Pat.enc) .sh], .spare (below (l.take j) p.name n).length] ?_ ?_ ?_ ?_ ?_
                              · rfl
                              · simp [AObj.upto, uptoL, AVal.upto, Data.map_upto, entry_upto, Pat.map_upto]
                              · simp -dsimp only [↓vpre, vpos, Int.reduceNeg, Int.reduceLE, Int.reduceLT, reduceIte, Nat.reduceEqDiff, Nat.reduceLT, Nat.reduceLeDiff, Nat.reduceAdd, Nat.reduceMul, Nat.reduceSub, Nat.reducePow, ne_eq, Int.reduceAdd, Int.reduceSub, Int.reduceMul, Int.reduceToNat, implies_true, vtab, Says, exists_eq_left', Option.some.injEq, sub_self, and_true, true_and]
                              · simp only [List.mem_cons, List.not_mem_nil, or_false, forall_eq_or_imp, forall_eq, AVal.upto, Pat.map_upto, and_true, true_and]
                                omega
                              · first | refine awp_seq (awp_region hT hm ?_) | refine awp_region hT hm ?_ | refine awp_seq (awp_seq (awp_region hT hm ?_)) | refine awp_seq (awp_seq (awp_seq (awp_region hT hm ?_)))
                                simp -dsimp only [↓vpre, vpos, Int.reduceNeg, Int.reduceLE, Int.reduceLT, reduceIte, Nat.reduceEqDiff, Nat.reduceLT, Nat.reduceLeDiff, Nat.reduceAdd, Nat.reduceMul, Nat.reduceSub, Nat.reducePow, ne_eq, Int.reduceAdd, Int.reduceSub, Int.reduceMul, Int.reduceToNat, implies_true, vtab]
                                repeat (refine ⟨by omega, ?_⟩)
                                refine at_intro ?_
                                simp -dsimp only [vend, ne_eq, Nat.reduceEqDiff, reduceCtorEq]
                                refine ⟨⟨j + 1, hltj⟩, by simp; omega, ?_⟩
                                refine ⟨rfl, ?_, ?_⟩
                                rotate_left
                                simp -dsimp only [↓vpre, vpos, Int.reduceNeg, Int.reduceLE, Int.reduceLT, reduceIte, Nat.reduceEqDiff, Nat.reduceLT, Nat.reduceLeDiff, Nat.reduceAdd, Nat.reduceMul, Nat.reduceSub, Nat.reducePow, ne_eq, Int.reduceAdd, Int.reduceSub, Int.reduceMul, Int.reduceToNat, implies_true, vtab, Says, exists_eq_left', Option.some.injEq, sub_self, and_assoc, true_and, and_true]
                                · exact ⟨Sub.int (by simp), Sub.lst (by simp [hbj, hqn])⟩
                                · simp [hbj, hqn]

                          · refine awp_exit ?_
                            simp -dsimp only [vend, ne_eq, Nat.reduceEqDiff, reduceCtorEq]
                            have hjl : j = l.length := by simp at h; omega
                            subst hjl
                            first | refine awp_seq (awp_region hT hm ?_) | refine awp_region hT hm ?_ | refine awp_seq (awp_seq (awp_region hT hm ?_)) | refine awp_seq (awp_seq (awp_seq (awp_region hT hm ?_)))
                            simp -dsimp only [↓vpre, vpos, Int.reduceNeg, Int.reduceLE, Int.reduceLT, reduceIte, Nat.reduceEqDiff, Nat.reduceLT, Nat.reduceLeDiff, Nat.reduceAdd, Nat.reduceMul, Nat.reduceSub, Nat.reducePow, ne_eq, Int.reduceAdd, Int.reduceSub, Int.reduceMul, Int.reduceToNat, implies_true, vtab, List.take_length]
                            refine .inl ⟨_, hcall, by first | (simp only [uptoL, AVal.upto, and_true, true_and, and_self, Pat.enc_upto, Pat.map_upto, any_upto, rows_upto, Con.enc_upto, Con.map_upto, Data.enc_upto, Data.map_upto, Tbl.enc_upto, entry_upto]; done) | (simp [uptoL, AVal.upto, Pat.enc_upto, Pat.map_upto, any_upto, rows_upto, Con.enc_upto, Con.map_upto, Data.enc_upto, Data.map_upto, Tbl.enc_upto, entry_upto]; done), later_intro ?_⟩
                            simp -dsimp only [↓vpre, vpos, Int.reduceNeg, Int.reduceLE, Int.reduceLT, reduceIte, Nat.reduceEqDiff, Nat.reduceLT, Nat.reduceLeDiff, Nat.reduceAdd, Nat.reduceMul, Nat.reduceSub, Nat.reducePow, ne_eq, Int.reduceAdd, Int.reduceSub, Int.reduceMul, Int.reduceToNat, implies_true, vtab]
                            refine at_intro ?_
                            simp -dsimp only [vend, ne_eq, Nat.reduceEqDiff, reduceCtorEq]
                            first | refine awp_seq (awp_cond rfl (fun h => ?_) (fun h => ?_)) | refine awp_cond rfl (fun h => ?_) (fun h => ?_) | refine awp_seq (awp_seq (awp_cond rfl (fun h => ?_) (fun h => ?_)))
                            · have hag : t.agreeF fu (below l p.name n) = false := by simpa using h
                              have hat : t.agreeAt fu l k = false := by
                                rw [Tbl.agreeAt, hp]
                                simp only [hany, hk3, Bool.false_or, ne_eq, not_true_eq_false, decide_false]
                                cases hc : (List.range p.args.length).all fun n => t.agreeF fu (below l p.name n) with
                                | false => rfl
                                | true =>
                                  have := List.all_eq_true.1 hc n (List.mem_range.2 hltn)
                                  rw [hag] at this
                                  cases this
                              have hB : B2 = false := by
                                cases hc : B2 with
                                | false => rfl
                                | true =>
                                  rw [hB2] at hc
                                  have := List.all_eq_true.1 hc k (List.mem_range.2 hlt)
                                  rw [hat] at this
                                  cases this
                              first | refine awp_seq (awp_region hT hm ?_) | refine awp_region hT hm ?_ | refine awp_seq (awp_seq (awp_region hT hm ?_)) | refine awp_seq (awp_seq (awp_seq (awp_region hT hm ?_)))
                              simp -dsimp only [↓vpre, vpos, Int.reduceNeg, Int.reduceLE, Int.reduceLT, reduceIte, Nat.reduceEqDiff, Nat.reduceLT, Nat.reduceLeDiff, Nat.reduceAdd, Nat.reduceMul, Nat.reduceSub, Nat.reducePow, ne_eq, Int.reduceAdd, Int.reduceSub, Int.reduceMul, Int.reduceToNat, implies_true, vtab]
                              refine at_intro ?_
                              simp -dsimp only [vend, ne_eq, Nat.reduceEqDiff, reduceCtorEq]
                              refine awp_ret ?_
                              simp -dsimp only [↓vpre, vpos, Int.reduceNeg, Int.reduceLE, Int.reduceLT, reduceIte, Nat.reduceEqDiff, Nat.reduceLT, Nat.reduceLeDiff, Nat.reduceAdd, Nat.reduceMul, Nat.reduceSub, Nat.reducePow, ne_eq, Int.reduceAdd, Int.reduceSub, Int.reduceMul, Int.reduceToNat, implies_true, vtab, RetTo, Try.results41, retVals, retVal, mkRet, AVal.upto, Nat.zero_le, Nat.le_refl, seqPost_ret, blockPost_ret, loopPost_ret]
                              rw [hB]
                            · have hag : t.agreeF fu (below l p.name n) = true := by simpa using h
                              refine awp_skip ?_
                              simp -dsimp only [vend, ne_eq, Nat.reduceEqDiff, reduceCtorEq]
                              refine awp_trunc' 2 [(1, eR l), (2, .mp 0 0), (8, .mp 1 0), (32, eR l), (33, aI l.length), (34, aI k), (48, eR p.args), (49, aI p.args.length), (50, aI n)] (by first | omega | (simp; done) | (simp; omega)) (by first | omega | (simp; done) | (simp; omega)) [.cells [.lst 3 (t.datas.map Data.enc) .sh, .im .str (t.cons.map entry)], .cells [.v (.int .i64 p.kind), .v (.string p.name), .v (.int .i64 p.n), .lst 4 (p.args.map Pat.enc) .sh]] ?_ ?_ ?_ ?_ ?_
                              · rfl
                              · simp [AObj.upto, uptoL, AVal.upto, Data.map_upto, entry_upto, Pat.map_upto]
                              · simp -dsimp only [↓vpre, vpos, Int.reduceNeg, Int.reduceLE, Int.reduceLT, reduceIte, Nat.reduceEqDiff, Nat.reduceLT, Nat.reduceLeDiff, Nat.reduceAdd, Nat.reduceMul, Nat.reduceSub, Nat.reducePow, ne_eq, Int.reduceAdd, Int.reduceSub, Int.reduceMul, Int.reduceToNat, implies_true, vtab, Says, exists_eq_left', Option.some.injEq, sub_self, and_true, true_and]
                              · simp [AVal.upto, uptoL, Pat.map_upto]
                              · first | refine awp_seq (awp_region hT hm ?_) | refine awp_region hT hm ?_ | refine awp_seq (awp_seq (awp_region hT hm ?_)) | refine awp_seq (awp_seq (awp_seq (awp_region hT hm ?_)))
                                simp -dsimp only [↓vpre, vpos, Int.reduceNeg, Int.reduceLE, Int.reduceLT, reduceIte, Nat.reduceEqDiff, Nat.reduceLT, Nat.reduceLeDiff, Nat.reduceAdd, Nat.reduceMul, Nat.reduceSub, Nat.reducePow, ne_eq, Int.reduceAdd, Int.reduceSub, Int.reduceMul, Int.reduceToNat, implies_true, vtab]
                                repeat (refine ⟨by omega, ?_⟩)
                                refine at_intro ?_
                                simp -dsimp only [vend, ne_eq, Nat.reduceEqDiff, reduceCtorEq]
                                refine ⟨⟨n + 1, hltn, ?_⟩, by simp; omega, ?_⟩
                                · intro j hj
                                  rcases Nat.lt_succ_iff_lt_or_eq.1 hj with hj | hj
                                  · exact halln j hj
                                  · rw [hj]
                                    exact hag
                                refine ⟨rfl, ?_, ?_⟩
                                rotate_left
                                simp -dsimp only [↓vpre, vpos, Int.reduceNeg, Int.reduceLE, Int.reduceLT, reduceIte, Nat.reduceEqDiff, Nat.reduceLT, Nat.reduceLeDiff, Nat.reduceAdd, Nat.reduceMul, Nat.reduceSub, Nat.reducePow, ne_eq, Int.reduceAdd, Int.reduceSub, Int.reduceMul, Int.reduceToNat, implies_true, vtab, Says, exists_eq_left', Option.some.injEq, sub_self, and_assoc, true_and, and_true]
                                · exact Sub.int (by simp)
                                · rfl
                      · refine awp_exit ?_
                        simp -dsimp only [vend, ne_eq, Nat.reduceEqDiff, reduceCtorEq]
                        have hkn : n = p.args.length := by simp at h; omega
                        subst hkn
                        have hat : t.agreeAt fu l k = true := by
                          rw [Tbl.agreeAt, hp]
                          simp only [Bool.or_eq_true, List.all_eq_true, List.mem_range]; exact .inr fun j hj => halln j hj
                        refine awp_trunc' 1 [(1, eR l), (2, .mp 0 0), (32, eR l), (33, aI l.length), (34, aI k)] (by first | omega | (simp; done) | (simp; omega)) (by first | omega | (simp; done) | (simp; omega)) [.cells [.lst 3 (t.datas.map Data.enc) .sh, .im .str (t.cons.map entry)]] ?_ ?_ ?_ ?_ ?_
                        · rfl
                        · simp [AObj.upto, uptoL, AVal.upto, Data.map_upto, entry_upto]
                        · simp -dsimp only [↓vpre, vpos, Int.reduceNeg, Int.reduceLE, Int.reduceLT, reduceIte, Nat.reduceEqDiff, Nat.reduceLT, Nat.reduceLeDiff, Nat.reduceAdd, Nat.reduceMul, Nat.reduceSub, Nat.reducePow, ne_eq, Int.reduceAdd, Int.reduceSub, Int.reduceMul, Int.reduceToNat, implies_true, vtab, Says, exists_eq_left', Option.some.injEq, sub_self, and_true]
                        · simp [AVal.upto, uptoL, Pat.map_upto]
                        · first | refine awp_seq (awp_region hT hm ?_) | refine awp_region hT hm ?_ | refine awp_seq (awp_seq (awp_region hT hm ?_)) | refine awp_seq (awp_seq (awp_seq (awp_region hT hm ?_)))
                          simp -dsimp only [↓vpre, vpos, Int.reduceNeg, Int.reduceLE, Int.reduceLT, reduceIte, Nat.reduceEqDiff, Nat.reduceLT, Nat.reduceLeDiff, Nat.reduceAdd, Nat.reduceMul, Nat.reduceSub, Nat.reducePow, ne_eq, Int.reduceAdd, Int.reduceSub, Int.reduceMul, Int.reduceToNat, implies_true, vtab]
                          repeat (refine ⟨by omega, ?_⟩)
                          refine at_intro ?_
                          simp -dsimp only [vend, ne_eq, Nat.reduceEqDiff, reduceCtorEq]
                          refine ⟨⟨k + 1, hlt, ?_⟩, by simp; omega, ?_⟩
                          · intro j hj
                            rcases Nat.lt_succ_iff_lt_or_eq.1 hj with hj | hj
                            · exact hall j hj
                            · rw [hj]
                              exact hat
                          refine ⟨rfl, ?_, ?_⟩
                          rotate_left
                          simp -dsimp only [↓vpre, vpos, Int.reduceNeg, Int.reduceLE, Int.reduceLT, reduceIte, Nat.reduceEqDiff, Nat.reduceLT, Nat.reduceLeDiff, Nat.reduceAdd, Nat.reduceMul, Nat.reduceSub, Nat.reducePow, ne_eq, Int.reduceAdd, Int.reduceSub, Int.reduceMul, Int.reduceToNat, implies_true, vtab, Says, exists_eq_left', Option.some.injEq, sub_self, and_assoc, true_and, and_true]
                          · exact Sub.int (by simp)
                          · rfl
              · refine awp_exit ?_
                simp -dsimp only [vend, ne_eq, Nat.reduceEqDiff, reduceCtorEq]
                have hkk : k = l.length := by simp at h; omega
                subst hkk
                have hB : B2 = true := by
                  rw [hB2]
                  exact List.all_eq_true.2 fun j hj => hall j (List.mem_range.1 hj)
                first | refine awp_seq (awp_region hT hm ?_) | refine awp_region hT hm ?_ | refine awp_seq (awp_seq (awp_region hT hm ?_)) | refine awp_seq (awp_seq (awp_seq (awp_region hT hm ?_)))
                simp -dsimp only [↓vpre, vpos, Int.reduceNeg, Int.reduceLE, Int.reduceLT, reduceIte, Nat.reduceEqDiff, Nat.reduceLT, Nat.reduceLeDiff, Nat.reduceAdd, Nat.reduceMul, Nat.reduceSub, Nat.reducePow, ne_eq, Int.reduceAdd, Int.reduceSub, Int.reduceMul, Int.reduceToNat, implies_true, vtab]
                refine at_intro ?_
                simp -dsimp only [vend, ne_eq, Nat.reduceEqDiff, reduceCtorEq]
                refine awp_ret ?_
                simp -dsimp only [↓vpre, vpos, Int.reduceNeg, Int.reduceLE, Int.reduceLT, reduceIte, Nat.reduceEqDiff, Nat.reduceLT, Nat.reduceLeDiff, Nat.reduceAdd, Nat.reduceMul, Nat.reduceSub, Nat.reducePow, ne_eq, Int.reduceAdd, Int.reduceSub, Int.reduceMul, Int.reduceToNat, implies_true, vtab, RetTo, Try.results41, retVals, retVal, mkRet, AVal.upto, Nat.zero_le, Nat.le_refl, seqPost_ret, blockPost_ret, loopPost_ret]
                rw [hB]

theorem agree_spec (t : Tbl) : ∀ fu : Nat, AgreeOK t fu
  | 0, l, h, _, _, _ => by omega
  | fu + 1, l, h1, h2, h3, h4 => agree_step t fu (agree_spec t fu) l h1 h2 h3 h4

end Go.Proofs.Ytakdmelemfnmdaa
end
