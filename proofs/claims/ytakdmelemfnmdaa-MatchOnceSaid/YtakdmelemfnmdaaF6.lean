/-
  Texts bound together by a program of mine: T55, T42, T43, T56.
-/
import Derived.Test.YtakdmelemfnmdaaF5
set_option linter.all false

section
set_option linter.unusedSimpArgs false
set_option linter.unusedVariables false
set_option maxRecDepth 100000
set_option maxHeartbeats 2000000
-- !tab vtab vmat
-- !upto Pat.enc_upto Pat.map_upto MRow.enc_upto MRow.map_upto aI_upto eI_upto nS_upto MTree.enc_upto MTree.map_upto Con.map_upto Data.map_upto
namespace Go.Proofs.Ytakdmelemfnmdaa
open Go.Av

theorem once_step {L : List MTree} (hL : L.length ≤ 2 ^ 20) (hpl : ∀ (i : Nat) u, L[i]? = some u → u.path.length ≤ 2 ^ 19 ∧ u.kids.length ≤ 1000) (f : Nat)
  (ih : ∀ (k : Nat) (before : List (List Int)), OnceP L f k before → before.length + f ≤ 2 ^ 20 → PCall Try.prog 23 [eT L, aI k, eII before] (.v (.bool true)))
  (k : Nat) (before : List (List Int)) (h : OnceP L (f + 1) k before) (hbl : before.length + (f + 1) ≤ 2 ^ 20) : PCall Try.prog 23 [eT L, aI k, eII before] (.v (.bool true)) := by
 rw [OnceP] at h
 obtain ⟨u, hu, h⟩ := h
 obtain ⟨hpu, hku⟩ := hpl k u hu
 by_cases hk : u.kind = 2 ∨ u.kind = 3
 ·have hb : (!decide (u.kind = 2)) = false ∧ True ∨ (!decide (u.kind = 2)) = true ∧ (!decide (u.kind = 3)) = false := by
   rcases hk with e | e <;> simp [e]
  have h := h.resolve_left (fun q => by omega)
  obtain ⟨hnew, hled, hkids⟩ := h
  have hsame : ∀ p ∈ before, decide (p = u.path) = false := fun p hp => decide_eq_false fun e => hnew (e ▸ hp)
  refine ecall_of hT true 0 Try.func23 rfl (by kernel_rfl) (by simp [Try.ntmps23]) (by simp) ?_
  show AWP Try.prog _ _ _ ⟨91, _, _⟩
  dsimp only [Tmp, TypeId, slotsOf]
  first | refine zg1 ?_ | refine zg0 ?_ | refine zg2 ?_ | refine zg3 ?_
  simp -dsimp only [simprocAttr, ↓vpre, zpm]
  refine at_intro ?_
  simp -dsimp only [vend, ne_eq, Nat.reduceEqDiff, reduceCtorEq]
  first | refine zg1 ?_ | refine zg0 ?_ | refine zg2 ?_ | refine zg3 ?_
  simp -dsimp only [simprocAttr, ↓vpre, zpm, hu]
  refine at_intro ?_
  simp -dsimp only [vend, ne_eq, Nat.reduceEqDiff, reduceCtorEq]
  refine awp_freeze1 7 0 (.ip none u.enc.cells) rfl (by simp [AObj.isSpare]) trivial rfl ?_ ?_
  rotate_left
  simp -dsimp only [simprocAttr, ↓vpre, zpm]
  ·rcases hb with ⟨hb, hb'⟩ | ⟨hb, hb'⟩
   all_goals
    first | refine zg1 ?_ | refine zg0 ?_ | refine zg2 ?_ | refine zg3 ?_
    simp -dsimp only [simprocAttr, ↓vpre, zpm, hb, hb']
    refine at_intro ?_
    simp -dsimp only [vend, ne_eq, Nat.reduceEqDiff, reduceCtorEq]
    first | refine zk1 rfl (fun h => ?_) (fun h => ?_) | refine zk0 rfl (fun h => ?_) (fun h => ?_) | refine zk2 rfl (fun h => ?_) (fun h => ?_)
    ·cases h
    refine awp_skip ?_
    simp -dsimp only [vend, ne_eq, Nat.reduceEqDiff, reduceCtorEq]
    refine AWP.cover (τ := ⟨91, [(0, eT L), (1, aI k), (2, eII before), (7, .ip none [.v (.int .i64 u.kind), .v (.int .i64 u.row), .lst 1 (u.path.map aI) .sh, .lst 1 (u.names.map nS) .sh, .lst 1 (u.words.map aI) .sh, .lst 1 (u.kids.map aI) .sh])], [.gone]⟩) ?_ ?_
    rotate_left
    ·refine ⟨rfl, ?_, ?_⟩
     rotate_left
     simp -dsimp only [simprocAttr, ↓vpre, zpm, Says, exists_eq_left', Option.some.injEq, sub_self, and_assoc, true_and, and_true]
     rfl
    first | refine zg1 ?_ | refine zg0 ?_ | refine zg2 ?_ | refine zg3 ?_
    simp -dsimp only [simprocAttr, ↓vpre, zpm]
    refine at_intro ?_
    simp -dsimp only [vend, ne_eq, Nat.reduceEqDiff, reduceCtorEq]
    first | refine awp_block (awp_loop (ι := {j : Nat // j ≤ before.length}) (fun j => ⟨91, [(0, eT L), (1, aI k), (2, eII before), (7, .ip none [.v (.int .i64 u.kind), .v (.int .i64 u.row), .lst 1 (u.path.map aI) .sh, .lst 1 (u.names.map nS) .sh, .lst 1 (u.words.map aI) .sh, .lst 1 (u.kids.map aI) .sh]), (28, eII before), (29, aI before.length), (30, aI j.1)], [.gone]⟩) (fun j => before.length - j.1) ⟨0, by omega⟩ ?_ ?_) | refine awp_seq (awp_block (awp_loop (ι := {j : Nat // j ≤ before.length}) (fun j => ⟨91, [(0, eT L), (1, aI k), (2, eII before), (7, .ip none [.v (.int .i64 u.kind), .v (.int .i64 u.row), .lst 1 (u.path.map aI) .sh, .lst 1 (u.names.map nS) .sh, .lst 1 (u.words.map aI) .sh, .lst 1 (u.kids.map aI) .sh]), (28, eII before), (29, aI before.length), (30, aI j.1)], [.gone]⟩) (fun j => before.length - j.1) ⟨0, by omega⟩ ?_ ?_))
    ·refine ⟨rfl, ?_, ?_⟩
     rotate_left
     simp -dsimp only [simprocAttr, ↓vpre, zpm, Says, exists_eq_left', Option.some.injEq, sub_self, and_assoc, true_and, and_true]
     rfl
    ·rintro ⟨j, hj⟩
     first | refine zg1 ?_ | refine zg0 ?_ | refine zg2 ?_ | refine zg3 ?_
     simp -dsimp only [simprocAttr, ↓vpre, zpm]
     refine at_intro ?_
     simp -dsimp only [vend, ne_eq, Nat.reduceEqDiff, reduceCtorEq]
     first | refine zk1 rfl (fun h => ?_) (fun h => ?_) | refine zk0 rfl (fun h => ?_) (fun h => ?_) | refine zk2 rfl (fun h => ?_) (fun h => ?_)
     ·refine awp_skip ?_
      simp -dsimp only [vend, ne_eq, Nat.reduceEqDiff, reduceCtorEq]
      have hlt : j < before.length := by simpa using h
      obtain ⟨p, hp⟩ : ∃ p, before[j]? = some p := ⟨before[j], by simp [hlt]⟩
      have hsm := hsame p (List.mem_of_getElem? hp)
      first | refine awp_seq (awp_block ?_) | refine awp_block ?_
      first | refine zg1 ?_ | refine zg0 ?_ | refine zg2 ?_ | refine zg3 ?_
      simp -dsimp only [simprocAttr, ↓vpre, zpm, hp]
      refine at_intro ?_
      simp -dsimp only [vend, ne_eq, Nat.reduceEqDiff, reduceCtorEq]
      first | refine zg1 ?_ | refine zg0 ?_ | refine zg2 ?_ | refine zg3 ?_
      simp -dsimp only [simprocAttr, ↓vpre, zpm]
      refine .inl ⟨_, sameInts_spec p u.path, by first | (simp only [uptoL, AVal.upto, zt, zum]; done) | (simp [uptoL, AVal.upto, zum]; done), later_intro ?_⟩
      simp -dsimp only [simprocAttr, ↓vpre, zpm, hsm]
      refine at_intro ?_
      simp -dsimp only [vend, ne_eq, Nat.reduceEqDiff, reduceCtorEq]
      first | refine zk1 rfl (fun h => ?_) (fun h => ?_) | refine zk0 rfl (fun h => ?_) (fun h => ?_) | refine zk2 rfl (fun h => ?_) (fun h => ?_)
      ·cases h
      ·refine awp_skip ?_
       simp -dsimp only [vend, ne_eq, Nat.reduceEqDiff, reduceCtorEq]
       first | refine zg1 ?_ | refine zg0 ?_ | refine zg2 ?_ | refine zg3 ?_
       simp -dsimp only [simprocAttr, ↓vpre, zpm]
       repeat (refine ⟨by omega, ?_⟩)
       refine at_intro ?_
       simp -dsimp only [vend, ne_eq, Nat.reduceEqDiff, reduceCtorEq]
       refine ⟨⟨j + 1, hlt⟩, by simp; omega, ?_⟩
       refine ⟨rfl, ?_, ?_⟩
       rotate_left
       simp -dsimp only [simprocAttr, ↓vpre, zpm, Says, exists_eq_left', Option.some.injEq, sub_self, and_assoc, true_and, and_true]
       ·exact Sub.int (by simp)
       ·rfl
     ·refine awp_exit ?_
      simp -dsimp only [vend, ne_eq, Nat.reduceEqDiff, reduceCtorEq]
      first | refine zg1 ?_ | refine zg0 ?_ | refine zg2 ?_ | refine zg3 ?_
      simp -dsimp only [simprocAttr, ↓vpre, zpm]
      refine at_intro ?_
      simp -dsimp only [vend, ne_eq, Nat.reduceEqDiff, reduceCtorEq]
      first | refine zg1 ?_ | refine zg0 ?_ | refine zg2 ?_ | refine zg3 ?_
      simp -dsimp only [simprocAttr, ↓vpre, zpm]
      refine at_intro ?_
      simp -dsimp only [vend, ne_eq, Nat.reduceEqDiff, reduceCtorEq]
      first | refine awp_mid0 (⟨91, [(0, eT L), (1, aI k), (2, eII before), (7, .ip none [.v (.int .i64 u.kind), .v (.int .i64 u.row), .lst 1 (u.path.map aI) .sh, .lst 1 (u.names.map nS) .sh, .lst 1 (u.words.map aI) .sh, .lst 1 (u.kids.map aI) .sh])], [.gone]⟩) ?_ ?_ | refine awp_mid (⟨91, [(0, eT L), (1, aI k), (2, eII before), (7, .ip none [.v (.int .i64 u.kind), .v (.int .i64 u.row), .lst 1 (u.path.map aI) .sh, .lst 1 (u.names.map nS) .sh, .lst 1 (u.words.map aI) .sh, .lst 1 (u.kids.map aI) .sh])], [.gone]⟩) ?_ ?_ | refine awp_mid2 (⟨91, [(0, eT L), (1, aI k), (2, eII before), (7, .ip none [.v (.int .i64 u.kind), .v (.int .i64 u.row), .lst 1 (u.path.map aI) .sh, .lst 1 (u.names.map nS) .sh, .lst 1 (u.words.map aI) .sh, .lst 1 (u.kids.map aI) .sh])], [.gone]⟩) ?_ ?_
      ·first | refine zk1 rfl (fun h => ?_) (fun h => ?_) | refine zk0 rfl (fun h => ?_) (fun h => ?_) | refine zk2 rfl (fun h => ?_) (fun h => ?_)
       ·have hlong : 1 < u.path.length := by
         have h4 : (1 : Int) < u.path.length := of_decide_eq_true h
         omega
        have hin : u.path.dropLast ∈ before := hled.resolve_left (by omega)
        first | refine zg1 ?_ | refine zg0 ?_ | refine zg2 ?_ | refine zg3 ?_
        simp -dsimp only [simprocAttr, ↓vpre, zpm]
        refine at_intro ?_
        simp -dsimp only [vend, ne_eq, Nat.reduceEqDiff, reduceCtorEq]
        first | refine zg1 ?_ | refine zg0 ?_ | refine zg2 ?_ | refine zg3 ?_
        simp -dsimp only [simprocAttr, ↓vpre, zpm]
        refine at_intro ?_
        simp -dsimp only [vend, ne_eq, Nat.reduceEqDiff, reduceCtorEq]
        first | refine awp_block (awp_loop (ι := {j : Nat // j ≤ before.length}) (fun j => ⟨91, [(0, eT L), (1, aI k), (2, eII before), (7, .ip none [.v (.int .i64 u.kind), .v (.int .i64 u.row), .lst 1 (u.path.map aI) .sh, .lst 1 (u.names.map nS) .sh, .lst 1 (u.words.map aI) .sh, .lst 1 (u.kids.map aI) .sh]), (10, aI u.path.length), (11, aB ((before.take j.1).any fun p => decide (p = u.path.dropLast))), (44, eII before), (45, aI before.length), (46, aI j.1)], [.gone]⟩) (fun j => before.length - j.1) ⟨0, by omega⟩ ?_ ?_) | refine awp_seq (awp_block (awp_loop (ι := {j : Nat // j ≤ before.length}) (fun j => ⟨91, [(0, eT L), (1, aI k), (2, eII before), (7, .ip none [.v (.int .i64 u.kind), .v (.int .i64 u.row), .lst 1 (u.path.map aI) .sh, .lst 1 (u.names.map nS) .sh, .lst 1 (u.words.map aI) .sh, .lst 1 (u.kids.map aI) .sh]), (10, aI u.path.length), (11, aB ((before.take j.1).any fun p => decide (p = u.path.dropLast))), (44, eII before), (45, aI before.length), (46, aI j.1)], [.gone]⟩) (fun j => before.length - j.1) ⟨0, by omega⟩ ?_ ?_))
        ·refine ⟨rfl, ?_, ?_⟩
         rotate_left
         simp -dsimp only [simprocAttr, ↓vpre, zpm, Says, exists_eq_left', Option.some.injEq, sub_self, and_assoc, true_and, and_true]
         ·exact Sub.refl _
         ·rfl
        ·rintro ⟨j, hj⟩
         first | refine zg1 ?_ | refine zg0 ?_ | refine zg2 ?_ | refine zg3 ?_
         simp -dsimp only [simprocAttr, ↓vpre, zpm]
         refine at_intro ?_
         simp -dsimp only [vend, ne_eq, Nat.reduceEqDiff, reduceCtorEq]
         first | refine zk1 rfl (fun h => ?_) (fun h => ?_) | refine zk0 rfl (fun h => ?_) (fun h => ?_) | refine zk2 rfl (fun h => ?_) (fun h => ?_)
         ·refine awp_skip ?_
          simp -dsimp only [vend, ne_eq, Nat.reduceEqDiff, reduceCtorEq]
          have hlt : j < before.length := by simpa using h
          obtain ⟨p, hp⟩ : ∃ p, before[j]? = some p := ⟨before[j], by simp [hlt]⟩
          have hnx : (before.take (j + 1)).any (fun p => decide (p = u.path.dropLast)) = ((before.take j).any (fun p => decide (p = u.path.dropLast)) || decide (p = u.path.dropLast)) := by
           rw [take_next hp]
           simp
          have hdl : u.path.take ((u.path.length : Int) - 1).toNat = u.path.dropLast := by
           rw [List.dropLast_eq_take]
           congr 1
           omega
          generalize (before.take j).any (fun p => decide (p = u.path.dropLast)) = fnd at hnx
          first | refine awp_seq (awp_block ?_) | refine awp_block ?_
          first | refine zg1 ?_ | refine zg0 ?_ | refine zg2 ?_ | refine zg3 ?_
          simp -dsimp only [simprocAttr, ↓vpre, zpm, hp]
          refine at_intro ?_
          simp -dsimp only [vend, ne_eq, Nat.reduceEqDiff, reduceCtorEq]
          cases fnd with
          | true =>
           first | refine zg1 ?_ | refine zg0 ?_ | refine zg2 ?_ | refine zg3 ?_
           simp -dsimp only [simprocAttr, ↓vpre, zpm]
           refine at_intro ?_
           simp -dsimp only [vend, ne_eq, Nat.reduceEqDiff, reduceCtorEq]
           first | refine zg1 ?_ | refine zg0 ?_ | refine zg2 ?_ | refine zg3 ?_
           simp -dsimp only [simprocAttr, ↓vpre, zpm]
           repeat (refine ⟨by omega, ?_⟩)
           refine at_intro ?_
           simp -dsimp only [vend, ne_eq, Nat.reduceEqDiff, reduceCtorEq]
           refine ⟨⟨j + 1, hlt⟩, by simp; omega, ?_⟩
           refine ⟨rfl, ?_, ?_⟩
           rotate_left
           simp -dsimp only [simprocAttr, ↓vpre, zpm, Says, exists_eq_left', Option.some.injEq, sub_self, and_assoc, true_and, and_true]
           ·exact ⟨by rw [hnx]; exact Sub.refl _, Sub.int (by simp)⟩
           ·rfl
          | false =>
           first | refine zg1 ?_ | refine zg0 ?_ | refine zg2 ?_ | refine zg3 ?_
           simp -dsimp only [simprocAttr, ↓vpre, zpm, ← List.map_take, hdl]
           repeat (refine ⟨by omega, ?_⟩)
           refine .inl ⟨_, sameInts_spec p u.path.dropLast, by first | (simp only [uptoL, AVal.upto, zt, zum]; done) | (simp [uptoL, AVal.upto, zum]; done), later_intro ?_⟩
           simp -dsimp only [simprocAttr, ↓vpre, zpm]
           refine at_intro ?_
           simp -dsimp only [vend, ne_eq, Nat.reduceEqDiff, reduceCtorEq]
           first | refine zg1 ?_ | refine zg0 ?_ | refine zg2 ?_ | refine zg3 ?_
           simp -dsimp only [simprocAttr, ↓vpre, zpm]
           repeat (refine ⟨by omega, ?_⟩)
           refine at_intro ?_
           simp -dsimp only [vend, ne_eq, Nat.reduceEqDiff, reduceCtorEq]
           refine ⟨⟨j + 1, hlt⟩, by simp; omega, ?_⟩
           refine ⟨rfl, ?_, ?_⟩
           rotate_left
           simp -dsimp only [simprocAttr, ↓vpre, zpm, Says, exists_eq_left', Option.some.injEq, sub_self, and_assoc, true_and, and_true]
           ·exact ⟨by rw [hnx]; exact Sub.refl _, Sub.int (by simp)⟩
           ·rfl
         ·refine awp_exit ?_
          simp -dsimp only [vend, ne_eq, Nat.reduceEqDiff, reduceCtorEq]
          have hjj : j = before.length := by simp at h; omega
          subst hjj
          have hfd : (before.take before.length).any (fun p => decide (p = u.path.dropLast)) = true := by
           rw [List.take_length, List.any_eq_true]
           exact ⟨_, hin, by simp⟩
          first | refine zg1 ?_ | refine zg0 ?_ | refine zg2 ?_ | refine zg3 ?_
          simp -dsimp only [simprocAttr, ↓vpre, zpm, hfd]
          refine at_intro ?_
          simp -dsimp only [vend, ne_eq, Nat.reduceEqDiff, reduceCtorEq]
          first | refine zk1 rfl (fun h => ?_) (fun h => ?_) | refine zk0 rfl (fun h => ?_) (fun h => ?_) | refine zk2 rfl (fun h => ?_) (fun h => ?_)
          ·cases h
          ·refine awp_skip ?_
           show Covers _ _
           refine ⟨rfl, ?_, ?_⟩
           rotate_left
           simp -dsimp only [simprocAttr, ↓vpre, zpm, Says, exists_eq_left', Option.some.injEq, sub_self, and_assoc, true_and, and_true]
           rfl
       ·refine awp_skip ?_
        show Covers _ _
        refine ⟨rfl, ?_, ?_⟩
        rotate_left
        simp -dsimp only [simprocAttr, ↓vpre, zpm, Says, exists_eq_left', Option.some.injEq, sub_self, and_assoc, true_and, and_true]
        rfl
      ·first | refine zg1 ?_ | refine zg0 ?_ | refine zg2 ?_ | refine zg3 ?_
       simp -dsimp only [simprocAttr, ↓vpre, zpm]
       refine at_intro ?_
       simp -dsimp only [vend, ne_eq, Nat.reduceEqDiff, reduceCtorEq]
       first | refine awp_block (awp_loop (ι := {n : Nat // n ≤ u.kids.length}) (fun n => ⟨91, [(0, eT L), (1, aI k), (2, eII before), (7, .ip none [.v (.int .i64 u.kind), .v (.int .i64 u.row), .lst 1 (u.path.map aI) .sh, .lst 1 (u.names.map nS) .sh, .lst 1 (u.words.map aI) .sh, .lst 1 (u.kids.map aI) .sh]), (64, eI u.kids), (65, aI u.kids.length), (66, aI n.1)], [.gone]⟩) (fun n => u.kids.length - n.1) ⟨0, by omega⟩ ?_ ?_) | refine awp_seq (awp_block (awp_loop (ι := {n : Nat // n ≤ u.kids.length}) (fun n => ⟨91, [(0, eT L), (1, aI k), (2, eII before), (7, .ip none [.v (.int .i64 u.kind), .v (.int .i64 u.row), .lst 1 (u.path.map aI) .sh, .lst 1 (u.names.map nS) .sh, .lst 1 (u.words.map aI) .sh, .lst 1 (u.kids.map aI) .sh]), (64, eI u.kids), (65, aI u.kids.length), (66, aI n.1)], [.gone]⟩) (fun n => u.kids.length - n.1) ⟨0, by omega⟩ ?_ ?_))
       ·refine ⟨rfl, ?_, ?_⟩
        rotate_left
        simp -dsimp only [simprocAttr, ↓vpre, zpm, Says, exists_eq_left', Option.some.injEq, sub_self, and_assoc, true_and, and_true]
        rfl
       ·rintro ⟨n, hn⟩
        first | refine zg1 ?_ | refine zg0 ?_ | refine zg2 ?_ | refine zg3 ?_
        simp -dsimp only [simprocAttr, ↓vpre, zpm]
        refine at_intro ?_
        simp -dsimp only [vend, ne_eq, Nat.reduceEqDiff, reduceCtorEq]
        first | refine zk1 rfl (fun h => ?_) (fun h => ?_) | refine zk0 rfl (fun h => ?_) (fun h => ?_) | refine zk2 rfl (fun h => ?_) (fun h => ?_)
        ·refine awp_skip ?_
         simp -dsimp only [vend, ne_eq, Nat.reduceEqDiff, reduceCtorEq]
         have hlt : n < u.kids.length := by simpa using h
         obtain ⟨y, hy⟩ : ∃ y, u.kids[n]? = some y := ⟨u.kids[n], by simp [hlt]⟩
         first | refine awp_seq (awp_block ?_) | refine awp_block ?_
         first | refine zg1 ?_ | refine zg0 ?_ | refine zg2 ?_ | refine zg3 ?_
         simp -dsimp only [simprocAttr, ↓vpre, zpm, hy]
         refine at_intro ?_
         simp -dsimp only [vend, ne_eq, Nat.reduceEqDiff, reduceCtorEq]
         by_cases h0 : 0 ≤ y
         ·have hc1 : decide (0 ≤ y) = true := decide_eq_true h0
          by_cases h1 : y < (k : Int)
          ·have hc2 : decide (y < (k : Int)) = true := decide_eq_true h1
           have hrec := ih y.toNat (before ++ [u.path]) (hkids y (List.mem_of_getElem? hy) h0 h1) (by simp; omega)
           rw [Int.toNat_of_nonneg h0] at hrec
           have happ : (before ++ [u.path]).map eI = before.map eI ++ [.lst 1 (u.path.map aI) .sh] := by simp
           have hupx : uptoL 0 [.lst 6 (L.map MTree.enc) .sh, .v (.int .i64 y), .lst 1 (before.map eI ++ [.lst 1 (u.path.map aI) .sh]) .sh] := by
            rw [← happ]
            simp [uptoL, AVal.upto, eI_upto, MTree.map_upto, -List.map_append]
           have hrec : PCall Try.prog 23 [.lst 6 (L.map MTree.enc) .sh, .v (.int .i64 y), .lst 1 ((before ++ [u.path]).map eI) .sh] (.v (.bool true)) := hrec
           rw [happ] at hrec
           first | refine zg1 ?_ | refine zg0 ?_ | refine zg2 ?_ | refine zg3 ?_
           simp -dsimp only [simprocAttr, ↓vpre, zpm, hc1, hc2]
           repeat (refine ⟨by omega, ?_⟩)
           refine .inl ⟨_, hrec, hupx, later_intro ?_⟩
           simp -dsimp only [simprocAttr, ↓vpre, zpm]
           refine ⟨by (show orderB _ _ = true); kernel_rfl, at_intro ?_⟩
           simp -dsimp only [vend, ne_eq, Nat.reduceEqDiff, reduceCtorEq]
           first | refine zk1 rfl (fun h => ?_) (fun h => ?_) | refine zk0 rfl (fun h => ?_) (fun h => ?_) | refine zk2 rfl (fun h => ?_) (fun h => ?_)
           ·cases h
           ·refine awp_skip ?_
            simp -dsimp only [vend, ne_eq, Nat.reduceEqDiff, reduceCtorEq]
            refine awp_trunc' 1 [(0, eT L), (1, aI k), (2, eII before), (7, .ip none [.v (.int .i64 u.kind), .v (.int .i64 u.row), .lst 1 (u.path.map aI) .sh, .lst 1 (u.names.map nS) .sh, .lst 1 (u.words.map aI) .sh, .lst 1 (u.kids.map aI) .sh]), (64, eI u.kids), (65, aI u.kids.length), (66, aI n)] (by first | omega | (simp; done) | (simp; omega)) (by first | omega | (simp; done) | (simp; omega)) [.gone] ?_ ?_ ?_ ?_ ?_
            ·rfl
            ·simp [AObj.upto]
            ·simp -dsimp only [simprocAttr, ↓vpre, zpm, Says, exists_eq_left', Option.some.injEq, sub_self, and_true]
            ·simp [AVal.upto, uptoL, MTree.map_upto, eI_upto, aI_upto, nS_upto]
            first | refine zg1 ?_ | refine zg0 ?_ | refine zg2 ?_ | refine zg3 ?_
            simp -dsimp only [simprocAttr, ↓vpre, zpm]
            repeat (refine ⟨by omega, ?_⟩)
            refine at_intro ?_
            simp -dsimp only [vend, ne_eq, Nat.reduceEqDiff, reduceCtorEq]
            refine ⟨⟨n + 1, hlt⟩, by simp; omega, ?_⟩
            refine ⟨rfl, ?_, ?_⟩
            rotate_left
            simp -dsimp only [simprocAttr, ↓vpre, zpm, Says, exists_eq_left', Option.some.injEq, sub_self, and_assoc, true_and, and_true]
            ·exact Sub.int (by simp)
            ·rfl
          ·have hc2 : decide (y < (k : Int)) = false := decide_eq_false h1
           first | refine zg1 ?_ | refine zg0 ?_ | refine zg2 ?_ | refine zg3 ?_
           simp -dsimp only [simprocAttr, ↓vpre, zpm, hc1, hc2]
           refine ⟨by (show orderB _ _ = true); kernel_rfl, at_intro ?_⟩
           simp -dsimp only [vend, ne_eq, Nat.reduceEqDiff, reduceCtorEq]
           first | refine zk1 rfl (fun h => ?_) (fun h => ?_) | refine zk0 rfl (fun h => ?_) (fun h => ?_) | refine zk2 rfl (fun h => ?_) (fun h => ?_)
           ·cases h
           ·refine awp_skip ?_
            simp -dsimp only [vend, ne_eq, Nat.reduceEqDiff, reduceCtorEq]
            first | refine zg1 ?_ | refine zg0 ?_ | refine zg2 ?_ | refine zg3 ?_
            simp -dsimp only [simprocAttr, ↓vpre, zpm]
            repeat (refine ⟨by omega, ?_⟩)
            refine at_intro ?_
            simp -dsimp only [vend, ne_eq, Nat.reduceEqDiff, reduceCtorEq]
            refine ⟨⟨n + 1, hlt⟩, by simp; omega, ?_⟩
            refine ⟨rfl, ?_, ?_⟩
            rotate_left
            simp -dsimp only [simprocAttr, ↓vpre, zpm, Says, exists_eq_left', Option.some.injEq, sub_self, and_assoc, true_and, and_true]
            ·exact Sub.int (by simp)
            ·rfl
         ·have hc1 : decide (0 ≤ y) = false := decide_eq_false h0
          first | refine zg1 ?_ | refine zg0 ?_ | refine zg2 ?_ | refine zg3 ?_
          simp -dsimp only [simprocAttr, ↓vpre, zpm, hc1]
          refine ⟨by (show orderB _ _ = true); kernel_rfl, at_intro ?_⟩
          simp -dsimp only [vend, ne_eq, Nat.reduceEqDiff, reduceCtorEq]
          first | refine zk1 rfl (fun h => ?_) (fun h => ?_) | refine zk0 rfl (fun h => ?_) (fun h => ?_) | refine zk2 rfl (fun h => ?_) (fun h => ?_)
          ·cases h
          ·refine awp_skip ?_
           simp -dsimp only [vend, ne_eq, Nat.reduceEqDiff, reduceCtorEq]
           first | refine zg1 ?_ | refine zg0 ?_ | refine zg2 ?_ | refine zg3 ?_
           simp -dsimp only [simprocAttr, ↓vpre, zpm]
           repeat (refine ⟨by omega, ?_⟩)
           refine at_intro ?_
           simp -dsimp only [vend, ne_eq, Nat.reduceEqDiff, reduceCtorEq]
           refine ⟨⟨n + 1, hlt⟩, by simp; omega, ?_⟩
           refine ⟨rfl, ?_, ?_⟩
           rotate_left
           simp -dsimp only [simprocAttr, ↓vpre, zpm, Says, exists_eq_left', Option.some.injEq, sub_self, and_assoc, true_and, and_true]
           ·exact Sub.int (by simp)
           ·rfl
        ·refine awp_exit ?_
         simp -dsimp only [vend, ne_eq, Nat.reduceEqDiff, reduceCtorEq]
         first | refine zg1 ?_ | refine zg0 ?_ | refine zg2 ?_ | refine zg3 ?_
         simp -dsimp only [simprocAttr, ↓vpre, zpm]
         refine at_intro ?_
         simp -dsimp only [vend, ne_eq, Nat.reduceEqDiff, reduceCtorEq]
         refine awp_ret ?_
         simp -dsimp only [simprocAttr, ↓vpre, zpm, RetTo, Try.results23, retVals, retVal, mkRet, AVal.upto, Nat.zero_le, Nat.le_refl, seqPost_ret, blockPost_ret, loopPost_ret]
  ·exact FSub.mp rfl rfl
 ·have hb : (!decide (u.kind = 2)) = true := by
   simp
   exact fun e => hk (.inl e)
  have hb' : (!decide (u.kind = 3)) = true := by
   simp
   exact fun e => hk (.inr e)
  refine ecall_of hT true 0 Try.func23 rfl (by kernel_rfl) (by simp [Try.ntmps23]) (by simp) ?_
  show AWP Try.prog _ _ _ ⟨91, _, _⟩
  dsimp only [Tmp, TypeId, slotsOf]
  first | refine zg1 ?_ | refine zg0 ?_ | refine zg2 ?_ | refine zg3 ?_
  simp -dsimp only [simprocAttr, ↓vpre, zpm]
  refine at_intro ?_
  simp -dsimp only [vend, ne_eq, Nat.reduceEqDiff, reduceCtorEq]
  first | refine zg1 ?_ | refine zg0 ?_ | refine zg2 ?_ | refine zg3 ?_
  simp -dsimp only [simprocAttr, ↓vpre, zpm, hu]
  refine at_intro ?_
  simp -dsimp only [vend, ne_eq, Nat.reduceEqDiff, reduceCtorEq]
  refine awp_freeze1 7 0 (.ip none u.enc.cells) rfl (by simp [AObj.isSpare]) trivial rfl ?_ ?_
  rotate_left
  simp -dsimp only [simprocAttr, ↓vpre, zpm]
  ·first | refine zg1 ?_ | refine zg0 ?_ | refine zg2 ?_ | refine zg3 ?_
   simp -dsimp only [simprocAttr, ↓vpre, zpm, hb, hb']
   refine at_intro ?_
   simp -dsimp only [vend, ne_eq, Nat.reduceEqDiff, reduceCtorEq]
   first | refine zk1 rfl (fun h => ?_) (fun h => ?_) | refine zk0 rfl (fun h => ?_) (fun h => ?_) | refine zk2 rfl (fun h => ?_) (fun h => ?_)
   ·first | refine zg1 ?_ | refine zg0 ?_ | refine zg2 ?_ | refine zg3 ?_
    simp -dsimp only [simprocAttr, ↓vpre, zpm]
    refine at_intro ?_
    simp -dsimp only [vend, ne_eq, Nat.reduceEqDiff, reduceCtorEq]
    refine awp_ret ?_
    simp -dsimp only [simprocAttr, ↓vpre, zpm, RetTo, Try.results23, retVals, retVal, mkRet, AVal.upto, Nat.zero_le, Nat.le_refl, seqPost_ret, blockPost_ret, loopPost_ret]
   ·cases h
  ·exact FSub.mp rfl rfl

theorem once_spec {L : List MTree} (hL : L.length ≤ 2 ^ 20) (hpl : ∀ (i : Nat) u, L[i]? = some u → u.path.length ≤ 2 ^ 19 ∧ u.kids.length ≤ 1000) : ∀ (f k : Nat) (before : List (List Int)), OnceP L f k before → before.length + f ≤ 2 ^ 20 → PCall Try.prog 23 [eT L, aI k, eII before] (.v (.bool true))
 | 0, _, _, h, _ => h.elim
 | f + 1, k, before, h, hb => once_step hL hpl f (once_spec hL hpl f) k before h hb

end Go.Proofs.Ytakdmelemfnmdaa
end

section
set_option linter.unusedSimpArgs false
set_option maxRecDepth 100000
set_option maxHeartbeats 2000000
-- !tab vtab vmat
-- !upto Pat.enc_upto Pat.map_upto MRow.enc_upto MRow.map_upto aI_upto eI_upto nS_upto MTree.enc_upto MTree.map_upto
namespace Go.Proofs.Ytakdmelemfnmdaa
open Go.Av

theorem nodesL_snoc (l : List Pat) (p : Pat) : nodesL (l ++ [p]) = nodesL l + p.nodes := by
 induction l with
 | nil => simp [nodesL]
 | cons q r ih =>
  rw [List.cons_append, nodesL, nodesL, ih]
  omega

theorem nodes_step (n : Nat) (ih : ∀ l : List Pat, nodesL l < n → PCall Try.prog 19 [eR l] (aI (nodesL l))) (l : List Pat) (hl : nodesL l ≤ n) (hb : nodesL l ≤ 2 ^ 30) : PCall Try.prog 19 [eR l] (aI (nodesL l)) := by
 have hlen := nodesL_len l
 have hsub : ∀ p ∈ l, nodesL p.args < n ∧ nodesL p.args + 1 ≤ nodesL l := fun p hp => by
  have h1 := nodesL_mem hp
  rw [Pat.nodes_eq] at h1
  omega
 have hbnd : ∀ k, l.length + nodesL (l.take k) ≤ 2 ^ 32 := fun k => by
  have : nodesL (l.take k) ≤ nodesL l := by
   have := congrArg nodesL (List.take_append_drop k l)
   have happ : ∀ a b : List Pat, nodesL (a ++ b) = nodesL a + nodesL b := fun a b => by
    induction a with
    | nil => simp [nodesL]
    | cons q r ih =>
     rw [List.cons_append, nodesL, nodesL, ih]
     omega
   rw [happ] at this
   omega
  omega
 have hle : ∀ k, (l.take k).length ≤ nodesL (l.take k) := fun k => nodesL_len _
 refine ecall_of hT true 0 Try.func19 rfl (by kernel_rfl) (by simp [Try.ntmps19]) (by simp) ?_
 show AWP Try.prog _ _ _ ⟨21, _, _⟩
 dsimp only [Tmp, TypeId, slotsOf]
 first | refine zg1 ?_ | refine zg0 ?_ | refine zg2 ?_ | refine zg3 ?_
 simp -dsimp only [simprocAttr, ↓vpre, zpm]
 refine at_intro ?_
 simp -dsimp only [vend, ne_eq, Nat.reduceEqDiff, reduceCtorEq]
 first | refine zg1 ?_ | refine zg0 ?_ | refine zg2 ?_ | refine zg3 ?_
 simp -dsimp only [simprocAttr, ↓vpre, zpm]
 refine at_intro ?_
 simp -dsimp only [vend, ne_eq, Nat.reduceEqDiff, reduceCtorEq]
 first | refine zg1 ?_ | refine zg0 ?_ | refine zg2 ?_ | refine zg3 ?_
 simp -dsimp only [simprocAttr, ↓vpre, zpm]
 refine at_intro ?_
 simp -dsimp only [vend, ne_eq, Nat.reduceEqDiff, reduceCtorEq]
 first | refine awp_block (awp_loop (ι := {k : Nat // k ≤ l.length}) (fun k => ⟨21, [(8, eR l), (9, aI l.length), (10, aI k.1), (3, aI (l.length + nodesL (l.take k.1) - k.1))], []⟩) (fun k => l.length - k.1) ⟨0, by omega⟩ ?_ ?_) | refine awp_seq (awp_block (awp_loop (ι := {k : Nat // k ≤ l.length}) (fun k => ⟨21, [(8, eR l), (9, aI l.length), (10, aI k.1), (3, aI (l.length + nodesL (l.take k.1) - k.1))], []⟩) (fun k => l.length - k.1) ⟨0, by omega⟩ ?_ ?_))
 ·refine ⟨rfl, ?_, ?_⟩
  rotate_left
  simp -dsimp only [simprocAttr, ↓vpre, zpm, Says, exists_eq_left', Option.some.injEq, sub_self, and_assoc, true_and, and_true]
  ·exact Sub.int (by simp [nodesL])
  ·rfl
 ·rintro ⟨k, hk⟩
  first | refine zg1 ?_ | refine zg0 ?_ | refine zg2 ?_ | refine zg3 ?_
  simp -dsimp only [simprocAttr, ↓vpre, zpm]
  refine at_intro ?_
  simp -dsimp only [vend, ne_eq, Nat.reduceEqDiff, reduceCtorEq]
  first | refine zk1 rfl (fun h => ?_) (fun h => ?_) | refine zk0 rfl (fun h => ?_) (fun h => ?_) | refine zk2 rfl (fun h => ?_) (fun h => ?_)
  ·refine awp_skip ?_
   simp -dsimp only [vend, ne_eq, Nat.reduceEqDiff, reduceCtorEq]
   have hlt : k < l.length := by simpa using h
   obtain ⟨p, hp⟩ : ∃ p, l[k]? = some p := ⟨l[k], by simp [hlt]⟩
   have hs := hsub p (List.mem_of_getElem? hp)
   have e : nodesL (l.take (k + 1)) = nodesL (l.take k) + (1 + nodesL p.args) := by
    rw [take_next hp, nodesL_snoc, Pat.nodes_eq]
   have h1 := hbnd k
   have h2 := hbnd (k + 1)
   have h3 := hle k
   simp only [List.length_take] at h3
   first | refine awp_seq (awp_block ?_) | refine awp_block ?_
   first | refine zg1 ?_ | refine zg0 ?_ | refine zg2 ?_ | refine zg3 ?_
   simp -dsimp only [simprocAttr, ↓vpre, zpm, hp]
   refine at_intro ?_
   simp -dsimp only [vend, ne_eq, Nat.reduceEqDiff, reduceCtorEq]
   first | refine zg1 ?_ | refine zg0 ?_ | refine zg2 ?_ | refine zg3 ?_
   simp -dsimp only [simprocAttr, ↓vpre, zpm]
   refine .inl ⟨_, ih p.args hs.1, by first | (simp only [uptoL, AVal.upto, zt, zum]; done) | (simp [uptoL, AVal.upto, zum]; done), later_intro ?_⟩
   simp -dsimp only [simprocAttr, ↓vpre, zpm]
   repeat (refine ⟨by omega, ?_⟩)
   refine at_intro ?_
   simp -dsimp only [vend, ne_eq, Nat.reduceEqDiff, reduceCtorEq]
   refine awp_trunc' 0 [(8, eR l), (9, aI l.length), (10, aI k), (3, aI (l.length + nodesL (l.take (k + 1)) - (k + 1 : Nat)))] (by first | omega | (simp; done) | (simp; omega)) (by first | omega | (simp; done) | (simp; omega)) [] ?_ ?_ ?_ ?_ ?_
   ·rfl
   ·simp
   ·simp -dsimp only [simprocAttr, ↓vpre, zpm, Says, exists_eq_left', Option.some.injEq, sub_self, and_true]
    exact Sub.int (by rw [e]; omega)
   ·simp [AVal.upto, uptoL, Pat.map_upto]
   first | refine zg1 ?_ | refine zg0 ?_ | refine zg2 ?_ | refine zg3 ?_
   simp -dsimp only [simprocAttr, ↓vpre, zpm]
   repeat (refine ⟨by omega, ?_⟩)
   refine at_intro ?_
   simp -dsimp only [vend, ne_eq, Nat.reduceEqDiff, reduceCtorEq]
   refine ⟨⟨k + 1, hlt⟩, by simp; omega, ?_⟩
   refine ⟨rfl, ?_, ?_⟩
   rotate_left
   simp -dsimp only [simprocAttr, ↓vpre, zpm, Says, exists_eq_left', Option.some.injEq, sub_self, and_assoc, true_and, and_true]
   ·exact Sub.int (by simp)
   ·rfl
  ·refine awp_exit ?_
   simp -dsimp only [vend, ne_eq, Nat.reduceEqDiff, reduceCtorEq]
   have hlt : k = l.length := by simp at h; omega
   subst hlt
   first | refine zg1 ?_ | refine zg0 ?_ | refine zg2 ?_ | refine zg3 ?_
   simp -dsimp only [simprocAttr, ↓vpre, zpm, List.take_length]
   refine at_intro ?_
   simp -dsimp only [vend, ne_eq, Nat.reduceEqDiff, reduceCtorEq]
   refine awp_ret ?_
   simp -dsimp only [simprocAttr, ↓vpre, zpm, RetTo, Try.results19, retVals, retVal, mkRet, AVal.upto, Nat.zero_le, Nat.le_refl, seqPost_ret, blockPost_ret, loopPost_ret, List.take_length]
   congr 2
   omega

theorem nodes_spec (l : List Pat) (hb : nodesL l ≤ 2 ^ 30) : PCall Try.prog 19 [eR l] (aI (nodesL l)) := by
 suffices H : ∀ n, ∀ l : List Pat, nodesL l < n → nodesL l ≤ 2 ^ 30 → PCall Try.prog 19 [eR l] (aI (nodesL l)) from H _ l (Nat.lt_succ_self _) hb
 intro n
 induction n with
 | zero => exact fun l h => by omega
 | succ n ih => exact fun l h hb => nodes_step (nodesL l) (fun m hm => ih m (by omega) (by omega)) l (Nat.le_refl _) hb

end Go.Proofs.Ytakdmelemfnmdaa
end

section
set_option linter.unusedSimpArgs false
set_option maxRecDepth 100000
set_option maxHeartbeats 2000000
-- !tab vtab vmat
-- !upto Pat.enc_upto Pat.map_upto MRow.enc_upto MRow.map_upto aI_upto eI_upto nS_upto MTree.enc_upto MTree.map_upto
namespace Go.Proofs.Ytakdmelemfnmdaa
open Go.Av

/-- The depths that are known, and zeros. -/
def dcells (acc : List Int) (m : Nat) : List AVal := (acc ++ List.replicate m 0).map aI

theorem flat_rep (m : Nat) (x : AVal) : (List.replicate m [x]).flatten = List.replicate m x := by
 induction m with
 | zero => rfl
 | succ m ih => simp [List.replicate_succ, ih]

theorem dcells_nil (m : Nat) : (List.replicate m [AVal.v (.int .i64 0)]).flatten = dcells [] m := by
 rw [flat_rep, dcells, List.nil_append, List.map_replicate]

theorem dcells_put (A : List Int) (m : Nat) (v w : Int) {k : Nat} (hk : A.length = k) : splice (dcells (A ++ [w]) m) (k * 1) [AVal.v (.int .i64 v)] = dcells (A ++ [v]) m := by
 unfold splice dcells
 rw [Nat.mul_one, ← hk]
 simp
 rw [List.drop_append]
 simp

theorem dcells_start (A : List Int) {k n : Nat} (hk : k < n) : dcells A (n + 1 - k) = dcells (A ++ [0]) (n - k) := by
 unfold dcells
 rw [show n + 1 - k = (n - k) + 1 by omega, List.replicate_succ]
 simp

theorem dcells_len (A : List Int) (m : Nat) : (dcells A m).length = A.length + m := by
 simp [dcells]

theorem dcells_last (A : List Int) (m : Nat) (v : Int) {k : Nat} (hk : A.length = k) : (dcells (A ++ [v]) m)[k * 1]? = some (aI v) := by
 unfold dcells
 rw [Nat.mul_one, ← hk]
 simp

theorem dcells_old (A : List Int) (m : Nat) (V : Int) {y : Nat} (hy : y < A.length) : (dcells (A ++ [V]) m)[y * 1]? = some (aI ((A[y]?).getD 0)) := by
 unfold dcells
 rw [Nat.mul_one, List.getElem?_map, List.append_assoc, List.getElem?_append_left hy, List.getElem?_eq_getElem hy]
 rfl

theorem depth_spec (L : List MTree) (hL : L.length ≤ 2 ^ 20) : PCall Try.prog 20 [eT L] (aI (depthF L)) := by
 refine ecall_of hT true 0 Try.func20 rfl (by kernel_rfl) (by simp [Try.ntmps20]) (by simp) ?_
 show AWP Try.prog _ _ _ ⟨68, _, _⟩
 dsimp only [Tmp, TypeId, slotsOf]
 first | refine zg1 ?_ | refine zg0 ?_ | refine zg2 ?_ | refine zg3 ?_
 simp -dsimp only [simprocAttr, ↓vpre, zpm]
 refine at_intro ?_
 simp -dsimp only [vend, ne_eq, Nat.reduceEqDiff, reduceCtorEq]
 first | refine zg1 ?_ | refine zg0 ?_ | refine zg2 ?_ | refine zg3 ?_
 simp -dsimp only [simprocAttr, ↓vpre, zpm, toNat_succ, dcells_nil]
 repeat (refine ⟨by omega, ?_⟩)
 refine at_intro ?_
 simp -dsimp only [vend, ne_eq, Nat.reduceEqDiff, reduceCtorEq]
 first | refine zg1 ?_ | refine zg0 ?_ | refine zg2 ?_ | refine zg3 ?_
 simp -dsimp only [simprocAttr, ↓vpre, zpm]
 refine at_intro ?_
 simp -dsimp only [vend, ne_eq, Nat.reduceEqDiff, reduceCtorEq]
 first | refine awp_block (awp_loop (ι := {k : Nat // k ≤ L.length}) (fun k => ⟨68, [(0, eT L), (3, .ms 0 0 (L.length + 1) (L.length + 1)), (12, eT L), (13, aI L.length), (14, aI k.1)], [.cells (dcells (deeps [] (L.take k.1)) (L.length + 1 - k.1))]⟩) (fun k => L.length - k.1) ⟨0, by omega⟩ ?_ ?_) | refine awp_seq (awp_block (awp_loop (ι := {k : Nat // k ≤ L.length}) (fun k => ⟨68, [(0, eT L), (3, .ms 0 0 (L.length + 1) (L.length + 1)), (12, eT L), (13, aI L.length), (14, aI k.1)], [.cells (dcells (deeps [] (L.take k.1)) (L.length + 1 - k.1))]⟩) (fun k => L.length - k.1) ⟨0, by omega⟩ ?_ ?_))
 ·refine ⟨rfl, ?_, ?_⟩
  rotate_left
  simp -dsimp only [simprocAttr, ↓vpre, zpm, Says, exists_eq_left', Option.some.injEq, sub_self, and_assoc, true_and, and_true]
  rfl
 ·rintro ⟨k, hk⟩
  have hacc : (deeps [] (L.take k)).length = k := by
   rw [deeps_len, List.length_take, List.length_nil]
   omega
  have hsm := deeps_small (L.take k) [] (by simp)
  simp only
  generalize hA : deeps [] (L.take k) = A at hacc hsm
  have hkl : ¬ k = L.length → k < L.length := by omega
  first | refine zg1 ?_ | refine zg0 ?_ | refine zg2 ?_ | refine zg3 ?_
  simp -dsimp only [simprocAttr, ↓vpre, zpm]
  refine at_intro ?_
  simp -dsimp only [vend, ne_eq, Nat.reduceEqDiff, reduceCtorEq]
  first | refine zk1 rfl (fun h => ?_) (fun h => ?_) | refine zk0 rfl (fun h => ?_) (fun h => ?_) | refine zk2 rfl (fun h => ?_) (fun h => ?_)
  ·refine awp_skip ?_
   simp -dsimp only [vend, ne_eq, Nat.reduceEqDiff, reduceCtorEq]
   have hlt : k < L.length := by simpa using h
   obtain ⟨t, ht⟩ : ∃ t, L[k]? = some t := ⟨L[k], by simp [hlt]⟩
   have hnext : deeps [] (L.take (k + 1)) = A ++ [nodeDeep A t] := by
    rw [deeps_take L [] k t ht, hA]
   first | refine awp_seq (awp_block ?_) | refine awp_block ?_
   first | refine zg1 ?_ | refine zg0 ?_ | refine zg2 ?_ | refine zg3 ?_
   simp -dsimp only [simprocAttr, ↓vpre, zpm, ht]
   refine at_intro ?_
   simp -dsimp only [vend, ne_eq, Nat.reduceEqDiff, reduceCtorEq]
   refine awp_freeze1 5 1 (.ip none t.enc.cells) rfl (by simp [AObj.isSpare]) trivial rfl ?_ ?_
   rotate_left
   simp -dsimp only [simprocAttr, ↓vpre, zpm]
   ·by_cases hk' : t.kind = 2 ∨ t.kind = 3
    ·have hb : (!decide (t.kind = 2)) = false ∨ (!decide (t.kind = 2)) = true ∧ (!decide (t.kind = 3)) = false := by
      rcases hk' with e | e <;> simp [e]
     rcases hb with hb | ⟨hb, hb'⟩
     ·first | refine zg1 ?_ | refine zg0 ?_ | refine zg2 ?_ | refine zg3 ?_
      simp -dsimp only [simprocAttr, ↓vpre, zpm, hb]
      refine at_intro ?_
      simp -dsimp only [vend, ne_eq, Nat.reduceEqDiff, reduceCtorEq]
      first | refine zk1 rfl (fun h => ?_) (fun h => ?_) | refine zk0 rfl (fun h => ?_) (fun h => ?_) | refine zk2 rfl (fun h => ?_) (fun h => ?_)
      ·cases h
      ·refine awp_skip ?_
       simp -dsimp only [vend, ne_eq, Nat.reduceEqDiff, reduceCtorEq]
       first | refine zg1 ?_ | refine zg0 ?_ | refine zg2 ?_ | refine zg3 ?_
       simp -dsimp only [simprocAttr, ↓vpre, zpm, dcells_start A hlt, dcells_put A _ _ _ hacc, dcells_len, List.length_append, List.length_singleton]
       repeat (refine ⟨by omega, ?_⟩)
       refine at_intro ?_
       simp -dsimp only [vend, ne_eq, Nat.reduceEqDiff, reduceCtorEq]
       first | refine zg1 ?_ | refine zg0 ?_ | refine zg2 ?_ | refine zg3 ?_
       simp -dsimp only [simprocAttr, ↓vpre, zpm]
       refine at_intro ?_
       simp -dsimp only [vend, ne_eq, Nat.reduceEqDiff, reduceCtorEq]
       refine awp_len 31 rfl (fun hlk => ?_)
       simp only [List.length_map] at hlk
       first | refine awp_block (awp_loop (ι := {j : Nat // j ≤ t.kids.length}) (fun j => ⟨68, [(0, eT L), (3, .ms 0 0 (L.length + 1) (L.length + 1)), (12, eT L), (13, aI L.length), (14, aI k), (4, aI k), (31, eI t.kids), (32, aI t.kids.length), (33, aI j.1)], [.cells (dcells (A ++ [(t.kids.take j.1).foldl (kidMax A) 1]) (L.length - k)), .gone]⟩) (fun j => t.kids.length - j.1) ⟨0, by omega⟩ ?_ ?_) | refine awp_seq (awp_block (awp_loop (ι := {j : Nat // j ≤ t.kids.length}) (fun j => ⟨68, [(0, eT L), (3, .ms 0 0 (L.length + 1) (L.length + 1)), (12, eT L), (13, aI L.length), (14, aI k), (4, aI k), (31, eI t.kids), (32, aI t.kids.length), (33, aI j.1)], [.cells (dcells (A ++ [(t.kids.take j.1).foldl (kidMax A) 1]) (L.length - k)), .gone]⟩) (fun j => t.kids.length - j.1) ⟨0, by omega⟩ ?_ ?_))
       ·refine ⟨rfl, ?_, ?_⟩
        rotate_left
        simp -dsimp only [simprocAttr, ↓vpre, zpm, Says, exists_eq_left', Option.some.injEq, sub_self, and_assoc, true_and, and_true]
        rfl
       ·rintro ⟨j, hj⟩
        simp only
        have hv1 := kids_ge (acc := A) (t.kids.take j) 1
        have hv2 : (t.kids.take j).foldl (kidMax A) 1 ≤ A.length + 1 := kids_le _ _ (by omega) fun y _ hy0 hy => by
         have hlt : y.toNat < A.length := by omega
         rw [List.getElem?_eq_getElem hlt, Option.getD_some]
         have := hsm _ (List.getElem_mem hlt)
         omega
        have hnx : ∀ y, t.kids[j]? = some y → (t.kids.take (j + 1)).foldl (kidMax A) 1 = kidMax A ((t.kids.take j).foldl (kidMax A) 1) y := fun y hy => by
         rw [take_next hy, List.foldl_append]
         rfl
        generalize hV : (t.kids.take j).foldl (kidMax A) 1 = V at hv1 hv2 hnx
        first | refine zg1 ?_ | refine zg0 ?_ | refine zg2 ?_ | refine zg3 ?_
        simp -dsimp only [simprocAttr, ↓vpre, zpm]
        refine at_intro ?_
        simp -dsimp only [vend, ne_eq, Nat.reduceEqDiff, reduceCtorEq]
        first | refine zk1 rfl (fun h => ?_) (fun h => ?_) | refine zk0 rfl (fun h => ?_) (fun h => ?_) | refine zk2 rfl (fun h => ?_) (fun h => ?_)
        ·refine awp_skip ?_
         simp -dsimp only [vend, ne_eq, Nat.reduceEqDiff, reduceCtorEq]
         have hltj : j < t.kids.length := by simpa using h
         obtain ⟨y, hy⟩ : ∃ y, t.kids[j]? = some y := ⟨t.kids[j], by simp [hltj]⟩
         have hnx := hnx y hy
         first | refine awp_seq (awp_block ?_) | refine awp_block ?_
         first | refine zg1 ?_ | refine zg0 ?_ | refine zg2 ?_ | refine zg3 ?_
         simp -dsimp only [simprocAttr, ↓vpre, zpm, hy]
         refine at_intro ?_
         simp -dsimp only [vend, ne_eq, Nat.reduceEqDiff, reduceCtorEq]
         by_cases hc : 0 ≤ y ∧ y < k
         ·have hc1 : decide (0 ≤ y) = true := decide_eq_true hc.1
          have hc2 : decide (y < (k : Int)) = true := decide_eq_true hc.2
          have hkm : kidMax A V y = max V ((A[y.toNat]?).getD 0 + 1) := by
           unfold kidMax
           rw [if_pos ⟨hc.1, by omega⟩]
          obtain ⟨yn, rfl⟩ : ∃ n : Nat, y = n := ⟨y.toNat, by omega⟩
          have hyn : yn < A.length := by omega
          have hD : 0 ≤ (A[yn]?).getD 0 ∧ (A[yn]?).getD 0 ≤ A.length := by
           rw [List.getElem?_eq_getElem hyn, Option.getD_some]
           exact hsm _ (List.getElem_mem hyn)
          rw [Int.toNat_natCast] at hkm
          first | refine zg1 ?_ | refine zg0 ?_ | refine zg2 ?_ | refine zg3 ?_
          simp -dsimp only [simprocAttr, ↓vpre, zpm, hc1, hc2]
          refine at_intro ?_
          simp -dsimp only [vend, ne_eq, Nat.reduceEqDiff, reduceCtorEq]
          first | refine zk1 rfl (fun h => ?_) (fun h => ?_) | refine zk0 rfl (fun h => ?_) (fun h => ?_) | refine zk2 rfl (fun h => ?_) (fun h => ?_)
          ·first | refine zg1 ?_ | refine zg0 ?_ | refine zg2 ?_ | refine zg3 ?_
           simp -dsimp only [simprocAttr, ↓vpre, zpm, dcells_last A _ V hacc, dcells_old A _ V hyn, dcells_put A _ _ _ hacc]
           refine ⟨by omega, by omega, by omega, by omega, by omega, by rw [dcells_len, List.length_append, List.length_singleton]; omega, ?_⟩
           refine ⟨by (show orderB _ _ = true); kernel_rfl, at_intro ?_⟩
           simp -dsimp only [vend, ne_eq, Nat.reduceEqDiff, reduceCtorEq]
           first | refine zg1 ?_ | refine zg0 ?_ | refine zg2 ?_ | refine zg3 ?_
           simp -dsimp only [simprocAttr, ↓vpre, zpm]
           repeat (refine ⟨by omega, ?_⟩)
           refine at_intro ?_
           simp -dsimp only [vend, ne_eq, Nat.reduceEqDiff, reduceCtorEq]
           refine ⟨⟨j + 1, hltj⟩, by simp; omega, ?_⟩
           refine ⟨rfl, ?_, ?_⟩
           rotate_left
           simp -dsimp only [simprocAttr, ↓vpre, zpm, Says, exists_eq_left', Option.some.injEq, sub_self, and_assoc, true_and, and_true]
           ·exact Sub.int (by simp)
           ·rw [hnx, hkm]
          ·cases h
         ·have hkm : kidMax A V y = V := by
           unfold kidMax
           rw [if_neg (by omega)]
          by_cases h0 : 0 ≤ y
          ·have hc1 : decide (0 ≤ y) = true := decide_eq_true h0
           have hc2 : decide (y < (k : Int)) = false := decide_eq_false (fun e => hc ⟨h0, e⟩)
           first | refine zg1 ?_ | refine zg0 ?_ | refine zg2 ?_ | refine zg3 ?_
           simp -dsimp only [simprocAttr, ↓vpre, zpm, hc1, hc2]
           refine at_intro ?_
           simp -dsimp only [vend, ne_eq, Nat.reduceEqDiff, reduceCtorEq]
           first | refine zk1 rfl (fun h => ?_) (fun h => ?_) | refine zk0 rfl (fun h => ?_) (fun h => ?_) | refine zk2 rfl (fun h => ?_) (fun h => ?_)
           ·cases h
           ·refine awp_skip ?_
            simp -dsimp only [vend, ne_eq, Nat.reduceEqDiff, reduceCtorEq]
            first | refine zg1 ?_ | refine zg0 ?_ | refine zg2 ?_ | refine zg3 ?_
            simp -dsimp only [simprocAttr, ↓vpre, zpm]
            repeat (refine ⟨by omega, ?_⟩)
            refine at_intro ?_
            simp -dsimp only [vend, ne_eq, Nat.reduceEqDiff, reduceCtorEq]
            refine ⟨⟨j + 1, hltj⟩, by simp; omega, ?_⟩
            refine ⟨rfl, ?_, ?_⟩
            rotate_left
            simp -dsimp only [simprocAttr, ↓vpre, zpm, Says, exists_eq_left', Option.some.injEq, sub_self, and_assoc, true_and, and_true]
            ·exact Sub.int (by simp)
            ·rw [hnx, hkm]
          ·have hc1 : decide (0 ≤ y) = false := decide_eq_false h0
           first | refine zg1 ?_ | refine zg0 ?_ | refine zg2 ?_ | refine zg3 ?_
           simp -dsimp only [simprocAttr, ↓vpre, zpm, hc1]
           refine at_intro ?_
           simp -dsimp only [vend, ne_eq, Nat.reduceEqDiff, reduceCtorEq]
           first | refine zk1 rfl (fun h => ?_) (fun h => ?_) | refine zk0 rfl (fun h => ?_) (fun h => ?_) | refine zk2 rfl (fun h => ?_) (fun h => ?_)
           ·cases h
           ·refine awp_skip ?_
            simp -dsimp only [vend, ne_eq, Nat.reduceEqDiff, reduceCtorEq]
            first | refine zg1 ?_ | refine zg0 ?_ | refine zg2 ?_ | refine zg3 ?_
            simp -dsimp only [simprocAttr, ↓vpre, zpm]
            repeat (refine ⟨by omega, ?_⟩)
            refine at_intro ?_
            simp -dsimp only [vend, ne_eq, Nat.reduceEqDiff, reduceCtorEq]
            refine ⟨⟨j + 1, hltj⟩, by simp; omega, ?_⟩
            refine ⟨rfl, ?_, ?_⟩
            rotate_left
            simp -dsimp only [simprocAttr, ↓vpre, zpm, Says, exists_eq_left', Option.some.injEq, sub_self, and_assoc, true_and, and_true]
            ·exact Sub.int (by simp)
            ·rw [hnx, hkm]
        ·refine awp_exit ?_
         simp -dsimp only [vend, ne_eq, Nat.reduceEqDiff, reduceCtorEq]
         have hkk : j = t.kids.length := by simp at h; omega
         subst hkk
         rw [List.take_length] at hV
         have hnd : nodeDeep A t = V := by
          unfold nodeDeep
          rw [if_pos hk', hV]
         refine awp_trunc' 1 [(0, eT L), (3, .ms 0 0 (L.length + 1) (L.length + 1)), (12, eT L), (13, aI L.length), (14, aI k)] (by first | omega | (simp; done) | (simp; omega)) (by first | omega | (simp; done) | (simp; omega)) [.cells (dcells (A ++ [V]) (L.length - k))] ?_ ?_ ?_ ?_ ?_
         ·rfl
         ·simp [AObj.upto, dcells, aI_upto, -List.map_append]
         ·simp -dsimp only [simprocAttr, ↓vpre, zpm, Says, exists_eq_left', Option.some.injEq, sub_self, and_true]
         ·simp [AVal.upto, uptoL, MTree.map_upto]
         first | refine zg1 ?_ | refine zg0 ?_ | refine zg2 ?_ | refine zg3 ?_
         simp -dsimp only [simprocAttr, ↓vpre, zpm]
         repeat (refine ⟨by omega, ?_⟩)
         refine at_intro ?_
         simp -dsimp only [vend, ne_eq, Nat.reduceEqDiff, reduceCtorEq]
         refine ⟨⟨k + 1, hlt⟩, by simp; omega, ?_⟩
         refine ⟨rfl, ?_, ?_⟩
         rotate_left
         simp -dsimp only [simprocAttr, ↓vpre, zpm, Says, exists_eq_left', Option.some.injEq, sub_self, and_assoc, true_and, and_true]
         ·exact Sub.int (by simp)
         ·rw [hnext, hnd, show L.length + 1 - (k + 1) = L.length - k by omega]
     ·first | refine zg1 ?_ | refine zg0 ?_ | refine zg2 ?_ | refine zg3 ?_
      simp -dsimp only [simprocAttr, ↓vpre, zpm, hb, hb']
      refine at_intro ?_
      simp -dsimp only [vend, ne_eq, Nat.reduceEqDiff, reduceCtorEq]
      first | refine zk1 rfl (fun h => ?_) (fun h => ?_) | refine zk0 rfl (fun h => ?_) (fun h => ?_) | refine zk2 rfl (fun h => ?_) (fun h => ?_)
      ·cases h
      ·refine awp_skip ?_
       simp -dsimp only [vend, ne_eq, Nat.reduceEqDiff, reduceCtorEq]
       first | refine zg1 ?_ | refine zg0 ?_ | refine zg2 ?_ | refine zg3 ?_
       simp -dsimp only [simprocAttr, ↓vpre, zpm, dcells_start A hlt, dcells_put A _ _ _ hacc, dcells_len, List.length_append, List.length_singleton]
       repeat (refine ⟨by omega, ?_⟩)
       refine at_intro ?_
       simp -dsimp only [vend, ne_eq, Nat.reduceEqDiff, reduceCtorEq]
       first | refine zg1 ?_ | refine zg0 ?_ | refine zg2 ?_ | refine zg3 ?_
       simp -dsimp only [simprocAttr, ↓vpre, zpm]
       refine at_intro ?_
       simp -dsimp only [vend, ne_eq, Nat.reduceEqDiff, reduceCtorEq]
       refine awp_len 31 rfl (fun hlk => ?_)
       simp only [List.length_map] at hlk
       first | refine awp_block (awp_loop (ι := {j : Nat // j ≤ t.kids.length}) (fun j => ⟨68, [(0, eT L), (3, .ms 0 0 (L.length + 1) (L.length + 1)), (12, eT L), (13, aI L.length), (14, aI k), (4, aI k), (31, eI t.kids), (32, aI t.kids.length), (33, aI j.1)], [.cells (dcells (A ++ [(t.kids.take j.1).foldl (kidMax A) 1]) (L.length - k)), .gone]⟩) (fun j => t.kids.length - j.1) ⟨0, by omega⟩ ?_ ?_) | refine awp_seq (awp_block (awp_loop (ι := {j : Nat // j ≤ t.kids.length}) (fun j => ⟨68, [(0, eT L), (3, .ms 0 0 (L.length + 1) (L.length + 1)), (12, eT L), (13, aI L.length), (14, aI k), (4, aI k), (31, eI t.kids), (32, aI t.kids.length), (33, aI j.1)], [.cells (dcells (A ++ [(t.kids.take j.1).foldl (kidMax A) 1]) (L.length - k)), .gone]⟩) (fun j => t.kids.length - j.1) ⟨0, by omega⟩ ?_ ?_))
       ·refine ⟨rfl, ?_, ?_⟩
        rotate_left
        simp -dsimp only [simprocAttr, ↓vpre, zpm, Says, exists_eq_left', Option.some.injEq, sub_self, and_assoc, true_and, and_true]
        rfl
       ·rintro ⟨j, hj⟩
        simp only
        have hv1 := kids_ge (acc := A) (t.kids.take j) 1
        have hv2 : (t.kids.take j).foldl (kidMax A) 1 ≤ A.length + 1 := kids_le _ _ (by omega) fun y _ hy0 hy => by
         have hlt : y.toNat < A.length := by omega
         rw [List.getElem?_eq_getElem hlt, Option.getD_some]
         have := hsm _ (List.getElem_mem hlt)
         omega
        have hnx : ∀ y, t.kids[j]? = some y → (t.kids.take (j + 1)).foldl (kidMax A) 1 = kidMax A ((t.kids.take j).foldl (kidMax A) 1) y := fun y hy => by
         rw [take_next hy, List.foldl_append]
         rfl
        generalize hV : (t.kids.take j).foldl (kidMax A) 1 = V at hv1 hv2 hnx
        first | refine zg1 ?_ | refine zg0 ?_ | refine zg2 ?_ | refine zg3 ?_
        simp -dsimp only [simprocAttr, ↓vpre, zpm]
        refine at_intro ?_
        simp -dsimp only [vend, ne_eq, Nat.reduceEqDiff, reduceCtorEq]
        first | refine zk1 rfl (fun h => ?_) (fun h => ?_) | refine zk0 rfl (fun h => ?_) (fun h => ?_) | refine zk2 rfl (fun h => ?_) (fun h => ?_)
        ·refine awp_skip ?_
         simp -dsimp only [vend, ne_eq, Nat.reduceEqDiff, reduceCtorEq]
         have hltj : j < t.kids.length := by simpa using h
         obtain ⟨y, hy⟩ : ∃ y, t.kids[j]? = some y := ⟨t.kids[j], by simp [hltj]⟩
         have hnx := hnx y hy
         first | refine awp_seq (awp_block ?_) | refine awp_block ?_
         first | refine zg1 ?_ | refine zg0 ?_ | refine zg2 ?_ | refine zg3 ?_
         simp -dsimp only [simprocAttr, ↓vpre, zpm, hy]
         refine at_intro ?_
         simp -dsimp only [vend, ne_eq, Nat.reduceEqDiff, reduceCtorEq]
         by_cases hc : 0 ≤ y ∧ y < k
         ·have hc1 : decide (0 ≤ y) = true := decide_eq_true hc.1
          have hc2 : decide (y < (k : Int)) = true := decide_eq_true hc.2
          have hkm : kidMax A V y = max V ((A[y.toNat]?).getD 0 + 1) := by
           unfold kidMax
           rw [if_pos ⟨hc.1, by omega⟩]
          obtain ⟨yn, rfl⟩ : ∃ n : Nat, y = n := ⟨y.toNat, by omega⟩
          have hyn : yn < A.length := by omega
          have hD : 0 ≤ (A[yn]?).getD 0 ∧ (A[yn]?).getD 0 ≤ A.length := by
           rw [List.getElem?_eq_getElem hyn, Option.getD_some]
           exact hsm _ (List.getElem_mem hyn)
          rw [Int.toNat_natCast] at hkm
          first | refine zg1 ?_ | refine zg0 ?_ | refine zg2 ?_ | refine zg3 ?_
          simp -dsimp only [simprocAttr, ↓vpre, zpm, hc1, hc2]
          refine at_intro ?_
          simp -dsimp only [vend, ne_eq, Nat.reduceEqDiff, reduceCtorEq]
          first | refine zk1 rfl (fun h => ?_) (fun h => ?_) | refine zk0 rfl (fun h => ?_) (fun h => ?_) | refine zk2 rfl (fun h => ?_) (fun h => ?_)
          ·first | refine zg1 ?_ | refine zg0 ?_ | refine zg2 ?_ | refine zg3 ?_
           simp -dsimp only [simprocAttr, ↓vpre, zpm, dcells_last A _ V hacc, dcells_old A _ V hyn, dcells_put A _ _ _ hacc]
           refine ⟨by omega, by omega, by omega, by omega, by omega, by rw [dcells_len, List.length_append, List.length_singleton]; omega, ?_⟩
           refine ⟨by (show orderB _ _ = true); kernel_rfl, at_intro ?_⟩
           simp -dsimp only [vend, ne_eq, Nat.reduceEqDiff, reduceCtorEq]
           first | refine zg1 ?_ | refine zg0 ?_ | refine zg2 ?_ | refine zg3 ?_
           simp -dsimp only [simprocAttr, ↓vpre, zpm]
           repeat (refine ⟨by omega, ?_⟩)
           refine at_intro ?_
           simp -dsimp only [vend, ne_eq, Nat.reduceEqDiff, reduceCtorEq]
           refine ⟨⟨j + 1, hltj⟩, by simp; omega, ?_⟩
           refine ⟨rfl, ?_, ?_⟩
           rotate_left
           simp -dsimp only [simprocAttr, ↓vpre, zpm, Says, exists_eq_left', Option.some.injEq, sub_self, and_assoc, true_and, and_true]
           ·exact Sub.int (by simp)
           ·rw [hnx, hkm]
          ·cases h
         ·have hkm : kidMax A V y = V := by
           unfold kidMax
           rw [if_neg (by omega)]
          by_cases h0 : 0 ≤ y
          ·have hc1 : decide (0 ≤ y) = true := decide_eq_true h0
           have hc2 : decide (y < (k : Int)) = false := decide_eq_false (fun e => hc ⟨h0, e⟩)
           first | refine zg1 ?_ | refine zg0 ?_ | refine zg2 ?_ | refine zg3 ?_
           simp -dsimp only [simprocAttr, ↓vpre, zpm, hc1, hc2]
           refine at_intro ?_
           simp -dsimp only [vend, ne_eq, Nat.reduceEqDiff, reduceCtorEq]
           first | refine zk1 rfl (fun h => ?_) (fun h => ?_) | refine zk0 rfl (fun h => ?_) (fun h => ?_) | refine zk2 rfl (fun h => ?_) (fun h => ?_)
           ·cases h
           ·refine awp_skip ?_
            simp -dsimp only [vend, ne_eq, Nat.reduceEqDiff, reduceCtorEq]
            first | refine zg1 ?_ | refine zg0 ?_ | refine zg2 ?_ | refine zg3 ?_
            simp -dsimp only [simprocAttr, ↓vpre, zpm]
            repeat (refine ⟨by omega, ?_⟩)
            refine at_intro ?_
            simp -dsimp only [vend, ne_eq, Nat.reduceEqDiff, reduceCtorEq]
            refine ⟨⟨j + 1, hltj⟩, by simp; omega, ?_⟩
            refine ⟨rfl, ?_, ?_⟩
            rotate_left
            simp -dsimp only [simprocAttr, ↓vpre, zpm, Says, exists_eq_left', Option.some.injEq, sub_self, and_assoc, true_and, and_true]
            ·exact Sub.int (by simp)
            ·rw [hnx, hkm]
          ·have hc1 : decide (0 ≤ y) = false := decide_eq_false h0
           first | refine zg1 ?_ | refine zg0 ?_ | refine zg2 ?_ | refine zg3 ?_
           simp -dsimp only [simprocAttr, ↓vpre, zpm, hc1]
           refine at_intro ?_
           simp -dsimp only [vend, ne_eq, Nat.reduceEqDiff, reduceCtorEq]
           first | refine zk1 rfl (fun h => ?_) (fun h => ?_) | refine zk0 rfl (fun h => ?_) (fun h => ?_) | refine zk2 rfl (fun h => ?_) (fun h => ?_)
           ·cases h
           ·refine awp_skip ?_
            simp -dsimp only [vend, ne_eq, Nat.reduceEqDiff, reduceCtorEq]
            first | refine zg1 ?_ | refine zg0 ?_ | refine zg2 ?_ | refine zg3 ?_
            simp -dsimp only [simprocAttr, ↓vpre, zpm]
            repeat (refine ⟨by omega, ?_⟩)
            refine at_intro ?_
            simp -dsimp only [vend, ne_eq, Nat.reduceEqDiff, reduceCtorEq]
            refine ⟨⟨j + 1, hltj⟩, by simp; omega, ?_⟩
            refine ⟨rfl, ?_, ?_⟩
            rotate_left
            simp -dsimp only [simprocAttr, ↓vpre, zpm, Says, exists_eq_left', Option.some.injEq, sub_self, and_assoc, true_and, and_true]
            ·exact Sub.int (by simp)
            ·rw [hnx, hkm]
        ·refine awp_exit ?_
         simp -dsimp only [vend, ne_eq, Nat.reduceEqDiff, reduceCtorEq]
         have hkk : j = t.kids.length := by simp at h; omega
         subst hkk
         rw [List.take_length] at hV
         have hnd : nodeDeep A t = V := by
          unfold nodeDeep
          rw [if_pos hk', hV]
         refine awp_trunc' 1 [(0, eT L), (3, .ms 0 0 (L.length + 1) (L.length + 1)), (12, eT L), (13, aI L.length), (14, aI k)] (by first | omega | (simp; done) | (simp; omega)) (by first | omega | (simp; done) | (simp; omega)) [.cells (dcells (A ++ [V]) (L.length - k))] ?_ ?_ ?_ ?_ ?_
         ·rfl
         ·simp [AObj.upto, dcells, aI_upto, -List.map_append]
         ·simp -dsimp only [simprocAttr, ↓vpre, zpm, Says, exists_eq_left', Option.some.injEq, sub_self, and_true]
         ·simp [AVal.upto, uptoL, MTree.map_upto]
         first | refine zg1 ?_ | refine zg0 ?_ | refine zg2 ?_ | refine zg3 ?_
         simp -dsimp only [simprocAttr, ↓vpre, zpm]
         repeat (refine ⟨by omega, ?_⟩)
         refine at_intro ?_
         simp -dsimp only [vend, ne_eq, Nat.reduceEqDiff, reduceCtorEq]
         refine ⟨⟨k + 1, hlt⟩, by simp; omega, ?_⟩
         refine ⟨rfl, ?_, ?_⟩
         rotate_left
         simp -dsimp only [simprocAttr, ↓vpre, zpm, Says, exists_eq_left', Option.some.injEq, sub_self, and_assoc, true_and, and_true]
         ·exact Sub.int (by simp)
         ·rw [hnext, hnd, show L.length + 1 - (k + 1) = L.length - k by omega]
    ·have hb : (!decide (t.kind = 2)) = true := by
      simp
      exact fun e => hk' (.inl e)
     have hb' : (!decide (t.kind = 3)) = true := by
      simp
      exact fun e => hk' (.inr e)
     have hnd : nodeDeep A t = 0 := by
      unfold nodeDeep
      rw [if_neg hk']
     first | refine zg1 ?_ | refine zg0 ?_ | refine zg2 ?_ | refine zg3 ?_
     simp -dsimp only [simprocAttr, ↓vpre, zpm, hb, hb']
     refine at_intro ?_
     simp -dsimp only [vend, ne_eq, Nat.reduceEqDiff, reduceCtorEq]
     first | refine zk1 rfl (fun h => ?_) (fun h => ?_) | refine zk0 rfl (fun h => ?_) (fun h => ?_) | refine zk2 rfl (fun h => ?_) (fun h => ?_)
     ·refine awp_exit ?_
      simp -dsimp only [vend, ne_eq, Nat.reduceEqDiff, reduceCtorEq]
      refine awp_trunc' 1 [(0, eT L), (3, .ms 0 0 (L.length + 1) (L.length + 1)), (12, eT L), (13, aI L.length), (14, aI k)] (by first | omega | (simp; done) | (simp; omega)) (by first | omega | (simp; done) | (simp; omega)) [.cells (dcells (A ++ [0]) (L.length - k))] ?_ ?_ ?_ ?_ ?_
      ·rw [← dcells_start A hlt]
       rfl
      ·simp [AObj.upto, dcells, aI_upto, -List.map_append]
      ·simp -dsimp only [simprocAttr, ↓vpre, zpm, Says, exists_eq_left', Option.some.injEq, sub_self, and_true]
      ·simp [AVal.upto, uptoL, MTree.map_upto]
      first | refine zg1 ?_ | refine zg0 ?_ | refine zg2 ?_ | refine zg3 ?_
      simp -dsimp only [simprocAttr, ↓vpre, zpm]
      repeat (refine ⟨by omega, ?_⟩)
      refine at_intro ?_
      simp -dsimp only [vend, ne_eq, Nat.reduceEqDiff, reduceCtorEq]
      refine ⟨⟨k + 1, hlt⟩, by simp; omega, ?_⟩
      refine ⟨rfl, ?_, ?_⟩
      rotate_left
      simp -dsimp only [simprocAttr, ↓vpre, zpm, Says, exists_eq_left', Option.some.injEq, sub_self, and_assoc, true_and, and_true]
      ·exact Sub.int (by simp)
      ·rw [hnext, hnd, show L.length + 1 - (k + 1) = L.length - k by omega]
     ·cases h
   ·exact FSub.mp rfl rfl
  ·refine awp_exit ?_
   simp -dsimp only [vend, ne_eq, Nat.reduceEqDiff, reduceCtorEq]
   have hkk : k = L.length := by simp at h; omega
   subst hkk
   rw [List.take_length] at hA
   by_cases hz : L.length = 0
   ·have hz1 : decide ((L.length : Int) = 0) = true := decide_eq_true (by omega)
    have hL0 : L = [] := List.length_eq_zero_iff.1 hz
    first | refine zg1 ?_ | refine zg0 ?_ | refine zg2 ?_ | refine zg3 ?_
    simp -dsimp only [simprocAttr, ↓vpre, zpm, hz1]
    refine at_intro ?_
    simp -dsimp only [vend, ne_eq, Nat.reduceEqDiff, reduceCtorEq]
    first | refine zk1 rfl (fun h => ?_) (fun h => ?_) | refine zk0 rfl (fun h => ?_) (fun h => ?_) | refine zk2 rfl (fun h => ?_) (fun h => ?_)
    ·first | refine zg1 ?_ | refine zg0 ?_ | refine zg2 ?_ | refine zg3 ?_
     simp -dsimp only [simprocAttr, ↓vpre, zpm]
     refine at_intro ?_
     simp -dsimp only [vend, ne_eq, Nat.reduceEqDiff, reduceCtorEq]
     refine awp_ret ?_
     simp -dsimp only [simprocAttr, ↓vpre, zpm, RetTo, Try.results20, retVals, retVal, mkRet, AVal.upto, Nat.zero_le, Nat.le_refl, seqPost_ret, blockPost_ret, loopPost_ret]
     subst hL0
     rfl
    ·cases h
   ·have hz1 : decide ((L.length : Int) = 0) = false := decide_eq_false (by omega)
    have hlast : (dcells A (L.length + 1 - L.length))[((L.length : Int) - 1).toNat * 1]? = some (aI (depthF L)) := by
     rw [show ((L.length : Int) - 1).toNat * 1 = L.length - 1 by omega]
     unfold depthF dcells
     rw [hA, List.getElem?_map, List.getElem?_append_left (by omega), List.getElem?_eq_getElem (by omega)]
     rfl
    first | refine zg1 ?_ | refine zg0 ?_ | refine zg2 ?_ | refine zg3 ?_
    simp -dsimp only [simprocAttr, ↓vpre, zpm, hz1]
    refine at_intro ?_
    simp -dsimp only [vend, ne_eq, Nat.reduceEqDiff, reduceCtorEq]
    first | refine zk1 rfl (fun h => ?_) (fun h => ?_) | refine zk0 rfl (fun h => ?_) (fun h => ?_) | refine zk2 rfl (fun h => ?_) (fun h => ?_)
    ·cases h
    ·refine awp_skip ?_
     simp -dsimp only [vend, ne_eq, Nat.reduceEqDiff, reduceCtorEq]
     first | refine zg1 ?_ | refine zg0 ?_ | refine zg2 ?_ | refine zg3 ?_
     simp -dsimp only [simprocAttr, ↓vpre, zpm, hlast]
     refine ⟨by omega, by omega, by omega, by omega, ?_⟩
     refine at_intro ?_
     simp -dsimp only [vend, ne_eq, Nat.reduceEqDiff, reduceCtorEq]
     refine awp_ret ?_
     simp -dsimp only [simprocAttr, ↓vpre, zpm, RetTo, Try.results20, retVals, retVal, mkRet, AVal.upto, Nat.zero_le, Nat.le_refl, seqPost_ret, blockPost_ret, loopPost_ret]

end Go.Proofs.Ytakdmelemfnmdaa
end

section
set_option linter.unusedSimpArgs false
set_option linter.unusedVariables false
set_option maxRecDepth 100000
set_option maxHeartbeats 2000000
-- !tab vtab vmat
-- !upto Pat.enc_upto Pat.map_upto MRow.enc_upto MRow.map_upto aI_upto eI_upto nS_upto MTree.enc_upto MTree.map_upto rows_upto Con.map_upto Data.map_upto
namespace Go.Proofs.Ytakdmelemfnmdaa
open Go.Av

theorem pcall_nil3 {f : FuncId} {a b : AVal} {sz : Nat} {r : AVal} (h : PCall Try.prog f [a, b, .lst sz [] .sh] r) : PCall Try.prog f [a, b, .v (.slice none 0 0)] r :=
 ⟨h.1, fun g vs hg ho ha => h.2 g vs hg ho ⟨ha.1, fun i c u hc hu => by
  match i, hc, hu with
  | 0, hc, hu => exact ha.2 0 c u hc hu
  | 1, hc, hu => exact ha.2 1 c u hc hu
  | 2, hc, hu =>
   simp only [List.getElem?_cons_succ, List.getElem?_cons_zero, Option.some.injEq] at hc
   subst hc
   have := (ha.2 2 _ u rfl hu).v_inv.1
   subst this
   exact .nil (fun id e => by cases e) (by simp)
  | i + 3, hc, _ => simp at hc⟩⟩

theorem depthF_nonneg (L : List MTree) : 0 ≤ depthF L := by
 unfold depthF
 cases h : (deeps [] L)[L.length - 1]? with
 | none => simp
 | some x => exact (deeps_small L [] (by simp) x (List.mem_of_getElem? h)).1

theorem matchOnce_law (datas : List Data) (hF : FitD datas) (rows : List (List Pat)) : PCall Try.prog 9 [eD datas, eRR rows] (.v (.bool true)) := by
 have hcomp := compile_spec datas rows
 have herr := compile_err (datas := datas) (rows := rows)
 by_cases he : (compileE datas rows).2 = 0
 ·obtain ⟨t, hb, hdat, hc, hsm, tys, hh, h16, hall, hst, hne, hl, hv, hr⟩ := compile_zero he
  have honce := rep_once hv 1000 _ _ tys ((compileE datas rows).1.length - 1) [] (start_pre hst h16 (build_nodup hb)) (by
   have hp := List.length_pos_iff.2 hne
   rw [show (((compileE datas rows).1.length - 1 : Nat) : Int) = ((compileE datas rows).1.length : Int) - 1 by omega]
   exact hr) (Fresh.start _)
  have hcheck := check_good hb hdat hne hl hv
  have hdep := depth_spec (compileE datas rows).1 (by omega)
  have hd0 := depthF_nonneg (compileE datas rows).1
  have hon := once_spec (L := (compileE datas rows).1) (by omega) (fun i u hu => ⟨(hv i u hu).2.1, (hv i u hu).2.2.1⟩) 1000 _ [] honce (by simp)
  obtain ⟨⟨N, e⟩, hq⟩ : ∃ q, q = compileE datas rows := ⟨_, rfl⟩
  rw [← hq] at hcomp hne hl hcheck hdep hd0 hon he
  simp only at hcomp hne hl hcheck hdep hd0 hon he
  clear hq honce hr hv herr
  subst he
  have hp := List.length_pos_iff.2 hne
  have hz : decide ((N.length : Int) = 0) = false := decide_eq_false (by omega)
  have hm1 : ((N.length - 1 : Nat) : Int) = (N.length : Int) - 1 := by omega
  rw [hm1] at hon
  have hon : PCall Try.prog 23 [eT N, aI ((N.length : Int) - 1), .lst 1 [] .sh] (.v (.bool true)) := hon
  have hneg : decide (depthF N < 0) = false := decide_eq_false (by omega)
  generalize depthF N = dp at hdep hneg
  refine ecall_of hT true 0 Try.func9 rfl (by kernel_rfl) (by simp [Try.ntmps9]) (by simp) ?_
  show AWP Try.prog _ _ _ ⟨49, _, _⟩
  dsimp only [Tmp, TypeId, slotsOf]
  first | refine zg1 ?_ | refine zg0 ?_ | refine zg2 ?_ | refine zg3 ?_
  simp -dsimp only [simprocAttr, ↓vpre, zpm]
  refine at_intro ?_
  simp -dsimp only [vend, ne_eq, Nat.reduceEqDiff, reduceCtorEq]
  first | refine zg1 ?_ | refine zg0 ?_ | refine zg2 ?_ | refine zg3 ?_
  simp -dsimp only [simprocAttr, ↓vpre, zpm]
  refine .inl ⟨_, patternsWork_spec, by first | (simp only [uptoL, AVal.upto, zt, zum]; done) | (simp [uptoL, AVal.upto, zum]; done), later_intro ?_⟩
  simp -dsimp only [simprocAttr, ↓vpre, zpm]
  refine at_intro ?_
  simp -dsimp only [vend, ne_eq, Nat.reduceEqDiff, reduceCtorEq]
  first | refine zk1 rfl (fun h => ?_) (fun h => ?_) | refine zk0 rfl (fun h => ?_) (fun h => ?_) | refine zk2 rfl (fun h => ?_) (fun h => ?_)
  ·cases h
  ·refine awp_skip ?_
   simp -dsimp only [vend, ne_eq, Nat.reduceEqDiff, reduceCtorEq]
   first | refine zg1 ?_ | refine zg0 ?_ | refine zg2 ?_ | refine zg3 ?_
   simp -dsimp only [simprocAttr, ↓vpre, zpm]
   refine .inl ⟨_, hcomp, by first | (simp only [uptoL, AVal.upto, zt, zum]; done) | (simp [uptoL, AVal.upto, zum]; done), later_intro ?_⟩
   simp -dsimp only [simprocAttr, ↓vpre, zpm]
   refine at_intro ?_
   simp -dsimp only [vend, ne_eq, Nat.reduceEqDiff, reduceCtorEq]
   first | refine zg1 ?_ | refine zg0 ?_ | refine zg2 ?_ | refine zg3 ?_
   simp -dsimp only [simprocAttr, ↓vpre, zpm, eq_self]
   refine at_intro ?_
   simp -dsimp only [vend, ne_eq, Nat.reduceEqDiff, reduceCtorEq]
   first | refine zk1 rfl (fun h => ?_) (fun h => ?_) | refine zk0 rfl (fun h => ?_) (fun h => ?_) | refine zk2 rfl (fun h => ?_) (fun h => ?_)
   ·cases h
   ·refine awp_skip ?_
    simp -dsimp only [vend, ne_eq, Nat.reduceEqDiff, reduceCtorEq]
    first | refine zg1 ?_ | refine zg0 ?_ | refine zg2 ?_ | refine zg3 ?_
    simp -dsimp only [simprocAttr, ↓vpre, zpm]
    refine .inl ⟨_, hcheck, by first | (simp only [uptoL, AVal.upto, zt, zum]; done) | (simp [uptoL, AVal.upto, zum]; done), later_intro ?_⟩
    simp -dsimp only [simprocAttr, ↓vpre, zpm, hz]
    refine .inl ⟨_, hdep, by first | (simp only [uptoL, AVal.upto, zt, zum]; done) | (simp [uptoL, AVal.upto, zum]; done), later_intro ?_⟩
    simp -dsimp only [simprocAttr, ↓vpre, zpm, hneg]
    refine at_intro ?_
    simp -dsimp only [vend, ne_eq, Nat.reduceEqDiff, reduceCtorEq]
    first | refine zk1 rfl (fun h => ?_) (fun h => ?_) | refine zk0 rfl (fun h => ?_) (fun h => ?_) | refine zk2 rfl (fun h => ?_) (fun h => ?_)
    ·cases h
    ·refine awp_skip ?_
     simp -dsimp only [vend, ne_eq, Nat.reduceEqDiff, reduceCtorEq]
     by_cases h60 : (60 : Int) < N.length
     ·have hb1 : decide ((60 : Int) < N.length) = true := decide_eq_true h60
      first | refine zg1 ?_ | refine zg0 ?_ | refine zg2 ?_ | refine zg3 ?_
      simp -dsimp only [simprocAttr, ↓vpre, zpm, hb1]
      refine at_intro ?_
      simp -dsimp only [vend, ne_eq, Nat.reduceEqDiff, reduceCtorEq]
      refine awp_ret ?_
      simp -dsimp only [simprocAttr, ↓vpre, zpm, RetTo, Try.results9, retVals, retVal, mkRet, AVal.upto, Nat.zero_le, Nat.le_refl, seqPost_ret, blockPost_ret, loopPost_ret]
     ·have hb1 : decide ((60 : Int) < N.length) = false := decide_eq_false h60
      by_cases h10 : (10 : Int) < dp
      ·have hb2 : decide ((10 : Int) < dp) = true := decide_eq_true h10
       first | refine zg1 ?_ | refine zg0 ?_ | refine zg2 ?_ | refine zg3 ?_
       simp -dsimp only [simprocAttr, ↓vpre, zpm, hb1]
       refine .inl ⟨_, hdep, by first | (simp only [uptoL, AVal.upto, zt, zum]; done) | (simp [uptoL, AVal.upto, zum]; done), later_intro ?_⟩
       simp -dsimp only [simprocAttr, ↓vpre, zpm, hb2]
       refine at_intro ?_
       simp -dsimp only [vend, ne_eq, Nat.reduceEqDiff, reduceCtorEq]
       refine awp_ret ?_
       simp -dsimp only [simprocAttr, ↓vpre, zpm, RetTo, Try.results9, retVals, retVal, mkRet, AVal.upto, Nat.zero_le, Nat.le_refl, seqPost_ret, blockPost_ret, loopPost_ret]
      ·have hb2 : decide ((10 : Int) < dp) = false := decide_eq_false h10
       first | refine zg1 ?_ | refine zg0 ?_ | refine zg2 ?_ | refine zg3 ?_
       simp -dsimp only [simprocAttr, ↓vpre, zpm, hb1]
       refine .inl ⟨_, hdep, by first | (simp only [uptoL, AVal.upto, zt, zum]; done) | (simp [uptoL, AVal.upto, zum]; done), later_intro ?_⟩
       simp -dsimp only [simprocAttr, ↓vpre, zpm, hb2]
       repeat (refine ⟨by omega, ?_⟩)
       refine .inl ⟨_, (pcall_nil3 hon), by first | (simp only [uptoL, AVal.upto, zt, zum]; done) | (simp [uptoL, AVal.upto, zum]; done), later_intro ?_⟩
       simp -dsimp only [simprocAttr, ↓vpre, zpm]
       refine at_intro ?_
       simp -dsimp only [vend, ne_eq, Nat.reduceEqDiff, reduceCtorEq]
       refine awp_ret ?_
       simp -dsimp only [simprocAttr, ↓vpre, zpm, RetTo, Try.results9, retVals, retVal, mkRet, AVal.upto, Nat.zero_le, Nat.le_refl, seqPost_ret, blockPost_ret, loopPost_ret]
 ·have hN := herr he
  obtain ⟨⟨N, e⟩, hq⟩ : ∃ q, q = compileE datas rows := ⟨_, rfl⟩
  rw [← hq] at hcomp hN he
  simp only at hN hcomp he
  clear hq
  subst hN
  have hd : (!decide (e = 0)) = true := by simpa using he
  refine ecall_of hT true 0 Try.func9 rfl (by kernel_rfl) (by simp [Try.ntmps9]) (by simp) ?_
  show AWP Try.prog _ _ _ ⟨49, _, _⟩
  dsimp only [Tmp, TypeId, slotsOf]
  first | refine zg1 ?_ | refine zg0 ?_ | refine zg2 ?_ | refine zg3 ?_
  simp -dsimp only [simprocAttr, ↓vpre, zpm]
  refine at_intro ?_
  simp -dsimp only [vend, ne_eq, Nat.reduceEqDiff, reduceCtorEq]
  first | refine zg1 ?_ | refine zg0 ?_ | refine zg2 ?_ | refine zg3 ?_
  simp -dsimp only [simprocAttr, ↓vpre, zpm]
  refine .inl ⟨_, patternsWork_spec, by first | (simp only [uptoL, AVal.upto, zt, zum]; done) | (simp [uptoL, AVal.upto, zum]; done), later_intro ?_⟩
  simp -dsimp only [simprocAttr, ↓vpre, zpm]
  refine at_intro ?_
  simp -dsimp only [vend, ne_eq, Nat.reduceEqDiff, reduceCtorEq]
  first | refine zk1 rfl (fun h => ?_) (fun h => ?_) | refine zk0 rfl (fun h => ?_) (fun h => ?_) | refine zk2 rfl (fun h => ?_) (fun h => ?_)
  ·cases h
  ·refine awp_skip ?_
   simp -dsimp only [vend, ne_eq, Nat.reduceEqDiff, reduceCtorEq]
   first | refine zg1 ?_ | refine zg0 ?_ | refine zg2 ?_ | refine zg3 ?_
   simp -dsimp only [simprocAttr, ↓vpre, zpm]
   refine .inl ⟨_, hcomp, by first | (simp only [uptoL, AVal.upto, zt, zum]; done) | (simp [uptoL, AVal.upto, zum]; done), later_intro ?_⟩
   simp -dsimp only [simprocAttr, ↓vpre, zpm]
   refine at_intro ?_
   simp -dsimp only [vend, ne_eq, Nat.reduceEqDiff, reduceCtorEq]
   first | refine zg1 ?_ | refine zg0 ?_ | refine zg2 ?_ | refine zg3 ?_
   simp -dsimp only [simprocAttr, ↓vpre, zpm, hd]
   refine at_intro ?_
   simp -dsimp only [vend, ne_eq, Nat.reduceEqDiff, reduceCtorEq]
   first | refine zk1 rfl (fun h => ?_) (fun h => ?_) | refine zk0 rfl (fun h => ?_) (fun h => ?_) | refine zk2 rfl (fun h => ?_) (fun h => ?_)
   ·first | refine zg1 ?_ | refine zg0 ?_ | refine zg2 ?_ | refine zg3 ?_
    simp -dsimp only [simprocAttr, ↓vpre, zpm]
    refine at_intro ?_
    simp -dsimp only [vend, ne_eq, Nat.reduceEqDiff, reduceCtorEq]
    refine awp_ret ?_
    simp -dsimp only [simprocAttr, ↓vpre, zpm, RetTo, Try.results9, retVals, retVal, mkRet, AVal.upto, Nat.zero_le, Nat.le_refl, seqPost_ret, blockPost_ret, loopPost_ret]
   ·cases h

end Go.Proofs.Ytakdmelemfnmdaa
end
