/-
  Texts bound together by a program of mine: T48.
-/
import Derived.Test.YtakdmelemfnmdaaE5
set_option linter.all false

section
set_option linter.unusedSimpArgs false
set_option linter.unusedVariables false
set_option maxRecDepth 100000
set_option maxHeartbeats 2000000
-- !tab vtab vmat
-- !upto Pat.enc_upto Pat.map_upto MRow.enc_upto MRow.map_upto aI_upto eI_upto nS_upto MTree.enc_upto MTree.map_upto rows_upto Con.map_upto Data.map_upto aB_upto
namespace Go.Proofs.Ytakdmelemfnmdaa
open Go.Av

/-- What has been seen of the first nodes. -/
structure Seen (L : List MTree) (n k : Nat) (fl : Bool) (S : List Bool) : Prop where
 len : S.length = n
 fail : fl = true ↔ ∃ j : Nat, j < k ∧ RF L ((L.length : Int) - 1) j ∧ ∃ u, L[j]? = some u ∧ u.kind = 0
 row : ∀ i : Nat, S[i]? = some true ↔ i < n ∧ ∃ j : Nat, j < k ∧ RF L ((L.length : Int) - 1) j ∧ ∃ u, L[j]? = some u ∧ u.kind = 1 ∧ u.row = i

theorem Seen.start (L : List MTree) (n : Nat) : Seen L n 0 false (List.replicate n false) := by
 refine ⟨by simp, by simp, fun i => ?_⟩
 rw [List.getElem?_replicate]
 constructor
 ·intro h
  split at h <;> simp at h
 ·rintro ⟨_, j, hj, _⟩
  omega

theorem Seen.same {L : List MTree} {n k : Nat} {fl : Bool} {S : List Bool} (h : Seen L n k fl S) {u : MTree} (hu : L[k]? = some u) (h0 : RF L ((L.length : Int) - 1) k → u.kind ≠ 0 ∧ u.kind ≠ 1) : Seen L n (k + 1) fl S := by
 refine ⟨h.len, ?_, fun i => ?_⟩
 ·rw [h.fail]
  constructor
  ·rintro ⟨j, hj, q⟩
   exact ⟨j, by omega, q⟩
  ·rintro ⟨j, hj, h1, v, hv, h2⟩
   rcases Nat.lt_succ_iff_lt_or_eq.1 hj with hj | hj
   ·exact ⟨j, hj, h1, v, hv, h2⟩
   ·subst hj
    rw [hu] at hv
    cases hv
    exact absurd h2 (h0 h1).1
 ·rw [h.row]
  constructor
  ·rintro ⟨hi, j, hj, q⟩
   exact ⟨hi, j, by omega, q⟩
  ·rintro ⟨hi, j, hj, h1, v, hv, h2, h3⟩
   rcases Nat.lt_succ_iff_lt_or_eq.1 hj with hj | hj
   ·exact ⟨hi, j, hj, h1, v, hv, h2, h3⟩
   ·subst hj
    rw [hu] at hv
    cases hv
    exact absurd h2 (h0 h1).2

theorem Seen.leaf0 {L : List MTree} {n k : Nat} {fl : Bool} {S : List Bool} (h : Seen L n k fl S) {u : MTree} (hu : L[k]? = some u) (hr : RF L ((L.length : Int) - 1) k) (h0 : u.kind = 0) : Seen L n (k + 1) true S := by
 refine ⟨h.len, ⟨fun _ => ⟨k, by omega, hr, u, hu, h0⟩, fun _ => rfl⟩, fun i => ?_⟩
 rw [h.row]
 constructor
 ·rintro ⟨hi, j, hj, q⟩
  exact ⟨hi, j, by omega, q⟩
 ·rintro ⟨hi, j, hj, h1, v, hv, h2, h3⟩
  rcases Nat.lt_succ_iff_lt_or_eq.1 hj with hj | hj
  ·exact ⟨hi, j, hj, h1, v, hv, h2, h3⟩
  ·subst hj
   rw [hu] at hv
   cases hv
   rw [h0] at h2
   cases h2

theorem Seen.leaf1 {L : List MTree} {n k : Nat} {fl : Bool} {S : List Bool} (h : Seen L n k fl S) {u : MTree} (hu : L[k]? = some u) (hr : RF L ((L.length : Int) - 1) k) (h1 : u.kind = 1) {z : Nat} (hz : u.row = z) (hn : z < n) : Seen L n (k + 1) fl (S.set z true) := by
 refine ⟨by rw [List.length_set]; exact h.len, ?_, fun i => ?_⟩
 ·rw [h.fail]
  constructor
  ·rintro ⟨j, hj, q⟩
   exact ⟨j, by omega, q⟩
  ·rintro ⟨j, hj, h2, v, hv, h3⟩
   rcases Nat.lt_succ_iff_lt_or_eq.1 hj with hj | hj
   ·exact ⟨j, hj, h2, v, hv, h3⟩
   ·subst hj
    rw [hu] at hv
    cases hv
    rw [h1] at h3
    cases h3
 ·have hl := h.len
  rw [List.getElem?_set]
  split
  ·rename_i e
   subst e
   constructor
   ·intro _
    exact ⟨hn, k, by omega, hr, u, hu, h1, hz⟩
   ·intro _
    simp
    omega
  ·rename_i e
   rw [h.row]
   constructor
   ·rintro ⟨hi, j, hj, q⟩
    exact ⟨hi, j, by omega, q⟩
   ·rintro ⟨hi, j, hj, h2, v, hv, h3, h4⟩
    rcases Nat.lt_succ_iff_lt_or_eq.1 hj with hj | hj
    ·exact ⟨hi, j, hj, h2, v, hv, h3, h4⟩
    ·subst hj
     rw [hu] at hv
     cases hv
     omega

theorem Seen.final {L : List MTree} {n : Nat} {fl : Bool} {S : List Bool} (h : Seen L n L.length fl S) : (fl = true ↔ Leads L ((L.length : Int) - 1) none) ∧ ∀ i : Nat, i < n → (S[i]? = some true ↔ Leads L ((L.length : Int) - 1) (some (i : Int))) := by
 have key : ∀ (j : Int) (u : MTree), nodeAt L j = some u → ∃ j' : Nat, j = j' ∧ j' < L.length ∧ L[j']? = some u := fun j u hu => by
  have := nodeAt_lt hu
  obtain ⟨j', rfl⟩ : ∃ j' : Nat, j = j' := ⟨j.toNat, by omega⟩
  rw [nodeAt_nat] at hu
  exact ⟨j', rfl, by omega, hu⟩
 constructor
 ·rw [h.fail]
  constructor
  ·rintro ⟨j, _, h1, u, hu, h2⟩
   exact ⟨j, h1, u, by rw [nodeAt_nat]; exact hu, .inl ⟨h2, rfl⟩⟩
  ·rintro ⟨j, h1, u, hu, h2⟩
   obtain ⟨j', rfl, hj, hu'⟩ := key j u hu
   rcases h2 with ⟨h2, _⟩ | ⟨_, e⟩
   ·exact ⟨j', hj, h1, u, hu', h2⟩
   ·cases e
 ·intro i hi
  rw [h.row]
  constructor
  ·rintro ⟨_, j, _, h1, u, hu, h2, h3⟩
   exact ⟨j, h1, u, by rw [nodeAt_nat]; exact hu, .inr ⟨h2, by rw [h3]⟩⟩
  ·rintro ⟨j, h1, u, hu, h2⟩
   obtain ⟨j', rfl, hj, hu'⟩ := key j u hu
   rcases h2 with ⟨_, e⟩ | ⟨h2, e⟩
   ·cases e
   ·simp only [Option.some.injEq] at e
    exact ⟨hi, j', hj, h1, u, hu', h2, e.symm⟩

theorem matchRows_law (datas : List Data) (hF : FitD datas) (rows : List (List Pat)) : PCall Try.prog 8 [eD datas, eRR rows] (.v (.bool true)) := by
 have hcomp := compile_spec datas rows
 have herr := compile_err (datas := datas) (rows := rows)
 have hlaw := rows_law (datas := datas) (rows := rows)
 have hne := fun h => (compile_zero (datas := datas) (rows := rows) h)
 have hred := Redundant_spec hF rows
 have hmis := Missing_spec hF rows (rows.headD []).length
 by_cases he : (compileE datas rows).2 = 0
 ·obtain ⟨l1, l2, l3, l4, l5, l6⟩ := hlaw he
  obtain ⟨t, _, _, _, _, tys, hh, h16, _, _, hN, hNl, _⟩ := hne he
  clear hlaw hne herr
  obtain ⟨⟨N, e⟩, hq⟩ : ∃ q, q = compileE datas rows := ⟨_, rfl⟩
  rw [← hq] at hcomp l4 l5 l6 hN hNl he
  obtain ⟨⟨r, e2⟩, hq2⟩ : ∃ q, q = redundantE datas rows := ⟨_, rfl⟩
  rw [← hq2] at l1 l4 hred
  obtain ⟨⟨l, e3⟩, hq3⟩ : ∃ q, q = missingE datas rows (rows.headD []).length := ⟨_, rfl⟩
  rw [← hq3] at l2 l5 hmis
  simp only at *
  clear hq hq2 hq3
  subst he l1 l2
  refine ecall_of hT true 0 Try.func8 rfl (by kernel_rfl) (by simp [Try.ntmps8]) (by simp) ?_
  show AWP Try.prog _ _ _ ⟨137, _, _⟩
  dsimp only [Tmp, TypeId, slotsOf]
  first | refine zg1 ?_ | refine zg0 ?_ | refine zg2 ?_ | refine zg3 ?_
  simp -dsimp only [simprocAttr, ↓vpre, zpm]
  refine at_intro ?_
  simp -dsimp only [vend, ne_eq, Nat.reduceEqDiff, reduceCtorEq]
  first | refine zg1 ?_ | refine zg0 ?_ | refine zg2 ?_ | refine zg3 ?_
  simp -dsimp only [simprocAttr, ↓vpre, zpm]
  refine .inl ⟨_, patternsWork_spec, by first | (simp only [uptoL, AVal.upto, zt, zum, aB_upto]; done) | (simp [uptoL, AVal.upto, zum, aB_upto]; done), later_intro ?_⟩
  simp -dsimp only [simprocAttr, ↓vpre, zpm]
  refine at_intro ?_
  simp -dsimp only [vend, ne_eq, Nat.reduceEqDiff, reduceCtorEq]
  first | refine zk1 rfl (fun h => ?_) (fun h => ?_) | refine zk0 rfl (fun h => ?_) (fun h => ?_) | refine zk2 rfl (fun h => ?_) (fun h => ?_)
  ·cases h
  ·refine awp_skip ?_
   simp -dsimp only [vend, ne_eq, Nat.reduceEqDiff, reduceCtorEq]
   first | refine zg1 ?_ | refine zg0 ?_ | refine zg2 ?_ | refine zg3 ?_
   simp -dsimp only [simprocAttr, ↓vpre, zpm]
   refine .inl ⟨_, hcomp, by first | (simp only [uptoL, AVal.upto, zt, zum, aB_upto]; done) | (simp [uptoL, AVal.upto, zum, aB_upto]; done), later_intro ?_⟩
   simp -dsimp only [simprocAttr, ↓vpre, zpm]
   refine at_intro ?_
   simp -dsimp only [vend, ne_eq, Nat.reduceEqDiff, reduceCtorEq]
   by_cases hz : rows.length = 0
   ·have hz1 : decide ((rows.length : Int) = 0) = true := decide_eq_true (by omega)
    first | refine zg1 ?_ | refine zg0 ?_ | refine zg2 ?_ | refine zg3 ?_
    simp -dsimp only [simprocAttr, ↓vpre, zpm, eq_self, hz1]
    refine at_intro ?_
    simp -dsimp only [vend, ne_eq, Nat.reduceEqDiff, reduceCtorEq]
    first | refine zk1 rfl (fun h => ?_) (fun h => ?_) | refine zk0 rfl (fun h => ?_) (fun h => ?_) | refine zk2 rfl (fun h => ?_) (fun h => ?_)
    ·first | refine zg1 ?_ | refine zg0 ?_ | refine zg2 ?_ | refine zg3 ?_
     simp -dsimp only [simprocAttr, ↓vpre, zpm]
     refine at_intro ?_
     simp -dsimp only [vend, ne_eq, Nat.reduceEqDiff, reduceCtorEq]
     refine awp_ret ?_
     simp -dsimp only [simprocAttr, ↓vpre, zpm, RetTo, Try.results8, retVals, retVal, mkRet, AVal.upto, Nat.zero_le, Nat.le_refl, seqPost_ret, blockPost_ret, loopPost_ret]
    ·cases h
   ·have hz1 : decide ((rows.length : Int) = 0) = false := decide_eq_false (by omega)
    have hr0 := head_get rows (by omega)
    first | refine zg1 ?_ | refine zg0 ?_ | refine zg2 ?_ | refine zg3 ?_
    simp -dsimp only [simprocAttr, ↓vpre, zpm, eq_self, hz1]
    refine at_intro ?_
    simp -dsimp only [vend, ne_eq, Nat.reduceEqDiff, reduceCtorEq]
    first | refine zk1 rfl (fun h => ?_) (fun h => ?_) | refine zk0 rfl (fun h => ?_) (fun h => ?_) | refine zk2 rfl (fun h => ?_) (fun h => ?_)
    ·cases h
    ·refine awp_skip ?_
     simp -dsimp only [vend, ne_eq, Nat.reduceEqDiff, reduceCtorEq]
     first | refine zg1 ?_ | refine zg0 ?_ | refine zg2 ?_ | refine zg3 ?_
     simp -dsimp only [simprocAttr, ↓vpre, zpm]
     refine .inl ⟨_, hred, by first | (simp only [uptoL, AVal.upto, zt, zum, aB_upto]; done) | (simp [uptoL, AVal.upto, zum, aB_upto]; done), later_intro ?_⟩
     simp -dsimp only [simprocAttr, ↓vpre, zpm]
     refine at_intro ?_
     simp -dsimp only [vend, ne_eq, Nat.reduceEqDiff, reduceCtorEq]
     first | refine zg1 ?_ | refine zg0 ?_ | refine zg2 ?_ | refine zg3 ?_
     simp -dsimp only [simprocAttr, ↓vpre, zpm, hr0]
     refine .inl ⟨_, hmis, by first | (simp only [uptoL, AVal.upto, zt, zum, aB_upto]; done) | (simp [uptoL, AVal.upto, zum, aB_upto]; done), later_intro ?_⟩
     simp -dsimp only [simprocAttr, ↓vpre, zpm]
     refine at_intro ?_
     simp -dsimp only [vend, ne_eq, Nat.reduceEqDiff, reduceCtorEq]
     by_cases hc : (rows.headD []).length = 0
     ·have hc1 : decide (((rows.headD []).length : Int) = 0) = true := decide_eq_true (by omega)
      first | refine zg1 ?_ | refine zg0 ?_ | refine zg2 ?_ | refine zg3 ?_
      simp -dsimp only [simprocAttr, ↓vpre, zpm, eq_self, hr0, hc1]
      refine at_intro ?_
      simp -dsimp only [vend, ne_eq, Nat.reduceEqDiff, reduceCtorEq]
      first | refine zk1 rfl (fun h => ?_) (fun h => ?_) | refine zk0 rfl (fun h => ?_) (fun h => ?_) | refine zk2 rfl (fun h => ?_) (fun h => ?_)
      ·first | refine zg1 ?_ | refine zg0 ?_ | refine zg2 ?_ | refine zg3 ?_
       simp -dsimp only [simprocAttr, ↓vpre, zpm]
       refine at_intro ?_
       simp -dsimp only [vend, ne_eq, Nat.reduceEqDiff, reduceCtorEq]
       refine awp_ret ?_
       simp -dsimp only [simprocAttr, ↓vpre, zpm, RetTo, Try.results8, retVals, retVal, mkRet, AVal.upto, Nat.zero_le, Nat.le_refl, seqPost_ret, blockPost_ret, loopPost_ret]
      ·cases h
     ·have hc1 : decide (((rows.headD []).length : Int) = 0) = false := decide_eq_false (by omega)
      have l5 := l5 hc
      first | refine zg1 ?_ | refine zg0 ?_ | refine zg2 ?_ | refine zg3 ?_
      simp -dsimp only [simprocAttr, ↓vpre, zpm, eq_self, hr0, hc1]
      refine at_intro ?_
      simp -dsimp only [vend, ne_eq, Nat.reduceEqDiff, reduceCtorEq]
      first | refine zk1 rfl (fun h => ?_) (fun h => ?_) | refine zk0 rfl (fun h => ?_) (fun h => ?_) | refine zk2 rfl (fun h => ?_) (fun h => ?_)
      ·cases h
      ·refine awp_skip ?_
       simp -dsimp only [vend, ne_eq, Nat.reduceEqDiff, reduceCtorEq]
       first | refine zg1 ?_ | refine zg0 ?_ | refine zg2 ?_ | refine zg3 ?_
       simp -dsimp only [simprocAttr, ↓vpre, zpm, bcells_nil]
       repeat (refine ⟨by omega, ?_⟩)
       refine at_intro ?_
       simp -dsimp only [vend, ne_eq, Nat.reduceEqDiff, reduceCtorEq]
       first | refine zg1 ?_ | refine zg0 ?_ | refine zg2 ?_ | refine zg3 ?_
       simp -dsimp only [simprocAttr, ↓vpre, zpm]
       refine at_intro ?_
       simp -dsimp only [vend, ne_eq, Nat.reduceEqDiff, reduceCtorEq]
       first | refine zg1 ?_ | refine zg0 ?_ | refine zg2 ?_ | refine zg3 ?_
       simp -dsimp only [simprocAttr, ↓vpre, zpm]
       refine .inl ⟨_, reachable_spec N (by omega) hN, by first | (simp only [uptoL, AVal.upto, zt, zum, aB_upto]; done) | (simp [uptoL, AVal.upto, zum, aB_upto]; done), later_intro ?_⟩
       simp -dsimp only [simprocAttr, ↓vpre, zpm]
       refine at_intro ?_
       simp -dsimp only [vend, ne_eq, Nat.reduceEqDiff, reduceCtorEq]
       first | refine awp_block (awp_loop (ι := {q : Nat × Bool × List Bool // q.1 ≤ N.length ∧ Seen N rows.length q.1 q.2.1 q.2.2}) (fun q => ⟨137, [(1, eRR rows), (5, eT N), (7, eI r), (9, eR l), (11, .ms 0 0 rows.length rows.length), (12, aB q.1.2.1), (78, eB (reachB N)), (79, aI (reachB N).length), (80, aI q.1.1)], [.cells (q.1.2.2.map aB)]⟩) (fun q => N.length - q.1.1) ⟨(0, false, List.replicate rows.length false), by omega, Seen.start N rows.length⟩ ?_ ?_) | refine awp_seq (awp_block (awp_loop (ι := {q : Nat × Bool × List Bool // q.1 ≤ N.length ∧ Seen N rows.length q.1 q.2.1 q.2.2}) (fun q => ⟨137, [(1, eRR rows), (5, eT N), (7, eI r), (9, eR l), (11, .ms 0 0 rows.length rows.length), (12, aB q.1.2.1), (78, eB (reachB N)), (79, aI (reachB N).length), (80, aI q.1.1)], [.cells (q.1.2.2.map aB)]⟩) (fun q => N.length - q.1.1) ⟨(0, false, List.replicate rows.length false), by omega, Seen.start N rows.length⟩ ?_ ?_))
       ·refine ⟨rfl, ?_, ?_⟩
        rotate_left
        simp -dsimp only [simprocAttr, ↓vpre, zpm, Says, exists_eq_left', Option.some.injEq, sub_self, and_assoc, true_and, and_true]
        rfl
       ·rintro ⟨⟨k, fl, S⟩, hk, hS⟩
        simp only at hk hS
        have hSl := hS.len
        have hrl := reachB_len N
        first | refine zg1 ?_ | refine zg0 ?_ | refine zg2 ?_ | refine zg3 ?_
        simp -dsimp only [simprocAttr, ↓vpre, zpm]
        refine at_intro ?_
        simp -dsimp only [vend, ne_eq, Nat.reduceEqDiff, reduceCtorEq]
        first | refine zk1 rfl (fun h => ?_) (fun h => ?_) | refine zk0 rfl (fun h => ?_) (fun h => ?_) | refine zk2 rfl (fun h => ?_) (fun h => ?_)
        ·refine awp_skip ?_
         simp -dsimp only [vend, ne_eq, Nat.reduceEqDiff, reduceCtorEq]
         have hlt : k < N.length := by simp [reachB_len] at h; omega
         obtain ⟨u, hu⟩ : ∃ u, N[k]? = some u := ⟨N[k], by simp [hlt]⟩
         obtain ⟨b, hb⟩ : ∃ b, (reachB N)[k]? = some b := ⟨(reachB N)[k]'(by omega), by simp⟩
         have hbr := reachB_get hb
         first | refine awp_seq (awp_block ?_) | refine awp_block ?_
         first | refine zg1 ?_ | refine zg0 ?_ | refine zg2 ?_ | refine zg3 ?_
         simp -dsimp only [simprocAttr, ↓vpre, zpm, hb]
         refine at_intro ?_
         simp -dsimp only [vend, ne_eq, Nat.reduceEqDiff, reduceCtorEq]
         cases b with
         | false =>
          have hnr : ¬ RF N ((N.length : Int) - 1) k := fun q => by have := hbr.2 q; cases this
          first | refine zg1 ?_ | refine zg0 ?_ | refine zg2 ?_ | refine zg3 ?_
          simp -dsimp only [simprocAttr, ↓vpre, zpm]
          refine at_intro ?_
          simp -dsimp only [vend, ne_eq, Nat.reduceEqDiff, reduceCtorEq]
          first | refine zk1 rfl (fun h => ?_) (fun h => ?_) | refine zk0 rfl (fun h => ?_) (fun h => ?_) | refine zk2 rfl (fun h => ?_) (fun h => ?_)
          ·cases h
          ·refine awp_skip ?_
           simp -dsimp only [vend, ne_eq, Nat.reduceEqDiff, reduceCtorEq]
           first | refine zg1 ?_ | refine zg0 ?_ | refine zg2 ?_ | refine zg3 ?_
           simp -dsimp only [simprocAttr, ↓vpre, zpm]
           refine at_intro ?_
           simp -dsimp only [vend, ne_eq, Nat.reduceEqDiff, reduceCtorEq]
           first | refine zk1 rfl (fun h => ?_) (fun h => ?_) | refine zk0 rfl (fun h => ?_) (fun h => ?_) | refine zk2 rfl (fun h => ?_) (fun h => ?_)
           ·cases h
           ·refine awp_skip ?_
            simp -dsimp only [vend, ne_eq, Nat.reduceEqDiff, reduceCtorEq]
            first | refine zg1 ?_ | refine zg0 ?_ | refine zg2 ?_ | refine zg3 ?_
            simp -dsimp only [simprocAttr, ↓vpre, zpm]
            repeat (refine ⟨by omega, ?_⟩)
            refine at_intro ?_
            simp -dsimp only [vend, ne_eq, Nat.reduceEqDiff, reduceCtorEq]
            refine ⟨⟨(k + 1, fl, S), hlt, hS.same hu (fun q => absurd q hnr)⟩, by simp; omega, ?_⟩
            refine ⟨rfl, ?_, ?_⟩
            rotate_left
            simp -dsimp only [simprocAttr, ↓vpre, zpm, Says, exists_eq_left', Option.some.injEq, sub_self, and_assoc, true_and, and_true]
            ·exact Sub.int (by simp)
            ·rfl
         | true =>
          have hr := hbr.1 rfl
          by_cases hk0 : u.kind = 0
          ·have hd0 : decide (u.kind = 0) = true := decide_eq_true hk0
           have hd1 : decide (u.kind = 1) = false := decide_eq_false (by omega)
           first | refine zg1 ?_ | refine zg0 ?_ | refine zg2 ?_ | refine zg3 ?_
           simp -dsimp only [simprocAttr, ↓vpre, zpm, hu, hd0]
           refine at_intro ?_
           simp -dsimp only [vend, ne_eq, Nat.reduceEqDiff, reduceCtorEq]
           first | refine zk1 rfl (fun h => ?_) (fun h => ?_) | refine zk0 rfl (fun h => ?_) (fun h => ?_) | refine zk2 rfl (fun h => ?_) (fun h => ?_)
           ·first | refine zg1 ?_ | refine zg0 ?_ | refine zg2 ?_ | refine zg3 ?_
            simp -dsimp only [simprocAttr, ↓vpre, zpm]
            refine at_intro ?_
            simp -dsimp only [vend, ne_eq, Nat.reduceEqDiff, reduceCtorEq]
            first | refine zg1 ?_ | refine zg0 ?_ | refine zg2 ?_ | refine zg3 ?_
            simp -dsimp only [simprocAttr, ↓vpre, zpm, hu, hd1]
            refine at_intro ?_
            simp -dsimp only [vend, ne_eq, Nat.reduceEqDiff, reduceCtorEq]
            first | refine zk1 rfl (fun h => ?_) (fun h => ?_) | refine zk0 rfl (fun h => ?_) (fun h => ?_) | refine zk2 rfl (fun h => ?_) (fun h => ?_)
            ·cases h
            ·refine awp_skip ?_
             simp -dsimp only [vend, ne_eq, Nat.reduceEqDiff, reduceCtorEq]
             first | refine zg1 ?_ | refine zg0 ?_ | refine zg2 ?_ | refine zg3 ?_
             simp -dsimp only [simprocAttr, ↓vpre, zpm]
             repeat (refine ⟨by omega, ?_⟩)
             refine at_intro ?_
             simp -dsimp only [vend, ne_eq, Nat.reduceEqDiff, reduceCtorEq]
             refine ⟨⟨(k + 1, true, S), hlt, hS.leaf0 hu hr hk0⟩, by simp; omega, ?_⟩
             refine ⟨rfl, ?_, ?_⟩
             rotate_left
             simp -dsimp only [simprocAttr, ↓vpre, zpm, Says, exists_eq_left', Option.some.injEq, sub_self, and_assoc, true_and, and_true]
             ·exact Sub.int (by simp)
             ·rfl
           ·cases h
          ·have hd0 : decide (u.kind = 0) = false := decide_eq_false hk0
           first | refine zg1 ?_ | refine zg0 ?_ | refine zg2 ?_ | refine zg3 ?_
           simp -dsimp only [simprocAttr, ↓vpre, zpm, hu, hd0]
           refine at_intro ?_
           simp -dsimp only [vend, ne_eq, Nat.reduceEqDiff, reduceCtorEq]
           first | refine zk1 rfl (fun h => ?_) (fun h => ?_) | refine zk0 rfl (fun h => ?_) (fun h => ?_) | refine zk2 rfl (fun h => ?_) (fun h => ?_)
           ·cases h
           ·refine awp_skip ?_
            simp -dsimp only [vend, ne_eq, Nat.reduceEqDiff, reduceCtorEq]
            by_cases hk1 : u.kind = 1
            ·have hd1 : decide (u.kind = 1) = true := decide_eq_true hk1
             obtain ⟨z, hz', hzn⟩ := l6 u.row ⟨k, hr, u, by rw [nodeAt_nat]; exact hu, .inr ⟨hk1, rfl⟩⟩
             have hge : decide ((rows.length : Int) ≤ z) = false := decide_eq_false (by omega)
             have hput := bput S true (k := z) (by omega)
             have hlen2 : (S.map aB).length = rows.length := by rw [List.length_map, hSl]
             first | refine zg1 ?_ | refine zg0 ?_ | refine zg2 ?_ | refine zg3 ?_
             simp -dsimp only [simprocAttr, ↓vpre, zpm, hu, hd1]
             refine at_intro ?_
             simp -dsimp only [vend, ne_eq, Nat.reduceEqDiff, reduceCtorEq]
             first | refine zk1 rfl (fun h => ?_) (fun h => ?_) | refine zk0 rfl (fun h => ?_) (fun h => ?_) | refine zk2 rfl (fun h => ?_) (fun h => ?_)
             ·first | refine zg1 ?_ | refine zg0 ?_ | refine zg2 ?_ | refine zg3 ?_
              simp -dsimp only [simprocAttr, ↓vpre, zpm, hu, hz', hge]
              refine at_intro ?_
              simp -dsimp only [vend, ne_eq, Nat.reduceEqDiff, reduceCtorEq]
              first | refine zk1 rfl (fun h => ?_) (fun h => ?_) | refine zk0 rfl (fun h => ?_) (fun h => ?_) | refine zk2 rfl (fun h => ?_) (fun h => ?_)
              ·cases h
              ·refine awp_skip ?_
               simp -dsimp only [vend, ne_eq, Nat.reduceEqDiff, reduceCtorEq]
               first | refine zg1 ?_ | refine zg0 ?_ | refine zg2 ?_ | refine zg3 ?_
               simp -dsimp only [simprocAttr, ↓vpre, zpm, hu, hz', hput, hlen2]
               repeat (refine ⟨by omega, ?_⟩)
               refine at_intro ?_
               simp -dsimp only [vend, ne_eq, Nat.reduceEqDiff, reduceCtorEq]
               first | refine zg1 ?_ | refine zg0 ?_ | refine zg2 ?_ | refine zg3 ?_
               simp -dsimp only [simprocAttr, ↓vpre, zpm]
               repeat (refine ⟨by omega, ?_⟩)
               refine at_intro ?_
               simp -dsimp only [vend, ne_eq, Nat.reduceEqDiff, reduceCtorEq]
               refine ⟨⟨(k + 1, fl, S.set z true), hlt, hS.leaf1 hu hr hk1 hz' hzn⟩, by simp; omega, ?_⟩
               refine ⟨rfl, ?_, ?_⟩
               rotate_left
               simp -dsimp only [simprocAttr, ↓vpre, zpm, Says, exists_eq_left', Option.some.injEq, sub_self, and_assoc, true_and, and_true]
               ·exact Sub.int (by simp)
               ·rfl
             ·cases h
            ·have hd1 : decide (u.kind = 1) = false := decide_eq_false hk1
             first | refine zg1 ?_ | refine zg0 ?_ | refine zg2 ?_ | refine zg3 ?_
             simp -dsimp only [simprocAttr, ↓vpre, zpm, hu, hd1]
             refine at_intro ?_
             simp -dsimp only [vend, ne_eq, Nat.reduceEqDiff, reduceCtorEq]
             first | refine zk1 rfl (fun h => ?_) (fun h => ?_) | refine zk0 rfl (fun h => ?_) (fun h => ?_) | refine zk2 rfl (fun h => ?_) (fun h => ?_)
             ·cases h
             ·refine awp_skip ?_
              simp -dsimp only [vend, ne_eq, Nat.reduceEqDiff, reduceCtorEq]
              first | refine zg1 ?_ | refine zg0 ?_ | refine zg2 ?_ | refine zg3 ?_
              simp -dsimp only [simprocAttr, ↓vpre, zpm]
              repeat (refine ⟨by omega, ?_⟩)
              refine at_intro ?_
              simp -dsimp only [vend, ne_eq, Nat.reduceEqDiff, reduceCtorEq]
              refine ⟨⟨(k + 1, fl, S), hlt, hS.same hu (fun _ => ⟨hk0, hk1⟩)⟩, by simp; omega, ?_⟩
              refine ⟨rfl, ?_, ?_⟩
              rotate_left
              simp -dsimp only [simprocAttr, ↓vpre, zpm, Says, exists_eq_left', Option.some.injEq, sub_self, and_assoc, true_and, and_true]
              ·exact Sub.int (by simp)
              ·rfl
        ·refine awp_exit ?_
         simp -dsimp only [vend, ne_eq, Nat.reduceEqDiff, reduceCtorEq]
         have hkk : k = N.length := by simp [reachB_len] at h; omega
         subst hkk
         obtain ⟨f1, f2⟩ := hS.final
         first | refine zg1 ?_ | refine zg0 ?_ | refine zg2 ?_ | refine zg3 ?_
         simp -dsimp only [simprocAttr, ↓vpre, zpm]
         refine at_intro ?_
         simp -dsimp only [vend, ne_eq, Nat.reduceEqDiff, reduceCtorEq]
         first | refine awp_block (awp_loop (ι := {k : Nat // k ≤ rows.length}) (fun k => ⟨137, [(7, eI r), (9, eR l), (12, aB fl), (119, .ms 0 0 rows.length rows.length), (120, aI rows.length), (121, aI k.1)], [.cells (S.map aB)]⟩) (fun k => rows.length - k.1) ⟨0, by omega⟩ ?_ ?_) | refine awp_seq (awp_block (awp_loop (ι := {k : Nat // k ≤ rows.length}) (fun k => ⟨137, [(7, eI r), (9, eR l), (12, aB fl), (119, .ms 0 0 rows.length rows.length), (120, aI rows.length), (121, aI k.1)], [.cells (S.map aB)]⟩) (fun k => rows.length - k.1) ⟨0, by omega⟩ ?_ ?_))
         ·refine ⟨rfl, ?_, ?_⟩
          rotate_left
          simp -dsimp only [simprocAttr, ↓vpre, zpm, Says, exists_eq_left', Option.some.injEq, sub_self, and_assoc, true_and, and_true]
          rfl
         ·rintro ⟨k, hk⟩
          first | refine zg1 ?_ | refine zg0 ?_ | refine zg2 ?_ | refine zg3 ?_
          simp -dsimp only [simprocAttr, ↓vpre, zpm]
          refine at_intro ?_
          simp -dsimp only [vend, ne_eq, Nat.reduceEqDiff, reduceCtorEq]
          first | refine zk1 rfl (fun h => ?_) (fun h => ?_) | refine zk0 rfl (fun h => ?_) (fun h => ?_) | refine zk2 rfl (fun h => ?_) (fun h => ?_)
          ·refine awp_skip ?_
           simp -dsimp only [vend, ne_eq, Nat.reduceEqDiff, reduceCtorEq]
           have hlt : k < rows.length := by simpa using h
           obtain ⟨b, hb⟩ : ∃ b, S[k]? = some b := ⟨S[k]'(by omega), by simp⟩
           have hbg := bget hb
           have hneq : b = !decide ((k : Int) ∈ r) := by
            have h1 := f2 k hlt
            rw [l4 k hlt, hb] at h1
            simp only [Option.some.injEq] at h1
            rw [Bool.eq_iff_iff, h1]
            simp
           first | refine awp_seq (awp_block ?_) | refine awp_block ?_
           first | refine zg1 ?_ | refine zg0 ?_ | refine zg2 ?_ | refine zg3 ?_
           simp -dsimp only [simprocAttr, ↓vpre, zpm, hbg]
           repeat (refine ⟨by omega, ?_⟩)
           refine at_intro ?_
           simp -dsimp only [vend, ne_eq, Nat.reduceEqDiff, reduceCtorEq]
           first | refine zg1 ?_ | refine zg0 ?_ | refine zg2 ?_ | refine zg3 ?_
           simp -dsimp only [simprocAttr, ↓vpre, zpm]
           refine .inl ⟨_, hasInt_spec r k, by first | (simp only [uptoL, AVal.upto, zt, zum, aB_upto]; done) | (simp [uptoL, AVal.upto, zum, aB_upto]; done), later_intro ?_⟩
           simp -dsimp only [simprocAttr, ↓vpre, zpm, hneq]
           refine ⟨Try.underlying4, ?_⟩
           have hxx : ((!decide ((k : Int) ∈ r)) == decide ((k : Int) ∈ r)) = false := by
            cases decide ((k : Int) ∈ r) <;> rfl
           refine at_intro ?_
           simp -dsimp only [vend, ne_eq, Nat.reduceEqDiff, reduceCtorEq]
           first | refine zk1 rfl (fun h => ?_) (fun h => ?_) | refine zk0 rfl (fun h => ?_) (fun h => ?_) | refine zk2 rfl (fun h => ?_) (fun h => ?_)
           ·rw [hxx] at h
            cases h
           ·refine awp_skip ?_
            simp -dsimp only [vend, ne_eq, Nat.reduceEqDiff, reduceCtorEq]
            first | refine zg1 ?_ | refine zg0 ?_ | refine zg2 ?_ | refine zg3 ?_
            simp -dsimp only [simprocAttr, ↓vpre, zpm]
            repeat (refine ⟨by omega, ?_⟩)
            refine at_intro ?_
            simp -dsimp only [vend, ne_eq, Nat.reduceEqDiff, reduceCtorEq]
            refine ⟨⟨k + 1, hlt⟩, by simp; omega, ?_⟩
            refine ⟨rfl, ?_, ?_⟩
            rotate_left
            simp -dsimp only [simprocAttr, ↓vpre, zpm, Says, exists_eq_left', Option.some.injEq, sub_self, and_assoc, true_and, and_true]
            ·exact Sub.int (by simp)
            ·rfl
          ·refine awp_exit ?_
           simp -dsimp only [vend, ne_eq, Nat.reduceEqDiff, reduceCtorEq]
           have hkk : k = rows.length := by simp at h; omega
           subst hkk
           have hfin : fl = decide ((0 : Int) < l.length) := by
            rw [Bool.eq_iff_iff, f1, l5]
            simp only [decide_eq_true_eq]
            constructor
            ·intro hl0
             have := List.length_pos_iff.2 hl0
             omega
            ·intro hl0
             exact List.length_pos_iff.1 (by omega)
           first | refine zg1 ?_ | refine zg0 ?_ | refine zg2 ?_ | refine zg3 ?_
           simp -dsimp only [simprocAttr, ↓vpre, zpm, ← hfin]
           refine ⟨Try.underlying4, ?_⟩
           refine at_intro ?_
           simp -dsimp only [vend, ne_eq, Nat.reduceEqDiff, reduceCtorEq]
           refine awp_ret ?_
           simp -dsimp only [simprocAttr, ↓vpre, zpm, RetTo, Try.results8, retVals, retVal, mkRet, AVal.upto, Nat.zero_le, Nat.le_refl, seqPost_ret, blockPost_ret, loopPost_ret]
 ·have hN := herr he
  obtain ⟨⟨N, e⟩, hq⟩ : ∃ q, q = compileE datas rows := ⟨_, rfl⟩
  rw [← hq] at hcomp hN he
  simp only at hN hcomp he
  clear hq
  subst hN
  have hd : (!decide (e = 0)) = true := by simpa using he
  have hd2 : decide (e = 0) = false := by simpa using he
  refine ecall_of hT true 0 Try.func8 rfl (by kernel_rfl) (by simp [Try.ntmps8]) (by simp) ?_
  show AWP Try.prog _ _ _ ⟨137, _, _⟩
  dsimp only [Tmp, TypeId, slotsOf]
  first | refine zg1 ?_ | refine zg0 ?_ | refine zg2 ?_ | refine zg3 ?_
  simp -dsimp only [simprocAttr, ↓vpre, zpm]
  refine at_intro ?_
  simp -dsimp only [vend, ne_eq, Nat.reduceEqDiff, reduceCtorEq]
  first | refine zg1 ?_ | refine zg0 ?_ | refine zg2 ?_ | refine zg3 ?_
  simp -dsimp only [simprocAttr, ↓vpre, zpm]
  refine .inl ⟨_, patternsWork_spec, by first | (simp only [uptoL, AVal.upto, zt, zum, aB_upto]; done) | (simp [uptoL, AVal.upto, zum, aB_upto]; done), later_intro ?_⟩
  simp -dsimp only [simprocAttr, ↓vpre, zpm]
  refine at_intro ?_
  simp -dsimp only [vend, ne_eq, Nat.reduceEqDiff, reduceCtorEq]
  first | refine zk1 rfl (fun h => ?_) (fun h => ?_) | refine zk0 rfl (fun h => ?_) (fun h => ?_) | refine zk2 rfl (fun h => ?_) (fun h => ?_)
  ·cases h
  ·refine awp_skip ?_
   simp -dsimp only [vend, ne_eq, Nat.reduceEqDiff, reduceCtorEq]
   first | refine zg1 ?_ | refine zg0 ?_ | refine zg2 ?_ | refine zg3 ?_
   simp -dsimp only [simprocAttr, ↓vpre, zpm]
   refine .inl ⟨_, hcomp, by first | (simp only [uptoL, AVal.upto, zt, zum, aB_upto]; done) | (simp [uptoL, AVal.upto, zum, aB_upto]; done), later_intro ?_⟩
   simp -dsimp only [simprocAttr, ↓vpre, zpm]
   refine at_intro ?_
   simp -dsimp only [vend, ne_eq, Nat.reduceEqDiff, reduceCtorEq]
   first | refine zg1 ?_ | refine zg0 ?_ | refine zg2 ?_ | refine zg3 ?_
   simp -dsimp only [simprocAttr, ↓vpre, zpm, hd]
   refine at_intro ?_
   simp -dsimp only [vend, ne_eq, Nat.reduceEqDiff, reduceCtorEq]
   first | refine zk1 rfl (fun h => ?_) (fun h => ?_) | refine zk0 rfl (fun h => ?_) (fun h => ?_) | refine zk2 rfl (fun h => ?_) (fun h => ?_)
   ·first | refine zg1 ?_ | refine zg0 ?_ | refine zg2 ?_ | refine zg3 ?_
    simp -dsimp only [simprocAttr, ↓vpre, zpm, hd2]
    refine at_intro ?_
    simp -dsimp only [vend, ne_eq, Nat.reduceEqDiff, reduceCtorEq]
    refine awp_ret ?_
    simp -dsimp only [simprocAttr, ↓vpre, zpm, RetTo, Try.results8, retVals, retVal, mkRet, AVal.upto, Nat.zero_le, Nat.le_refl, seqPost_ret, blockPost_ret, loopPost_ret]
   ·cases h

end Go.Proofs.Ytakdmelemfnmdaa
end
