/-
  Texts bound together by a program of mine: YthhjebmgmjemoaaT40.
-/
import Derived.Test.YthhjebmgmjemoaaJ5
set_option linter.all false

section
set_option linter.unusedSimpArgs false
set_option maxRecDepth 100000
set_option maxHeartbeats 4000000
namespace Go.Proofs.Ythhjebmgmjemoaa
open Go.Av

theorem ssaFuel_law (u : Unt) (hfit : u.fit) : PCall Try.prog 3 [u.enc] (.v (.bool true)) := by
 have hw := works_spec
 have hrun := run_spec u hfit 2000
 have hrun1 := run_spec u hfit (runM u 2000).n
 have hrun2 := run_spec u hfit ((runM u 2000).n - 1)
 obtain ⟨w1, w2⟩ := run_wf hfit (fuel := 2000)
 have hl := fun h => fuel_law hfit (F := 2000) h
 by_cases he : (runM u 2000).e = 0
 ·obtain ⟨l1, l2⟩ := hl he
  obtain ⟨_, _, _, _, w3, w4⟩ := w2 he
  rw [l1] at hrun1
  generalize runM u 2000 = A at *
  generalize runM u (A.n - 1) = B at *
  obtain ⟨out, fin, val, n, e⟩ := A
  obtain ⟨out2, fin2, val2, n2, e2⟩ := B
  simp only at he l2 w3 w4 hrun1 hrun2
  subst he
  unfold Ans.enc at hrun hrun1 hrun2
  simp only at hrun hrun1 hrun2
  have hsr := sameResult_spec out out fin fin val val
  unfold eRes at hsr
  simp only [decide_true, Bool.and_self] at hsr
  by_cases hn : n = 1
  ·have d1 : decide (n = 1) = true := decide_eq_true hn
   refine ecall_of hT true 0 Try.func3 rfl (by kernel_rfl) (by simp [Try.ntmps3]) (by simp) ?_
   show AWP Try.prog _ _ _ ⟨56, _, _⟩
   dsimp only [Tmp, TypeId, slotsOf]
   refine zg1 ?_
   simp -dsimp only [simprocAttr, ↓vpre, zp]
   refine za0 ?_
   refine zg2 ?_
   simp -dsimp only [simprocAttr, ↓vpre, zp]
   refine .inl ⟨_, hw, by simp only [uptoL, AVal.upto, zt, zu, aI_upto], later_intro ?_⟩
   simp -dsimp only [simprocAttr, ↓vpre, zp]
   refine za0 ?_
   refine zk0 rfl (fun h => ?_) (fun h => ?_)
   ·cases h
   ·refine zb0 ?_
    refine zg1 ?_
    simp -dsimp only [simprocAttr, ↓vpre, zp]
    refine .inl ⟨_, hrun, by simp only [uptoL, AVal.upto, zt, zu, aI_upto], later_intro ?_⟩
    simp -dsimp only [simprocAttr, ↓vpre, zp]
    refine za0 ?_
    refine zg2 ?_
    simp -dsimp only [simprocAttr, ↓vpre, zp]
    refine za0 ?_
    refine zk0 rfl (fun h => ?_) (fun h => ?_)
    ·cases h
    ·refine zb0 ?_
     refine zg1 ?_
     simp -dsimp only [simprocAttr, ↓vpre, zp]
     refine .inl ⟨_, hrun1, by simp only [uptoL, AVal.upto, zt, zu, aI_upto], later_intro ?_⟩
     simp -dsimp only [simprocAttr, ↓vpre, zp]
     refine za0 ?_
     refine zg2 ?_
     simp -dsimp only [simprocAttr, ↓vpre, zp, decide_true]
     refine .inl ⟨_, hsr, by simp only [uptoL, AVal.upto, zt, zu, aI_upto], later_intro ?_⟩
     simp -dsimp only [simprocAttr, ↓vpre, zp, decide_true]
     refine za0 ?_
     refine zk0 rfl (fun h => ?_) (fun h => ?_)
     ·cases h
     ·refine zb0 ?_
      refine zg2 ?_
      simp -dsimp only [simprocAttr, ↓vpre, zp, d1]
      refine za0 ?_
      refine zk0 rfl (fun h => ?_) (fun h => ?_)
      ·refine zg1 ?_
       simp -dsimp only [simprocAttr, ↓vpre, zp]
       refine za0 ?_
       refine awp_ret ?_
       simp -dsimp only [simprocAttr, ↓vpre, zp, RetTo, Try.results3, retVals, retVal, mkRet, AVal.upto, Nat.zero_le, Nat.le_refl, Nat.le_add_right, seqPost_ret, blockPost_ret, loopPost_ret]
      ·cases h
  ·have d1 : decide (n = 1) = false := decide_eq_false hn
   have d2 : decide (e2 = 13) = true := decide_eq_true (l2 hn)
   refine ecall_of hT true 0 Try.func3 rfl (by kernel_rfl) (by simp [Try.ntmps3]) (by simp) ?_
   show AWP Try.prog _ _ _ ⟨56, _, _⟩
   dsimp only [Tmp, TypeId, slotsOf]
   refine zg1 ?_
   simp -dsimp only [simprocAttr, ↓vpre, zp]
   refine za0 ?_
   refine zg2 ?_
   simp -dsimp only [simprocAttr, ↓vpre, zp]
   refine .inl ⟨_, hw, by simp only [uptoL, AVal.upto, zt, zu, aI_upto], later_intro ?_⟩
   simp -dsimp only [simprocAttr, ↓vpre, zp]
   refine za0 ?_
   refine zk0 rfl (fun h => ?_) (fun h => ?_)
   ·cases h
   ·refine zb0 ?_
    refine zg1 ?_
    simp -dsimp only [simprocAttr, ↓vpre, zp]
    refine .inl ⟨_, hrun, by simp only [uptoL, AVal.upto, zt, zu, aI_upto], later_intro ?_⟩
    simp -dsimp only [simprocAttr, ↓vpre, zp]
    refine za0 ?_
    refine zg2 ?_
    simp -dsimp only [simprocAttr, ↓vpre, zp]
    refine za0 ?_
    refine zk0 rfl (fun h => ?_) (fun h => ?_)
    ·cases h
    ·refine zb0 ?_
     refine zg1 ?_
     simp -dsimp only [simprocAttr, ↓vpre, zp]
     refine .inl ⟨_, hrun1, by simp only [uptoL, AVal.upto, zt, zu, aI_upto], later_intro ?_⟩
     simp -dsimp only [simprocAttr, ↓vpre, zp]
     refine za0 ?_
     refine zg2 ?_
     simp -dsimp only [simprocAttr, ↓vpre, zp, decide_true]
     refine .inl ⟨_, hsr, by simp only [uptoL, AVal.upto, zt, zu, aI_upto], later_intro ?_⟩
     simp -dsimp only [simprocAttr, ↓vpre, zp, decide_true]
     refine za0 ?_
     refine zk0 rfl (fun h => ?_) (fun h => ?_)
     ·cases h
     ·refine zb0 ?_
      refine zg2 ?_
      simp -dsimp only [simprocAttr, ↓vpre, zp, d1]
      refine za0 ?_
      refine zk0 rfl (fun h => ?_) (fun h => ?_)
      ·cases h
      ·refine zb0 ?_
       refine zg1 ?_
       simp -dsimp only [simprocAttr, ↓vpre, zp]
       repeat (refine ⟨by omega, ?_⟩)
       refine .inl ⟨_, hrun2, by simp only [uptoL, AVal.upto, zt, zu, aI_upto], later_intro ?_⟩
       simp -dsimp only [simprocAttr, ↓vpre, zp]
       refine za0 ?_
       refine zg1 ?_
       simp -dsimp only [simprocAttr, ↓vpre, zp, d2]
       refine za0 ?_
       refine awp_ret ?_
       simp -dsimp only [simprocAttr, ↓vpre, zp, RetTo, Try.results3, retVals, retVal, mkRet, AVal.upto, Nat.zero_le, Nat.le_refl, Nat.le_add_right, seqPost_ret, blockPost_ret, loopPost_ret]
 ·obtain ⟨g1, g2, g3, g4⟩ := w1 he
  generalize runM u 2000 = A at *
  obtain ⟨out, fin, val, n, e⟩ := A
  simp only at he g4
  subst g4
  unfold Ans.enc at hrun
  have de : decide (e = 0) = false := decide_eq_false he
  refine ecall_of hT true 0 Try.func3 rfl (by kernel_rfl) (by simp [Try.ntmps3]) (by simp) ?_
  show AWP Try.prog _ _ _ ⟨56, _, _⟩
  dsimp only [Tmp, TypeId, slotsOf]
  refine zg1 ?_
  simp -dsimp only [simprocAttr, ↓vpre, zp]
  refine za0 ?_
  refine zg2 ?_
  simp -dsimp only [simprocAttr, ↓vpre, zp]
  refine .inl ⟨_, hw, by simp only [uptoL, AVal.upto, zt, zu, aI_upto], later_intro ?_⟩
  simp -dsimp only [simprocAttr, ↓vpre, zp]
  refine za0 ?_
  refine zk0 rfl (fun h => ?_) (fun h => ?_)
  ·cases h
  ·refine zb0 ?_
   refine zg1 ?_
   simp -dsimp only [simprocAttr, ↓vpre, zp]
   refine .inl ⟨_, hrun, by simp only [uptoL, AVal.upto, zt, zu, aI_upto], later_intro ?_⟩
   simp -dsimp only [simprocAttr, ↓vpre, zp]
   refine za0 ?_
   refine zg2 ?_
   simp -dsimp only [simprocAttr, ↓vpre, zp, de]
   refine za0 ?_
   refine zk0 rfl (fun h => ?_) (fun h => ?_)
   ·refine zg1 ?_
    simp -dsimp only [simprocAttr, ↓vpre, zp, decide_true]
    refine za0 ?_
    refine awp_ret ?_
    simp -dsimp only [simprocAttr, ↓vpre, zp, RetTo, Try.results3, retVals, retVal, mkRet, AVal.upto, Nat.zero_le, Nat.le_refl, Nat.le_add_right, seqPost_ret, blockPost_ret, loopPost_ret]
   ·cases h

end Go.Proofs.Ythhjebmgmjemoaa
end
