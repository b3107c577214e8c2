/-
  Texts bound together by a program of mine: YthhjebmgmjemoaaT39.
-/
import Derived.Test.YthhjebmgmjemoaaJ5
set_option linter.all false

section
set_option linter.unusedSimpArgs false
set_option maxRecDepth 100000
set_option maxHeartbeats 4000000
namespace Go.Proofs.Ythhjebmgmjemoaa
open Go.Av

theorem ssaEnds_law (u : Unt) (hfit : u.fit) : PCall Try.prog 6 [u.enc] (.v (.bool true)) := by
 have hw := works_spec
 have hrun := run_spec u hfit 3000
 obtain ⟨w1, w2⟩ := run_wf hfit (fuel := 3000)
 generalize runM u 3000 = A at *
 obtain ⟨out, fin, val, n, e⟩ := A
 simp only at w1 w2
 unfold Ans.enc at hrun
 by_cases he : e = 0
 ·obtain ⟨g1, g2, g3, g4, g5, _⟩ := w2 he
  subst he
  have d1 : decide ((out.length : Int) ≤ 1000) = true := decide_eq_true (by omega)
  have d2 : decide (0 ≤ fin) = true := decide_eq_true g2
  have d3 : decide (fin ≤ 6) = true := decide_eq_true g3
  have d5 : decide (1 ≤ n) = true := decide_eq_true g5
  by_cases hf : fin = 0
  ·have d4 : decide (fin = 0) = true := decide_eq_true hf
   refine ecall_of hT true 0 Try.func6 rfl (by kernel_rfl) (by simp [Try.ntmps6]) (by simp) ?_
   show AWP Try.prog _ _ _ ⟨51, _, _⟩
   dsimp only [Tmp, TypeId, slotsOf]
   refine zg1 ?_
   simp -dsimp only [simprocAttr, ↓vpre, zp]
   refine za0 ?_
   refine zg2 ?_
   simp -dsimp only [simprocAttr, ↓vpre, zp]
   refine .inl ⟨_, hw, by simp only [uptoL, AVal.upto, zt, zu, aI_upto], later_intro ?_⟩
   simp -dsimp only [simprocAttr, ↓vpre, zp]
   refine za0 ?_
   refine zk0 rfl (fun h => ?_) (fun h => ?_)
   ·cases h
   ·refine zb0 ?_
    refine zg1 ?_
    simp -dsimp only [simprocAttr, ↓vpre, zp]
    refine .inl ⟨_, hrun, by simp only [uptoL, AVal.upto, zt, zu, aI_upto], later_intro ?_⟩
    simp -dsimp only [simprocAttr, ↓vpre, zp]
    refine za0 ?_
    refine zg2 ?_
    simp -dsimp only [simprocAttr, ↓vpre, zp]
    refine za0 ?_
    refine zk0 rfl (fun h => ?_) (fun h => ?_)
    ·cases h
    ·refine zb0 ?_
     refine zg1 ?_
     simp -dsimp only [simprocAttr, ↓vpre, zp, d1, d2, d3, d4, d5]
     refine za0 ?_
     refine awp_ret ?_
     simp -dsimp only [simprocAttr, ↓vpre, zp, RetTo, Try.results6, retVals, retVal, mkRet, AVal.upto, Nat.zero_le, Nat.le_refl, Nat.le_add_right, seqPost_ret, blockPost_ret, loopPost_ret]
  ·have d4 : decide (fin = 0) = false := decide_eq_false hf
   have d6 : decide (val = 0) = true := decide_eq_true (g4 hf)
   refine ecall_of hT true 0 Try.func6 rfl (by kernel_rfl) (by simp [Try.ntmps6]) (by simp) ?_
   show AWP Try.prog _ _ _ ⟨51, _, _⟩
   dsimp only [Tmp, TypeId, slotsOf]
   refine zg1 ?_
   simp -dsimp only [simprocAttr, ↓vpre, zp]
   refine za0 ?_
   refine zg2 ?_
   simp -dsimp only [simprocAttr, ↓vpre, zp]
   refine .inl ⟨_, hw, by simp only [uptoL, AVal.upto, zt, zu, aI_upto], later_intro ?_⟩
   simp -dsimp only [simprocAttr, ↓vpre, zp]
   refine za0 ?_
   refine zk0 rfl (fun h => ?_) (fun h => ?_)
   ·cases h
   ·refine zb0 ?_
    refine zg1 ?_
    simp -dsimp only [simprocAttr, ↓vpre, zp]
    refine .inl ⟨_, hrun, by simp only [uptoL, AVal.upto, zt, zu, aI_upto], later_intro ?_⟩
    simp -dsimp only [simprocAttr, ↓vpre, zp]
    refine za0 ?_
    refine zg2 ?_
    simp -dsimp only [simprocAttr, ↓vpre, zp]
    refine za0 ?_
    refine zk0 rfl (fun h => ?_) (fun h => ?_)
    ·cases h
    ·refine zb0 ?_
     refine zg1 ?_
     simp -dsimp only [simprocAttr, ↓vpre, zp, d1, d2, d3, d4, d5, d6]
     refine za0 ?_
     refine awp_ret ?_
     simp -dsimp only [simprocAttr, ↓vpre, zp, RetTo, Try.results6, retVals, retVal, mkRet, AVal.upto, Nat.zero_le, Nat.le_refl, Nat.le_add_right, seqPost_ret, blockPost_ret, loopPost_ret]
 ·obtain ⟨g1, g2, g3, g4⟩ := w1 he
  subst g1
  subst g2
  subst g3
  subst g4
  have de : decide (e = 0) = false := decide_eq_false he
  have hsr := sameResult_spec [] [] 0 0 0 0
  unfold eRes at hsr
  simp only [List.map_nil, decide_true, Bool.and_self] at hsr hrun
  refine ecall_of hT true 0 Try.func6 rfl (by kernel_rfl) (by simp [Try.ntmps6]) (by simp) ?_
  show AWP Try.prog _ _ _ ⟨51, _, _⟩
  dsimp only [Tmp, TypeId, slotsOf]
  refine zg1 ?_
  simp -dsimp only [simprocAttr, ↓vpre, zp]
  refine za0 ?_
  refine zg2 ?_
  simp -dsimp only [simprocAttr, ↓vpre, zp]
  refine .inl ⟨_, hw, by simp only [uptoL, AVal.upto, zt, zu, aI_upto], later_intro ?_⟩
  simp -dsimp only [simprocAttr, ↓vpre, zp]
  refine za0 ?_
  refine zk0 rfl (fun h => ?_) (fun h => ?_)
  ·cases h
  ·refine zb0 ?_
   refine zg1 ?_
   simp -dsimp only [simprocAttr, ↓vpre, zp]
   refine .inl ⟨_, hrun, by simp only [uptoL, AVal.upto, zt, zu, aI_upto], later_intro ?_⟩
   simp -dsimp only [simprocAttr, ↓vpre, zp]
   refine za0 ?_
   refine zg2 ?_
   simp -dsimp only [simprocAttr, ↓vpre, zp, de]
   refine za0 ?_
   refine zk0 rfl (fun h => ?_) (fun h => ?_)
   ·refine zg1 ?_
    simp -dsimp only [simprocAttr, ↓vpre, zp]
    refine .inl ⟨_, hsr, by simp only [uptoL, AVal.upto, zt, zu, aI_upto], later_intro ?_⟩
    simp -dsimp only [simprocAttr, ↓vpre, zp]
    refine za0 ?_
    refine awp_ret ?_
    simp -dsimp only [simprocAttr, ↓vpre, zp, RetTo, Try.results6, retVals, retVal, mkRet, AVal.upto, Nat.zero_le, Nat.le_refl, Nat.le_add_right, seqPost_ret, blockPost_ret, loopPost_ret]
   ·cases h

end Go.Proofs.Ythhjebmgmjemoaa
end
