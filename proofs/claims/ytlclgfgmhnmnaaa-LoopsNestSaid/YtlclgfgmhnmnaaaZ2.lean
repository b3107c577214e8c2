/-
  Texts bound together by a program of mine: YtlclgfgmhnmnaaaT116.
-/
import Derived.Test.YtlclgfgmhnmnaaaZ1
set_option linter.all false
set_option maxRecDepth 100000
set_option maxHeartbeats 4000000

namespace Go.Proofs.Ytlclgfgmhnmnaaa
open Go.Av
theorem loopsNest_law (f : Func) (hfit : f.fit) : PCall Try.prog 9 [f.enc] (.v (.bool true)) := by
 have hwk := works_spec
 have hfi := find_spec f hfit
 unfold findR at hfi
 by_cases hc : checkFuncM f = 0
 ·rw [if_pos hc] at hfi
  have hg := (checkFunc_ok hfit hc).gr
  have hn : f.blocks.length ≤ 128 := hg.few
  have hll := loops_len f
  have hbl : ∀ x ∈ loopsM f, x.blocks.length ≤ 128 := fun x hx => find_few hg hx
  have hnl : ∀ (i j : Nat) (x y : LoopM), (loopsM f)[i]? = some x → (loopsM f)[j]? = some y → j < i → (bothN x.blocks y.blocks = 0 ∨ x.blocks.length ≤ bothN x.blocks y.blocks ∨ y.blocks.length ≤ bothN x.blocks y.blocks) ∧ x.head ≠ y.head := fun i j x y hx hy hij =>
   have hne := loops_ne hx hy hij
   ⟨nest_law hg (loops_w (List.mem_of_getElem? hx)) (loops_w (List.mem_of_getElem? hy)) hne, hne⟩
  obtain ⟨L, hL⟩ : ∃ L, L = loopsM f := ⟨_, rfl⟩
  rw [← hL] at hfi hll hbl hnl
  refine zf true 0 Try.func9 Try.ntmps9 ?_
  dsimp only [Tmp, TypeId, slotsOf]
  refine zh1 (za0 ?_)
  refine awp_freeze1 1 0 (.ip none [aI f.name, eBlocks f.blocks]) rfl (by simp [AObj.isSpare]) trivial rfl ?_ ?_
  rotate_left
  simp -dsimp only [simprocAttr, ↓vpre, zp]
  ·refine zh2 ?_
   refine zi hwk ?_
   refine za0 ?_
   apply zk0 rfl <;> intro h
   ·cases h
   refine zb0 ?_
   refine zh1 ?_
   refine zi hfi ?_
   refine za0 ?_
   refine zh2 (za0 ?_)
   apply zk0 rfl <;> intro h
   ·cases h
   refine zb0 ?_
   refine zh2 (za0 ?_)
   refine awp_block (awp_loop (ι := {i : Nat // i ≤ L.length}) (fun i => ⟨78, [(3, .lst 3 (L.map eLoop) .sh), (24, .lst 3 (L.map eLoop) .sh), (25, aI L.length), (26, aI i.1)], [.gone]⟩) (fun i => L.length - i.1) ⟨0, by simp⟩ ?_ ?_)
   ·refine zq rfl ?_ ?_
    simp -dsimp only [simprocAttr, ↓vpre, zp, zc]
    all_goals rfl
   rintro ⟨i, hi⟩
   refine zh1 (za0 ?_)
   apply zk1 rfl <;> intro h
   ·refine zb0 ?_
    have hlt : i < L.length := by simpa using h
    obtain ⟨x, hx⟩ : ∃ x, L[i]? = some x := ⟨L[i]'(by omega), List.getElem?_eq_getElem _⟩
    have hxm := hbl x (List.mem_of_getElem? hx)
    have htl : (L.take i).length = i := by rw [List.length_take]; omega
    have htu : uptoL 1 ((L.map eLoop).take i) := by
     rw [← List.map_take]
     exact eLoop_upto _ _
    refine awp_seq (awp_block ?_)
    refine zg1 ?_
    simp -dsimp only [simprocAttr, ↓vpre, zp, hx, eLoop]
    refine za0 ?_
    refine awp_freeze1 6 1 (.ip none [aI x.head, eIs x.blocks, aI x.parent]) rfl (by simp [AObj.isSpare]) trivial rfl ?_ ?_
    rotate_left
    simp -dsimp only [simprocAttr, ↓vpre, zp]
    ·refine awp_trunc' 1 [(3, .lst 3 (L.map eLoop) .sh), (24, .lst 3 (L.map eLoop) .sh), (25, aI L.length), (26, aI i), (5, aI i), (6, .ip none [aI x.head, eIs x.blocks, aI x.parent])] (by simp) (by omega) [.gone] ?_ ?_ ?_ ?_ ?_
     ·rfl
     ·simp [AObj.upto, aI_upto]
     ·simp [Says, St.get, putS, dropS, Go.Av.look, Sub.refl]
     ·simp [AObj.upto, uptoL, AVal.upto, aI_upto, Func.map_upto, Block.map_upto, Edge.map_upto, Ins.map_upto, eLoop_upto]
     refine zg1 ?_
     simp -dsimp only [simprocAttr, ↓vpre, zp, Int.toNat_natCast, ← List.map_take, htl]
     repeat (refine ⟨by omega, ?_⟩)
     refine za0 ?_
     refine awp_block (awp_loop (ι := {j : Nat // j ≤ i}) (fun j => ⟨78, [(3, .lst 3 (L.map eLoop) .sh), (24, .lst 3 (L.map eLoop) .sh), (25, aI L.length), (26, aI i), (6, .ip none [aI x.head, eIs x.blocks, aI x.parent]), (33, .lst 3 ((L.take i).map eLoop) .sh), (34, aI i), (35, aI j.1)], [.gone]⟩) (fun j => i - j.1) ⟨0, by simp⟩ ?_ ?_)
     ·refine zq rfl ?_ ?_
      simp -dsimp only [simprocAttr, ↓vpre, zp, zc]
      all_goals rfl
     rintro ⟨j, hj⟩
     refine zh1 (za0 ?_)
     apply zk1 rfl <;> intro h
     ·refine zb0 ?_
      have hlj : j < i := by simpa using h
      obtain ⟨y, hy⟩ : ∃ y, L[j]? = some y := ⟨L[j]'(by omega), List.getElem?_eq_getElem _⟩
      have hyt : (L.take i)[j]? = some y := by rw [List.getElem?_take, if_pos hlj, hy]
      have hym := hbl y (List.mem_of_getElem? hy)
      obtain ⟨hbn, hne⟩ := hnl i j x y hx hy hlj
      have hde : decide (x.head = y.head) = false := decide_eq_false hne
      obtain ⟨b, hb⟩ : ∃ b, b = bothN x.blocks y.blocks := ⟨_, rfl⟩
      rw [← hb] at hbn
      unfold bothN at hb
      refine awp_seq (awp_block ?_)
      refine zg1 ?_
      simp -dsimp only [simprocAttr, ↓vpre, zp, hyt, eLoop]
      refine za0 ?_
      refine awp_freeze1 8 1 (.ip none [aI y.head, eIs y.blocks, aI y.parent]) rfl (by simp [AObj.isSpare]) trivial rfl ?_ ?_
      rotate_left
      simp -dsimp only [simprocAttr, ↓vpre, zp]
      ·refine awp_trunc' 1 [(3, .lst 3 (L.map eLoop) .sh), (24, .lst 3 (L.map eLoop) .sh), (25, aI L.length), (26, aI i), (6, .ip none [aI x.head, eIs x.blocks, aI x.parent]), (33, .lst 3 ((L.take i).map eLoop) .sh), (34, aI i), (35, aI j), (8, .ip none [aI y.head, eIs y.blocks, aI y.parent])] (by simp) (by omega) [.gone] ?_ ?_ ?_ ?_ ?_
       ·rfl
       ·simp [AObj.upto, aI_upto]
       ·simp [Says, St.get, putS, dropS, Go.Av.look, Sub.refl]
       ·simp [AObj.upto, uptoL, AVal.upto, aI_upto, Func.map_upto, Block.map_upto, Edge.map_upto, Ins.map_upto, eLoop_upto, htu]
       refine zh1 (za0 ?_)
       refine zh2 (za0 ?_)
       refine awp_block (awp_loop (ι := {X : Nat × Nat // X.1 ≤ x.blocks.length ∧ X.2 ≤ X.1 ∧ b = X.2 + (x.blocks.drop X.1).countP (hasM y.blocks)}) (fun X => ⟨78, [(3, .lst 3 (L.map eLoop) .sh), (24, .lst 3 (L.map eLoop) .sh), (25, aI L.length), (26, aI i), (6, .ip none [aI x.head, eIs x.blocks, aI x.parent]), (33, .lst 3 ((L.take i).map eLoop) .sh), (34, aI i), (35, aI j), (8, .ip none [aI y.head, eIs y.blocks, aI y.parent]), (9, aI X.1.2), (40, eIs x.blocks), (41, aI x.blocks.length), (42, aI X.1.1)], [.gone]⟩) (fun X => x.blocks.length - X.1.1) ⟨(0, 0), by simp, by simp, by simpa using hb⟩ ?_ ?_)
       ·refine zq rfl ?_ ?_
        simp -dsimp only [simprocAttr, ↓vpre, zp, zc]
        all_goals rfl
       rintro ⟨⟨z, c⟩, hz, hcz, hbz⟩
       simp only at hz hcz hbz
       refine zh1 (za0 ?_)
       apply zk1 rfl <;> intro h
       ·refine zb0 ?_
        have hlz : z < x.blocks.length := by simpa using h
        obtain ⟨k, hk⟩ : ∃ k, x.blocks[z]? = some k := ⟨_, List.getElem?_eq_getElem hlz⟩
        have hih := hasInt_spec y.blocks k
        rw [drop_at hk, List.countP_cons] at hbz
        refine awp_seq (awp_block ?_)
        refine zg1 ?_
        simp -dsimp only [simprocAttr, ↓vpre, zp, hk]
        refine za0 ?_
        refine zh1 ?_
        refine zi hih ?_
        refine za0 ?_
        cases hm3 : hasM y.blocks k with
        | true =>
         rw [hm3] at hbz
         simp only [if_true] at hbz
         refine zw0 rfl ?_
         refine zh0 ?_
         repeat (refine ⟨by omega, ?_⟩)
         refine za0 ?_
         refine zh0 ?_
         repeat (refine ⟨by omega, ?_⟩)
         refine zl0 ?_
         refine ⟨⟨(z + 1, c + 1), hlz, by simp only; omega, by simp only; omega⟩, by simp; omega, ?_⟩
         refine zq rfl ?_ ?_
         simp -dsimp only [simprocAttr, ↓vpre, zp, zc]
         ·exact ⟨Sub.int (by simp), Sub.int (by simp)⟩
         rfl
        | false =>
         rw [hm3] at hbz
         simp only [Bool.false_eq_true, if_false, Nat.add_zero] at hbz
         refine zu0 rfl ?_
         refine zb1 ?_
         refine zh0 ?_
         repeat (refine ⟨by omega, ?_⟩)
         refine zl0 ?_
         refine ⟨⟨(z + 1, c), hlz, by simp only; omega, hbz⟩, by simp; omega, ?_⟩
         refine zq rfl ?_ ?_
         simp -dsimp only [simprocAttr, ↓vpre, zp, zc]
         ·exact Sub.int (by simp)
         rfl
       refine awp_exit ?_
       simp -dsimp only [vend, ne_eq, Nat.reduceEqDiff, reduceCtorEq]
       have hzz : z = x.blocks.length := by simp at h; omega
       subst hzz
       rw [List.drop_length, List.countP_nil, Nat.add_zero] at hbz
       subst hbz
       by_cases c0 : b = 0
       ·have g0 : decide ((0 : Int) < (b : Int)) = false := decide_eq_false (by omega)
        refine zg1 ?_
        simp -dsimp only [simprocAttr, ↓vpre, zp, g0, hde]
        refine za0 ?_
        refine zu0 rfl ?_
        refine zb1 ?_
        refine zh0 ?_
        repeat (refine ⟨by omega, ?_⟩)
        refine zl0 ?_
        refine ⟨⟨j + 1, hlj⟩, by simp; omega, ?_⟩
        refine zq rfl ?_ ?_
        simp -dsimp only [simprocAttr, ↓vpre, zp, zc]
        ·exact Sub.int (by simp)
        rfl
       have g0 : decide ((0 : Int) < (b : Int)) = true := decide_eq_true (by omega)
       by_cases c1 : x.blocks.length ≤ b
       ·have g1 : decide ((b : Int) < (x.blocks.length : Int)) = false := decide_eq_false (by omega)
        refine zg1 ?_
        simp -dsimp only [simprocAttr, ↓vpre, zp, g0, g1, hde]
        refine za0 ?_
        refine zu0 rfl ?_
        refine zb1 ?_
        refine zh0 ?_
        repeat (refine ⟨by omega, ?_⟩)
        refine zl0 ?_
        refine ⟨⟨j + 1, hlj⟩, by simp; omega, ?_⟩
        refine zq rfl ?_ ?_
        simp -dsimp only [simprocAttr, ↓vpre, zp, zc]
        ·exact Sub.int (by simp)
        rfl
       have g1 : decide ((b : Int) < (x.blocks.length : Int)) = true := decide_eq_true (by omega)
       have g2 : decide ((b : Int) < (y.blocks.length : Int)) = false := decide_eq_false (by omega)
       refine zg1 ?_
       simp -dsimp only [simprocAttr, ↓vpre, zp, g0, g1, g2, hde]
       refine za0 ?_
       refine zu0 rfl ?_
       refine zb1 ?_
       refine zh0 ?_
       repeat (refine ⟨by omega, ?_⟩)
       refine zl0 ?_
       refine ⟨⟨j + 1, hlj⟩, by simp; omega, ?_⟩
       refine zq rfl ?_ ?_
       simp -dsimp only [simprocAttr, ↓vpre, zp, zc]
       ·exact Sub.int (by simp)
       rfl
      exact FSub.mp rfl rfl
     refine awp_exit ?_
     simp -dsimp only [vend, ne_eq, Nat.reduceEqDiff, reduceCtorEq]
     refine zh0 ?_
     repeat (refine ⟨by omega, ?_⟩)
     refine zl0 ?_
     refine ⟨⟨i + 1, hlt⟩, by simp; omega, ?_⟩
     refine zq rfl ?_ ?_
     simp -dsimp only [simprocAttr, ↓vpre, zp, zc]
     ·exact Sub.int (by simp)
     rfl
    exact FSub.mp rfl rfl
   refine awp_exit ?_
   simp -dsimp only [vend, ne_eq, Nat.reduceEqDiff, reduceCtorEq]
   refine zh1 (za0 ?_)
   refine awp_ret ?_
   simp -dsimp only [simprocAttr, ↓vpre, zp, zr, Try.results9]
  exact FSub.mp rfl rfl
 rw [if_neg hc] at hfi
 obtain ⟨e, he⟩ : ∃ e, e = checkFuncM f := ⟨_, rfl⟩
 rw [← he] at hc hfi
 have hde : decide (e = 0) = false := decide_eq_false hc
 refine zf true 0 Try.func9 Try.ntmps9 ?_
 dsimp only [Tmp, TypeId, slotsOf]
 refine zh1 (za0 ?_)
 refine awp_freeze1 1 0 (.ip none [aI f.name, eBlocks f.blocks]) rfl (by simp [AObj.isSpare]) trivial rfl ?_ ?_
 rotate_left
 simp -dsimp only [simprocAttr, ↓vpre, zp]
 ·refine zh2 ?_
  refine zi hwk ?_
  refine za0 ?_
  refine zu0 rfl ?_
  refine zb0 ?_
  refine zh1 ?_
  refine zi hfi ?_
  refine za0 ?_
  refine zg2 ?_
  simp -dsimp only [simprocAttr, ↓vpre, zp, hde]
  refine za0 ?_
  refine zw0 rfl ?_
  refine zh1 (za0 ?_)
  refine awp_ret ?_
  simp -dsimp only [simprocAttr, ↓vpre, zp, zr, Try.results9]
 exact FSub.mp rfl rfl
end Go.Proofs.Ytlclgfgmhnmnaaa
