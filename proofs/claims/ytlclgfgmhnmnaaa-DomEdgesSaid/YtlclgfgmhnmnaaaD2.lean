/-
  Texts bound together by a program of mine: YtlclgfgmhnmnaaaT120.
-/
import Derived.Test.YtlclgfgmhnmnaaaD1
set_option linter.all false
set_option maxRecDepth 100000
set_option maxHeartbeats 4000000

namespace Go.Proofs.Ytlclgfgmhnmnaaa
open Go.Av
theorem over31_spec (f : Func) (hfit : f.fit) (hc : checkFuncM f = 0) {a b : Int} (ha : 0 ≤ a ∧ a < f.blocks.length) (hb : 0 ≤ b ∧ b < f.blocks.length) : PCall Try.prog 31 [aI a, aI b, .ip none [aI f.name, eBlocks f.blocks]] (.v (.bool (ovrB f (treeM f) a b))) := by
 have hd := dominates_spec f hfit hc ha hb
 generalize ovrB f (treeM f) a b = R at *
 refine zf true 0 Try.func31 Try.ntmps31 ?_
 dsimp only [Tmp, TypeId, slotsOf]
 refine zh1 (za0 ?_)
 refine zh1 ?_
 refine zi hd ?_
 refine za0 ?_
 refine zh1 (za0 ?_)
 refine awp_ret ?_
 simp -dsimp only [simprocAttr, ↓vpre, zp, zr, Try.results31]
theorem edges_law {f : Func} (hg : GrW f) {a b : Int} (ha : a ∈ rchS f) (hb : b ∈ rchS f) {fl : List Int} (hfl : (frontM f)[a.toNat]? = some fl) :
  hasM fl b = (((rpM f b).any fun p => hasM (rchS f) p && ovrB f (treeM f) a p) && (decide (a = b) || !ovrB f (treeM f) a b)) := by
 have pa := mem_rchS.1 ha
 have pb := mem_rchS.1 hb
 have h := front_law hg pa pb
 unfold inL at h
 rw [hfl, Option.getD_some] at h
 have hob : ovrB f (treeM f) a b = ancB (treeM f) a b := if_neg (by omega)
 rw [hob, Bool.eq_iff_iff, hasM_iff, h, Bool.and_eq_true, List.any_eq_true]
 refine and_congr ?_ ?_
 ·constructor
  ·rintro ⟨p, hp, he, hanc⟩
   have hpr := (ord_w hg).range p hp
   refine ⟨p, (mem_rpM hpr.1).2 he, ?_⟩
   have h1 : ovrB f (treeM f) a p = ancB (treeM f) a p := if_neg (by omega)
   rw [h1, hanc, hasM_iff.2 (mem_rchS.2 hp)]
   rfl
  rintro ⟨p, hp, hq⟩
  rw [Bool.and_eq_true, hasM_iff, mem_rchS] at hq
  have hpr := (ord_w hg).range p hq.1
  have h1 : ovrB f (treeM f) a p = ancB (treeM f) a p := if_neg (by omega)
  rw [h1] at hq
  exact ⟨p, hq.1, (mem_rpM hpr.1).1 hp, hq.2⟩
 cases ancB (treeM f) a b <;> simp
theorem domEdges_law (f : Func) (hfit : f.fit) (a0 : Int) (_ : fitI a0) (b0 : Int) (_ : fitI b0) : PCall Try.prog 8 [f.enc, aI a0, aI b0] (.v (.bool true)) := by
 have hwk := works_spec
 have hfr := frontier_spec f hfit
 unfold frontR at hfr
 by_cases hc : checkFuncM f = 0
 ·rw [if_pos hc] at hfr
  have hg := (checkFunc_ok hfit hc).gr
  have hn : f.blocks.length ≤ 128 := hg.few
  have hl0 := List.length_pos_iff.2 hg.ne
  have hwa := wth_spec a0 f.blocks.length (by omega) (by omega)
  have hwb := wth_spec b0 f.blocks.length (by omega) (by omega)
  have hra := (wth_range a0 (m := f.blocks.length) (by omega)).2
  have hrb := (wth_range b0 (m := f.blocks.length) (by omega)).2
  generalize wthM a0 f.blocks.length = a at *
  generalize wthM b0 f.blocks.length = b at *
  have hrr := reachable_spec f hfit
  unfold rchR at hrr
  rw [if_pos hc] at hrr
  have hia := hasInt_spec (rchS f) a
  have hib := hasInt_spec (rchS f) b
  have hFl := frontM_len f
  have hpr := refPreds_spec f hg b
  have hrp : ∀ p ∈ rpM f b, 0 ≤ p ∧ p < f.blocks.length := fun p hp => by
   unfold rpM at hp
   rw [mem_rpL] at hp
   obtain ⟨j, x, h1, h2, _⟩ := hp
   have := lt_of_getElem? h1
   omega
  have hov : ∀ p ∈ rpM f b, PCall Try.prog 31 [aI a, aI p, .ip none [aI f.name, eBlocks f.blocks]] (.v (.bool (ovrB f (treeM f) a p))) := fun p hp => over31_spec f hfit hc hra (hrp p hp)
  have hoab := over31_spec f hfit hc hra hrb
  have hrl : (rpM f b).length ≤ 33000 := by
   have := rpL_few b f.blocks 0 hg.to
   unfold rpM
   omega
  have hlaw : ∀ (ha : a ∈ rchS f) (hb : b ∈ rchS f) {fl : List Int} (hfl : (frontM f)[a.toNat]? = some fl), hasM fl b = (((rpM f b).any fun p => hasM (rchS f) p && ovrB f (treeM f) a p) && (decide (a = b) || !ovrB f (treeM f) a b)) := fun ha hb {fl} hfl => edges_law hg ha hb hfl
  obtain ⟨T, hT2⟩ : ∃ T : Int → Bool, T = ovrB f (treeM f) a := ⟨_, rfl⟩
  obtain ⟨N, hN⟩ : ∃ N, N = f.blocks.length := ⟨_, rfl⟩
  obtain ⟨L, hL⟩ : ∃ L, L = rchS f := ⟨_, rfl⟩
  obtain ⟨FM, hFM⟩ : ∃ FM, FM = frontM f := ⟨_, rfl⟩
  obtain ⟨rp, hrpe⟩ : ∃ rp, rp = rpM f b := ⟨_, rfl⟩
  rw [← hFM] at hfr hFl
  rw [← hL] at hrr hia hib
  rw [← hrpe] at hpr hov hrl
  rw [← hT2] at hoab hov
  rw [← hL, ← hFM, ← hrpe, ← hT2] at hlaw
  by_cases ha : a ∈ L
  ·rw [hasM_iff.2 ha] at hia
   by_cases hb : b ∈ L
   ·rw [hasM_iff.2 hb] at hib
    obtain ⟨fl, hfl⟩ : ∃ fl, FM[a.toNat]? = some fl := ⟨FM[a.toNat]'(by omega), List.getElem?_eq_getElem _⟩
    have hih := hasInt_spec fl b
    have hlw := hlaw ha hb hfl
    clear hlaw hL hFM hrpe hT2
    refine zf true 0 Try.func8 Try.ntmps8 ?_
    dsimp only [Tmp, TypeId, slotsOf]
    refine zh1 (za0 ?_)
    refine awp_freeze1 3 0 (.ip none [aI f.name, eBlocks f.blocks]) rfl (by simp [AObj.isSpare]) trivial rfl ?_ ?_
    rotate_left
    simp -dsimp only [simprocAttr, ↓vpre, zp]
    ·refine zh2 ?_
     refine zi hwk ?_
     refine za0 ?_
     apply zk0 rfl <;> intro h
     ·cases h
     refine zb0 ?_
     refine zh1 ?_
     refine zi hfr ?_
     refine za0 ?_
     refine zh2 (za0 ?_)
     apply zk0 rfl <;> intro h
     ·cases h
     refine zb0 ?_
     refine zh1 ?_
     refine zi hwa ?_
     refine zi hwb ?_
     refine ⟨ob (by kernel_rfl), ?_⟩
     refine za0 ?_
     refine zh1 ?_
     refine zi hrr ?_
     refine za0 ?_
     refine zh2 ?_
     refine zi hia ?_
     refine .inl ⟨_, hib, by simp only [uptoL, AVal.upto, zt, zu, aI_upto], later_intro ?_⟩
     simp -dsimp only [simprocAttr, ↓vpre, zp, hFl, List.length_map]
     refine za0 ?_
     apply zk0 rfl <;> intro h
     ·cases h
     refine zb0 ?_
     refine zh1 (za0 ?_)
     refine zh1 (za0 ?_)
     refine zh2 ?_
     refine zi hpr ?_
     refine za0 ?_
     refine awp_block (awp_loop (ι := {X : Nat × Bool // X.1 ≤ rp.length ∧ (rp.any fun p => hasM L p && T p) = (X.2 || (rp.drop X.1).any fun p => hasM L p && T p)}) (fun X => ⟨108, [(1, aI a), (2, aI b), (3, .ip none [aI f.name, eBlocks f.blocks]), (7, .lst 1 (FM.map eIs) .sh), (9, eIs L), (11, .fn (.func 31) [] [.ip none [aI f.name, eBlocks f.blocks]]), (12, .v (.bool X.1.2)), (69, eIs rp), (70, aI rp.length), (71, aI X.1.1)], [.gone]⟩) (fun X => rp.length - X.1.1) ⟨(0, false), by simp, by simp⟩ ?_ ?_)
     ·refine zq rfl ?_ ?_
      simp -dsimp only [simprocAttr, ↓vpre, zp, zc]
      all_goals rfl
     rintro ⟨⟨z, B⟩, hz, hB⟩
     simp only at hz hB
     refine zh1 (za0 ?_)
     apply zk1 rfl <;> intro h
     ·refine zb0 ?_
      have hlz : z < rp.length := by simpa using h
      obtain ⟨p, hp⟩ : ∃ p, rp[z]? = some p := ⟨_, List.getElem?_eq_getElem hlz⟩
      have hop := hov p (List.mem_of_getElem? hp)
      have hip := hasInt_spec L p
      rw [any_at hp] at hB
      refine awp_seq (awp_block ?_)
      refine zg1 ?_
      simp -dsimp only [simprocAttr, ↓vpre, zp, hp]
      refine za0 ?_
      cases B with
      | true =>
       refine zh0 (za0 ?_)
       refine zh0 ?_
       repeat (refine ⟨by omega, ?_⟩)
       refine zl0 ?_
       refine ⟨⟨(z + 1, true), hlz, by rw [hB]; simp⟩, by simp; omega, ?_⟩
       refine zq rfl ?_ ?_
       simp -dsimp only [simprocAttr, ↓vpre, zp, zc]
       ·exact Sub.int (by simp)
       rfl
      | false =>
       cases hm3 : hasM L p with
       | false =>
        rw [hm3] at hB hip
        refine zh0 ?_
        refine zi hip ?_
        refine za0 ?_
        refine zh0 ?_
        repeat (refine ⟨by omega, ?_⟩)
        refine zl0 ?_
        refine ⟨⟨(z + 1, false), hlz, by rw [hB]; simp⟩, by simp; omega, ?_⟩
        refine zq rfl ?_ ?_
        simp -dsimp only [simprocAttr, ↓vpre, zp, zc]
        ·exact Sub.int (by simp)
        rfl
       | true =>
        rw [hm3] at hB hip
        refine zh0 ?_
        refine zi hip ?_
        refine zi hop ?_
        refine za0 ?_
        refine zh0 ?_
        repeat (refine ⟨by omega, ?_⟩)
        refine zl0 ?_
        refine ⟨⟨(z + 1, T p), hlz, by rw [hB]; simp⟩, by simp; omega, ?_⟩
        refine zq rfl ?_ ?_
        simp -dsimp only [simprocAttr, ↓vpre, zp, zc]
        ·exact Sub.int (by simp)
        rfl
     refine awp_exit ?_
     simp -dsimp only [vend, ne_eq, Nat.reduceEqDiff, reduceCtorEq]
     have hzl : rp.length ≤ z := by
      have := of_decide_eq_false h
      omega
     rw [List.drop_of_length_le hzl, List.any_nil, Bool.or_false] at hB
     rw [hB] at hlw
     rw [hlw] at hih
     cases B with
     | false =>
      rw [Bool.false_and] at hih
      refine zg1 ?_
      simp -dsimp only [simprocAttr, ↓vpre, zp, hfl]
      repeat (refine ⟨by omega, ?_⟩)
      refine zi hih ?_
      refine ⟨Try.underlying4, ?_⟩
      refine za0 ?_
      refine awp_ret ?_
      simp -dsimp only [simprocAttr, ↓vpre, zp, zr, Try.results8]
     | true =>
      rw [Bool.true_and] at hih
      by_cases e : a = b
      ·have hE : decide (a = b) = true := decide_eq_true e
       rw [hE, Bool.true_or] at hih
       refine zg1 ?_
       simp -dsimp only [simprocAttr, ↓vpre, zp, hfl, hE]
       repeat (refine ⟨by omega, ?_⟩)
       refine .inl ⟨_, hih, by simp only [uptoL, AVal.upto, zt, zu, aI_upto], later_intro ?_⟩
       simp -dsimp only [simprocAttr, ↓vpre, zp, hE]
       refine ⟨Try.underlying4, ?_⟩
       refine za0 ?_
       refine awp_ret ?_
       simp -dsimp only [simprocAttr, ↓vpre, zp, zr, Try.results8]
      have hE : decide (a = b) = false := decide_eq_false e
      rw [hE, Bool.false_or] at hih
      generalize T b = tb at *
      refine zg1 ?_
      simp -dsimp only [simprocAttr, ↓vpre, zp, hfl, hE]
      repeat (refine ⟨by omega, ?_⟩)
      refine .inl ⟨_, hih, by simp only [uptoL, AVal.upto, zt, zu, aI_upto], later_intro ?_⟩
      simp -dsimp only [simprocAttr, ↓vpre, zp, hE]
      refine .inl ⟨_, hoab, by simp only [uptoL, AVal.upto, zt, zu, aI_upto], later_intro ?_⟩
      simp -dsimp only [simprocAttr, ↓vpre, zp, hE]
      refine ⟨Try.underlying4, ?_⟩
      refine za0 ?_
      refine awp_ret ?_
      simp -dsimp only [simprocAttr, ↓vpre, zp, zr, Try.results8]
    exact FSub.mp rfl rfl
   have hnb : hasM L b = false := by
    cases q : hasM L b with
    | false => rfl
    | true => exact absurd (hasM_iff.1 q) hb
   rw [hnb] at hib
   clear hlaw hL hFM hrpe hT2
   refine zf true 0 Try.func8 Try.ntmps8 ?_
   dsimp only [Tmp, TypeId, slotsOf]
   refine zh1 (za0 ?_)
   refine awp_freeze1 3 0 (.ip none [aI f.name, eBlocks f.blocks]) rfl (by simp [AObj.isSpare]) trivial rfl ?_ ?_
   rotate_left
   simp -dsimp only [simprocAttr, ↓vpre, zp]
   ·refine zh2 ?_
    refine zi hwk ?_
    refine za0 ?_
    refine zu0 rfl ?_
    refine zb0 ?_
    refine zh1 ?_
    refine zi hfr ?_
    refine za0 ?_
    refine zh2 (za0 ?_)
    refine zu0 rfl ?_
    refine zb0 ?_
    refine zh1 ?_
    refine zi hwa ?_
    refine zi hwb ?_
    refine ⟨ob (by kernel_rfl), ?_⟩
    refine za0 ?_
    refine zh1 ?_
    refine zi hrr ?_
    refine za0 ?_
    refine zh2 ?_
    refine zi hia ?_
    refine zi hib ?_
    refine za0 ?_
    refine zw0 rfl ?_
    refine zg1 ?_
    simp -dsimp only [simprocAttr, ↓vpre, zp, hFl, List.length_map]
    refine za0 ?_
    refine awp_ret ?_
    simp -dsimp only [simprocAttr, ↓vpre, zp, zr, Try.results8]
   exact FSub.mp rfl rfl
  have hna : hasM L a = false := by
   cases q : hasM L a with
   | false => rfl
   | true => exact absurd (hasM_iff.1 q) ha
  rw [hna] at hia
  clear hlaw hL hFM hrpe hT2
  refine zf true 0 Try.func8 Try.ntmps8 ?_
  dsimp only [Tmp, TypeId, slotsOf]
  refine zh1 (za0 ?_)
  refine awp_freeze1 3 0 (.ip none [aI f.name, eBlocks f.blocks]) rfl (by simp [AObj.isSpare]) trivial rfl ?_ ?_
  rotate_left
  simp -dsimp only [simprocAttr, ↓vpre, zp]
  ·refine zh2 ?_
   refine zi hwk ?_
   refine za0 ?_
   refine zu0 rfl ?_
   refine zb0 ?_
   refine zh1 ?_
   refine zi hfr ?_
   refine za0 ?_
   refine zh2 (za0 ?_)
   refine zu0 rfl ?_
   refine zb0 ?_
   refine zh1 ?_
   refine zi hwa ?_
   refine zi hwb ?_
   refine ⟨ob (by kernel_rfl), ?_⟩
   refine za0 ?_
   refine zh1 ?_
   refine zi hrr ?_
   refine za0 ?_
   refine zh2 ?_
   refine zi hia ?_
   refine za0 ?_
   refine zw0 rfl ?_
   refine zg1 ?_
   simp -dsimp only [simprocAttr, ↓vpre, zp, hFl, List.length_map]
   refine za0 ?_
   refine awp_ret ?_
   simp -dsimp only [simprocAttr, ↓vpre, zp, zr, Try.results8]
  exact FSub.mp rfl rfl
 rw [if_neg hc] at hfr
 obtain ⟨e, he⟩ : ∃ e, e = checkFuncM f := ⟨_, rfl⟩
 rw [← he] at hc hfr
 have hde : decide (e = 0) = false := decide_eq_false hc
 refine zf true 0 Try.func8 Try.ntmps8 ?_
 dsimp only [Tmp, TypeId, slotsOf]
 refine zh1 (za0 ?_)
 refine awp_freeze1 3 0 (.ip none [aI f.name, eBlocks f.blocks]) rfl (by simp [AObj.isSpare]) trivial rfl ?_ ?_
 rotate_left
 simp -dsimp only [simprocAttr, ↓vpre, zp]
 ·refine zh2 ?_
  refine zi hwk ?_
  refine za0 ?_
  refine zu0 rfl ?_
  refine zb0 ?_
  refine zh1 ?_
  refine zi hfr ?_
  refine za0 ?_
  refine zg2 ?_
  simp -dsimp only [simprocAttr, ↓vpre, zp, hde]
  refine za0 ?_
  refine zw0 rfl ?_
  refine zh1 (za0 ?_)
  refine awp_ret ?_
  simp -dsimp only [simprocAttr, ↓vpre, zp, zr, Try.results8]
 exact FSub.mp rfl rfl
end Go.Proofs.Ytlclgfgmhnmnaaa
