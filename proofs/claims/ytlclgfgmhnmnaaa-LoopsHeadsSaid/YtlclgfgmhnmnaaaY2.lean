/-
  Texts bound together by a program of mine: YtlclgfgmhnmnaaaT113, YtlclgfgmhnmnaaaT117, YtlclgfgmhnmnaaaT118.
-/
import Derived.Test.YtlclgfgmhnmnaaaY1
set_option linter.all false
set_option maxRecDepth 100000
set_option maxHeartbeats 4000000

namespace Go.Proofs.Ytlclgfgmhnmnaaa
open Go.Av
theorem nest_nil : PCall Try.prog 63 [.lst 3 [] .sh] (.tup []) := by
 refine zf true 0 Try.func63 Try.ntmps63 ?_
 dsimp only [Tmp, TypeId, slotsOf]
 refine zh1 (za0 ?_)
 refine awp_block (awp_loop (ι := Unit) (fun x => ⟨58, [(7, aI 0), (8, aI 0)], []⟩) (fun x => 0) () ?_ ?_)
 ·refine zq rfl ?_ ?_
  simp -dsimp only [simprocAttr, ↓vpre, zp, zc]
  rfl
 rintro ⟨⟩
 refine zh1 (za0 ?_)
 refine zu1 rfl ?_
 refine awp_exit ?_
 simp -dsimp only [vend, ne_eq, Nat.reduceEqDiff, reduceCtorEq]
 skip
 simp -dsimp only [simprocAttr, ↓vpre, zp, zr, Try.results63]
 trivial
def findR (f : Func) : AVal := if checkFuncM f = 0 then .tup [.lst 3 ((loopsM f).map eLoop) .sh, aI 0] else .tup [.lst 3 [] .sh, aI (checkFuncM f)]
structure Fs where
 h : Nat
 acc : List LoopM
 oid : Nat
 O : List AObj
structure Fw where
 z : Nat
 w : List Int
 wid : Nat
 O : List AObj
structure Fz where
 S : Wl
 wid : Nat
 aid : Nat
 O : List AObj
 junk : List AVal
theorem outV_upto (wid : Nat) (w : List Int) {O : List AObj} (h : w ≠ [] → O[wid]? = some (.cells (w.map aI))) : (outV wid w).upto O.length := by
 by_cases q : w = []
 ·rw [show outV wid w = .lst 1 [] .ex from if_pos q]
  exact ⟨trivial, trivial⟩
 rw [show outV wid w = .os wid w.length 1 from if_neg q]
 exact lt_of_getElem? (h q)
theorem outV_snoc (n : Nat) (w : List Int) (x : Int) : outV n (w ++ [x]) = .os n (w.length + 1) 1 := by
 have : w ++ [x] ≠ [] := by simp
 rw [outV, if_neg this, List.length_append]
 rfl
theorem find_spec (f : Func) (hfit : f.fit) : PCall Try.prog 33 [f.enc] (findR f) := by
 have hbk := backs_spec f hfit
 unfold backR at hbk
 unfold findR
 by_cases hc : checkFuncM f = 0
 ·rw [if_pos hc] at hbk ⊢
  have hrr := reachable_spec f hfit
  have hpr := preds_spec f hfit
  unfold rchR at hrr
  unfold predsR at hpr
  rw [if_pos hc] at hrr hpr
  have hg := (checkFunc_ok hfit hc).gr
  have hw := ord_w hg
  have hn : f.blocks.length ≤ 128 := hg.few
  have hLl : (rchS f).length ≤ 128 := by rw [rchS_len]; exact hw.few
  have hLs := sortI_sorted (orderM f)
  have hL0 : rchS f ≠ [] := List.ne_nil_of_mem (mem_rchS.2 (by rw [hw.zero]; omega : 0 ≤ plF f 0))
  have hbs := fun k => bsearch_spec hL0 (by omega) hLs k
  have hBl := backs_few hg
  have hBr : ∀ p ∈ backsM f, 0 ≤ p.1 ∧ p.1 < f.blocks.length := fun p hp => hw.range p.1 (mem_backs.1 (show (p.1, p.2) ∈ backsM f from hp)).1
  obtain ⟨N, hN⟩ : ∃ N, N = f.blocks.length := ⟨_, rfl⟩
  obtain ⟨L, hL⟩ : ∃ L, L = rchS f := ⟨_, rfl⟩
  obtain ⟨B, hB⟩ : ∃ B, B = backsM f := ⟨_, rfl⟩
  obtain ⟨R, hR⟩ : ∃ R, R = rawM f := ⟨_, rfl⟩
  have hlo : loopsM f = nestM R := by rw [hR]; rfl
  rw [hlo]
  have hsr0 : ∀ h : Int, srcM f h = ((B.filter fun p => decide (p.2 = h)).map (·.1)) := fun h => by rw [hB]; rfl
  have hsplit := fun h z p (hp : B[z]? = some p) => srcM_split (f := f) (h := h) (z := z) (p := p) (by rw [← hB]; exact hp)
  rw [← hB] at hsplit hbk hBl hBr
  rw [← hL] at hrr hbs hL0 hLl
  unfold rawM at hR
  rw [← hN] at hR hn
  have hprl := preds_len f
  refine zf true 0 Try.func33 Try.ntmps33 ?_
  dsimp only [Tmp, TypeId, slotsOf]
  refine zh1 (za0 ?_)
  refine awp_freeze1 1 0 (.ip none [aI f.name, eBlocks f.blocks]) rfl (by simp [AObj.isSpare]) trivial rfl ?_ ?_
  rotate_left
  simp -dsimp only [simprocAttr, ↓vpre, zp]
  ·refine zh1 ?_
   refine zi hbk ?_
   refine za0 ?_
   refine zh2 (za0 ?_)
   apply zk0 rfl <;> intro h
   ·cases h
   refine zb0 ?_
   refine zh1 ?_
   refine zi hrr ?_
   refine za0 ?_
   refine zh1 ?_
   refine zi hpr ?_
   refine za0 ?_
   refine zh1 (za0 ?_)
   refine zg2 ?_
   simp -dsimp only [simprocAttr, ↓vpre, zp, ← hN]
   refine za0 ?_
   refine awp_block (awp_loop (ι := {X : Fs // X.h ≤ N ∧ FO X.acc X.oid X.O ∧ X.acc.length ≤ X.h ∧ (∀ x ∈ X.acc, x.parent = -1) ∧ R = X.acc ++ ((List.range N).drop X.h).flatMap (rawH f)}) (fun X => ⟨113, [(1, .ip none [aI f.name, eBlocks f.blocks]), (4, .lst 2 (B.map eBk) .sh), (6, eIs L), (8, .lst 1 ((predsM f).map eIs) .sh), (10, outL X.1.oid X.1.acc), (39, aI N), (40, aI X.1.h)], X.1.O⟩) (fun X => N - X.1.h) ⟨⟨0, [], 0, [.gone]⟩, by simp, ⟨by simp [AObj.upto], fun q => absurd rfl q⟩, by simp, by simp, by simpa using hR⟩ ?_ ?_)
   ·refine zq rfl ?_ ?_
    simp -dsimp only [simprocAttr, ↓vpre, zp, zc]
    all_goals first | rfl | exact Sub.refl _
   rintro ⟨⟨hd, acc, oid, O⟩, hh, hF, hal, hpar, hRe⟩
   simp only at hh hF hal hpar hRe
   refine zh1 (za0 ?_)
   apply zk1 rfl <;> intro h
   ·refine zb0 ?_
    have hlt : hd < N := by simpa using h
    have hrg : (List.range N)[hd]? = some hd := by simp [hlt]
    rw [drop_at hrg, List.flatMap_cons, ← List.append_assoc] at hRe
    have hsr := hsr0 (hd : Int)
    obtain ⟨src, hsrc⟩ : ∃ src, src = srcM f (hd : Int) := ⟨_, rfl⟩
    have hsf := src_few hg (hd : Int)
    rw [← hsrc] at hsr hsf
    have hcat := hsplit (hd : Int)
    refine awp_seq (awp_block ?_)
    refine zh1 (za0 ?_)
    refine zh1 (za0 ?_)
    refine zh2 (za0 ?_)
    refine awp_block (awp_loop (ι := {y : Fw // y.z ≤ B.length ∧ FO acc oid y.O ∧ (y.w ≠ [] → y.O[y.wid]? = some (.cells (y.w.map aI)) ∧ (acc ≠ [] → y.wid ≠ oid)) ∧ src = y.w ++ (((B.drop y.z).filter fun p => decide (p.2 = (hd : Int))).map (·.1))}) (fun y => ⟨113, [(1, .ip none [aI f.name, eBlocks f.blocks]), (4, .lst 2 (B.map eBk) .sh), (6, eIs L), (8, .lst 1 ((predsM f).map eIs) .sh), (10, outL oid acc), (39, aI N), (40, aI hd), (11, aI hd), (12, outV y.1.wid y.1.w), (43, .lst 2 (B.map eBk) .sh), (44, aI B.length), (45, aI y.1.z)], y.1.O⟩) (fun y => B.length - y.1.z) ⟨⟨0, [], 0, O⟩, by simp, hF, fun q => absurd rfl q, by simpa using hsr⟩ ?_ ?_)
    ·refine zq rfl ?_ ?_
     simp -dsimp only [simprocAttr, ↓vpre, zp, zc]
     all_goals first | rfl | exact Sub.refl _
    rintro ⟨⟨z, w, wid, O⟩, hz, hF, hwo, hse⟩
    simp only at hz hF hwo hse
    refine zh1 (za0 ?_)
    apply zk1 rfl <;> intro h
    ·refine zb0 ?_
     have hlz : z < B.length := by simpa using h
     obtain ⟨p, hp⟩ : ∃ p, B[z]? = some p := ⟨B[z], by simp [hlz]⟩
     rw [hcat z p hp, ← List.append_assoc] at hse
     have hwl : w.length ≤ 33000 := by
      have := congrArg List.length hse
      simp only [List.length_append] at this
      omega
     refine awp_seq (awp_block ?_)
     refine zg1 ?_
     simp -dsimp only [simprocAttr, ↓vpre, zp, hp, eBk]
     refine za0 ?_
     refine awp_local 14 ([aI p.1, aI p.2]) [(1, .ip none [aI f.name, eBlocks f.blocks]), (4, .lst 2 (B.map eBk) .sh), (6, eIs L), (8, .lst 1 ((predsM f).map eIs) .sh), (10, outL oid acc), (39, aI N), (40, aI hd), (11, aI hd), (12, outV wid w), (43, .lst 2 (B.map eBk) .sh), (44, aI B.length), (45, aI z), (14, .ip none [aI p.1, aI p.2])] (by simp [putS, dropS, Go.Av.look]) (by rfl) (by omega) (by simp [putS, dropS, Go.Av.look]) ?_ ?_ ?_
     ·exact hF.up
     ·have hou := hF.outU
      have hvu := outV_upto wid w (O := O) fun q => (hwo q).1
      simp [AVal.upto, uptoL, aI_upto, eBk_upto, eIss_upto, Edge.map_upto, Ins.map_upto, Block.map_upto, hou, hvu]
     by_cases hpe : p.2 = hd
     ·have hdp : decide (p.2 = (hd : Int)) = true := decide_eq_true hpe
      rw [if_pos hpe] at hse
      refine zg1 ?_
      simp -dsimp only [simprocAttr, ↓vpre, zp, hdp]
      refine za0 ?_
      refine zw0 rfl ?_
      by_cases hwn : w = []
      ·have hov : outV wid w = .lst 1 [] .ex := if_pos hwn
       refine zs0 ?_
       simp -dsimp only [simprocAttr, ↓vpre, zp, hov, cellsAll_v, cells_os']
       refine za0 ?_
       refine zh0 ?_
       repeat (refine ⟨by omega, ?_⟩)
       refine zl0 ?_
       refine ⟨⟨⟨z + 1, w ++ [p.1], O.length, O ++ [AObj.cells [aI p.1]]⟩, hlz, hF.push ⟨trivial, trivial⟩, fun _ => ⟨by rw [hwn]; exact snoc_get _ _, fun q e => ?_⟩, hse⟩, by simp; omega, ?_⟩
       ·have h1 := lt_of_getElem? (hF.out q)
        have h2 : O.length = oid := e
        omega
       refine zq rfl ?_ ?_
       simp -dsimp only [simprocAttr, ↓vpre, zp, zc]
       ·exact ⟨by rw [outV_snoc, hwn]; exact Sub.refl _, Sub.int (by simp)⟩
       rfl
      obtain ⟨w1, w2⟩ := hwo hwn
      have hov : outV wid w = .os wid w.length 1 := if_neg hwn
      have hTT : (w.map aI).take (w.length * 1) = w.map aI := List.take_of_length_le (by simp)
      have hgt : (O.set wid .gone ++ [AObj.cells (w.map aI ++ [aI p.1])])[O.length]? = some (.cells ((w ++ [p.1]).map aI)) := by
       have h1 := snoc_get (O.set wid .gone) (AObj.cells (w.map aI ++ [aI p.1]))
       rw [List.length_set] at h1
       rw [h1, List.map_append]
       rfl
      refine zg0 ?_
      simp -dsimp only [simprocAttr, ↓vpre, zp, hov, w1, cellsAll_v, cells_os', hTT]
      repeat (refine ⟨by omega, ?_⟩)
      refine za0 ?_
      refine zh0 ?_
      repeat (refine ⟨by omega, ?_⟩)
      refine zl0 ?_
      refine ⟨⟨⟨z + 1, w ++ [p.1], O.length, O.set wid .gone ++ [AObj.cells (w.map aI ++ [aI p.1])]⟩, hlz, hF.move w2 ?_, fun _ => ⟨hgt, fun q e => ?_⟩, hse⟩, by simp; omega, ?_⟩
      ·have := aI_upto (O.length + 1) (w ++ [p.1])
       simpa using this
      ·have h1 := lt_of_getElem? (hF.out q)
       have h2 : O.length = oid := e
       omega
      refine zq rfl ?_ ?_
      simp -dsimp only [simprocAttr, ↓vpre, zp, zc]
      ·exact ⟨by rw [outV_snoc]; exact Sub.refl _, Sub.int (by simp)⟩
      rfl
     have hdp : decide (p.2 = (hd : Int)) = false := decide_eq_false hpe
     rw [if_neg hpe, List.append_nil] at hse
     refine zg1 ?_
     simp -dsimp only [simprocAttr, ↓vpre, zp, hdp]
     refine za0 ?_
     refine zu0 rfl ?_
     refine zb1 ?_
     refine zh0 ?_
     repeat (refine ⟨by omega, ?_⟩)
     refine zl0 ?_
     refine ⟨⟨⟨z + 1, w, wid, O⟩, hlz, hF, hwo, hse⟩, by simp; omega, ?_⟩
     refine zq rfl ?_ ?_
     simp -dsimp only [simprocAttr, ↓vpre, zp, zc]
     ·exact Sub.int (by simp)
     rfl
    refine awp_exit ?_
    simp -dsimp only [vend, ne_eq, Nat.reduceEqDiff, reduceCtorEq]
    have hzl : B.length ≤ z := by
     have := of_decide_eq_false h
     omega
    rw [List.drop_of_length_le hzl] at hse
    have hsw : src = w := by rw [hse]; simp
    subst hsw
    by_cases hsn : src = []
    ·have hov : outV wid src = .lst 1 [] .ex := if_pos hsn
     have hraw : rawH f hd = [] := if_pos (by rw [← hsrc]; exact hsn)
     rw [hraw, List.append_nil] at hRe
     refine zg2 ?_
     simp -dsimp only [simprocAttr, ↓vpre, zp, hov]
     refine za0 ?_
     refine zw0 rfl ?_
     refine awp_exit ?_
     simp -dsimp only [vend, ne_eq, Nat.reduceEqDiff, reduceCtorEq]
     refine zh0 ?_
     repeat (refine ⟨by omega, ?_⟩)
     refine zl0 ?_
     refine ⟨⟨⟨hd + 1, acc, oid, O⟩, hlt, hF, by simp only; omega, hpar, hRe⟩, by simp; omega, ?_⟩
     refine zq rfl ?_ ?_
     simp -dsimp only [simprocAttr, ↓vpre, zp, zc]
     ·exact Sub.int (by simp)
     rfl
    obtain ⟨w1, w2⟩ := hwo hsn
    have hov : outV wid src = .os wid src.length 1 := if_neg hsn
    have hraw : rawH f hd = [⟨hd, sortI (natM f hd), -1⟩] := if_neg (by rw [← hsrc]; exact hsn)
    rw [hraw] at hRe
    have hsl : 0 < src.length := List.length_pos_iff.2 hsn
    have hdl : decide ((src.length : Int) = 0) = false := decide_eq_false (by omega)
    refine zg2 ?_
    simp -dsimp only [simprocAttr, ↓vpre, zp, hov, hdl]
    refine za0 ?_
    apply zk0 rfl <;> intro h
    ·cases h
    refine zb0 ?_
    refine awp_seq (awp_mid_op ⟨false, false⟩ hT 1 rfl rfl rfl (by simp) ?_)
    simp -dsimp only [simprocAttr, ↓vpre, zp]
    refine midOp_os hT rfl rfl (by simp) rfl rfl rfl (by simp) rfl (by intro p hp; simp at hp; subst hp; trivial) rfl rfl (by intro x hx; simp at hx; subst hx; rfl) (by simp) (by simp) ?_
    simp -dsimp only [simprocAttr, ↓vpre, zp]
    refine za0 ?_
    have hhr : 0 ≤ (hd : Int) ∧ (hd : Int) < f.blocks.length := ⟨by omega, by omega⟩
    obtain ⟨s1, s2⟩ := nat_start hg hhr
    rw [← hsrc] at s1 s2
    have hF0 : FO acc oid (O ++ [AObj.cells (cellsAll [aI (hd : Int)])]) := hF.push ⟨trivial, trivial⟩
    have hwk : ∀ (S : Wl), WlOK f (hd : Int) src S → ∀ k ∈ S.work, 0 ≤ plF f k → predsAt f k ≠ [] := fun S hS k h1 h2 => wl_preds hg (h := (hd : Int)) (by rw [← hsrc]; exact hsn) (by rw [← hsrc]; exact hS) h1 h2
    have hnat : natM f (hd : Int) = (wlRun f 10000000 ⟨src, [(hd : Int)]⟩).all := by rw [hsrc]; rfl
    have g1 : (O ++ [AObj.cells (cellsAll [aI (hd : Int)])])[wid]? = some (.cells (src.map aI ++ [])) := by
     rw [List.append_nil]
     exact at_left w1
    have g2 : (O ++ [AObj.cells (cellsAll [aI (hd : Int)])])[O.length]? = some (.cells ([(hd : Int)].map aI)) := snoc_get _ _
    have hwO := lt_of_getElem? w1
    refine awp_seq (awp_block (awp_loop (ι := {y : Fz // WlOK f hd src y.S ∧ FO acc oid y.O ∧ y.O[y.wid]? = some (.cells (y.S.work.map aI ++ y.junk)) ∧ y.O[y.aid]? = some (.cells (y.S.all.map aI)) ∧ (acc ≠ [] → y.wid ≠ oid ∧ y.aid ≠ oid) ∧ y.wid ≠ y.aid ∧ ∃ n, y.S.weight f < n ∧ n ≤ 10000000 ∧ natM f hd = (wlRun f n y.S).all}) (fun y => ⟨113, [(1, .ip none [aI f.name, eBlocks f.blocks]), (4, .lst 2 (B.map eBk) .sh), (6, eIs L), (8, .lst 1 ((predsM f).map eIs) .sh), (10, outL oid acc), (39, aI N), (40, aI hd), (11, aI hd), (12, .os y.1.wid y.1.S.work.length 1), (15, .os y.1.aid y.1.S.all.length 1)], y.1.O⟩) (fun y => y.1.S.weight f) ⟨⟨⟨src, [(hd : Int)]⟩, wid, O.length, _, []⟩, s1, hF0, g1, g2, fun q => ⟨w2 q, by have := lt_of_getElem? (hF.out q); simp only; omega⟩, by simp only; omega, 10000000, s2, Nat.le_refl _, hnat⟩ ?_ ?_))
    ·refine zq rfl ?_ ?_
     simp -dsimp only [simprocAttr, ↓vpre, zp, zc]
     all_goals rfl
    rintro ⟨⟨S, wid, aid, O, junk⟩, hS, hF, k1, k2, k3, k4, n, hn1, hn2, hne⟩
    simp only at hS hF k1 k2 k3 k4 hn1 hn2 hne
    by_cases hwe : S.work = []
    ·have hl0 : S.work.length = 0 := by rw [hwe]; rfl
     rw [wlRun_done hwe] at hne
     refine zg2 ?_
     simp -dsimp only [simprocAttr, ↓vpre, zp, hl0]
     refine za0 ?_
     refine zu0 rfl ?_
     refine awp_exit ?_
     simp -dsimp only [vend, ne_eq, Nat.reduceEqDiff, reduceCtorEq]
     have hfit2 := hS.few
     have hso := sort_spec (O := O) (id := aid) (zs := S.all) k2 (by omega)
     have h3 : (O.set aid (.cells ((sortI S.all).map aI)))[aid]? = some (.cells ((sortI S.all).map aI)) := at_set k2
     have hsl := (sortI_perm S.all).length_eq
     rw [hne] at hRe
     refine zh1 ?_
     refine .inr (.inl ⟨_, _, hso, .inl (later_intro (zj ?_))⟩)
     refine za0 ?_
     refine awp_freeze1 15 aid (o := .cells ((sortI S.all).map aI)) (eIs (sortI S.all)) h3 (by simp [AObj.isSpare]) trivial rfl (FSub.os (cs := (sortI S.all).map aI) h3 ?_ ?_ ?_) ?_
     ·intro x hx
      obtain ⟨c, _, rfl⟩ := List.mem_map.1 hx
      rfl
     ·simp [hsl]
     ·rw [List.drop_zero, List.take_of_length_le (by simp [hsl])]
      exact aI_cellsAll _
     simp -dsimp only [simprocAttr, ↓vpre, zp, List.set_set]
     have hF3 : FO acc oid (O.set aid .gone) := hF.set (fun q => (k3 q).2) trivial
     have hlen3 : (O.set aid AObj.gone).length = O.length := by simp
     generalize O.set aid AObj.gone = O3 at *
     obtain ⟨ss, hss⟩ : ∃ ss, ss = sortI S.all := ⟨_, rfl⟩
     rw [← hss] at hRe ⊢
     by_cases haq : acc = []
     ·have hov : outL oid acc = .lst 3 [] .ex := if_pos haq
      refine zs0 ?_
      simp -dsimp only [simprocAttr, ↓vpre, zp, hov, cells_os']
      refine za0 ?_
      refine zh0 ?_
      repeat (refine ⟨by omega, ?_⟩)
      refine zl0 ?_
      refine ⟨⟨⟨hd + 1, acc ++ [⟨hd, ss, -1⟩], O3.length, O3 ++ [AObj.cells (LoopM.cells ⟨hd, ss, -1⟩)]⟩, hlt, ⟨?_, fun _ => ?_⟩, by simp; omega, fun x hx => ?_, by rw [hRe]⟩, by simp; omega, ?_⟩
      ·exact (hF3.push (cs := LoopM.cells ⟨hd, ss, -1⟩) ⟨trivial, ⟨aI_upto _ _, trivial⟩, trivial, trivial⟩).up
      ·rw [haq]
       exact snoc_get _ _
      ·rcases List.mem_append.1 hx with q | q
       ·exact hpar x q
       simp only [List.mem_singleton] at q
       rw [q]
      refine zq rfl ?_ ?_
      simp -dsimp only [simprocAttr, ↓vpre, zp, zc]
      ·exact ⟨by rw [outL_snoc, haq]; exact Sub.refl _, Sub.int (by simp)⟩
      rfl
     have hov : outL oid acc = .os oid acc.length 3 := if_neg haq
     have ho := hF3.out haq
     have hTL : (lpC acc).take (acc.length * 3) = lpC acc := List.take_of_length_le (by rw [lpC_len]; omega)
     refine zg0 ?_
     simp -dsimp only [simprocAttr, ↓vpre, zp, hov, ho, hTL, cells_os']
     refine ⟨by rw [lpC_len]; omega, by omega, by omega, ?_⟩
     refine za0 ?_
     refine zh0 ?_
     repeat (refine ⟨by omega, ?_⟩)
     refine zl0 ?_
     refine ⟨⟨⟨hd + 1, acc ++ [⟨hd, ss, -1⟩], O3.length, O3.set oid .gone ++ [AObj.cells (lpC acc ++ LoopM.cells ⟨hd, ss, -1⟩)]⟩, hlt, ⟨?_, fun _ => ?_⟩, by simp; omega, fun x hx => ?_, by rw [hRe]⟩, by simp; omega, ?_⟩
     ·have hup := uptoO_snoc (x := AObj.cells (lpC acc ++ LoopM.cells ⟨hd, ss, -1⟩)) (uptoO_set (k := oid) (x := .gone) (fun o ho => AObj.upto_mono (show O3.length ≤ O3.length + 1 by omega) (hF3.up o ho)) trivial) (by
       have h1 := lpC_upto (O3.length + 1) (acc ++ [⟨hd, ss, -1⟩])
       rw [lpC_snoc] at h1
       exact h1)
      intro o ho
      have := hup o ho
      simpa using this
     ·have h1 := snoc_get (O3.set oid .gone) (AObj.cells (lpC acc ++ LoopM.cells ⟨hd, ss, -1⟩))
      rw [List.length_set] at h1
      rw [lpC_snoc]
      exact h1
     ·rcases List.mem_append.1 hx with q | q
      ·exact hpar x q
      simp only [List.mem_singleton] at q
      rw [q]
     refine zq rfl ?_ ?_
     simp -dsimp only [simprocAttr, ↓vpre, zp, zc]
     ·exact ⟨by rw [outL_snoc]; exact Sub.refl _, Sub.int (by simp)⟩
     rfl
    obtain ⟨n, rfl⟩ : ∃ n', n = n' + 1 := ⟨n - 1, by omega⟩
    have hne2 : natM f hd = (wlRun f n (wlStep f S)).all := by
     rw [hne]
     simp only [wlRun]
     rw [if_neg (by simpa using hwe)]
    have hstep := wlStep_ok hg hS
    have hwt := wlStep_weight hg hS hwe
    obtain ⟨k, hk⟩ : ∃ k, S.work.getLast? = some k := ⟨S.work.getLast hwe, List.getLast?_eq_some_getLast hwe⟩
    have hkl := dropLast_last hk
    obtain ⟨r, hr⟩ : ∃ r, r = S.work.dropLast := ⟨_, rfl⟩
    rw [← hr] at hkl
    have hkw : k ∈ S.work := by rw [hkl]; simp
    have hkr := hS.wk k hkw
    have hll : S.work.length = r.length + 1 := by rw [hkl]; simp
    have hwb : S.work.length ≤ 10000000 := by
     simp only [Wl.weight] at hn1
     omega
    have hab := hS.few
    have hr2 : ((r.length + 1 : Nat) : Int) - 1 = (r.length : Nat) := by omega
    obtain ⟨cs, hcs⟩ : ∃ cs, cs = S.work.map aI ++ junk := ⟨_, rfl⟩
    have hcs2 : cs = r.map aI ++ (aI k :: junk) := by rw [hcs, hkl]; simp
    have hcb : cs[r.length]? = some (aI k) := by
     rw [hcs2, List.getElem?_append_right (by simp)]
     simp
    have hcl : r.length + 1 ≤ cs.length := by rw [hcs2]; simp
    rw [← hcs] at k1
    have hbsk := hbs k
    have hstp : wlStep f S = if k ∈ L ∧ k ∉ S.all then ⟨r ++ predsAt f k, S.all ++ [k]⟩ else ⟨r, S.all⟩ := by
     simp only [wlStep, hk, ← hL, ← hr]
    refine zg2 ?_
    simp -dsimp only [simprocAttr, ↓vpre, zp, hll]
    refine za0 ?_
    apply zk0 rfl <;> intro h
    ·refine zb0 ?_
     refine awp_block ?_
     refine zg1 ?_
     simp -dsimp only [simprocAttr, ↓vpre, zp, hr2, k1, hcb, Nat.mul_one]
     repeat (refine ⟨by omega, ?_⟩)
     refine za0 ?_
     refine zg1 ?_
     simp -dsimp only [simprocAttr, ↓vpre, zp, hr2, k1, Nat.mul_one]
     repeat (refine ⟨by omega, ?_⟩)
     refine za0 ?_
     refine zh1 ?_
     refine zi hbsk ?_
     refine za0 ?_
     by_cases hkL : k ∈ L
     ·have hdL : decide (k ∈ L) = true := decide_eq_true hkL
      have hco := PCall.os (contains_spec S.all k) k2
      cases hci : hasI S.all k with
      | true =>
       have hin : k ∈ S.all := hasI_iff.1 hci
       rw [if_neg (fun q => q.2 hin)] at hstp
       rw [hstp] at hstep hwt hne2
       rw [hci] at hco
       refine zg1 ?_
       simp -dsimp only [simprocAttr, ↓vpre, zp, hdL]
       refine .inr (.inr ⟨_, hco, later_intro (zj ?_)⟩)
       refine za0 ?_
       refine zu0 rfl ?_
       refine zn1 ?_
       have hc' : O[wid]? = some (.cells (r.map aI ++ (aI k :: junk))) := by rw [k1, hcs2]
       refine ⟨⟨⟨⟨r, S.all⟩, wid, aid, O, aI k :: junk⟩, hstep, hF, hc', k2, k3, k4, n, by simp only; omega, by omega, hne2⟩, by simp only; omega, ?_⟩
       refine zq rfl ?_ ?_
       simp -dsimp only [simprocAttr, ↓vpre, zp, zc]
       all_goals rfl
      | false =>
       have hin : k ∉ S.all := fun q => by rw [hasI_iff.2 q] at hci; cases hci
       rw [if_pos ⟨hkL, hin⟩] at hstp
       rw [hstp] at hstep hwt hne2
       rw [hci] at hco
       refine zg1 ?_
       simp -dsimp only [simprocAttr, ↓vpre, zp, hdL]
       refine .inr (.inr ⟨_, hco, later_intro (zj ?_)⟩)
       refine za0 ?_
       refine zw0 rfl ?_
       have hAT : (S.all.map aI).take (S.all.length * 1) = S.all.map aI := List.take_of_length_le (by simp)
       obtain ⟨ps, hps⟩ : ∃ ps, (predsM f)[k.toNat]? = some ps := ⟨(predsM f)[k.toNat]'(by omega), List.getElem?_eq_getElem _⟩
       have hpa : predsAt f k = ps := by simp [predsAt, hps]
       have hpne := hwk S hS k hkw (mem_rchS.1 (by rw [← hL]; exact hkL))
       have hpfew := preds_few hg k
       rw [hpa] at hpne hpfew hstep hwt hne2
       have hpl : ps.length ≠ 0 := fun q => hpne (List.eq_nil_of_length_eq_zero q)
       have hct : cs.take (r.length * 1) = r.map aI := by
        rw [hcs2, Nat.mul_one, List.take_left' (by simp)]
       have hct2 : cs.take r.length = r.map aI := by
        rw [hcs2, List.take_left' (by simp)]
       refine zg1 ?_
       simp -dsimp only [simprocAttr, ↓vpre, zp, k2, cellsAll_v, cells_os', hAT]
       repeat (refine ⟨by omega, ?_⟩)
       refine za0 ?_
       have hF1 : FO acc oid (O.set aid .gone ++ [AObj.cells (S.all.map aI ++ [aI k])]) := hF.move (fun q => (k3 q).2) (by
        have := aI_upto (O.length + 1) (S.all ++ [k])
        simpa using this)
       have kw1 : (O.set aid .gone ++ [AObj.cells (S.all.map aI ++ [aI k])])[wid]? = some (.cells cs) := at_left (at_set_ne k1 (Ne.symm k4))
       have ka1 : (O.set aid .gone ++ [AObj.cells (S.all.map aI ++ [aI k])])[O.length]? = some (.cells ((S.all ++ [k]).map aI)) := by
        have h1 := snoc_get (O.set aid .gone) (AObj.cells (S.all.map aI ++ [aI k]))
        rw [List.length_set] at h1
        rw [h1, List.map_append]
        rfl
       have hO1l : (O.set aid .gone ++ [AObj.cells (S.all.map aI ++ [aI k])]).length = O.length + 1 := by simp
       have hwO := lt_of_getElem? k1
       generalize (O.set aid .gone ++ [AObj.cells (S.all.map aI ++ [aI k])]) = O1 at *
       refine zg0 ?_
       simp -dsimp only [simprocAttr, ↓vpre, zp, hps, kw1, hct, hct2, cellsAll_ints]
       repeat (refine ⟨by omega, ?_⟩)
       refine zl1 ?_
       have g1 : (O1.set wid .gone ++ [AObj.cells (r.map aI ++ ps.map aI)])[O1.length]? = some (.cells ((r ++ ps).map aI ++ [])) := by
        have h1 := snoc_get (O1.set wid .gone) (AObj.cells (r.map aI ++ ps.map aI))
        rw [List.length_set] at h1
        rw [h1, List.map_append, List.append_nil]
       have hup : uptoL (O1.length + 1) (r.map aI ++ ps.map aI) := by
        have := aI_upto (O1.length + 1) (r ++ ps)
        simpa using this
       refine ⟨⟨⟨⟨r ++ ps, S.all ++ [k]⟩, O1.length, O.length, O1.set wid .gone ++ [AObj.cells (r.map aI ++ ps.map aI)], []⟩, hstep, hF1.move (fun q => (k3 q).1) hup, g1, at_left (at_set_ne ka1 (show wid ≠ O.length by omega)), fun q => ?_, by simp only; omega, n, by simp only; omega, by omega, hne2⟩, by simp only; omega, ?_⟩
       ·have h1 := lt_of_getElem? (hF.out q)
        simp only
        omega
       refine zq rfl ?_ ?_
       simp -dsimp only [simprocAttr, ↓vpre, zp, zc]
       all_goals rfl
     have hdL : decide (k ∈ L) = false := decide_eq_false hkL
     rw [if_neg (fun q => hkL q.1)] at hstp
     rw [hstp] at hstep hwt hne2
     refine zg1 ?_
     simp -dsimp only [simprocAttr, ↓vpre, zp, hdL]
     refine za0 ?_
     refine zu0 rfl ?_
     refine zn1 ?_
     have hc' : O[wid]? = some (.cells (r.map aI ++ (aI k :: junk))) := by rw [k1, hcs2]
     refine ⟨⟨⟨⟨r, S.all⟩, wid, aid, O, aI k :: junk⟩, hstep, hF, hc', k2, k3, k4, n, by simp only; omega, by omega, hne2⟩, by simp only; omega, ?_⟩
     refine zq rfl ?_ ?_
     simp -dsimp only [simprocAttr, ↓vpre, zp, zc]
     all_goals rfl
    exact af h (by omega)
   refine awp_exit ?_
   simp -dsimp only [vend, ne_eq, Nat.reduceEqDiff, reduceCtorEq]
   have hhN : hd = N := by
    have := of_decide_eq_false h
    omega
   subst hhN
   rw [List.drop_of_length_le (by simp)] at hRe
   have hRa : R = acc := by rw [hRe]; simp
   subst hRa
   by_cases hRn : R = []
   ·have hov : outL oid R = .lst 3 [] .ex := if_pos hRn
    refine zg1 ?_
    simp -dsimp only [simprocAttr, ↓vpre, zp, hov]
    refine zi nest_nil ?_
    refine za0 ?_
    refine zg1 ?_
    simp -dsimp only [simprocAttr, ↓vpre, zp, hov]
    refine za0 ?_
    rw [hRn]
    refine awp_ret ?_
    simp -dsimp only [simprocAttr, ↓vpre, zp, zr, Try.results33]
    exact ⟨⟨⟨trivial, trivial⟩, trivial, trivial⟩, rfl⟩
   have hov : outL oid R = .os oid R.length 3 := if_neg hRn
   have ho := hF.out hRn
   have hns := nest_spec hF.up ho (by omega) hpar
   have hnl := (nestM_ok hpar).len
   have h3 : (O.set oid (.cells (lpC (nestM R))))[oid]? = some (.cells (lpC (nestM R))) := at_set ho
   generalize O.set oid (.cells (lpC (nestM R))) = O2 at *
   obtain ⟨m, hm2⟩ : ∃ m, m = nestM R := ⟨_, rfl⟩
   rw [← hm2] at hnl h3 ⊢
   rw [← hnl] at hov hns
   refine zg1 ?_
   simp -dsimp only [simprocAttr, ↓vpre, zp, hov]
   refine .inr (.inl ⟨_, _, hns, .inl (later_intro (zj ?_))⟩)
   refine za0 ?_
   refine zg1 ?_
   simp -dsimp only [simprocAttr, ↓vpre, zp, hov]
   refine za0 ?_
   refine awp_freeze1 2 oid (o := .cells (lpC m)) (.lst 3 (m.map eLoop) .sh) h3 (by simp [AObj.isSpare]) trivial rfl (FSub.os (cs := lpC m) h3 ?_ ?_ ?_) ?_
   ·intro x hx
    obtain ⟨y, _, rfl⟩ := List.mem_map.1 hx
    rfl
   ·simp
   ·rw [List.drop_zero, List.take_of_length_le (by rw [lpC_len]; omega)]
    exact lpC_share m
   simp -dsimp only [simprocAttr, ↓vpre, zp]
   refine awp_ret ?_
   simp -dsimp only [simprocAttr, ↓vpre, zp, zr, Try.results33]
   exact ⟨⟨eLoop_upto _ _, trivial⟩, trivial, trivial⟩
  exact FSub.mp rfl rfl
 rw [if_neg hc] at hbk ⊢
 obtain ⟨e, he⟩ : ∃ e, e = checkFuncM f := ⟨_, rfl⟩
 rw [← he] at hc hbk ⊢
 have hde : decide (e = 0) = false := decide_eq_false hc
 refine zf true 0 Try.func33 Try.ntmps33 ?_
 dsimp only [Tmp, TypeId, slotsOf]
 refine zh1 (za0 ?_)
 refine awp_freeze1 1 0 (.ip none [aI f.name, eBlocks f.blocks]) rfl (by simp [AObj.isSpare]) trivial rfl ?_ ?_
 rotate_left
 simp -dsimp only [simprocAttr, ↓vpre, zp]
 ·refine zh1 ?_
  refine zi hbk ?_
  refine za0 ?_
  refine zg2 ?_
  simp -dsimp only [simprocAttr, ↓vpre, zp, hde]
  refine za0 ?_
  refine zw0 rfl ?_
  refine zh1 (za0 ?_)
  refine awp_ret ?_
  simp -dsimp only [simprocAttr, ↓vpre, zp, zr, Try.results33]
  simp [uptoL, AVal.upto]
 exact FSub.mp rfl rfl
def rpE (p : Nat) (k : Int) (es : List Edge) : List Int := (es.filter fun e => decide (e.block = k)).map fun _ => (p : Int)
def rpL (k : Int) : Nat → List Block → List Int
 | _, [] => []
 | p, b :: r => rpE p k b.term.to ++ rpL k (p + 1) r
def rpM (f : Func) (k : Int) : List Int := rpL k 0 f.blocks
theorem rpE_few (p : Nat) (k : Int) (es : List Edge) : (rpE p k es).length ≤ es.length := by
 unfold rpE
 rw [List.length_map]
 exact List.length_filter_le _ _
theorem rpL_few (k : Int) : ∀ (bs : List Block) (p : Nat), (∀ b ∈ bs, b.term.to.length ≤ 257) → (rpL k p bs).length ≤ bs.length * 257
 | [], _, _ => by simp [rpL]
 | b :: r, p, h => by
  have h1 := rpL_few k r (p + 1) fun x hx => h x (List.mem_cons_of_mem _ hx)
  have h2 := rpE_few p k b.term.to
  have h3 := h b List.mem_cons_self
  simp only [rpL, List.length_append, List.length_cons]
  omega
theorem mem_rpL (k q : Int) : ∀ (bs : List Block) (p : Nat), q ∈ rpL k p bs ↔ ∃ (j : Nat) (b : Block), bs[j]? = some b ∧ q = ((p + j : Nat) : Int) ∧ ∃ e ∈ b.term.to, e.block = k
 | [], p => by simp [rpL]
 | b :: r, p => by
  have ih := mem_rpL k q r (p + 1)
  simp only [rpL, List.mem_append, ih]
  constructor
  ·rintro (h | ⟨j, c, h1, h2, h3⟩)
   ·unfold rpE at h
    obtain ⟨e, he, e1⟩ := List.mem_map.1 h
    rw [List.mem_filter] at he
    exact ⟨0, b, rfl, by simp [e1.symm], e, he.1, by simpa using he.2⟩
   exact ⟨j + 1, c, by simpa using h1, by rw [h2]; congr 1; omega, h3⟩
  rintro ⟨j, c, h1, h2, e, he, h3⟩
  cases j with
  | zero =>
   simp only [List.getElem?_cons_zero, Option.some.injEq] at h1
   subst h1
   refine .inl ?_
   unfold rpE
   exact List.mem_map.2 ⟨e, List.mem_filter.2 ⟨he, by simpa using h3⟩, by rw [h2]; rfl⟩
  | succ j =>
   exact .inr ⟨j, c, by simpa using h1, by rw [h2]; congr 1; omega, e, he, h3⟩
theorem mem_rpM {f : Func} {k q : Int} (h0 : 0 ≤ q) : q ∈ rpM f k ↔ ∃ e ∈ toOf f q, e.block = k := by
 unfold rpM
 rw [mem_rpL]
 constructor
 ·rintro ⟨j, b, h1, h2, e, he, h3⟩
  refine ⟨e, ?_, h3⟩
  rw [Nat.zero_add] at h2
  rw [h2]
  simp only [toOf, blkOf, Int.toNat_natCast, h1]
  exact he
 rintro ⟨e, he, h3⟩
 cases hb : f.blocks[q.toNat]? with
 | none =>
  simp [toOf, blkOf, hb] at he
  cases he
 | some b =>
  simp only [toOf, blkOf, hb] at he
  exact ⟨q.toNat, b, hb, by omega, e, he, h3⟩
structure Fpr where
 z : Nat
 w : List Int
 wid : Nat
 O : List AObj
theorem refPreds_spec (f : Func) (hg : GrW f) (k : Int) : PCall Try.prog 32 [f.enc, aI k] (eIs (rpM f k)) := by
 have hn : f.blocks.length ≤ 128 := hg.few
 obtain ⟨R, hR⟩ : ∃ R, R = rpM f k := ⟨_, rfl⟩
 have hRl : R.length ≤ 33000 := by
  have := rpL_few k f.blocks 0 hg.to
  rw [hR]
  unfold rpM
  omega
 rw [← hR]
 unfold rpM at hR
 obtain ⟨N, hN⟩ : ∃ N, N = f.blocks.length := ⟨_, rfl⟩
 refine zf true 0 Try.func32 Try.ntmps32 ?_
 dsimp only [Tmp, TypeId, slotsOf]
 refine zh1 (za0 ?_)
 refine awp_freeze1 2 0 (.ip none [aI f.name, eBlocks f.blocks]) rfl (by simp [AObj.isSpare]) trivial rfl ?_ ?_
 rotate_left
 simp -dsimp only [simprocAttr, ↓vpre, zp]
 ·refine zh1 (za0 ?_)
  refine zg2 ?_
  simp -dsimp only [simprocAttr, ↓vpre, zp, ← hN]
  refine za0 ?_
  refine awp_block (awp_loop (ι := {X : Fpr // X.z ≤ N ∧ FO [] 0 X.O ∧ (X.w ≠ [] → X.O[X.wid]? = some (.cells (X.w.map aI))) ∧ R = X.w ++ rpL k X.z (f.blocks.drop X.z)}) (fun X => ⟨37, [(1, aI k), (2, .ip none [aI f.name, eBlocks f.blocks]), (5, outV X.1.wid X.1.w), (11, eBlocks f.blocks), (12, aI N), (13, aI X.1.z)], X.1.O⟩) (fun X => N - X.1.z) ⟨⟨0, [], 0, [.gone]⟩, by simp, ⟨by simp [AObj.upto], fun q => absurd rfl q⟩, fun q => absurd rfl q, by simpa using hR⟩ ?_ ?_)
  ·refine zq rfl ?_ ?_
   simp -dsimp only [simprocAttr, ↓vpre, zp, zc]
   all_goals first | rfl | exact Sub.refl _
  rintro ⟨⟨i, w, wid, O⟩, hi, hF, hwo, hse⟩
  simp only at hi hF hwo hse
  refine zh1 (za0 ?_)
  apply zk1 rfl <;> intro h
  ·refine zb0 ?_
   have hlt : i < N := by simpa using h
   obtain ⟨b, hb⟩ : ∃ b, f.blocks[i]? = some b := ⟨f.blocks[i]'(by omega), List.getElem?_eq_getElem _⟩
   rw [drop_at hb] at hse
   simp only [rpL] at hse
   obtain ⟨T, hT2⟩ : ∃ T, T = rpL k (i + 1) (f.blocks.drop (i + 1)) := ⟨_, rfl⟩
   rw [← hT2, ← List.append_assoc] at hse
   obtain ⟨P, hP⟩ : ∃ P, P = w ++ rpE i k b.term.to := ⟨_, rfl⟩
   rw [← hP] at hse
   unfold rpE at hP
   have hPl : P.length ≤ 33000 := by
    have := congrArg List.length hse
    rw [List.length_append] at this
    omega
   have hto := hg.to b (List.mem_of_getElem? hb)
   refine awp_seq (awp_block ?_)
   refine zg1 ?_
   simp -dsimp only [simprocAttr, ↓vpre, zp, hb]
   refine za0 ?_
   refine awp_local 7 ([eIs b.params, eInss b.ins, aI b.term.kind, aI b.term.arg, aI b.term.n, eIs b.term.cases, eEdges b.term.to]) [(1, aI k), (2, .ip none [aI f.name, eBlocks f.blocks]), (5, outV wid w), (11, eBlocks f.blocks), (12, aI N), (13, aI i), (6, aI i), (7, .ip none [eIs b.params, eInss b.ins, aI b.term.kind, aI b.term.arg, aI b.term.n, eIs b.term.cases, eEdges b.term.to])] (by simp [putS, dropS, Go.Av.look]) (by rfl) (by omega) (by simp [putS, dropS, Go.Av.look]) ?_ ?_ ?_
   ·exact hF.up
   ·have hvu := outV_upto wid w (O := O) hwo
    simp [AVal.upto, uptoL, aI_upto, Edge.map_upto, Ins.map_upto, Block.map_upto, hvu]
   refine zh1 (za0 ?_)
   refine awp_block (awp_loop (ι := {X : Fpr // X.z ≤ b.term.to.length ∧ FO [] 0 X.O ∧ (X.w ≠ [] → X.O[X.wid]? = some (.cells (X.w.map aI))) ∧ P = X.w ++ ((b.term.to.drop X.z).filter fun e => decide (e.block = k)).map fun _ => (i : Int)}) (fun X => ⟨37, [(1, aI k), (2, .ip none [aI f.name, eBlocks f.blocks]), (5, outV X.1.wid X.1.w), (11, eBlocks f.blocks), (12, aI N), (13, aI i), (6, aI i), (20, eEdges b.term.to), (21, aI b.term.to.length), (22, aI X.1.z)], X.1.O⟩) (fun X => b.term.to.length - X.1.z) ⟨⟨0, w, wid, O⟩, by simp, hF, hwo, by simpa using hP⟩ ?_ ?_)
   ·refine zq rfl ?_ ?_
    simp -dsimp only [simprocAttr, ↓vpre, zp, zc]
    all_goals rfl
   rintro ⟨⟨z, w, wid, O⟩, hz, hF, hwo, hse2⟩
   simp only at hz hF hwo hse2
   refine zh1 (za0 ?_)
   apply zk1 rfl <;> intro h
   ·refine zb0 ?_
    have hlz : z < b.term.to.length := by simpa using h
    obtain ⟨e, he⟩ : ∃ e, b.term.to[z]? = some e := ⟨b.term.to[z], by simp [hlz]⟩
    rw [drop_at he, List.filter_cons] at hse2
    have hwl : w.length ≤ 33000 := by
     have := congrArg List.length hse2
     rw [List.length_append] at this
     omega
    refine awp_seq (awp_block ?_)
    refine zg1 ?_
    simp -dsimp only [simprocAttr, ↓vpre, zp, he]
    refine za0 ?_
    refine awp_local 9 ([aI e.block, eIs e.args]) [(1, aI k), (2, .ip none [aI f.name, eBlocks f.blocks]), (5, outV wid w), (11, eBlocks f.blocks), (12, aI N), (13, aI i), (6, aI i), (20, eEdges b.term.to), (21, aI b.term.to.length), (22, aI z), (9, .ip none [aI e.block, eIs e.args])] (by simp [putS, dropS, Go.Av.look]) (by rfl) (by omega) (by simp [putS, dropS, Go.Av.look]) ?_ ?_ ?_
    ·exact hF.up
    ·have hvu := outV_upto wid w (O := O) hwo
     simp [AVal.upto, uptoL, aI_upto, Edge.map_upto, Ins.map_upto, Block.map_upto, hvu]
    by_cases hpe : e.block = k
    ·have hdp : decide (e.block = k) = true := decide_eq_true hpe
     rw [hdp, if_pos rfl, List.map_cons, List.append_cons] at hse2
     refine zg1 ?_
     simp -dsimp only [simprocAttr, ↓vpre, zp, hdp]
     refine za0 ?_
     refine zw0 rfl ?_
     by_cases hwn : w = []
     ·have hov : outV wid w = .lst 1 [] .ex := if_pos hwn
      refine zs0 ?_
      simp -dsimp only [simprocAttr, ↓vpre, zp, hov, cellsAll_v, cells_os']
      refine za0 ?_
      refine zh0 ?_
      repeat (refine ⟨by omega, ?_⟩)
      refine zl0 ?_
      refine ⟨⟨⟨z + 1, w ++ [(i : Int)], O.length, O ++ [AObj.cells [aI (i : Int)]]⟩, hlz, hF.push ⟨trivial, trivial⟩, fun _ => by rw [hwn]; exact snoc_get _ _, hse2⟩, by simp; omega, ?_⟩
      refine zq rfl ?_ ?_
      simp -dsimp only [simprocAttr, ↓vpre, zp, zc]
      ·exact ⟨by rw [outV_snoc, hwn]; exact Sub.refl _, Sub.int (by simp)⟩
      rfl
     have w1 := hwo hwn
     have hov : outV wid w = .os wid w.length 1 := if_neg hwn
     have hTT : (w.map aI).take (w.length * 1) = w.map aI := List.take_of_length_le (by simp)
     have hgt : (O.set wid .gone ++ [AObj.cells (w.map aI ++ [aI (i : Int)])])[O.length]? = some (.cells ((w ++ [(i : Int)]).map aI)) := by
      have h1 := snoc_get (O.set wid .gone) (AObj.cells (w.map aI ++ [aI (i : Int)]))
      rw [List.length_set] at h1
      rw [h1, List.map_append]
      rfl
     refine zg0 ?_
     simp -dsimp only [simprocAttr, ↓vpre, zp, hov, w1, cellsAll_v, cells_os', hTT]
     repeat (refine ⟨by omega, ?_⟩)
     refine za0 ?_
     refine zh0 ?_
     repeat (refine ⟨by omega, ?_⟩)
     refine zl0 ?_
     refine ⟨⟨⟨z + 1, w ++ [(i : Int)], O.length, O.set wid .gone ++ [AObj.cells (w.map aI ++ [aI (i : Int)])]⟩, hlz, hF.move (fun q => absurd rfl q) ?_, fun _ => hgt, hse2⟩, by simp; omega, ?_⟩
     ·have := aI_upto (O.length + 1) (w ++ [(i : Int)])
      simpa using this
     refine zq rfl ?_ ?_
     simp -dsimp only [simprocAttr, ↓vpre, zp, zc]
     ·exact ⟨by rw [outV_snoc]; exact Sub.refl _, Sub.int (by simp)⟩
     rfl
    have hdp : decide (e.block = k) = false := decide_eq_false hpe
    rw [hdp, if_neg (by simp)] at hse2
    refine zg1 ?_
    simp -dsimp only [simprocAttr, ↓vpre, zp, hdp]
    refine za0 ?_
    refine zu0 rfl ?_
    refine zb1 ?_
    refine zh0 ?_
    repeat (refine ⟨by omega, ?_⟩)
    refine zl0 ?_
    refine ⟨⟨⟨z + 1, w, wid, O⟩, hlz, hF, hwo, hse2⟩, by simp; omega, ?_⟩
    refine zq rfl ?_ ?_
    simp -dsimp only [simprocAttr, ↓vpre, zp, zc]
    ·exact Sub.int (by simp)
    rfl
   refine awp_exit ?_
   simp -dsimp only [vend, ne_eq, Nat.reduceEqDiff, reduceCtorEq]
   have hzl : b.term.to.length ≤ z := by
    have := of_decide_eq_false h
    omega
   rw [List.drop_of_length_le hzl] at hse2
   have hsw : P = w := by rw [hse2]; simp
   subst hsw
   refine zh0 ?_
   repeat (refine ⟨by omega, ?_⟩)
   refine zl0 ?_
   refine ⟨⟨⟨i + 1, P, wid, O⟩, hlt, hF, hwo, by simp only; rw [hse, hT2]⟩, by simp; omega, ?_⟩
   refine zq rfl ?_ ?_
   simp -dsimp only [simprocAttr, ↓vpre, zp, zc]
   ·exact Sub.int (by simp)
   rfl
  refine awp_exit ?_
  simp -dsimp only [vend, ne_eq, Nat.reduceEqDiff, reduceCtorEq]
  have hii : N ≤ i := by
   have := of_decide_eq_false h
   omega
  rw [List.drop_of_length_le (by omega)] at hse
  simp only [rpL, List.append_nil] at hse
  subst hse
  by_cases hwn : R = []
  ·have hov : outV wid R = .lst 1 [] .ex := if_pos hwn
   refine zg1 ?_
   simp -dsimp only [simprocAttr, ↓vpre, zp, hov]
   refine za0 ?_
   rw [hwn]
   refine awp_ret ?_
   simp -dsimp only [simprocAttr, ↓vpre, zp, zr, Try.results32]
   exact ⟨trivial, rfl⟩
  have w1 := hwo hwn
  have hov : outV wid R = .os wid R.length 1 := if_neg hwn
  refine zg1 ?_
  simp -dsimp only [simprocAttr, ↓vpre, zp, hov]
  refine za0 ?_
  refine awp_freeze1 4 wid (o := .cells (R.map aI)) (eIs R) w1 (by simp [AObj.isSpare]) trivial rfl (FSub.os (cs := R.map aI) w1 (fun x hx => by obtain ⟨v, _, rfl⟩ := List.mem_map.1 hx; rfl) (by simp) (by rw [List.drop_zero, List.take_of_length_le (by simp), aI_cellsAll])) ?_
  simp -dsimp only [simprocAttr, ↓vpre, zp]
  refine awp_ret ?_
  simp -dsimp only [simprocAttr, ↓vpre, zp, zr, Try.results32]
 exact FSub.mp rfl rfl
theorem loopsHeads_law (f : Func) (hfit : f.fit) : PCall Try.prog 12 [f.enc] (.v (.bool true)) := by
 have hwk := works_spec
 have hfi := find_spec f hfit
 unfold findR at hfi
 by_cases hc : checkFuncM f = 0
 ·rw [if_pos hc] at hfi
  have hg := (checkFunc_ok hfit hc).gr
  have hw := ord_w hg
  have ht := tree_w hg
  have hn : f.blocks.length ≤ 128 := hg.few
  have hll := loops_len f
  have hdm : ∀ x ∈ loopsM f, ∀ k ∈ x.blocks, PCall Try.prog 17 [f.enc, aI x.head, aI k] (.tup [.v (.bool true), aI 0]) := fun x hx k hk => by
   have hx := loops_w hx
   have h1 := dominates_spec f hfit hc hx.rng (hx.blk hg hk)
   have h2 := hx.rch hg hk
   unfold ovrB at h1
   rw [if_neg (by omega), (ancB_iff hw ht.tr (ht.asg' hw h2)).2 (hx.dom hg hk)] at h1
   exact h1
  have hbk : ∀ x ∈ loopsM f, (x.blocks.any fun k => hasM (rpM f x.head) k) = true ∧ hasM x.blocks x.head = true ∧ x.blocks.length ≤ 128 := fun x hx => by
   have hf := find_few hg hx
   have hx := loops_w hx
   obtain ⟨s, hs, hs0, e, he, h2⟩ := hx.back hg
   exact ⟨List.any_eq_true.2 ⟨s, hs, hasM_iff.2 ((mem_rpM (hx.blk hg hs).1).2 ⟨e, he, h2⟩)⟩, hasM_iff.2 (hx.hd hg), hf⟩
  have hpr := fun k => refPreds_spec f hg k
  obtain ⟨L, hL⟩ : ∃ L, L = loopsM f := ⟨_, rfl⟩
  rw [← hL] at hfi hll hdm hbk
  refine zf true 0 Try.func12 Try.ntmps12 ?_
  dsimp only [Tmp, TypeId, slotsOf]
  refine zh1 (za0 ?_)
  refine awp_freeze1 1 0 (.ip none [aI f.name, eBlocks f.blocks]) rfl (by simp [AObj.isSpare]) trivial rfl ?_ ?_
  rotate_left
  simp -dsimp only [simprocAttr, ↓vpre, zp]
  ·refine zh2 ?_
   refine zi hwk ?_
   refine za0 ?_
   apply zk0 rfl <;> intro h
   ·cases h
   refine zb0 ?_
   refine zh1 ?_
   refine zi hfi ?_
   refine za0 ?_
   refine zh2 (za0 ?_)
   refine awp_block (awp_loop (ι := {i : Nat // i ≤ L.length}) (fun i => ⟨74, [(1, .ip none [aI f.name, eBlocks f.blocks]), (3, .lst 3 (L.map eLoop) .sh), (4, aI 0), (19, .lst 3 (L.map eLoop) .sh), (20, aI L.length), (21, aI i.1)], [.gone]⟩) (fun i => L.length - i.1) ⟨0, by simp⟩ ?_ ?_)
   ·refine zq rfl ?_ ?_
    simp -dsimp only [simprocAttr, ↓vpre, zp, zc]
    all_goals rfl
   rintro ⟨i, hi⟩
   refine zh1 (za0 ?_)
   apply zk1 rfl <;> intro h
   ·refine zb0 ?_
    have hlt : i < L.length := by simpa using h
    obtain ⟨x, hx⟩ : ∃ x, L[i]? = some x := ⟨L[i]'(by omega), List.getElem?_eq_getElem _⟩
    have hxm := hdm x (List.mem_of_getElem? hx)
    obtain ⟨hx1, hx2, hx3⟩ := hbk x (List.mem_of_getElem? hx)
    have hpx := hpr x.head
    obtain ⟨rp, hrp⟩ : ∃ rp, rp = rpM f x.head := ⟨_, rfl⟩
    rw [← hrp] at hx1 hpx
    refine awp_seq (awp_block ?_)
    refine zg1 ?_
    simp -dsimp only [simprocAttr, ↓vpre, zp, hx, eLoop]
    refine za0 ?_
    refine awp_freeze1 6 1 (.ip none [aI x.head, eIs x.blocks, aI x.parent]) rfl (by simp [AObj.isSpare]) trivial rfl ?_ ?_
    rotate_left
    simp -dsimp only [simprocAttr, ↓vpre, zp]
    ·refine awp_trunc' 1 [(1, .ip none [aI f.name, eBlocks f.blocks]), (3, .lst 3 (L.map eLoop) .sh), (4, aI 0), (19, .lst 3 (L.map eLoop) .sh), (20, aI L.length), (21, aI i), (6, .ip none [aI x.head, eIs x.blocks, aI x.parent])] (by simp) (by omega) [.gone] ?_ ?_ ?_ ?_ ?_
     ·rfl
     ·simp [AObj.upto, aI_upto]
     ·simp [Says, St.get, putS, dropS, Go.Av.look, Sub.refl]
     ·simp [AObj.upto, uptoL, AVal.upto, aI_upto, Func.map_upto, Block.map_upto, Edge.map_upto, Ins.map_upto, eLoop_upto]
     refine zh1 (za0 ?_)
     refine zh2 (za0 ?_)
     refine awp_block (awp_loop (ι := {X : Nat × Bool // X.1 ≤ x.blocks.length ∧ (X.2 || (x.blocks.drop X.1).any fun k => hasM rp k) = true}) (fun X => ⟨74, [(1, .ip none [aI f.name, eBlocks f.blocks]), (3, .lst 3 (L.map eLoop) .sh), (4, aI 0), (19, .lst 3 (L.map eLoop) .sh), (20, aI L.length), (21, aI i), (6, .ip none [aI x.head, eIs x.blocks, aI x.parent]), (7, .v (.bool X.1.2)), (26, eIs x.blocks), (27, aI x.blocks.length), (28, aI X.1.1)], [.gone]⟩) (fun X => x.blocks.length - X.1.1) ⟨(0, false), by simp, by simpa using hx1⟩ ?_ ?_)
     ·refine zq rfl ?_ ?_
      simp -dsimp only [simprocAttr, ↓vpre, zp, zc]
      all_goals rfl
     rintro ⟨⟨z, B⟩, hz, hB⟩
     simp only at hz hB
     refine zh1 (za0 ?_)
     apply zk1 rfl <;> intro h
     ·refine zb0 ?_
      have hlz : z < x.blocks.length := by simpa using h
      obtain ⟨k, hk⟩ : ∃ k, x.blocks[z]? = some k := ⟨_, List.getElem?_eq_getElem hlz⟩
      have hdk := hxm k (List.mem_of_getElem? hk)
      have hih := hasInt_spec rp k
      rw [any_at hk] at hB
      refine awp_seq (awp_block ?_)
      refine zg1 ?_
      simp -dsimp only [simprocAttr, ↓vpre, zp, hk]
      refine za0 ?_
      refine zh2 ?_
      refine zi hdk ?_
      refine za0 ?_
      refine zh1 (za0 ?_)
      refine zu0 rfl ?_
      refine zb0 ?_
      cases B with
      | true =>
       refine zh0 (za0 ?_)
       refine zh0 ?_
       repeat (refine ⟨by omega, ?_⟩)
       refine zl0 ?_
       refine ⟨⟨(z + 1, true), hlz, by simp⟩, by simp; omega, ?_⟩
       refine zq rfl ?_ ?_
       simp -dsimp only [simprocAttr, ↓vpre, zp, zc]
       ·exact Sub.int (by simp)
       rfl
      | false =>
       refine zh0 ?_
       refine zi hpx ?_
       refine zi hih ?_
       refine za0 ?_
       refine zh0 ?_
       repeat (refine ⟨by omega, ?_⟩)
       refine zl0 ?_
       refine ⟨⟨(z + 1, hasM rp k), hlz, by simpa using hB⟩, by simp; omega, ?_⟩
       refine zq rfl ?_ ?_
       simp -dsimp only [simprocAttr, ↓vpre, zp, zc]
       ·exact Sub.int (by simp)
       rfl
     refine awp_exit ?_
     simp -dsimp only [vend, ne_eq, Nat.reduceEqDiff, reduceCtorEq]
     have hzl : x.blocks.length ≤ z := by
      have := of_decide_eq_false h
      omega
     rw [List.drop_of_length_le hzl] at hB
     have hBt : B = true := by simpa using hB
     subst hBt
     have hih := hasInt_spec x.blocks x.head
     rw [hx2] at hih
     refine zh1 ?_
     refine zi hih ?_
     refine za0 ?_
     refine zu0 rfl ?_
     refine zb1 ?_
     refine zh0 ?_
     repeat (refine ⟨by omega, ?_⟩)
     refine zl0 ?_
     refine ⟨⟨i + 1, hlt⟩, by simp; omega, ?_⟩
     refine zq rfl ?_ ?_
     simp -dsimp only [simprocAttr, ↓vpre, zp, zc]
     ·exact Sub.int (by simp)
     rfl
    exact FSub.mp rfl rfl
   refine awp_exit ?_
   simp -dsimp only [vend, ne_eq, Nat.reduceEqDiff, reduceCtorEq]
   refine zh1 (za0 ?_)
   refine awp_ret ?_
   simp -dsimp only [simprocAttr, ↓vpre, zp, zr, Try.results12]
  exact FSub.mp rfl rfl
 rw [if_neg hc] at hfi
 obtain ⟨e, he⟩ : ∃ e, e = checkFuncM f := ⟨_, rfl⟩
 rw [← he] at hc hfi
 have hde : decide (e = 0) = false := decide_eq_false hc
 refine zf true 0 Try.func12 Try.ntmps12 ?_
 dsimp only [Tmp, TypeId, slotsOf]
 refine zh1 (za0 ?_)
 refine awp_freeze1 1 0 (.ip none [aI f.name, eBlocks f.blocks]) rfl (by simp [AObj.isSpare]) trivial rfl ?_ ?_
 rotate_left
 simp -dsimp only [simprocAttr, ↓vpre, zp]
 ·refine zh2 ?_
  refine zi hwk ?_
  refine za0 ?_
  refine zu0 rfl ?_
  refine zb0 ?_
  refine zh1 ?_
  refine zi hfi ?_
  refine za0 ?_
  refine zh2 (za0 ?_)
  refine awp_block (awp_loop (ι := Unit) (fun x => ⟨74, [(3, .lst 3 [] .sh), (4, aI e), (20, aI 0), (21, aI 0)], [.gone]⟩) (fun x => 0) () ?_ ?_)
  ·refine zq rfl ?_ ?_
   simp -dsimp only [simprocAttr, ↓vpre, zp, zc]
   all_goals rfl
  rintro ⟨⟩
  refine zh1 (za0 ?_)
  refine zu1 rfl ?_
  refine awp_exit ?_
  simp -dsimp only [vend, ne_eq, Nat.reduceEqDiff, reduceCtorEq]
  refine zg1 ?_
  simp -dsimp only [simprocAttr, ↓vpre, zp, hde]
  refine za0 ?_
  refine awp_ret ?_
  simp -dsimp only [simprocAttr, ↓vpre, zp, zr, Try.results12]
 exact FSub.mp rfl rfl
end Go.Proofs.Ytlclgfgmhnmnaaa
