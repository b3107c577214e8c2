/-
  Texts bound together by a program of mine: YtlclgfgmhnmnaaaT113, YtlclgfgmhnmnaaaPui, YtlclgfgmhnmnaaaT114, YtlclgfgmhnmnaaaT115.
-/
import Derived.Test.YtlclgfgmhnmnaaaX1
set_option linter.all false
set_option maxRecDepth 100000
set_option maxHeartbeats 4000000

namespace Go.Proofs.Ytlclgfgmhnmnaaa
open Go.Av
theorem nest_nil : PCall Try.prog 63 [.lst 3 [] .sh] (.tup []) := by
 refine zf true 0 Try.func63 Try.ntmps63 ?_
 dsimp only [Tmp, TypeId, slotsOf]
 refine zh1 (za0 ?_)
 refine awp_block (awp_loop (ι := Unit) (fun x => ⟨58, [(7, aI 0), (8, aI 0)], []⟩) (fun x => 0) () ?_ ?_)
 ·refine zq rfl ?_ ?_
  simp -dsimp only [simprocAttr, ↓vpre, zp, zc]
  rfl
 rintro ⟨⟩
 refine zh1 (za0 ?_)
 refine zu1 rfl ?_
 refine awp_exit ?_
 simp -dsimp only [vend, ne_eq, Nat.reduceEqDiff, reduceCtorEq]
 skip
 simp -dsimp only [simprocAttr, ↓vpre, zp, zr, Try.results63]
 trivial
def findR (f : Func) : AVal := if checkFuncM f = 0 then .tup [.lst 3 ((loopsM f).map eLoop) .sh, aI 0] else .tup [.lst 3 [] .sh, aI (checkFuncM f)]
structure Fs where
 h : Nat
 acc : List LoopM
 oid : Nat
 O : List AObj
structure Fw where
 z : Nat
 w : List Int
 wid : Nat
 O : List AObj
structure Fz where
 S : Wl
 wid : Nat
 aid : Nat
 O : List AObj
 junk : List AVal
theorem outV_upto (wid : Nat) (w : List Int) {O : List AObj} (h : w ≠ [] → O[wid]? = some (.cells (w.map aI))) : (outV wid w).upto O.length := by
 by_cases q : w = []
 ·rw [show outV wid w = .lst 1 [] .ex from if_pos q]
  exact ⟨trivial, trivial⟩
 rw [show outV wid w = .os wid w.length 1 from if_neg q]
 exact lt_of_getElem? (h q)
theorem outV_snoc (n : Nat) (w : List Int) (x : Int) : outV n (w ++ [x]) = .os n (w.length + 1) 1 := by
 have : w ++ [x] ≠ [] := by simp
 rw [outV, if_neg this, List.length_append]
 rfl
theorem find_spec (f : Func) (hfit : f.fit) : PCall Try.prog 33 [f.enc] (findR f) := by
 have hbk := backs_spec f hfit
 unfold backR at hbk
 unfold findR
 by_cases hc : checkFuncM f = 0
 ·rw [if_pos hc] at hbk ⊢
  have hrr := reachable_spec f hfit
  have hpr := preds_spec f hfit
  unfold rchR at hrr
  unfold predsR at hpr
  rw [if_pos hc] at hrr hpr
  have hg := (checkFunc_ok hfit hc).gr
  have hw := ord_w hg
  have hn : f.blocks.length ≤ 128 := hg.few
  have hLl : (rchS f).length ≤ 128 := by rw [rchS_len]; exact hw.few
  have hLs := sortI_sorted (orderM f)
  have hL0 : rchS f ≠ [] := List.ne_nil_of_mem (mem_rchS.2 (by rw [hw.zero]; omega : 0 ≤ plF f 0))
  have hbs := fun k => bsearch_spec hL0 (by omega) hLs k
  have hBl := backs_few hg
  have hBr : ∀ p ∈ backsM f, 0 ≤ p.1 ∧ p.1 < f.blocks.length := fun p hp => hw.range p.1 (mem_backs.1 (show (p.1, p.2) ∈ backsM f from hp)).1
  obtain ⟨N, hN⟩ : ∃ N, N = f.blocks.length := ⟨_, rfl⟩
  obtain ⟨L, hL⟩ : ∃ L, L = rchS f := ⟨_, rfl⟩
  obtain ⟨B, hB⟩ : ∃ B, B = backsM f := ⟨_, rfl⟩
  obtain ⟨R, hR⟩ : ∃ R, R = rawM f := ⟨_, rfl⟩
  have hlo : loopsM f = nestM R := by rw [hR]; rfl
  rw [hlo]
  have hsr0 : ∀ h : Int, srcM f h = ((B.filter fun p => decide (p.2 = h)).map (·.1)) := fun h => by rw [hB]; rfl
  have hsplit := fun h z p (hp : B[z]? = some p) => srcM_split (f := f) (h := h) (z := z) (p := p) (by rw [← hB]; exact hp)
  rw [← hB] at hsplit hbk hBl hBr
  rw [← hL] at hrr hbs hL0 hLl
  unfold rawM at hR
  rw [← hN] at hR hn
  have hprl := preds_len f
  refine zf true 0 Try.func33 Try.ntmps33 ?_
  dsimp only [Tmp, TypeId, slotsOf]
  refine zh1 (za0 ?_)
  refine awp_freeze1 1 0 (.ip none [aI f.name, eBlocks f.blocks]) rfl (by simp [AObj.isSpare]) trivial rfl ?_ ?_
  rotate_left
  simp -dsimp only [simprocAttr, ↓vpre, zp]
  ·refine zh1 ?_
   refine zi hbk ?_
   refine za0 ?_
   refine zh2 (za0 ?_)
   apply zk0 rfl <;> intro h
   ·cases h
   refine zb0 ?_
   refine zh1 ?_
   refine zi hrr ?_
   refine za0 ?_
   refine zh1 ?_
   refine zi hpr ?_
   refine za0 ?_
   refine zh1 (za0 ?_)
   refine zg2 ?_
   simp -dsimp only [simprocAttr, ↓vpre, zp, ← hN]
   refine za0 ?_
   refine awp_block (awp_loop (ι := {X : Fs // X.h ≤ N ∧ FO X.acc X.oid X.O ∧ X.acc.length ≤ X.h ∧ (∀ x ∈ X.acc, x.parent = -1) ∧ R = X.acc ++ ((List.range N).drop X.h).flatMap (rawH f)}) (fun X => ⟨113, [(1, .ip none [aI f.name, eBlocks f.blocks]), (4, .lst 2 (B.map eBk) .sh), (6, eIs L), (8, .lst 1 ((predsM f).map eIs) .sh), (10, outL X.1.oid X.1.acc), (39, aI N), (40, aI X.1.h)], X.1.O⟩) (fun X => N - X.1.h) ⟨⟨0, [], 0, [.gone]⟩, by simp, ⟨by simp [AObj.upto], fun q => absurd rfl q⟩, by simp, by simp, by simpa using hR⟩ ?_ ?_)
   ·refine zq rfl ?_ ?_
    simp -dsimp only [simprocAttr, ↓vpre, zp, zc]
    all_goals first | rfl | exact Sub.refl _
   rintro ⟨⟨hd, acc, oid, O⟩, hh, hF, hal, hpar, hRe⟩
   simp only at hh hF hal hpar hRe
   refine zh1 (za0 ?_)
   apply zk1 rfl <;> intro h
   ·refine zb0 ?_
    have hlt : hd < N := by simpa using h
    have hrg : (List.range N)[hd]? = some hd := by simp [hlt]
    rw [drop_at hrg, List.flatMap_cons, ← List.append_assoc] at hRe
    have hsr := hsr0 (hd : Int)
    obtain ⟨src, hsrc⟩ : ∃ src, src = srcM f (hd : Int) := ⟨_, rfl⟩
    have hsf := src_few hg (hd : Int)
    rw [← hsrc] at hsr hsf
    have hcat := hsplit (hd : Int)
    refine awp_seq (awp_block ?_)
    refine zh1 (za0 ?_)
    refine zh1 (za0 ?_)
    refine zh2 (za0 ?_)
    refine awp_block (awp_loop (ι := {y : Fw // y.z ≤ B.length ∧ FO acc oid y.O ∧ (y.w ≠ [] → y.O[y.wid]? = some (.cells (y.w.map aI)) ∧ (acc ≠ [] → y.wid ≠ oid)) ∧ src = y.w ++ (((B.drop y.z).filter fun p => decide (p.2 = (hd : Int))).map (·.1))}) (fun y => ⟨113, [(1, .ip none [aI f.name, eBlocks f.blocks]), (4, .lst 2 (B.map eBk) .sh), (6, eIs L), (8, .lst 1 ((predsM f).map eIs) .sh), (10, outL oid acc), (39, aI N), (40, aI hd), (11, aI hd), (12, outV y.1.wid y.1.w), (43, .lst 2 (B.map eBk) .sh), (44, aI B.length), (45, aI y.1.z)], y.1.O⟩) (fun y => B.length - y.1.z) ⟨⟨0, [], 0, O⟩, by simp, hF, fun q => absurd rfl q, by simpa using hsr⟩ ?_ ?_)
    ·refine zq rfl ?_ ?_
     simp -dsimp only [simprocAttr, ↓vpre, zp, zc]
     all_goals first | rfl | exact Sub.refl _
    rintro ⟨⟨z, w, wid, O⟩, hz, hF, hwo, hse⟩
    simp only at hz hF hwo hse
    refine zh1 (za0 ?_)
    apply zk1 rfl <;> intro h
    ·refine zb0 ?_
     have hlz : z < B.length := by simpa using h
     obtain ⟨p, hp⟩ : ∃ p, B[z]? = some p := ⟨B[z], by simp [hlz]⟩
     rw [hcat z p hp, ← List.append_assoc] at hse
     have hwl : w.length ≤ 33000 := by
      have := congrArg List.length hse
      simp only [List.length_append] at this
      omega
     refine awp_seq (awp_block ?_)
     refine zg1 ?_
     simp -dsimp only [simprocAttr, ↓vpre, zp, hp, eBk]
     refine za0 ?_
     refine awp_local 14 ([aI p.1, aI p.2]) [(1, .ip none [aI f.name, eBlocks f.blocks]), (4, .lst 2 (B.map eBk) .sh), (6, eIs L), (8, .lst 1 ((predsM f).map eIs) .sh), (10, outL oid acc), (39, aI N), (40, aI hd), (11, aI hd), (12, outV wid w), (43, .lst 2 (B.map eBk) .sh), (44, aI B.length), (45, aI z), (14, .ip none [aI p.1, aI p.2])] (by simp [putS, dropS, Go.Av.look]) (by rfl) (by omega) (by simp [putS, dropS, Go.Av.look]) ?_ ?_ ?_
     ·exact hF.up
     ·have hou := hF.outU
      have hvu := outV_upto wid w (O := O) fun q => (hwo q).1
      simp [AVal.upto, uptoL, aI_upto, eBk_upto, eIss_upto, Edge.map_upto, Ins.map_upto, Block.map_upto, hou, hvu]
     by_cases hpe : p.2 = hd
     ·have hdp : decide (p.2 = (hd : Int)) = true := decide_eq_true hpe
      rw [if_pos hpe] at hse
      refine zg1 ?_
      simp -dsimp only [simprocAttr, ↓vpre, zp, hdp]
      refine za0 ?_
      refine zw0 rfl ?_
      by_cases hwn : w = []
      ·have hov : outV wid w = .lst 1 [] .ex := if_pos hwn
       refine zs0 ?_
       simp -dsimp only [simprocAttr, ↓vpre, zp, hov, cellsAll_v, cells_os']
       refine za0 ?_
       refine zh0 ?_
       repeat (refine ⟨by omega, ?_⟩)
       refine zl0 ?_
       refine ⟨⟨⟨z + 1, w ++ [p.1], O.length, O ++ [AObj.cells [aI p.1]]⟩, hlz, hF.push ⟨trivial, trivial⟩, fun _ => ⟨by rw [hwn]; exact snoc_get _ _, fun q e => ?_⟩, hse⟩, by simp; omega, ?_⟩
       ·have h1 := lt_of_getElem? (hF.out q)
        have h2 : O.length = oid := e
        omega
       refine zq rfl ?_ ?_
       simp -dsimp only [simprocAttr, ↓vpre, zp, zc]
       ·exact ⟨by rw [outV_snoc, hwn]; exact Sub.refl _, Sub.int (by simp)⟩
       rfl
      obtain ⟨w1, w2⟩ := hwo hwn
      have hov : outV wid w = .os wid w.length 1 := if_neg hwn
      have hTT : (w.map aI).take (w.length * 1) = w.map aI := List.take_of_length_le (by simp)
      have hgt : (O.set wid .gone ++ [AObj.cells (w.map aI ++ [aI p.1])])[O.length]? = some (.cells ((w ++ [p.1]).map aI)) := by
       have h1 := snoc_get (O.set wid .gone) (AObj.cells (w.map aI ++ [aI p.1]))
       rw [List.length_set] at h1
       rw [h1, List.map_append]
       rfl
      refine zg0 ?_
      simp -dsimp only [simprocAttr, ↓vpre, zp, hov, w1, cellsAll_v, cells_os', hTT]
      repeat (refine ⟨by omega, ?_⟩)
      refine za0 ?_
      refine zh0 ?_
      repeat (refine ⟨by omega, ?_⟩)
      refine zl0 ?_
      refine ⟨⟨⟨z + 1, w ++ [p.1], O.length, O.set wid .gone ++ [AObj.cells (w.map aI ++ [aI p.1])]⟩, hlz, hF.move w2 ?_, fun _ => ⟨hgt, fun q e => ?_⟩, hse⟩, by simp; omega, ?_⟩
      ·have := aI_upto (O.length + 1) (w ++ [p.1])
       simpa using this
      ·have h1 := lt_of_getElem? (hF.out q)
       have h2 : O.length = oid := e
       omega
      refine zq rfl ?_ ?_
      simp -dsimp only [simprocAttr, ↓vpre, zp, zc]
      ·exact ⟨by rw [outV_snoc]; exact Sub.refl _, Sub.int (by simp)⟩
      rfl
     have hdp : decide (p.2 = (hd : Int)) = false := decide_eq_false hpe
     rw [if_neg hpe, List.append_nil] at hse
     refine zg1 ?_
     simp -dsimp only [simprocAttr, ↓vpre, zp, hdp]
     refine za0 ?_
     refine zu0 rfl ?_
     refine zb1 ?_
     refine zh0 ?_
     repeat (refine ⟨by omega, ?_⟩)
     refine zl0 ?_
     refine ⟨⟨⟨z + 1, w, wid, O⟩, hlz, hF, hwo, hse⟩, by simp; omega, ?_⟩
     refine zq rfl ?_ ?_
     simp -dsimp only [simprocAttr, ↓vpre, zp, zc]
     ·exact Sub.int (by simp)
     rfl
    refine awp_exit ?_
    simp -dsimp only [vend, ne_eq, Nat.reduceEqDiff, reduceCtorEq]
    have hzl : B.length ≤ z := by
     have := of_decide_eq_false h
     omega
    rw [List.drop_of_length_le hzl] at hse
    have hsw : src = w := by rw [hse]; simp
    subst hsw
    by_cases hsn : src = []
    ·have hov : outV wid src = .lst 1 [] .ex := if_pos hsn
     have hraw : rawH f hd = [] := if_pos (by rw [← hsrc]; exact hsn)
     rw [hraw, List.append_nil] at hRe
     refine zg2 ?_
     simp -dsimp only [simprocAttr, ↓vpre, zp, hov]
     refine za0 ?_
     refine zw0 rfl ?_
     refine awp_exit ?_
     simp -dsimp only [vend, ne_eq, Nat.reduceEqDiff, reduceCtorEq]
     refine zh0 ?_
     repeat (refine ⟨by omega, ?_⟩)
     refine zl0 ?_
     refine ⟨⟨⟨hd + 1, acc, oid, O⟩, hlt, hF, by simp only; omega, hpar, hRe⟩, by simp; omega, ?_⟩
     refine zq rfl ?_ ?_
     simp -dsimp only [simprocAttr, ↓vpre, zp, zc]
     ·exact Sub.int (by simp)
     rfl
    obtain ⟨w1, w2⟩ := hwo hsn
    have hov : outV wid src = .os wid src.length 1 := if_neg hsn
    have hraw : rawH f hd = [⟨hd, sortI (natM f hd), -1⟩] := if_neg (by rw [← hsrc]; exact hsn)
    rw [hraw] at hRe
    have hsl : 0 < src.length := List.length_pos_iff.2 hsn
    have hdl : decide ((src.length : Int) = 0) = false := decide_eq_false (by omega)
    refine zg2 ?_
    simp -dsimp only [simprocAttr, ↓vpre, zp, hov, hdl]
    refine za0 ?_
    apply zk0 rfl <;> intro h
    ·cases h
    refine zb0 ?_
    refine awp_seq (awp_mid_op ⟨false, false⟩ hT 1 rfl rfl rfl (by simp) ?_)
    simp -dsimp only [simprocAttr, ↓vpre, zp]
    refine midOp_os hT rfl rfl (by simp) rfl rfl rfl (by simp) rfl (by intro p hp; simp at hp; subst hp; trivial) rfl rfl (by intro x hx; simp at hx; subst hx; rfl) (by simp) (by simp) ?_
    simp -dsimp only [simprocAttr, ↓vpre, zp]
    refine za0 ?_
    have hhr : 0 ≤ (hd : Int) ∧ (hd : Int) < f.blocks.length := ⟨by omega, by omega⟩
    obtain ⟨s1, s2⟩ := nat_start hg hhr
    rw [← hsrc] at s1 s2
    have hF0 : FO acc oid (O ++ [AObj.cells (cellsAll [aI (hd : Int)])]) := hF.push ⟨trivial, trivial⟩
    have hwk : ∀ (S : Wl), WlOK f (hd : Int) src S → ∀ k ∈ S.work, 0 ≤ plF f k → predsAt f k ≠ [] := fun S hS k h1 h2 => wl_preds hg (h := (hd : Int)) (by rw [← hsrc]; exact hsn) (by rw [← hsrc]; exact hS) h1 h2
    have hnat : natM f (hd : Int) = (wlRun f 10000000 ⟨src, [(hd : Int)]⟩).all := by rw [hsrc]; rfl
    have g1 : (O ++ [AObj.cells (cellsAll [aI (hd : Int)])])[wid]? = some (.cells (src.map aI ++ [])) := by
     rw [List.append_nil]
     exact at_left w1
    have g2 : (O ++ [AObj.cells (cellsAll [aI (hd : Int)])])[O.length]? = some (.cells ([(hd : Int)].map aI)) := snoc_get _ _
    have hwO := lt_of_getElem? w1
    refine awp_seq (awp_block (awp_loop (ι := {y : Fz // WlOK f hd src y.S ∧ FO acc oid y.O ∧ y.O[y.wid]? = some (.cells (y.S.work.map aI ++ y.junk)) ∧ y.O[y.aid]? = some (.cells (y.S.all.map aI)) ∧ (acc ≠ [] → y.wid ≠ oid ∧ y.aid ≠ oid) ∧ y.wid ≠ y.aid ∧ ∃ n, y.S.weight f < n ∧ n ≤ 10000000 ∧ natM f hd = (wlRun f n y.S).all}) (fun y => ⟨113, [(1, .ip none [aI f.name, eBlocks f.blocks]), (4, .lst 2 (B.map eBk) .sh), (6, eIs L), (8, .lst 1 ((predsM f).map eIs) .sh), (10, outL oid acc), (39, aI N), (40, aI hd), (11, aI hd), (12, .os y.1.wid y.1.S.work.length 1), (15, .os y.1.aid y.1.S.all.length 1)], y.1.O⟩) (fun y => y.1.S.weight f) ⟨⟨⟨src, [(hd : Int)]⟩, wid, O.length, _, []⟩, s1, hF0, g1, g2, fun q => ⟨w2 q, by have := lt_of_getElem? (hF.out q); simp only; omega⟩, by simp only; omega, 10000000, s2, Nat.le_refl _, hnat⟩ ?_ ?_))
    ·refine zq rfl ?_ ?_
     simp -dsimp only [simprocAttr, ↓vpre, zp, zc]
     all_goals rfl
    rintro ⟨⟨S, wid, aid, O, junk⟩, hS, hF, k1, k2, k3, k4, n, hn1, hn2, hne⟩
    simp only at hS hF k1 k2 k3 k4 hn1 hn2 hne
    by_cases hwe : S.work = []
    ·have hl0 : S.work.length = 0 := by rw [hwe]; rfl
     rw [wlRun_done hwe] at hne
     refine zg2 ?_
     simp -dsimp only [simprocAttr, ↓vpre, zp, hl0]
     refine za0 ?_
     refine zu0 rfl ?_
     refine awp_exit ?_
     simp -dsimp only [vend, ne_eq, Nat.reduceEqDiff, reduceCtorEq]
     have hfit2 := hS.few
     have hso := sort_spec (O := O) (id := aid) (zs := S.all) k2 (by omega)
     have h3 : (O.set aid (.cells ((sortI S.all).map aI)))[aid]? = some (.cells ((sortI S.all).map aI)) := at_set k2
     have hsl := (sortI_perm S.all).length_eq
     rw [hne] at hRe
     refine zh1 ?_
     refine .inr (.inl ⟨_, _, hso, .inl (later_intro (zj ?_))⟩)
     refine za0 ?_
     refine awp_freeze1 15 aid (o := .cells ((sortI S.all).map aI)) (eIs (sortI S.all)) h3 (by simp [AObj.isSpare]) trivial rfl (FSub.os (cs := (sortI S.all).map aI) h3 ?_ ?_ ?_) ?_
     ·intro x hx
      obtain ⟨c, _, rfl⟩ := List.mem_map.1 hx
      rfl
     ·simp [hsl]
     ·rw [List.drop_zero, List.take_of_length_le (by simp [hsl])]
      exact aI_cellsAll _
     simp -dsimp only [simprocAttr, ↓vpre, zp, List.set_set]
     have hF3 : FO acc oid (O.set aid .gone) := hF.set (fun q => (k3 q).2) trivial
     have hlen3 : (O.set aid AObj.gone).length = O.length := by simp
     generalize O.set aid AObj.gone = O3 at *
     obtain ⟨ss, hss⟩ : ∃ ss, ss = sortI S.all := ⟨_, rfl⟩
     rw [← hss] at hRe ⊢
     by_cases haq : acc = []
     ·have hov : outL oid acc = .lst 3 [] .ex := if_pos haq
      refine zs0 ?_
      simp -dsimp only [simprocAttr, ↓vpre, zp, hov, cells_os']
      refine za0 ?_
      refine zh0 ?_
      repeat (refine ⟨by omega, ?_⟩)
      refine zl0 ?_
      refine ⟨⟨⟨hd + 1, acc ++ [⟨hd, ss, -1⟩], O3.length, O3 ++ [AObj.cells (LoopM.cells ⟨hd, ss, -1⟩)]⟩, hlt, ⟨?_, fun _ => ?_⟩, by simp; omega, fun x hx => ?_, by rw [hRe]⟩, by simp; omega, ?_⟩
      ·exact (hF3.push (cs := LoopM.cells ⟨hd, ss, -1⟩) ⟨trivial, ⟨aI_upto _ _, trivial⟩, trivial, trivial⟩).up
      ·rw [haq]
       exact snoc_get _ _
      ·rcases List.mem_append.1 hx with q | q
       ·exact hpar x q
       simp only [List.mem_singleton] at q
       rw [q]
      refine zq rfl ?_ ?_
      simp -dsimp only [simprocAttr, ↓vpre, zp, zc]
      ·exact ⟨by rw [outL_snoc, haq]; exact Sub.refl _, Sub.int (by simp)⟩
      rfl
     have hov : outL oid acc = .os oid acc.length 3 := if_neg haq
     have ho := hF3.out haq
     have hTL : (lpC acc).take (acc.length * 3) = lpC acc := List.take_of_length_le (by rw [lpC_len]; omega)
     refine zg0 ?_
     simp -dsimp only [simprocAttr, ↓vpre, zp, hov, ho, hTL, cells_os']
     refine ⟨by rw [lpC_len]; omega, by omega, by omega, ?_⟩
     refine za0 ?_
     refine zh0 ?_
     repeat (refine ⟨by omega, ?_⟩)
     refine zl0 ?_
     refine ⟨⟨⟨hd + 1, acc ++ [⟨hd, ss, -1⟩], O3.length, O3.set oid .gone ++ [AObj.cells (lpC acc ++ LoopM.cells ⟨hd, ss, -1⟩)]⟩, hlt, ⟨?_, fun _ => ?_⟩, by simp; omega, fun x hx => ?_, by rw [hRe]⟩, by simp; omega, ?_⟩
     ·have hup := uptoO_snoc (x := AObj.cells (lpC acc ++ LoopM.cells ⟨hd, ss, -1⟩)) (uptoO_set (k := oid) (x := .gone) (fun o ho => AObj.upto_mono (show O3.length ≤ O3.length + 1 by omega) (hF3.up o ho)) trivial) (by
       have h1 := lpC_upto (O3.length + 1) (acc ++ [⟨hd, ss, -1⟩])
       rw [lpC_snoc] at h1
       exact h1)
      intro o ho
      have := hup o ho
      simpa using this
     ·have h1 := snoc_get (O3.set oid .gone) (AObj.cells (lpC acc ++ LoopM.cells ⟨hd, ss, -1⟩))
      rw [List.length_set] at h1
      rw [lpC_snoc]
      exact h1
     ·rcases List.mem_append.1 hx with q | q
      ·exact hpar x q
      simp only [List.mem_singleton] at q
      rw [q]
     refine zq rfl ?_ ?_
     simp -dsimp only [simprocAttr, ↓vpre, zp, zc]
     ·exact ⟨by rw [outL_snoc]; exact Sub.refl _, Sub.int (by simp)⟩
     rfl
    obtain ⟨n, rfl⟩ : ∃ n', n = n' + 1 := ⟨n - 1, by omega⟩
    have hne2 : natM f hd = (wlRun f n (wlStep f S)).all := by
     rw [hne]
     simp only [wlRun]
     rw [if_neg (by simpa using hwe)]
    have hstep := wlStep_ok hg hS
    have hwt := wlStep_weight hg hS hwe
    obtain ⟨k, hk⟩ : ∃ k, S.work.getLast? = some k := ⟨S.work.getLast hwe, List.getLast?_eq_some_getLast hwe⟩
    have hkl := dropLast_last hk
    obtain ⟨r, hr⟩ : ∃ r, r = S.work.dropLast := ⟨_, rfl⟩
    rw [← hr] at hkl
    have hkw : k ∈ S.work := by rw [hkl]; simp
    have hkr := hS.wk k hkw
    have hll : S.work.length = r.length + 1 := by rw [hkl]; simp
    have hwb : S.work.length ≤ 10000000 := by
     simp only [Wl.weight] at hn1
     omega
    have hab := hS.few
    have hr2 : ((r.length + 1 : Nat) : Int) - 1 = (r.length : Nat) := by omega
    obtain ⟨cs, hcs⟩ : ∃ cs, cs = S.work.map aI ++ junk := ⟨_, rfl⟩
    have hcs2 : cs = r.map aI ++ (aI k :: junk) := by rw [hcs, hkl]; simp
    have hcb : cs[r.length]? = some (aI k) := by
     rw [hcs2, List.getElem?_append_right (by simp)]
     simp
    have hcl : r.length + 1 ≤ cs.length := by rw [hcs2]; simp
    rw [← hcs] at k1
    have hbsk := hbs k
    have hstp : wlStep f S = if k ∈ L ∧ k ∉ S.all then ⟨r ++ predsAt f k, S.all ++ [k]⟩ else ⟨r, S.all⟩ := by
     simp only [wlStep, hk, ← hL, ← hr]
    refine zg2 ?_
    simp -dsimp only [simprocAttr, ↓vpre, zp, hll]
    refine za0 ?_
    apply zk0 rfl <;> intro h
    ·refine zb0 ?_
     refine awp_block ?_
     refine zg1 ?_
     simp -dsimp only [simprocAttr, ↓vpre, zp, hr2, k1, hcb, Nat.mul_one]
     repeat (refine ⟨by omega, ?_⟩)
     refine za0 ?_
     refine zg1 ?_
     simp -dsimp only [simprocAttr, ↓vpre, zp, hr2, k1, Nat.mul_one]
     repeat (refine ⟨by omega, ?_⟩)
     refine za0 ?_
     refine zh1 ?_
     refine zi hbsk ?_
     refine za0 ?_
     by_cases hkL : k ∈ L
     ·have hdL : decide (k ∈ L) = true := decide_eq_true hkL
      have hco := PCall.os (contains_spec S.all k) k2
      cases hci : hasI S.all k with
      | true =>
       have hin : k ∈ S.all := hasI_iff.1 hci
       rw [if_neg (fun q => q.2 hin)] at hstp
       rw [hstp] at hstep hwt hne2
       rw [hci] at hco
       refine zg1 ?_
       simp -dsimp only [simprocAttr, ↓vpre, zp, hdL]
       refine .inr (.inr ⟨_, hco, later_intro (zj ?_)⟩)
       refine za0 ?_
       refine zu0 rfl ?_
       refine zn1 ?_
       have hc' : O[wid]? = some (.cells (r.map aI ++ (aI k :: junk))) := by rw [k1, hcs2]
       refine ⟨⟨⟨⟨r, S.all⟩, wid, aid, O, aI k :: junk⟩, hstep, hF, hc', k2, k3, k4, n, by simp only; omega, by omega, hne2⟩, by simp only; omega, ?_⟩
       refine zq rfl ?_ ?_
       simp -dsimp only [simprocAttr, ↓vpre, zp, zc]
       all_goals rfl
      | false =>
       have hin : k ∉ S.all := fun q => by rw [hasI_iff.2 q] at hci; cases hci
       rw [if_pos ⟨hkL, hin⟩] at hstp
       rw [hstp] at hstep hwt hne2
       rw [hci] at hco
       refine zg1 ?_
       simp -dsimp only [simprocAttr, ↓vpre, zp, hdL]
       refine .inr (.inr ⟨_, hco, later_intro (zj ?_)⟩)
       refine za0 ?_
       refine zw0 rfl ?_
       have hAT : (S.all.map aI).take (S.all.length * 1) = S.all.map aI := List.take_of_length_le (by simp)
       obtain ⟨ps, hps⟩ : ∃ ps, (predsM f)[k.toNat]? = some ps := ⟨(predsM f)[k.toNat]'(by omega), List.getElem?_eq_getElem _⟩
       have hpa : predsAt f k = ps := by simp [predsAt, hps]
       have hpne := hwk S hS k hkw (mem_rchS.1 (by rw [← hL]; exact hkL))
       have hpfew := preds_few hg k
       rw [hpa] at hpne hpfew hstep hwt hne2
       have hpl : ps.length ≠ 0 := fun q => hpne (List.eq_nil_of_length_eq_zero q)
       have hct : cs.take (r.length * 1) = r.map aI := by
        rw [hcs2, Nat.mul_one, List.take_left' (by simp)]
       have hct2 : cs.take r.length = r.map aI := by
        rw [hcs2, List.take_left' (by simp)]
       refine zg1 ?_
       simp -dsimp only [simprocAttr, ↓vpre, zp, k2, cellsAll_v, cells_os', hAT]
       repeat (refine ⟨by omega, ?_⟩)
       refine za0 ?_
       have hF1 : FO acc oid (O.set aid .gone ++ [AObj.cells (S.all.map aI ++ [aI k])]) := hF.move (fun q => (k3 q).2) (by
        have := aI_upto (O.length + 1) (S.all ++ [k])
        simpa using this)
       have kw1 : (O.set aid .gone ++ [AObj.cells (S.all.map aI ++ [aI k])])[wid]? = some (.cells cs) := at_left (at_set_ne k1 (Ne.symm k4))
       have ka1 : (O.set aid .gone ++ [AObj.cells (S.all.map aI ++ [aI k])])[O.length]? = some (.cells ((S.all ++ [k]).map aI)) := by
        have h1 := snoc_get (O.set aid .gone) (AObj.cells (S.all.map aI ++ [aI k]))
        rw [List.length_set] at h1
        rw [h1, List.map_append]
        rfl
       have hO1l : (O.set aid .gone ++ [AObj.cells (S.all.map aI ++ [aI k])]).length = O.length + 1 := by simp
       have hwO := lt_of_getElem? k1
       generalize (O.set aid .gone ++ [AObj.cells (S.all.map aI ++ [aI k])]) = O1 at *
       refine zg0 ?_
       simp -dsimp only [simprocAttr, ↓vpre, zp, hps, kw1, hct, hct2, cellsAll_ints]
       repeat (refine ⟨by omega, ?_⟩)
       refine zl1 ?_
       have g1 : (O1.set wid .gone ++ [AObj.cells (r.map aI ++ ps.map aI)])[O1.length]? = some (.cells ((r ++ ps).map aI ++ [])) := by
        have h1 := snoc_get (O1.set wid .gone) (AObj.cells (r.map aI ++ ps.map aI))
        rw [List.length_set] at h1
        rw [h1, List.map_append, List.append_nil]
       have hup : uptoL (O1.length + 1) (r.map aI ++ ps.map aI) := by
        have := aI_upto (O1.length + 1) (r ++ ps)
        simpa using this
       refine ⟨⟨⟨⟨r ++ ps, S.all ++ [k]⟩, O1.length, O.length, O1.set wid .gone ++ [AObj.cells (r.map aI ++ ps.map aI)], []⟩, hstep, hF1.move (fun q => (k3 q).1) hup, g1, at_left (at_set_ne ka1 (show wid ≠ O.length by omega)), fun q => ?_, by simp only; omega, n, by simp only; omega, by omega, hne2⟩, by simp only; omega, ?_⟩
       ·have h1 := lt_of_getElem? (hF.out q)
        simp only
        omega
       refine zq rfl ?_ ?_
       simp -dsimp only [simprocAttr, ↓vpre, zp, zc]
       all_goals rfl
     have hdL : decide (k ∈ L) = false := decide_eq_false hkL
     rw [if_neg (fun q => hkL q.1)] at hstp
     rw [hstp] at hstep hwt hne2
     refine zg1 ?_
     simp -dsimp only [simprocAttr, ↓vpre, zp, hdL]
     refine za0 ?_
     refine zu0 rfl ?_
     refine zn1 ?_
     have hc' : O[wid]? = some (.cells (r.map aI ++ (aI k :: junk))) := by rw [k1, hcs2]
     refine ⟨⟨⟨⟨r, S.all⟩, wid, aid, O, aI k :: junk⟩, hstep, hF, hc', k2, k3, k4, n, by simp only; omega, by omega, hne2⟩, by simp only; omega, ?_⟩
     refine zq rfl ?_ ?_
     simp -dsimp only [simprocAttr, ↓vpre, zp, zc]
     all_goals rfl
    exact af h (by omega)
   refine awp_exit ?_
   simp -dsimp only [vend, ne_eq, Nat.reduceEqDiff, reduceCtorEq]
   have hhN : hd = N := by
    have := of_decide_eq_false h
    omega
   subst hhN
   rw [List.drop_of_length_le (by simp)] at hRe
   have hRa : R = acc := by rw [hRe]; simp
   subst hRa
   by_cases hRn : R = []
   ·have hov : outL oid R = .lst 3 [] .ex := if_pos hRn
    refine zg1 ?_
    simp -dsimp only [simprocAttr, ↓vpre, zp, hov]
    refine zi nest_nil ?_
    refine za0 ?_
    refine zg1 ?_
    simp -dsimp only [simprocAttr, ↓vpre, zp, hov]
    refine za0 ?_
    rw [hRn]
    refine awp_ret ?_
    simp -dsimp only [simprocAttr, ↓vpre, zp, zr, Try.results33]
    exact ⟨⟨⟨trivial, trivial⟩, trivial, trivial⟩, rfl⟩
   have hov : outL oid R = .os oid R.length 3 := if_neg hRn
   have ho := hF.out hRn
   have hns := nest_spec hF.up ho (by omega) hpar
   have hnl := (nestM_ok hpar).len
   have h3 : (O.set oid (.cells (lpC (nestM R))))[oid]? = some (.cells (lpC (nestM R))) := at_set ho
   generalize O.set oid (.cells (lpC (nestM R))) = O2 at *
   obtain ⟨m, hm2⟩ : ∃ m, m = nestM R := ⟨_, rfl⟩
   rw [← hm2] at hnl h3 ⊢
   rw [← hnl] at hov hns
   refine zg1 ?_
   simp -dsimp only [simprocAttr, ↓vpre, zp, hov]
   refine .inr (.inl ⟨_, _, hns, .inl (later_intro (zj ?_))⟩)
   refine za0 ?_
   refine zg1 ?_
   simp -dsimp only [simprocAttr, ↓vpre, zp, hov]
   refine za0 ?_
   refine awp_freeze1 2 oid (o := .cells (lpC m)) (.lst 3 (m.map eLoop) .sh) h3 (by simp [AObj.isSpare]) trivial rfl (FSub.os (cs := lpC m) h3 ?_ ?_ ?_) ?_
   ·intro x hx
    obtain ⟨y, _, rfl⟩ := List.mem_map.1 hx
    rfl
   ·simp
   ·rw [List.drop_zero, List.take_of_length_le (by rw [lpC_len]; omega)]
    exact lpC_share m
   simp -dsimp only [simprocAttr, ↓vpre, zp]
   refine awp_ret ?_
   simp -dsimp only [simprocAttr, ↓vpre, zp, zr, Try.results33]
   exact ⟨⟨eLoop_upto _ _, trivial⟩, trivial, trivial⟩
  exact FSub.mp rfl rfl
 rw [if_neg hc] at hbk ⊢
 obtain ⟨e, he⟩ : ∃ e, e = checkFuncM f := ⟨_, rfl⟩
 rw [← he] at hc hbk ⊢
 have hde : decide (e = 0) = false := decide_eq_false hc
 refine zf true 0 Try.func33 Try.ntmps33 ?_
 dsimp only [Tmp, TypeId, slotsOf]
 refine zh1 (za0 ?_)
 refine awp_freeze1 1 0 (.ip none [aI f.name, eBlocks f.blocks]) rfl (by simp [AObj.isSpare]) trivial rfl ?_ ?_
 rotate_left
 simp -dsimp only [simprocAttr, ↓vpre, zp]
 ·refine zh1 ?_
  refine zi hbk ?_
  refine za0 ?_
  refine zg2 ?_
  simp -dsimp only [simprocAttr, ↓vpre, zp, hde]
  refine za0 ?_
  refine zw0 rfl ?_
  refine zh1 (za0 ?_)
  refine awp_ret ?_
  simp -dsimp only [simprocAttr, ↓vpre, zp, zr, Try.results33]
  simp [uptoL, AVal.upto]
 exact FSub.mp rfl rfl
end Go.Proofs.Ytlclgfgmhnmnaaa
namespace Go.Proofs.Ytlclgfgmhnmnaaa
open Go.Av
structure LpW (f : Func) (x : LoopM) : Prop where
  src : srcM f x.head ≠ []
  rng : 0 ≤ x.head ∧ x.head < f.blocks.length
  bl : x.blocks = sortI (natM f x.head)
theorem raw_w {f : Func} {x : LoopM} (h : x ∈ rawM f) : LpW f x ∧ x.parent = -1 := by
  unfold rawM at h
  obtain ⟨k, hk, hx⟩ := List.mem_flatMap.1 h
  rw [List.mem_range] at hk
  unfold rawH at hx
  split at hx
  · cases hx
  rename_i q
  rw [List.mem_singleton] at hx
  subst hx
  exact ⟨⟨q, ⟨by simp, by simpa using hk⟩, rfl⟩, rfl⟩
theorem raw_inc (f : Func) : (rawM f).Pairwise (fun x y => x.head < y.head) := by
  unfold rawM
  rw [List.pairwise_flatMap]
  have hh : ∀ (k : Nat), ∀ x ∈ rawH f k, x.head = k := fun k x hx => by
    unfold rawH at hx
    split at hx
    · cases hx
    rw [List.mem_singleton] at hx
    rw [hx]
  refine ⟨fun k _ => ?_, List.Pairwise.imp (fun hab x hx y hy => ?_) List.pairwise_lt_range⟩
  · unfold rawH
    split
    · exact List.Pairwise.nil
    exact List.pairwise_singleton _ _
  rw [hh _ x hx, hh _ y hy]
  omega
theorem loops_nest (f : Func) : NestOK (rawM f) (loopsM f) := nestM_ok fun _ hx => (raw_w hx).2
theorem loops_w {f : Func} {x : LoopM} (h : x ∈ loopsM f) : LpW f x := by
  have h1 := (loops_nest f).1
  have h2 : (x.head, x.blocks) ∈ (loopsM f).map (fun x => (x.head, x.blocks)) := List.mem_map.2 ⟨x, h, rfl⟩
  rw [h1] at h2
  obtain ⟨y, hy, e⟩ := List.mem_map.1 h2
  simp only [Prod.mk.injEq] at e
  have hw := (raw_w hy).1
  obtain ⟨e1, e2⟩ := e
  exact ⟨by rw [← e1]; exact hw.src, by rw [← e1]; exact hw.rng, by rw [← e1, ← e2]; exact hw.bl⟩
theorem loops_inc (f : Func) : (loopsM f).Pairwise (fun x y => x.head < y.head) := by
  have h1 := (loops_nest f).1
  have h2 : ((rawM f).map (fun x => (x.head, x.blocks))).Pairwise (fun a b => a.1 < b.1) := by
    rw [List.pairwise_map]
    exact raw_inc f
  rw [← h1, List.pairwise_map] at h2
  exact h2
theorem loops_len (f : Func) : (loopsM f).length ≤ f.blocks.length := by
  have h := nodup_ints (l := (loopsM f).map (·.head)) (n := f.blocks.length) (by
    unfold List.Nodup
    rw [List.pairwise_map]
    exact List.Pairwise.imp (fun q => by omega) (loops_inc f)) (fun k hk => by
    obtain ⟨x, hx, rfl⟩ := List.mem_map.1 hk
    exact (loops_w hx).rng)
  simpa using h
section
variable {f : Func} {x : LoopM}
theorem LpW.mem (h : LpW f x) {k : Int} : k ∈ x.blocks ↔ k ∈ natM f x.head := by
  rw [h.bl]
  exact (sortI_perm _).mem_iff
theorem LpW.nd (h : LpW f x) (hg : GrW f) : x.blocks.Nodup := by
  rw [h.bl]
  exact (sortI_perm _).nodup_iff.2 (nat_w hg h.rng).nd
theorem LpW.blk (h : LpW f x) (hg : GrW f) {k : Int} (hk : k ∈ x.blocks) : 0 ≤ k ∧ k < f.blocks.length := (nat_w hg h.rng).rng k (h.mem.1 hk)
theorem LpW.few (h : LpW f x) (hg : GrW f) : x.blocks.length ≤ f.blocks.length := nodup_ints (h.nd hg) fun _ hk => h.blk hg hk
theorem LpW.hd (h : LpW f x) (hg : GrW f) : x.head ∈ x.blocks := h.mem.2 (List.mem_of_getElem? (nat_w hg h.rng).head)
theorem LpW.hr (h : LpW f x) (hg : GrW f) : 0 ≤ plF f x.head := by
  obtain ⟨s, hs⟩ := List.exists_mem_of_ne_nil _ h.src
  exact nat_rch hg hs
theorem LpW.rch (h : LpW f x) (hg : GrW f) {k : Int} (hk : k ∈ x.blocks) : 0 ≤ plF f k := by
  rcases (nat_w hg h.rng).rch k (h.mem.1 hk) with q | q
  · rw [q]
    exact h.hr hg
  exact q
theorem LpW.dom (h : LpW f x) (hg : GrW f) {k : Int} (hk : k ∈ x.blocks) : Anc (treeM f) x.head k := nat_dom hg h.rng (h.mem.1 hk)
theorem LpW.back (h : LpW f x) (hg : GrW f) : ∃ s ∈ x.blocks, 0 ≤ plF f s ∧ ∃ e ∈ toOf f s, e.block = x.head := by
  obtain ⟨s, hs⟩ := List.exists_mem_of_ne_nil _ h.src
  have hm := mem_src.1 hs
  exact ⟨s, h.mem.2 ((nat_w hg h.rng).src s hs), hm.1, hm.2.1⟩
end
def bothN (l m : List Int) : Nat := l.countP (hasM m)
def depB (O : List Int) (l : List Int) : List Int := l.foldl (fun O k => O.set k.toNat (O[k.toNat]?.getD 0 + 1)) O
def depM (n : Nat) (l : List LoopM) : List Int := l.foldl (fun O x => depB O x.blocks) (List.replicate n 0)
structure DepOK (n c : Nat) (O : List Int) : Prop where
  len : O.length = n
  bd : ∀ e ∈ O, 0 ≤ e ∧ e ≤ c
  sum : O.sum = c
theorem sum_put : ∀ (l : List Int) (i : Nat) (v w : Int), l[i]? = some v → (l.set i w).sum = l.sum - v + w
  | [], i, v, w, h => by simp at h
  | a :: l, 0, v, w, h => by
    simp only [List.getElem?_cons_zero, Option.some.injEq] at h
    subst h
    simp only [List.set_cons_zero, List.sum_cons]
    omega
  | a :: l, i + 1, v, w, h => by
    simp only [List.getElem?_cons_succ] at h
    have := sum_put l i v w h
    simp only [List.set_cons_succ, List.sum_cons]
    omega
theorem DepOK.step {n c : Nat} {O : List Int} (h : DepOK n c O) {j : Nat} {v : Int} (hv : O[j]? = some v) : DepOK n (c + 1) (O.set j (v + 1)) where
  len := by rw [List.length_set, h.len]
  bd := fun e he => by
    rcases List.mem_or_eq_of_mem_set he with q | q
    · have := h.bd e q
      omega
    have := h.bd v (List.mem_of_getElem? hv)
    omega
  sum := by
    rw [sum_put O j v (v + 1) hv, h.sum]
    omega
theorem dep_start (n : Nat) : DepOK n 0 (List.replicate n 0) where
  len := List.length_replicate
  bd := fun e he => by rw [(List.mem_replicate.1 he).2]; omega
  sum := by
    induction n with
    | zero => rfl
    | succ n ih => rw [List.replicate_succ, List.sum_cons, ih]; rfl
theorem depB_ok {n : Nat} : ∀ (l : List Int) (c : Nat) {O : List Int}, DepOK n c O → (∀ k ∈ l, 0 ≤ k ∧ k < n) → DepOK n (c + l.length) (depB O l)
  | [], c, O, h, _ => h
  | k :: l, c, O, h, hl => by
    have hk := hl k List.mem_cons_self
    have hj : k.toNat < O.length := by rw [h.len]; omega
    have h1 := h.step (List.getElem?_eq_getElem hj)
    have h2 := depB_ok l (c + 1) h1 fun z hz => hl z (List.mem_cons_of_mem _ hz)
    rw [List.length_cons, show c + (l.length + 1) = c + 1 + l.length by omega]
    have e : depB O (k :: l) = depB (O.set k.toNat (O[k.toNat] + 1)) l := by
      unfold depB
      rw [List.foldl_cons, List.getElem?_eq_getElem hj]
      rfl
    rw [e]
    exact h2
def sizeM (l : List LoopM) : Nat := (l.map fun x => x.blocks.length).sum
theorem sizeM_cons (x : LoopM) (l : List LoopM) : sizeM (x :: l) = x.blocks.length + sizeM l := by simp [sizeM]
theorem sizeM_le {m : Nat} : ∀ (l : List LoopM), (∀ x ∈ l, x.blocks.length ≤ m) → sizeM l ≤ l.length * m
  | [], _ => by simp [sizeM]
  | x :: l, h => by
    have h1 := sizeM_le l fun y hy => h y (List.mem_cons_of_mem _ hy)
    have h2 := h x List.mem_cons_self
    rw [sizeM_cons, List.length_cons, Nat.succ_mul]
    omega
theorem depL_ok {n : Nat} : ∀ (l : List LoopM) (c : Nat) {O : List Int}, DepOK n c O → (∀ x ∈ l, ∀ k ∈ x.blocks, 0 ≤ k ∧ k < n) → DepOK n (c + sizeM l) (l.foldl (fun O x => depB O x.blocks) O)
  | [], c, O, h, _ => h
  | x :: l, c, O, h, hl => by
    have h1 := depB_ok x.blocks c h (hl x List.mem_cons_self)
    have h2 := depL_ok l _ h1 fun y hy => hl y (List.mem_cons_of_mem _ hy)
    rw [sizeM_cons, ← Nat.add_assoc]
    exact h2
theorem depM_ok {n : Nat} {l : List LoopM} (hl : ∀ x ∈ l, ∀ k ∈ x.blocks, 0 ≤ k ∧ k < n) : DepOK n (sizeM l) (depM n l) := by
  have := depL_ok l 0 (dep_start n) hl
  rw [Nat.zero_add] at this
  exact this
theorem size_few {f : Func} (hg : GrW f) : sizeM (loopsM f) ≤ 16384 := by
  have h1 := sizeM_le (m := 128) (loopsM f) fun x hx => Nat.le_trans ((loops_w hx).few hg) hg.few
  have h2 := loops_len f
  have h3 := hg.few
  have : (loopsM f).length * 128 ≤ 128 * 128 := Nat.mul_le_mul_right _ (by omega)
  omega
theorem find_few {f : Func} (hg : GrW f) {x : LoopM} (hx : x ∈ loopsM f) : x.blocks.length ≤ 128 := Nat.le_trans ((loops_w hx).few hg) hg.few
end Go.Proofs.Ytlclgfgmhnmnaaa
namespace Go.Proofs.Ytlclgfgmhnmnaaa
open Go.Av
def depthsR (f : Func) : AVal := if checkFuncM f = 0 then .tup [eIs (depM f.blocks.length (loopsM f)), aI 0] else .tup [.lst 1 [] .sh, aI (checkFuncM f)]
theorem depths_spec (f : Func) (hfit : f.fit) : PCall Try.prog 36 [f.enc] (depthsR f) := by
 have hfi := find_spec f hfit
 unfold findR at hfi
 unfold depthsR
 by_cases hc : checkFuncM f = 0
 ·rw [if_pos hc] at hfi ⊢
  have hg := (checkFunc_ok hfit hc).gr
  have hn : f.blocks.length ≤ 128 := hg.few
  have hll := loops_len f
  have hsz := size_few hg
  have hbl : ∀ x ∈ loopsM f, x.blocks.length ≤ 128 ∧ ∀ k ∈ x.blocks, 0 ≤ k ∧ k < f.blocks.length := fun x hx => ⟨find_few hg hx, fun k hk => (loops_w hx).blk hg hk⟩
  obtain ⟨N, hN⟩ : ∃ N, N = f.blocks.length := ⟨_, rfl⟩
  obtain ⟨L, hL⟩ : ∃ L, L = loopsM f := ⟨_, rfl⟩
  obtain ⟨R, hR⟩ : ∃ R, R = depM N L := ⟨_, rfl⟩
  rw [← hL] at hfi hll hsz hbl ⊢
  rw [← hN] at hn hll hbl ⊢
  rw [← hR]
  unfold depM at hR
  refine zf true 0 Try.func36 Try.ntmps36 ?_
  dsimp only [Tmp, TypeId, slotsOf]
  refine zh1 (za0 ?_)
  refine awp_freeze1 1 0 (.ip none [aI f.name, eBlocks f.blocks]) rfl (by simp [AObj.isSpare]) trivial rfl ?_ ?_
  rotate_left
  simp -dsimp only [simprocAttr, ↓vpre, zp]
  ·refine zh1 ?_
   refine zi hfi ?_
   refine za0 ?_
   refine zh2 (za0 ?_)
   apply zk0 rfl <;> intro h
   ·cases h
   refine zb0 ?_
   refine zg1 ?_
   simp -dsimp only [simprocAttr, ↓vpre, zp, zerosI_flat, ← hN]
   repeat (refine ⟨by omega, ?_⟩)
   refine za0 ?_
   refine zh2 (za0 ?_)
   refine awp_block (awp_loop (ι := {X : Nat × Nat × List Int // X.1 ≤ L.length ∧ DepOK N X.2.1 X.2.2 ∧ X.2.1 + sizeM (L.drop X.1) ≤ 16384 ∧ R = (L.drop X.1).foldl (fun O x => depB O x.blocks) X.2.2}) (fun X => ⟨45, [(1, .ip none [aI f.name, eBlocks f.blocks]), (6, .ms 1 0 N N), (23, .lst 3 (L.map eLoop) .sh), (24, aI L.length), (25, aI X.1.1)], [.gone, .cells (X.1.2.2.map aI)]⟩) (fun X => L.length - X.1.1) ⟨(0, 0, List.replicate N 0), by simp, dep_start N, by simpa using hsz, by simpa using hR⟩ ?_ ?_)
   ·refine zq rfl ?_ ?_
    simp -dsimp only [simprocAttr, ↓vpre, zp, zc]
    all_goals rfl
   rintro ⟨⟨i, c, O⟩, hi, hO, hcs, hke⟩
   simp only at hi hO hcs hke
   have hOl := hO.len
   refine zh1 (za0 ?_)
   apply zk1 rfl <;> intro h
   ·refine zb0 ?_
    have hlt : i < L.length := by simpa using h
    obtain ⟨x, hx⟩ : ∃ x, L[i]? = some x := ⟨L[i]'(by omega), List.getElem?_eq_getElem _⟩
    have hxm := hbl x (List.mem_of_getElem? hx)
    rw [drop_at hx, sizeM_cons] at hcs
    rw [drop_at hx, List.foldl_cons] at hke
    obtain ⟨D, hD⟩ : ∃ D, D = depB O x.blocks := ⟨_, rfl⟩
    rw [← hD] at hke
    unfold depB at hD
    refine awp_seq (awp_block ?_)
    refine zg1 ?_
    simp -dsimp only [simprocAttr, ↓vpre, zp, hx, eLoop]
    refine za0 ?_
    refine awp_freeze1 8 2 (.ip none [aI x.head, eIs x.blocks, aI x.parent]) rfl (by simp [AObj.isSpare]) trivial rfl ?_ ?_
    rotate_left
    simp -dsimp only [simprocAttr, ↓vpre, zp]
    ·refine awp_trunc' 2 [(1, .ip none [aI f.name, eBlocks f.blocks]), (6, .ms 1 0 N N), (23, .lst 3 (L.map eLoop) .sh), (24, aI L.length), (25, aI i), (8, .ip none [aI x.head, eIs x.blocks, aI x.parent])] (by simp) (by omega) [.gone, .cells (O.map aI)] ?_ ?_ ?_ ?_ ?_
     ·rfl
     ·simp [AObj.upto, aI_upto]
     ·simp [Says, St.get, putS, dropS, Go.Av.look, Sub.refl]
     ·simp [AObj.upto, uptoL, AVal.upto, aI_upto, Func.map_upto, Block.map_upto, Edge.map_upto, Ins.map_upto, eLoop_upto]
     refine zh1 (za0 ?_)
     refine awp_block (awp_loop (ι := {X : Nat × Nat × List Int // X.1 ≤ x.blocks.length ∧ DepOK N X.2.1 X.2.2 ∧ X.2.1 + (x.blocks.length - X.1) + sizeM (L.drop (i + 1)) ≤ 16384 ∧ D = (x.blocks.drop X.1).foldl (fun O k => O.set k.toNat (O[k.toNat]?.getD 0 + 1)) X.2.2}) (fun X => ⟨45, [(1, .ip none [aI f.name, eBlocks f.blocks]), (6, .ms 1 0 N N), (23, .lst 3 (L.map eLoop) .sh), (24, aI L.length), (25, aI i), (30, eIs x.blocks), (31, aI x.blocks.length), (32, aI X.1.1)], [.gone, .cells (X.1.2.2.map aI)]⟩) (fun X => x.blocks.length - X.1.1) ⟨(0, c, O), by simp, hO, by simp only; omega, by simpa using hD⟩ ?_ ?_)
     ·refine zq rfl ?_ ?_
      simp -dsimp only [simprocAttr, ↓vpre, zp, zc]
      rfl
     rintro ⟨⟨j, c, O⟩, hj, hO, hcs, hke2⟩
     simp only at hj hO hcs hke2
     have hOl := hO.len
     refine zh1 (za0 ?_)
     apply zk1 rfl <;> intro h
     ·refine zb0 ?_
      have hlj : j < x.blocks.length := by simpa using h
      obtain ⟨k, hk⟩ : ∃ k, x.blocks[j]? = some k := ⟨_, List.getElem?_eq_getElem hlj⟩
      have hkr := hxm.2 k (List.mem_of_getElem? hk)
      obtain ⟨m, hm3⟩ : ∃ m : Nat, k = (m : Int) := ⟨k.toNat, by omega⟩
      obtain ⟨v, hv⟩ : ∃ v, O[m]? = some v := ⟨O[m]'(by omega), List.getElem?_eq_getElem _⟩
      have hvb := hO.bd v (List.mem_of_getElem? hv)
      have hst := hO.step hv
      have hput := aI_put (l := O) (j := m) (by omega) (v + 1)
      rw [drop_at hk, List.foldl_cons] at hke2
      rw [hm3, Int.toNat_natCast, hv] at hke2
      simp only [Option.getD_some] at hke2
      have hvv : (O.map aI)[m]? = some (aI v) := by rw [List.getElem?_map, hv]; rfl
      refine awp_seq (awp_block ?_)
      refine zg1 ?_
      simp -dsimp only [simprocAttr, ↓vpre, zp, hk]
      refine za0 ?_
      refine zg0 ?_
      simp -dsimp only [simprocAttr, ↓vpre, zp, hm3, hvv, hput, hOl, Int.toNat_natCast, Nat.mul_one]
      repeat (refine ⟨by omega, ?_⟩)
      refine za0 ?_
      refine zh0 ?_
      repeat (refine ⟨by omega, ?_⟩)
      refine zl0 ?_
      refine ⟨⟨(j + 1, c + 1, O.set m (v + 1)), hlj, hst, by simp only; omega, hke2⟩, by simp; omega, ?_⟩
      refine zq rfl ?_ ?_
      simp -dsimp only [simprocAttr, ↓vpre, zp, zc]
      ·exact Sub.int (by simp)
      rfl
     refine awp_exit ?_
     simp -dsimp only [vend, ne_eq, Nat.reduceEqDiff, reduceCtorEq]
     have hjj : j = x.blocks.length := by simp at h; omega
     subst hjj
     rw [List.drop_length, List.foldl_nil] at hke2
     subst hke2
     refine zh0 ?_
     repeat (refine ⟨by omega, ?_⟩)
     refine zl0 ?_
     refine ⟨⟨(i + 1, c, D), hlt, hO, by simp only; omega, hke⟩, by simp; omega, ?_⟩
     refine zq rfl ?_ ?_
     simp -dsimp only [simprocAttr, ↓vpre, zp, zc]
     ·exact Sub.int (by simp)
     rfl
    exact FSub.mp rfl rfl
   refine awp_exit ?_
   simp -dsimp only [vend, ne_eq, Nat.reduceEqDiff, reduceCtorEq]
   have hii : i = L.length := by simp at h; omega
   subst hii
   rw [List.drop_length, List.foldl_nil] at hke
   subst hke
   refine zh1 (za0 ?_)
   refine awp_freeze1 2 1 (o := .cells (R.map aI)) (eIs R) rfl (by simp [AObj.isSpare]) trivial rfl (FSub.ms (cs := R.map aI) rfl (fun x hx => by obtain ⟨v, _, rfl⟩ := List.mem_map.1 hx; rfl) (by simpa using hOl) (by rw [List.drop_zero, List.take_of_length_le (by simp; omega), aI_cellsAll])) ?_
   simp -dsimp only [simprocAttr, ↓vpre, zp]
   refine awp_ret ?_
   simp -dsimp only [simprocAttr, ↓vpre, zp, zr, Try.results36]
   exact ⟨⟨aI_upto _ _, trivial⟩, trivial, trivial⟩
  exact FSub.mp rfl rfl
 rw [if_neg hc] at hfi ⊢
 obtain ⟨e, he⟩ : ∃ e, e = checkFuncM f := ⟨_, rfl⟩
 rw [← he] at hc hfi ⊢
 have hde : decide (e = 0) = false := decide_eq_false hc
 refine zf true 0 Try.func36 Try.ntmps36 ?_
 dsimp only [Tmp, TypeId, slotsOf]
 refine zh1 (za0 ?_)
 refine awp_freeze1 1 0 (.ip none [aI f.name, eBlocks f.blocks]) rfl (by simp [AObj.isSpare]) trivial rfl ?_ ?_
 rotate_left
 simp -dsimp only [simprocAttr, ↓vpre, zp]
 ·refine zh1 ?_
  refine zi hfi ?_
  refine za0 ?_
  refine zg2 ?_
  simp -dsimp only [simprocAttr, ↓vpre, zp, hde]
  refine za0 ?_
  refine zw0 rfl ?_
  refine zh1 (za0 ?_)
  refine awp_ret ?_
  simp -dsimp only [simprocAttr, ↓vpre, zp, zr, Try.results36]
  simp [uptoL, AVal.upto]
 exact FSub.mp rfl rfl
theorem loopsDepths_law (f : Func) (hfit : f.fit) : PCall Try.prog 11 [f.enc] (.v (.bool true)) := by
 have hwk := works_spec
 have hfi := find_spec f hfit
 have hdp := depths_spec f hfit
 unfold findR at hfi
 unfold depthsR at hdp
 by_cases hc : checkFuncM f = 0
 ·rw [if_pos hc] at hfi hdp
  have hg := (checkFunc_ok hfit hc).gr
  have hn : f.blocks.length ≤ 128 := hg.few
  have hll := loops_len f
  have hsz := size_few hg
  have hbl : ∀ x ∈ loopsM f, x.blocks.length ≤ 128 := fun x hx => find_few hg hx
  have hD := depM_ok (n := f.blocks.length) (l := loopsM f) fun x hx k hk => (loops_w hx).blk hg hk
  obtain ⟨N, hN⟩ : ∃ N, N = f.blocks.length := ⟨_, rfl⟩
  obtain ⟨L, hL⟩ : ∃ L, L = loopsM f := ⟨_, rfl⟩
  rw [← hL, ← hN] at hD hdp
  rw [← hL] at hfi hll hsz hbl
  rw [← hN] at hn hll
  generalize depM N L = D at *
  have hDl := hD.len
  have hDs := hD.sum
  have hDb := hD.bd
  obtain ⟨S, hS⟩ : ∃ S, S = sizeM L := ⟨_, rfl⟩
  rw [← hS] at hDs hDb hsz
  refine zf true 0 Try.func11 Try.ntmps11 ?_
  dsimp only [Tmp, TypeId, slotsOf]
  refine zh1 (za0 ?_)
  refine awp_freeze1 1 0 (.ip none [aI f.name, eBlocks f.blocks]) rfl (by simp [AObj.isSpare]) trivial rfl ?_ ?_
  rotate_left
  simp -dsimp only [simprocAttr, ↓vpre, zp]
  ·refine zh2 ?_
   refine zi hwk ?_
   refine za0 ?_
   apply zk0 rfl <;> intro h
   ·cases h
   refine zb0 ?_
   refine zh1 ?_
   refine zi hfi ?_
   refine za0 ?_
   refine zh1 ?_
   refine zi hdp ?_
   refine za0 ?_
   refine zh2 (za0 ?_)
   apply zk0 rfl <;> intro h
   ·cases h
   refine zb0 ?_
   refine zh1 (za0 ?_)
   refine zh2 (za0 ?_)
   refine awp_block (awp_loop (ι := {X : Nat × Int // X.1 ≤ D.length ∧ X.2 + (D.drop X.1).sum = S ∧ 0 ≤ X.2 ∧ X.2 ≤ X.1 * 16384}) (fun X => ⟨65, [(1, .ip none [aI f.name, eBlocks f.blocks]), (3, .lst 3 (L.map eLoop) .sh), (5, eIs D), (7, aI X.1.2), (33, eIs D), (34, aI D.length), (35, aI X.1.1)], [.gone]⟩) (fun X => D.length - X.1.1) ⟨(0, 0), by simp, by simpa using hDs, by simp, by simp⟩ ?_ ?_)
   ·refine zq rfl ?_ ?_
    simp -dsimp only [simprocAttr, ↓vpre, zp, zc]
    all_goals rfl
   rintro ⟨⟨i, n⟩, hi, hin, h0, h1⟩
   simp only at hi hin h0 h1
   refine zh1 (za0 ?_)
   apply zk1 rfl <;> intro h
   ·refine zb0 ?_
    have hlt : i < D.length := by simpa using h
    obtain ⟨v, hv⟩ : ∃ v, D[i]? = some v := ⟨D[i]'hlt, List.getElem?_eq_getElem _⟩
    have hvb := hDb v (List.mem_of_getElem? hv)
    rw [drop_at hv, List.sum_cons] at hin
    refine awp_seq (awp_block ?_)
    refine zg1 ?_
    simp -dsimp only [simprocAttr, ↓vpre, zp, hv]
    refine za0 ?_
    refine zh0 ?_
    repeat (refine ⟨by omega, ?_⟩)
    refine za0 ?_
    refine zh0 ?_
    repeat (refine ⟨by omega, ?_⟩)
    refine zl0 ?_
    refine ⟨⟨(i + 1, n + v), hlt, by simp only; omega, by simp only; omega, by simp only; omega⟩, by simp; omega, ?_⟩
    refine zq rfl ?_ ?_
    simp -dsimp only [simprocAttr, ↓vpre, zp, zc]
    ·exact Sub.int (by simp)
    rfl
   refine awp_exit ?_
   simp -dsimp only [vend, ne_eq, Nat.reduceEqDiff, reduceCtorEq]
   have hii : i = D.length := by simp at h; omega
   subst hii
   rw [List.drop_length, List.sum_nil] at hin
   have hnS : n = S := by omega
   subst hnS
   refine zh2 (za0 ?_)
   refine awp_block (awp_loop (ι := {X : Nat × Nat // X.1 ≤ L.length ∧ X.2 = sizeM (L.drop X.1) ∧ X.2 ≤ 16384}) (fun X => ⟨65, [(1, .ip none [aI f.name, eBlocks f.blocks]), (5, eIs D), (7, aI X.1.2), (43, .lst 3 (L.map eLoop) .sh), (44, aI L.length), (45, aI X.1.1)], [.gone]⟩) (fun X => L.length - X.1.1) ⟨(0, S), by simp, by simpa using hS, by simpa using hsz⟩ ?_ ?_)
   ·refine zq rfl ?_ ?_
    simp -dsimp only [simprocAttr, ↓vpre, zp, zc]
    all_goals rfl
   rintro ⟨⟨j, c⟩, hj, hjc, hcb⟩
   simp only at hj hjc hcb
   refine zh1 (za0 ?_)
   apply zk1 rfl <;> intro h
   ·refine zb0 ?_
    have hlj : j < L.length := by simpa using h
    obtain ⟨x, hx⟩ : ∃ x, L[j]? = some x := ⟨L[j]'(by omega), List.getElem?_eq_getElem _⟩
    have hxm := hbl x (List.mem_of_getElem? hx)
    rw [drop_at hx, sizeM_cons] at hjc
    refine awp_seq (awp_block ?_)
    refine zg1 ?_
    simp -dsimp only [simprocAttr, ↓vpre, zp, hx, eLoop]
    refine za0 ?_
    refine awp_freeze1 11 1 (.ip none [aI x.head, eIs x.blocks, aI x.parent]) rfl (by simp [AObj.isSpare]) trivial rfl ?_ ?_
    rotate_left
    simp -dsimp only [simprocAttr, ↓vpre, zp]
    ·refine awp_trunc' 1 [(1, .ip none [aI f.name, eBlocks f.blocks]), (5, eIs D), (7, aI c), (43, .lst 3 (L.map eLoop) .sh), (44, aI L.length), (45, aI j), (11, .ip none [aI x.head, eIs x.blocks, aI x.parent])] (by simp) (by omega) [.gone] ?_ ?_ ?_ ?_ ?_
     ·rfl
     ·simp [AObj.upto, aI_upto]
     ·simp [Says, St.get, putS, dropS, Go.Av.look, Sub.refl]
     ·simp [AObj.upto, uptoL, AVal.upto, aI_upto, Func.map_upto, Block.map_upto, Edge.map_upto, Ins.map_upto, eLoop_upto]
     refine zh0 ?_
     repeat (refine ⟨by omega, ?_⟩)
     refine za0 ?_
     refine zh0 ?_
     repeat (refine ⟨by omega, ?_⟩)
     refine zl0 ?_
     refine ⟨⟨(j + 1, sizeM (L.drop (j + 1))), hlj, rfl, by simp only; omega⟩, by simp; omega, ?_⟩
     refine zq rfl ?_ ?_
     simp -dsimp only [simprocAttr, ↓vpre, zp, zc]
     ·exact ⟨Sub.int (by omega), Sub.int (by simp)⟩
     rfl
    exact FSub.mp rfl rfl
   refine awp_exit ?_
   simp -dsimp only [vend, ne_eq, Nat.reduceEqDiff, reduceCtorEq]
   have hjj : j = L.length := by simp at h; omega
   subst hjj
   rw [List.drop_length] at hjc
   have hc0 : c = 0 := hjc
   subst hc0
   refine zg1 ?_
   simp -dsimp only [simprocAttr, ↓vpre, zp, hDl, ← hN]
   refine za0 ?_
   refine awp_ret ?_
   simp -dsimp only [simprocAttr, ↓vpre, zp, zr, Try.results11]
  exact FSub.mp rfl rfl
 rw [if_neg hc] at hfi hdp
 obtain ⟨e, he⟩ : ∃ e, e = checkFuncM f := ⟨_, rfl⟩
 rw [← he] at hc hfi hdp
 have hde : decide (e = 0) = false := decide_eq_false hc
 refine zf true 0 Try.func11 Try.ntmps11 ?_
 dsimp only [Tmp, TypeId, slotsOf]
 refine zh1 (za0 ?_)
 refine awp_freeze1 1 0 (.ip none [aI f.name, eBlocks f.blocks]) rfl (by simp [AObj.isSpare]) trivial rfl ?_ ?_
 rotate_left
 simp -dsimp only [simprocAttr, ↓vpre, zp]
 ·refine zh2 ?_
  refine zi hwk ?_
  refine za0 ?_
  refine zu0 rfl ?_
  refine zb0 ?_
  refine zh1 ?_
  refine zi hfi ?_
  refine za0 ?_
  refine zh1 ?_
  refine zi hdp ?_
  refine za0 ?_
  refine zg2 ?_
  simp -dsimp only [simprocAttr, ↓vpre, zp, hde]
  refine za0 ?_
  refine zw0 rfl ?_
  refine zh1 (za0 ?_)
  refine awp_ret ?_
  simp -dsimp only [simprocAttr, ↓vpre, zp, zr, Try.results11]
 exact FSub.mp rfl rfl
end Go.Proofs.Ytlclgfgmhnmnaaa
