/-
  Texts bound together by a program of mine: YtlclgfgmhnmnaaaT106.
-/
import Derived.Test.YtlclgfgmhnmnaaaV1
set_option linter.all false

section
set_option linter.unusedSimpArgs false
set_option maxRecDepth 100000
set_option maxHeartbeats 4000000
namespace Go.Proofs.Ytlclgfgmhnmnaaa
open Go.Av
theorem inter_cases {f : Func} (hfit : f.fit) (hc : checkFuncM f = 0) (a b : Int) : ∃ (x : Bool) (e : Int), interR f a b = .tup [.v (.bool x), aI e] ∧ (e = 0 → 0 ≤ a ∧ 0 ≤ b ∧ x = inFrom f a.toNat b.toNat (liveM f).behind 0 false) := by
 have hv := checkFunc_v hfit hc
 unfold interR
 rw [if_pos hc]
 by_cases h1 : definedM f a = false ∨ definedM f b = false
 ·rw [if_pos h1]
  exact ⟨false, 12, rfl, fun h => by omega⟩
 rw [if_neg h1]
 by_cases h2 : a = b
 ·rw [if_pos h2]
  exact ⟨false, 1, rfl, fun h => by omega⟩
 rw [if_neg h2]
 refine ⟨_, 0, rfl, fun _ => ⟨(hv.inr (defined_val (f := f) (v := a) ?_)).1, (hv.inr (defined_val (f := f) (v := b) ?_)).1, rfl⟩⟩
 ·cases h : definedM f a with
  | true => rfl
  | false => exact absurd (.inl h) h1
 cases h : definedM f b with
 | true => rfl
 | false => exact absurd (.inr h) h1
theorem liveCounts_law (f : Func) (hfit : f.fit) (a0 : Int) (_ : fitI a0) (b0 : Int) (_ : fitI b0) : PCall Try.prog 4 [f.enc, aI a0, aI b0] (.v (.bool true)) := by
 have hwk := works_spec
 have hrg := ranges_spec f hfit
 have hpr := pressure_spec f hfit
 unfold rangesR at hrg
 unfold pressR at hpr
 by_cases hc : checkFuncM f = 0
 ·rw [if_pos hc] at hrg hpr
  have hrc := reach_spec f hfit hc
  have hhi := high_eq hfit hc
  have hif := interfere_spec f hfit a0 b0
  obtain ⟨ib, ie, hi1, hi2⟩ := inter_cases hfit hc a0 b0
  rw [hi1] at hif
  obtain ⟨out, hout⟩ : ∃ out, out = (rngsM f).flatten := ⟨_, rfl⟩
  obtain ⟨M, hM0⟩ : ∃ M, M = prFrom f (liveM f).behind 0 0 := ⟨_, rfl⟩
  rw [← hout] at hrg hhi
  rw [← hM0] at hpr hhi
  obtain ⟨L, hL⟩ : ∃ L, L = reachM f := ⟨_, rfl⟩
  rw [← hL] at hrc hhi
  have hLl : L.length ≤ 128 := by
   rw [hL, reachM_len]
   exact (checkFunc_v hfit hc).fn.few
  refine zf true 0 Try.func4 Try.ntmps4 ?_
  dsimp only [Tmp, TypeId, slotsOf]
  refine zh1 (za0 ?_)
  refine awp_freeze1 3 0 (.ip none [aI f.name, eBlocks f.blocks]) rfl (by simp [AObj.isSpare]) trivial rfl ?_ ?_
  rotate_left
  simp -dsimp only [simprocAttr, ↓vpre, zp]
  ·refine zh2 ?_
   refine .inl ⟨_, hwk, by simp only [uptoL, AVal.upto, zt, zu, aI_upto, eB_upto, Rng.map_upto], later_intro ?_⟩
   simp -dsimp only [simprocAttr, ↓vpre, zp]
   refine za0 ?_
   apply zk0 rfl <;> intro h
   ·cases h
   refine zb0 ?_
   refine zh1 ?_
   refine .inl ⟨_, hrg, by simp only [uptoL, AVal.upto, zt, zu, aI_upto, eB_upto, Rng.map_upto], later_intro ?_⟩
   simp -dsimp only [simprocAttr, ↓vpre, zp, eRs]
   refine za0 ?_
   refine zh1 ?_
   refine .inl ⟨_, hpr, by simp only [uptoL, AVal.upto, zt, zu, aI_upto, eB_upto, Rng.map_upto], later_intro ?_⟩
   simp -dsimp only [simprocAttr, ↓vpre, zp]
   refine za0 ?_
   by_cases hlen : 300 < out.length
   ·have hd : decide ((300 : Int) < (out.length : Int)) = true := decide_eq_true (by omega)
    refine zg2 ?_
    simp -dsimp only [simprocAttr, ↓vpre, zp, hd]
    refine za0 ?_
    refine zw0 rfl ?_
    refine zh1 (za0 ?_)
    refine awp_ret ?_
    simp -dsimp only [simprocAttr, ↓vpre, zp, zr, Try.results4]
   have hd : decide ((300 : Int) < (out.length : Int)) = false := decide_eq_false (by omega)
   refine zg2 ?_
   simp -dsimp only [simprocAttr, ↓vpre, zp, hd]
   refine za0 ?_
   apply zk0 rfl <;> intro h
   ·cases h
   refine zb0 ?_
   refine zh2 ?_
   refine .inl ⟨_, hrc, by simp only [uptoL, AVal.upto, zt, zu, aI_upto, eB_upto, Rng.map_upto], later_intro ?_⟩
   simp -dsimp only [simprocAttr, ↓vpre, zp]
   refine za0 ?_
   refine awp_block (awp_loop (ι := {k : Nat // k ≤ L.length ∧ ∀ j, j < k → L[j]? = some true}) (fun k => ⟨167, [(1, aI a0), (2, aI b0), (3, .ip none [aI f.name, eBlocks f.blocks]), (7, .lst 4 (out.map Rng.enc) .sh), (9, aI M), (53, .lst 1 (L.map eB) .sh), (54, aI L.length), (55, aI k.1)], [.gone]⟩) (fun k => L.length - k.1) ⟨0, by omega, fun j h => by omega⟩ ?_ ?_)
   ·refine zq rfl ?_ ?_
    simp -dsimp only [simprocAttr, ↓vpre, zp, zc]
    rfl
   rintro ⟨k, hk, hkt⟩
   refine zh1 (za0 ?_)
   apply zk1 rfl <;> intro h
   ·refine zb0 ?_
    have hlt : k < L.length := by simpa using h
    obtain ⟨a, ha⟩ : ∃ a, L[k]? = some a := ⟨L[k], by simp [hlt]⟩
    have hal : (L.map eB)[k]? = some (eB a) := by rw [List.getElem?_map, ha]; rfl
    refine awp_seq (awp_block ?_)
    refine zg1 ?_
    simp -dsimp only [simprocAttr, ↓vpre, zp, hal, eB]
    refine za0 ?_
    cases a with
    | false =>
     refine zh1 (za0 ?_)
     refine zw0 rfl ?_
     refine zh1 (za0 ?_)
     refine awp_ret ?_
     simp -dsimp only [simprocAttr, ↓vpre, zp, zr, Try.results4]
    | true =>
     refine zh1 (za0 ?_)
     refine zu0 rfl ?_
     refine zb1 ?_
     refine zh0 ?_
     repeat (refine ⟨by omega, ?_⟩)
     refine zl0 ?_
     refine ⟨⟨k + 1, hlt, fun j hj => by
      by_cases e : j = k
      ·rw [e]; exact ha
      exact hkt j (by omega)⟩, by simp; omega, ?_⟩
     refine zq rfl ?_ ?_
     simp -dsimp only [simprocAttr, ↓vpre, zp, zc]
     ·exact Sub.int (by simp)
     rfl
   refine awp_exit ?_
   simp -dsimp only [vend, ne_eq, Nat.reduceEqDiff, reduceCtorEq]
   have hkk : k = L.length := by simp at h; omega
   subst hkk
   obtain ⟨hM, hbo⟩ := hhi fun x hx => by
    obtain ⟨j, hj⟩ := List.getElem?_of_mem hx
    have := hkt j (lt_of_getElem? hj)
    rw [hj] at this
    exact Option.some.inj this
   replace hM := hM.symm
   unfold highM at hM
   refine zh1 (za0 ?_)
   refine zh2 (za0 ?_)
   refine awp_block (awp_loop (ι := {q : Nat × Nat // q.1 ≤ out.length ∧ q.2 ≤ 300 ∧ M = (out.drop q.1).foldl (fun h x => max h (out.countP (atP x.blk x.fr))) q.2}) (fun q => ⟨167, [(1, aI a0), (2, aI b0), (3, .ip none [aI f.name, eBlocks f.blocks]), (7, .lst 4 (out.map Rng.enc) .sh), (9, aI M), (62, .lst 4 (out.map Rng.enc) .sh), (63, aI out.length), (64, aI q.1.1), (13, aI q.1.2)], [.gone]⟩) (fun q => out.length - q.1.1) ⟨(0, 0), by simp, by simp, hM⟩ ?_ ?_)
   ·refine zq rfl ?_ ?_
    simp -dsimp only [simprocAttr, ↓vpre, zp, zc]
    rfl
   rintro ⟨⟨k, hh⟩, hk, hh3, hke⟩
   simp only at hk hh3 hke
   refine zh1 (za0 ?_)
   apply zk1 rfl <;> intro h
   ·refine zb0 ?_
    have hlk : k < out.length := by simpa using h
    obtain ⟨x, hx⟩ : ∃ x, out[k]? = some x := ⟨out[k], by simp [hlk]⟩
    rw [drop_at hx, List.foldl_cons] at hke
    obtain ⟨C, hC⟩ : ∃ C, C = out.countP (atP x.blk x.fr) := ⟨_, rfl⟩
    have hCl : C ≤ 300 := by
     have := List.countP_le_length (p := atP x.blk x.fr) (l := out)
     omega
    rw [← hC] at hke
    have hmax : max (hh : Int) (C : Int) = ((max hh C : Nat) : Int) := by omega
    refine awp_seq (awp_block ?_)
    refine zg1 ?_
    simp -dsimp only [simprocAttr, ↓vpre, zp, hx, Rng.enc_cells]
    refine za0 ?_
    refine awp_freeze1 15 1 (.ip none [aI x.val, aI x.blk, aI x.fr, aI x.til]) rfl (by simp [AObj.isSpare]) trivial rfl ?_ ?_
    rotate_left
    simp -dsimp only [simprocAttr, ↓vpre, zp]
    ·refine awp_trunc' 1 [(1, aI a0), (2, aI b0), (3, .ip none [aI f.name, eBlocks f.blocks]), (7, .lst 4 (out.map Rng.enc) .sh), (9, aI M), (62, .lst 4 (out.map Rng.enc) .sh), (63, aI out.length), (64, aI k), (13, aI hh), (15, .ip none [aI x.val, aI x.blk, aI x.fr, aI x.til])] (by simp) (by omega) [.gone] ?_ ?_ ?_ ?_ ?_
     ·rfl
     ·simp [AObj.upto]
     ·simp [Says, St.get, putS, dropS, Go.Av.look, Sub.refl]
     ·simp [uptoL, AVal.upto, aI_upto, Rng.map_upto, Func.map_upto, Block.map_upto, Edge.map_upto, Ins.map_upto]
     refine zh1 (za0 ?_)
     refine zh2 (za0 ?_)
     refine awp_block (awp_loop (ι := {q : Nat × Nat // q.1 ≤ out.length ∧ q.2 ≤ q.1 ∧ C = q.2 + (out.drop q.1).countP (atP x.blk x.fr)}) (fun q => ⟨167, [(1, aI a0), (2, aI b0), (3, .ip none [aI f.name, eBlocks f.blocks]), (7, .lst 4 (out.map Rng.enc) .sh), (9, aI M), (62, .lst 4 (out.map Rng.enc) .sh), (63, aI out.length), (64, aI k), (13, aI hh), (15, .ip none [aI x.val, aI x.blk, aI x.fr, aI x.til]), (68, .lst 4 (out.map Rng.enc) .sh), (69, aI out.length), (70, aI q.1.1), (16, aI q.1.2)], [.gone]⟩) (fun q => out.length - q.1.1) ⟨(0, 0), by simp, by simp, by simpa using hC⟩ ?_ ?_)
     ·refine zq rfl ?_ ?_
      simp -dsimp only [simprocAttr, ↓vpre, zp, zc]
      rfl
     rintro ⟨⟨z, c⟩, hz, hcz, hke2⟩
     simp only at hz hcz hke2
     refine zh1 (za0 ?_)
     apply zk1 rfl <;> intro h
     ·refine zb0 ?_
      have hlz : z < out.length := by simpa using h
      obtain ⟨y, hy⟩ : ∃ y, out[z]? = some y := ⟨out[z], by simp [hlz]⟩
      rw [drop_at hy, List.countP_cons] at hke2
      refine awp_seq (awp_block ?_)
      refine zg1 ?_
      simp -dsimp only [simprocAttr, ↓vpre, zp, hy, Rng.enc_cells]
      refine za0 ?_
      refine awp_freeze1 18 1 (.ip none [aI y.val, aI y.blk, aI y.fr, aI y.til]) rfl (by simp [AObj.isSpare]) trivial rfl ?_ ?_
      rotate_left
      simp -dsimp only [simprocAttr, ↓vpre, zp]
      ·refine awp_trunc' 1 [(1, aI a0), (2, aI b0), (3, .ip none [aI f.name, eBlocks f.blocks]), (7, .lst 4 (out.map Rng.enc) .sh), (9, aI M), (62, .lst 4 (out.map Rng.enc) .sh), (63, aI out.length), (64, aI k), (13, aI hh), (15, .ip none [aI x.val, aI x.blk, aI x.fr, aI x.til]), (68, .lst 4 (out.map Rng.enc) .sh), (69, aI out.length), (70, aI z), (16, aI c), (18, .ip none [aI y.val, aI y.blk, aI y.fr, aI y.til])] (by simp) (by omega) [.gone] ?_ ?_ ?_ ?_ ?_
       ·rfl
       ·simp [AObj.upto]
       ·simp [Says, St.get, putS, dropS, Go.Av.look, Sub.refl]
       ·simp [uptoL, AVal.upto, aI_upto, Rng.map_upto, Func.map_upto, Block.map_upto, Edge.map_upto, Ins.map_upto]
       by_cases h1 : y.blk = x.blk
       ·by_cases h2 : y.fr ≤ x.fr
        ·by_cases h3 : x.fr ≤ y.til
         ·rw [show atP x.blk x.fr y = true by simp [atP, h1, h2, h3]] at hke2
          refine zg1 ?_
          simp -dsimp only [simprocAttr, ↓vpre, zp, decide_eq_true h1, decide_eq_true h2, decide_eq_true h3]
          refine za0 ?_
          refine zw0 rfl ?_
          refine zh0 ?_
          repeat (refine ⟨by omega, ?_⟩)
          refine za0 ?_
          refine zh0 ?_
          repeat (refine ⟨by omega, ?_⟩)
          refine zl0 ?_
          refine ⟨⟨(z + 1, c + 1), hlz, by simp only; omega, hke2.trans (by rw [if_pos rfl, Nat.add_comm _ 1, ← Nat.add_assoc])⟩, by simp; omega, ?_⟩
          refine zq rfl ?_ ?_
          simp -dsimp only [simprocAttr, ↓vpre, zp, zc]
          ·exact ⟨Sub.int (by simp), Sub.int (by simp)⟩
          rfl
         rw [show atP x.blk x.fr y = false by simp [atP, h1, h2, h3]] at hke2
         refine zg1 ?_
         simp -dsimp only [simprocAttr, ↓vpre, zp, decide_eq_true h1, decide_eq_true h2, decide_eq_false h3]
         refine za0 ?_
         refine zu0 rfl ?_
         refine zb1 ?_
         refine zh0 ?_
         repeat (refine ⟨by omega, ?_⟩)
         refine zl0 ?_
         refine ⟨⟨(z + 1, c), hlz, by simp only; omega, by simpa using hke2⟩, by simp; omega, ?_⟩
         refine zq rfl ?_ ?_
         simp -dsimp only [simprocAttr, ↓vpre, zp, zc]
         ·exact Sub.int (by simp)
         rfl
        rw [show atP x.blk x.fr y = false by simp [atP, h1, h2]] at hke2
        refine zg1 ?_
        simp -dsimp only [simprocAttr, ↓vpre, zp, decide_eq_true h1, decide_eq_false h2]
        refine za0 ?_
        refine zu0 rfl ?_
        refine zb1 ?_
        refine zh0 ?_
        repeat (refine ⟨by omega, ?_⟩)
        refine zl0 ?_
        refine ⟨⟨(z + 1, c), hlz, by simp only; omega, by simpa using hke2⟩, by simp; omega, ?_⟩
        refine zq rfl ?_ ?_
        simp -dsimp only [simprocAttr, ↓vpre, zp, zc]
        ·exact Sub.int (by simp)
        rfl
       rw [show atP x.blk x.fr y = false by simp [atP, h1]] at hke2
       refine zg1 ?_
       simp -dsimp only [simprocAttr, ↓vpre, zp, decide_eq_false h1]
       refine za0 ?_
       refine zu0 rfl ?_
       refine zb1 ?_
       refine zh0 ?_
       repeat (refine ⟨by omega, ?_⟩)
       refine zl0 ?_
       refine ⟨⟨(z + 1, c), hlz, by simp only; omega, by simpa using hke2⟩, by simp; omega, ?_⟩
       refine zq rfl ?_ ?_
       simp -dsimp only [simprocAttr, ↓vpre, zp, zc]
       ·exact Sub.int (by simp)
       rfl
      exact FSub.mp rfl rfl
     refine awp_exit ?_
     simp -dsimp only [vend, ne_eq, Nat.reduceEqDiff, reduceCtorEq]
     have hzz : z = out.length := by simp at h; omega
     subst hzz
     rw [List.drop_length, List.countP_nil, Nat.add_zero] at hke2
     subst hke2
     refine zg0 ?_
     simp -dsimp only [simprocAttr, ↓vpre, zp, hmax]
     refine za0 ?_
     refine zh0 ?_
     repeat (refine ⟨by omega, ?_⟩)
     refine zl0 ?_
     refine ⟨⟨(k + 1, max hh C), hlk, by simp only; omega, hke⟩, by simp; omega, ?_⟩
     refine zq rfl ?_ ?_
     simp -dsimp only [simprocAttr, ↓vpre, zp, zc]
     ·exact Sub.int (by simp)
     rfl
    exact FSub.mp rfl rfl
   refine awp_exit ?_
   simp -dsimp only [vend, ne_eq, Nat.reduceEqDiff, reduceCtorEq]
   have hkk : k = out.length := by simp at h; omega
   subst hkk
   rw [List.drop_length, List.foldl_nil] at hke
   subst hke
   obtain ⟨W, hW⟩ : ∃ W, W = out.any (fun x => out.any (togP a0 b0 x)) := ⟨_, rfl⟩
   refine zh1 ?_
   refine .inl ⟨_, hif, by simp only [uptoL, AVal.upto, zt, zu, aI_upto, eB_upto, Rng.map_upto], later_intro ?_⟩
   simp -dsimp only [simprocAttr, ↓vpre, zp]
   refine za0 ?_
   refine zh1 (za0 ?_)
   refine zh2 (za0 ?_)
   refine awp_block (awp_loop (ι := {q : Nat × Bool // q.1 ≤ out.length ∧ W = (q.2 || (out.drop q.1).any fun x => out.any (togP a0 b0 x))}) (fun q => ⟨167, [(1, aI a0), (2, aI b0), (3, .ip none [aI f.name, eBlocks f.blocks]), (7, .lst 4 (out.map Rng.enc) .sh), (9, aI M), (13, aI M), (19, .v (.bool ib)), (20, aI ie), (21, .v (.bool q.1.2)), (107, .lst 4 (out.map Rng.enc) .sh), (108, aI out.length), (109, aI q.1.1)], [.gone]⟩) (fun q => out.length - q.1.1) ⟨(0, false), by simp, by simpa using hW⟩ ?_ ?_)
   ·refine zq rfl ?_ ?_
    simp -dsimp only [simprocAttr, ↓vpre, zp, zc]
    rfl
   rintro ⟨⟨k, acc⟩, hk, hke⟩
   simp only at hk hke
   refine zh1 (za0 ?_)
   apply zk1 rfl <;> intro h
   ·refine zb0 ?_
    have hlk : k < out.length := by simpa using h
    obtain ⟨x, hx⟩ : ∃ x, out[k]? = some x := ⟨out[k], by simp [hlk]⟩
    rw [drop_at hx, List.any_cons, ← Bool.or_assoc] at hke
    obtain ⟨C, hC⟩ : ∃ C, C = (acc || out.any (togP a0 b0 x)) := ⟨_, rfl⟩
    rw [← hC] at hke
    refine awp_seq (awp_block ?_)
    refine zg1 ?_
    simp -dsimp only [simprocAttr, ↓vpre, zp, hx, Rng.enc_cells]
    refine za0 ?_
    refine awp_freeze1 23 1 (.ip none [aI x.val, aI x.blk, aI x.fr, aI x.til]) rfl (by simp [AObj.isSpare]) trivial rfl ?_ ?_
    rotate_left
    simp -dsimp only [simprocAttr, ↓vpre, zp]
    ·refine awp_trunc' 1 [(1, aI a0), (2, aI b0), (3, .ip none [aI f.name, eBlocks f.blocks]), (7, .lst 4 (out.map Rng.enc) .sh), (9, aI M), (13, aI M), (19, .v (.bool ib)), (20, aI ie), (21, .v (.bool acc)), (107, .lst 4 (out.map Rng.enc) .sh), (108, aI out.length), (109, aI k), (23, .ip none [aI x.val, aI x.blk, aI x.fr, aI x.til])] (by simp) (by omega) [.gone] ?_ ?_ ?_ ?_ ?_
     ·rfl
     ·simp [AObj.upto]
     ·simp [Says, St.get, putS, dropS, Go.Av.look, Sub.refl]
     ·simp [uptoL, AVal.upto, aI_upto, Rng.map_upto, Func.map_upto, Block.map_upto, Edge.map_upto, Ins.map_upto]
     refine zh1 (za0 ?_)
     refine awp_block (awp_loop (ι := {q : Nat × Bool // q.1 ≤ out.length ∧ C = (q.2 || (out.drop q.1).any (togP a0 b0 x))}) (fun q => ⟨167, [(1, aI a0), (2, aI b0), (3, .ip none [aI f.name, eBlocks f.blocks]), (7, .lst 4 (out.map Rng.enc) .sh), (9, aI M), (13, aI M), (19, .v (.bool ib)), (20, aI ie), (21, .v (.bool q.1.2)), (107, .lst 4 (out.map Rng.enc) .sh), (108, aI out.length), (109, aI k), (23, .ip none [aI x.val, aI x.blk, aI x.fr, aI x.til]), (113, .lst 4 (out.map Rng.enc) .sh), (114, aI out.length), (115, aI q.1.1)], [.gone]⟩) (fun q => out.length - q.1.1) ⟨(0, acc), by simp, by simpa using hC⟩ ?_ ?_)
     ·refine zq rfl ?_ ?_
      simp -dsimp only [simprocAttr, ↓vpre, zp, zc]
      rfl
     rintro ⟨⟨z, acc⟩, hz, hke2⟩
     simp only at hz hke2
     refine zh1 (za0 ?_)
     apply zk1 rfl <;> intro h
     ·refine zb0 ?_
      have hlz : z < out.length := by simpa using h
      obtain ⟨y, hy⟩ : ∃ y, out[z]? = some y := ⟨out[z], by simp [hlz]⟩
      rw [drop_at hy, List.any_cons] at hke2
      refine awp_seq (awp_block ?_)
      refine zg1 ?_
      simp -dsimp only [simprocAttr, ↓vpre, zp, hy, Rng.enc_cells]
      refine za0 ?_
      refine awp_freeze1 25 1 (.ip none [aI y.val, aI y.blk, aI y.fr, aI y.til]) rfl (by simp [AObj.isSpare]) trivial rfl ?_ ?_
      rotate_left
      simp -dsimp only [simprocAttr, ↓vpre, zp]
      ·refine awp_trunc' 1 [(1, aI a0), (2, aI b0), (3, .ip none [aI f.name, eBlocks f.blocks]), (7, .lst 4 (out.map Rng.enc) .sh), (9, aI M), (13, aI M), (19, .v (.bool ib)), (20, aI ie), (21, .v (.bool acc)), (107, .lst 4 (out.map Rng.enc) .sh), (108, aI out.length), (109, aI k), (23, .ip none [aI x.val, aI x.blk, aI x.fr, aI x.til]), (113, .lst 4 (out.map Rng.enc) .sh), (114, aI out.length), (115, aI z), (25, .ip none [aI y.val, aI y.blk, aI y.fr, aI y.til])] (by simp) (by omega) [.gone] ?_ ?_ ?_ ?_ ?_
       ·rfl
       ·simp [AObj.upto]
       ·simp [Says, St.get, putS, dropS, Go.Av.look, Sub.refl]
       ·simp [uptoL, AVal.upto, aI_upto, Rng.map_upto, Func.map_upto, Block.map_upto, Edge.map_upto, Ins.map_upto]
       cases acc with
       | true =>
        simp only [Bool.true_or] at hke2
        refine zh0 (za0 ?_)
        refine zh0 ?_
        repeat (refine ⟨by omega, ?_⟩)
        refine zl0 ?_
        refine ⟨⟨(z + 1, true), hlz, by simpa using hke2⟩, by simp; omega, ?_⟩
        refine zq rfl ?_ ?_
        simp -dsimp only [simprocAttr, ↓vpre, zp, zc]
        ·exact Sub.int (by simp)
        rfl
       | false =>
        by_cases h1 : x.val = a0
        ·by_cases h2 : y.val = b0
         ·by_cases h3 : x.blk = y.blk
          ·by_cases h4 : x.fr ≤ y.til
           ·by_cases h5 : y.fr ≤ x.til
            ·rw [show togP a0 b0 x y = true by simp [togP, h1, h2, h3, h4, h5]] at hke2
             refine zg0 ?_
             simp -dsimp only [simprocAttr, ↓vpre, zp, decide_eq_true h1, decide_eq_true h2, decide_eq_true h3, decide_eq_true h4, decide_eq_true h5]
             refine za0 ?_
             refine zh0 ?_
             repeat (refine ⟨by omega, ?_⟩)
             refine zl0 ?_
             refine ⟨⟨(z + 1, true), hlz, by simpa using hke2⟩, by simp; omega, ?_⟩
             refine zq rfl ?_ ?_
             simp -dsimp only [simprocAttr, ↓vpre, zp, zc]
             ·exact Sub.int (by simp)
             rfl
            rw [show togP a0 b0 x y = false by simp [togP, h1, h2, h3, h4, h5]] at hke2
            refine zg0 ?_
            simp -dsimp only [simprocAttr, ↓vpre, zp, decide_eq_true h1, decide_eq_true h2, decide_eq_true h3, decide_eq_true h4, decide_eq_false h5]
            refine za0 ?_
            refine zh0 ?_
            repeat (refine ⟨by omega, ?_⟩)
            refine zl0 ?_
            refine ⟨⟨(z + 1, false), hlz, by simpa using hke2⟩, by simp; omega, ?_⟩
            refine zq rfl ?_ ?_
            simp -dsimp only [simprocAttr, ↓vpre, zp, zc]
            ·exact Sub.int (by simp)
            rfl
           rw [show togP a0 b0 x y = false by simp [togP, h1, h2, h3, h4]] at hke2
           refine zg0 ?_
           simp -dsimp only [simprocAttr, ↓vpre, zp, decide_eq_true h1, decide_eq_true h2, decide_eq_true h3, decide_eq_false h4]
           refine za0 ?_
           refine zh0 ?_
           repeat (refine ⟨by omega, ?_⟩)
           refine zl0 ?_
           refine ⟨⟨(z + 1, false), hlz, by simpa using hke2⟩, by simp; omega, ?_⟩
           refine zq rfl ?_ ?_
           simp -dsimp only [simprocAttr, ↓vpre, zp, zc]
           ·exact Sub.int (by simp)
           rfl
          rw [show togP a0 b0 x y = false by simp [togP, h1, h2, h3]] at hke2
          refine zg0 ?_
          simp -dsimp only [simprocAttr, ↓vpre, zp, decide_eq_true h1, decide_eq_true h2, decide_eq_false h3]
          refine za0 ?_
          refine zh0 ?_
          repeat (refine ⟨by omega, ?_⟩)
          refine zl0 ?_
          refine ⟨⟨(z + 1, false), hlz, by simpa using hke2⟩, by simp; omega, ?_⟩
          refine zq rfl ?_ ?_
          simp -dsimp only [simprocAttr, ↓vpre, zp, zc]
          ·exact Sub.int (by simp)
          rfl
         rw [show togP a0 b0 x y = false by simp [togP, h1, h2]] at hke2
         refine zg0 ?_
         simp -dsimp only [simprocAttr, ↓vpre, zp, decide_eq_true h1, decide_eq_false h2]
         refine za0 ?_
         refine zh0 ?_
         repeat (refine ⟨by omega, ?_⟩)
         refine zl0 ?_
         refine ⟨⟨(z + 1, false), hlz, by simpa using hke2⟩, by simp; omega, ?_⟩
         refine zq rfl ?_ ?_
         simp -dsimp only [simprocAttr, ↓vpre, zp, zc]
         ·exact Sub.int (by simp)
         rfl
        rw [show togP a0 b0 x y = false by simp [togP, h1]] at hke2
        refine zg0 ?_
        simp -dsimp only [simprocAttr, ↓vpre, zp, decide_eq_false h1]
        refine za0 ?_
        refine zh0 ?_
        repeat (refine ⟨by omega, ?_⟩)
        refine zl0 ?_
        refine ⟨⟨(z + 1, false), hlz, by simpa using hke2⟩, by simp; omega, ?_⟩
        refine zq rfl ?_ ?_
        simp -dsimp only [simprocAttr, ↓vpre, zp, zc]
        ·exact Sub.int (by simp)
        rfl
      exact FSub.mp rfl rfl
     refine awp_exit ?_
     simp -dsimp only [vend, ne_eq, Nat.reduceEqDiff, reduceCtorEq]
     have hzz : z = out.length := by simp at h; omega
     subst hzz
     rw [List.drop_length, List.any_nil, Bool.or_false] at hke2
     subst hke2
     refine zh0 ?_
     repeat (refine ⟨by omega, ?_⟩)
     refine zl0 ?_
     refine ⟨⟨(k + 1, C), hlk, hke⟩, by simp; omega, ?_⟩
     refine zq rfl ?_ ?_
     simp -dsimp only [simprocAttr, ↓vpre, zp, zc]
     ·exact Sub.int (by simp)
     rfl
    exact FSub.mp rfl rfl
   refine awp_exit ?_
   simp -dsimp only [vend, ne_eq, Nat.reduceEqDiff, reduceCtorEq]
   have hkk : k = out.length := by simp at h; omega
   subst hkk
   rw [List.drop_length, List.any_nil, Bool.or_false] at hke
   subst hke
   by_cases hie : ie = 0
   ·have hd := decide_eq_true hie
    obtain ⟨p1, p2, p3⟩ := hi2 hie
    have hbo' := hbo a0.toNat b0.toNat
    rw [Int.toNat_of_nonneg p1, Int.toNat_of_nonneg p2, ← p3] at hbo'
    have hib : W = ib := by rw [hW]; exact hbo'
    subst hib
    refine zg1 ?_
    simp -dsimp only [simprocAttr, ↓vpre, zp, hd]
    refine ⟨Try.underlying4, ?_⟩
    refine za0 ?_
    refine awp_ret ?_
    simp -dsimp only [simprocAttr, ↓vpre, zp, zr, Try.results4]
    all_goals simp
   have hd := decide_eq_false hie
   refine zg1 ?_
   simp -dsimp only [simprocAttr, ↓vpre, zp, hd]
   refine za0 ?_
   refine awp_ret ?_
   simp -dsimp only [simprocAttr, ↓vpre, zp, zr, Try.results4]
   all_goals simp
  exact FSub.mp rfl rfl
 rw [if_neg hc] at hrg hpr
 obtain ⟨e, he⟩ : ∃ e, e = checkFuncM f := ⟨_, rfl⟩
 rw [← he] at hc hrg hpr
 have hde : decide (e = 0) = false := decide_eq_false hc
 have hee : decide (e = e) = true := decide_eq_true rfl
 refine zf true 0 Try.func4 Try.ntmps4 ?_
 dsimp only [Tmp, TypeId, slotsOf]
 refine zh1 (za0 ?_)
 refine awp_freeze1 3 0 (.ip none [aI f.name, eBlocks f.blocks]) rfl (by simp [AObj.isSpare]) trivial rfl ?_ ?_
 rotate_left
 simp -dsimp only [simprocAttr, ↓vpre, zp]
 ·refine zh2 ?_
  refine .inl ⟨_, hwk, by simp only [uptoL, AVal.upto, zt, zu, aI_upto, eB_upto, Rng.map_upto], later_intro ?_⟩
  simp -dsimp only [simprocAttr, ↓vpre, zp]
  refine za0 ?_
  refine zu0 rfl ?_
  refine zb0 ?_
  refine zh1 ?_
  refine .inl ⟨_, hrg, by simp only [uptoL, AVal.upto, zt, zu, aI_upto, eB_upto, Rng.map_upto], later_intro ?_⟩
  simp -dsimp only [simprocAttr, ↓vpre, zp]
  refine za0 ?_
  refine zh1 ?_
  refine .inl ⟨_, hpr, by simp only [uptoL, AVal.upto, zt, zu, aI_upto, eB_upto, Rng.map_upto], later_intro ?_⟩
  simp -dsimp only [simprocAttr, ↓vpre, zp]
  refine za0 ?_
  refine zg2 ?_
  simp -dsimp only [simprocAttr, ↓vpre, zp, hde, hee]
  refine za0 ?_
  refine zw0 rfl ?_
  refine zg1 ?_
  simp -dsimp only [simprocAttr, ↓vpre, zp, hee]
  refine za0 ?_
  refine awp_ret ?_
  simp -dsimp only [simprocAttr, ↓vpre, zp, zr, Try.results4]
 exact FSub.mp rfl rfl
end Go.Proofs.Ytlclgfgmhnmnaaa
end
