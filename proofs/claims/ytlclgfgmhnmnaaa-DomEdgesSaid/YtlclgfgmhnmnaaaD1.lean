/-
  Texts bound together by a program of mine: YtlclgfgmhnmnaaaPf, YtlclgfgmhnmnaaaT41, YtlclgfgmhnmnaaaPj, YtlclgfgmhnmnaaaT43, YtlclgfgmhnmnaaaT48, YtlclgfgmhnmnaaaPg, YtlclgfgmhnmnaaaPk, YtlclgfgmhnmnaaaT44, YtlclgfgmhnmnaaaT45, YtlclgfgmhnmnaaaT46, YtlclgfgmhnmnaaaT54, YtlclgfgmhnmnaaaPl, YtlclgfgmhnmnaaaPdb, YtlclgfgmhnmnaaaPdc, YtlclgfgmhnmnaaaPdd, YtlclgfgmhnmnaaaPua, YtlclgfgmhnmnaaaPub, YtlclgfgmhnmnaaaPi, YtlclgfgmhnmnaaaPc, YtlclgfgmhnmnaaaPda, YtlclgfgmhnmnaaaPuk, YtlclgfgmhnmnaaaPuc, YtlclgfgmhnmnaaaPug, YtlclgfgmhnmnaaaPuh, YtlclgfgmhnmnaaaT55, YtakdmelemfnmdaaAvv, YtlclgfgmhnmnaaaT56, YtlclgfgmhnmnaaaPul, YtlclgfgmhnmnaaaPue, YtlclgfgmhnmnaaaPuf, YtlclgfgmhnmnaaaPud, YtlclgfgmhnmnaaaT49, YtlclgfgmhnmnaaaT50, YtlclgfgmhnmnaaaPh, YtlclgfgmhnmnaaaT51, YtlclgfgmhnmnaaaPde, YtlclgfgmhnmnaaaT59, YtlclgfgmhnmnaaaT52, YtlclgfgmhnmnaaaT53, YtlclgfgmhnmnaaaPdf, YtlclgfgmhnmnaaaPdg, YtlclgfgmhnmnaaaPdh, YtlclgfgmhnmnaaaT101, YtlclgfgmhnmnaaaT102, YtlclgfgmhnmnaaaT103, YtlclgfgmhnmnaaaT107, YtlclgfgmhnmnaaaT63, YtlclgfgmhnmnaaaT57, YtlclgfgmhnmnaaaT111, YtlclgfgmhnmnaaaT112, YtlclgfgmhnmnaaaT113, YtlclgfgmhnmnaaaT119, YtlclgfgmhnmnaaaT117, YtlclgfgmhnmnaaaT108.
-/
import Derived.Test.YtlclgfgmhnmnaaaJ5
import Derived.Sort.Grow
import Derived.Test.YtlclgfgmhnmnaaaChecked
import Derived.KernelRfl
import Derived.Shelf.Slices.SearchI
import Derived.Shelf.Slices.In.SortNone
import Derived.Shelf.Sort.Plain
set_option linter.all false
set_option maxRecDepth 100000
set_option maxHeartbeats 4000000

namespace Go.Av
theorem awp_ownAll {P : Program} {kb : Nat} {c : Code} {Q : AEx → St → Prop} {n : Nat} {slots : List (Nat × AVal)} {O : List AObj} (k m : Nat) (hk : k < O.length)
    (h : AWP P kb c Q ⟨n, slots, (O ++ List.replicate m (AObj.spare 0)).set k (.cells ((List.range m).map fun j => .lst 1 [] (.tok (O.length + j))))⟩) : AWP P kb c Q ⟨n, slots, O.set k (.cells (List.replicate m (.lst 1 [] .ex)))⟩ := by
  obtain ⟨conv, hconv⟩ : ∃ conv : Nat → List AVal, conv = fun q => ((List.range q).map fun j => AVal.lst 1 [] (.tok (O.length + j))) ++ List.replicate (m - q) (.lst 1 [] .ex) := ⟨_, rfl⟩
  have key : ∀ q, q ≤ m → AWP P kb c Q ⟨n, slots, (O ++ List.replicate q (AObj.spare 0)).set k (.cells (conv q))⟩ → AWP P kb c Q ⟨n, slots, O.set k (.cells (List.replicate m (.lst 1 [] .ex)))⟩ := fun q => by
    induction q with
    | zero =>
      intro _ h
      simpa [hconv] using h
    | succ q ih =>
      intro hq h
      refine ih (by omega) (awp_ownCell k q (sz := 1) (cs := conv q) (xs := []) ?_ ?_ ?_)
      · rw [List.getElem?_set_self (by simp; omega)]
      · rw [hconv]
        simp only
        rw [List.getElem?_append_right (by simp)]
        simp only [List.length_map, List.length_range, Nat.sub_self]
        rw [show m - q = (m - (q + 1)) + 1 by omega, List.replicate_succ]
        rfl
      have e1 : (O ++ List.replicate q (AObj.spare 0)).set k (.cells (conv q)) ++ [AObj.spare ([] : List AVal).length] = (O ++ List.replicate (q + 1) (AObj.spare 0)).set k (.cells (conv q)) := by
        rw [List.set_append_left _ _ hk, List.set_append_left _ _ hk, List.append_assoc]
        congr 1
        rw [List.replicate_succ']
        rfl
      have e2 : (conv q).set q (.lst 1 [] (.tok ((O ++ List.replicate q (AObj.spare 0)).set k (.cells (conv q))).length)) = conv (q + 1) := by
        rw [hconv]
        simp only [List.length_set, List.length_append, List.length_replicate]
        rw [List.set_append_right _ _ (by simp)]
        simp only [List.length_map, List.length_range, Nat.sub_self]
        rw [show m - q = (m - (q + 1)) + 1 by omega, List.replicate_succ, List.set_cons_zero, List.range_succ, List.map_append, List.append_assoc]
        rfl
      rw [e1, e2, List.set_set]
      exact h
  refine key m (Nat.le_refl _) ?_
  simpa [hconv] using h
end Go.Av
namespace Go.Proofs.Ytlclgfgmhnmnaaa
open Go.Av
def outC (b : Nat) (ls : List (List Int)) : List AVal := ls.mapIdx fun j l => .lst 1 (l.map aI) (.tok (b + j))
theorem outC_get {b : Nat} {ls : List (List Int)} {j : Nat} {l : List Int} (h : ls[j]? = some l) : (outC b ls)[j]? = some (.lst 1 (l.map aI) (.tok (b + j))) := by
  simp [outC, h]
theorem outC_set {b : Nat} {ls : List (List Int)} {j : Nat} (l : List Int) : (outC b ls).set j (.lst 1 (l.map aI) (.tok (b + j))) = outC b (ls.set j l) := by
  apply List.ext_getElem?
  intro i
  simp only [outC, List.getElem?_set, List.getElem?_mapIdx, List.length_mapIdx]
  by_cases e : j = i
  · subst e
    by_cases hl : j < ls.length
    · simp [hl]
    simp [hl]
  simp [e]
theorem outC_len (b : Nat) (ls : List (List Int)) : (outC b ls).length = ls.length := by simp [outC]
theorem outC_nil (b n : Nat) : outC b (List.replicate n []) = (List.range n).map fun j => .lst 1 [] (.tok (b + j)) := by
  apply List.ext_getElem?
  intro i
  simp only [outC, List.getElem?_mapIdx, List.getElem?_map]
  by_cases h : i < n
  · simp [h]
  simp [h]
theorem outC_share (b : Nat) (ls : List (List Int)) : (outC b ls).map AVal.shareCell = cellsAll (ls.map eIs) := by
  have h1 : cellsAll (ls.map eIs) = ls.map eIs := by
    induction ls with
    | nil => rfl
    | cons l r ih =>
      simp only [List.map_cons, cellsAll, List.flatMap_cons] at ih ⊢
      rw [ih]
      rfl
  rw [h1]
  apply List.ext_getElem?
  intro i
  simp only [outC, List.getElem?_map, List.getElem?_mapIdx]
  cases ls[i]? with
  | none => rfl
  | some l =>
    simp only [Option.map_some, Option.some.injEq]
    rw [shareCell_lst]
theorem outC_upto {b n : Nat} {ls : List (List Int)} (h : b + ls.length ≤ n) : uptoL n (outC b ls) := by
  rw [uptoL_iff]
  intro x hx
  obtain ⟨j, hj⟩ := List.mem_iff_getElem?.1 hx
  simp only [outC, List.getElem?_mapIdx] at hj
  cases hl : ls[j]? with
  | none => rw [hl] at hj; cases hj
  | some l =>
    rw [hl] at hj
    simp only [Option.map_some, Option.some.injEq] at hj
    subst hj
    have := lt_of_getElem? hl
    exact ⟨aI_upto _ _, show _ < _ by omega⟩
theorem splice_one {cs : List AVal} {j : Nat} (x : AVal) (h : j < cs.length) : splice cs j [x] = cs.set j x := by
  apply List.ext_getElem?
  intro i
  rw [splice_get (by simp; omega), List.getElem?_set]
  simp only [List.length_cons, List.length_nil, Nat.zero_add]
  by_cases e : j = i
  · subst e
    simp [h]
  rw [if_neg (by omega), if_neg e]
structure PO (ls : List (List Int)) (O : List AObj) : Prop where
  len : O.length = ls.length + 2
  arr : O[1]? = some (.cells (outC 2 ls))
  sp : ∀ j l, ls[j]? = some l → O[2 + j]? = some (.spare l.length)
  up : ∀ o ∈ O, o.upto O.length
theorem PO.push {ls : List (List Int)} {O : List AObj} (h : PO ls O) {j : Nat} {l : List Int} (hj : ls[j]? = some l) (k : Int) : PO (ls.set j (l ++ [k])) ((O.set (2 + j) (.spare (l.length + 1))).set 1 (.cells (outC 2 (ls.set j (l ++ [k]))))) := by
  have hlt := lt_of_getElem? hj
  have hl := h.len
  refine ⟨by simp [hl], ?_, fun i m hi => ?_, ?_⟩
  · rw [List.getElem?_set_self (by simp; omega)]
  · rw [List.getElem?_set_ne (by omega)]
    by_cases e : j = i
    · subst e
      rw [List.getElem?_set_self hlt] at hi
      simp only [Option.some.injEq] at hi
      subst hi
      rw [List.getElem?_set_self (by omega)]
      simp
    rw [List.getElem?_set_ne e] at hi
    rw [List.getElem?_set_ne (by omega)]
    exact h.sp i m hi
  have h1 : ∀ o ∈ O.set (2 + j) (.spare (l.length + 1)), o.upto O.length := uptoO_set h.up trivial
  have h2 := uptoO_set (k := 1) (x := .cells (outC 2 (ls.set j (l ++ [k])))) h1 (by
    show uptoL _ _
    exact outC_upto (by simp [hl]; omega))
  simpa using h2
def predE (k : Nat) (ls : List (List Int)) (e : Edge) : List (List Int) := ls.set e.block.toNat ((ls[e.block.toNat]?.getD []) ++ [(k : Int)])
def predB (k : Nat) (ls : List (List Int)) (es : List Edge) : List (List Int) := es.foldl (predE k) ls
def predL : Nat → List (List Int) → List Block → List (List Int)
  | _, ls, [] => ls
  | k, ls, b :: r => predL (k + 1) (predB k ls b.term.to) r
def predsM (f : Func) : List (List Int) := predL 0 (List.replicate f.blocks.length []) f.blocks
theorem predE_len (k : Nat) (ls : List (List Int)) (e : Edge) : (predE k ls e).length = ls.length := by simp [predE]
theorem predB_len (k : Nat) : ∀ (es : List Edge) (ls : List (List Int)), (predB k ls es).length = ls.length
  | [], _ => rfl
  | e :: r, ls => by
    show (predB k (predE k ls e) r).length = _
    rw [predB_len k r, predE_len]
theorem predL_len : ∀ (l : List Block) (k : Nat) (ls : List (List Int)), (predL k ls l).length = ls.length
  | [], _, _ => rfl
  | b :: r, k, ls => by
    simp only [predL]
    rw [predL_len r, predB_len]
theorem to_few {f : Func} {t : Term} (hend : EndW f t) : t.to.length ≤ 257 := by
  rcases (show (t.kind = 0 ∨ t.kind = 4) ∨ t.kind = 1 ∨ t.kind = 2 ∨ t.kind = 3 by have := hend.kind; omega) with q | q | q | q
  · rw [hend.to q]; simp
  · rw [hend.jump q]; omega
  · rw [hend.cond q]; omega
  rw [hend.switch q]; have := hend.cases; omega
theorem preds_len (f : Func) : (predsM f).length = f.blocks.length := by simp [predsM, predL_len]
theorem nils_flat (n : Nat) : (List.replicate n [AVal.lst 1 [] .ex]).flatten = List.replicate n (.lst 1 [] .ex) := by
  induction n with
  | zero => rfl
  | succ n ih => rw [List.replicate_succ, List.flatten_cons, ih, List.replicate_succ]; rfl
def predsR (f : Func) : AVal := if checkFuncM f = 0 then .tup [.lst 1 ((predsM f).map eIs) .sh, aI 0] else .tup [.lst 1 [] .sh, aI (checkFuncM f)]
def Bnd (c : Nat) (ls : List (List Int)) : Prop := ∀ l ∈ ls, l.length ≤ c
theorem Bnd.push {c : Nat} {ls : List (List Int)} (h : Bnd c ls) {j : Nat} {l : List Int} (hj : ls[j]? = some l) (k : Int) : Bnd (c + 1) (ls.set j (l ++ [k])) := fun m hm => by
 rcases List.mem_or_eq_of_mem_set hm with q | q
 ·have := h m q
  omega
 subst q
 have := h l (List.mem_of_getElem? hj)
 simp
 omega
theorem Bnd.mono {c d : Nat} {ls : List (List Int)} (h : Bnd c ls) (hd : c ≤ d) : Bnd d ls := fun l hl => Nat.le_trans (h l hl) hd
theorem preds_spec (f : Func) (hfit : f.fit) : PCall Try.prog 38 [f.enc] (predsR f) := by
 have hck := checkFunc_spec f hfit
 unfold predsR
 by_cases hc : checkFuncM f = 0
 ·rw [if_pos hc]
  rw [hc] at hck
  have hw := checkFunc_ok hfit hc
  have hn : f.blocks.length ≤ 128 := hw.few
  obtain ⟨N, hN⟩ : ∃ N, N = f.blocks.length := ⟨_, rfl⟩
  obtain ⟨R, hR⟩ : ∃ R, R = predsM f := ⟨_, rfl⟩
  have hRl : R.length = N := by rw [hR, hN, predsM, predL_len]; simp
  rw [← hR]
  unfold predsM at hR
  refine zf true 0 Try.func38 Try.ntmps38 ?_
  dsimp only [Tmp, TypeId, slotsOf]
  refine zh1 (za0 ?_)
  refine awp_freeze1 1 0 (.ip none [aI f.name, eBlocks f.blocks]) rfl (by simp [AObj.isSpare]) trivial rfl ?_ ?_
  rotate_left
  simp -dsimp only [simprocAttr, ↓vpre, zp]
  ·refine zh2 ?_
   refine zi hck ?_
   refine za0 ?_
   refine zh1 (za0 ?_)
   apply zk0 rfl <;> intro h
   ·cases h
   refine zb0 ?_
   refine zg1 ?_
   simp -dsimp only [simprocAttr, ↓vpre, zp, nils_flat, ← hN]
   refine ⟨by omega, by omega, ?_⟩
   refine za0 ?_
   have hpo : PO (List.replicate N []) (([AObj.gone, AObj.cells []] ++ List.replicate N (AObj.spare 0)).set 1 (.cells ((List.range N).map fun j => .lst 1 [] (.tok ([AObj.gone, AObj.cells []].length + j))))) := by
    refine ⟨by simp, ?_, fun j l hj => ?_, ?_⟩
    ·rw [List.getElem?_set_self (by simp), outC_nil]
     rfl
    ·have hj' := lt_of_getElem? hj
     rw [List.length_replicate] at hj'
     rw [List.getElem?_set_ne (by omega), List.getElem?_append_right (by simp)]
     simp only [List.length_cons, List.length_nil, Nat.zero_add, Nat.add_sub_cancel_left]
     simp [hj'] at hj ⊢
     rw [hj]
     rfl
    rw [← outC_nil]
    have := uptoO_set (k := 1) (n := N + 2) (x := .cells (outC 2 (List.replicate N []))) (O := [AObj.gone, AObj.cells []] ++ List.replicate N (AObj.spare 0)) (fun o ho => by
     rcases List.mem_append.1 ho with q | q
     ·simp at q
      rcases q with rfl | rfl <;> trivial
     rw [(List.mem_replicate.1 q).2]
     trivial) (outC_upto (by simp; omega))
    simpa using this
   show AWP Try.prog _ _ _ ⟨_, _, List.set [AObj.gone, AObj.cells []] 1 (.cells (List.replicate N (AVal.lst 1 [] .ex)))⟩
   refine awp_ownAll 1 N (by simp) ?_
   generalize ([AObj.gone, AObj.cells []] ++ List.replicate N (AObj.spare 0)).set 1 (.cells ((List.range N).map fun j => .lst 1 [] (.tok ([AObj.gone, AObj.cells []].length + j)))) = O0 at *
   rw [← hN] at hR
   refine zg2 ?_
   simp -dsimp only [simprocAttr, ↓vpre, zp, ← hN]
   refine za0 ?_
   refine awp_block (awp_loop (ι := {p : Nat × List (List Int) × List AObj // p.1 ≤ N ∧ PO p.2.1 p.2.2 ∧ p.2.1.length = N ∧ Bnd (p.1 * 257) p.2.1 ∧ R = predL p.1 p.2.1 (f.blocks.drop p.1)}) (fun p => ⟨50, [(1, .ip none [aI f.name, eBlocks f.blocks]), (5, .ms 1 0 N N), (20, eBlocks f.blocks), (21, aI N), (22, aI p.1.1)], p.1.2.2⟩) (fun p => N - p.1.1) ⟨(0, _, O0), by simp, hpo, by simp, by intro l hl; simp [(List.mem_replicate.1 hl).2], hR⟩ ?_ ?_)
   ·refine zq rfl ?_ ?_
    simp -dsimp only [simprocAttr, ↓vpre, zp, zc]
    all_goals rfl
   rintro ⟨⟨k, ls, O⟩, hk, hp, hls, hbd, hke⟩
   simp only at hk hp hls hbd hke
   have hOl := hp.len
   have hup := hp.up
   refine zh1 (za0 ?_)
   apply zk1 rfl <;> intro h
   ·refine zb0 ?_
    have hlt : k < N := by simpa using h
    obtain ⟨b, hb⟩ : ∃ b, f.blocks[k]? = some b := ⟨f.blocks[k]'(by omega), List.getElem?_eq_getElem _⟩
    have hbm := List.mem_of_getElem? hb
    have hend := end_ok (hw.blk b hbm).fin
    have hto : b.term.to.length ≤ 257 := by
     rcases (show (b.term.kind = 0 ∨ b.term.kind = 4) ∨ b.term.kind = 1 ∨ b.term.kind = 2 ∨ b.term.kind = 3 by have := hend.kind; omega) with q | q | q | q
     ·rw [hend.to q]; simp
     ·rw [hend.jump q]; omega
     ·rw [hend.cond q]; omega
     rw [hend.switch q]; have := hend.cases; omega
    rw [drop_at hb] at hke
    simp only [predL] at hke
    obtain ⟨L1, hL1⟩ : ∃ L1, L1 = predB k ls b.term.to := ⟨_, rfl⟩
    rw [← hL1] at hke
    refine awp_seq (awp_block ?_)
    refine zg1 ?_
    simp -dsimp only [simprocAttr, ↓vpre, zp, hb]
    refine za0 ?_
    refine awp_local 7 ([eIs b.params, eInss b.ins, aI b.term.kind, aI b.term.arg, aI b.term.n, eIs b.term.cases, eEdges b.term.to]) [(1, .ip none [aI f.name, eBlocks f.blocks]), (5, .ms 1 0 N N), (20, eBlocks f.blocks), (21, aI N), (22, aI k), (6, aI k), (7, .ip none [eIs b.params, eInss b.ins, aI b.term.kind, aI b.term.arg, aI b.term.n, eIs b.term.cases, eEdges b.term.to])] (by simp [putS, dropS, Go.Av.look]) (by rfl) (by omega) (by simp [putS, dropS, Go.Av.look]) ?_ ?_ ?_
    ·exact hup
    ·simp [AVal.upto, uptoL, aI_upto, Edge.map_upto, Ins.map_upto, Block.map_upto, hOl]
    refine zh1 (za0 ?_)
    refine awp_block (awp_loop (ι := {p : Nat × List (List Int) × List AObj // p.1 ≤ b.term.to.length ∧ PO p.2.1 p.2.2 ∧ p.2.1.length = N ∧ Bnd (k * 257 + p.1) p.2.1 ∧ L1 = predB k p.2.1 (b.term.to.drop p.1)}) (fun p => ⟨50, [(1, .ip none [aI f.name, eBlocks f.blocks]), (5, .ms 1 0 N N), (20, eBlocks f.blocks), (21, aI N), (22, aI k), (6, aI k), (29, eEdges b.term.to), (30, aI b.term.to.length), (31, aI p.1.1)], p.1.2.2⟩) (fun p => b.term.to.length - p.1.1) ⟨(0, ls, O), by simp, hp, hls, hbd, hL1⟩ ?_ ?_)
    ·refine zq rfl ?_ ?_
     simp -dsimp only [simprocAttr, ↓vpre, zp, zc]
     all_goals rfl
    rintro ⟨⟨z, ls, O⟩, hz, hp, hls, hbd, hze⟩
    simp only at hz hp hls hbd hze
    have hOl := hp.len
    have hup := hp.up
    refine zh1 (za0 ?_)
    apply zk1 rfl <;> intro h
    ·refine zb0 ?_
     have hlz : z < b.term.to.length := by simpa using h
     obtain ⟨e, he⟩ : ∃ e, b.term.to[z]? = some e := ⟨b.term.to[z], by simp [hlz]⟩
     have hee := (hend.edges e (List.mem_of_getElem? he)).1
     rw [drop_at he] at hze
     simp only [predB, List.foldl_cons] at hze
     obtain ⟨j, hj⟩ : ∃ j : Nat, e.block = (j : Int) := ⟨e.block.toNat, by omega⟩
     have hjN : j < N := by omega
     obtain ⟨l, hl⟩ : ∃ l, ls[j]? = some l := ⟨ls[j]'(by omega), List.getElem?_eq_getElem _⟩
     have hpe : predE k ls e = ls.set j (l ++ [(k : Int)]) := by simp [predE, hj, hl]
     rw [hpe] at hze
     have hget := outC_get (b := 2) hl
     have hsp := hp.sp j l hl
     have hpn := hp.push hl k
     have hput := outC_set (b := 2) (ls := ls) (j := j) (l ++ [(k : Int)])
     rw [List.map_append] at hput
     have hlb := hbd l (List.mem_of_getElem? hl)
     have harr := hp.arr
     have harr2 := at_set_ne (k := 1) (j := 2 + j) (y := .spare (l.length + 1)) harr (by omega)
     refine awp_seq (awp_block ?_)
     refine zg1 ?_
     simp -dsimp only [simprocAttr, ↓vpre, zp, he]
     refine za0 ?_
     refine awp_local 9 ([aI e.block, eIs e.args]) [(1, .ip none [aI f.name, eBlocks f.blocks]), (5, .ms 1 0 N N), (20, eBlocks f.blocks), (21, aI N), (22, aI k), (6, aI k), (29, eEdges b.term.to), (30, aI b.term.to.length), (31, aI z), (9, .ip none [aI e.block, eIs e.args])] (by simp [putS, dropS, Go.Av.look]) (by rfl) (by omega) (by simp [putS, dropS, Go.Av.look]) ?_ ?_ ?_
     ·exact hup
     ·simp [AVal.upto, uptoL, aI_upto, Edge.map_upto, Ins.map_upto, Block.map_upto, hOl]
     refine zg0 ?_
     simp -dsimp only [simprocAttr, ↓vpre, zp, hj, harr, hget, hsp, harr2, hput, Int.toNat_natCast, Nat.mul_one, List.length_map, List.length_set]
     refine ⟨by omega, by omega, by omega, by omega, by rw [outC_len]; omega, ?_⟩
     refine ⟨orderB_ren [1, 2 + j] O.length [.pure, .pure, .pure, .pure, .pure, .pure, .pure, .rd 0, .pure, .pure, .wr 2 [1], .pure, .wr 2 [0]] (by simp; omega) (by simp; omega) rfl rfl (by kernel_rfl), at_intro ?_⟩
     simp -dsimp only [vend, ne_eq, Nat.reduceEqDiff, reduceCtorEq]
     have hput' : (outC 2 ls).set j (.lst 1 (l.map aI ++ [.v (.int .i64 k)]) (.tok (2 + j))) = outC 2 (ls.set j (l ++ [(k : Int)])) := hput
     rw [splice_one _ (by rw [outC_len]; omega), hput']
     refine zh0 ?_
     repeat (refine ⟨by omega, ?_⟩)
     refine zl0 ?_
     refine ⟨⟨(z + 1, _, _), by simp only; omega, hpn, by simp [hls], hbd.push hl k, hze⟩, by simp; omega, ?_⟩
     refine zq rfl ?_ ?_
     simp -dsimp only [simprocAttr, ↓vpre, zp, zc]
     ·exact Sub.int (by simp)
     rfl
    refine awp_exit ?_
    simp -dsimp only [vend, ne_eq, Nat.reduceEqDiff, reduceCtorEq]
    have hzz : z = b.term.to.length := by simp at h; omega
    subst hzz
    rw [List.drop_length] at hze
    simp only [predB, List.foldl_nil] at hze
    subst hze
    refine zh0 ?_
    repeat (refine ⟨by omega, ?_⟩)
    refine zl0 ?_
    refine ⟨⟨(k + 1, _, O), by simp only; omega, hp, hls, hbd.mono (by omega), hke⟩, by simp; omega, ?_⟩
    refine zq rfl ?_ ?_
    simp -dsimp only [simprocAttr, ↓vpre, zp, zc]
    ·exact Sub.int (by simp)
    rfl
   refine awp_exit ?_
   simp -dsimp only [vend, ne_eq, Nat.reduceEqDiff, reduceCtorEq]
   have hkk : k = N := by simp at h; omega
   subst hkk
   rw [hN, List.drop_length] at hke
   simp only [predL] at hke
   subst hke
   have hshare := outC_share 2 R
   have hcl : (outC 2 R).length = k := by rw [outC_len, hls]
   refine awp_freeze1 5 1 (o := .cells (outC 2 R)) (.lst 1 (R.map eIs) .sh) hp.arr (by simp [AObj.isSpare]) trivial rfl (FSub.ms (cs := outC 2 R) hp.arr (by intro x hx; obtain ⟨l, _, rfl⟩ := List.mem_map.1 hx; rfl) (by rw [List.length_map, hls]) (by rw [List.drop_zero, Nat.mul_one, ← hcl, List.take_length, hshare])) ?_
   simp -dsimp only [simprocAttr, ↓vpre, zp]
   refine zh1 (za0 ?_)
   refine awp_ret ?_
   simp -dsimp only [simprocAttr, ↓vpre, zp, zr, Try.results38]
   simp only [uptoL, AVal.upto, and_true]
   rw [uptoL_iff]
   intro x hx
   obtain ⟨l, _, rfl⟩ := List.mem_map.1 hx
   exact ⟨aI_upto _ _, trivial⟩
  exact FSub.mp rfl rfl
 rw [if_neg hc]
 obtain ⟨e, he⟩ : ∃ e, e = checkFuncM f := ⟨_, rfl⟩
 rw [← he] at hc hck ⊢
 have hde : decide (e = 0) = false := decide_eq_false hc
 refine zf true 0 Try.func38 Try.ntmps38 ?_
 dsimp only [Tmp, TypeId, slotsOf]
 refine zh1 (za0 ?_)
 refine awp_freeze1 1 0 (.ip none [aI f.name, eBlocks f.blocks]) rfl (by simp [AObj.isSpare]) trivial rfl ?_ ?_
 rotate_left
 simp -dsimp only [simprocAttr, ↓vpre, zp]
 ·refine zh2 ?_
  refine zi hck ?_
  refine za0 ?_
  refine zg1 ?_
  simp -dsimp only [simprocAttr, ↓vpre, zp, hde]
  refine za0 ?_
  refine zw0 rfl ?_
  refine zh1 (za0 ?_)
  refine awp_ret ?_
  simp -dsimp only [simprocAttr, ↓vpre, zp, zr, Try.results38]
  simp [uptoL, AVal.upto]
 exact FSub.mp rfl rfl
end Go.Proofs.Ytlclgfgmhnmnaaa
namespace Go.Av
theorem cert_buildSlice_os {P : Program} {tab : Tab} (hT : TabOK P tab) {o : Oper} {σ : St} {t e : TypeId} {len : Nat} {parts : Array (Nat × Operand)} {ti te : TInfo} {ps : List (Nat × AVal)} {xs : List AVal}
    (ho : o.op = .buildSlice t len parts) (hd : ∀ d, o.dst = some d → d < σ.n) (ht : tab t = some ti) (hdesc : ti.desc = .slice e) (he : tab e = some te) (hpos : 0 < te.size) (hev : σ.evParts parts.toList = some ps) (hfl : ∀ p ∈ ps, p.2.flat)
    (hseq : seqParts 0 ps = some xs) (hlen : xs.length = len) (hsz : ∀ x ∈ xs, x.cells.length = te.size) (hsm : len * te.size ≤ 2 ^ 24) (hz : len ≠ 0) : Cert P o σ (.os σ.objs.length len te.size) (.write (σ.objs ++ [.cells (cellsAll xs)])) :=
  Cert.ofRun hd fun base σ' a g hrel h ho' => by
    have hO : g.objs = σ.objs := ho'.resolve_left (by simp)
    have hg := hrel.good
    have hpr := evParts_rel (a := a) (g := g) (fun x hx y hy => h x (by simpa [ho, Op.operands] using hx) y hy) hev hfl
    have hu := slice_desc hT ht hdesc
    obtain ⟨⟨i, z, h1, h2, h3, h4, h5, h6, h7, h8, h9⟩, _⟩ := hT e te he
    have hps := seqParts_eq hseq
    have hsc : ∀ x ∈ xs, ∀ c ∈ x.cells, c.scalar := by
      have aux : ∀ {ps : List (Nat × AVal)} {vs : List (Nat × Value)}, PRel g ps vs → ∀ p ∈ ps, ∀ c ∈ p.2.cells, c.scalar := by
        intro ps vs hr
        induction hr with
        | nil => intro p hp; cases hp
        | cons hx hf r ih =>
          intro p hp
          rcases List.mem_cons.1 hp with hp | hp
          · subst hp
            exact hx.cells_scalar hf
          exact ih p hp
      intro x hx c hc
      have hmem : ∃ k, (k, x) ∈ ps := by
        obtain ⟨k, hk⟩ := List.getElem?_of_mem hx
        refine ⟨0 + k, ?_⟩
        rw [hps, List.mem_map]
        refine ⟨(x, 0 + k), ?_, rfl⟩
        rw [List.mem_iff_getElem?]
        exact ⟨k, by simp [hk]⟩
      obtain ⟨k, hk⟩ := hmem
      exact aux hpr _ hk c hc
    have hne : ¬ len * i.size = 0 := by
      rw [h2]
      intro e0
      rcases Nat.mul_eq_zero.1 e0 with q | q <;> omega
    obtain ⟨zs, hzs⟩ : ∃ zs : Array Value, zs = (Array.range (len * i.size)).map (z.cells[· % z.cells.size]!) := ⟨_, rfl⟩
    have hzsz : zs.size = len * te.size := by rw [hzs]; simp [h2]
    obtain ⟨zc, hzc, hzr, hzl⟩ : ∃ zc : List AVal, (∀ c ∈ zc, c.scalar) ∧ RVs g zc zs ∧ zc.length = len * te.size := by
      refine ⟨(List.range (len * te.size)).map fun j => te.zero.getD (j % te.size) (.v (.bool false)), fun c hc => ?_, ⟨by simp [hzsz], fun j c u hj hju => ?_⟩, by simp⟩
      · rw [List.mem_map] at hc
        obtain ⟨j, _, e⟩ := hc
        subst e
        have hlt : j % te.size < te.zero.length := by rw [h6]; exact Nat.mod_lt _ hpos
        rw [List.getD_eq_getElem?_getD, List.getElem?_eq_getElem hlt]
        exact h9 _ (List.getElem_mem hlt)
      have hj' := lt_of_getElem? hj
      simp only [List.length_map, List.length_range] at hj'
      rw [List.getElem?_map, List.getElem?_range hj'] at hj
      simp only [Option.map_some, Option.some.injEq] at hj
      subst hj
      have hlt : j % te.size < te.zero.length := by rw [h6]; exact Nat.mod_lt _ hpos
      have hlt' : j % te.size < z.cells.size := by rw [h5]; exact hlt
      rw [hzs] at hju
      simp only [Array.getElem?_map, h2, Array.getElem?_range, if_pos hj', Option.map_some, Option.some.injEq] at hju
      subst hju
      rw [List.getD_eq_getElem?_getD, List.getElem?_eq_getElem hlt]
      refine h8 g (j % te.size) _ _ (List.getElem?_eq_getElem hlt) ?_
      rw [h5, h6]
      simp [hlt']
    have hfill : ∃ cs', fillA (fun i => some (i * te.size, te.size)) zc ps = some cs' := by
      have aux : ∀ (ys : List AVal) (k : Nat) (cs : List AVal), (∀ y ∈ ys, y.cells.length = te.size) → (k + ys.length) * te.size ≤ cs.length → ∃ cs', fillA (fun i => some (i * te.size, te.size)) cs ((ys.zipIdx k).map fun p => (p.2, p.1)) = some cs' := by
        intro ys
        induction ys with
        | nil => intro k cs _ _; exact ⟨cs, rfl⟩
        | cons y ys ih =>
          intro k cs hy hl
          simp only [List.zipIdx_cons, List.map_cons, fillA]
          simp only [List.length_cons] at hl
          have hk1 : (k + 1) * te.size = k * te.size + te.size := Nat.succ_mul k te.size
          have hmono : (k + 1) * te.size ≤ (k + (ys.length + 1)) * te.size := Nat.mul_le_mul_right _ (by omega)
          have hc : y.cells.length = te.size ∧ k * te.size + te.size ≤ cs.length := ⟨hy y (by simp), by omega⟩
          rw [if_pos hc]
          refine ih (k + 1) _ (fun z hz => hy z (List.mem_cons_of_mem _ hz)) ?_
          rw [splice_length (by omega), show k + 1 + ys.length = k + (ys.length + 1) by omega]
          exact hl
      rw [hps]
      exact aux xs 0 zc hsz (by rw [hzl, hlen, Nat.zero_add]; exact Nat.le_refl _)
    obtain ⟨cs', hcs'⟩ := hfill
    obtain ⟨arr', q1, q2, _⟩ := fill_spec (fun i => some (i * te.size, te.size)) hpr hzr hcs'
    obtain ⟨e1, _⟩ := fillA_seq xs 0 zc cs' (by rw [← hps]; exact hcs') (by rw [hzl, hlen, Nat.zero_add]; exact Nat.le_refl _)
    have e2 : cs' = cellsAll xs := by
      rw [e1]
      simp only [Nat.zero_mul, List.take_zero, List.nil_append, Nat.zero_add]
      rw [List.drop_of_length_le (by rw [hzl, hlen]; omega), List.append_nil]
    subst e2
    have hrun : (Instr.buildSlice t len (parts.map fun (i, x) => (i, a.eval x))).run P g.w = .ok (.slice (some ⟨g.w.heap.size, 0, none⟩) len len) (g.w.alloc (.cells arr' e)) := by
      have hbig : ¬ len * i.size > 2 ^ 24 := by rw [h2]; omega
      rw [hzs, ← h2] at q1
      have q1' : Instr.fill (fun i_1 => some (i_1 * i.size, i.size)) ((Array.range (len * i.size)).map (z.cells[· % z.cells.size]!)) (parts.map fun (i, x) => (i, a.eval x)).toList = some arr' := by
        rw [Array.toList_map]
        exact q1
      simp only [Instr.buildSlice, run_underlying hu, Go.sizeOf, typeInfo, Go.zeroValue, Sem.run_bind, run_program, Result.andThen_ok, h1, Sem.run_pure, Go.newRow]
      rw [if_neg hbig, if_neg hne]
      simp only [Sem.run_bind, Sem.run_pure, Result.andThen_ok, run_program, h1, h4, q1', run_newObj]
      rfl
    have hle := Le.alloc hg (.cells arr' e) 0 (.cells (cellsAll xs))
    have hsize : arr'.size = len * te.size := by
      rw [q2.1, ← hlen]
      have : ∀ ys : List AVal, (∀ y ∈ ys, y.cells.length = te.size) → (cellsAll ys).length = ys.length * te.size := fun ys => by
        induction ys with
        | nil => intro _; simp [cellsAll]
        | cons y ys ih =>
          intro hy
          have h1 := ih fun z hz => hy z (by simp [hz])
          have h2 := hy y (by simp)
          simp only [cellsAll, List.flatMap_cons, List.length_append, List.length_cons] at h1 ⊢
          rw [h1, h2, Nat.succ_mul]
          omega
      exact this xs hsz
    have hscA : ∀ c ∈ cellsAll xs, c.scalar := fun c hc => by
      simp only [cellsAll, List.mem_flatMap] at hc
      obtain ⟨x, hx, hc⟩ := hc
      exact hsc x hx c hc
    refine ⟨.slice (some ⟨g.w.heap.size, 0, none⟩) len len, g.alloc (.cells arr' e) 0 (.cells (cellsAll xs)), .inl (by simp [execOp, ho, hrun, G.alloc]), hle, Good.alloc hg _ 0 _ (.inr rfl) ⟨_, e, rfl, by rw [q2.1]; exact Nat.le_refl _, (q2.mono hle).2, hscA⟩, by simp [G.alloc, hO, Mode.post], ?_⟩
    rw [← hO]
    exact .os (l := ⟨g.w.heap.size, 0, arr'.size⟩) (env_new hg) objs_new (by simp [AObj.isSpare]) (Nat.le_refl _) (by rw [hsize]; exact Nat.le_refl _) (by
      have : len ≤ len * te.size := Nat.le_mul_of_pos_right _ hpos
      omega)
theorem FSub.os {O : List AObj} {id len sz : Nat} {cs xs : List AVal} (hid : O[id]? = some (.cells cs)) (hsz : ∀ x ∈ xs, x.cells.length = sz) (hlen : xs.length = len) (hd : ((cs.drop 0).take (len * sz)).map AVal.shareCell = cellsAll xs) : FSub O id (.os id len sz) (.lst sz xs .sh) := fun g u l' hg hO he hle h => by
  obtain ⟨l, o1, cap', h1, h2, _, hlc, _, hmax, eu⟩ := h.os_inv
  subst eu
  rw [he] at h1
  simp only [Option.some.injEq] at h1
  subst h1
  have hid' : g.objs[id]? = some (.cells cs) := by rw [hO]; exact hid
  obtain ⟨arr, t', hlo, hrow, hal, hcs, hcsc, _⟩ := hg.row hid' he
  subst hlen
  have key : ∀ (j : Nat) (c : AVal), (cellsAll xs)[j]? = some c → ∃ c', cs[0 + j]? = some c' ∧ c'.shareCell = c := fun j c hj => by
    rw [← hd, List.getElem?_map, Option.map_eq_some_iff] at hj
    obtain ⟨c', hj, e⟩ := hj
    have := take_get hj
    rw [List.getElem?_drop] at this
    exact ⟨c', this, e⟩
  refine .lst hsz (fun x hx c hc => ?_) hlc hmax (fun _ => rfl) (fun j => arr.getD (0 + j) undef) (fun j c hj => ?_) (fun j c hj => ?_) trivial
  · have hmem : c ∈ cellsAll xs := by
      simp only [cellsAll, List.mem_flatMap]
      exact ⟨x, hx, hc⟩
    obtain ⟨j, hj⟩ := List.getElem?_of_mem hmem
    obtain ⟨c', hj', e⟩ := key j c hj
    subst e
    exact AVal.scalar_shareCell (hcsc c' (List.mem_of_getElem? hj'))
  · obtain ⟨c', hj', e⟩ := key j c hj
    have hlt := lt_of_getElem? hj'
    refine ⟨?_, freeze_own hg he hid' trivial _⟩
    show g.w.cell? _ = _
    simp only
    rw [cell_of_row hrow]
    simp [Array.getD_eq_getD_getElem?, show j < arr.size by omega]
  obtain ⟨c', hj', e⟩ := key j c hj
  have hlt := lt_of_getElem? hj'
  subst e
  exact ((hcs _ c' _ hj' (by simp [Array.getD_eq_getD_getElem?, show j < arr.size by omega])).mono hle).shareCell
theorem midOp_os {P : Program} {tab : Tab} {md : Md} (hT : TabOK P tab) {o : Oper} {l2 : List Oper} {Q : AEx → St → Prop} {σ : St} {t e : TypeId} {len d : Nat} {parts : Array (Nat × Operand)} {ti te : TInfo} {ps : List (Nat × AVal)} {xs : List AVal}
    (ho : o.op = .buildSlice t len parts) (hdst : o.dst = some d) (hd : d < σ.n) (ht : tab t = some ti) (hdesc : ti.desc = .slice e) (he : tab e = some te) (hpos : 0 < te.size) (hev : σ.evParts parts.toList = some ps) (hfl : ∀ p ∈ ps, p.2.flat)
    (hseq : seqParts 0 ps = some xs) (hlen : xs.length = len) (hsz : ∀ x ∈ xs, x.cells.length = te.size) (hsm : len * te.size ≤ 2 ^ 24) (hz : len ≠ 0)
    (h : vcOps P tab md l2 0 [] ⟨σ.n, putO o.dst (.os σ.objs.length len te.size) σ.slots, σ.objs ++ [.cells (cellsAll xs)]⟩ [] fun ρ _ => At ρ (Q .norm)) : MidOp P tab md o l2 Q σ :=
  ⟨_, _, cert_buildSlice_os hT ho (fun d' e => by rw [hdst] at e; cases e; exact hd) ht hdesc he hpos hev hfl hseq hlen hsz hsm hz, h⟩
end Go.Av
namespace Go.Proofs.Ytlclgfgmhnmnaaa
open Go.Av
def outV (oid : Nat) (l : List Int) : AVal := if l = [] then .lst 1 [] .ex else .os oid l.length 1
theorem cellsAll_v (x : Value) : cellsAll [AVal.v x] = [AVal.v x] := rfl
theorem cells_os' (id len sz : Nat) : (AVal.os id len sz).cells = [AVal.os id len sz] := rfl
theorem leave_nil {O : List AObj} (hup : ∀ o ∈ O, o.upto O.length) (h1 : O[1]? = some (.cells [.lst 1 [] .ex])) (k : Int) :
  ECall Try.prog 84 O [aI k, .mp 1 0] (fun r O' => r = .tup [] ∧ O' = (O ++ [AObj.cells [aI k]]).set 1 (.cells [.os O.length 1 1])) := by
 have hl := lt_of_getElem? h1
 have h1' : ∀ X, (O ++ X)[1]? = some (.cells [.lst 1 [] .ex]) := fun X => at_left h1
 have hkk : O.length ≤ O.length + 1 := by omega
 refine ecall_of hT true (O.length + 1) Try.func84 rfl (by kernel_rfl) (by simp [Try.ntmps84]) (by assumption) ?_
 show AWP Try.prog _ _ _ ⟨7, _, _⟩
 dsimp only [Tmp, TypeId, slotsOf]
 have htk : ((O ++ [AObj.cells [AVal.v (.int .i64 k)]]).set 1 (.cells [.os O.length 1 1])).take (O.length + 1) = (O ++ [AObj.cells [AVal.v (.int .i64 k)]]).set 1 (.cells [.os O.length 1 1]) := List.take_of_length_le (by simp)
 refine zs0 ?_
 simp -dsimp only [simprocAttr, ↓vpre, zp, h1, h1', cellsAll_v, cells_os']
 refine ⟨trivial, ?_⟩
 refine at_intro ?_
 simp -dsimp only [simprocAttr, ↓vpre, zp, zr, Try.results84, htk, List.length_set, List.length_append]
 exact ⟨uptoO_set (uptoO_snoc (fun o ho => AObj.upto_mono (by omega) (hup o ho)) ⟨trivial, trivial⟩) ⟨show _ < _ by omega, trivial⟩, trivial⟩
theorem leave_os {O : List AObj} (hup : ∀ o ∈ O, o.upto O.length) {oid : Nat} {l : List Int} (h1 : O[1]? = some (.cells [.os oid l.length 1])) (h2 : O[oid]? = some (.cells (l.map aI))) (ho : oid ≠ 1) (hll : l.length ≤ 1000) (k : Int) :
  ECall Try.prog 84 O [aI k, .mp 1 0] (fun r O' => r = .tup [] ∧ O' = (O.set oid .gone ++ [AObj.cells ((l ++ [k]).map aI)]).set 1 (.cells [.os O.length (l.length + 1) 1])) := by
 have hl := lt_of_getElem? h1
 have h1' : ∀ X, (O.set oid .gone ++ X)[1]? = some (.cells [.os oid l.length 1]) := fun X => at_left (at_set_ne h1 ho)
 have hkk : O.length ≤ O.length + 1 := by omega
 refine ecall_of hT true (O.length + 1) Try.func84 rfl (by kernel_rfl) (by simp [Try.ntmps84]) (by assumption) ?_
 show AWP Try.prog _ _ _ ⟨7, _, _⟩
 dsimp only [Tmp, TypeId, slotsOf]
 refine zs0 ?_
 simp -dsimp only [simprocAttr, ↓vpre, zp, h1, h1', h2, cellsAll_v, cells_os']
 refine ⟨by simp, by omega, by omega, ?_⟩
 have hTT : (l.map aI).take (l.length * 1) = l.map aI := List.take_of_length_le (by simp)
 have htk : ((O.set oid .gone ++ [AObj.cells (l.map aI ++ [AVal.v (.int .i64 k)])]).set 1 (.cells [.os O.length (l.length + 1) 1])).take (O.length + 1) = (O.set oid .gone ++ [AObj.cells (l.map aI ++ [AVal.v (.int .i64 k)])]).set 1 (.cells [.os O.length (l.length + 1) 1]) := List.take_of_length_le (by simp)
 refine ⟨trivial, ?_⟩
 refine at_intro ?_
 simp -dsimp only [simprocAttr, ↓vpre, zp, zr, Try.results84, hTT, htk, List.length_set, List.length_append]
 refine ⟨uptoO_set (uptoO_snoc (uptoO_set (fun o ho => AObj.upto_mono (by omega) (hup o ho)) trivial) ?_) ⟨show _ < _ by omega, trivial⟩, trivial, by simp⟩
 show uptoL _ _
 have := aI_upto (O.length + 1) (l ++ [k])
 simpa using this
def nextF (x v : Int) : Int := max x (v + 1)
def blkVals (b : Block) : List Int := b.params ++ b.ins.map Ins.to
def valsF (f : Func) : List Int := f.blocks.flatMap blkVals
def freshM (f : Func) : Int := (valsF f).foldl nextF 0
def ValsW (f : Func) : Prop := ∀ v ∈ valsF f, 0 ≤ v ∧ v ≤ 4095
end Go.Proofs.Ytlclgfgmhnmnaaa
namespace Go.Av

end Go.Av
namespace Go.Proofs.Ytlclgfgmhnmnaaa
open Go.Av
theorem eB_upto (n : Nat) (l : List Bool) : uptoL n (l.map eB) := by
  rw [uptoL_iff]
  intro x hx
  obtain ⟨b, _, rfl⟩ := List.mem_map.1 hx
  trivial
theorem falses_flat (n : Nat) : (List.replicate n [AVal.v (.bool false)]).flatten = (List.replicate n false).map eB := by
  induction n with
  | zero => rfl
  | succ n ih => rw [List.replicate_succ, List.flatten_cons, ih, List.replicate_succ]; rfl
def ownF : List Bool → Own
  | [] => .ex
  | _ => .nn
def eF (l : List Bool) : AVal := .lst 1 (l.map eB) (ownF l)
def eH : List Bool → AVal
  | [] => .v (.slice none 0 0)
  | a :: r => .lst 1 ((a :: r).map eB) .nn
def lifeC (f : Func) (many : Nat) (B N : Nat) : List AVal := [aI f.name, eBlocks f.blocks, aI many, .ms B 0 N N]
def putB (l : List Bool) (v : Int) (b : Bool) : List Bool := l.set v.toNat b
def putAll (l : List Bool) (vs : List Int) : List Bool := vs.foldl (fun s v => putB s v true) l
def backI (i : Ins) (now : List Bool) : List Bool := putAll (putB now i.to false) i.args
def backM (l : List Ins) (now : List Bool) : List Bool := l.foldr backI now
def lastV (ps : List Int) : Nat → List Bool → List Bool → List Bool
  | _, [], out => out
  | v, is :: r, out => lastV ps (v + 1) r (if is && !hasI ps v then out.set v true else out)
def firstAt (first : List (List Bool)) (k : Int) : List Bool := first[k.toNat]?.getD []
def lastE (f : Func) (first : List (List Bool)) (out : List Bool) (e : Edge) : List Bool := lastV (blkOf f e.block).params 0 (firstAt first e.block) out
def usesArg (t : Term) : Bool := !decide (t.kind = 1) && !decide (t.kind = 4)
def lastA (t : Term) (o : List Bool) : List Bool := t.to.foldl (fun o e => putAll o e.args) (if usesArg t then putB o t.arg true else o)
def lastM (f : Func) (many : Nat) (first : List (List Bool)) (t : Term) : List Bool := lastA t (t.to.foldl (lastE f first) (List.replicate many false))
def listM : Nat → List Bool → List Int
  | _, [] => []
  | v, is :: r => if is then (v : Int) :: listM (v + 1) r else listM (v + 1) r
structure Sr where
  seen : List Bool
  st : List (Int × Int)
  out : List Int
def toOf (f : Func) (b : Int) : List Edge := (blkOf f b).term.to
def nextOf (f : Func) (b e : Int) : Int := ((toOf f b)[e.toNat]?.getD default).block
def srStep (f : Func) (S : Sr) : Sr :=
  match S.st with
  | [] => S
  | (b, e) :: r =>
    if e = (toOf f b).length then ⟨S.seen, r, S.out ++ [b]⟩
    else if S.seen[(nextOf f b e).toNat]?.getD false = true then ⟨S.seen, (b, e + 1) :: r, S.out⟩
    else ⟨S.seen.set (nextOf f b e).toNat true, (nextOf f b e, 0) :: (b, e + 1) :: r, S.out⟩
def srRun (f : Func) : Nat → Sr → Sr
  | 0, S => S
  | n + 1, S => if S.st.isEmpty then S else srRun f n (srStep f S)
def srStart (f : Func) : Sr := ⟨(List.replicate f.blocks.length false).set 0 true, [(0, 0)], []⟩
def searchM (f : Func) : List Int := (srRun f 100000 (srStart f)).out
structure SrOK (f : Func) (S : Sr) : Prop where
  len : S.seen.length = f.blocks.length
  blk : ∀ p ∈ S.st, 0 ≤ p.1 ∧ p.1 < f.blocks.length ∧ 0 ≤ p.2 ∧ p.2 ≤ (toOf f p.1).length
  few : S.out.length + S.st.length ≤ S.seen.countP id
  outs : ∀ b ∈ S.out, 0 ≤ b ∧ b < f.blocks.length
def stW : List (Int × Int) → Nat
  | [] => 0
  | p :: r => (258 - p.2.toNat) + stW r
def srW (S : Sr) : Nat := 300 * (S.seen.length - S.seen.countP id) + stW S.st
structure GrW (f : Func) : Prop where
  ne : f.blocks ≠ []
  few : f.blocks.length ≤ 128
  to : ∀ b ∈ f.blocks, b.term.to.length ≤ 257
  edges : ∀ b ∈ f.blocks, ∀ e ∈ b.term.to, 1 ≤ e.block ∧ e.block < f.blocks.length
theorem FnW.gr {f : Func} (h : FnW f) : GrW f :=
  ⟨h.ne, h.few, fun b hb => to_few (end_ok (h.blk b hb).fin), fun b hb e he => by
    have := ((end_ok (h.blk b hb).fin).edges e he).1
    omega⟩
theorem GrW.next {f : Func} (h : GrW f) {b e : Int} (hb : 0 ≤ b ∧ b < f.blocks.length) (h0 : 0 ≤ e) (h1 : e < (toOf f b).length) : ∃ x, (toOf f b)[e.toNat]? = some x ∧ x.block = nextOf f b e ∧ 1 ≤ nextOf f b e ∧ nextOf f b e < f.blocks.length := by
  have hlt : e.toNat < (toOf f b).length := by omega
  have hx : (toOf f b)[e.toNat]? = some (toOf f b)[e.toNat] := List.getElem?_eq_getElem hlt
  refine ⟨_, hx, by rw [nextOf, hx]; rfl, ?_⟩
  have := h.edges _ (blkOf_mem hb.1 hb.2) (toOf f b)[e.toNat] (List.getElem_mem hlt)
  rw [nextOf, hx]
  exact this
theorem countP_set_true {l : List Bool} {k : Nat} (hk : k < l.length) (h : l[k]?.getD false = false) : (l.set k true).countP id = l.countP id + 1 := by
  induction l generalizing k with
  | nil => simp at hk
  | cons a r ih =>
    cases k with
    | zero =>
      simp only [List.getElem?_cons_zero, Option.getD_some] at h
      subst h
      simp
    | succ k =>
      simp only [List.getElem?_cons_succ] at h
      have := ih (by simpa using hk) h
      simp only [List.set_cons_succ, List.countP_cons, this]
      omega
theorem srStep_ok {f : Func} (hg : GrW f) {S : Sr} (h : SrOK f S) (hne : S.st ≠ []) : SrOK f (srStep f S) ∧ srW (srStep f S) < srW S := by
  obtain ⟨seen, st, out⟩ := S
  cases st with
  | nil => exact absurd rfl hne
  | cons p r =>
    obtain ⟨b, e⟩ := p
    obtain ⟨h1, h2, h3, h4⟩ := h
    simp only at h1 h2 h3 h4
    have hp := h2 (b, e) (by simp)
    simp only at hp
    have hto : (toOf f b).length ≤ 257 := hg.to _ (blkOf_mem hp.1 hp.2.1)
    have hc : seen.countP id ≤ seen.length := List.countP_le_length
    simp only [List.length_cons] at h3
    simp only [srStep]
    by_cases he : e = (toOf f b).length
    · rw [if_pos he]
      refine ⟨⟨h1, fun p hp => h2 p (by simp [hp]), by simp only [List.length_append, List.length_cons, List.length_nil]; omega, fun x hx => ?_⟩, ?_⟩
      · rcases List.mem_append.1 hx with q | q
        · exact h4 x q
        simp only [List.mem_singleton] at q
        subst q
        exact ⟨hp.1, hp.2.1⟩
      simp only [srW, stW]
      omega
    rw [if_neg he]
    obtain ⟨x, hx, hxb, hn1, hn2⟩ := hg.next ⟨hp.1, hp.2.1⟩ hp.2.2.1 (by omega)
    by_cases hs : seen[(nextOf f b e).toNat]?.getD false = true
    · rw [if_pos hs]
      refine ⟨⟨h1, fun p hpm => ?_, by simpa using h3, h4⟩, ?_⟩
      · rcases List.mem_cons.1 hpm with q | q
        · subst q
          exact ⟨hp.1, hp.2.1, by simp only; omega, by simp only; omega⟩
        exact h2 p (by simp [q])
      simp only [srW, stW]
      omega
    rw [if_neg hs]
    have hs' : seen[(nextOf f b e).toNat]?.getD false = false := by simpa using hs
    have hk : (nextOf f b e).toNat < seen.length := by omega
    have hcs := countP_set_true hk hs'
    have hcl : (seen.set (nextOf f b e).toNat true).countP id ≤ (seen.set (nextOf f b e).toNat true).length := List.countP_le_length
    rw [List.length_set] at hcl
    refine ⟨⟨by simpa using h1, fun p hpm => ?_, by simp only [List.length_cons, hcs]; omega, h4⟩, ?_⟩
    · rcases List.mem_cons.1 hpm with q | q
      · subst q
        exact ⟨by simp only; omega, hn2, by simp, by simp⟩
      rcases List.mem_cons.1 q with q | q
      · subst q
        exact ⟨hp.1, hp.2.1, by simp only; omega, by simp only; omega⟩
      exact h2 p (by simp [q])
    simp only [srW, stW, List.length_set, hcs]
    omega
theorem srRun_ok {f : Func} (hg : GrW f) : ∀ (n : Nat) (S : Sr), SrOK f S → srW S < n → SrOK f (srRun f n S) ∧ (srRun f n S).st = []
  | 0, S, _, h => by omega
  | n + 1, S, h, hw => by
    simp only [srRun]
    cases hst : S.st with
    | nil => simpa [hst] using h
    | cons p r =>
      simp only [List.isEmpty_cons, Bool.false_eq_true, if_false]
      have := srStep_ok hg h (by rw [hst]; simp)
      exact srRun_ok hg n _ this.1 (by omega)
theorem srStart_ok {f : Func} (hg : GrW f) : SrOK f (srStart f) ∧ srW (srStart f) < 100000 := by
  have hl : 0 < f.blocks.length := by
    cases hb : f.blocks with
    | nil => exact absurd hb hg.ne
    | cons => simp
  have hfew := hg.few
  have hc : ((List.replicate f.blocks.length false).set 0 true).countP id = 1 := by
    rw [countP_set_true (by simpa using hl) (by simp [hl])]
    simp [List.countP_replicate]
  refine ⟨⟨by simp [srStart], fun p hp => ?_, by simp only [srStart, hc]; simp, by simp [srStart]⟩, ?_⟩
  · simp only [srStart, List.mem_singleton] at hp
    subst hp
    exact ⟨by simp, by simp; omega, by simp, by simp⟩
  simp only [srW, srStart, hc, List.length_set, List.length_replicate, stW]
  simp
  omega
def stkC : List (Int × Int) → List AVal
  | [] => []
  | p :: r => stkC r ++ [aI p.1, aI p.2]
theorem stkC_len : ∀ l : List (Int × Int), (stkC l).length = l.length * 2
  | [] => rfl
  | p :: r => by
    simp only [stkC, List.length_append, stkC_len r, List.length_cons, List.length_nil]
    omega
theorem stkC_upto (n : Nat) : ∀ l : List (Int × Int), uptoL n (stkC l)
  | [] => trivial
  | p :: r => by
    rw [uptoL_iff]
    intro x hx
    rcases List.mem_append.1 hx with q | q
    · exact uptoL_iff.1 (stkC_upto n r) x q
    simp only [List.mem_cons, List.not_mem_nil, or_false] at q
    rcases q with rfl | rfl <;> trivial
structure So where
  S : Sr
  sid : Nat
  oid : Nat
  O : List AObj
def cellsAt (O : List AObj) (id : Nat) : List AVal :=
  match O[id]? with
  | some (.cells cs) => cs
  | _ => []
def outPush (O : List AObj) (oid : Nat) (out : List Int) (b : Int) : List AObj :=
  if out = [] then (O ++ [AObj.cells [aI b]]).set 1 (.cells [.os O.length 1 1])
  else (O.set oid .gone ++ [AObj.cells ((out ++ [b]).map aI)]).set 1 (.cells [.os O.length (out.length + 1) 1])
def soStep (f : Func) (X : So) : So :=
  match X.S.st with
  | [] => X
  | (b, e) :: r =>
    if e = (toOf f b).length then ⟨srStep f X.S, X.sid, X.O.length, outPush X.O X.oid X.S.out b⟩
    else
      let cs := (cellsAt X.O X.sid).set (r.length * 2 + 1) (aI (e + 1))
      let O1 := X.O.set X.sid (.cells cs)
      if X.S.seen[(nextOf f b e).toNat]?.getD false = true then ⟨srStep f X.S, X.sid, X.oid, O1⟩
      else
        let O2 := O1.set 2 (.cells ((X.S.seen.set (nextOf f b e).toNat true).map eB))
        ⟨srStep f X.S, O2.length, X.oid, O2.set X.sid .gone ++ [AObj.cells (cs.take ((r.length + 1) * 2) ++ [aI (nextOf f b e), aI 0])]⟩
def soRun (f : Func) : Nat → So → So
  | 0, X => X
  | n + 1, X => if X.S.st.isEmpty then X else soRun f n (soStep f X)
theorem soStep_S (f : Func) (X : So) : (soStep f X).S = srStep f X.S := by
  unfold soStep
  cases hst : X.S.st with
  | nil => simp [srStep, hst]
  | cons p r =>
    simp only
    split
    · rfl
    split <;> rfl
theorem soRun_S (f : Func) : ∀ (n : Nat) (X : So), (soRun f n X).S = srRun f n X.S
  | 0, X => rfl
  | n + 1, X => by
    simp only [soRun, srRun]
    split
    · rfl
    rw [soRun_S f n, soStep_S]
structure SO (X : So) : Prop where
  up : ∀ o ∈ X.O, o.upto X.O.length
  out : X.O[1]? = some (.cells [outV X.oid X.S.out])
  outs : X.S.out ≠ [] → X.O[X.oid]? = some (.cells (X.S.out.map aI)) ∧ X.oid ≠ X.sid ∧ 2 < X.oid
  seen : X.O[2]? = some (.cells (X.S.seen.map eB))
  stk : ∃ junk, X.O[X.sid]? = some (.cells (stkC X.S.st ++ junk))
  sne : 2 < X.sid
theorem SO.step {f : Func} {X : So} (h : SO X) : SO (soStep f X) := by
  obtain ⟨⟨seen, st, out⟩, sid, oid, O⟩ := X
  obtain ⟨h1, h2, h3, h4, ⟨junk, h5⟩, h6⟩ := h
  simp only at h1 h2 h3 h4 h5 h6
  have l1 := lt_of_getElem? h2
  have l2 := lt_of_getElem? h4
  have l5 := lt_of_getElem? h5
  cases st with
  | nil => exact ⟨h1, h2, h3, h4, ⟨junk, h5⟩, h6⟩
  | cons p r =>
    obtain ⟨b, e⟩ := p
    simp only [soStep, srStep]
    by_cases he : e = (toOf f b).length
    · rw [if_pos he, if_pos he]
      by_cases ho : out = []
      · subst ho
        simp only [outPush, if_true, List.nil_append]
        refine ⟨?_, ?_, fun _ => ⟨?_, by simp only; omega, by simp only; omega⟩, ?_, ⟨[aI b, aI e] ++ junk, ?_⟩, h6⟩
        · have := uptoO_set (n := O.length + 1) (k := 1) (x := .cells [.os O.length 1 1]) (uptoO_snoc (fun o ho => AObj.upto_mono (by omega) (h1 o ho)) (x := .cells [aI b]) ⟨trivial, trivial⟩) ⟨show _ < _ by omega, trivial⟩
          simpa using this
        · simp only
          rw [List.getElem?_set_self (by simp; omega)]
          rfl
        · simp only
          rw [List.getElem?_set_ne (by omega), List.getElem?_append_right (Nat.le_refl _)]
          simp
        · simp only
          rw [List.getElem?_set_ne (by omega), List.getElem?_append_left l2]
          exact h4
        simp only
        rw [List.getElem?_set_ne (by omega), List.getElem?_append_left l5, h5]
        simp [stkC]
      obtain ⟨k1, k2, k3⟩ := h3 ho
      have lo := lt_of_getElem? k1
      simp only [outPush, if_neg ho]
      refine ⟨?_, ?_, fun _ => ⟨?_, by simp only; omega, by simp only; omega⟩, ?_, ⟨[aI b, aI e] ++ junk, ?_⟩, h6⟩
      · have := uptoO_set (n := O.length + 1) (k := 1) (x := .cells [.os O.length (out.length + 1) 1]) (uptoO_snoc (uptoO_set (k := oid) (x := .gone) (fun o ho => AObj.upto_mono (by omega) (h1 o ho)) trivial) (x := .cells ((out ++ [b]).map aI)) (aI_upto _ _)) ⟨show _ < _ by omega, trivial⟩
        simpa using this
      · simp only
        rw [List.getElem?_set_self (by simp; omega)]
        simp [outV]
      · simp only
        rw [List.getElem?_set_ne (by omega), List.getElem?_append_right (by simp)]
        simp
      · simp only
        rw [List.getElem?_set_ne (by omega), List.getElem?_append_left (by simpa using l2), List.getElem?_set_ne (by omega)]
        exact h4
      simp only
      rw [List.getElem?_set_ne (by omega), List.getElem?_append_left (by simpa using l5), List.getElem?_set_ne (by omega), h5]
      simp [stkC]
    rw [if_neg he, if_neg he]
    have hcs : (cellsAt O sid).set (r.length * 2 + 1) (aI (e + 1)) = stkC ((b, e + 1) :: r) ++ junk := by
      simp only [cellsAt, h5, stkC]
      rw [List.append_assoc, List.set_append_right _ _ (by rw [stkC_len]; omega), stkC_len, show r.length * 2 + 1 - r.length * 2 = 1 by omega]
      simp
    rw [hcs]
    have hju : uptoL O.length junk := by
      rw [uptoL_iff]
      intro x hx
      have := h1 _ (List.mem_of_getElem? h5)
      exact uptoL_iff.1 this x (List.mem_append.2 (.inr hx))
    have hcu : uptoL O.length (stkC ((b, e + 1) :: r) ++ junk) := by
      rw [uptoL_iff]
      intro x hx
      rcases List.mem_append.1 hx with q | q
      · exact uptoL_iff.1 (stkC_upto _ _) x q
      exact uptoL_iff.1 hju x q
    by_cases hs : seen[(nextOf f b e).toNat]?.getD false = true
    · rw [if_pos hs, if_pos hs]
      refine ⟨?_, ?_, fun ho => ?_, ?_, ⟨junk, ?_⟩, h6⟩
      · have := uptoO_set (n := O.length) (k := sid) (x := .cells (stkC ((b, e + 1) :: r) ++ junk)) h1 hcu
        simpa using this
      · simp only
        rw [List.getElem?_set_ne (by omega)]
        exact h2
      · obtain ⟨k1, k2, k3⟩ := h3 ho
        refine ⟨?_, k2, k3⟩
        simp only
        rw [List.getElem?_set_ne (fun q => k2 q.symm)]
        exact k1
      · simp only
        rw [List.getElem?_set_ne (by omega)]
        exact h4
      simp only
      rw [List.getElem?_set_self l5]
    rw [if_neg hs, if_neg hs]
    skip
    have htk : (stkC ((b, e + 1) :: r) ++ junk).take ((r.length + 1) * 2) = stkC ((b, e + 1) :: r) := by
      rw [List.take_append_of_le_length (by rw [stkC_len]; simp), List.take_of_length_le (by rw [stkC_len]; simp)]
    rw [htk]
    refine ⟨?_, ?_, fun ho => ?_, ?_, ⟨[], ?_⟩, ?_⟩
    · have a1 := uptoO_set (n := O.length) (k := sid) (x := .cells (stkC ((b, e + 1) :: r) ++ junk)) h1 hcu
      have a2 := uptoO_set (k := 2) (x := .cells ((seen.set (nextOf f b e).toNat true).map eB)) a1 (eB_upto _ _)
      have a3 := uptoO_set (k := sid) (x := .gone) a2 trivial
      have a4 := uptoO_snoc (n := O.length + 1) (x := .cells (stkC ((b, e + 1) :: r) ++ [aI (nextOf f b e), aI 0])) (fun o ho => AObj.upto_mono (by omega) (a3 o ho)) (by
        show uptoL _ _
        have := stkC_upto (O.length + 1) ((nextOf f b e, 0) :: (b, e + 1) :: r)
        exact this)
      simpa using a4
    · simp only
      rw [List.getElem?_append_left (by simp; omega), List.getElem?_set_ne (by omega), List.getElem?_set_ne (by omega), List.getElem?_set_ne (by omega)]
      exact h2
    · obtain ⟨k1, k2, k3⟩ := h3 ho
      have lo := lt_of_getElem? k1
      refine ⟨?_, by simp; omega, k3⟩
      simp only
      rw [List.getElem?_append_left (by simpa using lo), List.getElem?_set_ne (fun q => k2 q.symm), List.getElem?_set_ne (by omega), List.getElem?_set_ne (fun q => k2 q.symm)]
      exact k1
    · simp only
      rw [List.getElem?_append_left (by simpa using l2), List.getElem?_set_ne (by omega), List.getElem?_set_self (by simpa using l2)]
    · simp only [List.length_set]
      rw [List.getElem?_append_right (by simp)]
      simp [stkC]
    simp
    omega
def soStart (f : Func) : So := ⟨srStart f, 3, 0, [.gone, .cells [.lst 1 [] .ex], .cells ((srStart f).seen.map eB), .cells [aI 0, aI 0]]⟩
theorem soStart_ok (f : Func) : SO (soStart f) where
 up := by
  intro o ho
  simp only [soStart, List.mem_cons, List.not_mem_nil, or_false] at ho
  rcases ho with rfl | rfl | rfl | rfl
  ·trivial
  ·exact ⟨⟨trivial, trivial⟩, trivial⟩
  ·exact eB_upto _ _
  exact ⟨trivial, trivial, trivial⟩
 out := rfl
 outs := fun h => absurd rfl h
 seen := rfl
 stk := ⟨[], rfl⟩
 sne := by simp [soStart]
theorem search_spec (f : Func) (hg : GrW f) :
  ECall Try.prog 83 [.gone, .cells [.lst 1 [] .ex]] [f.enc, .fn (.func 84) [] [.mp 1 0]] (fun r O' => r = .tup [] ∧ O' = (soRun f 100000 (soStart f)).O) := by
 have hN128 := hg.few
 have hl : 0 < f.blocks.length := by
  cases hb : f.blocks with
  | nil => exact absurd hb hg.ne
  | cons => simp
 obtain ⟨N, hN⟩ : ∃ N, N = f.blocks.length := ⟨_, rfl⟩
 obtain ⟨F, hF⟩ : ∃ F, F = soRun f 100000 (soStart f) := ⟨_, rfl⟩
 rw [← hF]
 have hkk : [AObj.gone, AObj.cells [AVal.lst 1 [] .ex]].length ≤ F.O.length := by
  have key : ∀ (n : Nat) (X : So), SO X → SO (soRun f n X) := fun n => by
   induction n with
   | zero => exact fun X h => h
   | succ n ih =>
    intro X h
    simp only [soRun]
    split
    ·exact h
    exact ih _ h.step
  have := lt_of_getElem? (key 100000 _ (soStart_ok f)).out
  rw [← hF] at this
  simp only [List.length_cons, List.length_nil]
  omega
 refine ecall_of hT true (F.O.length) Try.func83 rfl (by kernel_rfl) (by simp [Try.ntmps83]) (by assumption) ?_
 show AWP Try.prog _ _ _ ⟨81, _, _⟩
 dsimp only [Tmp, TypeId, slotsOf]
 refine zh1 (za0 ?_)
 refine awp_freeze1 2 2 (.ip none [aI f.name, eBlocks f.blocks]) rfl (by simp [AObj.isSpare]) trivial rfl ?_ ?_
 rotate_left
 simp -dsimp only [simprocAttr, ↓vpre, zp]
 ·refine awp_trunc' 2 [(1, .fn (.func 84) [] [.mp 1 0]), (2, .ip none [aI f.name, eBlocks f.blocks])] (by simp) (by omega) [.gone, .cells [.lst 1 [] .ex]] ?_ ?_ ?_ ?_ ?_
  ·rfl
  ·simp [AObj.upto, uptoL, AVal.upto, aI_upto, Block.map_upto]
  ·simp [Says, St.get, putS, dropS, Go.Av.look, Sub.refl]
  ·simp [AObj.upto, uptoL, AVal.upto, aI_upto, Block.map_upto]
  refine zg1 ?_
  simp -dsimp only [simprocAttr, ↓vpre, zp, falses_flat, ← hN]
  refine ⟨by omega, by omega, ?_⟩
  refine za0 ?_
  refine zh1 ?_
  have hspl : splice ((List.replicate N false).map eB) 0 [.v (.bool true)] = (srStart f).seen.map eB := by
   rw [splice_one _ (by simp; omega)]
   simp only [srStart, ← hN, List.map_set]
   rfl
  refine ⟨by omega, by simp; omega, ?_⟩
  rw [hspl]
  refine za0 ?_
  refine awp_seq (awp_mid_op ⟨false, false⟩ hT 1 rfl rfl rfl (by simp) ?_)
  simp -dsimp only [simprocAttr, ↓vpre, zp]
  refine midOp_os hT rfl rfl (by simp) rfl rfl rfl (by simp) rfl (by intro p hp; simp at hp; subst hp; trivial) rfl rfl (by intro x hx; simp at hx; subst hx; rfl) (by simp) (by simp) ?_
  simp -dsimp only [simprocAttr, ↓vpre, zp]
  refine za0 ?_
  have hok0 := srStart_ok hg
  refine awp_block (awp_loop (ι := {X : So // SO X ∧ SrOK f X.S ∧ ∃ n, srW X.S < n ∧ F = soRun f n X}) (fun X => ⟨81, [(1, .fn (.func 84) [] [.mp 1 0]), (2, .ip none [aI f.name, eBlocks f.blocks]), (4, .ms 2 0 N N), (5, .os X.1.sid X.1.S.st.length 2)], X.1.O⟩) (fun X => srW X.1.S) ⟨soStart f, soStart_ok f, hok0.1, 100000, hok0.2, hF⟩ ?_ ?_)
  ·refine zq rfl ?_ ?_
   simp -dsimp only [simprocAttr, ↓vpre, zp, zc]
   all_goals first | rfl | exact Sub.refl _
  rintro ⟨X, hX, hS, n, hn, hnF⟩
  have hXs := hX.step (f := f)
  obtain ⟨⟨seen, st, out⟩, sid, oid, O⟩ := X
  obtain ⟨h1, h2, h3, h4, ⟨junk, h5⟩, h6⟩ := id hX
  simp only at h1 h2 h3 h4 h5 h6 hn
  cases st with
  | nil =>
   refine zh2 (za0 ?_)
   refine zu0 rfl ?_
   refine awp_exit ?_
   simp -dsimp only [vend, ne_eq, Nat.reduceEqDiff, reduceCtorEq]
   have hFO : F.O = O := by
    rw [hnF]
    cases n with
    | zero => rfl
    | succ n => rfl
   skip
   simp -dsimp only [simprocAttr, ↓vpre, zp, zr, Try.results83]
   rw [hFO]
   exact ⟨by simp, by rw [List.take_of_length_le (Nat.le_refl _)]; exact h1, trivial, List.take_of_length_le (Nat.le_refl _)⟩
  | cons p r =>
   obtain ⟨b, e⟩ := p
   have hstep := srStep_ok hg hS (by simp)
   obtain ⟨n, rfl⟩ : ∃ n', n = n' + 1 := ⟨n - 1, by omega⟩
   have hnF' : F = soRun f n (soStep f ⟨⟨seen, (b, e) :: r, out⟩, sid, oid, O⟩) := hnF
   have hSs := soStep_S f ⟨⟨seen, (b, e) :: r, out⟩, sid, oid, O⟩
   have hp := hS.blk (b, e) (by simp)
   simp only at hp
   have hstl : r.length ≤ 128 := by
    have a1 := hS.few
    have a2 : seen.countP id ≤ seen.length := List.countP_le_length
    have a3 := hS.len
    simp only [List.length_cons] at a1 a3
    omega
   have hr2 : ((r.length + 1 : Nat) : Int) - 1 = (r.length : Nat) := by omega
   obtain ⟨B, hB⟩ : ∃ B, B = blkOf f b := ⟨_, rfl⟩
   have hBg := blkOf_at hp.1 hp.2.1
   rw [← hB] at hBg
   have hto : toOf f b = B.term.to := by rw [hB]; rfl
   have hcb : (stkC ((b, e) :: r) ++ junk)[r.length * 2]? = some (aI b) := by
    rw [stkC, List.append_assoc, List.getElem?_append_right (by rw [stkC_len]; omega), stkC_len, Nat.sub_self]
    rfl
   have hce : (stkC ((b, e) :: r) ++ junk)[r.length * 2 + 1]? = some (aI e) := by
    rw [stkC, List.append_assoc, List.getElem?_append_right (by rw [stkC_len]; omega), stkC_len, show r.length * 2 + 1 - r.length * 2 = 1 by omega]
    rfl
   obtain ⟨cs, hcs⟩ : ∃ cs, cs = stkC ((b, e) :: r) ++ junk := ⟨_, rfl⟩
   rw [← hcs] at hcb hce h5
   refine zh2 (za0 ?_)
   apply zk0 rfl <;> intro h
   ·refine zb0 ?_
    refine awp_block ?_
    refine zg1 ?_
    simp -dsimp only [simprocAttr, ↓vpre, zp, hr2]
    repeat (refine ⟨by omega, ?_⟩)
    refine za0 ?_
    refine zg1 ?_
    simp -dsimp only [simprocAttr, ↓vpre, zp, h5, hcb, hBg]
    repeat (refine ⟨by omega, ?_⟩)
    refine ⟨ob (by kernel_rfl), ?_⟩
    refine za0 ?_
    by_cases he : e = (toOf f b).length
    ·have hde : decide (e = (B.term.to.length : Int)) = true := decide_eq_true (by rw [he, hto])
     have hsr : srStep f ⟨seen, (b, e) :: r, out⟩ = ⟨seen, r, out ++ [b]⟩ := by simp only [srStep]; rw [if_pos he]
     have hso : soStep f ⟨⟨seen, (b, e) :: r, out⟩, sid, oid, O⟩ = ⟨⟨seen, r, out ++ [b]⟩, sid, O.length, outPush O oid out b⟩ := by simp only [soStep]; rw [if_pos he, hsr]
     rw [hso] at hXs hnF'
     simp only [hsr] at hstep
     have hlv : ECall Try.prog 84 O [aI b, .mp 1 0] (fun r' O' => r' = .tup [] ∧ O' = outPush O oid out b) := by
      unfold outPush
      by_cases ho : out = []
      ·rw [if_pos ho]
       exact leave_nil h1 (by rw [h2, ho]; rfl) b
      rw [if_neg ho]
      obtain ⟨k1, k2, k3⟩ := h3 ho
      have a1 := hS.few
      have a2 : seen.countP id ≤ seen.length := List.countP_le_length
      have a3 := hS.len
      simp only at a1 a3
      exact leave_os h1 (by rw [h2, outV, if_neg ho]) k1 (by omega) (by omega) b
     refine zg2 ?_
     simp -dsimp only [simprocAttr, ↓vpre, zp, h5, hce, hde]
     refine za0 ?_
     refine zw0 rfl ?_
     refine zg1 ?_
     simp -dsimp only [simprocAttr, ↓vpre, zp, h5, hcb]
     refine .inr (.inl ⟨_, _, hlv, .inl (later_intro (zj ?_))⟩)
     refine za0 ?_
     refine zg1 ?_
     simp -dsimp only [simprocAttr, ↓vpre, zp, hr2]
     repeat (refine ⟨by omega, ?_⟩)
     refine za0 ?_
     refine awp_exit ?_
     simp -dsimp only [vend, ne_eq, Nat.reduceEqDiff, reduceCtorEq]
     refine ⟨⟨_, hXs, hstep.1, n, ?_, hnF'⟩, ?_, ?_⟩
     ·have := hstep.2
      simp only at this hn ⊢
      omega
     ·exact hstep.2
     refine zq rfl ?_ ?_
     simp -dsimp only [simprocAttr, ↓vpre, zp, zc]
     all_goals rfl
    have hde : decide (e = (B.term.to.length : Int)) = false := decide_eq_false (by rw [← hto]; exact he)
    obtain ⟨x, hx, hxb, hn1, hn2⟩ := hg.next ⟨hp.1, hp.2.1⟩ hp.2.2.1 (by omega)
    rw [hto] at hx
    refine zg2 ?_
    simp -dsimp only [simprocAttr, ↓vpre, zp, h5, hce, hde]
    refine za0 ?_
    refine zu0 rfl ?_
    refine zb0 ?_
    refine zg1 ?_
    simp -dsimp only [simprocAttr, ↓vpre, zp, h5, hce, hx]
    repeat (refine ⟨by omega, ?_⟩)
    refine za0 ?_
    obtain ⟨j, hj⟩ : ∃ j : Nat, nextOf f b e = (j : Int) := ⟨(nextOf f b e).toNat, by omega⟩
    have hjN : j < seen.length := by
     have a3 := hS.len
     simp only at a3
     omega
    rw [hj] at hxb hn1 hn2
    obtain ⟨sv, hsv⟩ : ∃ sv, seen[j]? = some sv := ⟨seen[j], List.getElem?_eq_getElem hjN⟩
    have hsvm : (seen.map eB)[j]? = some (.v (.bool sv)) := by rw [List.getElem?_map, hsv]; rfl
    have hcl : (r.length + 1) * 2 ≤ cs.length := by
     rw [hcs, List.length_append, stkC_len]
     simp
    obtain ⟨cs1, hcs1⟩ : ∃ cs1, cs1 = cs.set (r.length * 2 + 1) (aI (e + 1)) := ⟨_, rfl⟩
    have hspl : splice cs (r.length * 2 + 1) [.v (.int .i64 (e + 1))] = cs1 := by rw [splice_one _ (by omega), hcs1]
    have hcl1 : (r.length + 1) * 2 ≤ cs1.length := by rw [hcs1, List.length_set]; exact hcl
    obtain ⟨O1, hO1⟩ : ∃ O1, O1 = O.set sid (.cells cs1) := ⟨_, rfl⟩
    have g5 : O1[sid]? = some (.cells cs1) := by rw [hO1]; exact at_set h5
    have g4 : O1[2]? = some (.cells (seen.map eB)) := by rw [hO1]; exact at_set_ne h4 (by omega)
    have hcat : cellsAt O sid = cs := by simp only [cellsAt, h5]
    have h257 : (toOf f b).length ≤ 257 := hg.to _ (blkOf_mem hp.1 hp.2.1)
    refine zg1 ?_
    simp -dsimp only [simprocAttr, ↓vpre, zp, h5, hce]
    repeat (refine ⟨by omega, ?_⟩)
    refine za0 ?_
    rw [hspl, ← hO1]
    cases sv with
    | true =>
     have hsr : srStep f ⟨seen, (b, e) :: r, out⟩ = ⟨seen, (b, e + 1) :: r, out⟩ := by simp only [srStep]; rw [if_neg he, hj, Int.toNat_natCast, hsv, if_pos (show (some true).getD false = true from rfl)]
     have hso : soStep f ⟨⟨seen, (b, e) :: r, out⟩, sid, oid, O⟩ = ⟨⟨seen, (b, e + 1) :: r, out⟩, sid, oid, O1⟩ := by simp only [soStep]; rw [if_neg he, hsr, hcat, hj, Int.toNat_natCast, hsv, if_pos (show (some true).getD false = true from rfl), ← hcs1, hO1]
     rw [hso] at hXs hnF'
     simp only [hsr] at hstep
     refine zg1 ?_
     simp -dsimp only [simprocAttr, ↓vpre, zp, g4, hxb, Int.toNat_natCast, hsvm, Nat.mul_one]
     repeat (refine ⟨by omega, ?_⟩)
     refine za0 ?_
     refine zu0 rfl ?_
     refine zn1 ?_
     refine ⟨⟨_, hXs, hstep.1, n, ?_, hnF'⟩, ?_, ?_⟩
     ·have := hstep.2
      simp only at this hn ⊢
      omega
     ·exact hstep.2
     refine zq rfl ?_ ?_
     simp -dsimp only [simprocAttr, ↓vpre, zp, zc]
     all_goals rfl
    | false =>
     have hsr : srStep f ⟨seen, (b, e) :: r, out⟩ = ⟨seen.set j true, ((j : Int), 0) :: (b, e + 1) :: r, out⟩ := by simp only [srStep]; rw [if_neg he, hj, Int.toNat_natCast, hsv, if_neg (by simp)]
     obtain ⟨O2, hO2⟩ : ∃ O2, O2 = O1.set 2 (.cells ((seen.set j true).map eB)) := ⟨_, rfl⟩
     have k5 : O2[sid]? = some (.cells cs1) := by rw [hO2]; exact at_set_ne g5 (by omega)
     have hso : soStep f ⟨⟨seen, (b, e) :: r, out⟩, sid, oid, O⟩ = ⟨⟨seen.set j true, ((j : Int), 0) :: (b, e + 1) :: r, out⟩, O2.length, oid, O2.set sid .gone ++ [AObj.cells (cs1.take ((r.length + 1) * 2) ++ [aI j, aI 0])]⟩ := by
      simp only [soStep]
      rw [if_neg he, hsr, hcat, hj, Int.toNat_natCast, hsv, if_neg (by simp), ← hcs1, ← hO1, ← hO2]
     rw [hso] at hXs hnF'
     simp only [hsr] at hstep
     have hspl2 : splice (seen.map eB) j [.v (.bool true)] = (seen.set j true).map eB := by
      rw [splice_one _ (by simpa using hjN), List.map_set]
      rfl
     refine zg1 ?_
     simp -dsimp only [simprocAttr, ↓vpre, zp, g4, hxb, Int.toNat_natCast, hsvm, Nat.mul_one]
     repeat (refine ⟨by omega, ?_⟩)
     refine za0 ?_
     refine zw0 rfl ?_
     refine zg1 ?_
     simp -dsimp only [simprocAttr, ↓vpre, zp, g4, hxb, Int.toNat_natCast, Nat.mul_one]
     repeat (refine ⟨by omega, ?_⟩)
     refine za0 ?_
     rw [hspl2, ← hO2]
     refine zg0 ?_
     simp -dsimp only [simprocAttr, ↓vpre, zp, k5, hxb]
     repeat (refine ⟨by omega, ?_⟩)
     refine zl1 ?_
     refine ⟨⟨_, hXs, hstep.1, n, ?_, hnF'⟩, ?_, ?_⟩
     ·have := hstep.2
      simp only at this hn ⊢
      omega
     ·exact hstep.2
     refine zq rfl ?_ ?_
     simp -dsimp only [simprocAttr, ↓vpre, zp, zc]
     all_goals rfl
   exact af h (by omega)
 exact FSub.mp rfl rfl
def RevTo (l : List Int) (i : Nat) (m : List Int) : Prop := m.length = l.length ∧ ∀ k, k < l.length → m[k]? = if k < i ∨ l.length ≤ k + i then l[l.length - 1 - k]? else l[k]?
theorem revTo_zero (l : List Int) : RevTo l 0 l := ⟨rfl, fun k hk => by rw [if_neg (by omega)]⟩
theorem revTo_step {l m : List Int} {i : Nat} (h : RevTo l i m) (hi : 2 * i + 1 < l.length) {a b : Int} (ha : m[i]? = some a) (hb : m[l.length - 1 - i]? = some b) : RevTo l (i + 1) ((m.set i b).set (l.length - 1 - i) a) := by
 obtain ⟨h1, h2⟩ := h
 refine ⟨by simpa using h1, fun k hk => ?_⟩
 have e1 := h2 i (by omega)
 have e2 := h2 (l.length - 1 - i) (by omega)
 rw [if_neg (by omega)] at e1 e2
 rw [List.getElem?_set, List.getElem?_set]
 simp only [List.length_set]
 by_cases q1 : l.length - 1 - i = k
 ·rw [if_pos q1, if_pos (by omega), if_pos (by omega), ← ha, e1]
  congr 1
  omega
 rw [if_neg q1]
 by_cases q2 : i = k
 ·rw [if_pos q2, if_pos (by omega), if_pos (by omega), ← hb, e2, q2]
 rw [if_neg q2, h2 k hk]
 by_cases q3 : k < i ∨ l.length ≤ k + i
 ·rw [if_pos q3, if_pos (by omega)]
 rw [if_neg q3, if_neg (by omega)]
theorem revTo_done {l m : List Int} {i : Nat} (h : RevTo l i m) (hi : l.length ≤ 2 * i + 1) : m = l.reverse := by
 obtain ⟨h1, h2⟩ := h
 apply List.ext_getElem?
 intro k
 by_cases hk : k < l.length
 ·rw [h2 k hk, List.getElem?_reverse hk]
  split
  ·rfl
  congr 1
  omega
 rw [List.getElem?_eq_none (by omega), List.getElem?_eq_none (by simp; omega)]
theorem reverse_spec {O : List AObj} (hup : ∀ o ∈ O, o.upto O.length) {oid : Nat} {l : List Int} (ho : O[oid]? = some (.cells (l.map aI))) (hll : l.length ≤ 1000) :
  ECall Try.prog 85 O [.os oid l.length 1] (fun r O' => r = .tup [] ∧ O' = O.set oid (.cells (l.reverse.map aI))) := by
 have hol := lt_of_getElem? ho
 have hsame : O.set oid (.cells (l.map aI)) = O := set_same ho
 have hgt : ∀ x, (O.set oid x)[oid]? = some x := fun x => List.getElem?_set_self hol
 have htk : ∀ m : List Int, (O.set oid (.cells (m.map aI))).take O.length = O.set oid (.cells (m.map aI)) := fun m => take_set_len
 have hup2 : ∀ m : List Int, ∀ o ∈ O.set oid (.cells (m.map aI)), o.upto O.length := fun m => uptoO_set hup (aI_upto _ _)
 refine zf true O.length Try.func85 Try.ntmps85 ?_
 dsimp only [Tmp, TypeId, slotsOf]
 refine zh1 ?_
 repeat (refine ⟨by omega, ?_⟩)
 refine za0 ?_
 refine awp_block (awp_loop (ι := {x : Nat × List Int // x.1 ≤ l.length ∧ RevTo l x.1 x.2}) (fun x => ⟨28, [(0, .os oid l.length 1), (2, aI x.1.1), (3, aI ((l.length : Int) - 1 - x.1.1))], O.set oid (.cells (x.1.2.map aI))⟩) (fun x => l.length - x.1.1) ⟨(0, l), by simp, revTo_zero l⟩ ?_ ?_)
 ·refine zq rfl ?_ ?_
  simp -dsimp only [simprocAttr, ↓vpre, zp, zc]
  exact hsame.symm
 rintro ⟨⟨i, m⟩, hi, hr⟩
 simp only at hi hr
 have hml := hr.1
 refine zh2 (za0 ?_)
 apply zk0 rfl <;> intro h
 ·refine zb0 ?_
  have hlt : 2 * i + 1 < l.length := by
   have := of_decide_eq_true h
   omega
  obtain ⟨j, hj⟩ : ∃ j, j = l.length - 1 - i := ⟨_, rfl⟩
  have hji : (l.length : Int) - 1 - i = (j : Nat) := by omega
  obtain ⟨a, ha⟩ : ∃ a, m[i]? = some a := ⟨m[i]'(by omega), List.getElem?_eq_getElem _⟩
  obtain ⟨b, hb⟩ : ∃ b, m[j]? = some b := ⟨m[j]'(by omega), List.getElem?_eq_getElem _⟩
  have hnext := revTo_step hr hlt ha (by rw [← hj]; exact hb)
  rw [← hj] at hnext
  have hma : (m.map aI)[i]? = some (aI a) := by rw [List.getElem?_map, ha]; rfl
  have hmb : (m.map aI)[j]? = some (aI b) := by rw [List.getElem?_map, hb]; rfl
  have hs1 : splice (m.map aI) i [.v (.int .i64 b)] = (m.set i b).map aI := by
   rw [splice_one _ (by simp; omega), List.map_set]
  have hs2 : splice ((m.set i b).map aI) j [.v (.int .i64 a)] = ((m.set i b).set j a).map aI := by
   rw [splice_one _ (by simp; omega)]
   simp only [List.map_set]
  refine awp_seq (awp_block ?_)
  refine zg0 ?_
  simp -dsimp only [simprocAttr, ↓vpre, zp, hgt, hji, hma, hmb, Int.toNat_natCast, Nat.mul_one, hs1, hs2, List.set_set, List.length_set]
  refine ⟨by omega, by omega, by omega, by omega, by omega, by omega, ?_⟩
  refine ⟨orderB_ren [oid] O.length [.pure, .pure, .pure, .pure, .pure, .pure, .pure, .rd 0, .pure, .pure, .pure, .rd 0, .pure, .wr 1 [0], .pure, .wr 1 [0]] (by simp) (by simp; omega) rfl rfl (by kernel_rfl), at_intro ?_⟩
  simp -dsimp only [vend, ne_eq, Nat.reduceEqDiff, reduceCtorEq]
  refine zh0 ?_
  repeat (refine ⟨by omega, ?_⟩)
  refine zl0 ?_
  refine ⟨⟨(i + 1, _), by simp only; omega, hnext⟩, by simp; omega, ?_⟩
  refine zq rfl ?_ ?_
  simp -dsimp only [simprocAttr, ↓vpre, zp, zc]
  ·exact ⟨Sub.int (by simp), Sub.int (by omega)⟩
  rfl
 refine awp_exit ?_
 simp -dsimp only [vend, ne_eq, Nat.reduceEqDiff, reduceCtorEq]
 have hge : l.length ≤ 2 * i + 1 := by
  have := of_decide_eq_false h
  omega
 rw [revTo_done hr hge]
 skip
 simp -dsimp only [simprocAttr, ↓vpre, zp, zr, Try.results85, htk, List.length_set]
 exact ⟨hup2 _, trivial⟩
def orderM (f : Func) : List Int := (searchM f).reverse
def orderR (f : Func) : AVal := if checkFuncM f = 0 then .tup [eIs (orderM f), aI 0] else .tup [eIs [], aI (checkFuncM f)]
theorem sr_out {f : Func} : ∀ (n : Nat) (S : Sr), (S.st = [] → S.out ≠ []) → (srRun f n S).st = [] → (srRun f n S).out ≠ []
 | 0, S, h, he => h he
 | n + 1, S, h, he => by
  simp only [srRun] at he ⊢
  cases hst : S.st with
  | nil =>
   rw [hst] at he
   simp only [List.isEmpty_nil, if_true] at he ⊢
   exact h hst
  | cons p r =>
   rw [hst] at he
   simp only [List.isEmpty_cons, Bool.false_eq_true, if_false] at he ⊢
   refine sr_out n _ (fun q => ?_) he
   obtain ⟨b, e⟩ := p
   simp only [srStep, hst] at q ⊢
   split
   ·simp
   rename_i hne
   rw [if_neg hne] at q
   split at q <;> simp at q
theorem soRun_ok {f : Func} : ∀ (n : Nat) (X : So), SO X → SO (soRun f n X)
 | 0, X, h => h
 | n + 1, X, h => by
  simp only [soRun]
  split
  ·exact h
  exact soRun_ok n _ h.step
theorem searchM_few {f : Func} (hg : GrW f) : searchM f ≠ [] ∧ (searchM f).length ≤ 128 ∧ ∀ b ∈ searchM f, 0 ≤ b ∧ b < f.blocks.length := by
 have h0 := srStart_ok hg
 have h1 := srRun_ok hg 100000 _ h0.1 h0.2
 have h2 := sr_out 100000 (srStart f) (fun q => by simp [srStart] at q) h1.2
 have a1 := h1.1.few
 have a2 : (srRun f 100000 (srStart f)).seen.countP id ≤ (srRun f 100000 (srStart f)).seen.length := List.countP_le_length
 have a3 := h1.1.len
 have a4 := hg.few
 exact ⟨h2, by unfold searchM; omega, h1.1.outs⟩
theorem aI_cellsAll (l : List Int) : (l.map aI).map AVal.shareCell = cellsAll (l.map aI) := by
 induction l with
 | nil => rfl
 | cons a r ih =>
  simp only [List.map_cons, cellsAll, List.flatMap_cons] at ih ⊢
  rw [ih]
  rfl
theorem order_spec (f : Func) (hfit : f.fit) : PCall Try.prog 56 [f.enc] (orderR f) := by
 have hck := checkFunc_spec f hfit
 unfold orderR
 by_cases hc : checkFuncM f = 0
 ·rw [if_pos hc]
  rw [hc] at hck
  have hg := (checkFunc_ok hfit hc).gr
  have hsr := search_spec f hg
  obtain ⟨f1, f2, _⟩ := searchM_few hg
  have hXS : (soRun f 100000 (soStart f)).S = srRun f 100000 (srStart f) := soRun_S f 100000 (soStart f)
  have hX := soRun_ok (f := f) 100000 _ (soStart_ok f)
  obtain ⟨X, hXe⟩ : ∃ X, X = soRun f 100000 (soStart f) := ⟨_, rfl⟩
  rw [← hXe] at hsr hX hXS
  have hout : X.S.out = searchM f := by rw [hXS]; rfl
  unfold orderM
  obtain ⟨l, hl⟩ : ∃ l, l = searchM f := ⟨_, rfl⟩
  rw [← hl] at f1 f2 hout ⊢
  have h1 := hX.out
  rw [hout, outV, if_neg f1] at h1
  obtain ⟨h2, h3, h4⟩ := hX.outs (by rw [hout]; exact f1)
  rw [hout] at h2
  have hup := hX.up
  obtain ⟨S, sid, oid, O⟩ := X
  simp only at h1 h2 h3 h4 hup hsr
  have hrev := reverse_spec hup h2 (by omega)
  have h1' : (O.set oid (.cells (l.reverse.map aI)))[1]? = some (.cells [.os oid l.length 1]) := at_set_ne h1 (by omega)
  have h2' : (O.set oid (.cells (l.reverse.map aI)))[oid]? = some (.cells (l.reverse.map aI)) := at_set h2
  refine zf true 0 Try.func56 Try.ntmps56 ?_
  dsimp only [Tmp, TypeId, slotsOf]
  refine zh1 (za0 ?_)
  refine awp_freeze1 1 0 (.ip none [aI f.name, eBlocks f.blocks]) rfl (by simp [AObj.isSpare]) trivial rfl ?_ ?_
  rotate_left
  simp -dsimp only [simprocAttr, ↓vpre, zp]
  ·refine zh2 ?_
   refine zi hck ?_
   refine za0 ?_
   refine zh1 (za0 ?_)
   refine zu0 rfl ?_
   refine zb0 ?_
   refine zh1 (za0 ?_)
   refine zh1 ?_
   refine .inr (.inl ⟨_, _, hsr, .inl (later_intro (zj ?_))⟩)
   refine za0 ?_
   refine zg1 ?_
   simp -dsimp only [simprocAttr, ↓vpre, zp, h1]
   refine .inr (.inl ⟨_, _, hrev, .inl (later_intro (zj ?_))⟩)
   refine za0 ?_
   refine zg1 ?_
   simp -dsimp only [simprocAttr, ↓vpre, zp, h1']
   refine za0 ?_
   refine awp_freeze1 2 oid (o := .cells (l.reverse.map aI)) (eIs l.reverse) h2' (by simp [AObj.isSpare]) trivial rfl (FSub.os (cs := l.reverse.map aI) h2' ?_ ?_ ?_) ?_
   ·intro x hx
    obtain ⟨c, _, rfl⟩ := List.mem_map.1 hx
    rfl
   ·simp
   ·rw [List.drop_zero, List.take_of_length_le (by simp)]
    exact aI_cellsAll _
   simp -dsimp only [simprocAttr, ↓vpre, zp]
   refine awp_ret ?_
   simp -dsimp only [simprocAttr, ↓vpre, zp, zr, Try.results56]
   exact ⟨⟨aI_upto _ _, trivial⟩, trivial, trivial⟩
  exact FSub.mp rfl rfl
 rw [if_neg hc]
 obtain ⟨e, he⟩ : ∃ e, e = checkFuncM f := ⟨_, rfl⟩
 rw [← he] at hc hck ⊢
 have hde : decide (e = 0) = false := decide_eq_false hc
 refine zf true 0 Try.func56 Try.ntmps56 ?_
 dsimp only [Tmp, TypeId, slotsOf]
 refine zh1 (za0 ?_)
 refine awp_freeze1 1 0 (.ip none [aI f.name, eBlocks f.blocks]) rfl (by simp [AObj.isSpare]) trivial rfl ?_ ?_
 rotate_left
 simp -dsimp only [simprocAttr, ↓vpre, zp]
 ·refine zh2 ?_
  refine zi hck ?_
  refine za0 ?_
  refine zg1 ?_
  simp -dsimp only [simprocAttr, ↓vpre, zp, hde]
  refine za0 ?_
  refine zw0 rfl ?_
  refine zh1 (za0 ?_)
  refine awp_ret ?_
  simp -dsimp only [simprocAttr, ↓vpre, zp, zr, Try.results56]
  simp [uptoL, AVal.upto]
 exact FSub.mp rfl rfl
def hasM (l : List Int) (n : Int) : Bool := l.any fun x => decide (x = n)
theorem hasM_iff {l : List Int} {n : Int} : hasM l n = true ↔ n ∈ l := by
 simp [hasM]
theorem any_at {α : Type} {l : List α} {p : α → Bool} {j : Nat} {x : α} (h : l[j]? = some x) : (l.drop j).any p = (p x || (l.drop (j + 1)).any p) := by
 rw [drop_at h]
 rfl
theorem hasInt_spec (l : List Int) (n : Int) : PCall Try.prog 27 [eIs l, aI n] (.v (.bool (hasM l n))) := by
 obtain ⟨R, hR⟩ : ∃ R, R = hasM l n := ⟨_, rfl⟩
 rw [← hR]
 unfold hasM at hR
 refine zf true 0 Try.func27 Try.ntmps27 ?_
 dsimp only [Tmp, TypeId, slotsOf]
 refine zh1 (za0 ?_)
 refine awp_len 0 rfl (fun hll => ?_)
 simp only [List.length_map] at hll
 refine zh2 (za0 ?_)
 refine awp_block (awp_loop (ι := {k : Nat // k ≤ l.length ∧ R = (l.drop k).any fun x => decide (x = n)}) (fun k => ⟨17, [(1, aI n), (4, .v (.bool false)), (7, eIs l), (8, aI l.length), (9, aI k.1)], []⟩) (fun k => l.length - k.1) ⟨0, by omega, hR⟩ ?_ ?_)
 ·refine zq rfl ?_ ?_
  simp -dsimp only [simprocAttr, ↓vpre, zp, zc]
  rfl
 rintro ⟨k, hk, hke⟩
 refine zh1 (za0 ?_)
 apply zk1 rfl <;> intro h
 ·refine zb0 ?_
  have hlt : k < l.length := by simpa using h
  obtain ⟨a, ha⟩ : ∃ a, l[k]? = some a := ⟨l[k], by simp [hlt]⟩
  rw [any_at ha] at hke
  refine awp_seq (awp_block ?_)
  refine zg1 ?_
  simp -dsimp only [simprocAttr, ↓vpre, zp, ha]
  refine za0 ?_
  by_cases hab : a = n
  ·have hd : decide (a = n) = true := decide_eq_true hab
   rw [hd, Bool.true_or] at hke
   refine zg1 ?_
   simp -dsimp only [simprocAttr, ↓vpre, zp, hd]
   refine za0 ?_
   refine zw0 rfl ?_
   refine zh1 (za0 ?_)
   refine awp_ret ?_
   simp -dsimp only [simprocAttr, ↓vpre, zp, zr, Try.results27]
   rw [hke]
  have hd : decide (a = n) = false := decide_eq_false hab
  rw [hd, Bool.false_or] at hke
  refine zg1 ?_
  simp -dsimp only [simprocAttr, ↓vpre, zp, hd]
  refine za0 ?_
  refine zu0 rfl ?_
  refine zb1 ?_
  refine zh0 ?_
  repeat (refine ⟨by omega, ?_⟩)
  refine zl0 ?_
  refine ⟨⟨k + 1, hlt, hke⟩, by simp; omega, ?_⟩
  refine zq rfl ?_ ?_
  simp -dsimp only [simprocAttr, ↓vpre, zp, zc]
  ·exact Sub.int (by simp)
  rfl
 refine awp_exit ?_
 simp -dsimp only [vend, ne_eq, Nat.reduceEqDiff, reduceCtorEq]
 have hkk : k = l.length := by simp at h; omega
 subst hkk
 rw [List.drop_length] at hke
 refine zh1 (za0 ?_)
 refine awp_ret ?_
 simp -dsimp only [simprocAttr, ↓vpre, zp, zr, Try.results27]
 rw [hke]
 rfl
def Edg (f : Func) (a b : Int) : Prop := ∃ x ∈ toOf f a, x.block = b
def StC (f : Func) : List (Int × Int) → Prop
  | [] => True
  | [p] => p.1 = 0
  | p :: q :: r => Edg f q.1 p.1 ∧ p.1 ≠ 0 ∧ StC f (q :: r)
theorem StC.tail {f : Func} {p : Int × Int} {r : List (Int × Int)} (h : StC f (p :: r)) : StC f r := by
  cases r with
  | nil => trivial
  | cons q r => exact h.2.2
theorem StC.head {f : Func} {b e e' : Int} {r : List (Int × Int)} (h : StC f ((b, e) :: r)) : StC f ((b, e') :: r) := by
  cases r with
  | nil => exact h
  | cons q r => exact h
structure Jn (f : Func) (S : Sr) : Prop where
  st : StC f S.st
  out : ∀ i v, S.out[i]? = some v → (v ≠ 0 ∧ ∃ a, Edg f a v ∧ ((∃ j, i < j ∧ S.out[j]? = some a) ∨ ∃ e, (a, e) ∈ S.st)) ∨ (v = 0 ∧ S.st = [] ∧ i + 1 = S.out.length)
theorem Jn.step {f : Func} (hg : GrW f) {S : Sr} (hS : SrOK f S) (h : Jn f S) : Jn f (srStep f S) := by
  obtain ⟨seen, st, out⟩ := S
  obtain ⟨h1, h2⟩ := h
  simp only at h1 h2
  cases st with
  | nil => exact ⟨h1, h2⟩
  | cons p r =>
    obtain ⟨b, e⟩ := p
    have hp := hS.blk (b, e) (by simp)
    simp only at hp
    have hold : ∀ i v, out[i]? = some v → v ≠ 0 ∧ ∃ a, Edg f a v ∧ ((∃ j, i < j ∧ out[j]? = some a) ∨ ∃ e', (a, e') ∈ (b, e) :: r) := fun i v hi => by
      rcases h2 i v hi with q | ⟨_, q, _⟩
      · exact q
      cases q
    simp only [srStep]
    split
    · refine ⟨h1.tail, fun i v hi => ?_⟩
      simp only at hi ⊢
      by_cases hlt : i < out.length
      · rw [List.getElem?_append_left hlt] at hi
        obtain ⟨q0, a, q1, q2⟩ := hold i v hi
        refine .inl ⟨q0, a, q1, ?_⟩
        rcases q2 with ⟨j, q2, q3⟩ | ⟨e', q2⟩
        · exact .inl ⟨j, q2, by rw [List.getElem?_append_left (lt_of_getElem? q3)]; exact q3⟩
        rcases List.mem_cons.1 q2 with q | q
        · simp only [Prod.mk.injEq] at q
          exact .inl ⟨out.length, hlt, by rw [q.1]; simp⟩
        exact .inr ⟨e', q⟩
      have hi' := lt_of_getElem? hi
      simp only [List.length_append, List.length_cons, List.length_nil] at hi'
      have : i = out.length := by omega
      subst this
      simp at hi
      subst hi
      cases r with
      | nil => exact .inr ⟨h1, rfl, by simp⟩
      | cons q r => exact .inl ⟨h1.2.1, q.1, h1.1, .inr ⟨q.2, by simp⟩⟩
    rename_i he
    obtain ⟨x, hx, hxb, hn1, hn2⟩ := hg.next ⟨hp.1, hp.2.1⟩ hp.2.2.1 (by omega)
    split
    · refine ⟨h1.head, fun i v hi => .inl ?_⟩
      obtain ⟨q0, a, q1, q2⟩ := hold i v hi
      refine ⟨q0, a, q1, ?_⟩
      rcases q2 with q2 | ⟨e', q2⟩
      · exact .inl q2
      rcases List.mem_cons.1 q2 with q | q
      · simp only [Prod.mk.injEq] at q
        exact .inr ⟨e + 1, by simp [q.1]⟩
      exact .inr ⟨e', by simp [q]⟩
    refine ⟨⟨⟨x, List.mem_of_getElem? hx, hxb⟩, by simp only; omega, h1.head⟩, fun i v hi => .inl ?_⟩
    obtain ⟨q0, a, q1, q2⟩ := hold i v hi
    refine ⟨q0, a, q1, ?_⟩
    rcases q2 with q2 | ⟨e', q2⟩
    · exact .inl q2
    rcases List.mem_cons.1 q2 with q | q
    · simp only [Prod.mk.injEq] at q
      exact .inr ⟨e + 1, by simp [q.1]⟩
    exact .inr ⟨e', by simp [q]⟩
theorem Jn.run {f : Func} (hg : GrW f) : ∀ (n : Nat) (S : Sr), SrOK f S → Jn f S → Jn f (srRun f n S)
  | 0, S, _, h => h
  | n + 1, S, hS, h => by
    simp only [srRun]
    cases hst : S.st with
    | nil => simpa [hst] using h
    | cons p r =>
      simp only [List.isEmpty_cons, Bool.false_eq_true, if_false]
      exact Jn.run hg n _ (srStep_ok hg hS (by rw [hst]; simp)).1 (h.step hg hS)
theorem Jn.start (f : Func) : Jn f (srStart f) := ⟨rfl, fun i v h => by simp [srStart] at h⟩
theorem order_law {f : Func} (hg : GrW f) {n : Nat} {v : Int} (h : (orderM f)[n]? = some v) : (n = 0 ∧ v = 0) ∨ ∃ a, Edg f a v ∧ a ∈ (orderM f).take n := by
  have h0 := srStart_ok hg
  have h1 := srRun_ok hg 100000 _ h0.1 h0.2
  have hJ := Jn.run hg 100000 _ h0.1 (Jn.start f)
  have hn := lt_of_getElem? h
  unfold orderM searchM at *
  generalize srRun f 100000 (srStart f) = S at *
  have hl : n < S.out.length := by simpa using hn
  rw [List.getElem?_reverse hl] at h
  rcases hJ.out _ _ h with ⟨_, a, q1, q2⟩ | ⟨q1, _, q3⟩
  · rcases q2 with ⟨j, q3, q4⟩ | ⟨e, q3⟩
    · refine .inr ⟨a, q1, ?_⟩
      have hj := lt_of_getElem? q4
      have : (S.out.reverse)[S.out.length - 1 - j]? = some a := by
        rw [List.getElem?_reverse (by omega), ← q4]
        congr 1
        omega
      exact List.mem_of_getElem? (i := S.out.length - 1 - j) (by rw [List.getElem?_take, if_pos (by omega)]; exact this)
    rw [h1.2] at q3
    cases q3
  exact .inl ⟨by omega, q1⟩
theorem predE_mono {k : Nat} {ls : List (List Int)} {e : Edge} {j : Nat} {a : Int} (h : a ∈ ls[j]?.getD []) : a ∈ (predE k ls e)[j]?.getD [] := by
  unfold predE
  by_cases q : e.block.toNat = j
  · subst q
    by_cases hl : e.block.toNat < ls.length
    · rw [List.getElem?_set_self hl]
      simp [h]
    rw [List.getElem?_eq_none (by omega)] at h
    simp at h
  rw [List.getElem?_set_ne q]
  exact h
theorem predB_mono {k : Nat} {j : Nat} {a : Int} : ∀ {es : List Edge} {ls : List (List Int)}, a ∈ ls[j]?.getD [] → a ∈ (predB k ls es)[j]?.getD []
  | [], _, h => h
  | e :: r, ls, h => predB_mono (es := r) (predE_mono h)
theorem predL_mono {j : Nat} {a : Int} : ∀ {bs : List Block} {k : Nat} {ls : List (List Int)}, a ∈ ls[j]?.getD [] → a ∈ (predL k ls bs)[j]?.getD []
  | [], _, _, h => h
  | b :: r, k, ls, h => predL_mono (bs := r) (predB_mono h)
theorem predB_new {k : Nat} : ∀ {es : List Edge} {ls : List (List Int)} {x : Edge}, x ∈ es → x.block.toNat < ls.length → (k : Int) ∈ (predB k ls es)[x.block.toNat]?.getD []
  | [], _, _, h, _ => by cases h
  | e :: r, ls, x, h, hl => by
    show (k : Int) ∈ (predB k (predE k ls e) r)[x.block.toNat]?.getD []
    rcases List.mem_cons.1 h with q | q
    · subst q
      apply predB_mono
      unfold predE
      rw [List.getElem?_set_self hl]
      simp
    exact predB_new q (by rw [predE_len]; exact hl)
theorem predL_new : ∀ {bs : List Block} {k i : Nat} {ls : List (List Int)} {b : Block} {x : Edge}, bs[i]? = some b → x ∈ b.term.to → x.block.toNat < ls.length → ((k + i : Nat) : Int) ∈ (predL k ls bs)[x.block.toNat]?.getD []
  | [], _, _, _, _, _, h, _, _ => by simp at h
  | c :: r, k, i, ls, b, x, h, hx, hl => by
    cases i with
    | zero =>
      simp only [List.getElem?_cons_zero, Option.some.injEq] at h
      subst h
      exact predL_mono (bs := r) (predB_new hx hl)
    | succ i =>
      have := predL_new (bs := r) (k := k + 1) (i := i) (ls := predB k ls c.term.to) (by simpa using h) hx (by rw [predB_len]; exact hl)
      rw [show k + (i + 1) = k + 1 + i by omega]
      exact this
theorem edg_preds {f : Func} {a v : Int} (ha : 0 ≤ a ∧ a < f.blocks.length) (hv : 0 ≤ v ∧ v < f.blocks.length) (h : Edg f a v) : a ∈ (predsM f)[v.toNat]?.getD [] := by
  obtain ⟨x, hx, hxv⟩ := h
  have hb := blkOf_at ha.1 ha.2
  have := predL_new (bs := f.blocks) (k := 0) (ls := List.replicate f.blocks.length []) hb hx (by rw [hxv, List.length_replicate]; omega)
  rw [hxv, Nat.zero_add, Int.toNat_of_nonneg ha.1] at this
  exact this
structure Nd (f : Func) (S : Sr) : Prop where
  nd : (S.out ++ S.st.map (·.1)).Nodup
  seen : ∀ v, v ∈ S.out ++ S.st.map (·.1) ↔ (0 ≤ v ∧ S.seen[v.toNat]?.getD false = true)
  outs : ∀ v ∈ S.out, ∀ x ∈ toOf f v, S.seen[x.block.toNat]?.getD false = true
  st : ∀ p ∈ S.st, ∀ (j : Nat) x, (j : Int) < p.2 → (toOf f p.1)[j]? = some x → S.seen[x.block.toNat]?.getD false = true
theorem getD_set_mono {l : List Bool} {k j : Nat} (h : l[j]?.getD false = true) : (l.set k true)[j]?.getD false = true := by
  have hj : j < l.length := by
    refine Classical.byContradiction fun q => ?_
    rw [List.getElem?_eq_none (by omega)] at h
    cases h
  by_cases e : k = j
  · subst e
    rw [List.getElem?_set_self hj]
    rfl
  rw [List.getElem?_set_ne e]
  exact h
theorem Nd.step {f : Func} (hg : GrW f) {S : Sr} (hS : SrOK f S) (h : Nd f S) : Nd f (srStep f S) := by
  obtain ⟨seen, st, out⟩ := S
  obtain ⟨h1, h2, h3, h4⟩ := h
  simp only at h1 h2 h3 h4
  cases st with
  | nil => exact ⟨h1, h2, h3, h4⟩
  | cons p r =>
    obtain ⟨b, e⟩ := p
    have hp := hS.blk (b, e) (by simp)
    simp only at hp
    have hlen := hS.len
    simp only at hlen
    simp only [srStep]
    split
    · rename_i he
      refine ⟨?_, fun v => ?_, fun v hv x hx => ?_, fun q hq => h4 q (by simp [hq])⟩
      · simp only [List.append_assoc, List.cons_append, List.nil_append]
        simpa using h1
      · rw [← h2 v]
        simp only [List.append_assoc, List.cons_append, List.nil_append, List.map_cons]
      simp only at hv ⊢
      rcases List.mem_append.1 hv with q | q
      · exact h3 v q x hx
      rw [List.mem_singleton.1 q] at hx
      obtain ⟨j, hj⟩ := List.getElem?_of_mem hx
      have := lt_of_getElem? hj
      exact h4 (b, e) (by simp) j x (by simp only; omega) hj
    rename_i he
    obtain ⟨x, hx, hxb, hn1, hn2⟩ := hg.next ⟨hp.1, hp.2.1⟩ hp.2.2.1 (by omega)
    split
    · rename_i hs
      refine ⟨by simpa using h1, fun v => by simpa using h2 v, h3, fun q hq j y hj hy => ?_⟩
      simp only at hq ⊢
      rcases List.mem_cons.1 hq with q' | q'
      · subst q'
        simp only at hj hy
        by_cases hje : (j : Int) < e
        · exact h4 (b, e) (by simp) j y hje hy
        have : j = e.toNat := by omega
        subst this
        rw [hx] at hy
        simp only [Option.some.injEq] at hy
        subst hy
        rw [hxb]
        exact hs
      exact h4 q (by simp [q']) j y hj hy
    rename_i hs
    have hnw : nextOf f b e ∉ out ++ (b :: r.map (·.1)) := fun hm => by
      have := (h2 (nextOf f b e)).1 (by simpa using hm)
      exact hs this.2
    have hk : (nextOf f b e).toNat < seen.length := by omega
    refine ⟨?_, fun v => ?_, fun v hv y hy => getD_set_mono (h3 v hv y hy), fun q hq j y hj hy => ?_⟩
    · simp only [List.map_cons] at h1 ⊢
      rw [List.nodup_append] at h1 ⊢
      simp only [List.mem_append, not_or] at hnw
      refine ⟨h1.1, List.nodup_cons.2 ⟨hnw.2, h1.2.1⟩, fun a ha c hc => ?_⟩
      rcases List.mem_cons.1 hc with q | q
      · subst q
        exact fun e => hnw.1 (e ▸ ha)
      exact h1.2.2 a ha c q
    · simp only [List.map_cons]
      have h2' := h2 v
      simp only [List.map_cons] at h2'
      by_cases e1 : v = nextOf f b e
      · subst e1
        rw [List.getElem?_set_self hk]
        simp
        omega
      have : v ∈ out ++ nextOf f b e :: b :: r.map (·.1) ↔ v ∈ out ++ (b :: r.map (·.1)) := by
        simp only [List.mem_append, List.mem_cons, e1, false_or]
      rw [this, h2']
      by_cases h0 : 0 ≤ v
      · rw [List.getElem?_set_ne (by omega)]
      simp [h0]
    simp only at hq ⊢
    rcases List.mem_cons.1 hq with q' | q'
    · subst q'
      simp only at hj
      omega
    rcases List.mem_cons.1 q' with q' | q'
    · subst q'
      simp only at hj hy
      by_cases hje : (j : Int) < e
      · exact getD_set_mono (h4 (b, e) (by simp) j y hje hy)
      have : j = e.toNat := by omega
      subst this
      rw [hx] at hy
      simp only [Option.some.injEq] at hy
      subst hy
      rw [hxb, List.getElem?_set_self hk]
      rfl
    exact getD_set_mono (h4 q (by simp [q']) j y hj hy)
theorem Nd.run {f : Func} (hg : GrW f) : ∀ (n : Nat) (S : Sr), SrOK f S → Nd f S → Nd f (srRun f n S)
  | 0, S, _, h => h
  | n + 1, S, hS, h => by
    simp only [srRun]
    cases hst : S.st with
    | nil => simpa [hst] using h
    | cons p r =>
      simp only [List.isEmpty_cons, Bool.false_eq_true, if_false]
      exact Nd.run hg n _ (srStep_ok hg hS (by rw [hst]; simp)).1 (h.step hg hS)
theorem Nd.start {f : Func} (hg : GrW f) : Nd f (srStart f) := by
  have hl := List.length_pos_iff.2 hg.ne
  refine ⟨by simp [srStart], fun v => ?_, fun v hv => by simp [srStart] at hv, fun p hp j x hj => ?_⟩
  · simp only [srStart, List.nil_append, List.map_cons, List.map_nil, List.mem_singleton]
    constructor
    · intro e
      subst e
      refine ⟨by omega, ?_⟩
      rw [Int.toNat_zero, List.getElem?_set_self (by simpa using hl)]
      rfl
    rintro ⟨h0, h⟩
    refine Classical.byContradiction fun q => ?_
    rw [List.getElem?_set_ne (by omega), List.getElem?_replicate] at h
    split at h <;> simp at h
  simp only [srStart, List.mem_singleton] at hp
  subst hp
  simp only at hj
  omega
theorem idxI_mem {l : List Int} {n : Int} : (0 ≤ idxI l n ↔ n ∈ l) ∧ (0 ≤ idxI l n → l[(idxI l n).toNat]? = some n) := by
  unfold idxI
  have hm : l.findIdx (· == n) < l.length ↔ n ∈ l := by
    rw [List.findIdx_lt_length]
    simp
  by_cases h : l.findIdx (· == n) < l.length
  · rw [if_pos h]
    refine ⟨⟨fun _ => hm.1 h, fun _ => by omega⟩, fun _ => ?_⟩
    have := List.findIdx_getElem (w := h)
    simp only [beq_iff_eq] at this
    rw [Int.toNat_natCast, List.getElem?_eq_getElem h, this]
  rw [if_neg h]
  exact ⟨⟨fun q => absurd q (by omega), fun q => absurd (hm.2 q) h⟩, fun q => absurd q (by omega)⟩
def plF (f : Func) (k : Int) : Int := idxI (orderM f) k
structure OrdW (f : Func) : Prop where
  inj : ∀ a b, 0 ≤ plF f a → plF f a = plF f b → a = b
  zero : plF f 0 = 0
  at_ : ∀ (i : Nat) v, (orderM f)[i]? = some v → plF f v = i
  get : ∀ v, 0 ≤ plF f v → (orderM f)[(plF f v).toNat]? = some v
  low : ∀ v, -1 ≤ plF f v ∧ plF f v < (orderM f).length
  fwd : ∀ v, 1 ≤ plF f v → ∃ a, Edg f a v ∧ 0 ≤ plF f a ∧ plF f a < plF f v
  next : ∀ a b, 0 ≤ plF f a → Edg f a b → 0 ≤ plF f b
  range : ∀ v, 0 ≤ plF f v → 0 ≤ v ∧ v < f.blocks.length
  few : (orderM f).length ≤ 128
  pos : 0 < (orderM f).length
theorem ord_w {f : Func} (hg : GrW f) : OrdW f := by
  obtain ⟨g1, g2, g3⟩ := searchM_few hg
  have h0 := srStart_ok hg
  have h1 := srRun_ok hg 100000 _ h0.1 h0.2
  have hN := Nd.run hg 100000 _ h0.1 (Nd.start hg)
  have hnd : (orderM f).Nodup := by
    have := hN.nd
    rw [h1.2] at this
    simp only [List.map_nil, List.append_nil] at this
    unfold orderM List.Nodup
    rw [List.pairwise_reverse]
    exact List.Pairwise.imp (fun h => Ne.symm h) this
  have hmem : ∀ v, v ∈ orderM f ↔ v ∈ searchM f := fun v => by simp [orderM]
  have hne : 0 < (orderM f).length := by
    have : orderM f ≠ [] := by simpa [orderM] using g1
    exact List.length_pos_iff.2 this
  have hget : ∀ v, 0 ≤ plF f v → (orderM f)[(plF f v).toNat]? = some v := fun v hv => idxI_mem.2 hv
  have hat : ∀ (i : Nat) v, (orderM f)[i]? = some v → plF f v = i := fun i v hi => by
    have hm : v ∈ orderM f := List.mem_of_getElem? hi
    have h2 := hget v (idxI_mem.1.2 hm)
    have h3 : 0 ≤ plF f v := idxI_mem.1.2 hm
    have := (List.getElem?_inj (lt_of_getElem? h2) hnd).1 (h2.trans hi.symm)
    omega
  have hlow : ∀ v, -1 ≤ plF f v ∧ plF f v < (orderM f).length := fun v => by
    unfold plF idxI
    split
    · omega
    omega
  refine ⟨fun a b ha e => ?_, ?_, hat, hget, hlow, fun v hv => ?_, fun a b ha e => ?_, fun v hv => ?_, by simpa [orderM] using g2, hne⟩
  · have h2 := hget a ha
    have h3 := hget b (by omega)
    rw [e, h3] at h2
    simpa using h2.symm
  · have : (orderM f)[0]? = some (orderM f)[0] := List.getElem?_eq_getElem hne
    rcases order_law hg this with ⟨_, q⟩ | ⟨a, _, q⟩
    · have := hat 0 _ this
      rw [q] at this
      simpa using this
    simp at q
  · have h2 := hget v (by omega)
    rcases order_law hg h2 with ⟨q, _⟩ | ⟨a, q1, q2⟩
    · omega
    obtain ⟨j, hj⟩ := List.getElem?_of_mem q2
    rw [List.getElem?_take] at hj
    split at hj
    · have := hat j a hj
      exact ⟨a, q1, by omega, by omega⟩
    cases hj
  · have hm : a ∈ searchM f := (hmem a).1 (idxI_mem.1.1 ha)
    obtain ⟨x, hx, hxb⟩ := e
    have := hN.outs a hm x hx
    rw [hxb] at this
    have hb : 0 ≤ b := by
      have hra := g3 a hm
      have := hg.edges _ (blkOf_mem hra.1 hra.2) x hx
      omega
    have h3 := (hN.seen b).2 ⟨hb, this⟩
    rw [h1.2] at h3
    simp only [List.map_nil, List.append_nil] at h3
    exact idxI_mem.1.2 ((hmem b).2 h3)
  exact g3 v ((hmem v).1 (idxI_mem.1.1 hv))
def atI (l : List Int) (k : Int) : Int := l[k.toNat]?.getD (-1)
def plL (f : Func) : List Int := (List.range f.blocks.length).map fun (k : Nat) => plF f k
theorem plL_at {f : Func} {k : Int} (h0 : 0 ≤ k) (h1 : k < f.blocks.length) : (plL f)[k.toNat]? = some (plF f k) := by
  unfold plL
  rw [List.getElem?_map, List.getElem?_range (by omega)]
  simp only [Option.map_some, Option.some.injEq]
  congr 1
  omega
def meetM (P O : List Int) : Nat → Int → Int → Int
  | 0, a, _ => a
  | n + 1, a, b => if a = b then a else if atI P b < atI P a then meetM P O n (atI O a) b else meetM P O n a (atI O b)
def predStep (P O : List Int) (next p : Int) : Int := if atI P p < 0 ∨ (p ≠ 0 ∧ atI O p < 0) then next else if next < 0 then p else meetM P O 300 next p
def nextM (P O : List Int) (ps : List Int) : Int := ps.foldl (predStep P O) (-1)
def predsAt (f : Func) (k : Int) : List Int := (predsM f)[k.toNat]?.getD []
structure Dm where
  over : List Int
  again : Bool
def dmStep (f : Func) (S : Dm) (z : Int) : Dm := if nextM (plL f) S.over (predsAt f z) ≠ atI S.over z then ⟨S.over.set z.toNat (nextM (plL f) S.over (predsAt f z)), true⟩ else S
def dmR (f : Func) (S : Dm) : Dm := ((orderM f).drop 1).foldl (dmStep f) S
def dmI (f : Func) : Nat → Dm → Dm
  | 0, S => S
  | n + 1, S => if S.again then dmI f n (dmR f ⟨S.over, false⟩) else S
def dmS (f : Func) : Dm := ⟨List.replicate f.blocks.length (-1), true⟩
def treeM (f : Func) : List Int := (dmI f 30000 (dmS f)).over
inductive Anc (O : List Int) (d : Int) : Int → Prop
  | refl : Anc O d d
  | up {k : Int} (h : 0 ≤ atI O k) (a : Anc O d (atI O k)) : Anc O d k
def Asg (O : List Int) (k : Int) : Prop := k = 0 ∨ 0 ≤ atI O k
structure Tr (f : Func) (O : List Int) : Prop where
  len : O.length = f.blocks.length
  root : atI O 0 = -1
  up : ∀ k, 0 ≤ atI O k → 0 ≤ plF f (atI O k) ∧ plF f (atI O k) < plF f k ∧ Asg O (atI O k)
  low : ∀ k, -1 ≤ atI O k
theorem Anc.trans {O : List Int} {a b c : Int} (h1 : Anc O a b) (h2 : Anc O b c) : Anc O a c := by
  induction h2 with
  | refl => exact h1
  | up h _ ih => exact .up h ih
theorem Tr.asg {f : Func} (hw : OrdW f) {O : List Int} (h : Tr f O) {k : Int} (hk : Asg O k) : 0 ≤ plF f k := by
  rcases hk with q | q
  · rw [q, hw.zero]
    omega
  have := h.up k q
  omega
theorem Anc.pl {f : Func} (hw : OrdW f) {O : List Int} (h : Tr f O) {d k : Int} (hk : Asg O k) (ha : Anc O d k) : plF f d ≤ plF f k ∧ 0 ≤ plF f d ∧ Asg O d ∧ (plF f d = plF f k → d = k) := by
  induction ha with
  | refl => exact ⟨Int.le_refl _, h.asg hw hk, hk, fun _ => rfl⟩
  | up hu _ ih =>
    have hup := h.up _ hu
    obtain ⟨h1, h2, h3, _⟩ := ih hup.2.2
    exact ⟨by omega, h2, h3, fun e => by omega⟩
theorem Anc.comp {O : List Int} {a d p : Int} (ha : Anc O a p) (hd : Anc O d p) : Anc O a d ∨ Anc O d a := by
  induction ha with
  | refl => exact .inr hd
  | @up k h ha ih =>
    cases hd with
    | refl => exact .inl (.up h ha)
    | up _ hd => exact ih hd
theorem meet_ok {f : Func} (hw : OrdW f) {O : List Int} (h : Tr f O) : ∀ (n : Nat) (a b : Int), Asg O a → Asg O b → plF f a + plF f b < n →
    Anc O (meetM (plL f) O n a b) a ∧ Anc O (meetM (plL f) O n a b) b ∧ ∀ d, Anc O d a → Anc O d b → Anc O d (meetM (plL f) O n a b)
  | 0, a, b, ha, hb, hn => by
    have := h.asg hw ha
    have := h.asg hw hb
    omega
  | n + 1, a, b, ha, hb, hn => by
    have pa := h.asg hw ha
    have pb := h.asg hw hb
    have ra := hw.range a pa
    have rb := hw.range b pb
    have ea : atI (plL f) a = plF f a := by unfold atI; rw [plL_at ra.1 ra.2]; rfl
    have eb : atI (plL f) b = plF f b := by unfold atI; rw [plL_at rb.1 rb.2]; rfl
    simp only [meetM]
    rw [ea, eb]
    split
    · rename_i e
      subst e
      exact ⟨.refl, .refl, fun d h _ => h⟩
    rename_i hne
    split
    · rename_i hlt
      have hu : 0 ≤ atI O a := by
        rcases ha with q | q
        · rw [q, hw.zero] at hlt
          omega
        exact q
      obtain ⟨u1, u2, u3⟩ := h.up a hu
      obtain ⟨i1, i2, i3⟩ := meet_ok hw h n (atI O a) b u3 hb (by omega)
      refine ⟨.up hu i1, i2, fun d d1 d2 => ?_⟩
      cases d1 with
      | refl =>
        have := (d2.pl hw h hb).1
        omega
      | up _ d1 => exact i3 d d1 d2
    rename_i hlt
    have hu : 0 ≤ atI O b := by
      rcases hb with q | q
      · rw [q, hw.zero] at hlt
        have : a = 0 := hw.inj a 0 pa (by rw [hw.zero]; omega)
        exact absurd (this.trans q.symm) hne
      exact q
    obtain ⟨u1, u2, u3⟩ := h.up b hu
    obtain ⟨i1, i2, i3⟩ := meet_ok hw h n a (atI O b) ha u3 (by omega)
    refine ⟨i1, .up hu i2, fun d d1 d2 => ?_⟩
    cases d2 with
    | refl =>
      have := d1.pl hw h ha
      have : plF f b = plF f a := by omega
      exact absurd (hw.inj b a pb this).symm hne
    | up _ d2 => exact i3 d d1 d2
theorem meet_ok' {f : Func} (hw : OrdW f) {O : List Int} (h : Tr f O) {a b : Int} (ha : Asg O a) (hb : Asg O b) :
    Anc O (meetM (plL f) O 300 a b) a ∧ Anc O (meetM (plL f) O 300 a b) b ∧ ∀ d, Anc O d a → Anc O d b → Anc O d (meetM (plL f) O 300 a b) := by
  have h1 := (hw.low a).2
  have h2 := (hw.low b).2
  have h3 := hw.few
  exact meet_ok hw h 300 a b ha hb (by omega)
theorem Asg.nn {f : Func} (hw : OrdW f) {O : List Int} (h : Tr f O) {k : Int} (hk : Asg O k) : 0 ≤ k := (hw.range k (h.asg hw hk)).1
theorem pred_asg {f : Func} (hw : OrdW f) {O : List Int} (h : Tr f O) {p : Int} (hp : 0 ≤ p ∧ p < f.blocks.length) : (atI (plL f) p < 0 ∨ (p ≠ 0 ∧ atI O p < 0)) ↔ ¬ Asg O p := by
  have ep : atI (plL f) p = plF f p := by unfold atI; rw [plL_at hp.1 hp.2]; rfl
  rw [ep]
  constructor
  · rintro (q | ⟨q1, q2⟩) ha
    · have := h.asg hw ha
      omega
    rcases ha with r | r
    · exact q1 r
    omega
  intro ha
  refine .inr ⟨fun e => ha (.inl e), ?_⟩
  exact Classical.byContradiction fun q => ha (.inr (by omega))
theorem fold_ok {f : Func} (hw : OrdW f) {O : List Int} (h : Tr f O) : ∀ (ps : List Int) (acc : Int), (∀ p ∈ ps, 0 ≤ p ∧ p < f.blocks.length) → (acc = -1 ∨ Asg O acc) →
    (ps.foldl (predStep (plL f) O) acc = -1 ∧ acc = -1 ∧ ∀ p ∈ ps, ¬ Asg O p) ∨
    (Asg O (ps.foldl (predStep (plL f) O) acc) ∧ (acc ≠ -1 → Anc O (ps.foldl (predStep (plL f) O) acc) acc) ∧ (∀ p ∈ ps, Asg O p → Anc O (ps.foldl (predStep (plL f) O) acc) p) ∧
      ∀ d, (acc ≠ -1 → Anc O d acc) → (∀ p ∈ ps, Asg O p → Anc O d p) → Anc O d (ps.foldl (predStep (plL f) O) acc))
  | [], acc, _, hacc => by
    rcases hacc with q | q
    · exact .inl ⟨q, q, by simp⟩
    refine .inr ⟨q, fun _ => .refl, by simp, fun d h1 _ => h1 ?_⟩
    have := q.nn hw h
    omega
  | p :: r, acc, hps, hacc => by
    have hp := hps p (by simp)
    have hr : ∀ p ∈ r, 0 ≤ p ∧ p < f.blocks.length := fun q hq => hps q (by simp [hq])
    rw [List.foldl_cons]
    by_cases ha : Asg O p
    · have hnc := fun q => (pred_asg hw h hp).1 q ha
      have hs : predStep (plL f) O acc p = if acc < 0 then p else meetM (plL f) O 300 acc p := by
        unfold predStep
        rw [if_neg hnc]
      rcases hacc with q | q
      · have hs' : predStep (plL f) O acc p = p := by rw [hs, if_pos (by omega)]
        rw [hs']
        rcases fold_ok hw h r p hr (.inr ha) with ⟨_, i2, _⟩ | ⟨i1, i2, i3, i4⟩
        · have := ha.nn hw h
          omega
        have hpn : p ≠ -1 := by omega
        refine .inr ⟨i1, fun e => absurd q e, fun x hx hxa => ?_, fun d _ h2 => i4 d (fun _ => h2 p (by simp) ha) fun x hx hxa => h2 x (by simp [hx]) hxa⟩
        rcases List.mem_cons.1 hx with e | e
        · subst e
          exact i2 hpn
        exact i3 x e hxa
      have hq := q.nn hw h
      have hs' : predStep (plL f) O acc p = meetM (plL f) O 300 acc p := by rw [hs, if_neg (by omega)]
      rw [hs']
      obtain ⟨m1, m2, m3⟩ := meet_ok' hw h q ha
      have hma := (m1.pl hw h q).2.2.1
      rcases fold_ok hw h r _ hr (.inr hma) with ⟨_, i2, _⟩ | ⟨i1, i2, i3, i4⟩
      · have := hma.nn hw h
        omega
      have hmn : meetM (plL f) O 300 acc p ≠ -1 := by have := hma.nn hw h; omega
      refine .inr ⟨i1, fun _ => (i2 hmn).trans m1, fun x hx hxa => ?_, fun d h1 h2 => i4 d (fun _ => m3 d (h1 (by omega)) (h2 p (by simp) ha)) fun x hx hxa => h2 x (by simp [hx]) hxa⟩
      rcases List.mem_cons.1 hx with e | e
      · subst e
        exact (i2 hmn).trans m2
      exact i3 x e hxa
    have hs : predStep (plL f) O acc p = acc := by
      unfold predStep
      rw [if_pos ((pred_asg hw h hp).2 ha)]
    rw [hs]
    rcases fold_ok hw h r acc hr hacc with ⟨i1, i2, i3⟩ | ⟨i1, i2, i3, i4⟩
    · refine .inl ⟨i1, i2, fun x hx => ?_⟩
      rcases List.mem_cons.1 hx with e | e
      · subst e
        exact ha
      exact i3 x e
    refine .inr ⟨i1, i2, fun x hx hxa => ?_, fun d h1 h2 => i4 d h1 fun x hx hxa => h2 x (by simp [hx]) hxa⟩
    rcases List.mem_cons.1 hx with e | e
    · subst e
      exact absurd hxa ha
    exact i3 x e hxa
theorem predE_mem {k : Nat} {ls : List (List Int)} {e : Edge} {j : Nat} {a : Int} (h : a ∈ (predE k ls e)[j]?.getD []) : a ∈ ls[j]?.getD [] ∨ (a = k ∧ j = e.block.toNat) := by
  unfold predE at h
  by_cases q : e.block.toNat = j
  · subst q
    by_cases hl : e.block.toNat < ls.length
    · rw [List.getElem?_set_self hl] at h
      simp only [Option.getD_some, List.mem_append, List.mem_singleton] at h
      rcases h with h | h
      · exact .inl h
      exact .inr ⟨h, rfl⟩
    rw [List.getElem?_eq_none (by simp; omega)] at h
    simp at h
  rw [List.getElem?_set_ne q] at h
  exact .inl h
theorem predB_mem {k : Nat} {j : Nat} {a : Int} : ∀ {es : List Edge} {ls : List (List Int)}, a ∈ (predB k ls es)[j]?.getD [] → a ∈ ls[j]?.getD [] ∨ (a = k ∧ ∃ e ∈ es, j = e.block.toNat)
  | [], _, h => .inl h
  | e :: r, ls, h => by
    have h : a ∈ (predB k (predE k ls e) r)[j]?.getD [] := h
    rcases predB_mem h with q | ⟨q1, x, q2, q3⟩
    · rcases predE_mem q with q | ⟨q1, q2⟩
      · exact .inl q
      exact .inr ⟨q1, e, by simp, q2⟩
    exact .inr ⟨q1, x, by simp [q2], q3⟩
theorem predL_mem {j : Nat} {a : Int} : ∀ {bs : List Block} {k : Nat} {ls : List (List Int)}, a ∈ (predL k ls bs)[j]?.getD [] → a ∈ ls[j]?.getD [] ∨ ∃ (i : Nat) (b : Block), bs[i]? = some b ∧ a = (k + i : Nat) ∧ ∃ e ∈ b.term.to, j = e.block.toNat
  | [], _, _, h => .inl h
  | b :: r, k, ls, h => by
    rw [predL] at h
    rcases predL_mem h with q | ⟨i, c, q1, q2, q3⟩
    · rcases predB_mem q with q | ⟨q1, q2⟩
      · exact .inl q
      exact .inr ⟨0, b, rfl, q1, q2⟩
    exact .inr ⟨i + 1, c, q1, by rw [q2]; congr 1; omega, q3⟩
theorem preds_edg {f : Func} (hg : GrW f) {k p : Int} (hk : 0 ≤ k) (h : p ∈ predsAt f k) : (0 ≤ p ∧ p < f.blocks.length) ∧ Edg f p k := by
  rcases predL_mem h with q | ⟨i, b, q1, q2, e, q3, q4⟩
  · rw [List.getElem?_replicate] at q
    split at q <;> simp at q
  have hi := lt_of_getElem? q1
  refine ⟨by omega, e, ?_, ?_⟩
  · have : blkOf f p = b := by simp [blkOf, show p.toNat = i by omega, q1]
    rw [toOf, this]
    exact q3
  have := hg.edges b (List.mem_of_getElem? q1) e q3
  omega
structure Dinv (f : Func) (i : Int) (O : List Int) : Prop where
  tr : Tr f O
  asg : ∀ v, 1 ≤ plF f v → plF f v < i → 0 ≤ atI O v
  low : ∀ k, 0 ≤ atI O k → ∀ d, (∀ p ∈ predsAt f k, Asg O p → Anc O d p) → Anc O d (atI O k)
  fwd : ∀ k, 0 ≤ atI O k → (plF f k < i ∨ i ≤ plF f (atI O k)) → ∃ p ∈ predsAt f k, Asg O p ∧ plF f p < plF f k ∧ Anc O (atI O k) p
theorem atI_set {O : List Int} {z nx : Int} (hz : 1 ≤ z) (hl : z.toNat < O.length) (k : Int) : atI (O.set z.toNat nx) k = if k = z then nx else atI O k := by
  unfold atI
  by_cases e : k = z
  · subst e
    rw [if_pos rfl, List.getElem?_set_self hl]
    rfl
  rw [if_neg e, List.getElem?_set_ne (by omega)]
theorem dinv_step {f : Func} (hg : GrW f) (hw : OrdW f) {i : Int} {O : List Int} (h : Dinv f i O) {z : Int} (hz : plF f z = i) (h1 : 1 ≤ i) :
    0 ≤ nextM (plL f) O (predsAt f z) ∧ 0 ≤ plF f (nextM (plL f) O (predsAt f z)) ∧ (0 ≤ atI O z → nextM (plL f) O (predsAt f z) = atI O z ∨ plF f (nextM (plL f) O (predsAt f z)) < plF f (atI O z)) ∧ Dinv f (i + 1) (O.set z.toNat (nextM (plL f) O (predsAt f z))) ∧
    (∀ p ∈ predsAt f z, Asg O p → Anc O (nextM (plL f) O (predsAt f z)) p) := by
  have hzr := hw.range z (by omega)
  have hz1 : 1 ≤ z := by
    refine Classical.byContradiction fun q => ?_
    have : z = 0 := by omega
    rw [this, hw.zero] at hz
    omega
  have hzl : z.toNat < O.length := by rw [h.tr.len]; omega
  have hps : ∀ p ∈ predsAt f z, 0 ≤ p ∧ p < f.blocks.length := fun p hp => (preds_edg hg (by omega) hp).1
  obtain ⟨a, ha1, ha2, ha3⟩ := hw.fwd z (by omega)
  have har := hw.range a ha2
  have hap : a ∈ predsAt f z := edg_preds har ⟨by omega, hzr.2⟩ ha1
  have haa : Asg O a := by
    by_cases e : a = 0
    · exact .inl e
    refine .inr (h.asg a ?_ (by omega))
    refine Classical.byContradiction fun q => e (hw.inj a 0 ha2 (by rw [hw.zero]; omega))
  have hfold := fold_ok hw h.tr (predsAt f z) (-1) hps (.inl rfl)
  obtain ⟨nx, hnx⟩ : ∃ nx, nx = nextM (plL f) O (predsAt f z) := ⟨_, rfl⟩
  rw [show (predsAt f z).foldl (predStep (plL f) O) (-1) = nx from hnx.symm] at hfold
  rw [← hnx]
  rcases hfold with ⟨_, _, q⟩ | ⟨n1, _, n3, n4⟩
  · exact absurd haa (q a hap)
  have n4 : ∀ d, (∀ p ∈ predsAt f z, Asg O p → Anc O d p) → Anc O d nx := fun d => n4 d (fun e => absurd rfl e)
  have hnn := n1.nn hw h.tr
  have hnp := h.tr.asg hw n1
  have hnl : plF f nx < i := by
    have := (n3 a hap haa).pl hw h.tr haa
    omega
  have hmove : 0 ≤ atI O z → Anc O nx (atI O z) := fun hza => h.low z hza nx n3
  obtain ⟨O', hO'⟩ : ∃ O', O' = O.set z.toNat nx := ⟨_, rfl⟩
  have hat : ∀ k, atI O' k = if k = z then nx else atI O k := fun k => by rw [hO']; exact atI_set hz1 hzl k
  rw [← hO']
  have hasg : ∀ k, Asg O k → Asg O' k := fun k hk => by
    rcases hk with q | q
    · exact .inl q
    refine .inr ?_
    rw [hat]
    split
    · exact hnn
    exact q
  have hasg' : ∀ k, k ≠ z → Asg O' k → Asg O k := fun k hk q => by
    rcases q with q | q
    · exact .inl q
    rw [hat, if_neg hk] at q
    exact .inr q
  have keepB : ∀ {d p}, Asg O p → plF f p < i → Anc O d p → Anc O' d p := fun {d p} hp hlt ha => by
    induction ha with
    | refl => exact .refl
    | @up k hk _ ih =>
      have hu := h.tr.up k hk
      have hkz : k ≠ z := fun e => by rw [e] at hlt; omega
      have e : atI O' k = atI O k := by rw [hat, if_neg hkz]
      refine .up (by rw [e]; exact hk) ?_
      rw [e]
      exact ih hu.2.2 (by omega)
  have keepB' : ∀ {d p}, Asg O p → plF f p < i → Anc O' d p → Anc O d p := fun {d p} hp hlt ha => by
    induction ha with
    | refl => exact .refl
    | @up k hk _ ih =>
      have hkz : k ≠ z := fun e => by rw [e] at hlt; omega
      have e : atI O' k = atI O k := by rw [hat, if_neg hkz]
      rw [e] at hk ih
      have hu := h.tr.up k hk
      exact .up hk (ih hu.2.2 (by omega))
  have keepA : ∀ {a p}, Asg O p → i ≤ plF f a → Anc O a p → Anc O' a p := fun {a p} hp hle ha => by
    induction ha with
    | refl => exact .refl
    | @up k hk ha ih =>
      have hu := h.tr.up k hk
      have hp2 := ha.pl hw h.tr hu.2.2
      have hkz : k ≠ z := fun e => by rw [e] at hu hp2; omega
      have e : atI O' k = atI O k := by rw [hat, if_neg hkz]
      refine .up (by rw [e]; exact hk) ?_
      rw [e]
      exact ih hu.2.2
  have shrink : ∀ {d p}, Asg O p → Anc O' d p → Anc O d p := fun {d p} hp ha => by
    induction ha with
    | refl => exact .refl
    | @up k hk ha ih =>
      by_cases hkz : k = z
      · subst hkz
        have e : atI O' k = nx := by rw [hat, if_pos rfl]
        rw [e] at ha
        have hza : 0 ≤ atI O k := by
          rcases hp with q | q
          · omega
          exact q
        exact .up hza ((keepB' n1 hnl ha).trans (hmove hza))
      have e : atI O' k = atI O k := by rw [hat, if_neg hkz]
      rw [e] at hk ih
      exact .up hk (ih (h.tr.up k hk).2.2)
  have htr : Tr f O' := by
    refine ⟨by rw [hO', List.length_set]; exact h.tr.len, by rw [hat, if_neg (by omega)]; exact h.tr.root, fun k hk => ?_, fun k => ?_⟩
    · rw [hat] at hk ⊢
      split
      · rename_i e
        subst e
        exact ⟨hnp, by omega, hasg _ n1⟩
      rename_i e
      rw [if_neg e] at hk
      have := h.tr.up k hk
      exact ⟨this.1, this.2.1, hasg _ this.2.2⟩
    rw [hat]
    split
    · omega
    exact h.tr.low k
  refine ⟨hnn, hnp, fun hza => ?_, ⟨htr, fun v hv hvi => ?_, fun k hk d hd => ?_, fun k hk hc => ?_⟩, n3⟩
  · have := hmove hza
    have hu := h.tr.up z hza
    have hp2 := this.pl hw h.tr hu.2.2
    by_cases e : plF f nx = plF f (atI O z)
    · exact .inl (hp2.2.2.2 e)
    exact .inr (by omega)
  · rw [hat]
    split
    · exact hnn
    rename_i e
    refine h.asg v hv ?_
    refine Classical.byContradiction fun q => e (hw.inj v z (by omega) (by omega))
  · rw [hat]
    have hold : ∀ p ∈ predsAt f k, Asg O p → Anc O d p := fun p hp hpa => shrink hpa (hd p hp (hasg p hpa))
    split
    · rename_i e
      subst e
      exact keepB n1 hnl (n4 d hold)
    rename_i e
    rw [hat, if_neg e] at hk
    have hda := h.low k hk d hold
    have hu := h.tr.up k hk
    by_cases hpa : plF f (atI O k) < i
    · exact keepB hu.2.2 hpa hda
    obtain ⟨p, hp, hpa', _, hpk⟩ := h.fwd k hk (.inr (by omega))
    have hk' := keepA hpa' (by omega) hpk
    have hd' := hd p hp (hasg p hpa')
    rcases hk'.comp hd' with q | q
    · have q' := q.pl hw htr (hd'.pl hw htr (hasg p hpa')).2.2.1
      have hdp := hda.pl hw h.tr hu.2.2
      have : d = atI O k := hdp.2.2.2 (by omega)
      rw [this]
      exact .refl
    exact q
  rw [hat] at hc ⊢
  by_cases e : k = z
  · subst e
    rw [if_pos rfl]
    exact ⟨a, hap, hasg a haa, by omega, keepB haa (by omega) (n3 a hap haa)⟩
  rw [if_neg e] at hc ⊢
  rw [hat, if_neg e] at hk
  have hku := h.tr.up k hk
  rcases hc with q | q
  · have hki : plF f k < i := by
      refine Classical.byContradiction fun r => e (hw.inj k z (by omega) (by omega))
    obtain ⟨p, hp, hpa, hpl, hpk⟩ := h.fwd k hk (.inl hki)
    exact ⟨p, hp, hasg p hpa, hpl, keepB hpa (by omega) hpk⟩
  obtain ⟨p, hp, hpa, hpl, hpk⟩ := h.fwd k hk (.inr (by omega))
  exact ⟨p, hp, hasg p hpa, hpl, keepA hpa (by omega) hpk⟩
def rkF (f : Func) (o : Int) : Nat := if o < 0 then 200 else (plF f o).toNat
def Dm.weight (f : Func) (S : Dm) : Nat := (S.over.map (rkF f)).sum
theorem set_self' {l : List Int} {k : Nat} {x : Int} (h : l[k]? = some x) : l.set k x = l := by
  obtain ⟨hlt, e⟩ := List.getElem?_eq_some_iff.1 h
  rw [← e, List.set_getElem_self]
theorem dmStep_ok {f : Func} (hg : GrW f) (hw : OrdW f) {i : Int} {S : Dm} (h : Dinv f i S.over) {z : Int} (hz : plF f z = i) (h1 : 1 ≤ i) :
    Dinv f (i + 1) (dmStep f S z).over ∧ (dmStep f S z).weight f ≤ S.weight f ∧ ((dmStep f S z).again = true → S.again = true ∨ (dmStep f S z).weight f < S.weight f) ∧
    ((dmStep f S z).again = false → dmStep f S z = S ∧ nextM (plL f) S.over (predsAt f z) = atI S.over z) := by
  obtain ⟨s1, s2, s3, s4, _⟩ := dinv_step hg hw h hz h1
  have hzr := hw.range z (by omega)
  obtain ⟨o, ho⟩ : ∃ o, S.over[z.toNat]? = some o := ⟨S.over[z.toNat]'(by rw [h.tr.len]; omega), List.getElem?_eq_getElem _⟩
  have hoe : atI S.over z = o := by simp [atI, ho]
  unfold dmStep
  generalize nextM (plL f) S.over (predsAt f z) = nx at *
  split
  · rename_i hne
    have hlt : rkF f nx < rkF f o := by
      have hl := (hw.low nx).2
      have hf := hw.few
      unfold rkF
      rw [if_neg (by omega)]
      split
      · omega
      rw [hoe] at s3 hne
      rcases s3 (by omega) with q | q
      · exact absurd q hne
      omega
    have hs := sum_set (l := S.over.map (rkF f)) (k := z.toNat) (x := rkF f nx) (y := rkF f o) (by simp [ho])
    rw [← List.map_set] at hs
    simp only [Dm.weight]
    exact ⟨s4, by omega, fun _ => .inr (by omega), fun q => by cases q⟩
  rename_i hne
  have hne : nx = atI S.over z := by simpa using hne
  have : S.over.set z.toNat nx = S.over := set_self' (by rw [hne, hoe]; exact ho)
  rw [this] at s4
  exact ⟨s4, Nat.le_refl _, fun q => .inl q, fun _ => ⟨rfl, hne⟩⟩
theorem dmF_ok {f : Func} (hg : GrW f) (hw : OrdW f) : ∀ (l : List Int) (i : Nat) {S : Dm}, 1 ≤ i → (∀ (j : Nat) z, l[j]? = some z → plF f z = i + j) → Dinv f i S.over →
    Dinv f (i + l.length : Nat) (l.foldl (dmStep f) S).over ∧ (l.foldl (dmStep f) S).weight f ≤ S.weight f ∧ ((l.foldl (dmStep f) S).again = true → S.again = true ∨ (l.foldl (dmStep f) S).weight f < S.weight f) ∧
    ((l.foldl (dmStep f) S).again = false → l.foldl (dmStep f) S = S ∧ ∀ z ∈ l, nextM (plL f) S.over (predsAt f z) = atI S.over z)
  | [], i, S, _, _, h => ⟨h, Nat.le_refl _, fun q => .inl q, fun _ => ⟨rfl, by simp⟩⟩
  | z :: r, i, S, h1, hl, h => by
    have hz := hl 0 z rfl
    obtain ⟨a1, a2, a3, a4⟩ := dmStep_ok hg hw h (z := z) (by rw [hz]; omega) (by omega)
    have hr : ∀ (j : Nat) z, r[j]? = some z → plF f z = ((i + 1 : Nat) : Int) + j := fun j y hj => by
      rw [hl (j + 1) y hj]
      omega
    have a1' : Dinv f ((i + 1 : Nat) : Int) (dmStep f S z).over := by
      rw [show ((i + 1 : Nat) : Int) = (i : Int) + 1 by omega]
      exact a1
    obtain ⟨b1, b2, b3, b4⟩ := dmF_ok hg hw r (i + 1) (by omega) hr a1'
    rw [List.foldl_cons]
    refine ⟨by rw [List.length_cons, show i + (r.length + 1) = i + 1 + r.length by omega]; exact b1, by omega, fun q => ?_, fun q => ?_⟩
    · rcases b3 q with q | q
      · rcases a3 q with q | q
        · exact .inl q
        exact .inr (by omega)
      exact .inr (by omega)
    obtain ⟨c1, c2⟩ := b4 q
    rw [c1] at q
    obtain ⟨d1, d2⟩ := a4 q
    rw [d1] at c1 c2
    rw [d1]
    refine ⟨c1, fun y hy => ?_⟩
    rcases List.mem_cons.1 hy with e | e
    · subst e
      exact d2
    exact c2 y e
theorem dinv_again {f : Func} (hw : OrdW f) {O : List Int} (h : Dinv f (orderM f).length O) : Dinv f 1 O :=
  ⟨h.tr, fun v h1 h2 => absurd h1 (by omega), h.low, fun k hk _ => h.fwd k hk (.inl (hw.low k).2)⟩
theorem dmR_ok {f : Func} (hg : GrW f) (hw : OrdW f) {S : Dm} (h : Dinv f 1 S.over) :
    Dinv f (orderM f).length (dmR f S).over ∧ (dmR f S).weight f ≤ S.weight f ∧ ((dmR f S).again = true → S.again = true ∨ (dmR f S).weight f < S.weight f) ∧
    ((dmR f S).again = false → dmR f S = S ∧ ∀ z ∈ (orderM f).drop 1, nextM (plL f) S.over (predsAt f z) = atI S.over z) := by
  have hp := hw.pos
  have := dmF_ok hg hw ((orderM f).drop 1) 1 (S := S) (by omega) (fun j z hj => by
    rw [List.getElem?_drop] at hj
    rw [hw.at_ _ _ hj]
    omega) h
  rw [List.length_drop, show 1 + ((orderM f).length - 1) = (orderM f).length by omega] at this
  exact this
theorem dmI_done {f : Func} {S : Dm} (h : S.again = false) (n : Nat) : dmI f n S = S := by
  cases n with
  | zero => rfl
  | succ n => simp [dmI, h]
theorem dmI_ok {f : Func} (hg : GrW f) (hw : OrdW f) : ∀ (n : Nat) {S : Dm}, Dinv f 1 S.over → S.again = true → S.weight f < n →
    (dmI f n S).again = false ∧ Dinv f (orderM f).length (dmI f n S).over ∧ ∀ z ∈ (orderM f).drop 1, nextM (plL f) (dmI f n S).over (predsAt f z) = atI (dmI f n S).over z
  | 0, S, _, _, hn => absurd hn (by omega)
  | n + 1, S, h, ha, hn => by
    obtain ⟨a1, a2, a3, a4⟩ := dmR_ok hg hw (S := ⟨S.over, false⟩) h
    have hwS : (⟨S.over, false⟩ : Dm).weight f = S.weight f := rfl
    rw [hwS] at a2 a3
    simp only [dmI, ha, if_true]
    cases hr : (dmR f ⟨S.over, false⟩).again with
    | false =>
      obtain ⟨b1, b2⟩ := a4 hr
      rw [dmI_done hr]
      refine ⟨hr, a1, ?_⟩
      rw [b1]
      exact b2
    | true =>
      rcases a3 hr with q | q
      · cases q
      exact dmI_ok hg hw n (dinv_again hw a1) hr (by omega)
theorem dmS_ok {f : Func} (hw : OrdW f) : Dinv f 1 (dmS f).over := by
  have hat : ∀ k, atI (dmS f).over k = -1 := fun k => by
    unfold atI dmS
    simp only
    rw [List.getElem?_replicate]
    split <;> rfl
  refine ⟨⟨by simp [dmS], hat 0, fun k hk => ?_, fun k => by rw [hat]; omega⟩, fun v h1 h2 => absurd h1 (by omega), fun k hk => ?_, fun k hk => ?_⟩
  all_goals
    rw [hat] at hk
    omega
theorem dmS_weight {f : Func} (h : f.blocks.length ≤ 128) : (dmS f).weight f ≤ 25600 := by
  have hs := sum_le (l := (dmS f).over.map (rkF f)) (b := 200) (fun x hx => by
    simp only [dmS, List.map_replicate] at hx
    rw [(List.mem_replicate.1 hx).2]
    simp [rkF])
  simp only [dmS, List.length_map, List.length_replicate] at hs
  simp only [Dm.weight, dmS]
  omega
structure TreeW (f : Func) : Prop where
  tr : Tr f (treeM f)
  asg : ∀ v, 1 ≤ plF f v → 0 ≤ atI (treeM f) v
  fix : ∀ v, 1 ≤ plF f v → nextM (plL f) (treeM f) (predsAt f v) = atI (treeM f) v
theorem tree_w {f : Func} (hg : GrW f) : TreeW f := by
  have hw := ord_w hg
  have h0 := dmS_weight hg.few
  obtain ⟨_, h2, h3⟩ := dmI_ok hg hw 30000 (dmS_ok hw) rfl (by omega)
  refine ⟨h2.tr, fun v hv => h2.asg v hv (hw.low v).2, fun v hv => h3 v ?_⟩
  have := hw.get v (by omega)
  refine List.mem_of_getElem? (i := (plF f v).toNat - 1) ?_
  rw [List.getElem?_drop, ← this]
  congr 1
  omega
theorem TreeW.asg' {f : Func} (hw : OrdW f) (h : TreeW f) {v : Int} (hv : 0 ≤ plF f v) : Asg (treeM f) v := by
  by_cases e : plF f v = 0
  · exact .inl (hw.inj v 0 hv (by rw [hw.zero, e]))
  exact .inr (h.asg v (by omega))
def upM (O : List Int) : Nat → Int → List Int
  | 0, _ => []
  | n + 1, k => if k < 0 then [] else k :: upM O n (atI O k)
theorem mem_upM {f : Func} (hw : OrdW f) {O : List Int} (h : Tr f O) {d : Int} : ∀ (n : Nat) (k : Int), Asg O k → plF f k < n → (d ∈ upM O n k ↔ Anc O d k)
  | 0, k, hk, hn => by
    have := h.asg hw hk
    omega
  | n + 1, k, hk, hn => by
    have hk0 := hk.nn hw h
    simp only [upM]
    rw [if_neg (by omega), List.mem_cons]
    by_cases hu : 0 ≤ atI O k
    · obtain ⟨u1, u2, u3⟩ := h.up k hu
      rw [mem_upM hw h n (atI O k) u3 (by omega)]
      constructor
      · rintro (q | q)
        · rw [q]
          exact .refl
        exact .up hu q
      intro q
      cases q with
      | refl => exact .inl rfl
      | up _ q => exact .inr q
    have e : upM O n (atI O k) = [] := by
      cases n with
      | zero => rfl
      | succ n => simp only [upM]; rw [if_pos (by omega)]
    rw [e]
    constructor
    · rintro (q | q)
      · rw [q]
        exact .refl
      cases q
    intro q
    cases q with
    | refl => exact .inl rfl
    | up q _ => exact absurd q hu
theorem Anc.asymm {f : Func} (hw : OrdW f) {O : List Int} (h : Tr f O) {a b : Int} (hb : Asg O b) (h1 : Anc O a b) (h2 : Anc O b a) : a = b := by
  have p1 := h1.pl hw h hb
  have p2 := h2.pl hw h p1.2.2.1
  exact p1.2.2.2 (by omega)
end Go.Proofs.Ytlclgfgmhnmnaaa
namespace Go.Proofs.Ytlclgfgmhnmnaaa
open Go.Av Go.Sort
def sortI (l : List Int) : List Int := l.mergeSort fun x y => decide (x ≤ y)
theorem sortI_perm (l : List Int) : (sortI l).Perm l := List.mergeSort_perm _ _
def SortCalls (P : Program) (f : FuncId) : Prop := ∀ (blk off cap : Nat) (zs : List Int) (w : World), Go.Sort.Holds (Value.int .i64) w blk off zs.toArray → blk < w.heap.size → zs.length < 4611686018427387904 →
  Calls P f #[.slice (some ⟨blk, off, none⟩) zs.length cap] w fun e w' =>
    e = .returned (.tuple #[]) ∧ ∃ n os, w' = grow (putRow (Value.int .i64) (Sort.ahead w n) blk off (zs.mergeSort fun x y => decide (x ≤ y)).toArray) os
theorem sort_bridge {P : Program} {f : FuncId} (hen : Go.Av.Enters P f) (hc : SortCalls P f) {O : List AObj} {id : Nat} {zs : List Int} (ho : O[id]? = some (.cells (zs.map aI))) (hl : zs.length ≤ 1000) :
    ECall P f O [.os id zs.length 1] (fun r O' => r = .tup [] ∧ O' = O.set id (.cells ((sortI zs).map aI))) := by
  refine ⟨hen, fun g vs hg hgo hvs => ?_⟩
  subst hgo
  obtain ⟨h1, h2⟩ := hvs
  simp only [List.length_singleton] at h1
  have hv0 : vs[0]? = some (vs[0]'(by omega)) := Array.getElem?_eq_getElem _
  obtain ⟨l, o, cap, he, hobj, hns, hcap, hb, hmax, hve⟩ := (h2 0 _ _ rfl hv0).os_inv
  have hvs : vs = #[.slice (some ⟨l.block, 0, none⟩) zs.length cap] := by
    apply Array.ext
    · simpa using h1
    intro i hi1 hi2
    have : i = 0 := by omega
    subst this
    exact hve
  subst hvs
  obtain ⟨arr, t, hlo, hrow, hlen, hcs, hcsc, hlsz⟩ := hg.row ho he
  rw [List.length_map] at hlen
  have hcell : ∀ (j : Nat) x, zs[j]? = some x → arr[j]? = some (.int .i64 x) ∧ flatOK (.int .i64 x) := fun j x hj => by
    have hjl := lt_of_getElem? hj
    have hja : arr[j]? = some (arr[j]'(by omega)) := Array.getElem?_eq_getElem _
    obtain ⟨e, hf⟩ := (hcs j (aI x) _ (by simp [hj]) hja).v_inv
    exact ⟨by rw [hja, e], hf⟩
  have hH : Go.Sort.Holds (Value.int .i64) g.w l.block 0 zs.toArray := fun j hj => by
    have hj' : j < zs.length := by simpa using hj
    refine ⟨?_, by simp [World.frozen?, hrow]⟩
    rw [show g.w.cell? ⟨l.block, 0 + j, none⟩ = arr[0 + j]? from Go.Av.cell_of_row hrow (0 + j), Nat.zero_add, (hcell j _ (List.getElem?_eq_getElem hj')).1]
    simp [hj']
  refine (hc l.block 0 cap zs g.w hH (lt_of_getElem?' hrow) (by omega)).mono ?_
  rintro e w' ⟨rfl, n, os, hw'⟩
  have hss : (zs.mergeSort fun x y => decide (x ≤ y)) = sortI zs := rfl
  rw [hss] at hw'
  have hp := sortI_perm zs
  obtain ⟨ss, hse⟩ : ∃ ss, ss = sortI zs := ⟨_, rfl⟩
  rw [← hse] at hw' hp ⊢
  have hsl := hp.length_eq
  have hblt := lt_of_getElem?' hrow
  have hsame : ∀ k, k < g.w.heap.size → w'.heap[k]? = (g.w.heap.modify l.block (onCells (putCells (Value.int .i64) 0 ss.toArray)))[k]? := fun k hk => by
    subst hw'
    simp only [grow, putRow, mapBlock, Sort.ahead]
    rw [Array.getElem?_append_left (by simpa using hk)]
  have hrow' : w'.heap[l.block]? = some (.cells (putCells (Value.int .i64) 0 ss.toArray arr) t (0, 0)) := by
    rw [hsame _ hblt, Array.getElem?_modify, if_pos rfl, hrow]
    rfl
  have hoth : ∀ k, k < g.w.heap.size → k ≠ l.block → w'.heap[k]? = g.w.heap[k]? := fun k hk hne => by
    rw [hsame k hk, Array.getElem?_modify, if_neg (fun q => hne q.symm)]
  have hput : ∀ (j : Nat) x, ss[j]? = some x → (putCells (Value.int .i64) 0 ss.toArray arr)[j]? = some (.int .i64 x) := fun j x hj => by
    have hjl := lt_of_getElem? hj
    have hja : arr[j]? = some (arr[j]'(by omega)) := Array.getElem?_eq_getElem _
    simp only [putCells, Array.getElem?_mapIdx, hja, Option.map_some, Nat.zero_add, Nat.zero_le, true_and, Nat.sub_zero, List.size_toArray]
    rw [if_pos hjl]
    simp [hj]
  have hturn : Turns g id (.cells (zs.map aI)) (some l) (.cells (ss.map aI)) w' :=
    { obj := ho
      os := by rw [hw']; rfl
      tape := by rw [hw']; rfl
      output := by rw [hw']; rfl
      size := by rw [hw']; simp [grow, putRow, mapBlock, Sort.ahead]
      block := fun k hk hne => hoth k hk fun e => hne l he trivial e.symm
      cell := fun b off x hx hb => by
        by_cases e : b = l.block
        · have := hb l he trivial e.symm
          omega
        rw [cell_congr (hoth b (cell_lt hx) e)]
        exact hx
      place := fun l1 h1 _ => by
        simp only [Option.some.injEq] at h1
        subst h1
        exact .inr ⟨l, he, trivial, rfl, Nat.le_refl _⟩
      spare := fun m h => by cases h
      plain := fun _ => ⟨by simp [AObj.isSpare], he⟩
      gone := by simp }
  refine ⟨g.turn id (some l) (.cells (ss.map aI)) w', .tuple #[], .tup [], rfl, rfl, Le.turn hg hturn, Good.turn hg hturn ?_ ?_, .tup rfl (by simp), rfl, rfl⟩
  · refine ⟨l, _, t, rfl, hlo, hrow', by simp [putCells, hsl]; omega, fun j c u hj hu => ?_, fun c hc => ?_, by simpa [putCells] using hlsz⟩
    · rw [List.getElem?_map] at hj
      obtain ⟨x, hx, rfl⟩ := Option.map_eq_some_iff.1 hj
      rw [hput j x hx] at hu
      simp only [Option.some.injEq] at hu
      subst hu
      have hm : x ∈ zs := hp.subset (List.mem_of_getElem? hx)
      obtain ⟨i, hi⟩ := List.getElem?_of_mem hm
      exact .v (hcell i x hi).2
    obtain ⟨x, _, rfl⟩ := List.mem_map.1 hc
    trivial
  intro l1 h1 _
  simp only [Option.some.injEq] at h1
  subst h1
  rw [hw']
  simp [grow, putRow, mapBlock, Sort.ahead]
  omega
end Go.Proofs.Ytlclgfgmhnmnaaa
namespace Go.Proofs.Ytlclgfgmhnmnaaa
open Go.Av
def rchS (f : Func) : List Int := sortI (orderM f)
theorem mem_rchS {f : Func} {k : Int} : k ∈ rchS f ↔ 0 ≤ plF f k := by
  unfold rchS plF
  rw [(sortI_perm _).mem_iff]
  exact idxI_mem.1.symm
def ancB (O : List Int) (a b : Int) : Bool := decide (a ∈ upM O 300 b)
theorem ancB_iff {f : Func} (hw : OrdW f) {O : List Int} (h : Tr f O) {a b : Int} (hb : Asg O b) : ancB O a b = true ↔ Anc O a b := by
  have h1 := (hw.low b).2
  have h2 := hw.few
  unfold ancB
  rw [decide_eq_true_iff]
  exact mem_upM hw h 300 b hb (by omega)
theorem anc_step {f : Func} (hw : OrdW f) {O : List Int} (h : Tr f O) {a k : Int} (hk : Asg O k) (hne : k ≠ a) :
    (0 ≤ atI O k ∧ Asg O (atI O k) ∧ plF f (atI O k) < plF f k ∧ ancB O a k = ancB O a (atI O k)) ∨ (atI O k = -1 ∧ ancB O a k = false) := by
  by_cases hu : 0 ≤ atI O k
  · obtain ⟨u1, u2, u3⟩ := h.up k hu
    refine .inl ⟨hu, u3, u2, ?_⟩
    rw [Bool.eq_iff_iff, ancB_iff hw h hk, ancB_iff hw h u3]
    constructor
    · intro q
      cases q with
      | refl => exact absurd rfl hne
      | up _ q => exact q
    exact fun q => .up hu q
  have := h.low k
  refine .inr ⟨by omega, ?_⟩
  rw [← Bool.not_eq_true, ancB_iff hw h hk]
  intro q
  cases q with
  | refl => exact hne rfl
  | up q _ => exact hu q
theorem ancB_self {f : Func} (hw : OrdW f) {O : List Int} (h : Tr f O) {k : Int} (hk : Asg O k) : ancB O k k = true := (ancB_iff hw h hk).2 .refl
theorem anc_pred {f : Func} (hg : GrW f) {k p : Int} (hk : 1 ≤ plF f k) (hp : p ∈ predsAt f k) (hr : 0 ≤ plF f p) {a : Int} (ha : Anc (treeM f) a k) (hne : a ≠ k) : Anc (treeM f) a p := by
  have hw := ord_w hg
  have ht := tree_w hg
  have hkr := hw.range k (by omega)
  have hu : 0 ≤ atI (treeM f) k := ht.asg k hk
  have ha' : Anc (treeM f) a (atI (treeM f) k) := by
    cases ha with
    | refl => exact absurd rfl hne
    | up _ q => exact q
  refine ha'.trans ?_
  have hfix := ht.fix k hk
  have hall : ∀ q ∈ predsAt f k, 0 ≤ q ∧ q < f.blocks.length := fun q hq => (preds_edg hg hkr.1 hq).1
  unfold nextM at hfix
  rcases fold_ok hw ht.tr (predsAt f k) (-1) hall (.inl rfl) with ⟨e, _⟩ | ⟨_, _, h3, _⟩
  · omega
  have h4 := h3 p hp (ht.asg' hw hr)
  rwa [hfix] at h4
def Hs (l : List Bool) (v : Nat) : Prop := l[v]? = some true
def LeB (a b : List Bool) : Prop := ∀ v, Hs a v → Hs b v
structure Lv where
  first : List (List Bool)
  behind : List (List Bool)
  again : Bool
def lvStep (f : Func) (many k : Nat) (S : Lv) : Lv :=
  if S.behind[k]?.getD [] ≠ [] ∧ lastM f many S.first (blkOf f k).term = S.behind[k]?.getD [] then S
  else ⟨S.first.set k (backM (blkOf f k).ins (lastM f many S.first (blkOf f k).term)), S.behind.set k (lastM f many S.first (blkOf f k).term), true⟩
def lvR (f : Func) (many : Nat) : Nat → Lv → Lv
  | 0, S => S
  | k + 1, S => lvR f many k (lvStep f many k S)
def lvI (f : Func) (many : Nat) : Nat → Lv → Lv
  | 0, S => S
  | n + 1, S => if S.again then lvI f many n (lvR f many f.blocks.length ⟨S.first, S.behind, false⟩) else S
def lvS (n : Nat) : Lv := ⟨List.replicate n [], List.replicate n [], true⟩
def manyM (f : Func) : Nat := (freshM f).toNat + 1
def liveM (f : Func) : Lv := lvI f (manyM f) 700000 (lvS f.blocks.length)
structure LvOK (f : Func) (many : Nat) (S : Lv) : Prop where
  len1 : S.first.length = f.blocks.length
  len2 : S.behind.length = f.blocks.length
  sz1 : ∀ l ∈ S.first, l = [] ∨ l.length = many
  sz2 : ∀ l ∈ S.behind, l = [] ∨ l.length = many
  low : ∀ (k : Nat) (l : List Bool), S.behind[k]? = some l → l ≠ [] → S.first[k]? = some (backM (blkOf f k).ins l) ∧ LeB l (lastM f many S.first (blkOf f k).term)
  nil : ∀ k : Nat, S.behind[k]? = some [] → S.first[k]? = some []
def szB (l : List Bool) : Nat := if l = [] then 0 else 1 + l.countP id
def Lv.weight (many : Nat) (S : Lv) : Nat := (S.behind.map fun l => many + 1 - szB l).sum
def parDefs (k : Int) (l : List Int) : Defs := l.map fun p => (p, (k, 0))
def insDefs (k : Int) : Int → List Ins → Defs
  | _, [] => []
  | n, i :: r => (i.to, (k, n + 1)) :: insDefs k (n + 1) r
def blkDefs (k : Int) (b : Block) : Defs := parDefs k b.params ++ insDefs k 0 b.ins
def allDefs : Int → List Block → Defs
  | _, [] => []
  | k, b :: r => blkDefs k b ++ allDefs (k + 1) r
def dsF (f : Func) : Defs := allDefs 0 f.blocks
def DefAt (f : Func) (v : Int) (p : Int × Int) : Prop := ∃ (k : Nat) (b : Block), f.blocks[k]? = some b ∧ p.1 = k ∧ ((p.2 = 0 ∧ v ∈ b.params) ∨ ∃ (j : Nat) (i : Ins), b.ins[j]? = some i ∧ i.to = v ∧ p.2 = j + 1)
structure Dz (S : Ds) : Prop where
  zero : S.at_ 0 = Bs.none.add 0
  seen : S.seen.has 0 = true
def overF (f : Func) (k : Nat) : Bs := (domM f).1[k]?.getD .none
def seenF (f : Func) (k : Nat) : Bool := (domM f).2.has k
structure DomW (f : Func) : Prop where
  seen : seenF f 0 = true
  zero : ∀ j, j < 128 → ((overF f 0).has j = true ↔ j = 0)
  self : ∀ k, k < f.blocks.length → (overF f k).has k = true
  step : ∀ (k : Nat) b, f.blocks[k]? = some b → seenF f k = true → ∀ e ∈ b.term.to, seenF f e.block.toNat = true ∧ ∀ j, j < 128 → ((overF f e.block.toNat).has j = true → j = e.block.toNat ∨ (overF f k).has j = true)
def Fine (f : Func) (k : Nat) (n : Int) (v : Int) : Prop := ∃ p, DefAt f v p ∧ (seenF f k = true → (p.1 = k ∧ p.2 ≤ n) ∨ (p.1 ≠ k ∧ (overF f k).has p.1.toNat = true))
structure UsesW (f : Func) : Prop where
  ins : ∀ (k : Nat) b, f.blocks[k]? = some b → ∀ (n : Nat) i, b.ins[n]? = some i → ∀ a ∈ i.args, Fine f k n a
  arg : ∀ (k : Nat) b, f.blocks[k]? = some b → b.term.kind ≠ 1 → b.term.kind ≠ 4 → Fine f k b.ins.length b.term.arg
  args : ∀ (k : Nat) b, f.blocks[k]? = some b → ∀ e ∈ b.term.to, ∀ a ∈ e.args, Fine f k b.ins.length a
structure FnV (f : Func) : Prop where
  fn : FnW f
  dom : DomW f
  uses : UsesW f
  vals : ValsW f
  nodup : (valsF f).Nodup
  edges : ∀ b ∈ f.blocks, ∀ e ∈ b.term.to, 1 ≤ e.block ∧ e.block < f.blocks.length
theorem hasI_iff {l : List Int} {n : Int} : hasI l n = true ↔ n ∈ l := by
  unfold hasI
  rw [decide_eq_true_eq, List.findIdx_lt_length]
  simp
def Before (f : Func) (k : Nat) (n : Int) (v : Int) : Prop := ∃ p, DefAt f v p ∧ ((p.1 = k ∧ p.2 ≤ n) ∨ (p.1 ≠ k ∧ (overF f k).has p.1.toNat = true))
def LvA (f : Func) (first : List (List Bool)) : Prop := ∀ (k : Nat) l, first[k]? = some l → seenF f k = true → ∀ v : Nat, Hs l v → Before f k 0 v
def climbM (T : List Int) (x : Int) : Nat → Int → List Int
  | 0, _ => []
  | n + 1, a => if 0 ≤ a ∧ a ≠ atI T x then a :: climbM T x n (atI T a) else []
def frAdd (x : Int) (ls : List (List Int)) (a : Int) : List (List Int) :=
  if hasI (ls[a.toNat]?.getD []) x then ls else ls.set a.toNat (ls[a.toNat]?.getD [] ++ [x])
def frE (f : Func) (k : Int) (ls : List (List Int)) (e : Edge) : List (List Int) := (climbM (treeM f) e.block 300 k).foldl (frAdd e.block) ls
def frB (f : Func) (k : Int) (b : Block) (ls : List (List Int)) : List (List Int) := if plF f k < 0 then ls else b.term.to.foldl (frE f k) ls
def frL (f : Func) : Nat → List Block → List (List Int) → List (List Int)
  | _, [], ls => ls
  | k, b :: r, ls => frL f (k + 1) r (frB f k b ls)
def frontM (f : Func) : List (List Int) := (frL f 0 f.blocks (List.replicate f.blocks.length [])).map sortI
theorem frAdd_len (x : Int) (ls : List (List Int)) (a : Int) : (frAdd x ls a).length = ls.length := by
  unfold frAdd
  split
  · rfl
  rw [List.length_set]
theorem frAdds_len (x : Int) : ∀ (l : List Int) (ls : List (List Int)), (l.foldl (frAdd x) ls).length = ls.length
  | [], _ => rfl
  | a :: l, ls => by rw [List.foldl_cons, frAdds_len x l, frAdd_len]
theorem frE_len (f : Func) (k : Int) (ls : List (List Int)) (e : Edge) : (frE f k ls e).length = ls.length := frAdds_len _ _ _
theorem frEs_len (f : Func) (k : Int) : ∀ (es : List Edge) (ls : List (List Int)), (es.foldl (frE f k) ls).length = ls.length
  | [], _ => rfl
  | e :: es, ls => by rw [List.foldl_cons, frEs_len f k es, frE_len]
theorem frB_len (f : Func) (k : Int) (b : Block) (ls : List (List Int)) : (frB f k b ls).length = ls.length := by
  unfold frB
  split
  · rfl
  exact frEs_len f k _ _
theorem frL_len (f : Func) : ∀ (bs : List Block) (k : Nat) (ls : List (List Int)), (frL f k bs ls).length = ls.length
  | [], _, _ => rfl
  | b :: r, k, ls => by
    unfold frL
    rw [frL_len f r, frB_len]
theorem frontM_len (f : Func) : (frontM f).length = f.blocks.length := by
  unfold frontM
  rw [List.length_map, frL_len, List.length_replicate]
def inL (ls : List (List Int)) (a b : Int) : Prop := b ∈ ls[a.toNat]?.getD []
theorem frAdd_mem {x : Int} {ls : List (List Int)} {a c b : Int} (ha : 0 ≤ a ∧ a < ls.length) (hc : 0 ≤ c) : inL (frAdd x ls a) c b ↔ inL ls c b ∨ (b = x ∧ c = a) := by
  have hal : a.toNat < ls.length := by omega
  obtain ⟨l, hl⟩ : ∃ l, ls[a.toNat]? = some l := ⟨_, List.getElem?_eq_getElem hal⟩
  unfold frAdd inL
  rw [hl, Option.getD_some]
  by_cases hx : hasI l x = true
  · rw [if_pos hx]
    constructor
    · exact .inl
    rintro (q | ⟨q1, q2⟩)
    · exact q
    rw [q1, q2, hl]
    exact hasI_iff.1 hx
  rw [if_neg hx, List.getElem?_set]
  by_cases e : a.toNat = c.toNat
  · have hca : c = a := by omega
    subst hca
    rw [if_pos rfl, if_pos hal, hl]
    simp only [Option.getD_some, List.mem_append, List.mem_singleton]
    constructor
    · rintro (q | q)
      · exact .inl q
      exact .inr ⟨q, trivial⟩
    rintro (q | ⟨q, _⟩)
    · exact .inl q
    exact .inr q
  rw [if_neg e]
  constructor
  · exact .inl
  rintro (q | ⟨_, q⟩)
  · exact q
  rw [q] at e
  exact absurd rfl e
theorem frAdds_mem {x c b : Int} (hc : 0 ≤ c) : ∀ (l : List Int) (ls : List (List Int)), (∀ a ∈ l, 0 ≤ a ∧ a < ls.length) → (inL (l.foldl (frAdd x) ls) c b ↔ inL ls c b ∨ (b = x ∧ c ∈ l))
  | [], ls, _ => by simp
  | a :: l, ls, h => by
    rw [List.foldl_cons, frAdds_mem hc l _ (fun z hz => by rw [frAdd_len]; exact h z (List.mem_cons_of_mem _ hz)), frAdd_mem (h a List.mem_cons_self) hc, List.mem_cons]
    constructor
    · rintro ((q | q) | q)
      · exact .inl q
      · exact .inr ⟨q.1, .inl q.2⟩
      exact .inr ⟨q.1, .inr q.2⟩
    rintro (q | ⟨q1, q2 | q2⟩)
    · exact .inl (.inl q)
    · exact .inl (.inr ⟨q1, q2⟩)
    exact .inr ⟨q1, q2⟩
theorem climb_ok {f : Func} (hw : OrdW f) {T : List Int} (ht : Tr f T) {x : Int} : ∀ (n : Nat) (c : Int), Asg T c → 0 ≤ atI T x → Anc T (atI T x) c → plF f c < n →
    (∀ a ∈ climbM T x n c, 0 ≤ plF f a ∧ Asg T a ∧ a ≠ atI T x ∧ Anc T (atI T x) a) ∧ ∀ a, a ∈ climbM T x n c ↔ Anc T a c ∧ ¬ Anc T a (atI T x)
  | 0, c, hc, hx, ha, hn => by
    have := ht.asg hw hc
    omega
  | n + 1, c, hc, hx, ha, hn => by
    have hcp := ht.asg hw hc
    have hcr := hw.range c hcp
    unfold climbM
    by_cases e : c = atI T x
    · rw [if_neg (fun q => q.2 e)]
      refine ⟨fun a h => (by cases h), fun a => ⟨fun h => (by cases h), fun q => ?_⟩⟩
      rw [e] at q
      exact absurd q.1 q.2
    rw [if_pos ⟨hcr.1, e⟩]
    have hup : 0 ≤ atI T c ∧ Anc T (atI T x) (atI T c) := by
      cases ha with
      | refl => exact absurd rfl e
      | up h1 h2 => exact ⟨h1, h2⟩
    obtain ⟨u1, u2, u3⟩ := ht.up c hup.1
    obtain ⟨i1, i2⟩ := climb_ok hw ht n (atI T c) u3 hx hup.2 (by omega)
    refine ⟨fun a h => ?_, fun a => ?_⟩
    · rcases List.mem_cons.1 h with q | q
      · rw [q]
        exact ⟨hcp, hc, e, ha⟩
      exact i1 a q
    rw [List.mem_cons, i2 a]
    constructor
    · rintro (q | q)
      · rw [q]
        exact ⟨.refl, fun r => e (Anc.asymm hw ht hc ha r).symm⟩
      exact ⟨.up hup.1 q.1, q.2⟩
    rintro ⟨q, r⟩
    cases q with
    | refl => exact .inl rfl
    | up _ q => exact .inr ⟨q, r⟩
theorem edge_over {f : Func} (hg : GrW f) {k : Int} (hk : 0 ≤ plF f k) {e : Edge} (he : e ∈ toOf f k) : 1 ≤ e.block ∧ e.block < f.blocks.length ∧ 0 ≤ plF f e.block ∧ 0 ≤ atI (treeM f) e.block ∧ Anc (treeM f) (atI (treeM f) e.block) k := by
  have hw := ord_w hg
  have ht := tree_w hg
  have hkr := hw.range k hk
  have hb : f.blocks[k.toNat]? = some (f.blocks[k.toNat]'(by omega)) := List.getElem?_eq_getElem _
  have h1 := hg.edges _ (List.mem_of_getElem? hb) e (by
    simp only [toOf, blkOf, hb] at he
    exact he)
  have hn := hw.next k e.block hk ⟨e, he, rfl⟩
  have h2 : 1 ≤ plF f e.block := by
    refine Classical.byContradiction fun q => ?_
    have := hw.inj e.block 0 hn (by rw [hw.zero]; omega)
    omega
  have h3 := ht.asg e.block h2
  refine ⟨h1.1, h1.2, hn, h3, ?_⟩
  have hpp : k ∈ predsAt f e.block := edg_preds hkr ⟨by omega, h1.2⟩ ⟨e, he, rfl⟩
  refine anc_pred hg h2 hpp hk (.up h3 .refl) fun q => ?_
  have := (ht.tr.up e.block h3).2.1
  rw [q] at this
  omega
def frHas (f : Func) (c b k : Int) : Prop := 0 ≤ plF f k ∧ ∃ e ∈ toOf f k, e.block = b ∧ c ∈ climbM (treeM f) b 300 k
theorem climb_at {f : Func} (hg : GrW f) {k : Int} (hk : 0 ≤ plF f k) {e : Edge} (he : e ∈ toOf f k) :
    (∀ a ∈ climbM (treeM f) e.block 300 k, 0 ≤ a ∧ a < f.blocks.length) ∧ ∀ a, a ∈ climbM (treeM f) e.block 300 k ↔ Anc (treeM f) a k ∧ ¬ Anc (treeM f) a (atI (treeM f) e.block) := by
  have hw := ord_w hg
  have ht := tree_w hg
  obtain ⟨_, _, _, h3, h4⟩ := edge_over hg hk he
  obtain ⟨c1, c2⟩ := climb_ok hw ht.tr 300 k (ht.asg' hw hk) h3 h4 (by
    have h1 := (hw.low k).2
    have h2 := hw.few
    omega)
  exact ⟨fun a ha => hw.range a (c1 a ha).1, c2⟩
theorem frEs_mem {f : Func} (hg : GrW f) {k c b : Int} (hk : 0 ≤ plF f k) (hc : 0 ≤ c) : ∀ (es : List Edge) (ls : List (List Int)), (∀ e ∈ es, e ∈ toOf f k) → ls.length = f.blocks.length →
    (inL (es.foldl (frE f k) ls) c b ↔ inL ls c b ∨ ∃ e ∈ es, e.block = b ∧ c ∈ climbM (treeM f) b 300 k)
  | [], ls, _, _ => by simp
  | e :: es, ls, h, hl => by
    have hr := (climb_at hg hk (h e List.mem_cons_self)).1
    rw [List.foldl_cons, frEs_mem hg hk hc es _ (fun z hz => h z (List.mem_cons_of_mem _ hz)) (by rw [frE_len, hl])]
    unfold frE
    rw [frAdds_mem hc _ _ (fun a ha => by rw [hl]; exact hr a ha)]
    constructor
    · rintro ((q | q) | ⟨x, q1, q2⟩)
      · exact .inl q
      · exact .inr ⟨e, List.mem_cons_self, q.1.symm, by rw [q.1]; exact q.2⟩
      exact .inr ⟨x, List.mem_cons_of_mem _ q1, q2⟩
    rintro (q | ⟨x, q1, q2, q3⟩)
    · exact .inl (.inl q)
    rcases List.mem_cons.1 q1 with q | q
    · rw [q] at q2
      exact .inl (.inr ⟨q2.symm, by rw [q2]; exact q3⟩)
    exact .inr ⟨x, q, q2, q3⟩
theorem frL_mem {f : Func} (hg : GrW f) {c b : Int} (hc : 0 ≤ c) : ∀ (bs : List Block) (k : Nat) (ls : List (List Int)), (∀ (j : Nat) (x : Block), bs[j]? = some x → x = blkOf f ((k + j : Nat) : Int)) → ls.length = f.blocks.length →
    (inL (frL f k bs ls) c b ↔ inL ls c b ∨ ∃ j : Nat, j < bs.length ∧ frHas f c b ((k + j : Nat) : Int))
  | [], k, ls, _, _ => by simp [frL]
  | x :: r, k, ls, h, hl => by
    have hx := h 0 x rfl
    rw [Nat.add_zero] at hx
    unfold frL
    rw [frL_mem hg hc r (k + 1) _ (fun j y hy => by
      have := h (j + 1) y (by simpa using hy)
      rw [this]
      congr 1
      omega) (by rw [frB_len, hl])]
    have hB : inL (frB f k x ls) c b ↔ inL ls c b ∨ frHas f c b (k : Int) := by
      unfold frB
      by_cases hk : plF f (k : Int) < 0
      · rw [if_pos hk]
        constructor
        · exact .inl
        rintro (q | q)
        · exact q
        have := q.1
        omega
      rw [if_neg hk, frEs_mem hg (by omega) hc _ _ (fun e he => by unfold toOf; rw [← hx]; exact he) hl]
      unfold frHas toOf
      rw [← hx]
      constructor
      · rintro (q | q)
        · exact .inl q
        exact .inr ⟨by omega, q⟩
      rintro (q | q)
      · exact .inl q
      exact .inr q.2
    rw [hB]
    constructor
    · rintro ((q | q) | ⟨j, q1, q2⟩)
      · exact .inl q
      · exact .inr ⟨0, by simp, by simpa using q⟩
      exact .inr ⟨j + 1, by simpa using q1, by rw [show k + (j + 1) = k + 1 + j by omega]; exact q2⟩
    rintro (q | ⟨j, q1, q2⟩)
    · exact .inl (.inl q)
    cases j with
    | zero => exact .inl (.inr (by simpa using q2))
    | succ j => exact .inr ⟨j, by simpa using q1, by rw [show k + 1 + j = k + (j + 1) by omega]; exact q2⟩
theorem front_mem {f : Func} (hg : GrW f) {a b : Int} (ha : 0 ≤ a ∧ a < f.blocks.length) : inL (frontM f) a b ↔ ∃ k, frHas f a b k := by
  have h1 := frL_mem hg (c := a) (b := b) ha.1 f.blocks 0 (List.replicate f.blocks.length []) (fun j x hx => by
    simp only [blkOf, Nat.zero_add, Int.toNat_natCast, hx]
    rfl) (by simp)
  have h2 : inL (frontM f) a b ↔ inL (frL f 0 f.blocks (List.replicate f.blocks.length [])) a b := by
    unfold inL frontM
    rw [List.getElem?_map]
    cases (frL f 0 f.blocks (List.replicate f.blocks.length []))[a.toNat]? with
    | none => rfl
    | some l =>
      simp only [Option.map_some, Option.getD_some]
      exact (sortI_perm l).mem_iff
  rw [h2, h1]
  constructor
  · rintro (q | ⟨j, _, q⟩)
    · unfold inL at q
      rw [List.getElem?_replicate] at q
      split at q <;> cases q
    exact ⟨_, q⟩
  rintro ⟨k, q⟩
  have hr := (ord_w hg).range k q.1
  exact .inr ⟨k.toNat, by omega, by rw [show ((0 + k.toNat : Nat) : Int) = k by omega]; exact q⟩
theorem front_law {f : Func} (hg : GrW f) {a b : Int} (ha : 0 ≤ plF f a) (hb : 0 ≤ plF f b) :
    inL (frontM f) a b ↔ (∃ p, 0 ≤ plF f p ∧ (∃ e ∈ toOf f p, e.block = b) ∧ ancB (treeM f) a p = true) ∧ (a = b ∨ ancB (treeM f) a b = false) := by
  have hw := ord_w hg
  have ht := tree_w hg
  have hA : ∀ {c k : Int}, 0 ≤ plF f k → (ancB (treeM f) c k = true ↔ Anc (treeM f) c k) := fun hk => ancB_iff hw ht.tr (ht.asg' hw hk)
  rw [front_mem hg (hw.range a ha)]
  have key : ∀ {p : Int}, 0 ≤ plF f p → (∃ e ∈ toOf f p, e.block = b) → (a ∈ climbM (treeM f) b 300 p ↔ Anc (treeM f) a p ∧ (a = b ∨ ancB (treeM f) a b = false)) := fun {p} hp he => by
    obtain ⟨e, he, e1⟩ := he
    have h2 := (climb_at hg hp he).2 a
    obtain ⟨_, _, _, h3, _⟩ := edge_over hg hp he
    rw [e1] at h2 h3
    rw [h2]
    have hup := ht.tr.up b h3
    refine and_congr_right fun _ => ?_
    constructor
    · intro q
      by_cases e : a = b
      · exact .inl e
      refine .inr ?_
      rw [← Bool.not_eq_true, hA hb]
      intro r
      cases r with
      | refl => exact e rfl
      | up _ r => exact q r
    rintro (q | q) r
    · rw [q] at r
      have := (r.pl hw ht.tr hup.2.2).1
      omega
    rw [← Bool.not_eq_true, hA hb] at q
    exact q (.up h3 r)
  constructor
  · rintro ⟨p, hp, e, he, e1, hc⟩
    have := (key hp ⟨e, he, e1⟩).1 hc
    exact ⟨⟨p, hp, ⟨e, he, e1⟩, (hA hp).2 this.1⟩, this.2⟩
  rintro ⟨⟨p, hp, ⟨e, he, e1⟩, hanc⟩, hq⟩
  exact ⟨p, hp, e, he, e1, (key hp ⟨e, he, e1⟩).2 ⟨(hA hp).1 hanc, hq⟩⟩
def backK (f : Func) (k : Int) : List (Int × Int) := ((toOf f k).filter fun x => ancB (treeM f) x.block k).map fun x => (k, x.block)
def backsM (f : Func) : List (Int × Int) := (rchS f).flatMap (backK f)
structure Wl where
  work : List Int
  all : List Int
def wlStep (f : Func) (S : Wl) : Wl :=
  match S.work.getLast? with
  | none => S
  | some k => if k ∈ rchS f ∧ k ∉ S.all then ⟨S.work.dropLast ++ predsAt f k, S.all ++ [k]⟩ else ⟨S.work.dropLast, S.all⟩
def Wl.weight (f : Func) (S : Wl) : Nat := (f.blocks.length - S.all.length) * 40000 + S.work.length
structure WlOK (f : Func) (h : Int) (src : List Int) (S : Wl) : Prop where
  head : S.all[0]? = some h
  nd : S.all.Nodup
  rng : ∀ k ∈ S.all, 0 ≤ k ∧ k < f.blocks.length
  rch : ∀ k ∈ S.all, k = h ∨ 0 ≤ plF f k
  wk : ∀ k ∈ S.work, 0 ≤ k ∧ k < f.blocks.length
  ind : ∀ P : Int → Prop, (∀ k ∈ src, P k) → (∀ k, k ∈ S.all → k ≠ h → P k → ∀ p ∈ predsAt f k, P p) → (∀ k ∈ S.all, k ≠ h → P k) ∧ ∀ k ∈ S.work, P k
  cl : ∀ k ∈ S.all, k ≠ h → ∀ p ∈ predsAt f k, 0 ≤ plF f p → p ∈ S.all ∨ p ∈ S.work
  src : ∀ k ∈ src, 0 ≤ plF f k → k ∈ S.all ∨ k ∈ S.work
theorem nodup_ints {l : List Int} {n : Nat} (h : l.Nodup) (hr : ∀ x ∈ l, 0 ≤ x ∧ x < n) : l.length ≤ n := by
  have h1 := nodup_bound n (l.map Int.toNat) (by
    unfold List.Nodup
    rw [List.pairwise_map]
    refine List.Pairwise.imp_of_mem (fun ha hb hne e => hne ?_) h
    have := hr _ ha
    have := hr _ hb
    omega) (fun x hx => by
    obtain ⟨y, hy, rfl⟩ := List.mem_map.1 hx
    have := hr y hy
    omega)
  simpa using h1
def wlRun (f : Func) : Nat → Wl → Wl
  | 0, S => S
  | n + 1, S => if S.work.isEmpty then S else wlRun f n (wlStep f S)
def srcM (f : Func) (h : Int) : List Int := ((backsM f).filter fun p => decide (p.2 = h)).map (·.1)
def natM (f : Func) (h : Int) : List Int := (wlRun f 10000000 ⟨srcM f h, [h]⟩).all
structure NatW (f : Func) (h : Int) : Prop where
  head : (natM f h)[0]? = some h
  nd : (natM f h).Nodup
  rng : ∀ k ∈ natM f h, 0 ≤ k ∧ k < f.blocks.length
  rch : ∀ k ∈ natM f h, k = h ∨ 0 ≤ plF f k
  ind : ∀ P : Int → Prop, (∀ k ∈ srcM f h, P k) → (∀ k, k ∈ natM f h → k ≠ h → P k → ∀ p ∈ predsAt f k, P p) → ∀ k ∈ natM f h, k ≠ h → P k
  cl : ∀ k ∈ natM f h, k ≠ h → ∀ p ∈ predsAt f k, 0 ≤ plF f p → p ∈ natM f h
  src : ∀ k ∈ srcM f h, k ∈ natM f h
structure LoopM where
  head : Int
  blocks : List Int
  parent : Int
abbrev LoopM.cells (x : LoopM) : List AVal := [aI x.head, eIs x.blocks, aI x.parent]
def lpC (l : List LoopM) : List AVal := l.flatMap LoopM.cells
def nestStep (l : List LoopM) (i k : Nat) : List LoopM :=
  match l[i]?, l[k]? with
  | some a, some b => if k = i ∨ hasI b.blocks a.head = false then l else
      if a.parent < 0 ∨ b.blocks.length < ((l[a.parent.toNat]?.map fun y => y.blocks.length).getD 0) then l.set i ⟨a.head, a.blocks, k⟩ else l
  | _, _ => l
def nestK (i : Nat) : Nat → Nat → List LoopM → List LoopM
  | 0, _, l => l
  | m + 1, k, l => nestK i m (k + 1) (nestStep l i k)
def nestI (n : Nat) : Nat → Nat → List LoopM → List LoopM
  | 0, _, l => l
  | m + 1, i, l => nestI n m (i + 1) (nestK i n 0 l)
def nestM (l : List LoopM) : List LoopM := nestI l.length l.length 0 l
def NestOK (l m : List LoopM) : Prop := m.map (fun x => (x.head, x.blocks)) = l.map (fun x => (x.head, x.blocks)) ∧ ∀ x ∈ m, -1 ≤ x.parent ∧ x.parent < l.length
def rawH (f : Func) (h : Nat) : List LoopM := if srcM f h = [] then [] else [⟨h, sortI (natM f h), -1⟩]
def rawM (f : Func) : List LoopM := (List.range f.blocks.length).flatMap (rawH f)
def loopsM (f : Func) : List LoopM := nestM (rawM f)
def eLoop (x : LoopM) : AVal := .agg x.cells
def outL (oid : Nat) (l : List LoopM) : AVal := if l = [] then .lst 3 [] .ex else .os oid l.length 3
structure FO (acc : List LoopM) (oid : Nat) (O : List AObj) : Prop where
  up : ∀ o ∈ O, o.upto O.length
  out : acc ≠ [] → O[oid]? = some (.cells (lpC acc))
theorem FO.push {acc : List LoopM} {oid : Nat} {O : List AObj} (h : FO acc oid O) {cs : List AVal} (hc : uptoL (O.length + 1) cs) : FO acc oid (O ++ [.cells cs]) where
  up := by
    rw [List.length_append, List.length_singleton]
    exact uptoO_snoc (fun o ho => AObj.upto_mono (by omega) (h.up o ho)) hc
  out := fun q => at_left (h.out q)
theorem FO.move {acc : List LoopM} {oid : Nat} {O : List AObj} (h : FO acc oid O) {wid : Nat} (hw : acc ≠ [] → wid ≠ oid) {cs : List AVal} (hc : uptoL (O.length + 1) cs) : FO acc oid (O.set wid .gone ++ [.cells cs]) where
  up := by
    rw [List.length_append, List.length_set, List.length_singleton]
    exact uptoO_snoc (uptoO_set (fun o ho => AObj.upto_mono (by omega) (h.up o ho)) trivial) hc
  out := fun q => at_left (at_set_ne (h.out q) (hw q))
theorem eIss_upto (n : Nat) (l : List (List Int)) : uptoL n (l.map eIs) := by
  rw [uptoL_iff]
  intro c hc
  obtain ⟨x, _, rfl⟩ := List.mem_map.1 hc
  exact ⟨aI_upto _ _, trivial⟩
theorem aI_at {l : List Int} {k : Nat} {x : Int} (h : l[k]? = some x) : (l.map aI)[k]? = some (aI x) := by
 rw [List.getElem?_map, h]
 rfl
theorem meet_spec {O : List AObj} (hup : ∀ o ∈ O, o.upto O.length) {A B N : Nat} {f : Func} (hw : OrdW f) {ov : List Int} (hA : O[A]? = some (.cells (ov.map aI))) (hB : O[B]? = some (.cells ((plL f).map aI))) (hN : N = f.blocks.length) (ht : Tr f ov) {a b : Int} (ha : Asg ov a) (hb : Asg ov b) :
  ECall Try.prog 67 O [.agg [.ms A 0 N N, .ms B 0 N N], aI a, aI b] (fun r O' => r = aI (meetM (plL f) ov 300 a b) ∧ O' = O) := by
 have hAl := lt_of_getElem? hA
 have hBl := lt_of_getElem? hB
 obtain ⟨R, hR⟩ : ∃ R, R = meetM (plL f) ov 300 a b := ⟨_, rfl⟩
 rw [← hR]
 have hfew := hw.few
 have hst : plF f a + plF f b < (300 : Nat) := by
  have := (hw.low a).2
  have := (hw.low b).2
  omega
 refine zf true O.length Try.func67 Try.ntmps67 ?_
 dsimp only [Tmp, TypeId, slotsOf]
 refine zh1 (za0 ?_)
 refine awp_local 3 ([.ms A 0 N N, .ms B 0 N N]) [(1, aI a), (2, aI b), (3, .ip none [.ms A 0 N N, .ms B 0 N N])] (by simp [putS, dropS, Go.Av.look]) (by rfl) (by omega) (by simp [putS, dropS, Go.Av.look]) ?_ ?_ ?_
 ·exact hup
 ·simp [AVal.upto, uptoL, hAl, hBl]
 refine awp_seq (awp_block (awp_loop (ι := {x : Nat × Int × Int // R = meetM (plL f) ov x.1 x.2.1 x.2.2 ∧ Asg ov x.2.1 ∧ Asg ov x.2.2 ∧ plF f x.2.1 + plF f x.2.2 < x.1}) (fun x => ⟨32, [(1, aI x.1.2.1), (2, aI x.1.2.2), (3, .ip none [.ms A 0 N N, .ms B 0 N N])], O⟩) (fun x => x.1.1) ⟨(300, a, b), hR, ha, hb, hst⟩ ?_ ?_))
 ·refine zq rfl ?_ ?_
  simp -dsimp only [simprocAttr, ↓vpre, zp, zc]
  rfl
 rintro ⟨⟨n, a, b⟩, hRe, ha, hb, hlt⟩
 simp only at hRe ha hb hlt
 have pa := ht.asg hw ha
 have pb := ht.asg hw hb
 have ra := hw.range a pa
 have rb := hw.range b pb
 obtain ⟨n, rfl⟩ : ∃ n', n = n' + 1 := ⟨n - 1, by omega⟩
 have ea := plL_at ra.1 ra.2
 have eb := plL_at rb.1 rb.2
 have hpa : atI (plL f) a = plF f a := by unfold atI; rw [ea]; rfl
 have hpb : atI (plL f) b = plF f b := by unfold atI; rw [eb]; rfl
 have hea := aI_at ea
 have heb := aI_at eb
 by_cases hab : a = b
 ·have hd : decide (a = b) = true := decide_eq_true hab
  refine zg2 ?_
  simp -dsimp only [simprocAttr, ↓vpre, zp, hd]
  refine za0 ?_
  refine zu0 rfl ?_
  refine awp_exit ?_
  simp -dsimp only [vend, ne_eq, Nat.reduceEqDiff, reduceCtorEq]
  subst hab
  have : R = a := by rw [hRe]; simp [meetM]
  rw [this]
  refine zh1 (za0 ?_)
  refine awp_ret ?_
  simp -dsimp only [simprocAttr, ↓vpre, zp, zr, Try.results67]
  exact hup
 have hd : decide (a = b) = false := decide_eq_false hab
 simp only [meetM, if_neg hab, hpa, hpb] at hRe
 refine zg2 ?_
 simp -dsimp only [simprocAttr, ↓vpre, zp, hd]
 refine za0 ?_
 apply zk0 rfl <;> intro h
 ·refine zb0 ?_
  refine awp_block ?_
  refine zg1 ?_
  simp -dsimp only [simprocAttr, ↓vpre, zp, hB, hea, heb, Nat.mul_one]
  repeat (refine ⟨by omega, ?_⟩)
  refine ⟨orderB_ren [B] O.length [.pure, .pure, .pure, .pure, .rd 0, .pure, .pure, .pure, .pure, .rd 0, .pure] (by simp) (by simp; omega) rfl rfl (by kernel_rfl), ?_⟩
  refine za0 ?_
  by_cases hlp : plF f b < plF f a
  ·rw [if_pos hlp] at hRe
   have hu : 0 ≤ atI ov a := by
    rcases ha with q | q
    ·rw [q, hw.zero] at hlp
     omega
    exact q
   obtain ⟨u1, u2, u3⟩ := ht.up a hu
   obtain ⟨x, hx⟩ : ∃ x, ov[a.toNat]? = some x := ⟨ov[a.toNat]'(by rw [ht.len]; omega), List.getElem?_eq_getElem _⟩
   have hxe : atI ov a = x := by simp [atI, hx]
   rw [hxe] at hRe u1 u2 u3
   have hxx := aI_at hx
   apply zk0 rfl <;> intro h
   ·refine zg0 ?_
    simp -dsimp only [simprocAttr, ↓vpre, zp, hA, hxx, Nat.mul_one]
    repeat (refine ⟨by omega, ?_⟩)
    refine zl1 ?_
    refine ⟨⟨(n, x, b), hRe, u3, hb, by simp only; omega⟩, by simp, ?_⟩
    refine zq rfl ?_ ?_
    simp -dsimp only [simprocAttr, ↓vpre, zp, zc]
    rfl
   exact absurd hlp (of_decide_eq_false h)
  rw [if_neg hlp] at hRe
  have hu : 0 ≤ atI ov b := by
   rcases hb with q | q
   ·rw [q, hw.zero] at hlp
    have : a = 0 := hw.inj a 0 pa (by rw [hw.zero]; omega)
    exact absurd (this.trans q.symm) hab
   exact q
  obtain ⟨u1, u2, u3⟩ := ht.up b hu
  obtain ⟨x, hx⟩ : ∃ x, ov[b.toNat]? = some x := ⟨ov[b.toNat]'(by rw [ht.len]; omega), List.getElem?_eq_getElem _⟩
  have hxe : atI ov b = x := by simp [atI, hx]
  rw [hxe] at hRe u1 u2 u3
  have hxx := aI_at hx
  apply zk0 rfl <;> intro h
  ·exact absurd (of_decide_eq_true h) hlp
  refine zg0 ?_
  simp -dsimp only [simprocAttr, ↓vpre, zp, hA, hxx, Nat.mul_one]
  repeat (refine ⟨by omega, ?_⟩)
  refine zl1 ?_
  refine ⟨⟨(n, a, x), hRe, ha, u3, by simp only; omega⟩, by simp, ?_⟩
  refine zq rfl ?_ ?_
  simp -dsimp only [simprocAttr, ↓vpre, zp, zc]
  rfl
 cases h
end Go.Proofs.Ytlclgfgmhnmnaaa
namespace Go.Av
theorem turn_new {g : G} (hg : Good g) {id m : Nat} (h : g.objs[id]? = some (.spare m)) (arr : Array Value) (t : TypeId) (cs : List AVal) (hlen : cs.length ≤ arr.size)
    (hrv : ∀ (g' : G) (j : Nat) (c : AVal) (u : Value), cs[j]? = some c → arr[j]? = some u → RV g' c u) (hsc : ∀ c ∈ cs, c.scalar) :
    Le g (g.turn id (some ⟨g.w.heap.size, 0, arr.size⟩) (.cells cs) (g.w.alloc (.cells arr t))) ∧ Good (g.turn id (some ⟨g.w.heap.size, 0, arr.size⟩) (.cells cs) (g.w.alloc (.cells arr t))) := by
  have hturn : Turns g id (.spare m) (some ⟨g.w.heap.size, 0, arr.size⟩) (.cells cs) (g.w.alloc (.cells arr t)) := {
    obj := h
    os := rfl
    tape := rfl
    output := rfl
    size := by show g.w.heap.size ≤ (g.w.heap.push _).size; rw [Array.size_push]; omega
    block := fun k hk _ => heap_push_lt g.w _ hk
    cell := fun b off x hx _ => by
      have := cell_lt hx
      rw [cell_congr (heap_push_lt g.w (.cells arr t) this)]
      exact hx
    place := fun l1 h1 _ => by
      simp only [Option.some.injEq] at h1
      subst h1
      exact .inl (Nat.le_refl _)
    spare := fun _ _ => .inr (by simp [AObj.isSpare])
    plain := fun h => absurd trivial h
    gone := by simp }
  exact ⟨Le.turn hg hturn, Good.turn hg hturn ⟨_, arr, t, rfl, rfl, heap_push_new g.w _, hlen, fun j c u hj hu => hrv _ j c u hj hu, hsc, Nat.le_refl _⟩ (fun l1 h1 _ => by
    simp only [Option.some.injEq] at h1
    subst h1
    exact lt_of_getElem?' (heap_push_new g.w (.cells arr t)))⟩
theorem cert_alloc_at {P : Program} {tab : Tab} (hT : TabOK P tab) {o : Oper} {σ : St} {t : TypeId} {ti : TInfo} {id m : Nat} (ho : o.op = .alloc t) (hd : ∀ d, o.dst = some d → d < σ.n) (ht : tab t = some ti) (hid : σ.objs[id]? = some (.spare m)) :
    Cert P o σ (.mp id 0) (.new id (.cells ti.zero)) :=
  Cert.ofAgree trivial hd fun base σ' a g hrel h ho' => by
    have hg := hrel.good
    obtain ⟨z, hz, h5, _, _, h8, h9⟩ := (hT t ti ht).zeroValue
    have hid' : g.objs[id]? = some (.spare m) := Eq.trans ho' hid
    obtain ⟨hle, hgood⟩ := turn_new hg hid' z.cells t ti.zero (by rw [h5]; exact Nat.le_refl _) (fun g' j c u a b => h8 g' j c u a b) h9
    refine ⟨.pointer (some ⟨g.w.heap.size, 0, none⟩), _, .inl ?_, hle, hgood, ?_, ?_⟩
    · simp [execOp, ho, Instr.alloc, hz, Go.newVar, Go.newRow, G.turn]
    · simp [G.turn, Mode.post]
    exact .mp (l := ⟨g.w.heap.size, 0, z.cells.size⟩) (o := .cells ti.zero) (by simp only [G.turn]; rw [List.getElem?_set_self (env_lt hg hid')]) (by simp only [G.turn]; rw [List.getElem?_set_self (lt_of_getElem? hid')]) (by simp [AObj.isSpare])
theorem cert_makeSlice_at {P : Program} {tab : Tab} (hT : TabOK P tab) {o : Oper} {σ : St} {t e : TypeId} {x y : Operand} {ti te : TInfo} {k k' : IntKind} {n : Int} {id m' : Nat}
    (ho : o.op = .makeSlice t x y) (hd : ∀ d, o.dst = some d → d < σ.n) (ht : tab t = some ti) (hdesc : ti.desc = .slice e) (he : tab e = some te) (hx : σ.ev x = some (.v (.int k n))) (hy : σ.ev y = some (.v (.int k' n)))
    (h0 : 0 ≤ n) (hb : te.bytes * n.toNat ≤ 2 ^ 48) (h62 : n.toNat ≤ 2 ^ 62) (hs : 0 < te.size) (hid : σ.objs[id]? = some (.spare m')) :
    Cert P o σ (.ms id 0 n.toNat n.toNat) (.new id (.cells (List.replicate n.toNat te.zero).flatten)) :=
  Cert.ofAgree trivial hd fun base σ' a g hrel h ho' => by
    have hg := hrel.good
    have hid' : g.objs[id]? = some (.spare m') := Eq.trans ho' hid
    have ex := (h x (by simp [ho, Op.operands]) _ hx).v_inv.1
    have ey := (h y (by simp [ho, Op.operands]) _ hy).v_inv.1
    have hu := slice_desc hT ht hdesc
    obtain ⟨⟨i, z, h1, h2, h3, h4, h5, h6, h7, h8, h9⟩, _⟩ := hT e te he
    obtain ⟨m, rfl⟩ := Int.eq_ofNat_of_zero_le h0
    simp only [Int.toNat_natCast] at *
    have hb' : (i.bytes : Int) * (m : Int) ≤ 281474976710656 := by
      rw [h3, ← Int.natCast_mul]
      omega
    have hrun := run_make (P := P) g.w t e i z hu h1 h4 k k' m m (by omega) (Int.le_refl _) hb' (by omega)
    simp only [Int.toNat_natCast] at hrun
    have hlen : (List.replicate m te.zero).flatten.length = m * te.size := by simp [h6]
    have hget : ∀ (j : Nat) (c : AVal), (List.replicate m te.zero).flatten[j]? = some c → te.zero[j % te.size]? = some c := fun j c => h6 ▸ rep_get te.zero (by omega) m j c
    obtain ⟨hle, hgood⟩ := turn_new hg hid' (madeCells z.cells (m * i.size)) e (List.replicate m te.zero).flatten (by rw [hlen, size_madeCells, h2]; exact Nat.le_refl _) (fun g' j c u hj hu' => by
      have hj' := hget j c hj
      have hlt := lt_of_getElem? hj
      rw [hlen] at hlt
      have hlt' : j % te.size < z.cells.size := by rw [h5]; exact lt_of_getElem? hj'
      refine h8 _ _ _ _ hj' ?_
      simp only [madeCells, Array.getElem?_map, h2, Array.getElem?_range, if_pos hlt, Option.map_some, Option.some.injEq] at hu'
      subst hu'
      rw [h5, h6]
      simp [hlt']) (fun c hc => by
      rw [List.mem_flatten] at hc
      obtain ⟨l, hl, hc⟩ := hc
      rw [List.mem_replicate] at hl
      exact h9 c (hl.2 ▸ hc))
    refine ⟨.slice (some ⟨g.w.heap.size, 0, none⟩) m m, _, .inl ?_, hle, hgood, ?_, ?_⟩
    · simp [execOp, ho, ex, ey, hrun, G.turn]
    · simp [G.turn, Mode.post]
    exact .ms (l := ⟨g.w.heap.size, 0, (madeCells z.cells (m * i.size)).size⟩) (o := .cells (List.replicate m te.zero).flatten) (by simp only [G.turn]; rw [List.getElem?_set_self (env_lt hg hid')]) (by simp only [G.turn]; rw [List.getElem?_set_self (lt_of_getElem? hid')]) (by simp [AObj.isSpare]) (Nat.le_refl _) (Nat.le_refl _) h62
theorem awp_keep {P : Program} {kb : Nat} {c : Code} {Q : AEx → St → Prop} {n : Nat} {slots : List (Nat × AVal)} : ∀ (k : Nat) {O : List AObj}, AWP P kb c Q ⟨n, slots, O ++ List.replicate k (.spare 0)⟩ → AWP P kb c Q ⟨n, slots, O⟩
  | 0, O, h => by simpa using h
  | k + 1, O, h => by
    have h2 : AWP P kb c Q ⟨n, slots, O ++ [.spare 0]⟩ := awp_keep k (by simpa [List.replicate_succ] using h)
    exact h2.weaken fun base a g hb hr => by
      have hO : g.objs = O := hr.objs
      refine ⟨g.mark (.spare 0), rfl, ?_⟩
      have hle := Le.mark hr.good (.spare 0)
      refine { le := hr.le.trans hle, good := Good.mark hr.good _, objs := by simp [G.mark, hO], size := hr.size, defers := hr.defers, slot := fun s x hx => ?_ }
      obtain ⟨u, e1, e2⟩ := hr.slot s x hx
      exact ⟨u, e1, e2.mono hle⟩
def ChP (P : Program) (all : List Oper) (k : Nat) (σ : St) (ks : List Kind) (R : St → List Kind → Prop) : Prop :=
  ∃ (ρ : St) (ks' : List Kind), ks'.length + k = all.length ∧ Chain P all.toArray ((ks'.zipIdx k).map fun p => (p.2, p.1)) σ ρ ∧ R ρ (ks ++ ks')
theorem ChP.fin {P : Program} {all : List Oper} {k : Nat} {σ : St} {ks : List Kind} {R : St → List Kind → Prop} (hk : k = all.length) (h : R σ ks) : ChP P all k σ ks R :=
  ⟨σ, [], by simpa using hk, Same.refl σ, by simpa using h⟩
theorem ChP.op {P : Program} {all : List Oper} {k : Nat} {σ : St} {ks : List Kind} {R : St → List Kind → Prop} {o : Oper} {x : AVal} {m : Mode} (ho : all[k]? = some o) (hg : o.guard = none) (hc : Cert P o σ x m)
    (h : ChP P all (k + 1) ⟨σ.n, putO o.dst x σ.slots, m.post σ.objs⟩ (ks ++ [m.kind]) R) : ChP P all k σ ks R := by
  obtain ⟨ρ, ks', h1, h2, h3⟩ := h
  refine ⟨ρ, m.kind :: ks', by simp only [List.length_cons]; omega, ?_, by simpa using h3⟩
  rw [List.zipIdx_cons, List.map_cons]
  exact ⟨_, ⟨o, by simpa using ho, .inl ⟨by simp [wantedA, hg], x, m, hc, rfl, rfl⟩⟩, h2⟩
theorem chain_app {P : Program} {ops : Array Oper} : ∀ {l1 l2 : List (Nat × Kind)} {σ τ ρ : St}, Chain P ops l1 σ τ → Chain P ops l2 τ ρ → Chain P ops (l1 ++ l2) σ ρ
  | [], _, _, _, _, h1, h2 => h2.same h1.symm
  | _ :: _, _, _, _, _, ⟨σ', h, h1⟩, h2 => ⟨σ', h, chain_app h1 h2⟩
theorem chain_off {P : Program} {ops all : Array Oper} {k : Nat} (hk : ∀ i o, ops[i]? = some o → all[k + i]? = some o) (hg : ∀ o ∈ all.toList, o.guard = none) : ∀ {l : List (Nat × Kind)} {σ τ : St}, Chain P ops l σ τ → Chain P all (l.map fun p => (k + p.1, p.2)) σ τ
  | [], _, _, h => h
  | (i, q) :: r, _, _, h => by
    obtain ⟨σ', ⟨o, ho, h1⟩, h2⟩ := h
    refine ⟨σ', ⟨o, hk i o ho, ?_⟩, chain_off hk hg h2⟩
    have ho' := hk i o ho
    have hgo : o.guard = none := hg o (by
      rw [← Array.getElem?_toList] at ho'
      exact List.mem_of_getElem? ho')
    have w1 : ∀ (a : Array Oper) (σ : St), wantedA a o σ = some true := fun a σ => by simp [wantedA, hgo]
    rcases h1 with ⟨_, h1⟩ | ⟨h1, _⟩
    · exact .inl ⟨w1 _ _, h1⟩
    rw [w1] at h1
    cases h1
theorem ChP.seg {P : Program} {tab : Tab} (md : Md) (hT : TabOK P tab) {all l1 : List Oper} {k : Nat} {σ : St} {ks : List Kind} {R : St → List Kind → Prop} (n : Nat) (h1 : (all.drop k).take n = l1) (hn : l1.length = n) (hg : ∀ o ∈ all, o.guard = none)
    (h : vcOps P tab md l1 0 [] σ [] fun τ ks1 => ChP P all (k + n) τ (ks ++ ks1.reverse) R) : ChP P all k σ ks R := by
  obtain ⟨τ, ks1, c1, n1, ρ, ks2, h3, c2, hR⟩ := vcOps_sound (all := l1.toArray) hT l1 0 [] σ [] (fun j => by simp) (fun j t hj => by simp [slotAt] at hj) h
  have hl : k + n ≤ all.length := by
    have : l1.length ≤ all.length - k := by rw [← h1, List.length_take, List.length_drop]; omega
    by_cases hz : n = 0
    · omega
    omega
  have d1 := chain_off (all := all.toArray) (k := k) (fun i o hi => by
    have hi' : l1[i]? = some o := by simpa using hi
    rw [← h1, List.getElem?_take] at hi'
    split at hi'
    · rw [List.getElem?_drop] at hi'
      simpa using hi'
    cases hi') (by simpa using hg) c1
  refine ⟨ρ, ks1 ++ ks2, by rw [List.length_append]; omega, ?_, by simpa using hR⟩
  rw [List.zipIdx_append, List.map_append]
  have e1 : (ks1.zipIdx k).map (fun p => (p.2, p.1)) = ((ks1.zipIdx 0).map fun p => (p.2, p.1)).map fun p => (k + p.1, p.2) := by
    apply List.ext_getElem?
    intro i
    simp only [List.getElem?_map, List.getElem?_zipIdx]
    cases ks1[i]? <;> simp
  rw [e1]
  refine chain_app d1 ?_
  rw [show k + ks1.length = k + n by omega]
  exact c2
theorem awp_pieces {P : Program} {kb : Nat} (hm : P.follows .mixedOrders = true) {id : Nat} {l : List Oper} {draw : Bool} {Q : AEx → St → Prop} {σ : St}
    (h : ChP P l 0 σ [] fun τ ks => Draws draw (fun _ => OrderOK l.toArray ks) ∧ At τ (Q .norm)) : AWP P kb (.region id l.toArray draw) Q σ := by
  obtain ⟨τ, ks, h1, h2, h3, h4⟩ := h
  intro base a g hb hr
  have hch : Chain P l.toArray ((List.range l.toArray.size).map fun i => (i, ks.getD i .write)) σ τ := by
    have e : (ks.zipIdx 0).map (fun p => (p.2, p.1)) = (List.range l.toArray.size).map fun i => (i, ks.getD i .write) := by
      apply List.ext_getElem?
      intro i
      simp only [List.getElem?_map]
      have hlen : ks.length = l.toArray.size := by simpa using h1
      by_cases hi : i < l.toArray.size
      · have hi' : i < ks.length := by omega
        rw [List.getElem?_range hi]
        simp [hi']
      rw [List.getElem?_eq_none (by simp only [List.length_zipIdx]; omega), List.getElem?_eq_none (by simp only [List.length_range]; omega)]
      rfl
    rw [← e]
    exact h2
  cases draw with
  | false => exact wp_region_lex hch hr fun a g hr' => ⟨g, τ, rfl, hr', h4⟩
  | true =>
    have hB := h3 rfl
    simp only [List.nil_append] at hB
    exact wp_region_chain hm hB hch hr fun a g hr' => ⟨g, τ, rfl, hr', h4⟩
end Go.Av
namespace Go.Proofs.Ytlclgfgmhnmnaaa
open Go.Av
def dmO (f : Func) (O : List Int) (N : Nat) (r : List AVal) : List AObj := [.gone, .gone, .cells r, .cells (O.map aI), .cells ((plL f).map aI), .cells [.ms 3 0 N N, .ms 4 0 N N]]
theorem dmO_upto (f : Func) (O : List Int) (N : Nat) (r : List AVal) (hr : uptoL 6 r) : ∀ o ∈ dmO f O N r, o.upto 6 := by
 intro o ho
 simp only [dmO, List.mem_cons, List.not_mem_nil, or_false] at ho
 rcases ho with rfl | rfl | rfl | rfl | rfl | rfl
 ·trivial
 ·trivial
 ·exact hr
 ·exact aI_upto _ _
 ·exact aI_upto _ _
 exact ⟨show 3 < 6 by omega, show 4 < 6 by omega, trivial⟩
theorem zerosI_flat (n : Nat) : (List.replicate n [AVal.v (.int .i64 0)]).flatten = (List.replicate n 0).map aI := by
 induction n with
 | zero => rfl
 | succ n ih => rw [List.replicate_succ, List.flatten_cons, ih, List.replicate_succ]; rfl
theorem aI_put {l : List Int} {j : Nat} (h : j < l.length) (b : Int) : splice (l.map aI) j [.v (.int .i64 b)] = (l.set j b).map aI := by
 rw [splice_one _ (by simpa using h), List.map_set]
theorem fill_set {k n : Nat} {l : List Int} {x y : Int} (hl : l.length = k) (hk : k < n) : (l ++ List.replicate (n - k) x).set k y = (l ++ [y]) ++ List.replicate (n - (k + 1)) x := by
 rw [List.set_append_right _ _ (by omega), hl, Nat.sub_self, show n - k = (n - (k + 1)) + 1 by omega, List.replicate_succ, List.set_cons_zero, List.append_assoc]
 rfl
theorem dbuild_spec (f : Func) (hfit : f.fit) (hc : checkFuncM f = 0) :
  ECall Try.prog 40 [.gone] [f.enc] (fun r O' => r = .tup [.agg [.ms 3 0 f.blocks.length f.blocks.length, .ms 4 0 f.blocks.length f.blocks.length], aI 0] ∧ O' = dmO f (treeM f) f.blocks.length [.ms 3 0 f.blocks.length f.blocks.length, .ms 4 0 f.blocks.length f.blocks.length]) := by
 have hor := order_spec f hfit
 have hpr := preds_spec f hfit
 unfold orderR at hor
 unfold predsR at hpr
 rw [if_pos hc] at hor hpr
 have hg := (checkFunc_ok hfit hc).gr
 have hw := ord_w hg
 have hn : f.blocks.length ≤ 128 := hg.few
 obtain ⟨R, hR⟩ : ∃ R, R = treeM f := ⟨_, rfl⟩
 rw [← hR]
 unfold treeM at hR
 obtain ⟨N, hN⟩ : ∃ N, N = f.blocks.length := ⟨_, rfl⟩
 have hkk : [AObj.gone].length ≤ 6 := by simp
 have hpl := hw.pos
 have hpf := hw.few
 have hL0 : ((orderM f).length : Int) ≥ 1 := by omega
 rw [← hN]
 have hplen : (plL f).length = N := by simp [plL, hN]
 refine ecall_of hT true (6) Try.func40 rfl (by kernel_rfl) (by simp [Try.ntmps40]) (by assumption) ?_
 show AWP Try.prog _ _ _ ⟨116, _, _⟩
 dsimp only [Tmp, TypeId, slotsOf]
 refine zh1 (za0 ?_)
 refine awp_freeze1 1 1 (.ip none [aI f.name, eBlocks f.blocks]) rfl (by simp [AObj.isSpare]) trivial rfl ?_ ?_
 rotate_left
 simp -dsimp only [simprocAttr, ↓vpre, zp]
 ·refine zh1 ?_
  refine zi hor ?_
  refine za0 ?_
  refine zh2 (za0 ?_)
  apply zk0 rfl <;> intro h
  ·cases h
  refine zb0 ?_
  refine zh1 ?_
  refine zi hpr ?_
  refine za0 ?_
  refine awp_keep 3 ?_
  show AWP Try.prog _ _ _ ⟨_, _, [.gone, .gone, .cells [.lst 1 [] .ex, .lst 1 [] .ex], .spare 0, .spare 0, .spare 0]⟩
  refine awp_seq (awp_pieces hm (ChP.seg ⟨false, false⟩ hT 3 rfl rfl (by simp) ?_))
  simp -dsimp only [simprocAttr, ↓vpre, zp, ← hN]
  refine ChP.op rfl rfl (cert_makeSlice_at hT (id := 3) rfl (by simp) tab_45 rfl tab_3 rfl rfl (by omega) (by simp; omega) (by omega) (by decide) rfl) ?_
  simp -dsimp only [simprocAttr, ↓vpre, zp, zerosI_flat]
  refine ChP.seg ⟨false, false⟩ hT 3 rfl rfl (by simp) ?_
  simp -dsimp only [simprocAttr, ↓vpre, zp, ← hN]
  refine ChP.op rfl rfl (cert_makeSlice_at hT (id := 4) rfl (by simp) tab_45 rfl tab_3 rfl rfl (by omega) (by simp; omega) (by omega) (by decide) rfl) ?_
  simp -dsimp only [simprocAttr, ↓vpre, zp, zerosI_flat]
  refine ChP.seg ⟨false, false⟩ hT 1 rfl rfl (by simp) ?_
  simp -dsimp only [simprocAttr, ↓vpre, zp]
  refine ChP.op rfl rfl (cert_alloc_at hT (id := 5) rfl (by simp) tab_84 rfl) ?_
  simp -dsimp only [simprocAttr, ↓vpre, zp]
  refine ChP.seg ⟨false, false⟩ hT 1 rfl rfl (by simp) ?_
  simp -dsimp only [simprocAttr, ↓vpre, zp]
  refine ChP.fin rfl ⟨ob (by kernel_rfl), ?_⟩
  refine za0 ?_
  refine zh2 (za0 ?_)
  refine awp_block (awp_loop (ι := {k : Nat // k ≤ N}) (fun k => ⟨116, [(1, .ip none [aI f.name, eBlocks f.blocks]), (2, .mp 2 0), (4, eIs (orderM f)), (6, .lst 1 ((predsM f).map eIs) .sh), (8, .mp 5 0), (41, aI N), (42, aI k.1)], [.gone, .gone, .cells [.lst 1 [] .ex, .lst 1 [] .ex], .cells ((List.replicate k.1 (-1) ++ List.replicate (N - k.1) 0).map aI), .cells (((plL f).take k.1 ++ List.replicate (N - k.1) 0).map aI), .cells [.ms 3 0 N N, .ms 4 0 N N]]⟩) (fun k => N - k.1) ⟨0, by omega⟩ ?_ ?_)
  ·refine zq rfl ?_ ?_
   simp -dsimp only [simprocAttr, ↓vpre, zp, zc]
   all_goals rfl
  rintro ⟨k, hk⟩
  refine zh1 (za0 ?_)
  apply zk1 rfl <;> intro h
  ·refine zb0 ?_
   have hlt : k < N := by simpa using h
   have hix := index_spec (orderM f) (k : Int)
   have hs1 : splice ((List.replicate k (-1) ++ List.replicate (N - k) 0).map aI) k [.v (.int .i64 (-1))] = (List.replicate (k + 1) (-1) ++ List.replicate (N - (k + 1)) 0).map aI := by
    rw [aI_put (by simp; omega), fill_set (by simp) hlt, ← List.replicate_succ']
   have htl : ((plL f).take k).length = k := by rw [List.length_take]; omega
   have hpk := plL_at (f := f) (k := (k : Int)) (by omega) (by omega)
   rw [Int.toNat_natCast] at hpk
   have hs2 : splice (((plL f).take k ++ List.replicate (N - k) 0).map aI) k [.v (.int .i64 (idxI (orderM f) k))] = ((plL f).take (k + 1) ++ List.replicate (N - (k + 1)) 0).map aI := by
    rw [aI_put (by simp; omega), fill_set htl hlt, List.take_add_one, hpk]
    rfl
   refine awp_seq (awp_block ?_)
   refine zh1 (za0 ?_)
   refine zh0 ?_
   refine .inl ⟨_, hix, by simp only [uptoL, AVal.upto, zt, zu, aI_upto], later_intro ?_⟩
   simp -dsimp only [simprocAttr, ↓vpre, zp, hs1, hs2, Int.toNat_natCast, Nat.mul_one]
   refine ⟨by omega, by simp; omega, by omega, by simp; omega, ?_⟩
   refine ⟨ob (by kernel_rfl), ?_⟩
   refine za0 ?_
   refine zh0 ?_
   repeat (refine ⟨by omega, ?_⟩)
   refine zl0 ?_
   refine ⟨⟨k + 1, hlt⟩, by simp; omega, ?_⟩
   refine zq rfl ?_ ?_
   simp -dsimp only [simprocAttr, ↓vpre, zp, zc]
   ·exact Sub.int (by simp)
   rfl
  refine awp_exit ?_
  simp -dsimp only [vend, ne_eq, Nat.reduceEqDiff, reduceCtorEq]
  have hkk : k = N := by simp at h; omega
  subst hkk
  have e1 : List.replicate k (-1 : Int) ++ List.replicate (k - k) 0 = (dmS f).over := by simp [dmS, hN]
  have e2 : (plL f).take k ++ List.replicate (k - k) 0 = plL f := by
   rw [List.take_of_length_le (by omega), Nat.sub_self, List.replicate_zero, List.append_nil]
  rw [e1, e2]
  have hS0 := dmS_ok hw
  have hW0 := dmS_weight hn
  have hL1 : ((orderM f).map aI).drop 1 = ((orderM f).drop 1).map aI := by rw [List.map_drop]
  have hat : ∀ (j : Nat) z, ((orderM f).drop 1)[j]? = some z → plF f z = ((1 + j : Nat) : Int) := fun j z hj => by
   rw [List.getElem?_drop] at hj
   exact hw.at_ _ _ hj
  obtain ⟨L1, hL1e⟩ : ∃ L1, L1 = (orderM f).drop 1 := ⟨_, rfl⟩
  have hL1l : L1.length ≤ 128 := by rw [hL1e, List.length_drop]; omega
  rw [← hL1e] at hL1 hat
  refine zh2 (za0 ?_)
  refine awp_block (awp_loop (ι := {x : Dm × Nat // Dinv f 1 x.1.over ∧ R = (dmI f x.2 x.1).over ∧ (x.1.again = true → x.1.weight f < x.2)}) (fun x => ⟨116, [(1, .ip none [aI f.name, eBlocks f.blocks]), (2, .mp 2 0), (4, eIs (orderM f)), (6, .lst 1 ((predsM f).map eIs) .sh), (8, .mp 5 0), (10, .v (.bool x.1.1.again))], [.gone, .gone, .cells [.lst 1 [] .ex, .lst 1 [] .ex], .cells (x.1.1.over.map aI), .cells ((plL f).map aI), .cells [.ms 3 0 k k, .ms 4 0 k k]]⟩) (fun x => x.1.1.weight f + if x.1.1.again then 1 else 0) ⟨(dmS f, 30000), hS0, hR, fun _ => by simp only; omega⟩ ?_ ?_)
  ·refine zq rfl ?_ ?_
   simp -dsimp only [simprocAttr, ↓vpre, zp, zc]
   all_goals first | rfl | exact Sub.refl _
  rintro ⟨⟨S, q⟩, hSo, hRq, hwq⟩
  simp only at hSo hRq hwq
  refine zh2 (za0 ?_)
  apply zk0 rfl <;> intro h
  ·refine zb0 ?_
   have hag : S.again = true := h
   have hwq := hwq hag
   obtain ⟨q, rfl⟩ : ∃ q', q = q' + 1 := ⟨q - 1, by omega⟩
   have hRq' : R = (dmI f q (dmR f ⟨S.over, false⟩)).over := by
    rw [hRq]
    simp [dmI, hag]
   have hro := dmR_ok hg hw (S := ⟨S.over, false⟩) hSo
   obtain ⟨S1, hS1⟩ : ∃ S1, S1 = dmR f ⟨S.over, false⟩ := ⟨_, rfl⟩
   rw [← hS1] at hRq' hro
   obtain ⟨ro1, ro2, ro3, _⟩ := hro
   have hwS : (⟨S.over, false⟩ : Dm).weight f = S.weight f := rfl
   rw [hwS] at ro2 ro3
   unfold dmR at hS1
   rw [← hL1e] at hS1
   refine awp_block ?_
   refine zh1 (za0 ?_)
   refine zg1 ?_
   simp -dsimp only [simprocAttr, ↓vpre, zp, hL1]
   repeat (refine ⟨by omega, ?_⟩)
   refine za0 ?_
   refine awp_block (awp_loop (ι := {y : Nat × Dm // y.1 ≤ L1.length ∧ Dinv f (1 + y.1 : Nat) y.2.over ∧ S1 = (L1.drop y.1).foldl (dmStep f) y.2}) (fun y => ⟨116, [(1, .ip none [aI f.name, eBlocks f.blocks]), (2, .mp 2 0), (4, eIs (orderM f)), (6, .lst 1 ((predsM f).map eIs) .sh), (8, .mp 5 0), (10, .v (.bool y.1.2.again)), (59, eIs L1), (60, aI L1.length), (61, aI y.1.1)], [.gone, .gone, .cells [.lst 1 [] .ex, .lst 1 [] .ex], .cells (y.1.2.over.map aI), .cells ((plL f).map aI), .cells [.ms 3 0 k k, .ms 4 0 k k]]⟩) (fun y => L1.length - y.1.1) ⟨(0, ⟨S.over, false⟩), by simp, hSo, hS1⟩ ?_ ?_)
   ·refine zq rfl ?_ ?_
    simp -dsimp only [simprocAttr, ↓vpre, zp, zc]
    all_goals rfl
   rintro ⟨⟨y, T⟩, hy, hTo, hTe⟩
   simp only at hy hTo hTe
   refine zh1 (za0 ?_)
   apply zk1 rfl <;> intro h
   ·refine zb0 ?_
    have hlt : y < L1.length := by simpa using h
    obtain ⟨z, hz⟩ : ∃ z, L1[y]? = some z := ⟨L1[y], by simp [hlt]⟩
    have hpz := hat y z hz
    have hzr := hw.range z (by omega)
    have hst := dmStep_ok hg hw hTo hpz (by omega)
    rw [drop_at hz, List.foldl_cons] at hTe
    have hTl := hTo.tr.len
    obtain ⟨ps, hps⟩ : ∃ ps, (predsM f)[z.toNat]? = some ps := ⟨(predsM f)[z.toNat]'(by rw [preds_len]; omega), List.getElem?_eq_getElem _⟩
    have hpa : predsAt f z = ps := by simp [predsAt, hps]
    have hpr2 : ∀ p ∈ ps, 0 ≤ p ∧ p < f.blocks.length := fun p hp => (preds_edg hg hzr.1 (by rw [hpa]; exact hp)).1
    obtain ⟨o, ho⟩ : ∃ o, T.over[z.toNat]? = some o := ⟨T.over[z.toNat]'(by omega), List.getElem?_eq_getElem _⟩
    have hoz : atI T.over z = o := by simp [atI, ho]
    obtain ⟨NX, hNX⟩ : ∃ NX, NX = nextM (plL f) T.over ps := ⟨_, rfl⟩
    have hstep : dmStep f T z = if NX ≠ o then ⟨T.over.set z.toNat NX, true⟩ else T := by
     unfold dmStep
     rw [hpa, hoz, ← hNX]
    unfold nextM at hNX
    refine awp_seq (awp_block ?_)
    refine zg1 ?_
    simp -dsimp only [simprocAttr, ↓vpre, zp, hz]
    refine za0 ?_
    refine zh1 (za0 ?_)
    refine zg2 ?_
    simp -dsimp only [simprocAttr, ↓vpre, zp, hps]
    repeat (refine ⟨by omega, ?_⟩)
    refine za0 ?_
    refine awp_len 68 rfl (fun hpl2 => ?_)
    simp only [List.length_map] at hpl2
    refine awp_block (awp_loop (ι := {w : Nat × Int // w.1 ≤ ps.length ∧ (w.2 = -1 ∨ Asg T.over w.2) ∧ NX = (ps.drop w.1).foldl (predStep (plL f) T.over) w.2}) (fun w => ⟨116, [(1, .ip none [aI f.name, eBlocks f.blocks]), (2, .mp 2 0), (4, eIs (orderM f)), (6, .lst 1 ((predsM f).map eIs) .sh), (8, .mp 5 0), (10, .v (.bool T.again)), (59, eIs L1), (60, aI L1.length), (61, aI y), (12, aI z), (13, aI w.1.2), (68, eIs ps), (69, aI ps.length), (70, aI w.1.1)], [.gone, .gone, .cells [.lst 1 [] .ex, .lst 1 [] .ex], .cells (T.over.map aI), .cells ((plL f).map aI), .cells [.ms 3 0 k k, .ms 4 0 k k]]⟩) (fun w => ps.length - w.1.1) ⟨(0, -1), by simp, .inl rfl, hNX⟩ ?_ ?_)
    ·refine zq rfl ?_ ?_
     simp -dsimp only [simprocAttr, ↓vpre, zp, zc]
     all_goals rfl
    rintro ⟨⟨w, acc⟩, hw1, hacc, hwe⟩
    simp only at hw1 hacc hwe
    refine zh1 (za0 ?_)
    apply zk1 rfl <;> intro h
    ·refine zb0 ?_
     have hlw : w < ps.length := by simpa using h
     obtain ⟨p, hp⟩ : ∃ p, ps[w]? = some p := ⟨ps[w], by simp [hlw]⟩
     have hpr3 := hpr2 p (List.mem_of_getElem? hp)
     have hep := plL_at hpr3.1 hpr3.2
     have hepx := aI_at hep
     obtain ⟨x, hx⟩ : ∃ x, T.over[p.toNat]? = some x := ⟨T.over[p.toNat]'(by omega), List.getElem?_eq_getElem _⟩
     have hxp : atI T.over p = x := by simp [atI, hx]
     have hxx := aI_at hx
     rw [drop_at hp, List.foldl_cons] at hwe
     obtain ⟨nx, hnx⟩ : ∃ nx, nx = predStep (plL f) T.over acc p := ⟨_, rfl⟩
     have hnacc : nx = -1 ∨ Asg T.over nx := by
      rcases fold_ok hw hTo.tr [p] acc (by simpa using hpr3) hacc with ⟨a, _⟩ | ⟨a, _⟩
      ·exact .inl (hnx.trans a)
      exact .inr (hnx ▸ a)
     rw [← hnx] at hwe
     have hpas := pred_asg hw hTo.tr hpr3
     have hepl : atI (plL f) p = plF f p := by simp [atI, hep]
     rw [hepl, hxp] at hpas
     have hpd : predStep (plL f) T.over acc p = if plF f p < 0 ∨ (p ≠ 0 ∧ x < 0) then acc else if acc < 0 then p else meetM (plL f) T.over 300 acc p := by
      unfold predStep
      rw [hepl, hxp]
     refine awp_mid (⟨116, [(1, .ip none [aI f.name, eBlocks f.blocks]), (2, .mp 2 0), (4, eIs (orderM f)), (6, .lst 1 ((predsM f).map eIs) .sh), (8, .mp 5 0), (10, .v (.bool T.again)), (59, eIs L1), (60, aI L1.length), (61, aI y), (12, aI z), (13, aI nx), (68, eIs ps), (69, aI ps.length), (70, aI w)], [.gone, .gone, .cells [.lst 1 [] .ex, .lst 1 [] .ex], .cells (T.over.map aI), .cells ((plL f).map aI), .cells [.ms 3 0 k k, .ms 4 0 k k]]⟩) ?_ ?_
     ·refine awp_block ?_
      refine zg1 ?_
      simp -dsimp only [simprocAttr, ↓vpre, zp, hp]
      refine za0 ?_
      refine awp_block ?_
      by_cases hA : Asg T.over p
      ·have hnc := fun q => hpas.1 q hA
       have hB1 : decide (plF f p < 0) = false := decide_eq_false fun q => hnc (.inl q)
       rw [if_neg hnc] at hpd
       have hcase : p = 0 ∨ (p ≠ 0 ∧ ¬ x < 0) := by
        by_cases e : p = 0
        ·exact .inl e
        exact .inr ⟨e, fun q => hnc (.inr ⟨e, q⟩)⟩
       rcases hacc with hac | hac
       ·have hda : decide (acc < 0) = true := decide_eq_true (by omega)
        rw [if_pos (by omega)] at hpd
        rw [hpd] at hnx
        rcases hcase with hp0 | ⟨hp0, hx0⟩
        ·have hd1 : decide (p = 0) = true := decide_eq_true hp0
         refine zg1 ?_
         simp -dsimp only [simprocAttr, ↓vpre, zp, hepx, hB1, hd1, Int.toNat_natCast, Nat.mul_one]
         repeat (refine ⟨by omega, ?_⟩)
         refine za0 ?_
         refine zu0 rfl ?_
         refine zg1 ?_
         simp -dsimp only [simprocAttr, ↓vpre, zp, hda]
         refine za0 ?_
         refine zw0 rfl ?_
         refine awp_region hT hm ?_
         simp -dsimp only [simprocAttr, ↓vpre, zp]
         refine at_intro ?_
         show Covers _ _
         refine zq rfl ?_ ?_
         simp -dsimp only [simprocAttr, ↓vpre, zp, zc]
         all_goals first | rfl | exact Sub.int (by omega)
        have hd1 : decide (p = 0) = false := decide_eq_false hp0
        have hd2 : decide (x < 0) = false := decide_eq_false hx0
        refine zg1 ?_
        simp -dsimp only [simprocAttr, ↓vpre, zp, hepx, hB1, hd1, hd2, hxx, Int.toNat_natCast, Nat.mul_one]
        repeat (refine ⟨by omega, ?_⟩)
        refine za0 ?_
        refine zu0 rfl ?_
        refine zg1 ?_
        simp -dsimp only [simprocAttr, ↓vpre, zp, hda]
        refine za0 ?_
        refine zw0 rfl ?_
        refine awp_region hT hm ?_
        simp -dsimp only [simprocAttr, ↓vpre, zp]
        refine at_intro ?_
        show Covers _ _
        refine zq rfl ?_ ?_
        simp -dsimp only [simprocAttr, ↓vpre, zp, zc]
        all_goals first | rfl | exact Sub.int (by omega)
       have hacn := hac.nn hw hTo.tr
       have hda : decide (acc < 0) = false := decide_eq_false (by omega)
       rw [if_neg (by omega)] at hpd
       rw [hpd] at hnx
       have hmeet := meet_spec (O := [.gone, .gone, .cells [.lst 1 [] .ex, .lst 1 [] .ex], .cells (T.over.map aI), .cells ((plL f).map aI), .cells [.ms 3 0 k k, .ms 4 0 k k]]) (by
        have := dmO_upto f T.over k [.lst 1 [] .ex, .lst 1 [] .ex] (by simp [uptoL, AVal.upto])
        exact this) (A := 3) (B := 4) (N := k) hw rfl rfl hN hTo.tr hac hA
       rw [← hnx] at hmeet
       rcases hcase with hp0 | ⟨hp0, hx0⟩
       ·have hd1 : decide (p = 0) = true := decide_eq_true hp0
        refine zg1 ?_
        simp -dsimp only [simprocAttr, ↓vpre, zp, hepx, hB1, hd1, Int.toNat_natCast, Nat.mul_one]
        repeat (refine ⟨by omega, ?_⟩)
        refine za0 ?_
        refine zu0 rfl ?_
        refine zg1 ?_
        simp -dsimp only [simprocAttr, ↓vpre, zp, hda]
        refine za0 ?_
        refine zu0 rfl ?_
        refine awp_region hT hm ?_
        simp -dsimp only [simprocAttr, ↓vpre, zp]
        refine .inr (.inr ⟨_, hmeet, later_intro (zj ?_)⟩)
        refine at_intro ?_
        show Covers _ _
        refine zq rfl ?_ ?_
        simp -dsimp only [simprocAttr, ↓vpre, zp, zc]
        all_goals rfl
       have hd1 : decide (p = 0) = false := decide_eq_false hp0
       have hd2 : decide (x < 0) = false := decide_eq_false hx0
       refine zg1 ?_
       simp -dsimp only [simprocAttr, ↓vpre, zp, hepx, hB1, hd1, hd2, hxx, Int.toNat_natCast, Nat.mul_one]
       repeat (refine ⟨by omega, ?_⟩)
       refine za0 ?_
       refine zu0 rfl ?_
       refine zg1 ?_
       simp -dsimp only [simprocAttr, ↓vpre, zp, hda]
       refine za0 ?_
       refine zu0 rfl ?_
       refine awp_region hT hm ?_
       simp -dsimp only [simprocAttr, ↓vpre, zp]
       refine .inr (.inr ⟨_, hmeet, later_intro (zj ?_)⟩)
       refine at_intro ?_
       show Covers _ _
       refine zq rfl ?_ ?_
       simp -dsimp only [simprocAttr, ↓vpre, zp, zc]
       all_goals rfl
      have hnc := hpas.2 hA
      rw [if_pos hnc] at hpd
      rw [hpd] at hnx
      subst hnx
      by_cases hpl0 : plF f p < 0
      ·have hB1 : decide (plF f p < 0) = true := decide_eq_true hpl0
       refine zg1 ?_
       simp -dsimp only [simprocAttr, ↓vpre, zp, hepx, hB1, Int.toNat_natCast, Nat.mul_one]
       repeat (refine ⟨by omega, ?_⟩)
       refine za0 ?_
       refine zw0 rfl ?_
       refine awp_skip ?_
       show Covers _ _
       refine zq rfl ?_ ?_
       simp -dsimp only [simprocAttr, ↓vpre, zp, zc]
       all_goals rfl
      have hB1 : decide (plF f p < 0) = false := decide_eq_false hpl0
      have hd1 : decide (p = 0) = false := decide_eq_false fun e => hA (.inl e)
      have hd2 : decide (x < 0) = true := decide_eq_true (by omega)
      refine zg1 ?_
      simp -dsimp only [simprocAttr, ↓vpre, zp, hepx, hB1, hd1, hd2, hxx, Int.toNat_natCast, Nat.mul_one]
      repeat (refine ⟨by omega, ?_⟩)
      refine za0 ?_
      refine zw0 rfl ?_
      refine awp_skip ?_
      show Covers _ _
      refine zq rfl ?_ ?_
      simp -dsimp only [simprocAttr, ↓vpre, zp, zc]
      all_goals rfl
     refine zh0 ?_
     repeat (refine ⟨by omega, ?_⟩)
     refine zl0 ?_
     refine ⟨⟨(w + 1, nx), hlw, hnacc, hwe⟩, by simp; omega, ?_⟩
     refine zq rfl ?_ ?_
     simp -dsimp only [simprocAttr, ↓vpre, zp, zc]
     all_goals first | rfl | exact Sub.refl _
    refine awp_exit ?_
    simp -dsimp only [vend, ne_eq, Nat.reduceEqDiff, reduceCtorEq]
    have hww : w = ps.length := by simp at h; omega
    subst hww
    rw [List.drop_length, List.foldl_nil] at hwe
    subst hwe
    have hox := aI_at ho
    have hput := aI_put (l := T.over) (j := z.toNat) (by omega) NX
    by_cases hne : NX = o
    ·have hdn : decide (NX = o) = true := decide_eq_true hne
     rw [if_neg (by simp [hne])] at hstep
     rw [hstep] at hst hTe
     refine zg1 ?_
     simp -dsimp only [simprocAttr, ↓vpre, zp, hox, hdn, Nat.mul_one]
     repeat (refine ⟨by omega, ?_⟩)
     refine za0 ?_
     refine zu0 rfl ?_
     refine zb1 ?_
     refine zh0 ?_
     repeat (refine ⟨by omega, ?_⟩)
     refine zl0 ?_
     refine ⟨⟨(y + 1, T), hlt, by rw [show ((1 + (y + 1) : Nat) : Int) = ((1 + y : Nat) : Int) + 1 by omega]; exact hst.1, hTe⟩, by simp; omega, ?_⟩
     refine zq rfl ?_ ?_
     simp -dsimp only [simprocAttr, ↓vpre, zp, zc]
     all_goals first | rfl | exact Sub.refl _
    have hdn : decide (NX = o) = false := decide_eq_false hne
    rw [if_pos hne] at hstep
    rw [hstep] at hst hTe
    refine zg1 ?_
    simp -dsimp only [simprocAttr, ↓vpre, zp, hox, hdn, Nat.mul_one]
    repeat (refine ⟨by omega, ?_⟩)
    refine za0 ?_
    refine zw0 rfl ?_
    refine zg0 ?_
    simp -dsimp only [simprocAttr, ↓vpre, zp, hput, Nat.mul_one]
    repeat (refine ⟨by omega, ?_⟩)
    refine za0 ?_
    refine zh0 ?_
    repeat (refine ⟨by omega, ?_⟩)
    refine zl0 ?_
    refine ⟨⟨(y + 1, ⟨T.over.set z.toNat NX, true⟩), hlt, by rw [show ((1 + (y + 1) : Nat) : Int) = ((1 + y : Nat) : Int) + 1 by omega]; exact hst.1, hTe⟩, by simp; omega, ?_⟩
    refine zq rfl ?_ ?_
    simp -dsimp only [simprocAttr, ↓vpre, zp, zc]
    all_goals first | rfl | exact Sub.refl _
   refine awp_exit ?_
   simp -dsimp only [vend, ne_eq, Nat.reduceEqDiff, reduceCtorEq]
   have hyy : y = L1.length := by simp at h; omega
   subst hyy
   rw [List.drop_length, List.foldl_nil] at hTe
   subst hTe
   have hlt2 : S1.again = true → S1.weight f < q := fun hh => by
    rcases ro3 hh with r | r
    ·cases r
    omega
   refine ⟨⟨(S1, q), dinv_again hw ro1, hRq', hlt2⟩, ?_, ?_⟩
   ·simp only [hag, if_true]
    cases hs1 : S1.again
    ·simp; omega
    rcases ro3 hs1 with r | r
    ·cases r
    simp; omega
   refine zq rfl ?_ ?_
   simp -dsimp only [simprocAttr, ↓vpre, zp, zc]
   all_goals rfl
  refine awp_exit ?_
  simp -dsimp only [vend, ne_eq, Nat.reduceEqDiff, reduceCtorEq]
  have hag : S.again = false := h
  rw [dmI_done hag] at hRq
  subst hRq
  refine zh1 ?_
  repeat (refine ⟨by omega, ?_⟩)
  refine za0 ?_
  refine awp_ret ?_
  simp -dsimp only [simprocAttr, ↓vpre, zp, zr, Try.results40]
  exact ⟨dmO_upto f S.over k [.ms 3 0 k k, .ms 4 0 k k] ⟨show 3 < 6 by omega, show 4 < 6 by omega, trivial⟩, ⟨⟨show 3 < 6 by omega, show 4 < 6 by omega, trivial⟩, trivial, trivial⟩, rfl⟩
 exact FSub.mp rfl rfl
end Go.Proofs.Ytlclgfgmhnmnaaa
namespace Go.Av
theorem awp_frz {P : Program} {kb : Nat} {c : Code} {Q : AEx → St → Prop} {n : Nat} {slots : List (Nat × AVal)} {A : Nat} {C : Nat → List AVal} {N : Nat}
    (hsc : ∀ i, ∀ d ∈ C i, d.scalar) (hl : ∀ i, (C i).length = N) (F : Nat → List AObj → Prop)
    (hF : ∀ i O, i < N → O[A]? = some (.cells (C i)) → F i O → (C (i + 1) = C i ∧ F (i + 1) O) ∨
      ∃ id o x y, id ≠ A ∧ O[id]? = some o ∧ ¬ o.isSpare ∧ o.live ∧ (C i)[i]? = some x ∧ (C (i + 1)) = (C i).set i y ∧ FSub O id x y ∧ F (i + 1) ((O.set id .gone).set A (.cells (C (i + 1))))) :
    ∀ (m i : Nat) (O : List AObj), i + m = N → O[A]? = some (.cells (C i)) → F i O → (∀ O', O'.length = O.length → O'[A]? = some (.cells (C N)) → AWP P kb c Q ⟨n, slots, O'⟩) → AWP P kb c Q ⟨n, slots, O⟩
  | 0, i, O, hi, hA, _, h => by
    have : i = N := by omega
    subst this
    exact h O rfl hA
  | m + 1, i, O, hi, hA, hf, h => by
    rcases hF i O (by omega) hA hf with ⟨e, hf'⟩ | ⟨id, o, x, y, h1, h2, h3, h4, h5, h6, h7, hf'⟩
    · exact awp_frz hsc hl F hF m (i + 1) O (by omega) (by rw [e]; exact hA) hf' h
    have hAl := lt_of_getElem? hA
    refine awp_freeze_in id h2 h3 h4 slots (fun s z hz => ⟨z, hz, .refl z⟩) A (Ne.symm h1) (C i) (C (i + 1)) hA (by rw [hl, hl]) (hsc (i + 1)) (fun j a b ha hb => ?_) (awp_frz hsc hl F hF m (i + 1) _ (by omega) (by rw [List.getElem?_set_self (by rw [List.length_set]; exact hAl)]) hf' fun O' hO' => h O' (by rw [hO', List.length_set, List.length_set]))
    rw [h6, List.getElem?_set] at hb
    split at hb
    · rename_i e
      subst e
      rw [h5] at ha
      rw [if_pos (lt_of_getElem? h5)] at hb
      simp only [Option.some.injEq] at ha hb
      subst ha
      subst hb
      exact h7
    rw [ha] at hb
    simp only [Option.some.injEq] at hb
    subst hb
    exact .refl _
theorem ECall.shared {P : Program} {f : FuncId} {O : List AObj} {args : List AVal} {R : AVal → List AObj → Prop} (h : ECall P f O (args.map AVal.share) R) : ECall P f O args R := ⟨h.1, fun g vs hg ho ha => h.2 g vs hg ho ha.share⟩
end Go.Av
namespace Go.Proofs.Ytlclgfgmhnmnaaa
open Go.Av
def frC (ids : List Nat) (ls : List (List Int)) : List AVal := List.zipWith outV ids ls
theorem frC_len {ids : List Nat} {ls : List (List Int)} {N : Nat} (h1 : ids.length = N) (h2 : ls.length = N) : (frC ids ls).length = N := by
  unfold frC
  rw [List.length_zipWith]
  omega
theorem frC_at {ids : List Nat} {ls : List (List Int)} {j id : Nat} {l : List Int} (h1 : ids[j]? = some id) (h2 : ls[j]? = some l) : (frC ids ls)[j]? = some (outV id l) := by
  unfold frC
  rw [List.getElem?_zipWith, h1, h2]
theorem frC_set {ids : List Nat} {ls : List (List Int)} {j : Nat} (id : Nat) (l : List Int) : (frC ids ls).set j (outV id l) = frC (ids.set j id) (ls.set j l) := by
  apply List.ext_getElem?
  intro i
  unfold frC
  rw [List.getElem?_zipWith, List.getElem?_set, List.getElem?_set, List.getElem?_set, List.length_zipWith]
  by_cases e : j = i
  · subst e
    simp only [if_true]
    by_cases h1 : j < ids.length
    · by_cases h2 : j < ls.length
      · rw [if_pos (by omega), if_pos h1, if_pos h2]
      rw [if_neg (by omega), if_pos h1, if_neg h2]
    rw [if_neg (by omega), if_neg h1]
  simp only [if_neg e]
  rw [List.getElem?_zipWith]
theorem outV_le {n id : Nat} {l : List Int} (h : l ≠ [] → id < n) : (outV id l).upto n := by
  unfold outV
  split
  · exact ⟨trivial, trivial⟩
  rename_i q
  exact h q
structure FrO (f : Func) (N : Nat) (ids : List Nat) (ls : List (List Int)) (O : List AObj) : Prop where
  up : ∀ o ∈ O, o.upto O.length
  tree : O[3]? = some (.cells ((treeM f).map aI))
  place : O[4]? = some (.cells ((plL f).map aI))
  gr : O[6]? = some (.cells [.ms 3 0 N N, .ms 4 0 N N])
  arr : O[7]? = some (.cells (frC ids ls))
  li : ids.length = N
  ll : ls.length = N
  own : ∀ (j id : Nat) (l : List Int), ids[j]? = some id → ls[j]? = some l → l ≠ [] → 8 ≤ id ∧ O[id]? = some (.cells (l.map aI))
  inj : ∀ (i j id : Nat), ids[i]? = some id → ids[j]? = some id → ls[i]? ≠ some [] → ls[j]? ≠ some [] → i = j
  nd : ∀ l ∈ ls, l.Nodup ∧ ∀ x ∈ l, 0 ≤ x ∧ x < N
theorem FrO.few {f : Func} {N : Nat} {ids : List Nat} {ls : List (List Int)} {O : List AObj} (h : FrO f N ids ls O) {l : List Int} (hl : l ∈ ls) : l.length ≤ N := nodup_ints (h.nd l hl).1 (h.nd l hl).2
theorem FrO.put {f : Func} {N : Nat} {ids : List Nat} {ls : List (List Int)} {O O1 : List AObj} (h : FrO f N ids ls O) {j old : Nat} {l l' : List Int} (hj : ids[j]? = some old) (hl : ls[j]? = some l) (hne : l' ≠ [])
    (hnd : l'.Nodup ∧ ∀ x ∈ l', 0 ≤ x ∧ x < N) (hlen : O1.length = O.length) (hup : ∀ o ∈ O1, o.upto O.length) (hsame : ∀ k, (l ≠ [] → k ≠ old) → O1[k]? = O[k]?) {cs : List AVal} (hcs : cs = l'.map aI) {ar : List AVal} (har : ar = (frC ids ls).set j (.os O.length l'.length 1)) :
    FrO f N (ids.set j O.length) (ls.set j l') ((O1 ++ [AObj.cells cs]).set 7 (.cells ar)) := by
  have h7 := lt_of_getElem? h.arr
  have hjl := lt_of_getElem? hj
  have hjl2 := lt_of_getElem? hl
  have hold : l ≠ [] → 8 ≤ old := fun q => (h.own j old l hj hl q).1
  have hov : outV O.length l' = .os O.length l'.length 1 := if_neg hne
  have hsm : ∀ k, k < 8 → k ≠ 7 → ∀ o, O[k]? = some o → ((O1 ++ [AObj.cells cs]).set 7 (.cells ar))[k]? = some o := fun k hk hk7 o ho => by
    rw [List.getElem?_set_ne (Ne.symm hk7), List.getElem?_append_left (by rw [hlen]; exact lt_of_getElem? ho), hsame k (fun q => by have := hold q; omega)]
    exact ho
  rw [← hov, frC_set] at har
  subst hcs
  subst har
  exact {
    up := by
      intro o ho
      rw [List.length_set, List.length_append, List.length_singleton, hlen]
      rcases List.mem_or_eq_of_mem_set ho with q | q
      · rcases List.mem_append.1 q with q | q
        · exact AObj.upto_mono (by omega) (hup o q)
        rw [List.mem_singleton] at q
        subst q
        exact aI_upto _ _
      subst q
      show uptoL _ _
      rw [uptoL_iff]
      intro c hc
      obtain ⟨i, hi⟩ := List.mem_iff_getElem?.1 hc
      unfold frC at hi
      rw [List.getElem?_zipWith] at hi
      cases h1 : (ids.set j O.length)[i]? with
      | none => rw [h1] at hi; cases hi
      | some id =>
        cases h2 : (ls.set j l')[i]? with
        | none => rw [h1, h2] at hi; cases hi
        | some m =>
          rw [h1, h2] at hi
          simp only [Option.some.injEq] at hi
          subst hi
          refine outV_le fun hm => ?_
          rw [List.getElem?_set] at h1 h2
          split at h1
          · rename_i e
            subst e
            simp only [hjl, if_true, Option.some.injEq] at h1
            omega
          rename_i e
          rw [if_neg e] at h2
          have := lt_of_getElem? (h.own i id m h1 h2 hm).2
          omega
    tree := hsm 3 (by omega) (by omega) _ h.tree
    place := hsm 4 (by omega) (by omega) _ h.place
    gr := hsm 6 (by omega) (by omega) _ h.gr
    arr := by
      rw [List.getElem?_set_self (by rw [List.length_append]; omega)]
    li := by rw [List.length_set, h.li]
    ll := by rw [List.length_set, h.ll]
    own := fun i id m h1 h2 hm => by
      rw [List.getElem?_set] at h1 h2
      by_cases e : j = i
      · rw [if_pos e, if_pos (by omega)] at h1 h2
        simp only [Option.some.injEq] at h1 h2
        subst h1
        subst h2
        refine ⟨by omega, ?_⟩
        rw [List.getElem?_set_ne (by omega), List.getElem?_append_right (by omega), hlen, Nat.sub_self]
        rfl
      rw [if_neg e] at h1 h2
      obtain ⟨o1, o2⟩ := h.own i id m h1 h2 hm
      refine ⟨o1, ?_⟩
      rw [List.getElem?_set_ne (by omega), List.getElem?_append_left (by rw [hlen]; exact lt_of_getElem? o2), hsame id (fun q e2 => ?_)]
      · exact o2
      subst e2
      exact e (h.inj j i id hj h1 (by rw [hl]; simpa using q) (by rw [h2]; simpa using hm))
    inj := fun a b id h1 h2 h3 h4 => by
      rw [List.getElem?_set] at h1 h2 h3 h4
      have hlt : ∀ i : Nat, ids[i]? = some O.length → ls[i]? ≠ some [] → False := fun i q1 q2 => by
        have hil : i < ls.length := by
          rw [h.ll, ← h.li]
          exact lt_of_getElem? q1
        have q3 := List.getElem?_eq_getElem hil
        have := lt_of_getElem? (h.own i _ _ q1 q3 (by
          intro q
          rw [q3, q] at q2
          exact q2 rfl)).2
        omega
      by_cases e1 : j = a
      · by_cases e2 : j = b
        · omega
        rw [if_pos e1, if_pos (by omega)] at h1
        rw [if_neg e2] at h2 h4
        simp only [Option.some.injEq] at h1
        subst h1
        exact (hlt b h2 h4).elim
      rw [if_neg e1] at h1 h3
      by_cases e2 : j = b
      · rw [if_pos e2, if_pos (by omega)] at h2
        simp only [Option.some.injEq] at h2
        subst h2
        exact (hlt a h1 h3).elim
      rw [if_neg e2] at h2 h4
      exact h.inj a b id h1 h2 h3 h4
    nd := fun m hm => by
      rcases List.mem_or_eq_of_mem_set hm with q | q
      · exact h.nd m q
      rw [q]
      exact hnd }
theorem FrO.sort {f : Func} {N : Nat} {ids : List Nat} {ls : List (List Int)} {O : List AObj} (h : FrO f N ids ls O) {j id : Nat} {l : List Int} (hj : ids[j]? = some id) (hl : ls[j]? = some l) (hne : l ≠ []) :
    FrO f N ids (ls.set j (sortI l)) (O.set id (.cells ((sortI l).map aI))) := by
  obtain ⟨o1, o2⟩ := h.own j id l hj hl hne
  have hidl := lt_of_getElem? o2
  have hjl := lt_of_getElem? hl
  have hsl : (sortI l).length = l.length := (sortI_perm l).length_eq
  have hsn : sortI l ≠ [] := fun q => by
    rw [q] at hsl
    exact hne (List.length_eq_zero_iff.1 hsl.symm)
  have hsm : ∀ k, k < 8 → ∀ o, O[k]? = some o → (O.set id (.cells ((sortI l).map aI)))[k]? = some o := fun k hk o ho => by
    rw [List.getElem?_set_ne (by omega)]
    exact ho
  have hnil : ∀ i : Nat, (ls.set j (sortI l))[i]? ≠ some [] → ls[i]? ≠ some [] := fun i q1 q2 => by
    rw [List.getElem?_set] at q1
    split at q1
    · rename_i e
      subst e
      rw [hl] at q2
      simp only [Option.some.injEq] at q2
      exact hne q2
    exact q1 q2
  have hov : outV id (sortI l) = outV id l := by
    rw [outV, outV, if_neg hsn, if_neg hne, hsl]
  have hfc : frC ids (ls.set j (sortI l)) = frC ids ls := by
    have h1 := frC_set (ids := ids) (ls := ls) (j := j) id (sortI l)
    have e1 : ids.set j id = ids := by
      apply List.ext_getElem?
      intro i
      rw [List.getElem?_set]
      split
      · rename_i e
        subst e
        rw [if_pos (lt_of_getElem? hj), hj]
      rfl
    rw [e1, hov] at h1
    rw [← h1]
    apply List.ext_getElem?
    intro i
    rw [List.getElem?_set]
    split
    · rename_i e
      subst e
      rw [if_pos (by rw [frC_len h.li h.ll, ← h.ll]; exact hjl), frC_at hj hl]
    rfl
  exact {
    up := by
      rw [List.length_set]
      exact uptoO_set h.up (aI_upto _ _)
    tree := hsm 3 (by omega) _ h.tree
    place := hsm 4 (by omega) _ h.place
    gr := hsm 6 (by omega) _ h.gr
    arr := by
      rw [hfc]
      exact hsm 7 (by omega) _ h.arr
    li := h.li
    ll := by rw [List.length_set, h.ll]
    own := fun i z m h1 h2 hm => by
      rw [List.getElem?_set] at h2
      by_cases e : j = i
      · rw [if_pos e, if_pos hjl] at h2
        simp only [Option.some.injEq] at h2
        subst e
        rw [hj] at h1
        simp only [Option.some.injEq] at h1
        subst h1
        subst h2
        exact ⟨o1, List.getElem?_set_self hidl⟩
      rw [if_neg e] at h2
      obtain ⟨p1, p2⟩ := h.own i z m h1 h2 hm
      refine ⟨p1, ?_⟩
      rw [List.getElem?_set_ne (fun q => ?_)]
      · exact p2
      subst q
      exact e (h.inj j i id hj h1 (by rw [hl]; simpa using hne) (by rw [h2]; simpa using hm))
    inj := fun a b z h1 h2 h3 h4 => h.inj a b z h1 h2 (hnil a h3) (hnil b h4)
    nd := fun m hm => by
      rcases List.mem_or_eq_of_mem_set hm with q | q
      · exact h.nd m q
      rw [q]
      obtain ⟨n1, n2⟩ := h.nd l (List.mem_of_getElem? hl)
      exact ⟨(sortI_perm l).nodup_iff.2 n1, fun x hx => n2 x ((sortI_perm l).mem_iff.1 hx)⟩ }
def mixC (ids : List Nat) (ls : List (List Int)) (i : Nat) : List AVal := (frC ids ls).mapIdx fun j c => if j < i ∧ (ls[j]?.getD []) ≠ [] then eIs (ls[j]?.getD []) else c
theorem mixC_zero (ids : List Nat) (ls : List (List Int)) : mixC ids ls 0 = frC ids ls := by
  apply List.ext_getElem?
  intro i
  unfold mixC
  rw [List.getElem?_mapIdx]
  cases (frC ids ls)[i]? with
  | none => rfl
  | some c => simp
theorem mixC_len {ids : List Nat} {ls : List (List Int)} {N : Nat} (h1 : ids.length = N) (h2 : ls.length = N) (i : Nat) : (mixC ids ls i).length = N := by
  unfold mixC
  rw [List.length_mapIdx, frC_len h1 h2]
theorem mixC_at {ids : List Nat} {ls : List (List Int)} {j id : Nat} {l : List Int} (h1 : ids[j]? = some id) (h2 : ls[j]? = some l) (i : Nat) : (mixC ids ls i)[j]? = some (if j < i ∧ l ≠ [] then eIs l else outV id l) := by
  unfold mixC
  rw [List.getElem?_mapIdx, frC_at h1 h2, Option.map_some, h2, Option.getD_some]
theorem mixC_scalar (ids : List Nat) (ls : List (List Int)) (i : Nat) : ∀ d ∈ mixC ids ls i, d.scalar := fun d hd => by
  obtain ⟨j, hj⟩ := List.mem_iff_getElem?.1 hd
  unfold mixC at hj
  rw [List.getElem?_mapIdx] at hj
  cases hc : (frC ids ls)[j]? with
  | none => rw [hc] at hj; cases hj
  | some c =>
    rw [hc, Option.map_some] at hj
    simp only [Option.some.injEq] at hj
    subst hj
    split
    · trivial
    unfold frC at hc
    rw [List.getElem?_zipWith] at hc
    cases h1 : ids[j]? with
    | none => rw [h1] at hc; cases hc
    | some id =>
      cases h2 : ls[j]? with
      | none => rw [h1, h2] at hc; cases hc
      | some m =>
        rw [h1, h2] at hc
        simp only [Option.some.injEq] at hc
        subst hc
        unfold outV
        split <;> trivial
theorem mixC_step {ids : List Nat} {ls : List (List Int)} {i id : Nat} {l : List Int} (hll : ids.length = ls.length) (h1 : ids[i]? = some id) (h2 : ls[i]? = some l) : (l = [] → mixC ids ls (i + 1) = mixC ids ls i) ∧ (l ≠ [] → mixC ids ls (i + 1) = (mixC ids ls i).set i (eIs l)) := by
  have hil := lt_of_getElem? h1
  have hil2 := lt_of_getElem? h2
  have hoff : ∀ j, j ≠ i → (mixC ids ls (i + 1))[j]? = (mixC ids ls i)[j]? := fun j hj => by
    unfold mixC
    rw [List.getElem?_mapIdx, List.getElem?_mapIdx]
    cases (frC ids ls)[j]? with
    | none => rfl
    | some c =>
      simp only [Option.map_some, Option.some.injEq]
      have : j < i + 1 ↔ j < i := by omega
      simp only [this]
  refine ⟨fun q => ?_, fun q => ?_⟩
  · apply List.ext_getElem?
    intro j
    by_cases e : j = i
    · subst e
      rw [mixC_at h1 h2, mixC_at h1 h2, if_neg (by simp [q]), if_neg (by simp [q])]
    exact hoff j e
  apply List.ext_getElem?
  intro j
  rw [List.getElem?_set]
  by_cases e : i = j
  · subst e
    rw [if_pos rfl, mixC_at h1 h2, if_pos ⟨by omega, q⟩, if_pos (by rw [mixC_len (N := ids.length) rfl hll.symm]; exact hil)]
  rw [if_neg e]
  exact hoff j (Ne.symm e)
theorem mixC_share {ids : List Nat} {ls : List (List Int)} (hll : ids.length = ls.length) : (mixC ids ls ls.length).map AVal.shareCell = cellsAll (ls.map eIs) := by
  have h1 : cellsAll (ls.map eIs) = ls.map eIs := by
    clear hll
    induction ls with
    | nil => rfl
    | cons l r ih =>
      simp only [List.map_cons, cellsAll, List.flatMap_cons] at ih ⊢
      rw [ih]
      rfl
  rw [h1]
  apply List.ext_getElem?
  intro i
  rw [List.getElem?_map, List.getElem?_map]
  by_cases hi : i < ls.length
  · rw [mixC_at (List.getElem?_eq_getElem (by omega)) (List.getElem?_eq_getElem hi), List.getElem?_eq_getElem hi]
    simp only [Option.map_some, Option.some.injEq]
    split
    · exact shareCell_lst _ _ _
    rename_i q
    have hn : ls[i] = [] := Classical.byContradiction fun z => q ⟨hi, z⟩
    rw [hn]
    rfl
  rw [List.getElem?_eq_none (by rw [mixC_len (N := ids.length) rfl hll.symm]; omega), List.getElem?_eq_none (by omega)]
  rfl
theorem sort_step {L : List (List Int)} {z : Nat} {l : List Int} (h : L[z]? = some l) : ((L.take z).map sortI ++ L.drop z).set z (sortI l) = (L.take (z + 1)).map sortI ++ L.drop (z + 1) := by
  have hz := lt_of_getElem? h
  have hl : ((L.take z).map sortI).length = z := by rw [List.length_map, List.length_take]; omega
  rw [List.set_append_right _ _ (by omega), hl, Nat.sub_self, drop_at h, List.set_cons_zero, List.take_add_one, h, List.map_append, List.append_assoc]
  rfl
theorem sort_at {L : List (List Int)} {z : Nat} (hz : z ≤ L.length) : ((L.take z).map sortI ++ L.drop z)[z]? = L[z]? := by
  have hl : ((L.take z).map sortI).length = z := by rw [List.length_map, List.length_take]; omega
  rw [List.getElem?_append_right (by omega), hl, Nat.sub_self, List.getElem?_drop, Nat.add_zero]
theorem sortI_nil : sortI [] = [] := by simp [sortI]
theorem awp_front {P : Program} {kb : Nat} {c : Code} {Q : AEx → St → Prop} {n : Nat} {slots : List (Nat × AVal)} {f : Func} {N : Nat} {ids : List Nat} {ls : List (List Int)} {O : List AObj} (hF : FrO f N ids ls O)
    (h : ∀ O', O'.length = O.length → O'[7]? = some (.cells (mixC ids ls N)) → AWP P kb c Q ⟨n, slots, O'⟩) : AWP P kb c Q ⟨n, slots, O⟩ := by
  refine awp_frz (A := 7) (C := mixC ids ls) (N := N) (mixC_scalar ids ls) (mixC_len hF.li hF.ll) (fun i O => ∀ (j id : Nat) (l : List Int), i ≤ j → ids[j]? = some id → ls[j]? = some l → l ≠ [] → 8 ≤ id ∧ O[id]? = some (.cells (l.map aI))) (fun i O hi hA hf => ?_) N 0 O (by omega) (by rw [mixC_zero]; exact hF.arr) (fun j id l _ => hF.own j id l) h
  have hid : ids[i]? = some (ids[i]'(by rw [hF.li]; exact hi)) := List.getElem?_eq_getElem _
  have hl : ls[i]? = some (ls[i]'(by rw [hF.ll]; exact hi)) := List.getElem?_eq_getElem _
  generalize ids[i]'(by rw [hF.li]; exact hi) = id at hid
  generalize ls[i]'(by rw [hF.ll]; exact hi) = l at hl
  have hst := mixC_step (by rw [hF.li, hF.ll]) hid hl
  by_cases hn : l = []
  · exact .inl ⟨hst.1 hn, fun j id l hij => hf j id l (by omega)⟩
  obtain ⟨o1, o2⟩ := hf i id l (Nat.le_refl _) hid hl hn
  refine .inr ⟨id, .cells (l.map aI), .os id l.length 1, eIs l, by omega, o2, by simp [AObj.isSpare], trivial, ?_, hst.2 hn, FSub.os (cs := l.map aI) o2 (fun x hx => by obtain ⟨v, _, rfl⟩ := List.mem_map.1 hx; rfl) (by simp) (by rw [List.drop_zero, List.take_of_length_le (by simp), aI_cellsAll]), fun j id' l' hij h1 h2 h3 => ?_⟩
  · rw [mixC_at hid hl, if_neg (by omega)]
    exact congrArg some (if_neg hn)
  obtain ⟨p1, p2⟩ := hf j id' l' (by omega) h1 h2 h3
  refine ⟨p1, ?_⟩
  rw [List.getElem?_set_ne (by omega), List.getElem?_set_ne (fun e => ?_)]
  · exact p2
  subst e
  have := hF.inj i j id hid h1 (by rw [hl]; simpa using hn) (by rw [h2]; simpa using h3)
  omega
def lays25_ren : Go.Shelf.Ren := ⟨fun | 25 => 62 | 31 => 96 | 32 => 97 | 37 => 123 | n => n, fun | 0 => 0 | 3 => 3 | 4 => 4 | 22 => 45 | 40 => 144 | n => n, fun n => n⟩
theorem cellsAll_ints (l : List Int) : cellsAll (l.map aI) = l.map aI := by
  induction l with
  | nil => rfl
  | cons a r ih =>
    simp only [List.map_cons, cellsAll, List.flatMap_cons] at ih ⊢
    rw [ih]
    rfl
theorem PCall.os {P : Program} {f : FuncId} {l : List Int} {x b : Value} (h : PCall P f [eIs l, .v x] (.v b)) {O : List AObj} {id : Nat} (ho : O[id]? = some (.cells (l.map aI))) :
    ECall P f O [.os id l.length 1, .v x] (fun r O' => r = .v b ∧ O' = O) := by
  refine ⟨h.1, fun g vs hg hgo hvs => ?_⟩
  subst hgo
  obtain ⟨h1, h2⟩ := hvs
  simp only [List.length_cons, List.length_nil] at h1
  have hv0 : vs[0]? = some (vs[0]'(by omega)) := Array.getElem?_eq_getElem _
  have hv1 : vs[1]? = some (vs[1]'(by omega)) := Array.getElem?_eq_getElem _
  obtain ⟨lc, o, cap, he, hobj, hns, hcap, hb, hmax, hve⟩ := (h2 0 _ _ rfl hv0).os_inv
  obtain ⟨hxe, hxf⟩ := (h2 1 _ _ rfl hv1).v_inv
  obtain ⟨arr, t, hlo, hrow, hlen, hcs, hcsc, hlsz⟩ := hg.row ho he
  rw [List.length_map] at hlen
  have hcell : ∀ (j : Nat) y, l[j]? = some y → arr[j]? = some (.int .i64 y) ∧ flatOK (.int .i64 y) := fun j y hj => by
    have hjl := lt_of_getElem? hj
    have hja : arr[j]? = some (arr[j]'(by omega)) := Array.getElem?_eq_getElem _
    obtain ⟨e, hf⟩ := (hcs j (aI y) _ (by simp [hj]) hja).v_inv
    exact ⟨by rw [hja, e], hf⟩
  obtain ⟨g3, hg3⟩ : ∃ g3 : G, g3 = ⟨g.w, fun _ _ => False, [], []⟩ := ⟨_, rfl⟩
  have hno : ∀ b off, ¬ OwnC g3 b off := fun b off q => by
    subst hg3
    rcases q with q | ⟨_, _, _, q, _⟩
    · exact q
    simp at q
  have hgood : Go.Av.Good g3 := by
    subst hg3
    exact { frlt := fun _ _ q => q.elim, frown := fun _ _ _ q => by simp at q, len := rfl, loc := fun _ _ _ q => by simp at q, apart := fun _ _ _ _ _ _ q => by simp at q, cells := fun _ _ q => by simp at q, spare := fun _ _ _ q => by simp at q, map := fun _ _ _ q => by simp at q }
  have hrow3 : g3.w.heap[lc.block]? = some (.cells arr t (0, 0)) := by rw [hg3]; exact hrow
  have hrv0 : RV g3 (eIs l) (.slice (some ⟨lc.block, 0, none⟩) l.length cap) := by
    have hll : l.length = (l.map aI).length := by simp
    rw [hll]
    refine .lst (f := fun j => .int .i64 (l.getD j 0)) ?_ ?_ (by simpa using hcap) (by simpa using hmax) (fun _ => rfl) ?_ ?_ trivial
    · intro y hy
      obtain ⟨z, _, rfl⟩ := List.mem_map.1 hy
      rfl
    · intro y hy c hc
      obtain ⟨z, _, rfl⟩ := List.mem_map.1 hy
      simp only [AVal.cells, List.mem_singleton] at hc
      subst hc
      trivial
    · intro j c hj
      rw [cellsAll_ints, List.getElem?_map] at hj
      obtain ⟨y, hy, rfl⟩ := Option.map_eq_some_iff.1 hj
      refine ⟨?_, hno _ _⟩
      show g3.w.cell? _ = _
      rw [Go.Av.cell_of_row hrow3, Nat.zero_add, (hcell j y hy).1]
      simp [hy]
    intro j c hj
    rw [cellsAll_ints, List.getElem?_map] at hj
    obtain ⟨y, hy, rfl⟩ := Option.map_eq_some_iff.1 hj
    have : l.getD j 0 = y := by simp [hy]
    rw [this]
    exact .v (hcell j y hy).2
  have hvs3 : RVs g3 [eIs l, .v x] vs := by
    refine ⟨by simpa using h1, fun j c u hj hu => ?_⟩
    have hj2 := lt_of_getElem? hj
    simp only [List.length_cons, List.length_nil] at hj2
    rcases (show j = 0 ∨ j = 1 by omega) with e | e
    · subst e
      rw [hv0] at hu
      simp only [List.getElem?_cons_zero, Option.some.injEq] at hj hu
      rw [← hj, ← hu, hve]
      exact hrv0
    subst e
    rw [hv1] at hu
    simp only [List.getElem?_cons_succ, List.getElem?_cons_zero, Option.some.injEq] at hj hu
    rw [← hj, ← hu, hxe]
    exact .v hxf
  have hw3 : g.w = g3.w := by rw [hg3]
  rw [hw3]
  refine (h.2 g3 vs hgood (by rw [hg3]) hvs3).mono ?_
  rintro e w' ⟨g', v, r, k1, k2, k3, k4, k5, k6, k7⟩
  have hX : Le g.bare ⟨g'.w, OwnC g, g'.env, g'.objs⟩ := by
    subst hg3
    exact {
      os := k3.os
      tape := k3.tape
      output := k3.output
      fr := rfl
      size := k3.size
      block := fun k hk hh => ⟨(k3.block k hk (fun q => hh q)).1, (k3.block k hk (fun q => hh q)).2⟩
      cell := fun b off y hy hh => ⟨(k3.cell b off y hy (fun q => hh q)).1, (k3.cell b off y hy (fun q => hh q)).2⟩
      len := k3.len
      spare := fun id m hm => by simp [G.bare] at hm
      plain := fun id o hm => by simp [G.bare] at hm
      gone := fun id hm => by simp [G.bare] at hm
      tok := fun id m hm => by simp [G.bare] at hm }
  refine ⟨g.back ⟨g'.w, OwnC g, g'.env, g'.objs⟩, v, .v b, k1, k2, Le.back hg hX, Go.Av.Good.back hg hX, ?_, rfl, rfl⟩
  rw [k6] at k5
  obtain ⟨e1, e2⟩ := k5.v_inv
  rw [e1]
  exact .v e2
end Go.Proofs.Ytlclgfgmhnmnaaa
namespace Go.Proofs.Ytlclgfgmhnmnaaa
open Go.Av Go.Sort
def lays189_ren : Go.Shelf.Ren := ⟨fun | 125 => 87 | 128 => 115 | 129 => 116 | 189 => 57 | 215 => 123 | 216 => 96 | 257 => 86 | 294 => 107 | 295 => 108 | 296 => 109 | 297 => 110 | 298 => 111 | 299 => 112 | 300 => 113 | 301 => 114 | 328 => 133 | 329 => 134 | 330 => 135 | 331 => 136 | 332 => 137 | 343 => 145 | n => n, fun | 0 => 0 | 3 => 3 | 4 => 4 | 5 => 5 | 9 => 9 | 28 => 45 | 46 => 144 | 51 => 186 | 53 => 151 | 131 => 115 | 182 => 180 | 183 => 181 | 218 => 198 | 222 => 202 | 228 => 207 | 229 => 208 | n => n, fun n => n⟩
theorem lays189 : Go.Proofs.Lays.n189 Try.prog lays189_ren := {
  mixed := by kernel_rfl,
  f125 := Try.func87.trans (congrArg some (by kernel_rfl)),
  f128 := Try.func115.trans (congrArg some (by kernel_rfl)),
  f129 := Try.func116.trans (congrArg some (by kernel_rfl)),
  f189 := Try.func57.trans (congrArg some (by kernel_rfl)),
  f215 := Try.func123.trans (congrArg some (by kernel_rfl)),
  f216 := Try.func96.trans (congrArg some (by kernel_rfl)),
  f257 := Try.func86.trans (congrArg some (by kernel_rfl)),
  f294 := Try.func107.trans (congrArg some (by kernel_rfl)),
  f295 := Try.func108.trans (congrArg some (by kernel_rfl)),
  f296 := Try.func109.trans (congrArg some (by kernel_rfl)),
  f297 := Try.func110.trans (congrArg some (by kernel_rfl)),
  f298 := Try.func111.trans (congrArg some (by kernel_rfl)),
  f299 := Try.func112.trans (congrArg some (by kernel_rfl)),
  f300 := Try.func113.trans (congrArg some (by kernel_rfl)),
  f301 := Try.func114.trans (congrArg some (by kernel_rfl)),
  f328 := Try.func133.trans (congrArg some (by kernel_rfl)),
  f329 := Try.func134.trans (congrArg some (by kernel_rfl)),
  f330 := Try.func135.trans (congrArg some (by kernel_rfl)),
  f331 := Try.func136.trans (congrArg some (by kernel_rfl)),
  f332 := Try.func137.trans (congrArg some (by kernel_rfl)),
  f343 := Try.func145.trans (congrArg some (by kernel_rfl)),
  t0 := Try.underlying0,
  a0 := Try.isAgg0,
  z0 := Try.sizeOf0,
  v0 := Try.zeroValue0,
  t3 := Try.underlying3,
  a3 := Try.isAgg3,
  z3 := Try.sizeOf3,
  v3 := Try.zeroValue3,
  t4 := Try.underlying4,
  a4 := Try.isAgg4,
  z4 := Try.sizeOf4,
  v4 := Try.zeroValue4,
  t5 := Try.underlying5,
  a5 := Try.isAgg5,
  z5 := Try.sizeOf5,
  v5 := Try.zeroValue5,
  t9 := Try.underlying9,
  a9 := Try.isAgg9,
  z9 := Try.sizeOf9,
  v9 := Try.zeroValue9,
  t28 := Try.underlying45,
  a28 := Try.isAgg45,
  z28 := Try.sizeOf45,
  v28 := Try.zeroValue45,
  t46 := Try.underlying144,
  a46 := Try.isAgg144,
  z46 := Try.sizeOf144,
  v46 := Try.zeroValue144,
  t51 := Try.underlying186,
  a51 := Try.isAgg186,
  z51 := Try.sizeOf186,
  v51 := Try.zeroValue186,
  t53 := Try.underlying151,
  a53 := Try.isAgg151,
  z53 := Try.sizeOf151,
  v53 := Try.zeroValue151,
  t131 := Try.underlying115,
  a131 := Try.isAgg115,
  z131 := Try.sizeOf115,
  v131 := Try.zeroValue115,
  t182 := Try.underlying180,
  a182 := Try.isAgg180,
  z182 := Try.sizeOf180,
  v182 := Try.zeroValue180,
  t183 := Try.underlying181,
  a183 := Try.isAgg181,
  z183 := Try.sizeOf181,
  v183 := Try.zeroValue181,
  t218 := Try.underlying198,
  a218 := Try.isAgg198,
  z218 := Try.sizeOf198,
  v218 := Try.zeroValue198,
  t222 := Try.underlying202,
  a222 := Try.isAgg202,
  z222 := Try.sizeOf202,
  v222 := Try.zeroValue202,
  t228 := Try.underlying207,
  a228 := Try.isAgg207,
  z228 := Try.sizeOf207,
  v228 := Try.zeroValue207,
  t229 := Try.underlying208,
  a229 := Try.isAgg208,
  z229 := Try.sizeOf208,
  v229 := Try.zeroValue208 }
theorem sort_calls : SortCalls Try.prog 57 := fun blk off cap zs w h1 h2 h3 => Any.slices_Sort_int lays189 blk off cap zs w h1 h2 h3
theorem sort_enters : Go.Av.Enters Try.prog 57 := ⟨_, Try.func57, by kernel_rfl, by kernel_rfl⟩
theorem sort_spec {O : List AObj} {id : Nat} {zs : List Int} (ho : O[id]? = some (.cells (zs.map aI))) (hl : zs.length ≤ 1000) :
    ECall Try.prog 57 O [.os id zs.length 1] (fun r O' => r = .tup [] ∧ O' = O.set id (.cells ((sortI zs).map aI))) := sort_bridge sort_enters sort_calls ho hl
theorem sort_nil_calls (p : Option Addr) (cap : Nat) (w : World) : Calls Try.prog 57 #[.slice p 0 cap] w fun e w' => e = .returned (.tuple #[]) ∧ w' = w := Any.slices_Sort_int_none lays189 p cap w
theorem sort_nil (O : List AObj) : ECall Try.prog 57 O [.lst 1 [] .sh] (fun r O' => r = .tup [] ∧ O' = O) := by
  refine ⟨sort_enters, fun g vs hg hgo hvs => ?_⟩
  obtain ⟨h1, h2⟩ := hvs
  simp only [List.length_singleton] at h1
  have hv0 : vs[0]? = some (vs[0]'(by omega)) := Array.getElem?_eq_getElem _
  have hr := h2 0 _ _ rfl hv0
  have hv : ∃ p cap, vs = #[.slice p 0 cap] := by
    have : ∃ p cap, vs[0]'(by omega) = .slice p 0 cap := by
      generalize vs[0]'(by omega) = u at hr
      cases hr with
      | nil => exact ⟨_, _, rfl⟩
      | lst => exact ⟨_, _, rfl⟩
    obtain ⟨p, cap, e⟩ := this
    refine ⟨p, cap, ?_⟩
    apply Array.ext
    · simpa using h1
    intro i hi1 hi2
    have : i = 0 := by omega
    subst this
    exact e
  obtain ⟨p, cap, rfl⟩ := hv
  refine (sort_nil_calls p cap g.w).mono ?_
  rintro e w' ⟨rfl, rfl⟩
  exact ⟨g, _, .tup [], rfl, rfl, Le.refl g, hg, .tup rfl (by simp), rfl, hgo⟩
end Go.Proofs.Ytlclgfgmhnmnaaa
namespace Go.Proofs.Ytlclgfgmhnmnaaa
open Go.Av

def InR (many : Nat) (v : Int) : Prop := 0 ≤ v ∧ v < many
end Go.Proofs.Ytlclgfgmhnmnaaa
namespace Go.Av
def fnIs : AVal → Option Bool
  | .v .nilFunc => some true
  | .fn _ _ _ => some false
  | _ => none
end Go.Av
namespace Go.Proofs.Ytlclgfgmhnmnaaa
open Go.Av
def backRun {X : Type} (step : X → Nat → List Bool → X) (l : List Ins) : Nat → X → List Bool → X
 | 0, x, s => step x 0 s
 | n + 1, x, s => match l[n]? with
  | none => x
  | some i => backRun step l n (step x (n + 1) s) (backI i s)
structure Rng where
  val : Int
  blk : Int
  fr : Int
  til : Int
def Rng.enc (r : Rng) : AVal := .agg [aI r.val, aI r.blk, aI r.fr, aI r.til]
def rngC (l : List Rng) : List AVal := cellsAll (l.map Rng.enc)
def partV (id : Nat) (l : List Rng) : AVal := if l = [] then .lst 4 [] .ex else .os id l.length 4
def partC : List (List Rng) → List Nat → List AVal
  | l :: r, id :: s => partV id l :: partC r s
  | _, _ => []
structure Rx where
  parts : List (List Rng)
  ids : List Nat
  O : List AObj
def addP (k p v : Int) (l : List Rng) : List Rng :=
  match l.getLast? with
  | some r => if r.blk = k then l.dropLast ++ [⟨r.val, r.blk, p, r.til⟩] else l ++ [⟨v, k, p, p⟩]
  | none => [⟨v, k, p, p⟩]
def rxAdd (k p : Int) (X : Rx) (v : Int) : Rx :=
  let l := X.parts[v.toNat]?.getD []
  let id := X.ids[v.toNat]?.getD 0
  let l' := addP k p v l
  let ps := X.parts.set v.toNat l'
  match l.getLast? with
  | some r =>
    if r.blk = k then ⟨ps, X.ids, X.O.set id (.cells (rngC l'))⟩
    else ⟨ps, X.ids.set v.toNat X.O.length, (X.O.set id .gone ++ [AObj.cells (rngC l')]).set 5 (.cells (partC ps (X.ids.set v.toNat X.O.length)))⟩
  | none => ⟨ps, X.ids.set v.toNat X.O.length, (X.O ++ [AObj.cells (rngC l')]).set 5 (.cells (partC ps (X.ids.set v.toNat X.O.length)))⟩
structure RxOK (many : Nat) (P : List Nat) (X : Rx) : Prop where
  len1 : X.parts.length = many
  len2 : X.ids.length = many
  up : ∀ o ∈ X.O, o.upto X.O.length
  arr : X.O[5]? = some (.cells (partC X.parts X.ids))
  var : X.O[6]? = some (.cells [.ms 5 0 many many])
  own : ∀ (v : Nat) l id, X.parts[v]? = some l → X.ids[v]? = some id → l ≠ [] → X.O[id]? = some (.cells (rngC l)) ∧ 7 ≤ id ∧ id ∉ P
  apart : ∀ (v w : Nat) l m id, X.parts[v]? = some l → X.parts[w]? = some m → l ≠ [] → m ≠ [] → X.ids[v]? = some id → X.ids[w]? = some id → v = w
  prot : ∀ j ∈ P, 7 ≤ j ∧ j < X.O.length
def rxAll (k p : Int) (X : Rx) (l : List Int) : Rx := l.foldl (rxAdd k p) X
def RxB (c : Nat) (k : Int) (X : Rx) : Prop := ∀ l ∈ X.parts, l.length ≤ c ∨ (l.length ≤ c + 1 ∧ ∃ r, l.getLast? = some r ∧ r.blk = k)
def tabN : Tab := fun t => if t = 38 then some ⟨1, 24, [.v (.slice none 0 0)], .slice 4⟩ else tab t
def lvO (f : Func) (S : Lv) : List AObj := [.gone, .gone, .cells (S.behind.map eH), .cells (lifeC f (manyM f) 2 f.blocks.length), .cells (S.first.map eF)]
def liveR (f : Func) : AVal := if checkFuncM f = 0 then .tup [.lst 1 (((liveM f).first.map (listM 0)).map eIs) .sh, .lst 1 (((liveM f).behind.map (listM 0)).map eIs) .sh, aI 0] else .tup [.lst 1 [] .sh, .lst 1 [] .sh, aI (checkFuncM f)]
def Rx.put (X : Rx) (L : Nat) (o : AObj) : Rx := ⟨X.parts, X.ids, X.O.set L o⟩
theorem backRun_ind {X : Type} {step : X → Nat → List Bool → X} {l : List Ins} {J : Nat → X → List Bool → Prop} (hs : ∀ n x s i, l[n]? = some i → J (n + 1) x s → J n (step x (n + 1) s) (backI i s)) : ∀ n x s, n ≤ l.length → J n x s → ∃ x' s', J 0 x' s' ∧ backRun step l n x s = step x' 0 s'
  | 0, x, s, _, h => ⟨x, s, h, rfl⟩
  | n + 1, x, s, hn, h => by
    obtain ⟨i, hi⟩ : ∃ i, l[n]? = some i := ⟨l[n], List.getElem?_eq_getElem _⟩
    obtain ⟨x', s', h1, h2⟩ := backRun_ind hs n _ _ (by omega) (hs n x s i hi h)
    refine ⟨x', s', h1, ?_⟩
    simp only [backRun, hi]
    exact h2
def pAdd (k p : Int) (ps : List (List Rng)) (v : Int) : List (List Rng) := ps.set v.toNat (addP k p v (ps[v.toNat]?.getD []))
def Wd (k n : Int) (ps : List (List Rng)) : Prop := ∀ (v : Nat) l r, ps[v]? = some l → r ∈ l → r.val = v ∧ r.fr ≤ r.til ∧ (r.blk < k ∨ (r.blk = k ∧ n ≤ r.fr))
def Cov (k p v : Int) (ps : List (List Rng)) : Prop := ∃ l r, ps[v.toNat]? = some l ∧ r ∈ l ∧ r.val = v ∧ r.blk = k ∧ r.fr ≤ p ∧ p ≤ r.til
def rxStep (k : Nat) (x : Rx) (n : Nat) (s : List Bool) : Rx := rxAll k n x (listM 0 s)
def rxBlock (f : Func) (k : Nat) (X : Rx) (s0 : List Bool) : Rx :=
  (backRun (rxStep k) (blkOf f k).ins (blkOf f k).ins.length ⟨X.parts, X.ids, X.O ++ [.cells [aI k], .cells []]⟩ s0).put (X.O.length + 1) .gone
def rxFrom (f : Func) : List (List Bool) → Nat → Rx → Rx
  | [], _, X => X
  | s :: r, k, X => rxFrom f r (k + 1) (rxBlock f k X s)
structure Done (f : Func) (many k : Nat) (ps : List (List Rng)) : Prop where
  len : ps.length = many
  wd : ∀ n, Wd k n ps
  cov : ∀ (k' : Nat), k' < k → ∀ (m : Nat) i, (blkOf f k').ins[m]? = some i → ∀ v ∈ i.args, Cov k' m v ps
def setAt (f : Func) (S : List (List Bool)) (k n : Nat) : List Bool := backM ((blkOf f k).ins.drop n) (S[k]?.getD [])
theorem setAt_step {f : Func} {S : List (List Bool)} {k n : Nat} {i : Ins} (h : (blkOf f k).ins[n]? = some i) : setAt f S k n = backI i (setAt f S k (n + 1)) := by
  unfold setAt
  rw [drop_at h]
  rfl
def atP (k n : Int) (r : Rng) : Bool := decide (r.blk = k) && (decide (r.fr ≤ n) && decide (n ≤ r.til))
def Ups (ps : List (List Rng)) : Prop := ∀ (v : Nat) l, ps[v]? = some l → (l.map Rng.blk).Pairwise (· < ·)
def Ends (f : Func) (S : List (List Bool)) (ps : List (List Rng)) : Prop := ∀ (v : Nat) l r, ps[v]? = some l → r ∈ l → ∃ k n1 n2 : Nat, r.blk = k ∧ r.fr = n1 ∧ r.til = n2 ∧ k < f.blocks.length ∧ n1 ≤ (blkOf f k).ins.length ∧ n2 ≤ (blkOf f k).ins.length ∧ Hs (setAt f S k n1) v ∧ Hs (setAt f S k n2) v
structure All (f : Func) (S : List (List Bool)) (many k : Nat) (ps : List (List Rng)) : Prop where
  len : ps.length = many
  wd : ∀ n, Wd k n ps
  ups : Ups ps
  ends : Ends f S ps
  cov : ∀ k', k' < k → ∀ n, n ≤ (blkOf f k').ins.length → ∀ v : Nat, Hs (setAt f S k' n) v → Cov k' n v ps
def prStep (x : Nat) (_ : Nat) (s : List Bool) : Nat := max x (listM 0 s).length
def prFrom (f : Func) : List (List Bool) → Nat → Nat → Nat
  | [], _, x => x
  | s :: r, k, x => prFrom f r (k + 1) (backRun prStep (blkOf f k).ins (blkOf f k).ins.length x s)
def twoIn (v w : Nat) (s : List Bool) : Bool := s[v]?.getD false && s[w]?.getD false
def inStep (v w : Nat) (x : Bool) (_ : Nat) (s : List Bool) : Bool := x || twoIn v w s
def inFrom (f : Func) (v w : Nat) : List (List Bool) → Nat → Bool → Bool
  | [], _, x => x
  | s :: r, k, x => inFrom f v w r (k + 1) (backRun (inStep v w) (blkOf f k).ins (blkOf f k).ins.length x s)
theorem inBlock {f : Func} {S : List (List Bool)} {k v w : Nat} {s0 : List Bool} (hs0 : S[k]? = some s0) (x0 : Bool) :
    backRun (inStep v w) (blkOf f k).ins (blkOf f k).ins.length x0 s0 = true ↔ x0 = true ∨ ∃ n, n ≤ (blkOf f k).ins.length ∧ twoIn v w (setAt f S k n) = true := by
  obtain ⟨x', s', ⟨j1, j2, j3⟩, he⟩ := backRun_ind (step := inStep v w) (l := (blkOf f k).ins) (J := fun n x s => s = setAt f S k n ∧ n ≤ (blkOf f k).ins.length ∧ (x = true ↔ x0 = true ∨ ∃ m, n < m ∧ m ≤ (blkOf f k).ins.length ∧ twoIn v w (setAt f S k m) = true)) (fun n x s i hi ⟨j1, j2, j3⟩ => by
      subst j1
      refine ⟨(setAt_step hi).symm, by omega, ?_⟩
      rw [inStep, Bool.or_eq_true, j3]
      constructor
      · rintro ((q | ⟨m, q1, q2, q3⟩) | q)
        · exact .inl q
        · exact .inr ⟨m, by omega, q2, q3⟩
        exact .inr ⟨n + 1, by omega, j2, q⟩
      rintro (q | ⟨m, q1, q2, q3⟩)
      · exact .inl (.inl q)
      by_cases e : m = n + 1
      · subst e
        exact .inr q3
      exact .inl (.inr ⟨m, by omega, q2, q3⟩))
    (blkOf f k).ins.length x0 s0 (Nat.le_refl _) ⟨by simp [setAt, hs0, backM], Nat.le_refl _, ⟨fun q => .inl q, fun q => by
      rcases q with q | ⟨m, q1, q2, _⟩
      · exact q
      omega⟩⟩
  subst j1
  rw [he, inStep, Bool.or_eq_true, j3]
  constructor
  · rintro ((q | ⟨m, q1, q2, q3⟩) | q)
    · exact .inl q
    · exact .inr ⟨m, q2, q3⟩
    exact .inr ⟨0, by omega, q⟩
  rintro (q | ⟨m, q2, q3⟩)
  · exact .inl (.inl q)
  by_cases e : m = 0
  · subst e
    exact .inr q3
  exact .inl (.inr ⟨m, by omega, q2, q3⟩)
def highM (out : List Rng) : Nat := out.foldl (fun h x => max h (out.countP (atP x.blk x.fr))) 0
def togP (v w : Int) (x y : Rng) : Bool := decide (x.val = v) && (decide (y.val = w) && (decide (x.blk = y.blk) && (decide (x.fr ≤ y.til) && decide (y.fr ≤ x.til))))
def bothM (out : List Rng) (v w : Int) : Bool := out.any fun x => out.any (togP v w x)
structure LiveW (f : Func) (S : List (List Bool)) (many : Nat) (ps : List (List Rng)) : Prop where
  all : All f S many f.blocks.length ps
  seen : ∀ k, k < f.blocks.length → seenF f k = true
  pos : ∀ b ∈ f.blocks, ∀ i ∈ b.ins, 0 ≤ i.to ∧ ∀ a ∈ i.args, 0 ≤ a
  beh : ∀ k, k < f.blocks.length → ∃ s, S[k]? = some s ∧ s.length = many
def lvX (f : Func) (S : Lv) (x : AVal) (s : List Bool) : List AObj := lvO f S ++ [.cells [x]] ++ [.cells (s.map eB)]
def pressR (f : Func) : AVal := if checkFuncM f = 0 then .tup [aI (prFrom f (liveM f).behind 0 0 : Nat), aI 0] else .tup [aI 0, aI (checkFuncM f)]
def idxP {α : Type} (p : α → Bool) : List α → Nat → Int
 | [], _ => -1
 | a :: r, n => if p a = true then n else idxP p r (n + 1)
def toIs (v : Int) (i : Ins) : Bool := decide (i.to = v)
def hasDef (v : Int) (b : Block) : Bool := hasI b.params v || b.ins.any (toIs v)
def definedM (f : Func) (v : Int) : Bool := f.blocks.any (hasDef v)
def interR (f : Func) (v w : Int) : AVal :=
 if checkFuncM f = 0 then
  if definedM f v = false ∨ definedM f w = false then .tup [.v (.bool false), aI 12]
  else if v = w then .tup [.v (.bool false), aI 1]
  else .tup [.v (.bool (inFrom f v.toNat w.toNat (liveM f).behind 0 false)), aI 0]
 else .tup [.v (.bool false), aI (checkFuncM f)]
theorem order_own (f : Func) (hfit : f.fit) (hc : checkFuncM f = 0) : ∃ (O : List AObj) (oid : Nat), O[oid]? = some (.cells ((orderM f).map aI)) ∧ (∀ o ∈ O, o.upto O.length) ∧
  ECall Try.prog 56 [] [f.enc] (fun r O' => r = .tup [.os oid (orderM f).length 1, aI 0] ∧ O' = O) := by
 have hck := checkFunc_spec f hfit
 rw [hc] at hck
 have hg := (checkFunc_ok hfit hc).gr
 have hsr := search_spec f hg
 obtain ⟨f1, f2, _⟩ := searchM_few hg
 have hXS : (soRun f 100000 (soStart f)).S = srRun f 100000 (srStart f) := soRun_S f 100000 (soStart f)
 have hX := soRun_ok (f := f) 100000 _ (soStart_ok f)
 obtain ⟨X, hXe⟩ : ∃ X, X = soRun f 100000 (soStart f) := ⟨_, rfl⟩
 rw [← hXe] at hsr hX hXS
 have hout : X.S.out = searchM f := by rw [hXS]; rfl
 unfold orderM
 obtain ⟨l, hl⟩ : ∃ l, l = searchM f := ⟨_, rfl⟩
 rw [← hl] at f1 f2 hout ⊢
 have h1 := hX.out
 rw [hout, outV, if_neg f1] at h1
 obtain ⟨h2, h3, h4⟩ := hX.outs (by rw [hout]; exact f1)
 rw [hout] at h2
 have hup := hX.up
 obtain ⟨S, sid, oid, O⟩ := X
 simp only at h1 h2 h3 h4 hup hsr
 have hol := lt_of_getElem? h2
 have hrev := reverse_spec hup h2 (by omega)
 have h1' : (O.set oid (.cells (l.reverse.map aI)))[1]? = some (.cells [.os oid l.length 1]) := at_set_ne h1 (by omega)
 have h2' : (O.set oid (.cells (l.reverse.map aI)))[oid]? = some (.cells (l.reverse.map aI)) := at_set h2
 have hup2 : ∀ o ∈ O.set oid (.cells (l.reverse.map aI)), o.upto O.length := uptoO_set hup (aI_upto _ _)
 have hll : (O.set oid (.cells (l.reverse.map aI))).length = O.length := by simp
 have htk : (O.set oid (.cells (l.reverse.map aI))).take O.length = O.set oid (.cells (l.reverse.map aI)) := take_set_len
 refine ⟨O.set oid (.cells (l.reverse.map aI)), oid, h2', by rw [hll]; exact hup2, ?_⟩
 rw [List.length_reverse]
 generalize O.set oid (.cells (l.reverse.map aI)) = O2 at *
 have hkk : ([] : List AObj).length ≤ O.length := Nat.zero_le _
 refine ecall_of hT true (O.length) Try.func56 rfl (by kernel_rfl) (by simp [Try.ntmps56]) (by assumption) ?_
 show AWP Try.prog _ _ _ ⟨17, _, _⟩
 dsimp only [Tmp, TypeId, slotsOf]
 refine zh1 (za0 ?_)
 refine awp_freeze1 1 0 (.ip none [aI f.name, eBlocks f.blocks]) rfl (by simp [AObj.isSpare]) trivial rfl ?_ ?_
 rotate_left
 simp -dsimp only [simprocAttr, ↓vpre, zp]
 ·refine zh2 ?_
  refine zi hck ?_
  refine za0 ?_
  refine zh1 (za0 ?_)
  refine zu0 rfl ?_
  refine zb0 ?_
  refine zh1 (za0 ?_)
  refine zh1 ?_
  refine .inr (.inl ⟨_, _, hsr, .inl (later_intro (zj ?_))⟩)
  refine za0 ?_
  refine zg1 ?_
  simp -dsimp only [simprocAttr, ↓vpre, zp, h1]
  refine .inr (.inl ⟨_, _, hrev, .inl (later_intro (zj ?_))⟩)
  refine za0 ?_
  refine zg1 ?_
  simp -dsimp only [simprocAttr, ↓vpre, zp, h1']
  refine za0 ?_
  refine awp_ret ?_
  simp -dsimp only [simprocAttr, ↓vpre, zp, zr, Try.results56, htk, hll]
  exact ⟨hup2, ⟨hol, trivial, trivial⟩, rfl⟩
 exact FSub.mp rfl rfl
def rchR (f : Func) : AVal := if checkFuncM f = 0 then .tup [eIs (rchS f), aI 0] else .tup [eIs [], aI (checkFuncM f)]
theorem reachable_spec (f : Func) (hfit : f.fit) : PCall Try.prog 24 [f.enc] (rchR f) := by
 unfold rchR
 by_cases hc : checkFuncM f = 0
 ·rw [if_pos hc]
  obtain ⟨O, oid, h1, h2, hor⟩ := order_own f hfit hc
  have hfew := (ord_w (checkFunc_ok hfit hc).gr).few
  have hso := sort_spec (O := O) (id := oid) (zs := orderM f) h1 (by omega)
  have h3 : (O.set oid (.cells ((sortI (orderM f)).map aI)))[oid]? = some (.cells ((sortI (orderM f)).map aI)) := at_set h1
  have hsl := (sortI_perm (orderM f)).length_eq
  unfold rchS
  generalize O.set oid (.cells ((sortI (orderM f)).map aI)) = O2 at *
  obtain ⟨l, hl⟩ : ∃ l, l = sortI (orderM f) := ⟨_, rfl⟩
  rw [← hl] at h3 hsl ⊢
  rw [← hsl] at hso hor
  refine zf true 0 Try.func24 Try.ntmps24 ?_
  dsimp only [Tmp, TypeId, slotsOf]
  refine zh1 (za0 ?_)
  refine awp_freeze1 1 0 (.ip none [aI f.name, eBlocks f.blocks]) rfl (by simp [AObj.isSpare]) trivial rfl ?_ ?_
  rotate_left
  simp -dsimp only [simprocAttr, ↓vpre, zp]
  ·refine awp_trunc' 0 [(1, .ip none [aI f.name, eBlocks f.blocks])] (by omega) (by omega) [] ?_ ?_ ?_ ?_ ?_
   ·rfl
   ·simp [AObj.upto]
   ·simp [Says, St.get, putS, dropS, Go.Av.look, Sub.refl]
   ·simp [AObj.upto, uptoL, AVal.upto, aI_upto, Func.map_upto, Block.map_upto, Edge.map_upto, Ins.map_upto]
   refine zh1 ?_
   refine .inr (.inl ⟨_, _, hor, .inl (later_intro (zj ?_))⟩)
   refine za0 ?_
   refine zh1 ?_
   refine .inr (.inl ⟨_, _, hso, .inl (later_intro (zj ?_))⟩)
   refine za0 ?_
   refine zh1 (za0 ?_)
   refine awp_freeze1 2 oid (o := .cells (l.map aI)) (eIs l) h3 (by simp [AObj.isSpare]) trivial rfl (FSub.os (cs := l.map aI) h3 ?_ ?_ ?_) ?_
   ·intro x hx
    obtain ⟨c, _, rfl⟩ := List.mem_map.1 hx
    rfl
   ·simp
   ·rw [List.drop_zero, List.take_of_length_le (by simp)]
    exact aI_cellsAll _
   simp -dsimp only [simprocAttr, ↓vpre, zp]
   refine awp_ret ?_
   simp -dsimp only [simprocAttr, ↓vpre, zp, zr, Try.results24]
   exact ⟨⟨aI_upto _ _, trivial⟩, trivial, trivial⟩
  exact FSub.mp rfl rfl
 rw [if_neg hc]
 have hor := order_spec f hfit
 unfold orderR at hor
 rw [if_neg hc] at hor
 generalize checkFuncM f = e at *
 refine zf true 0 Try.func24 Try.ntmps24 ?_
 dsimp only [Tmp, TypeId, slotsOf]
 refine zh1 (za0 ?_)
 refine awp_freeze1 1 0 (.ip none [aI f.name, eBlocks f.blocks]) rfl (by simp [AObj.isSpare]) trivial rfl ?_ ?_
 rotate_left
 simp -dsimp only [simprocAttr, ↓vpre, zp]
 ·refine zh1 ?_
  refine zi hor ?_
  refine za0 ?_
  refine zh1 ?_
  refine .inr (.inl ⟨_, _, (sort_nil _), .inl (later_intro (zj ?_))⟩)
  refine za0 ?_
  refine zh1 (za0 ?_)
  refine awp_ret ?_
  simp -dsimp only [simprocAttr, ↓vpre, zp, zr, Try.results24]
  simp [uptoL, AVal.upto]
 exact FSub.mp rfl rfl
def wthM (n m : Int) : Int := if n.tmod m < 0 then n.tmod m + m else n.tmod m
theorem wth_range (n : Int) {m : Int} (h : 0 < m) : (-m < n.tmod m ∧ n.tmod m < m) ∧ 0 ≤ wthM n m ∧ wthM n m < m := by
 have h1 := Int.tmod_lt_of_pos n h
 have h2 : -m < n.tmod m := by
  by_cases hn : 0 ≤ n
  ·have := Int.tmod_nonneg m hn
   omega
  have h3 := Int.tmod_lt_of_pos (-n) h
  rw [Int.neg_tmod] at h3
  omega
 unfold wthM
 refine ⟨⟨h2, h1⟩, ?_, ?_⟩ <;> split <;> omega
theorem wth_spec (n m : Int) (h : 0 < m) (hm2 : m ≤ 2 ^ 47) : PCall Try.prog 16 [aI n, aI m] (aI (wthM n m)) := by
 have hr := (wth_range n h).1
 have h0 : (m = 0) = False := eq_false (by omega)
 obtain ⟨r, hre⟩ : ∃ r, r = n.tmod m := ⟨_, rfl⟩
 unfold wthM
 rw [← hre] at hr ⊢
 by_cases hn : r < 0
 ·have hd : decide (r < 0) = true := decide_eq_true hn
  rw [if_pos hn]
  refine zf true 0 Try.func16 Try.ntmps16 ?_
  dsimp only [Tmp, TypeId, slotsOf]
  refine zh1 (za0 ?_)
  refine zg2 ?_
  simp -dsimp only [simprocAttr, ↓vpre, zp, h0, if_false, ← hre]
  repeat (refine ⟨by omega, ?_⟩)
  refine za0 ?_
  refine zg1 ?_
  simp -dsimp only [simprocAttr, ↓vpre, zp, hd]
  refine za0 ?_
  refine zw0 rfl ?_
  refine zh0 ?_
  repeat (refine ⟨by omega, ?_⟩)
  refine za0 ?_
  refine zh1 (za0 ?_)
  refine awp_ret ?_
  simp -dsimp only [simprocAttr, ↓vpre, zp, zr, Try.results16]
 have hd : decide (r < 0) = false := decide_eq_false hn
 rw [if_neg hn]
 refine zf true 0 Try.func16 Try.ntmps16 ?_
 dsimp only [Tmp, TypeId, slotsOf]
 refine zh1 (za0 ?_)
 refine zg2 ?_
 simp -dsimp only [simprocAttr, ↓vpre, zp, h0, if_false, ← hre]
 repeat (refine ⟨by omega, ?_⟩)
 refine za0 ?_
 refine zg1 ?_
 simp -dsimp only [simprocAttr, ↓vpre, zp, hd]
 refine za0 ?_
 refine zu0 rfl ?_
 refine zb0 ?_
 refine zh1 (za0 ?_)
 refine awp_ret ?_
 simp -dsimp only [simprocAttr, ↓vpre, zp, zr, Try.results16]
def outB (f : Func) (k : Int) : Bool := decide (k < 0) || decide ((f.blocks.length : Int) ≤ k)
theorem isBlock1_spec (f : Func) (k : Int) : PCall Try.prog 69 [aI k, .ip none [aI f.name, eBlocks f.blocks]] (.v (.bool (outB f k))) := by
 unfold outB
 cases h1 : decide (k < 0) with
 | true =>
  refine zf true 0 Try.func69 Try.ntmps69 ?_
  dsimp only [Tmp, TypeId, slotsOf]
  refine zh1 (za0 ?_)
  refine zg1 ?_
  simp -dsimp only [simprocAttr, ↓vpre, zp, h1]
  refine za0 ?_
  refine awp_ret ?_
  simp -dsimp only [simprocAttr, ↓vpre, zp, zr, Try.results69]
  rfl
 | false =>
  refine zf true 0 Try.func69 Try.ntmps69 ?_
  dsimp only [Tmp, TypeId, slotsOf]
  refine zh1 (za0 ?_)
  refine zg1 ?_
  simp -dsimp only [simprocAttr, ↓vpre, zp, h1]
  refine za0 ?_
  refine awp_ret ?_
  simp -dsimp only [simprocAttr, ↓vpre, zp, zr, Try.results69]
  rfl
theorem indexFunc_none (f : Func) (l : List Int) (hl : ∀ v ∈ l, outB f v = false) : PCall Try.prog 98 [eIs l, .fn (.func 69) [] [.ip none [aI f.name, eBlocks f.blocks]]] (aI (-1)) := by
 refine zf true 0 Try.func98 Try.ntmps98 ?_
 dsimp only [Tmp, TypeId, slotsOf]
 refine zh1 (za0 ?_)
 refine awp_len 0 rfl (fun hll => ?_)
 simp only [List.length_map] at hll
 refine zh2 (za0 ?_)
 refine awp_block (awp_loop (ι := {k : Nat // k ≤ l.length}) (fun k => ⟨19, [(0, eIs l), (1, .fn (.func 69) [] [.ip none [aI f.name, eBlocks f.blocks]]), (7, aI l.length), (8, aI k.1)], []⟩) (fun k => l.length - k.1) ⟨0, by omega⟩ ?_ ?_)
 ·refine zq rfl ?_ ?_
  simp -dsimp only [simprocAttr, ↓vpre, zp, zc]
  rfl
 rintro ⟨k, hk⟩
 refine zh1 (za0 ?_)
 apply zk1 rfl <;> intro h
 ·refine zb0 ?_
  have hlt : k < l.length := by simpa using h
  obtain ⟨v, hv⟩ : ∃ v, l[k]? = some v := ⟨l[k], by simp [hlt]⟩
  have hb := isBlock1_spec f v
  rw [hl v (List.mem_of_getElem? hv)] at hb
  refine awp_seq (awp_block ?_)
  refine zh1 (za0 ?_)
  refine zg1 ?_
  simp -dsimp only [simprocAttr, ↓vpre, zp, hv]
  repeat (refine ⟨by omega, ?_⟩)
  refine zi hb ?_
  refine za0 ?_
  refine zu0 rfl ?_
  refine zb1 ?_
  refine zh0 ?_
  repeat (refine ⟨by omega, ?_⟩)
  refine zl0 ?_
  refine ⟨⟨k + 1, hlt⟩, by simp; omega, ?_⟩
  refine zq rfl ?_ ?_
  simp -dsimp only [simprocAttr, ↓vpre, zp, zc]
  ·exact Sub.int (by simp)
  rfl
 refine awp_exit ?_
 simp -dsimp only [vend, ne_eq, Nat.reduceEqDiff, reduceCtorEq]
 refine zh1 (za0 ?_)
 refine awp_ret ?_
 simp -dsimp only [simprocAttr, ↓vpre, zp, zr, Try.results98]
theorem isBlock_spec (f : Func) (l : List Int) (hl : ∀ v ∈ l, outB f v = false) : PCall Try.prog 41 [f.enc, eIs l] (.v (.bool true)) := by
 have hi := indexFunc_none f l hl
 have hc : PCall Try.prog 68 [eIs l, .fn (.func 69) [] [.ip none [aI f.name, eBlocks f.blocks]]] (.v (.bool false)) := by
  refine zf true 0 Try.func68 Try.ntmps68 ?_
  dsimp only [Tmp, TypeId, slotsOf]
  refine zh1 (za0 ?_)
  refine zh1 ?_
  refine zi hi ?_
  refine za0 ?_
  refine awp_ret ?_
  simp -dsimp only [simprocAttr, ↓vpre, zp, zr, Try.results68]
 refine zf true 0 Try.func41 Try.ntmps41 ?_
 dsimp only [Tmp, TypeId, slotsOf]
 refine zh1 (za0 ?_)
 refine awp_freeze1 2 0 (.ip none [aI f.name, eBlocks f.blocks]) rfl (by simp [AObj.isSpare]) trivial rfl ?_ ?_
 rotate_left
 simp -dsimp only [simprocAttr, ↓vpre, zp]
 ·refine zh1 ?_
  refine zi hc ?_
  refine za0 ?_
  refine awp_ret ?_
  simp -dsimp only [simprocAttr, ↓vpre, zp, zr, Try.results41]
 exact FSub.mp rfl rfl
def closestR (f : Func) (a b : Int) : AVal := if plF f a < 0 ∨ plF f b < 0 then .tup [aI 0, aI 12] else .tup [aI (meetM (plL f) (treeM f) 300 a b), aI 0]
def eBk (p : Int × Int) : AVal := .agg [aI p.1, aI p.2]
def backE (f : Func) (k : Int) (l : List Edge) : List (Int × Int) := (l.filter fun x => ancB (treeM f) x.block k).map fun x => (k, x.block)
def backR (f : Func) : AVal := if checkFuncM f = 0 then .tup [.lst 2 ((backsM f).map eBk) .sh, aI 0] else .tup [.lst 2 [] .sh, aI (checkFuncM f)]

def findR (f : Func) : AVal := if checkFuncM f = 0 then .tup [.lst 3 ((loopsM f).map eLoop) .sh, aI 0] else .tup [.lst 3 [] .sh, aI (checkFuncM f)]
structure Fs where
 h : Nat
 acc : List LoopM
 oid : Nat
 O : List AObj
structure Fw where
 z : Nat
 w : List Int
 wid : Nat
 O : List AObj
structure Fz where
 S : Wl
 wid : Nat
 aid : Nat
 O : List AObj
 junk : List AVal
theorem outV_upto (wid : Nat) (w : List Int) {O : List AObj} (h : w ≠ [] → O[wid]? = some (.cells (w.map aI))) : (outV wid w).upto O.length := by
 by_cases q : w = []
 ·rw [show outV wid w = .lst 1 [] .ex from if_pos q]
  exact ⟨trivial, trivial⟩
 rw [show outV wid w = .os wid w.length 1 from if_neg q]
 exact lt_of_getElem? (h q)
theorem outV_snoc (n : Nat) (w : List Int) (x : Int) : outV n (w ++ [x]) = .os n (w.length + 1) 1 := by
 have : w ++ [x] ≠ [] := by simp
 rw [outV, if_neg this, List.length_append]
 rfl
def frontR (f : Func) : AVal := if checkFuncM f = 0 then .tup [.lst 1 ((frontM f).map eIs) .sh, aI 0] else .tup [.lst 1 [] .sh, aI (checkFuncM f)]
theorem dbuild_err (f : Func) (hfit : f.fit) (hc : checkFuncM f ≠ 0) : PCall Try.prog 40 [f.enc] (.tup [.agg [.lst 1 [] .sh, .lst 1 [] .sh], aI (checkFuncM f)]) := by
 have hor := order_spec f hfit
 unfold orderR at hor
 rw [if_neg hc] at hor
 obtain ⟨e, he⟩ : ∃ e, e = checkFuncM f := ⟨_, rfl⟩
 rw [← he] at hc hor ⊢
 have hde : decide (e = 0) = false := decide_eq_false hc
 refine zf true 0 Try.func40 Try.ntmps40 ?_
 dsimp only [Tmp, TypeId, slotsOf]
 refine zh1 (za0 ?_)
 refine awp_freeze1 1 0 (.ip none [aI f.name, eBlocks f.blocks]) rfl (by simp [AObj.isSpare]) trivial rfl ?_ ?_
 rotate_left
 simp -dsimp only [simprocAttr, ↓vpre, zp]
 ·refine zh1 ?_
  refine zi hor ?_
  refine za0 ?_
  refine zg2 ?_
  simp -dsimp only [simprocAttr, ↓vpre, zp, hde]
  refine za0 ?_
  refine zw0 rfl ?_
  refine zh1 (za0 ?_)
  refine awp_ret ?_
  simp -dsimp only [simprocAttr, ↓vpre, zp, zr, Try.results40]
  simp [uptoL, AVal.upto]
 exact FSub.mp rfl rfl
structure Fx where
 z : Nat
 ids : List Nat
 ls : List (List Int)
 O : List AObj
structure Fc where
 c : Int
 m : Nat
 ids : List Nat
 ls : List (List Int)
 O : List AObj
theorem frC_nils (N : Nat) : frC (List.replicate N 0) (List.replicate N []) = List.replicate N (.lst 1 [] .ex) := by
 unfold frC
 rw [List.zipWith_replicate, Nat.min_self]
 rfl
theorem front_start (f : Func) (N : Nat) (r : List AVal) (hr : uptoL 6 r) : FrO f N (List.replicate N 0) (List.replicate N []) [.gone, .gone, .cells r, .cells ((treeM f).map aI), .cells ((plL f).map aI), .cells r, .cells [.ms 3 0 N N, .ms 4 0 N N], .cells (List.replicate N (.lst 1 [] .ex))] where
 up := fun o ho => by
  simp only [List.mem_cons, List.not_mem_nil, or_false] at ho
  have hr8 : uptoL 8 r := uptoL_mono (by omega) r hr
  rcases ho with rfl | rfl | rfl | rfl | rfl | rfl | rfl | rfl
  ·trivial
  ·trivial
  ·exact hr8
  ·exact aI_upto _ _
  ·exact aI_upto _ _
  ·exact hr8
  ·exact ⟨show 3 < 8 by omega, show 4 < 8 by omega, trivial⟩
  show uptoL _ _
  rw [uptoL_iff]
  intro c hc
  rw [(List.mem_replicate.1 hc).2]
  exact ⟨trivial, trivial⟩
 tree := rfl
 place := rfl
 gr := rfl
 arr := by rw [frC_nils]; rfl
 li := List.length_replicate
 ll := List.length_replicate
 own := fun j id l _ h2 h3 => by
  rw [List.getElem?_replicate] at h2
  split at h2
  ·simp only [Option.some.injEq] at h2
   exact absurd h2.symm h3
  cases h2
 inj := fun i j id h1 _ h3 _ => by
  have hi := lt_of_getElem? h1
  rw [List.length_replicate] at hi
  rw [List.getElem?_replicate, if_pos hi] at h3
  exact absurd rfl h3
 nd := fun l hl => by
  rw [(List.mem_replicate.1 hl).2]
  exact ⟨List.nodup_nil, fun x hx => by cases hx⟩
theorem nodup_snoc {l : List Int} {x : Int} (h : l.Nodup) (hx : x ∉ l) : (l ++ [x]).Nodup := by
 rw [List.nodup_append]
 refine ⟨h, by simp, fun a ha b hb e => ?_⟩
 simp only [List.mem_singleton] at hb
 exact hx (hb ▸ e ▸ ha)
theorem frontier_spec (f : Func) (hfit : f.fit) : PCall Try.prog 30 [f.enc] (frontR f) := by
 unfold frontR
 by_cases hc : checkFuncM f = 0
 ·rw [if_pos hc]
  have hb := dbuild_spec f hfit hc
  unfold dmO at hb
  have hg := (checkFunc_ok hfit hc).gr
  have hw := ord_w hg
  have ht := tree_w hg
  have hn : f.blocks.length ≤ 128 := hg.few
  have hTl := ht.tr.len
  have hPl : (plL f).length = f.blocks.length := by simp [plL]
  obtain ⟨N, hN⟩ : ∃ N, N = f.blocks.length := ⟨_, rfl⟩
  obtain ⟨L0, hL0⟩ : ∃ L0, L0 = frL f 0 f.blocks (List.replicate N []) := ⟨_, rfl⟩
  have hfm : frontM f = L0.map sortI := by
   unfold frontM
   rw [hL0, hN]
  rw [hfm]
  rw [← hN] at hb hn hTl hPl
  have hF0 := front_start f N [.ms 3 0 N N, .ms 4 0 N N] ⟨show 3 < 6 by omega, show 4 < 6 by omega, trivial⟩
  refine zf true 0 Try.func30 Try.ntmps30 ?_
  dsimp only [Tmp, TypeId, slotsOf]
  refine zh1 (za0 ?_)
  refine awp_freeze1 1 0 (.ip none [aI f.name, eBlocks f.blocks]) rfl (by simp [AObj.isSpare]) trivial rfl ?_ ?_
  rotate_left
  simp -dsimp only [simprocAttr, ↓vpre, zp]
  ·refine zh1 ?_
   refine .inr (.inl ⟨_, _, hb, .inl (later_intro (zj ?_))⟩)
   refine za0 ?_
   refine zh2 (za0 ?_)
   apply zk0 rfl <;> intro h
   ·cases h
   refine zb0 ?_
   refine zg1 ?_
   simp -dsimp only [simprocAttr, ↓vpre, zp, nils_flat, ← hN]
   repeat (refine ⟨by omega, ?_⟩)
   refine za0 ?_
   show AWP Try.prog _ _ _ ⟨_, _, [.gone, .gone, .cells [.ms 3 0 N N, .ms 4 0 N N], .cells ((treeM f).map aI), .cells ((plL f).map aI), .cells [.ms 3 0 N N, .ms 4 0 N N], .cells [.ms 3 0 N N, .ms 4 0 N N], .cells (List.replicate N (.lst 1 [] .ex))]⟩
   generalize [AObj.gone, .gone, .cells [.ms 3 0 N N, .ms 4 0 N N], .cells ((treeM f).map aI), .cells ((plL f).map aI), .cells [.ms 3 0 N N, .ms 4 0 N N], .cells [.ms 3 0 N N, .ms 4 0 N N], .cells (List.replicate N (.lst 1 [] .ex))] = O0 at *
   refine zg2 ?_
   simp -dsimp only [simprocAttr, ↓vpre, zp, ← hN]
   refine za0 ?_
   refine awp_block (awp_loop (ι := {X : Fx // X.z ≤ N ∧ FrO f N X.ids X.ls X.O ∧ L0 = frL f X.z (f.blocks.drop X.z) X.ls}) (fun X => ⟨97, [(1, .ip none [aI f.name, eBlocks f.blocks]), (4, .mp 6 0), (6, .ms 7 0 N N), (27, eBlocks f.blocks), (28, aI N), (29, aI X.1.z)], X.1.O⟩) (fun X => N - X.1.z) ⟨⟨0, _, _, O0⟩, by simp, hF0, by simpa using hL0⟩ ?_ ?_)
   ·refine zq rfl ?_ ?_
    simp -dsimp only [simprocAttr, ↓vpre, zp, zc]
    all_goals rfl
   rintro ⟨⟨k, ids, ls, O⟩, hk, hF, hke⟩
   simp only at hk hF hke
   refine zh1 (za0 ?_)
   apply zk1 rfl <;> intro h
   ·refine zb0 ?_
    have hlt : k < N := by simpa using h
    obtain ⟨b, hbk⟩ : ∃ b, f.blocks[k]? = some b := ⟨f.blocks[k]'(by omega), List.getElem?_eq_getElem _⟩
    have hbo : blkOf f (k : Int) = b := by simp [blkOf, hbk]
    have hto : toOf f (k : Int) = b.term.to := by unfold toOf; rw [hbo]
    rw [drop_at hbk] at hke
    simp only [frL] at hke
    obtain ⟨L1, hL1⟩ : ∃ L1, L1 = frB f k b ls := ⟨_, rfl⟩
    rw [← hL1] at hke
    unfold frB at hL1
    have hpk := plL_at (f := f) (k := (k : Int)) (by omega) (by omega)
    rw [Int.toNat_natCast] at hpk
    have hepk := aI_at hpk
    have hgr := hF.gr
    have hpc := hF.place
    have hto2 := hg.to b (List.mem_of_getElem? hbk)
    refine awp_seq (awp_block ?_)
    refine zg1 ?_
    simp -dsimp only [simprocAttr, ↓vpre, zp, hbk]
    refine za0 ?_
    refine awp_local 8 ([eIs b.params, eInss b.ins, aI b.term.kind, aI b.term.arg, aI b.term.n, eIs b.term.cases, eEdges b.term.to]) [(1, .ip none [aI f.name, eBlocks f.blocks]), (4, .mp 6 0), (6, .ms 7 0 N N), (27, eBlocks f.blocks), (28, aI N), (29, aI k), (7, aI k), (8, .ip none [eIs b.params, eInss b.ins, aI b.term.kind, aI b.term.arg, aI b.term.n, eIs b.term.cases, eEdges b.term.to])] (by simp [putS, dropS, Go.Av.look]) (by rfl) (by omega) (by simp [putS, dropS, Go.Av.look]) ?_ ?_ ?_
    ·exact hF.up
    ·have h6 := lt_of_getElem? hF.gr
     have h7 := lt_of_getElem? hF.arr
     simp [AVal.upto, uptoL, aI_upto, Edge.map_upto, Ins.map_upto, Block.map_upto, h6, h7]
    by_cases hpl : plF f (k : Int) < 0
    ·have hd : decide (plF f (k : Int) < 0) = true := decide_eq_true hpl
     rw [if_pos hpl] at hL1
     refine zg2 ?_
     simp -dsimp only [simprocAttr, ↓vpre, zp, hgr, hpc, hepk, hd, Int.toNat_natCast, Nat.mul_one]
     repeat (refine ⟨by omega, ?_⟩)
     refine za0 ?_
     refine zw0 rfl ?_
     refine awp_exit ?_
     simp -dsimp only [vend, ne_eq, Nat.reduceEqDiff, reduceCtorEq]
     refine zh0 ?_
     repeat (refine ⟨by omega, ?_⟩)
     refine zl0 ?_
     refine ⟨⟨⟨k + 1, ids, ls, O⟩, hlt, hF, by simp only; rw [hke, hL1]⟩, by simp; omega, ?_⟩
     refine zq rfl ?_ ?_
     simp -dsimp only [simprocAttr, ↓vpre, zp, zc]
     ·exact Sub.int (by simp)
     rfl
    have hd : decide (plF f (k : Int) < 0) = false := decide_eq_false hpl
    rw [if_neg hpl] at hL1
    refine zg2 ?_
    simp -dsimp only [simprocAttr, ↓vpre, zp, hgr, hpc, hepk, hd, Int.toNat_natCast, Nat.mul_one]
    repeat (refine ⟨by omega, ?_⟩)
    refine za0 ?_
    apply zk0 rfl <;> intro h
    ·cases h
    refine zb0 ?_
    refine zh1 (za0 ?_)
    refine awp_block (awp_loop (ι := {X : Fx // X.z ≤ b.term.to.length ∧ FrO f N X.ids X.ls X.O ∧ L1 = (b.term.to.drop X.z).foldl (frE f k) X.ls}) (fun X => ⟨97, [(1, .ip none [aI f.name, eBlocks f.blocks]), (4, .mp 6 0), (6, .ms 7 0 N N), (27, eBlocks f.blocks), (28, aI N), (29, aI k), (7, aI k), (42, eEdges b.term.to), (43, aI b.term.to.length), (44, aI X.1.z)], X.1.O⟩) (fun X => b.term.to.length - X.1.z) ⟨⟨0, ids, ls, O⟩, by simp, hF, by simpa using hL1⟩ ?_ ?_)
    ·refine zq rfl ?_ ?_
     simp -dsimp only [simprocAttr, ↓vpre, zp, zc]
     all_goals rfl
    rintro ⟨⟨z, ids, ls, O⟩, hz, hF, hze⟩
    simp only at hz hF hze
    refine zh1 (za0 ?_)
    apply zk1 rfl <;> intro h
    ·refine zb0 ?_
     have hlz : z < b.term.to.length := by simpa using h
     obtain ⟨e, he⟩ : ∃ e, b.term.to[z]? = some e := ⟨b.term.to[z], by simp [hlz]⟩
     rw [drop_at he, List.foldl_cons] at hze
     obtain ⟨L2, hL2⟩ : ∃ L2, L2 = frE f k ls e := ⟨_, rfl⟩
     rw [← hL2] at hze
     unfold frE at hL2
     obtain ⟨e1, e2, e3, e4, e5⟩ := edge_over hg (k := (k : Int)) (by omega) (e := e) (by rw [hto]; exact List.mem_of_getElem? he)
     obtain ⟨x, hx⟩ : ∃ x : Nat, e.block = (x : Int) := ⟨e.block.toNat, by omega⟩
     rw [hx] at e1 e2 e3 e4 e5 hL2
     have hxN : x < N := by omega
     have hTx : (treeM f)[x]? = some (atI (treeM f) x) := by
      unfold atI
      rw [Int.toNat_natCast, List.getElem?_eq_getElem (by omega)]
      rfl
     have heTx := aI_at hTx
     have hpl0 := (hw.low (k : Int)).2
     have hfw := hw.few
     have hkA := ht.asg' hw (show 0 ≤ plF f (k : Int) by omega)
     refine awp_seq (awp_block ?_)
     refine zg1 ?_
     simp -dsimp only [simprocAttr, ↓vpre, zp, he]
     refine za0 ?_
     refine awp_local 10 ([aI e.block, eIs e.args]) [(1, .ip none [aI f.name, eBlocks f.blocks]), (4, .mp 6 0), (6, .ms 7 0 N N), (27, eBlocks f.blocks), (28, aI N), (29, aI k), (7, aI k), (42, eEdges b.term.to), (43, aI b.term.to.length), (44, aI z), (10, .ip none [aI e.block, eIs e.args])] (by simp [putS, dropS, Go.Av.look]) (by rfl) (by omega) (by simp [putS, dropS, Go.Av.look]) ?_ ?_ ?_
     ·exact hF.up
     ·have h6 := lt_of_getElem? hF.gr
      have h7 := lt_of_getElem? hF.arr
      simp [AVal.upto, uptoL, aI_upto, Edge.map_upto, Ins.map_upto, Block.map_upto, h6, h7]
     rw [hx]
     refine zh1 (za0 ?_)
     refine awp_block (awp_loop (ι := {X : Fc // FrO f N X.ids X.ls X.O ∧ Asg (treeM f) X.c ∧ Anc (treeM f) (atI (treeM f) x) X.c ∧ plF f X.c < X.m ∧ L2 = (climbM (treeM f) x X.m X.c).foldl (frAdd x) X.ls}) (fun X => ⟨97, [(1, .ip none [aI f.name, eBlocks f.blocks]), (4, .mp 6 0), (6, .ms 7 0 N N), (27, eBlocks f.blocks), (28, aI N), (29, aI k), (7, aI k), (42, eEdges b.term.to), (43, aI b.term.to.length), (44, aI z), (10, .ip none [aI x, eIs e.args]), (11, aI X.1.c)], X.1.O⟩) (fun X => (plF f X.1.c).toNat) ⟨⟨k, 300, ids, ls, O⟩, hF, hkA, e5, by show plF f (k : Int) < ((300 : Nat) : Int); omega, hL2⟩ ?_ ?_)
     ·refine zq rfl ?_ ?_
      simp -dsimp only [simprocAttr, ↓vpre, zp, zc]
      all_goals rfl
     rintro ⟨⟨c, m, ids, ls, O⟩, hF, hca, hcd, hcm, hce⟩
     simp only at hF hca hcd hcm hce
     have hcp := ht.tr.asg hw hca
     have hcr := hw.range c hcp
     rw [← hN] at hcr
     have hgr := hF.gr
     have htr := hF.tree
     have g0 : decide (0 ≤ c) = true := decide_eq_true hcr.1
     obtain ⟨m, rfl⟩ : ∃ n, m = n + 1 := ⟨m - 1, by omega⟩
     simp only [climbM] at hce
     by_cases hcx : c = atI (treeM f) x
     ·have g1 : decide (c = atI (treeM f) x) = true := decide_eq_true hcx
      rw [if_neg (fun q => q.2 hcx), List.foldl_nil] at hce
      refine zg2 ?_
      simp -dsimp only [simprocAttr, ↓vpre, zp, g0, hgr, htr, heTx, g1, Int.toNat_natCast, Nat.mul_one]
      repeat (refine ⟨by omega, ?_⟩)
      refine za0 ?_
      refine zu0 rfl ?_
      refine awp_exit ?_
      simp -dsimp only [vend, ne_eq, Nat.reduceEqDiff, reduceCtorEq]
      refine zh0 ?_
      repeat (refine ⟨by omega, ?_⟩)
      refine zl0 ?_
      refine ⟨⟨⟨z + 1, ids, ls, O⟩, hlz, hF, by simp only; rw [hze, hce]⟩, by simp; omega, ?_⟩
      refine zq rfl ?_ ?_
      simp -dsimp only [simprocAttr, ↓vpre, zp, zc]
      ·exact Sub.int (by simp)
      rfl
     have g1 : decide (c = atI (treeM f) x) = false := decide_eq_false hcx
     rw [if_pos ⟨hcr.1, hcx⟩, List.foldl_cons] at hce
     have hup2 : 0 ≤ atI (treeM f) c ∧ Anc (treeM f) (atI (treeM f) x) (atI (treeM f) c) := by
      cases hcd with
      | refl => exact absurd rfl hcx
      | up h1 h2 => exact ⟨h1, h2⟩
     obtain ⟨u1, u2, u3⟩ := ht.tr.up c hup2.1
     obtain ⟨y, hy⟩ : ∃ y : Nat, c = (y : Int) := ⟨c.toNat, by omega⟩
     subst hy
     have hyN : y < N := by omega
     have hTy : (treeM f)[y]? = some (atI (treeM f) y) := by
      unfold atI
      rw [Int.toNat_natCast, List.getElem?_eq_getElem (by omega)]
      rfl
     have heTy := aI_at hTy
     obtain ⟨id, hid⟩ : ∃ id, ids[y]? = some id := ⟨ids[y]'(by rw [hF.li]; omega), List.getElem?_eq_getElem _⟩
     obtain ⟨l, hl⟩ : ∃ l, ls[y]? = some l := ⟨ls[y]'(by rw [hF.ll]; omega), List.getElem?_eq_getElem _⟩
     have hcell := frC_at hid hl
     have harr := hF.arr
     have hfl := frC_len hF.li hF.ll
     have hfew := hF.few (List.mem_of_getElem? hl)
     have hndl := hF.nd l (List.mem_of_getElem? hl)
     unfold frAdd at hce
     rw [Int.toNat_natCast, hl, Option.getD_some] at hce
     refine zg2 ?_
     simp -dsimp only [simprocAttr, ↓vpre, zp, g0, hgr, htr, heTx, g1, Int.toNat_natCast, Nat.mul_one]
     repeat (refine ⟨by omega, ?_⟩)
     refine za0 ?_
     refine zw0 rfl ?_
     refine zb0 ?_
     refine awp_seq (awp_block ?_)
     by_cases hln : l = []
     ·have hov : outV id l = .lst 1 [] .ex := if_pos hln
      have hco := contains_spec [] (x : Int)
      have hc0 : hasI l (x : Int) = false := by rw [hln]; rfl
      rw [show hasI [] (x : Int) = false from rfl] at hco
      rw [hov] at hcell
      rw [hc0, if_neg (by simp), hln, List.nil_append] at hce
      have hput := hF.put (O1 := O) hid hl (l' := [(x : Int)]) (by simp) ⟨by simp, fun v hv => by simp only [List.mem_singleton] at hv; omega⟩ rfl hF.up (fun _ _ => rfl) (cs := [aI (x : Int)]) rfl rfl
      refine zg1 ?_
      simp -dsimp only [simprocAttr, ↓vpre, zp, harr, hcell, Int.toNat_natCast, Nat.mul_one]
      repeat (refine ⟨by omega, ?_⟩)
      refine zi hco ?_
      refine ⟨ob (by kernel_rfl), ?_⟩
      refine za0 ?_
      refine zw0 rfl ?_
      have harr' : ∀ X, (O ++ X)[7]? = some (.cells (frC ids ls)) := fun X => at_left harr
      have hspl := fun v => splice_one (cs := frC ids ls) (j := y) v (by omega)
      refine zs0 ?_
      simp -dsimp only [simprocAttr, ↓vpre, zp, harr, harr', hcell, hspl, cellsAll_v, cells_os', Int.toNat_natCast, Nat.mul_one]
      repeat (refine ⟨by omega, ?_⟩)
      refine ⟨trivial, by omega, ?_⟩
      refine ⟨ob (by kernel_rfl), ?_⟩
      refine za0 ?_
      show AWP Try.prog _ _ _ ⟨_, _, (O ++ [AObj.cells [aI (x : Int)]]).set 7 (.cells ((frC ids ls).set y (.os O.length 1 1)))⟩
      have hput : FrO f N _ _ ((O ++ [AObj.cells [aI (x : Int)]]).set 7 (.cells ((frC ids ls).set y (.os O.length 1 1)))) := hput
      generalize (O ++ [AObj.cells [aI (x : Int)]]).set 7 (.cells ((frC ids ls).set y (.os O.length 1 1))) = O2 at *
      have hgr := hput.gr
      have htr := hput.tree
      refine zg0 ?_
      simp -dsimp only [simprocAttr, ↓vpre, zp, hgr, htr, heTy, Int.toNat_natCast, Nat.mul_one]
      repeat (refine ⟨by omega, ?_⟩)
      refine zl0 ?_
      refine ⟨⟨⟨atI (treeM f) y, m, _, _, O2⟩, hput, u3, hup2.2, by simp only; omega, hce⟩, by simp only; omega, ?_⟩
      refine zq rfl ?_ ?_
      simp -dsimp only [simprocAttr, ↓vpre, zp, zc]
      all_goals rfl
     have hov : outV id l = .os id l.length 1 := if_neg hln
     obtain ⟨o1, o2⟩ := hF.own y id l hid hl hln
     have hco := PCall.os (contains_spec l (x : Int)) o2
     rw [hov] at hcell
     cases hci : hasI l (x : Int) with
     | true =>
      rw [hci] at hco hce
      rw [if_pos rfl] at hce
      refine zg1 ?_
      simp -dsimp only [simprocAttr, ↓vpre, zp, harr, hcell, Int.toNat_natCast, Nat.mul_one]
      repeat (refine ⟨by omega, ?_⟩)
      refine .inr (.inr ⟨_, hco, later_intro (zj ?_)⟩)
      refine ⟨ob (by kernel_rfl), ?_⟩
      refine za0 ?_
      refine zu0 rfl ?_
      refine zb1 ?_
      refine zg0 ?_
      simp -dsimp only [simprocAttr, ↓vpre, zp, hgr, htr, heTy, Int.toNat_natCast, Nat.mul_one]
      repeat (refine ⟨by omega, ?_⟩)
      refine zl0 ?_
      refine ⟨⟨⟨atI (treeM f) y, m, ids, ls, O⟩, hF, u3, hup2.2, by simp only; omega, hce⟩, by simp only; omega, ?_⟩
      refine zq rfl ?_ ?_
      simp -dsimp only [simprocAttr, ↓vpre, zp, zc]
      all_goals rfl
     | false =>
      have hin : (x : Int) ∉ l := fun q => by rw [hasI_iff.2 q] at hci; cases hci
      rw [hci] at hco hce
      rw [if_neg (by simp)] at hce
      refine zg1 ?_
      simp -dsimp only [simprocAttr, ↓vpre, zp, harr, hcell, Int.toNat_natCast, Nat.mul_one]
      repeat (refine ⟨by omega, ?_⟩)
      refine .inr (.inr ⟨_, hco, later_intro (zj ?_)⟩)
      refine ⟨ob (by kernel_rfl), ?_⟩
      refine za0 ?_
      refine zw0 rfl ?_
      have harr' : ∀ X, (O.set id .gone ++ X)[7]? = some (.cells (frC ids ls)) := fun X => at_left (at_set_ne harr (by omega))
      have hspl := fun v => splice_one (cs := frC ids ls) (j := y) v (by omega)
      have hTT : (l.map aI).take (l.length * 1) = l.map aI := List.take_of_length_le (by simp)
      refine zg0 ?_
      simp -dsimp only [simprocAttr, ↓vpre, zp, harr, harr', hcell, o2, hspl, hTT, cellsAll_v, cells_os', Int.toNat_natCast, Nat.mul_one]
      repeat (refine ⟨by omega, ?_⟩)
      refine ⟨trivial, by omega, ?_⟩
      refine ⟨ob (by kernel_rfl), ?_⟩
      refine za0 ?_
      show AWP Try.prog _ _ _ ⟨_, _, (O.set id .gone ++ [AObj.cells (l.map aI ++ [aI (x : Int)])]).set 7 (.cells ((frC ids ls).set y (.os O.length (l.length + 1) 1)))⟩
      have hput : FrO f N (ids.set y O.length) (ls.set y (l ++ [(x : Int)])) ((O.set id .gone ++ [AObj.cells (l.map aI ++ [aI (x : Int)])]).set 7 (.cells ((frC ids ls).set y (.os O.length (l.length + 1) 1)))) := hF.put (O1 := O.set id .gone) hid hl (l' := l ++ [(x : Int)]) (by simp) ⟨nodup_snoc hndl.1 hin, fun v hv => by
       rcases List.mem_append.1 hv with q | q
       ·exact hndl.2 v q
       simp only [List.mem_singleton] at q
       omega⟩ (List.length_set) (uptoO_set hF.up trivial) (fun k hk => by rw [List.getElem?_set_ne (Ne.symm (hk hln))]) (by rw [List.map_append]; rfl) (by rw [List.length_append]; rfl)
      generalize (O.set id .gone ++ [AObj.cells (l.map aI ++ [aI (x : Int)])]).set 7 (.cells ((frC ids ls).set y (.os O.length (l.length + 1) 1))) = O2 at *
      have hgr := hput.gr
      have htr := hput.tree
      refine zg0 ?_
      simp -dsimp only [simprocAttr, ↓vpre, zp, hgr, htr, heTy, Int.toNat_natCast, Nat.mul_one]
      repeat (refine ⟨by omega, ?_⟩)
      refine zl0 ?_
      refine ⟨⟨⟨atI (treeM f) y, m, _, _, O2⟩, hput, u3, hup2.2, by simp only; omega, hce⟩, by simp only; omega, ?_⟩
      refine zq rfl ?_ ?_
      simp -dsimp only [simprocAttr, ↓vpre, zp, zc]
      all_goals rfl
    refine awp_exit ?_
    simp -dsimp only [vend, ne_eq, Nat.reduceEqDiff, reduceCtorEq]
    have hzl : b.term.to.length ≤ z := by
     have := of_decide_eq_false h
     omega
    rw [List.drop_of_length_le hzl, List.foldl_nil] at hze
    subst hze
    refine zh0 ?_
    repeat (refine ⟨by omega, ?_⟩)
    refine zl0 ?_
    refine ⟨⟨⟨k + 1, ids, L1, O⟩, hlt, hF, hke⟩, by simp; omega, ?_⟩
    refine zq rfl ?_ ?_
    simp -dsimp only [simprocAttr, ↓vpre, zp, zc]
    ·exact Sub.int (by simp)
    rfl
   refine awp_exit ?_
   simp -dsimp only [vend, ne_eq, Nat.reduceEqDiff, reduceCtorEq]
   have hkN : N ≤ k := by
    have := of_decide_eq_false h
    omega
   rw [List.drop_of_length_le (by omega)] at hke
   simp only [frL] at hke
   subst hke
   have hL0l : L0.length = N := hF.ll
   refine zh2 (za0 ?_)
   refine awp_block (awp_loop (ι := {X : Fx // X.z ≤ N ∧ FrO f N X.ids X.ls X.O ∧ X.ls = (L0.take X.z).map sortI ++ L0.drop X.z}) (fun X => ⟨97, [(6, .ms 7 0 N N), (87, .ms 7 0 N N), (88, aI N), (89, aI X.1.z)], X.1.O⟩) (fun X => N - X.1.z) ⟨⟨0, ids, L0, O⟩, by simp, hF, by simp⟩ ?_ ?_)
   ·refine zq rfl ?_ ?_
    simp -dsimp only [simprocAttr, ↓vpre, zp, zc]
    all_goals rfl
   rintro ⟨⟨i, ids, ls, O⟩, hi, hF, hi1⟩
   simp only at hi hF hi1
   refine zh1 (za0 ?_)
   apply zk1 rfl <;> intro h
   ·refine zb0 ?_
    have hlt : i < N := by simpa using h
    obtain ⟨id, hid⟩ : ∃ id, ids[i]? = some id := ⟨ids[i]'(by rw [hF.li]; omega), List.getElem?_eq_getElem _⟩
    obtain ⟨l, hl⟩ : ∃ l, ls[i]? = some l := ⟨ls[i]'(by rw [hF.ll]; omega), List.getElem?_eq_getElem _⟩
    have hcell := frC_at hid hl
    have harr := hF.arr
    have hfew := hF.few (List.mem_of_getElem? hl)
    have hL0i : L0[i]? = some l := by
     rw [← hl, hi1, sort_at (by omega)]
    have hst := sort_step hL0i
    rw [← hi1] at hst
    refine awp_seq (awp_block ?_)
    by_cases hln : l = []
    ·have hov : outV id l = .lst 1 [] .ex := if_pos hln
     rw [hov] at hcell
     have hse : ls.set i (sortI l) = ls := by
      rw [hln, sortI_nil]
      apply List.ext_getElem?
      intro j
      rw [List.getElem?_set]
      split
      ·rename_i e
       subst e
       rw [if_pos (lt_of_getElem? hl), hl, hln]
      rfl
     rw [hse] at hst
     refine zg1 ?_
     simp -dsimp only [simprocAttr, ↓vpre, zp, harr, hcell, Int.toNat_natCast, Nat.mul_one]
     repeat (refine ⟨by omega, ?_⟩)
     refine za0 ?_
     refine zh0 ?_
     refine .inr (.inl ⟨_, _, (ECall.shared (args := [.lst 1 [] .ex]) (sort_nil O)), .inl (later_intro (zj ?_))⟩)
     refine za0 ?_
     refine zh0 ?_
     repeat (refine ⟨by omega, ?_⟩)
     refine zl0 ?_
     refine ⟨⟨⟨i + 1, ids, ls, O⟩, hlt, hF, hst⟩, by simp; omega, ?_⟩
     refine zq rfl ?_ ?_
     simp -dsimp only [simprocAttr, ↓vpre, zp, zc]
     ·exact Sub.int (by simp)
     rfl
    have hov : outV id l = .os id l.length 1 := if_neg hln
    rw [hov] at hcell
    obtain ⟨o1, o2⟩ := hF.own i id l hid hl hln
    have hso := sort_spec o2 (by omega)
    have hF2 := hF.sort hid hl hln
    generalize O.set id (.cells ((sortI l).map aI)) = O2 at *
    refine zg1 ?_
    simp -dsimp only [simprocAttr, ↓vpre, zp, harr, hcell, Int.toNat_natCast, Nat.mul_one]
    repeat (refine ⟨by omega, ?_⟩)
    refine za0 ?_
    refine zh0 ?_
    refine .inr (.inl ⟨_, _, hso, .inl (later_intro (zj ?_))⟩)
    refine za0 ?_
    refine zh0 ?_
    repeat (refine ⟨by omega, ?_⟩)
    refine zl0 ?_
    refine ⟨⟨⟨i + 1, ids, ls.set i (sortI l), O2⟩, hlt, hF2, hst⟩, by simp; omega, ?_⟩
    refine zq rfl ?_ ?_
    simp -dsimp only [simprocAttr, ↓vpre, zp, zc]
    ·exact Sub.int (by simp)
    rfl
   refine awp_exit ?_
   simp -dsimp only [vend, ne_eq, Nat.reduceEqDiff, reduceCtorEq]
   have hiN : N ≤ i := by
    have := of_decide_eq_false h
    omega
   rw [List.drop_of_length_le (by omega), List.take_of_length_le (by omega), List.append_nil] at hi1
   subst hi1
   refine zh1 (za0 ?_)
   refine awp_front hF fun O' hOl hO7 => ?_
   refine awp_freeze1 2 7 (o := .cells (mixC ids (L0.map sortI) N)) (.lst 1 ((L0.map sortI).map eIs) .sh) hO7 (by simp [AObj.isSpare]) trivial rfl (FSub.ms (cs := mixC ids (L0.map sortI) N) hO7 ?_ ?_ ?_) ?_
   ·intro x hx
    obtain ⟨y, _, rfl⟩ := List.mem_map.1 hx
    rfl
   ·rw [List.length_map, hF.ll]
   ·have hml := mixC_len hF.li hF.ll N
    rw [List.drop_zero, List.take_of_length_le (by omega)]
    have := mixC_share (ids := ids) (ls := L0.map sortI) (by rw [hF.li, hF.ll])
    rw [hF.ll] at this
    exact this
   simp -dsimp only [simprocAttr, ↓vpre, zp]
   refine awp_ret ?_
   simp -dsimp only [simprocAttr, ↓vpre, zp, zr, Try.results30]
   exact ⟨⟨eIss_upto _ _, trivial⟩, trivial, trivial⟩
  exact FSub.mp rfl rfl
 rw [if_neg hc]
 have hb := dbuild_err f hfit hc
 obtain ⟨e, he⟩ : ∃ e, e = checkFuncM f := ⟨_, rfl⟩
 rw [← he] at hc hb ⊢
 have hde : decide (e = 0) = false := decide_eq_false hc
 refine zf true 0 Try.func30 Try.ntmps30 ?_
 dsimp only [Tmp, TypeId, slotsOf]
 refine zh1 (za0 ?_)
 refine awp_freeze1 1 0 (.ip none [aI f.name, eBlocks f.blocks]) rfl (by simp [AObj.isSpare]) trivial rfl ?_ ?_
 rotate_left
 simp -dsimp only [simprocAttr, ↓vpre, zp]
 ·refine zh1 ?_
  refine zi hb ?_
  refine za0 ?_
  refine zg2 ?_
  simp -dsimp only [simprocAttr, ↓vpre, zp, hde]
  refine za0 ?_
  refine zw0 rfl ?_
  refine zh1 (za0 ?_)
  refine awp_ret ?_
  simp -dsimp only [simprocAttr, ↓vpre, zp, zr, Try.results30]
  simp [uptoL, AVal.upto]
 exact FSub.mp rfl rfl
def rpE (p : Nat) (k : Int) (es : List Edge) : List Int := (es.filter fun e => decide (e.block = k)).map fun _ => (p : Int)
def rpL (k : Int) : Nat → List Block → List Int
 | _, [] => []
 | p, b :: r => rpE p k b.term.to ++ rpL k (p + 1) r
def rpM (f : Func) (k : Int) : List Int := rpL k 0 f.blocks
theorem rpE_few (p : Nat) (k : Int) (es : List Edge) : (rpE p k es).length ≤ es.length := by
 unfold rpE
 rw [List.length_map]
 exact List.length_filter_le _ _
theorem rpL_few (k : Int) : ∀ (bs : List Block) (p : Nat), (∀ b ∈ bs, b.term.to.length ≤ 257) → (rpL k p bs).length ≤ bs.length * 257
 | [], _, _ => by simp [rpL]
 | b :: r, p, h => by
  have h1 := rpL_few k r (p + 1) fun x hx => h x (List.mem_cons_of_mem _ hx)
  have h2 := rpE_few p k b.term.to
  have h3 := h b List.mem_cons_self
  simp only [rpL, List.length_append, List.length_cons]
  omega
theorem mem_rpL (k q : Int) : ∀ (bs : List Block) (p : Nat), q ∈ rpL k p bs ↔ ∃ (j : Nat) (b : Block), bs[j]? = some b ∧ q = ((p + j : Nat) : Int) ∧ ∃ e ∈ b.term.to, e.block = k
 | [], p => by simp [rpL]
 | b :: r, p => by
  have ih := mem_rpL k q r (p + 1)
  simp only [rpL, List.mem_append, ih]
  constructor
  ·rintro (h | ⟨j, c, h1, h2, h3⟩)
   ·unfold rpE at h
    obtain ⟨e, he, e1⟩ := List.mem_map.1 h
    rw [List.mem_filter] at he
    exact ⟨0, b, rfl, by simp [e1.symm], e, he.1, by simpa using he.2⟩
   exact ⟨j + 1, c, by simpa using h1, by rw [h2]; congr 1; omega, h3⟩
  rintro ⟨j, c, h1, h2, e, he, h3⟩
  cases j with
  | zero =>
   simp only [List.getElem?_cons_zero, Option.some.injEq] at h1
   subst h1
   refine .inl ?_
   unfold rpE
   exact List.mem_map.2 ⟨e, List.mem_filter.2 ⟨he, by simpa using h3⟩, by rw [h2]; rfl⟩
  | succ j =>
   exact .inr ⟨j, c, by simpa using h1, by rw [h2]; congr 1; omega, e, he, h3⟩
theorem mem_rpM {f : Func} {k q : Int} (h0 : 0 ≤ q) : q ∈ rpM f k ↔ ∃ e ∈ toOf f q, e.block = k := by
 unfold rpM
 rw [mem_rpL]
 constructor
 ·rintro ⟨j, b, h1, h2, e, he, h3⟩
  refine ⟨e, ?_, h3⟩
  rw [Nat.zero_add] at h2
  rw [h2]
  simp only [toOf, blkOf, Int.toNat_natCast, h1]
  exact he
 rintro ⟨e, he, h3⟩
 cases hb : f.blocks[q.toNat]? with
 | none =>
  simp [toOf, blkOf, hb] at he
  cases he
 | some b =>
  simp only [toOf, blkOf, hb] at he
  exact ⟨q.toNat, b, hb, by omega, e, he, h3⟩
structure Fpr where
 z : Nat
 w : List Int
 wid : Nat
 O : List AObj
theorem refPreds_spec (f : Func) (hg : GrW f) (k : Int) : PCall Try.prog 32 [f.enc, aI k] (eIs (rpM f k)) := by
 have hn : f.blocks.length ≤ 128 := hg.few
 obtain ⟨R, hR⟩ : ∃ R, R = rpM f k := ⟨_, rfl⟩
 have hRl : R.length ≤ 33000 := by
  have := rpL_few k f.blocks 0 hg.to
  rw [hR]
  unfold rpM
  omega
 rw [← hR]
 unfold rpM at hR
 obtain ⟨N, hN⟩ : ∃ N, N = f.blocks.length := ⟨_, rfl⟩
 refine zf true 0 Try.func32 Try.ntmps32 ?_
 dsimp only [Tmp, TypeId, slotsOf]
 refine zh1 (za0 ?_)
 refine awp_freeze1 2 0 (.ip none [aI f.name, eBlocks f.blocks]) rfl (by simp [AObj.isSpare]) trivial rfl ?_ ?_
 rotate_left
 simp -dsimp only [simprocAttr, ↓vpre, zp]
 ·refine zh1 (za0 ?_)
  refine zg2 ?_
  simp -dsimp only [simprocAttr, ↓vpre, zp, ← hN]
  refine za0 ?_
  refine awp_block (awp_loop (ι := {X : Fpr // X.z ≤ N ∧ FO [] 0 X.O ∧ (X.w ≠ [] → X.O[X.wid]? = some (.cells (X.w.map aI))) ∧ R = X.w ++ rpL k X.z (f.blocks.drop X.z)}) (fun X => ⟨37, [(1, aI k), (2, .ip none [aI f.name, eBlocks f.blocks]), (5, outV X.1.wid X.1.w), (11, eBlocks f.blocks), (12, aI N), (13, aI X.1.z)], X.1.O⟩) (fun X => N - X.1.z) ⟨⟨0, [], 0, [.gone]⟩, by simp, ⟨by simp [AObj.upto], fun q => absurd rfl q⟩, fun q => absurd rfl q, by simpa using hR⟩ ?_ ?_)
  ·refine zq rfl ?_ ?_
   simp -dsimp only [simprocAttr, ↓vpre, zp, zc]
   all_goals first | rfl | exact Sub.refl _
  rintro ⟨⟨i, w, wid, O⟩, hi, hF, hwo, hse⟩
  simp only at hi hF hwo hse
  refine zh1 (za0 ?_)
  apply zk1 rfl <;> intro h
  ·refine zb0 ?_
   have hlt : i < N := by simpa using h
   obtain ⟨b, hb⟩ : ∃ b, f.blocks[i]? = some b := ⟨f.blocks[i]'(by omega), List.getElem?_eq_getElem _⟩
   rw [drop_at hb] at hse
   simp only [rpL] at hse
   obtain ⟨T, hT2⟩ : ∃ T, T = rpL k (i + 1) (f.blocks.drop (i + 1)) := ⟨_, rfl⟩
   rw [← hT2, ← List.append_assoc] at hse
   obtain ⟨P, hP⟩ : ∃ P, P = w ++ rpE i k b.term.to := ⟨_, rfl⟩
   rw [← hP] at hse
   unfold rpE at hP
   have hPl : P.length ≤ 33000 := by
    have := congrArg List.length hse
    rw [List.length_append] at this
    omega
   have hto := hg.to b (List.mem_of_getElem? hb)
   refine awp_seq (awp_block ?_)
   refine zg1 ?_
   simp -dsimp only [simprocAttr, ↓vpre, zp, hb]
   refine za0 ?_
   refine awp_local 7 ([eIs b.params, eInss b.ins, aI b.term.kind, aI b.term.arg, aI b.term.n, eIs b.term.cases, eEdges b.term.to]) [(1, aI k), (2, .ip none [aI f.name, eBlocks f.blocks]), (5, outV wid w), (11, eBlocks f.blocks), (12, aI N), (13, aI i), (6, aI i), (7, .ip none [eIs b.params, eInss b.ins, aI b.term.kind, aI b.term.arg, aI b.term.n, eIs b.term.cases, eEdges b.term.to])] (by simp [putS, dropS, Go.Av.look]) (by rfl) (by omega) (by simp [putS, dropS, Go.Av.look]) ?_ ?_ ?_
   ·exact hF.up
   ·have hvu := outV_upto wid w (O := O) hwo
    simp [AVal.upto, uptoL, aI_upto, Edge.map_upto, Ins.map_upto, Block.map_upto, hvu]
   refine zh1 (za0 ?_)
   refine awp_block (awp_loop (ι := {X : Fpr // X.z ≤ b.term.to.length ∧ FO [] 0 X.O ∧ (X.w ≠ [] → X.O[X.wid]? = some (.cells (X.w.map aI))) ∧ P = X.w ++ ((b.term.to.drop X.z).filter fun e => decide (e.block = k)).map fun _ => (i : Int)}) (fun X => ⟨37, [(1, aI k), (2, .ip none [aI f.name, eBlocks f.blocks]), (5, outV X.1.wid X.1.w), (11, eBlocks f.blocks), (12, aI N), (13, aI i), (6, aI i), (20, eEdges b.term.to), (21, aI b.term.to.length), (22, aI X.1.z)], X.1.O⟩) (fun X => b.term.to.length - X.1.z) ⟨⟨0, w, wid, O⟩, by simp, hF, hwo, by simpa using hP⟩ ?_ ?_)
   ·refine zq rfl ?_ ?_
    simp -dsimp only [simprocAttr, ↓vpre, zp, zc]
    all_goals rfl
   rintro ⟨⟨z, w, wid, O⟩, hz, hF, hwo, hse2⟩
   simp only at hz hF hwo hse2
   refine zh1 (za0 ?_)
   apply zk1 rfl <;> intro h
   ·refine zb0 ?_
    have hlz : z < b.term.to.length := by simpa using h
    obtain ⟨e, he⟩ : ∃ e, b.term.to[z]? = some e := ⟨b.term.to[z], by simp [hlz]⟩
    rw [drop_at he, List.filter_cons] at hse2
    have hwl : w.length ≤ 33000 := by
     have := congrArg List.length hse2
     rw [List.length_append] at this
     omega
    refine awp_seq (awp_block ?_)
    refine zg1 ?_
    simp -dsimp only [simprocAttr, ↓vpre, zp, he]
    refine za0 ?_
    refine awp_local 9 ([aI e.block, eIs e.args]) [(1, aI k), (2, .ip none [aI f.name, eBlocks f.blocks]), (5, outV wid w), (11, eBlocks f.blocks), (12, aI N), (13, aI i), (6, aI i), (20, eEdges b.term.to), (21, aI b.term.to.length), (22, aI z), (9, .ip none [aI e.block, eIs e.args])] (by simp [putS, dropS, Go.Av.look]) (by rfl) (by omega) (by simp [putS, dropS, Go.Av.look]) ?_ ?_ ?_
    ·exact hF.up
    ·have hvu := outV_upto wid w (O := O) hwo
     simp [AVal.upto, uptoL, aI_upto, Edge.map_upto, Ins.map_upto, Block.map_upto, hvu]
    by_cases hpe : e.block = k
    ·have hdp : decide (e.block = k) = true := decide_eq_true hpe
     rw [hdp, if_pos rfl, List.map_cons, List.append_cons] at hse2
     refine zg1 ?_
     simp -dsimp only [simprocAttr, ↓vpre, zp, hdp]
     refine za0 ?_
     refine zw0 rfl ?_
     by_cases hwn : w = []
     ·have hov : outV wid w = .lst 1 [] .ex := if_pos hwn
      refine zs0 ?_
      simp -dsimp only [simprocAttr, ↓vpre, zp, hov, cellsAll_v, cells_os']
      refine za0 ?_
      refine zh0 ?_
      repeat (refine ⟨by omega, ?_⟩)
      refine zl0 ?_
      refine ⟨⟨⟨z + 1, w ++ [(i : Int)], O.length, O ++ [AObj.cells [aI (i : Int)]]⟩, hlz, hF.push ⟨trivial, trivial⟩, fun _ => by rw [hwn]; exact snoc_get _ _, hse2⟩, by simp; omega, ?_⟩
      refine zq rfl ?_ ?_
      simp -dsimp only [simprocAttr, ↓vpre, zp, zc]
      ·exact ⟨by rw [outV_snoc, hwn]; exact Sub.refl _, Sub.int (by simp)⟩
      rfl
     have w1 := hwo hwn
     have hov : outV wid w = .os wid w.length 1 := if_neg hwn
     have hTT : (w.map aI).take (w.length * 1) = w.map aI := List.take_of_length_le (by simp)
     have hgt : (O.set wid .gone ++ [AObj.cells (w.map aI ++ [aI (i : Int)])])[O.length]? = some (.cells ((w ++ [(i : Int)]).map aI)) := by
      have h1 := snoc_get (O.set wid .gone) (AObj.cells (w.map aI ++ [aI (i : Int)]))
      rw [List.length_set] at h1
      rw [h1, List.map_append]
      rfl
     refine zg0 ?_
     simp -dsimp only [simprocAttr, ↓vpre, zp, hov, w1, cellsAll_v, cells_os', hTT]
     repeat (refine ⟨by omega, ?_⟩)
     refine za0 ?_
     refine zh0 ?_
     repeat (refine ⟨by omega, ?_⟩)
     refine zl0 ?_
     refine ⟨⟨⟨z + 1, w ++ [(i : Int)], O.length, O.set wid .gone ++ [AObj.cells (w.map aI ++ [aI (i : Int)])]⟩, hlz, hF.move (fun q => absurd rfl q) ?_, fun _ => hgt, hse2⟩, by simp; omega, ?_⟩
     ·have := aI_upto (O.length + 1) (w ++ [(i : Int)])
      simpa using this
     refine zq rfl ?_ ?_
     simp -dsimp only [simprocAttr, ↓vpre, zp, zc]
     ·exact ⟨by rw [outV_snoc]; exact Sub.refl _, Sub.int (by simp)⟩
     rfl
    have hdp : decide (e.block = k) = false := decide_eq_false hpe
    rw [hdp, if_neg (by simp)] at hse2
    refine zg1 ?_
    simp -dsimp only [simprocAttr, ↓vpre, zp, hdp]
    refine za0 ?_
    refine zu0 rfl ?_
    refine zb1 ?_
    refine zh0 ?_
    repeat (refine ⟨by omega, ?_⟩)
    refine zl0 ?_
    refine ⟨⟨⟨z + 1, w, wid, O⟩, hlz, hF, hwo, hse2⟩, by simp; omega, ?_⟩
    refine zq rfl ?_ ?_
    simp -dsimp only [simprocAttr, ↓vpre, zp, zc]
    ·exact Sub.int (by simp)
    rfl
   refine awp_exit ?_
   simp -dsimp only [vend, ne_eq, Nat.reduceEqDiff, reduceCtorEq]
   have hzl : b.term.to.length ≤ z := by
    have := of_decide_eq_false h
    omega
   rw [List.drop_of_length_le hzl] at hse2
   have hsw : P = w := by rw [hse2]; simp
   subst hsw
   refine zh0 ?_
   repeat (refine ⟨by omega, ?_⟩)
   refine zl0 ?_
   refine ⟨⟨⟨i + 1, P, wid, O⟩, hlt, hF, hwo, by simp only; rw [hse, hT2]⟩, by simp; omega, ?_⟩
   refine zq rfl ?_ ?_
   simp -dsimp only [simprocAttr, ↓vpre, zp, zc]
   ·exact Sub.int (by simp)
   rfl
  refine awp_exit ?_
  simp -dsimp only [vend, ne_eq, Nat.reduceEqDiff, reduceCtorEq]
  have hii : N ≤ i := by
   have := of_decide_eq_false h
   omega
  rw [List.drop_of_length_le (by omega)] at hse
  simp only [rpL, List.append_nil] at hse
  subst hse
  by_cases hwn : R = []
  ·have hov : outV wid R = .lst 1 [] .ex := if_pos hwn
   refine zg1 ?_
   simp -dsimp only [simprocAttr, ↓vpre, zp, hov]
   refine za0 ?_
   rw [hwn]
   refine awp_ret ?_
   simp -dsimp only [simprocAttr, ↓vpre, zp, zr, Try.results32]
   exact ⟨trivial, rfl⟩
  have w1 := hwo hwn
  have hov : outV wid R = .os wid R.length 1 := if_neg hwn
  refine zg1 ?_
  simp -dsimp only [simprocAttr, ↓vpre, zp, hov]
  refine za0 ?_
  refine awp_freeze1 4 wid (o := .cells (R.map aI)) (eIs R) w1 (by simp [AObj.isSpare]) trivial rfl (FSub.os (cs := R.map aI) w1 (fun x hx => by obtain ⟨v, _, rfl⟩ := List.mem_map.1 hx; rfl) (by simp) (by rw [List.drop_zero, List.take_of_length_le (by simp), aI_cellsAll])) ?_
  simp -dsimp only [simprocAttr, ↓vpre, zp]
  refine awp_ret ?_
  simp -dsimp only [simprocAttr, ↓vpre, zp, zr, Try.results32]
 exact FSub.mp rfl rfl
def ovrB (f : Func) (O : List Int) (a b : Int) : Bool := if plF f b < 0 then true else ancB O a b
theorem domin_spec {O : List AObj} (hup : ∀ o ∈ O, o.upto O.length) {A B N : Nat} {f : Func} (hw : OrdW f) {ov : List Int} (hA : O[A]? = some (.cells (ov.map aI))) (hB : O[B]? = some (.cells ((plL f).map aI))) (hN : N = f.blocks.length) (ht : Tr f ov) {a b : Int} (ha : 0 ≤ a) (hb : 0 ≤ b ∧ b < f.blocks.length) (hbt : 0 ≤ plF f b → Asg ov b) :
  ECall Try.prog 42 O [.agg [.ms A 0 N N, .ms B 0 N N], aI a, aI b] (fun r O' => r = .v (.bool (ovrB f ov a b)) ∧ O' = O) := by
 have hAl := lt_of_getElem? hA
 have hBl := lt_of_getElem? hB
 have eb := plL_at hb.1 hb.2
 have heb := aI_at eb
 by_cases hpl : plF f b < 0
 ·have hR : ovrB f ov a b = true := if_pos hpl
  have hd : decide (plF f b < 0) = true := decide_eq_true hpl
  rw [hR]
  refine zf true O.length Try.func42 Try.ntmps42 ?_
  dsimp only [Tmp, TypeId, slotsOf]
  refine zh1 (za0 ?_)
  refine awp_local 3 ([.ms A 0 N N, .ms B 0 N N]) [(1, aI a), (2, aI b), (3, .ip none [.ms A 0 N N, .ms B 0 N N])] (by simp [putS, dropS, Go.Av.look]) (by rfl) (by omega) (by simp [putS, dropS, Go.Av.look]) ?_ ?_ ?_
  ·exact hup
  ·simp [AVal.upto, uptoL, hAl, hBl]
  refine zg2 ?_
  simp -dsimp only [simprocAttr, ↓vpre, zp, hB, heb, hd, Nat.mul_one]
  repeat (refine ⟨by omega, ?_⟩)
  refine za0 ?_
  refine zw0 rfl ?_
  refine zh1 (za0 ?_)
  refine awp_ret ?_
  simp -dsimp only [simprocAttr, ↓vpre, zp, zr, Try.results42]
  exact hup
 have hR0 : ovrB f ov a b = ancB ov a b := if_neg hpl
 have hd : decide (plF f b < 0) = false := decide_eq_false hpl
 obtain ⟨R, hR⟩ : ∃ R, R = ancB ov a b := ⟨_, rfl⟩
 rw [hR0, ← hR]
 have hba := hbt (by omega)
 refine zf true O.length Try.func42 Try.ntmps42 ?_
 dsimp only [Tmp, TypeId, slotsOf]
 refine zh1 (za0 ?_)
 refine awp_local 3 ([.ms A 0 N N, .ms B 0 N N]) [(1, aI a), (2, aI b), (3, .ip none [.ms A 0 N N, .ms B 0 N N])] (by simp [putS, dropS, Go.Av.look]) (by rfl) (by omega) (by simp [putS, dropS, Go.Av.look]) ?_ ?_ ?_
 ·exact hup
 ·simp [AVal.upto, uptoL, hAl, hBl]
 refine zg2 ?_
 simp -dsimp only [simprocAttr, ↓vpre, zp, hB, heb, hd, Nat.mul_one]
 repeat (refine ⟨by omega, ?_⟩)
 refine za0 ?_
 refine zu0 rfl ?_
 refine zb0 ?_
 refine awp_seq (awp_block (awp_loop (ι := {x : Int // (Asg ov x ∧ R = ancB ov a x) ∨ (x = -1 ∧ R = false)}) (fun x => ⟨28, [(1, aI a), (2, aI x.1), (3, .ip none [.ms A 0 N N, .ms B 0 N N])], O⟩) (fun x => if 0 ≤ x.1 then (plF f x.1).toNat + 1 else 0) ⟨b, .inl ⟨hba, hR⟩⟩ ?_ ?_))
 ·refine zq rfl ?_ ?_
  simp -dsimp only [simprocAttr, ↓vpre, zp, zc]
  rfl
 rintro ⟨x, hx⟩
 rcases hx with ⟨hxa, hRx⟩ | ⟨hx1, hRx⟩
 ·have hx0 := hxa.nn hw ht
  have hd1 : decide (0 ≤ x) = true := decide_eq_true hx0
  have hpx := ht.asg hw hxa
  have hxr := hw.range x hpx
  by_cases hxe : x = a
  ·have hd2 : decide (x = a) = true := decide_eq_true hxe
   have hRt : R = true := by rw [hRx, hxe]; exact ancB_self hw ht (hxe ▸ hxa)
   refine zg2 ?_
   simp -dsimp only [simprocAttr, ↓vpre, zp, hd1, hd2]
   refine za0 ?_
   refine zu0 rfl ?_
   refine awp_exit ?_
   simp -dsimp only [vend, ne_eq, Nat.reduceEqDiff, reduceCtorEq]
   refine zg1 ?_
   simp -dsimp only [simprocAttr, ↓vpre, zp, hd2]
   refine za0 ?_
   rw [hRt]
   refine awp_ret ?_
   simp -dsimp only [simprocAttr, ↓vpre, zp, zr, Try.results42]
   exact hup
  have hd2 : decide (x = a) = false := decide_eq_false hxe
  obtain ⟨y, hy⟩ : ∃ y, ov[x.toNat]? = some y := ⟨ov[x.toNat]'(by rw [ht.len]; omega), List.getElem?_eq_getElem _⟩
  have hye : atI ov x = y := by simp [atI, hy]
  have hyy := aI_at hy
  have hst := anc_step hw ht hxa hxe
  rw [hye, ← hRx] at hst
  refine zg2 ?_
  simp -dsimp only [simprocAttr, ↓vpre, zp, hd1, hd2]
  refine za0 ?_
  refine zw0 rfl ?_
  refine zb0 ?_
  refine awp_block ?_
  refine zg0 ?_
  simp -dsimp only [simprocAttr, ↓vpre, zp, hA, hyy, Nat.mul_one]
  repeat (refine ⟨by omega, ?_⟩)
  refine zl1 ?_
  rcases hst with ⟨s1, s2, s3, s4⟩ | ⟨s1, s2⟩
  ·refine ⟨⟨y, .inl ⟨s2, s4⟩⟩, by simp only; rw [if_pos s1, if_pos hx0]; have := ht.asg hw s2; omega, ?_⟩
   refine zq rfl ?_ ?_
   simp -dsimp only [simprocAttr, ↓vpre, zp, zc]
   rfl
  refine ⟨⟨y, .inr ⟨s1, s2⟩⟩, by simp only; rw [if_neg (by omega), if_pos hx0]; omega, ?_⟩
  refine zq rfl ?_ ?_
  simp -dsimp only [simprocAttr, ↓vpre, zp, zc]
  rfl
 have hd1 : decide (0 ≤ x) = false := decide_eq_false (by omega)
 have hd2 : decide (x = a) = false := decide_eq_false (by omega)
 refine zg2 ?_
 simp -dsimp only [simprocAttr, ↓vpre, zp, hd1]
 refine za0 ?_
 refine zu0 rfl ?_
 refine awp_exit ?_
 simp -dsimp only [vend, ne_eq, Nat.reduceEqDiff, reduceCtorEq]
 refine zg1 ?_
 simp -dsimp only [simprocAttr, ↓vpre, zp, hd2]
 refine za0 ?_
 rw [hRx]
 refine awp_ret ?_
 simp -dsimp only [simprocAttr, ↓vpre, zp, zr, Try.results42]
 exact hup
theorem dominates_spec (f : Func) (hfit : f.fit) (hc : checkFuncM f = 0) {a b : Int} (ha : 0 ≤ a ∧ a < f.blocks.length) (hb : 0 ≤ b ∧ b < f.blocks.length) : PCall Try.prog 17 [f.enc, aI a, aI b] (.tup [.v (.bool (ovrB f (treeM f) a b)), aI 0]) := by
 have hbd := dbuild_spec f hfit hc
 have hg := (checkFunc_ok hfit hc).gr
 have hw := ord_w hg
 have ht := tree_w hg
 have hib := isBlock_spec f [a, b] (fun v hv => by
  simp only [List.mem_cons, List.not_mem_nil, or_false] at hv
  rcases hv with rfl | rfl <;> simp [outB] <;> omega)
 have hup := dmO_upto f (treeM f) f.blocks.length [.ms 3 0 f.blocks.length f.blocks.length, .ms 4 0 f.blocks.length f.blocks.length] ⟨show 3 < 6 by omega, show 4 < 6 by omega, trivial⟩
 unfold dmO at hbd hup
 obtain ⟨N, hN⟩ : ∃ N, N = f.blocks.length := ⟨_, rfl⟩
 have hdm := domin_spec (O := [.gone, .gone, .cells [.ms 3 0 N N, .ms 4 0 N N], .cells ((treeM f).map aI), .cells ((plL f).map aI), .cells [.ms 3 0 N N, .ms 4 0 N N], .cells [.ms 3 0 N N, .ms 4 0 N N]]) (fun o ho => by
  rw [← hN] at hup
  simp only [List.mem_cons, List.not_mem_nil, or_false] at ho hup
  rcases ho with rfl | rfl | rfl | rfl | rfl | rfl | rfl
  ·trivial
  ·trivial
  ·exact ⟨show 3 < 7 by omega, show 4 < 7 by omega, trivial⟩
  ·exact aI_upto _ _
  ·exact aI_upto _ _
  ·exact ⟨show 3 < 7 by omega, show 4 < 7 by omega, trivial⟩
  exact ⟨show 3 < 7 by omega, show 4 < 7 by omega, trivial⟩) (A := 3) (B := 4) (N := N) hw rfl rfl hN ht.tr (a := a) (b := b) ha.1 hb (ht.asg' hw)
 rw [← hN] at hbd ha hb hup
 have hea : eIs [a, b] = .lst 1 [aI a, aI b] .sh := rfl
 rw [hea] at hib
 generalize ovrB f (treeM f) a b = R at *
 generalize treeM f = O at *
 refine zf true 0 Try.func17 Try.ntmps17 ?_
 dsimp only [Tmp, TypeId, slotsOf]
 refine zh1 (za0 ?_)
 refine awp_freeze1 3 0 (.ip none [aI f.name, eBlocks f.blocks]) rfl (by simp [AObj.isSpare]) trivial rfl ?_ ?_
 rotate_left
 simp -dsimp only [simprocAttr, ↓vpre, zp]
 ·refine zh1 ?_
  refine .inr (.inl ⟨_, _, hbd, .inl (later_intro (zj ?_))⟩)
  refine za0 ?_
  refine awp_seq (awp_block ?_)
  refine zh1 (za0 ?_)
  refine zu0 rfl ?_
  refine zh1 ?_
  refine zi hib ?_
  refine za0 ?_
  refine zu0 rfl ?_
  refine zb1 ?_
  refine zh1 ?_
  refine .inr (.inr ⟨_, hdm, later_intro (zj ?_)⟩)
  refine za0 ?_
  refine awp_ret ?_
  simp -dsimp only [simprocAttr, ↓vpre, zp, zr, Try.results17]
  exact ⟨trivial, trivial, trivial⟩
 exact FSub.mp rfl rfl
end Go.Proofs.Ytlclgfgmhnmnaaa
