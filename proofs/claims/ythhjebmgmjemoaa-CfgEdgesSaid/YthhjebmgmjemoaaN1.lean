/-
  Texts bound together by a program of mine: YthhjebmgmjemoaaPf, YthhjebmgmjemoaaT41, YthhjebmgmjemoaaT42.
-/
import Derived.Test.YthhjebmgmjemoaaJ5
set_option linter.all false

section
/-
  Lists of lists that grow: each owns the room behind it.
-/
namespace Go.Av

/-- m nil lists in the cells of an object come to own what is appended. -/
theorem awp_ownAll {P : Program} {kb : Nat} {c : Code} {Q : AEx → St → Prop} {n : Nat} {slots : List (Nat × AVal)} {O : List AObj} (k m : Nat) (hk : k < O.length)
    (h : AWP P kb c Q ⟨n, slots, (O ++ List.replicate m (AObj.spare 0)).set k (.cells ((List.range m).map fun j => .lst 1 [] (.tok (O.length + j))))⟩) : AWP P kb c Q ⟨n, slots, O.set k (.cells (List.replicate m (.lst 1 [] .ex)))⟩ := by
  obtain ⟨conv, hconv⟩ : ∃ conv : Nat → List AVal, conv = fun q => ((List.range q).map fun j => AVal.lst 1 [] (.tok (O.length + j))) ++ List.replicate (m - q) (.lst 1 [] .ex) := ⟨_, rfl⟩
  have key : ∀ q, q ≤ m → AWP P kb c Q ⟨n, slots, (O ++ List.replicate q (AObj.spare 0)).set k (.cells (conv q))⟩ → AWP P kb c Q ⟨n, slots, O.set k (.cells (List.replicate m (.lst 1 [] .ex)))⟩ := fun q => by
    induction q with
    | zero =>
      intro _ h
      simpa [hconv] using h
    | succ q ih =>
      intro hq h
      refine ih (by omega) (awp_ownCell k q (sz := 1) (cs := conv q) (xs := []) ?_ ?_ ?_)
      · rw [List.getElem?_set_self (by simp; omega)]
      · rw [hconv]
        simp only
        rw [List.getElem?_append_right (by simp)]
        simp only [List.length_map, List.length_range, Nat.sub_self]
        rw [show m - q = (m - (q + 1)) + 1 by omega, List.replicate_succ]
        rfl
      · have e1 : (O ++ List.replicate q (AObj.spare 0)).set k (.cells (conv q)) ++ [AObj.spare ([] : List AVal).length] = (O ++ List.replicate (q + 1) (AObj.spare 0)).set k (.cells (conv q)) := by
          rw [List.set_append_left _ _ hk, List.set_append_left _ _ hk, List.append_assoc]
          congr 1
          rw [List.replicate_succ']
          rfl
        have e2 : (conv q).set q (.lst 1 [] (.tok ((O ++ List.replicate q (AObj.spare 0)).set k (.cells (conv q))).length)) = conv (q + 1) := by
          rw [hconv]
          simp only [List.length_set, List.length_append, List.length_replicate]
          rw [List.set_append_right _ _ (by simp)]
          simp only [List.length_map, List.length_range, Nat.sub_self]
          rw [show m - q = (m - (q + 1)) + 1 by omega, List.replicate_succ, List.set_cons_zero, List.range_succ, List.map_append, List.append_assoc]
          rfl
        rw [e1, e2, List.set_set]
        exact h
  refine key m (Nat.le_refl _) ?_
  simpa [hconv] using h

end Go.Av
namespace Go.Proofs.Ythhjebmgmjemoaa
open Go.Av

/-- The cells of a list of lists of integers, of which the j-th owns object b + j. -/
def outC (b : Nat) (ls : List (List Int)) : List AVal := ls.mapIdx fun j l => .lst 1 (l.map aI) (.tok (b + j))

theorem outC_get {b : Nat} {ls : List (List Int)} {j : Nat} {l : List Int} (h : ls[j]? = some l) : (outC b ls)[j]? = some (.lst 1 (l.map aI) (.tok (b + j))) := by
  simp [outC, h]

theorem outC_set {b : Nat} {ls : List (List Int)} {j : Nat} (l : List Int) : (outC b ls).set j (.lst 1 (l.map aI) (.tok (b + j))) = outC b (ls.set j l) := by
  apply List.ext_getElem?
  intro i
  simp only [outC, List.getElem?_set, List.getElem?_mapIdx, List.length_mapIdx]
  by_cases e : j = i
  · subst e
    by_cases hl : j < ls.length
    · simp [hl]
    · simp [hl]
  · simp [e]

theorem outC_len (b : Nat) (ls : List (List Int)) : (outC b ls).length = ls.length := by simp [outC]

theorem outC_nil (b n : Nat) : outC b (List.replicate n []) = (List.range n).map fun j => .lst 1 [] (.tok (b + j)) := by
  apply List.ext_getElem?
  intro i
  simp only [outC, List.getElem?_mapIdx, List.getElem?_map]
  by_cases h : i < n
  · simp [h]
  · simp [h]

theorem outC_share (b : Nat) (ls : List (List Int)) : (outC b ls).map AVal.shareCell = cellsAll (ls.map eIs) := by
  have h1 : cellsAll (ls.map eIs) = ls.map eIs := by
    induction ls with
    | nil => rfl
    | cons l r ih =>
      simp only [List.map_cons, cellsAll, List.flatMap_cons] at ih ⊢
      rw [ih]
      rfl
  rw [h1]
  apply List.ext_getElem?
  intro i
  simp only [outC, List.getElem?_map, List.getElem?_mapIdx]
  cases ls[i]? with
  | none => rfl
  | some l =>
    simp only [Option.map_some, Option.some.injEq]
    rw [shareCell_lst]

theorem outC_upto {b n : Nat} {ls : List (List Int)} (h : b + ls.length ≤ n) : uptoL n (outC b ls) := by
  rw [uptoL_iff]
  intro x hx
  obtain ⟨j, hj⟩ := List.mem_iff_getElem?.1 hx
  simp only [outC, List.getElem?_mapIdx] at hj
  cases hl : ls[j]? with
  | none => rw [hl] at hj; cases hj
  | some l =>
    rw [hl] at hj
    simp only [Option.map_some, Option.some.injEq] at hj
    subst hj
    have := lt_of_getElem? hl
    exact ⟨aI_upto _ _, show _ < _ by omega⟩

theorem splice_one {cs : List AVal} {j : Nat} (x : AVal) (h : j < cs.length) : splice cs j [x] = cs.set j x := by
  apply List.ext_getElem?
  intro i
  rw [splice_get (by simp; omega), List.getElem?_set]
  simp only [List.length_cons, List.length_nil, Nat.zero_add]
  by_cases e : j = i
  · subst e
    simp [h]
  · rw [if_neg (by omega), if_neg e]

/-- Objects: the second is an array of lists, the lists' own objects follow. -/
structure PO (ls : List (List Int)) (O : List AObj) : Prop where
  len : O.length = ls.length + 2
  arr : O[1]? = some (.cells (outC 2 ls))
  sp : ∀ j l, ls[j]? = some l → O[2 + j]? = some (.spare l.length)
  up : ∀ o ∈ O, o.upto O.length

theorem PO.push {ls : List (List Int)} {O : List AObj} (h : PO ls O) {j : Nat} {l : List Int} (hj : ls[j]? = some l) (k : Int) : PO (ls.set j (l ++ [k])) ((O.set (2 + j) (.spare (l.length + 1))).set 1 (.cells (outC 2 (ls.set j (l ++ [k]))))) := by
  have hlt := lt_of_getElem? hj
  have hl := h.len
  refine ⟨by simp [hl], ?_, fun i m hi => ?_, ?_⟩
  · rw [List.getElem?_set_self (by simp; omega)]
  · rw [List.getElem?_set_ne (by omega)]
    by_cases e : j = i
    · subst e
      rw [List.getElem?_set_self hlt] at hi
      simp only [Option.some.injEq] at hi
      subst hi
      rw [List.getElem?_set_self (by omega)]
      simp
    · rw [List.getElem?_set_ne e] at hi
      rw [List.getElem?_set_ne (by omega)]
      exact h.sp i m hi
  · have h1 : ∀ o ∈ O.set (2 + j) (.spare (l.length + 1)), o.upto O.length := uptoO_set h.up trivial
    have h2 := uptoO_set (k := 1) (x := .cells (outC 2 (ls.set j (l ++ [k])))) h1 (by
      show uptoL _ _
      exact outC_upto (by simp [hl]; omega))
    simpa using h2

/-- cfg.Preds -/
def predE (k : Nat) (ls : List (List Int)) (e : Edge) : List (List Int) := ls.set e.block.toNat ((ls[e.block.toNat]?.getD []) ++ [(k : Int)])
def predB (k : Nat) (ls : List (List Int)) (es : List Edge) : List (List Int) := es.foldl (predE k) ls
def predL : Nat → List (List Int) → List Block → List (List Int)
  | _, ls, [] => ls
  | k, ls, b :: r => predL (k + 1) (predB k ls b.term.to) r
def predsM (f : Func) : List (List Int) := predL 0 (List.replicate f.blocks.length []) f.blocks

theorem predE_len (k : Nat) (ls : List (List Int)) (e : Edge) : (predE k ls e).length = ls.length := by simp [predE]
theorem predB_len (k : Nat) : ∀ (es : List Edge) (ls : List (List Int)), (predB k ls es).length = ls.length
  | [], _ => rfl
  | e :: r, ls => by
    show (predB k (predE k ls e) r).length = _
    rw [predB_len k r, predE_len]
theorem predL_len : ∀ (l : List Block) (k : Nat) (ls : List (List Int)), (predL k ls l).length = ls.length
  | [], _, _ => rfl
  | b :: r, k, ls => by
    simp only [predL]
    rw [predL_len r, predB_len]

end Go.Proofs.Ythhjebmgmjemoaa
end

section
set_option linter.unusedSimpArgs false
set_option maxRecDepth 100000
set_option maxHeartbeats 4000000
namespace Go.Proofs.Ythhjebmgmjemoaa
open Go.Av

/-- The answer of cfg.Preds. -/
def predsR (f : Func) : AVal := if checkFuncM f = 0 then .tup [.lst 1 ((predsM f).map eIs) .sh, aI 0] else .tup [.lst 1 [] .sh, aI (checkFuncM f)]

/-- No list has more than c elements. -/
def Bnd (c : Nat) (ls : List (List Int)) : Prop := ∀ l ∈ ls, l.length ≤ c
theorem Bnd.push {c : Nat} {ls : List (List Int)} (h : Bnd c ls) {j : Nat} {l : List Int} (hj : ls[j]? = some l) (k : Int) : Bnd (c + 1) (ls.set j (l ++ [k])) := fun m hm => by
 rcases List.mem_or_eq_of_mem_set hm with q | q
 ·have := h m q
  omega
 ·subst q
  have := h l (List.mem_of_getElem? hj)
  simp
  omega
theorem Bnd.mono {c d : Nat} {ls : List (List Int)} (h : Bnd c ls) (hd : c ≤ d) : Bnd d ls := fun l hl => Nat.le_trans (h l hl) hd

theorem nils_flat (n : Nat) : (List.replicate n [AVal.lst 1 [] .ex]).flatten = List.replicate n (.lst 1 [] .ex) := by
 induction n with
 | zero => rfl
 | succ n ih => rw [List.replicate_succ, List.flatten_cons, ih, List.replicate_succ]; rfl

theorem preds_spec (f : Func) (hfit : f.fit) : PCall Try.prog 21 [f.enc] (predsR f) := by
 have hck := checkFunc_spec f hfit
 unfold predsR
 by_cases hc : checkFuncM f = 0
 ·rw [if_pos hc]
  rw [hc] at hck
  have hw := checkFunc_ok hfit hc
  have hn : f.blocks.length ≤ 128 := hw.few
  obtain ⟨N, hN⟩ : ∃ N, N = f.blocks.length := ⟨_, rfl⟩
  obtain ⟨R, hR⟩ : ∃ R, R = predsM f := ⟨_, rfl⟩
  have hRl : R.length = N := by rw [hR, hN, predsM, predL_len]; simp
  rw [← hR]
  unfold predsM at hR
  refine ecall_of hT true 0 Try.func21 rfl (by kernel_rfl) (by simp [Try.ntmps21]) (by simp) ?_
  show AWP Try.prog _ _ _ ⟨50, _, _⟩
  dsimp only [Tmp, TypeId, slotsOf]
  refine zg1 ?_
  simp -dsimp only [simprocAttr, ↓vpre, zp]
  refine za0 ?_
  refine awp_freeze1 1 0 (.ip none [aI f.name, eBlocks f.blocks]) rfl (by simp [AObj.isSpare]) trivial rfl ?_ ?_
  rotate_left
  simp -dsimp only [simprocAttr, ↓vpre, zp]
  ·refine zg2 ?_
   simp -dsimp only [simprocAttr, ↓vpre, zp]
   refine .inl ⟨_, hck, by simp only [uptoL, AVal.upto, zt, zu, aI_upto], later_intro ?_⟩
   simp -dsimp only [simprocAttr, ↓vpre, zp]
   refine za0 ?_
   refine zg1 ?_
   simp -dsimp only [simprocAttr, ↓vpre, zp]
   refine za0 ?_
   refine zk0 rfl (fun h => ?_) (fun h => ?_)
   ·cases h
   ·refine zb0 ?_
    refine zg1 ?_
    simp -dsimp only [simprocAttr, ↓vpre, zp, nils_flat, ← hN]
    refine ⟨by omega, by omega, ?_⟩
    refine za0 ?_
    have hpo : PO (List.replicate N []) (([AObj.gone, AObj.cells []] ++ List.replicate N (AObj.spare 0)).set 1 (.cells ((List.range N).map fun j => .lst 1 [] (.tok ([AObj.gone, AObj.cells []].length + j))))) := by
     refine ⟨by simp, ?_, fun j l hj => ?_, ?_⟩
     ·rw [List.getElem?_set_self (by simp), outC_nil]
      rfl
     ·have hj' := lt_of_getElem? hj
      rw [List.length_replicate] at hj'
      rw [List.getElem?_set_ne (by omega), List.getElem?_append_right (by simp)]
      simp only [List.length_cons, List.length_nil, Nat.zero_add, Nat.add_sub_cancel_left]
      simp [hj'] at hj ⊢
      rw [hj]
      rfl
     ·rw [← outC_nil]
      have := uptoO_set (k := 1) (n := N + 2) (x := .cells (outC 2 (List.replicate N []))) (O := [AObj.gone, AObj.cells []] ++ List.replicate N (AObj.spare 0)) (fun o ho => by
       rcases List.mem_append.1 ho with q | q
       ·simp at q
        rcases q with rfl | rfl <;> trivial
       ·rw [(List.mem_replicate.1 q).2]
        trivial) (outC_upto (by simp; omega))
      simpa using this
    show AWP Try.prog _ _ _ ⟨_, _, List.set [AObj.gone, AObj.cells []] 1 (.cells (List.replicate N (AVal.lst 1 [] .ex)))⟩
    refine awp_ownAll 1 N (by simp) ?_
    generalize ([AObj.gone, AObj.cells []] ++ List.replicate N (AObj.spare 0)).set 1 (.cells ((List.range N).map fun j => .lst 1 [] (.tok ([AObj.gone, AObj.cells []].length + j)))) = O0 at *
    rw [← hN] at hR
    refine zg2 ?_
    simp -dsimp only [simprocAttr, ↓vpre, zp, ← hN]
    refine za0 ?_
    refine awp_block (awp_loop (ι := {p : Nat × List (List Int) × List AObj // p.1 ≤ N ∧ PO p.2.1 p.2.2 ∧ p.2.1.length = N ∧ Bnd (p.1 * 257) p.2.1 ∧ R = predL p.1 p.2.1 (f.blocks.drop p.1)}) (fun p => ⟨50, [(1, .ip none [aI f.name, eBlocks f.blocks]), (5, .ms 1 0 N N), (20, eBlocks f.blocks), (21, aI N), (22, aI p.1.1)], p.1.2.2⟩) (fun p => N - p.1.1) ⟨(0, _, O0), by simp, hpo, by simp, by intro l hl; simp [(List.mem_replicate.1 hl).2], hR⟩ ?_ ?_)
    ·refine ⟨rfl, ?_, ?_⟩
     rotate_left
     simp -dsimp only [simprocAttr, ↓vpre, zp, Says, exists_eq_left', Option.some.injEq, sub_self, and_assoc, true_and, and_true]
     all_goals rfl
    ·rintro ⟨⟨k, ls, O⟩, hk, hp, hls, hbd, hke⟩
     simp only at hk hp hls hbd hke
     have hOl := hp.len
     have hup := hp.up
     refine zg1 ?_
     simp -dsimp only [simprocAttr, ↓vpre, zp]
     refine za0 ?_
     refine zk1 rfl (fun h => ?_) (fun h => ?_)
     ·refine zb0 ?_
      have hlt : k < N := by simpa using h
      obtain ⟨b, hb⟩ : ∃ b, f.blocks[k]? = some b := ⟨f.blocks[k]'(by omega), List.getElem?_eq_getElem _⟩
      have hbm := List.mem_of_getElem? hb
      have hend := end_ok (hw.blk b hbm).fin
      have hto : b.term.to.length ≤ 257 := by
       rcases (show (b.term.kind = 0 ∨ b.term.kind = 4) ∨ b.term.kind = 1 ∨ b.term.kind = 2 ∨ b.term.kind = 3 by have := hend.kind; omega) with q | q | q | q
       ·rw [hend.to q]; simp
       ·rw [hend.jump q]; omega
       ·rw [hend.cond q]; omega
       ·rw [hend.switch q]; have := hend.cases; omega
      rw [drop_at hb] at hke
      simp only [predL] at hke
      obtain ⟨L1, hL1⟩ : ∃ L1, L1 = predB k ls b.term.to := ⟨_, rfl⟩
      rw [← hL1] at hke
      refine awp_seq (awp_block ?_)
      refine zg1 ?_
      simp -dsimp only [simprocAttr, ↓vpre, zp, hb]
      refine za0 ?_
      refine awp_local 7 ([eIs b.params, eInss b.ins, aI b.term.kind, aI b.term.arg, aI b.term.n, eIs b.term.cases, eEdges b.term.to]) [(1, .ip none [aI f.name, eBlocks f.blocks]), (5, .ms 1 0 N N), (20, eBlocks f.blocks), (21, aI N), (22, aI k), (6, aI k), (7, .ip none [eIs b.params, eInss b.ins, aI b.term.kind, aI b.term.arg, aI b.term.n, eIs b.term.cases, eEdges b.term.to])] (by simp [putS, dropS, Go.Av.look]) (by rfl) (by omega) (by simp [putS, dropS, Go.Av.look]) ?_ ?_ ?_
      ·exact hup
      ·simp [AVal.upto, uptoL, aI_upto, Edge.map_upto, Ins.map_upto, Block.map_upto, hOl]
      refine zg1 ?_
      simp -dsimp only [simprocAttr, ↓vpre, zp]
      refine za0 ?_
      refine awp_block (awp_loop (ι := {p : Nat × List (List Int) × List AObj // p.1 ≤ b.term.to.length ∧ PO p.2.1 p.2.2 ∧ p.2.1.length = N ∧ Bnd (k * 257 + p.1) p.2.1 ∧ L1 = predB k p.2.1 (b.term.to.drop p.1)}) (fun p => ⟨50, [(1, .ip none [aI f.name, eBlocks f.blocks]), (5, .ms 1 0 N N), (20, eBlocks f.blocks), (21, aI N), (22, aI k), (6, aI k), (29, eEdges b.term.to), (30, aI b.term.to.length), (31, aI p.1.1)], p.1.2.2⟩) (fun p => b.term.to.length - p.1.1) ⟨(0, ls, O), by simp, hp, hls, hbd, hL1⟩ ?_ ?_)
      ·refine ⟨rfl, ?_, ?_⟩
       rotate_left
       simp -dsimp only [simprocAttr, ↓vpre, zp, Says, exists_eq_left', Option.some.injEq, sub_self, and_assoc, true_and, and_true]
       all_goals rfl
      ·rintro ⟨⟨z, ls, O⟩, hz, hp, hls, hbd, hze⟩
       simp only at hz hp hls hbd hze
       have hOl := hp.len
       have hup := hp.up
       refine zg1 ?_
       simp -dsimp only [simprocAttr, ↓vpre, zp]
       refine za0 ?_
       refine zk1 rfl (fun h => ?_) (fun h => ?_)
       ·refine zb0 ?_
        have hlz : z < b.term.to.length := by simpa using h
        obtain ⟨e, he⟩ : ∃ e, b.term.to[z]? = some e := ⟨b.term.to[z], by simp [hlz]⟩
        have hee := (hend.edges e (List.mem_of_getElem? he)).1
        rw [drop_at he] at hze
        simp only [predB, List.foldl_cons] at hze
        obtain ⟨j, hj⟩ : ∃ j : Nat, e.block = (j : Int) := ⟨e.block.toNat, by omega⟩
        have hjN : j < N := by omega
        obtain ⟨l, hl⟩ : ∃ l, ls[j]? = some l := ⟨ls[j]'(by omega), List.getElem?_eq_getElem _⟩
        have hpe : predE k ls e = ls.set j (l ++ [(k : Int)]) := by simp [predE, hj, hl]
        rw [hpe] at hze
        have hget := outC_get (b := 2) hl
        have hsp := hp.sp j l hl
        have hpn := hp.push hl k
        have hput := outC_set (b := 2) (ls := ls) (j := j) (l ++ [(k : Int)])
        rw [List.map_append] at hput
        have hlb := hbd l (List.mem_of_getElem? hl)
        have harr := hp.arr
        have harr2 := at_set_ne (k := 1) (j := 2 + j) (y := .spare (l.length + 1)) harr (by omega)
        refine awp_seq (awp_block ?_)
        refine zg1 ?_
        simp -dsimp only [simprocAttr, ↓vpre, zp, he]
        refine za0 ?_
        refine awp_local 9 ([aI e.block, eIs e.args]) [(1, .ip none [aI f.name, eBlocks f.blocks]), (5, .ms 1 0 N N), (20, eBlocks f.blocks), (21, aI N), (22, aI k), (6, aI k), (29, eEdges b.term.to), (30, aI b.term.to.length), (31, aI z), (9, .ip none [aI e.block, eIs e.args])] (by simp [putS, dropS, Go.Av.look]) (by rfl) (by omega) (by simp [putS, dropS, Go.Av.look]) ?_ ?_ ?_
        ·exact hup
        ·simp [AVal.upto, uptoL, aI_upto, Edge.map_upto, Ins.map_upto, Block.map_upto, hOl]
        refine zg0 ?_
        simp -dsimp only [simprocAttr, ↓vpre, zp, hj, harr, hget, hsp, harr2, hput, Int.toNat_natCast, Nat.mul_one, List.length_map, List.length_set]
        refine ⟨by omega, by omega, by omega, by omega, by rw [outC_len]; omega, ?_⟩
        refine ⟨orderB_ren [1, 2 + j] O.length [.pure, .pure, .pure, .pure, .pure, .pure, .pure, .rd 0, .pure, .pure, .wr 2 [1], .pure, .wr 2 [0]] (by simp; omega) (by simp; omega) rfl rfl (by kernel_rfl), at_intro ?_⟩
        simp -dsimp only [vend, ne_eq, Nat.reduceEqDiff, reduceCtorEq]
        have hput' : (outC 2 ls).set j (.lst 1 (l.map aI ++ [.v (.int .i64 k)]) (.tok (2 + j))) = outC 2 (ls.set j (l ++ [(k : Int)])) := hput
        rw [splice_one _ (by rw [outC_len]; omega), hput']
        refine zg0 ?_
        simp -dsimp only [simprocAttr, ↓vpre, zp]
        repeat (refine ⟨by omega, ?_⟩)
        refine zl0 ?_
        refine ⟨⟨(z + 1, _, _), by simp only; omega, hpn, by simp [hls], hbd.push hl k, hze⟩, by simp; omega, ?_⟩
        refine ⟨rfl, ?_, ?_⟩
        rotate_left
        simp -dsimp only [simprocAttr, ↓vpre, zp, Says, exists_eq_left', Option.some.injEq, sub_self, and_assoc, true_and, and_true]
        ·exact Sub.int (by simp)
        ·rfl
       ·refine awp_exit ?_
        simp -dsimp only [vend, ne_eq, Nat.reduceEqDiff, reduceCtorEq]
        have hzz : z = b.term.to.length := by simp at h; omega
        subst hzz
        rw [List.drop_length] at hze
        simp only [predB, List.foldl_nil] at hze
        subst hze
        refine zg0 ?_
        simp -dsimp only [simprocAttr, ↓vpre, zp]
        repeat (refine ⟨by omega, ?_⟩)
        refine zl0 ?_
        refine ⟨⟨(k + 1, _, O), by simp only; omega, hp, hls, hbd.mono (by omega), hke⟩, by simp; omega, ?_⟩
        refine ⟨rfl, ?_, ?_⟩
        rotate_left
        simp -dsimp only [simprocAttr, ↓vpre, zp, Says, exists_eq_left', Option.some.injEq, sub_self, and_assoc, true_and, and_true]
        ·exact Sub.int (by simp)
        ·rfl
     ·refine awp_exit ?_
      simp -dsimp only [vend, ne_eq, Nat.reduceEqDiff, reduceCtorEq]
      have hkk : k = N := by simp at h; omega
      subst hkk
      rw [hN, List.drop_length] at hke
      simp only [predL] at hke
      subst hke
      have hshare := outC_share 2 R
      have hcl : (outC 2 R).length = k := by rw [outC_len, hls]
      refine awp_freeze1 5 1 (o := .cells (outC 2 R)) (.lst 1 (R.map eIs) .sh) hp.arr (by simp [AObj.isSpare]) trivial rfl (FSub.ms (cs := outC 2 R) hp.arr (by intro x hx; obtain ⟨l, _, rfl⟩ := List.mem_map.1 hx; rfl) (by rw [List.length_map, hls]) (by rw [List.drop_zero, Nat.mul_one, ← hcl, List.take_length, hshare])) ?_
      simp -dsimp only [simprocAttr, ↓vpre, zp]
      refine zg1 ?_
      simp -dsimp only [simprocAttr, ↓vpre, zp]
      refine za0 ?_
      refine awp_ret ?_
      simp -dsimp only [simprocAttr, ↓vpre, zp, RetTo, Try.results21, retVals, retVal, mkRet, AVal.upto, Nat.zero_le, Nat.le_refl, Nat.le_add_right, seqPost_ret, blockPost_ret, loopPost_ret]
      simp only [uptoL, AVal.upto, and_true]
      rw [uptoL_iff]
      intro x hx
      obtain ⟨l, _, rfl⟩ := List.mem_map.1 hx
      exact ⟨aI_upto _ _, trivial⟩
  ·exact FSub.mp rfl rfl
 ·rw [if_neg hc]
  obtain ⟨e, he⟩ : ∃ e, e = checkFuncM f := ⟨_, rfl⟩
  rw [← he] at hc hck ⊢
  have hde : decide (e = 0) = false := decide_eq_false hc
  refine ecall_of hT true 0 Try.func21 rfl (by kernel_rfl) (by simp [Try.ntmps21]) (by simp) ?_
  show AWP Try.prog _ _ _ ⟨50, _, _⟩
  dsimp only [Tmp, TypeId, slotsOf]
  refine zg1 ?_
  simp -dsimp only [simprocAttr, ↓vpre, zp]
  refine za0 ?_
  refine awp_freeze1 1 0 (.ip none [aI f.name, eBlocks f.blocks]) rfl (by simp [AObj.isSpare]) trivial rfl ?_ ?_
  rotate_left
  simp -dsimp only [simprocAttr, ↓vpre, zp]
  ·refine zg2 ?_
   simp -dsimp only [simprocAttr, ↓vpre, zp]
   refine .inl ⟨_, hck, by simp only [uptoL, AVal.upto, zt, zu, aI_upto], later_intro ?_⟩
   simp -dsimp only [simprocAttr, ↓vpre, zp]
   refine za0 ?_
   refine zg1 ?_
   simp -dsimp only [simprocAttr, ↓vpre, zp, hde]
   refine za0 ?_
   refine zk0 rfl (fun h => ?_) (fun h => ?_)
   ·refine zg1 ?_
    simp -dsimp only [simprocAttr, ↓vpre, zp]
    refine za0 ?_
    refine awp_ret ?_
    simp -dsimp only [simprocAttr, ↓vpre, zp, RetTo, Try.results21, retVals, retVal, mkRet, AVal.upto, Nat.zero_le, Nat.le_refl, Nat.le_add_right, seqPost_ret, blockPost_ret, loopPost_ret]
    simp [uptoL, AVal.upto]
   ·cases h
  ·exact FSub.mp rfl rfl
end Go.Proofs.Ythhjebmgmjemoaa
end

section
set_option linter.unusedSimpArgs false
set_option maxRecDepth 100000
set_option maxHeartbeats 4000000
namespace Go.Proofs.Ythhjebmgmjemoaa
open Go.Av

def sumL (ls : List (List Int)) : Nat := (ls.map List.length).sum
def sumT (bs : List Block) : Nat := (bs.map fun b => b.term.to.length).sum

theorem sumL_predE (k : Nat) (ls : List (List Int)) (e : Edge) (h : e.block.toNat < ls.length) : sumL (predE k ls e) = sumL ls + 1 := by
 have hg : ls[e.block.toNat]? = some ls[e.block.toNat] := List.getElem?_eq_getElem h
 unfold sumL predE
 rw [List.map_set]
 have := sum_set (l := ls.map List.length) (k := e.block.toNat) (x := (ls[e.block.toNat]?.getD [] ++ [(k : Int)]).length) (y := ls[e.block.toNat].length) (by simp [hg])
 rw [hg] at this ⊢
 simp only [Option.getD_some, List.length_append, List.length_cons, List.length_nil] at this ⊢
 omega

theorem sumL_predB (k : Nat) : ∀ (es : List Edge) (ls : List (List Int)), (∀ e ∈ es, e.block.toNat < ls.length) → sumL (predB k ls es) = sumL ls + es.length
 | [], ls, _ => rfl
 | e :: r, ls, h => by
  show sumL (predB k (predE k ls e) r) = _
  rw [sumL_predB k r _ (fun x hx => by rw [predE_len]; exact h x (by simp [hx])), sumL_predE k ls e (h e (by simp))]
  simp only [List.length_cons]
  omega

theorem sumL_predL : ∀ (bs : List Block) (k : Nat) (ls : List (List Int)), (∀ b ∈ bs, ∀ e ∈ b.term.to, e.block.toNat < ls.length) → sumL (predL k ls bs) = sumL ls + sumT bs
 | [], _, _, _ => rfl
 | b :: r, k, ls, h => by
  simp only [predL]
  rw [sumL_predL r (k + 1) _ (fun x hx e he => by rw [predB_len]; exact h x (by simp [hx]) e he), sumL_predB k _ _ (h b (by simp))]
  simp only [sumT, List.map_cons, List.sum_cons]
  omega

theorem sumL_zero (n : Nat) : sumL (List.replicate n []) = 0 := by
 induction n with
 | zero => rfl
 | succ n ih => simp only [sumL, List.replicate_succ, List.map_cons, List.sum_cons] at ih ⊢; simpa using ih

theorem sumT_drop {bs : List Block} {j : Nat} {b : Block} (h : bs[j]? = some b) : sumT (bs.drop j) = b.term.to.length + sumT (bs.drop (j + 1)) := by
 rw [drop_at h]
 rfl
theorem sumL_drop {bs : List (List Int)} {j : Nat} {b : List Int} (h : bs[j]? = some b) : sumL (bs.drop j) = b.length + sumL (bs.drop (j + 1)) := by
 rw [drop_at h]
 rfl

theorem to_few {f : Func} {t : Term} (hend : EndW f t) : t.to.length ≤ 257 := by
 rcases (show (t.kind = 0 ∨ t.kind = 4) ∨ t.kind = 1 ∨ t.kind = 2 ∨ t.kind = 3 by have := hend.kind; omega) with q | q | q | q
 ·rw [hend.to q]; simp
 ·rw [hend.jump q]; omega
 ·rw [hend.cond q]; omega
 ·rw [hend.switch q]; have := hend.cases; omega

theorem sumT_le : ∀ (bs : List Block), (∀ b ∈ bs, b.term.to.length ≤ 257) → sumT bs ≤ bs.length * 257
 | [], _ => by simp [sumT]
 | b :: r, h => by
  have := sumT_le r (fun x hx => h x (by simp [hx]))
  have := h b (by simp)
  simp only [sumT, List.map_cons, List.sum_cons, List.length_cons] at *
  omega

theorem sumL_le_drop (ls : List (List Int)) (k : Nat) : sumL (ls.drop k) ≤ sumL ls := by
 induction k generalizing ls with
 | zero => simp
 | succ k ih =>
  cases ls with
  | nil => simp
  | cons a r =>
   have := ih r
   simp only [List.drop_succ_cons]
   simp only [sumL, List.map_cons, List.sum_cons] at *
   omega

theorem preds_len (f : Func) : (predsM f).length = f.blocks.length := by simp [predsM, predL_len]

theorem cfgEdges_law (f : Func) (hfit : f.fit) : PCall Try.prog 7 [f.enc] (.v (.bool true)) := by
 have hwk := works_spec
 have hpr := preds_spec f hfit
 unfold predsR at hpr
 by_cases hc : checkFuncM f = 0
 ·rw [if_pos hc] at hpr
  have hw := checkFunc_ok hfit hc
  have hn : f.blocks.length ≤ 128 := hw.few
  have htot : sumL (predsM f) = sumT f.blocks := by
   rw [predsM, sumL_predL, sumL_zero, Nat.zero_add]
   intro b hb e he
   have := ((end_ok (hw.blk b hb).fin).edges e he).1
   rw [List.length_replicate]
   omega
  have hle := sumT_le f.blocks (fun b hb => to_few (end_ok (hw.blk b hb).fin))
  have hPl := preds_len f
  obtain ⟨P, hP⟩ : ∃ P, P = predsM f := ⟨_, rfl⟩
  rw [← hP] at hpr htot hPl
  refine ecall_of hT true 0 Try.func7 rfl (by kernel_rfl) (by simp [Try.ntmps7]) (by simp) ?_
  show AWP Try.prog _ _ _ ⟨49, _, _⟩
  dsimp only [Tmp, TypeId, slotsOf]
  refine zg1 ?_
  simp -dsimp only [simprocAttr, ↓vpre, zp]
  refine za0 ?_
  refine awp_freeze1 1 0 (.ip none [aI f.name, eBlocks f.blocks]) rfl (by simp [AObj.isSpare]) trivial rfl ?_ ?_
  rotate_left
  simp -dsimp only [simprocAttr, ↓vpre, zp]
  ·refine zg2 ?_
   simp -dsimp only [simprocAttr, ↓vpre, zp]
   refine .inl ⟨_, hwk, by simp only [uptoL, AVal.upto, zt, zu, aI_upto], later_intro ?_⟩
   simp -dsimp only [simprocAttr, ↓vpre, zp]
   refine za0 ?_
   refine zk0 rfl (fun h => ?_) (fun h => ?_)
   ·cases h
   ·refine zb0 ?_
    refine zg1 ?_
    simp -dsimp only [simprocAttr, ↓vpre, zp]
    refine .inl ⟨_, hpr, by simp only [uptoL, AVal.upto, zt, zu, aI_upto], later_intro ?_⟩
    simp -dsimp only [simprocAttr, ↓vpre, zp]
    refine za0 ?_
    refine zg2 ?_
    simp -dsimp only [simprocAttr, ↓vpre, zp]
    refine za0 ?_
    refine zk0 rfl (fun h => ?_) (fun h => ?_)
    ·cases h
    ·refine zb0 ?_
     refine zg1 ?_
     simp -dsimp only [simprocAttr, ↓vpre, zp]
     refine za0 ?_
     refine zg2 ?_
     simp -dsimp only [simprocAttr, ↓vpre, zp]
     refine za0 ?_
     refine awp_block (awp_loop (ι := {p : Nat × Nat // p.1 ≤ P.length ∧ p.2 + sumL (P.drop p.1) = sumT f.blocks}) (fun p => ⟨49, [(1, .ip none [aI f.name, eBlocks f.blocks]), (5, aI p.1.2), (22, .lst 1 (P.map eIs) .sh), (23, aI P.length), (24, aI p.1.1)], [.gone]⟩) (fun p => P.length - p.1.1) ⟨(0, 0), by simp, by simpa using htot⟩ ?_ ?_)
     ·refine ⟨rfl, ?_, ?_⟩
      rotate_left
      simp -dsimp only [simprocAttr, ↓vpre, zp, Says, exists_eq_left', Option.some.injEq, sub_self, and_assoc, true_and, and_true]
      all_goals rfl
     ·rintro ⟨⟨k, n⟩, hk, hke⟩
      simp only at hk hke
      refine zg1 ?_
      simp -dsimp only [simprocAttr, ↓vpre, zp]
      refine za0 ?_
      refine zk1 rfl (fun h => ?_) (fun h => ?_)
      ·refine zb0 ?_
       have hlt : k < P.length := by simpa using h
       obtain ⟨l, hl⟩ : ∃ l, P[k]? = some l := ⟨P[k], by simp [hlt]⟩
       rw [sumL_drop hl] at hke
       refine awp_seq (awp_block ?_)
       refine zg1 ?_
       simp -dsimp only [simprocAttr, ↓vpre, zp, hl]
       refine za0 ?_
       refine zg0 ?_
       simp -dsimp only [simprocAttr, ↓vpre, zp]
       repeat (refine ⟨by omega, ?_⟩)
       refine za0 ?_
       refine zg0 ?_
       simp -dsimp only [simprocAttr, ↓vpre, zp]
       repeat (refine ⟨by omega, ?_⟩)
       refine zl0 ?_
       refine ⟨⟨(k + 1, n + l.length), by simp only; omega, by simp only; omega⟩, by simp; omega, ?_⟩
       refine ⟨rfl, ?_, ?_⟩
       rotate_left
       simp -dsimp only [simprocAttr, ↓vpre, zp, Says, exists_eq_left', Option.some.injEq, sub_self, and_assoc, true_and, and_true]
       all_goals first | exact ⟨Sub.int (by simp), Sub.int (by simp)⟩ | rfl
      ·refine awp_exit ?_
       simp -dsimp only [vend, ne_eq, Nat.reduceEqDiff, reduceCtorEq]
       have hkk : k = P.length := by simp at h; omega
       subst hkk
       rw [List.drop_length] at hke
       have hn0 : n = sumT f.blocks := by simpa [sumL] using hke
       refine zg2 ?_
       simp -dsimp only [simprocAttr, ↓vpre, zp]
       refine za0 ?_
       refine awp_block (awp_loop (ι := {p : Nat × Nat // p.1 ≤ f.blocks.length ∧ p.2 = sumT (f.blocks.drop p.1) ∧ p.2 ≤ 100000}) (fun p => ⟨49, [(1, .ip none [aI f.name, eBlocks f.blocks]), (5, aI p.1.2), (34, eBlocks f.blocks), (35, aI f.blocks.length), (36, aI p.1.1)], [.gone]⟩) (fun p => f.blocks.length - p.1.1) ⟨(0, n), by simp, by simpa using hn0, by simp only; omega⟩ ?_ ?_)
       ·refine ⟨rfl, ?_, ?_⟩
        rotate_left
        simp -dsimp only [simprocAttr, ↓vpre, zp, Says, exists_eq_left', Option.some.injEq, sub_self, and_assoc, true_and, and_true]
        rfl
       ·rintro ⟨⟨k, n⟩, hk, hke, hn1⟩
        simp only at hk hke hn1
        refine zg1 ?_
        simp -dsimp only [simprocAttr, ↓vpre, zp]
        refine za0 ?_
        refine zk1 rfl (fun h => ?_) (fun h => ?_)
        ·refine zb0 ?_
         have hlt : k < f.blocks.length := by simpa using h
         obtain ⟨b, hb⟩ : ∃ b, f.blocks[k]? = some b := ⟨f.blocks[k], by simp [hlt]⟩
         rw [sumT_drop hb] at hke
         refine awp_seq (awp_block ?_)
         refine zg1 ?_
         simp -dsimp only [simprocAttr, ↓vpre, zp, hb]
         refine za0 ?_
         refine awp_freeze1 9 1 (.ip none [eIs b.params, eInss b.ins, aI b.term.kind, aI b.term.arg, aI b.term.n, eIs b.term.cases, eEdges b.term.to]) rfl (by simp [AObj.isSpare]) trivial rfl ?_ ?_
         rotate_left
         simp -dsimp only [simprocAttr, ↓vpre, zp]
         ·refine awp_trunc' 1 [(1, .ip none [aI f.name, eBlocks f.blocks]), (5, aI n), (34, eBlocks f.blocks), (35, aI f.blocks.length), (36, aI k), (9, .ip none [eIs b.params, eInss b.ins, aI b.term.kind, aI b.term.arg, aI b.term.n, eIs b.term.cases, eEdges b.term.to])] (by simp) (by omega) [.gone] ?_ ?_ ?_ ?_ ?_
          ·rfl
          ·simp [AObj.upto, uptoL, AVal.upto, aI_upto, Func.map_upto, Block.map_upto, Edge.map_upto, Ins.map_upto]
          ·simp [Says, St.get, putS, dropS, Go.Av.look, Sub.refl]
          ·simp [AObj.upto, uptoL, AVal.upto, aI_upto, Func.map_upto, Block.map_upto, Edge.map_upto, Ins.map_upto]
          refine zg0 ?_
          simp -dsimp only [simprocAttr, ↓vpre, zp]
          repeat (refine ⟨by omega, ?_⟩)
          refine za0 ?_
          refine zg0 ?_
          simp -dsimp only [simprocAttr, ↓vpre, zp]
          repeat (refine ⟨by omega, ?_⟩)
          refine zl0 ?_
          refine ⟨⟨(k + 1, sumT (f.blocks.drop (k + 1))), by simp only; omega, rfl, by simp only; omega⟩, by simp; omega, ?_⟩
          refine ⟨rfl, ?_, ?_⟩
          rotate_left
          simp -dsimp only [simprocAttr, ↓vpre, zp, Says, exists_eq_left', Option.some.injEq, sub_self, and_assoc, true_and, and_true]
          all_goals first | exact ⟨Sub.int (by omega), Sub.int (by simp)⟩ | rfl
         ·exact FSub.mp rfl rfl
        ·refine awp_exit ?_
         simp -dsimp only [vend, ne_eq, Nat.reduceEqDiff, reduceCtorEq]
         have hkk : k = f.blocks.length := by simp at h; omega
         subst hkk
         rw [List.drop_length] at hke
         have hn0 : n = 0 := by simpa [sumT] using hke
         have hd : decide ((n : Int) = 0) = true := decide_eq_true (by omega)
         refine zg1 ?_
         simp -dsimp only [simprocAttr, ↓vpre, zp, hd]
         refine za0 ?_
         refine awp_ret ?_
         simp -dsimp only [simprocAttr, ↓vpre, zp, RetTo, Try.results7, retVals, retVal, mkRet, AVal.upto, Nat.zero_le, Nat.le_refl, Nat.le_add_right, seqPost_ret, blockPost_ret, loopPost_ret]
  ·exact FSub.mp rfl rfl
 ·rw [if_neg hc] at hpr
  obtain ⟨e, he⟩ : ∃ e, e = checkFuncM f := ⟨_, rfl⟩
  rw [← he] at hc hpr
  have hde : decide (e = 0) = false := decide_eq_false hc
  refine ecall_of hT true 0 Try.func7 rfl (by kernel_rfl) (by simp [Try.ntmps7]) (by simp) ?_
  show AWP Try.prog _ _ _ ⟨49, _, _⟩
  dsimp only [Tmp, TypeId, slotsOf]
  refine zg1 ?_
  simp -dsimp only [simprocAttr, ↓vpre, zp]
  refine za0 ?_
  refine awp_freeze1 1 0 (.ip none [aI f.name, eBlocks f.blocks]) rfl (by simp [AObj.isSpare]) trivial rfl ?_ ?_
  rotate_left
  simp -dsimp only [simprocAttr, ↓vpre, zp]
  ·refine zg2 ?_
   simp -dsimp only [simprocAttr, ↓vpre, zp]
   refine .inl ⟨_, hwk, by simp only [uptoL, AVal.upto, zt, zu, aI_upto], later_intro ?_⟩
   simp -dsimp only [simprocAttr, ↓vpre, zp]
   refine za0 ?_
   refine zk0 rfl (fun h => ?_) (fun h => ?_)
   ·cases h
   ·refine zb0 ?_
    refine zg1 ?_
    simp -dsimp only [simprocAttr, ↓vpre, zp]
    refine .inl ⟨_, hpr, by simp only [uptoL, AVal.upto, zt, zu, aI_upto], later_intro ?_⟩
    simp -dsimp only [simprocAttr, ↓vpre, zp]
    refine za0 ?_
    refine zg2 ?_
    simp -dsimp only [simprocAttr, ↓vpre, zp, hde]
    refine za0 ?_
    refine zk0 rfl (fun h => ?_) (fun h => ?_)
    ·refine zg1 ?_
     simp -dsimp only [simprocAttr, ↓vpre, zp]
     refine za0 ?_
     refine awp_ret ?_
     simp -dsimp only [simprocAttr, ↓vpre, zp, RetTo, Try.results7, retVals, retVal, mkRet, AVal.upto, Nat.zero_le, Nat.le_refl, Nat.le_add_right, seqPost_ret, blockPost_ret, loopPost_ret]
    ·cases h
  ·exact FSub.mp rfl rfl
end Go.Proofs.Ythhjebmgmjemoaa
end
