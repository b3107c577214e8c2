/-
  Texts bound together by a program of mine: YthhjebmgmjemoaaPf, YthhjebmgmjemoaaT41, YthhjebmgmjemoaaPj, YthhjebmgmjemoaaT43, YthhjebmgmjemoaaPk, YthhjebmgmjemoaaT44, YthhjebmgmjemoaaT45, YthhjebmgmjemoaaT46, YthhjebmgmjemoaaPl, YthhjebmgmjemoaaT47.
-/
import Derived.Test.YthhjebmgmjemoaaJ5
set_option linter.all false

section
/-
  Lists of lists that grow: each owns the room behind it.
-/
namespace Go.Av

/-- m nil lists in the cells of an object come to own what is appended. -/
theorem awp_ownAll {P : Program} {kb : Nat} {c : Code} {Q : AEx → St → Prop} {n : Nat} {slots : List (Nat × AVal)} {O : List AObj} (k m : Nat) (hk : k < O.length)
    (h : AWP P kb c Q ⟨n, slots, (O ++ List.replicate m (AObj.spare 0)).set k (.cells ((List.range m).map fun j => .lst 1 [] (.tok (O.length + j))))⟩) : AWP P kb c Q ⟨n, slots, O.set k (.cells (List.replicate m (.lst 1 [] .ex)))⟩ := by
  obtain ⟨conv, hconv⟩ : ∃ conv : Nat → List AVal, conv = fun q => ((List.range q).map fun j => AVal.lst 1 [] (.tok (O.length + j))) ++ List.replicate (m - q) (.lst 1 [] .ex) := ⟨_, rfl⟩
  have key : ∀ q, q ≤ m → AWP P kb c Q ⟨n, slots, (O ++ List.replicate q (AObj.spare 0)).set k (.cells (conv q))⟩ → AWP P kb c Q ⟨n, slots, O.set k (.cells (List.replicate m (.lst 1 [] .ex)))⟩ := fun q => by
    induction q with
    | zero =>
      intro _ h
      simpa [hconv] using h
    | succ q ih =>
      intro hq h
      refine ih (by omega) (awp_ownCell k q (sz := 1) (cs := conv q) (xs := []) ?_ ?_ ?_)
      · rw [List.getElem?_set_self (by simp; omega)]
      · rw [hconv]
        simp only
        rw [List.getElem?_append_right (by simp)]
        simp only [List.length_map, List.length_range, Nat.sub_self]
        rw [show m - q = (m - (q + 1)) + 1 by omega, List.replicate_succ]
        rfl
      · have e1 : (O ++ List.replicate q (AObj.spare 0)).set k (.cells (conv q)) ++ [AObj.spare ([] : List AVal).length] = (O ++ List.replicate (q + 1) (AObj.spare 0)).set k (.cells (conv q)) := by
          rw [List.set_append_left _ _ hk, List.set_append_left _ _ hk, List.append_assoc]
          congr 1
          rw [List.replicate_succ']
          rfl
        have e2 : (conv q).set q (.lst 1 [] (.tok ((O ++ List.replicate q (AObj.spare 0)).set k (.cells (conv q))).length)) = conv (q + 1) := by
          rw [hconv]
          simp only [List.length_set, List.length_append, List.length_replicate]
          rw [List.set_append_right _ _ (by simp)]
          simp only [List.length_map, List.length_range, Nat.sub_self]
          rw [show m - q = (m - (q + 1)) + 1 by omega, List.replicate_succ, List.set_cons_zero, List.range_succ, List.map_append, List.append_assoc]
          rfl
        rw [e1, e2, List.set_set]
        exact h
  refine key m (Nat.le_refl _) ?_
  simpa [hconv] using h

end Go.Av
namespace Go.Proofs.Ythhjebmgmjemoaa
open Go.Av

/-- The cells of a list of lists of integers, of which the j-th owns object b + j. -/
def outC (b : Nat) (ls : List (List Int)) : List AVal := ls.mapIdx fun j l => .lst 1 (l.map aI) (.tok (b + j))

theorem outC_get {b : Nat} {ls : List (List Int)} {j : Nat} {l : List Int} (h : ls[j]? = some l) : (outC b ls)[j]? = some (.lst 1 (l.map aI) (.tok (b + j))) := by
  simp [outC, h]

theorem outC_set {b : Nat} {ls : List (List Int)} {j : Nat} (l : List Int) : (outC b ls).set j (.lst 1 (l.map aI) (.tok (b + j))) = outC b (ls.set j l) := by
  apply List.ext_getElem?
  intro i
  simp only [outC, List.getElem?_set, List.getElem?_mapIdx, List.length_mapIdx]
  by_cases e : j = i
  · subst e
    by_cases hl : j < ls.length
    · simp [hl]
    · simp [hl]
  · simp [e]

theorem outC_len (b : Nat) (ls : List (List Int)) : (outC b ls).length = ls.length := by simp [outC]

theorem outC_nil (b n : Nat) : outC b (List.replicate n []) = (List.range n).map fun j => .lst 1 [] (.tok (b + j)) := by
  apply List.ext_getElem?
  intro i
  simp only [outC, List.getElem?_mapIdx, List.getElem?_map]
  by_cases h : i < n
  · simp [h]
  · simp [h]

theorem outC_share (b : Nat) (ls : List (List Int)) : (outC b ls).map AVal.shareCell = cellsAll (ls.map eIs) := by
  have h1 : cellsAll (ls.map eIs) = ls.map eIs := by
    induction ls with
    | nil => rfl
    | cons l r ih =>
      simp only [List.map_cons, cellsAll, List.flatMap_cons] at ih ⊢
      rw [ih]
      rfl
  rw [h1]
  apply List.ext_getElem?
  intro i
  simp only [outC, List.getElem?_map, List.getElem?_mapIdx]
  cases ls[i]? with
  | none => rfl
  | some l =>
    simp only [Option.map_some, Option.some.injEq]
    rw [shareCell_lst]

theorem outC_upto {b n : Nat} {ls : List (List Int)} (h : b + ls.length ≤ n) : uptoL n (outC b ls) := by
  rw [uptoL_iff]
  intro x hx
  obtain ⟨j, hj⟩ := List.mem_iff_getElem?.1 hx
  simp only [outC, List.getElem?_mapIdx] at hj
  cases hl : ls[j]? with
  | none => rw [hl] at hj; cases hj
  | some l =>
    rw [hl] at hj
    simp only [Option.map_some, Option.some.injEq] at hj
    subst hj
    have := lt_of_getElem? hl
    exact ⟨aI_upto _ _, show _ < _ by omega⟩

theorem splice_one {cs : List AVal} {j : Nat} (x : AVal) (h : j < cs.length) : splice cs j [x] = cs.set j x := by
  apply List.ext_getElem?
  intro i
  rw [splice_get (by simp; omega), List.getElem?_set]
  simp only [List.length_cons, List.length_nil, Nat.zero_add]
  by_cases e : j = i
  · subst e
    simp [h]
  · rw [if_neg (by omega), if_neg e]

/-- Objects: the second is an array of lists, the lists' own objects follow. -/
structure PO (ls : List (List Int)) (O : List AObj) : Prop where
  len : O.length = ls.length + 2
  arr : O[1]? = some (.cells (outC 2 ls))
  sp : ∀ j l, ls[j]? = some l → O[2 + j]? = some (.spare l.length)
  up : ∀ o ∈ O, o.upto O.length

theorem PO.push {ls : List (List Int)} {O : List AObj} (h : PO ls O) {j : Nat} {l : List Int} (hj : ls[j]? = some l) (k : Int) : PO (ls.set j (l ++ [k])) ((O.set (2 + j) (.spare (l.length + 1))).set 1 (.cells (outC 2 (ls.set j (l ++ [k]))))) := by
  have hlt := lt_of_getElem? hj
  have hl := h.len
  refine ⟨by simp [hl], ?_, fun i m hi => ?_, ?_⟩
  · rw [List.getElem?_set_self (by simp; omega)]
  · rw [List.getElem?_set_ne (by omega)]
    by_cases e : j = i
    · subst e
      rw [List.getElem?_set_self hlt] at hi
      simp only [Option.some.injEq] at hi
      subst hi
      rw [List.getElem?_set_self (by omega)]
      simp
    · rw [List.getElem?_set_ne e] at hi
      rw [List.getElem?_set_ne (by omega)]
      exact h.sp i m hi
  · have h1 : ∀ o ∈ O.set (2 + j) (.spare (l.length + 1)), o.upto O.length := uptoO_set h.up trivial
    have h2 := uptoO_set (k := 1) (x := .cells (outC 2 (ls.set j (l ++ [k])))) h1 (by
      show uptoL _ _
      exact outC_upto (by simp [hl]; omega))
    simpa using h2

/-- cfg.Preds -/
def predE (k : Nat) (ls : List (List Int)) (e : Edge) : List (List Int) := ls.set e.block.toNat ((ls[e.block.toNat]?.getD []) ++ [(k : Int)])
def predB (k : Nat) (ls : List (List Int)) (es : List Edge) : List (List Int) := es.foldl (predE k) ls
def predL : Nat → List (List Int) → List Block → List (List Int)
  | _, ls, [] => ls
  | k, ls, b :: r => predL (k + 1) (predB k ls b.term.to) r
def predsM (f : Func) : List (List Int) := predL 0 (List.replicate f.blocks.length []) f.blocks

theorem predE_len (k : Nat) (ls : List (List Int)) (e : Edge) : (predE k ls e).length = ls.length := by simp [predE]
theorem predB_len (k : Nat) : ∀ (es : List Edge) (ls : List (List Int)), (predB k ls es).length = ls.length
  | [], _ => rfl
  | e :: r, ls => by
    show (predB k (predE k ls e) r).length = _
    rw [predB_len k r, predE_len]
theorem predL_len : ∀ (l : List Block) (k : Nat) (ls : List (List Int)), (predL k ls l).length = ls.length
  | [], _, _ => rfl
  | b :: r, k, ls => by
    simp only [predL]
    rw [predL_len r, predB_len]

theorem to_few {f : Func} {t : Term} (hend : EndW f t) : t.to.length ≤ 257 := by
  rcases (show (t.kind = 0 ∨ t.kind = 4) ∨ t.kind = 1 ∨ t.kind = 2 ∨ t.kind = 3 by have := hend.kind; omega) with q | q | q | q
  · rw [hend.to q]; simp
  · rw [hend.jump q]; omega
  · rw [hend.cond q]; omega
  · rw [hend.switch q]; have := hend.cases; omega

theorem preds_len (f : Func) : (predsM f).length = f.blocks.length := by simp [predsM, predL_len]

end Go.Proofs.Ythhjebmgmjemoaa
end

section
set_option linter.unusedSimpArgs false
set_option maxRecDepth 100000
set_option maxHeartbeats 4000000
namespace Go.Proofs.Ythhjebmgmjemoaa
open Go.Av

/-- The answer of cfg.Preds. -/
def predsR (f : Func) : AVal := if checkFuncM f = 0 then .tup [.lst 1 ((predsM f).map eIs) .sh, aI 0] else .tup [.lst 1 [] .sh, aI (checkFuncM f)]

/-- No list has more than c elements. -/
def Bnd (c : Nat) (ls : List (List Int)) : Prop := ∀ l ∈ ls, l.length ≤ c
theorem Bnd.push {c : Nat} {ls : List (List Int)} (h : Bnd c ls) {j : Nat} {l : List Int} (hj : ls[j]? = some l) (k : Int) : Bnd (c + 1) (ls.set j (l ++ [k])) := fun m hm => by
 rcases List.mem_or_eq_of_mem_set hm with q | q
 ·have := h m q
  omega
 ·subst q
  have := h l (List.mem_of_getElem? hj)
  simp
  omega
theorem Bnd.mono {c d : Nat} {ls : List (List Int)} (h : Bnd c ls) (hd : c ≤ d) : Bnd d ls := fun l hl => Nat.le_trans (h l hl) hd

theorem nils_flat (n : Nat) : (List.replicate n [AVal.lst 1 [] .ex]).flatten = List.replicate n (.lst 1 [] .ex) := by
 induction n with
 | zero => rfl
 | succ n ih => rw [List.replicate_succ, List.flatten_cons, ih, List.replicate_succ]; rfl

theorem preds_spec (f : Func) (hfit : f.fit) : PCall Try.prog 21 [f.enc] (predsR f) := by
 have hck := checkFunc_spec f hfit
 unfold predsR
 by_cases hc : checkFuncM f = 0
 ·rw [if_pos hc]
  rw [hc] at hck
  have hw := checkFunc_ok hfit hc
  have hn : f.blocks.length ≤ 128 := hw.few
  obtain ⟨N, hN⟩ : ∃ N, N = f.blocks.length := ⟨_, rfl⟩
  obtain ⟨R, hR⟩ : ∃ R, R = predsM f := ⟨_, rfl⟩
  have hRl : R.length = N := by rw [hR, hN, predsM, predL_len]; simp
  rw [← hR]
  unfold predsM at hR
  refine ecall_of hT true 0 Try.func21 rfl (by kernel_rfl) (by simp [Try.ntmps21]) (by simp) ?_
  show AWP Try.prog _ _ _ ⟨50, _, _⟩
  dsimp only [Tmp, TypeId, slotsOf]
  refine zg1 ?_
  simp -dsimp only [simprocAttr, ↓vpre, zp]
  refine za0 ?_
  refine awp_freeze1 1 0 (.ip none [aI f.name, eBlocks f.blocks]) rfl (by simp [AObj.isSpare]) trivial rfl ?_ ?_
  rotate_left
  simp -dsimp only [simprocAttr, ↓vpre, zp]
  ·refine zg2 ?_
   simp -dsimp only [simprocAttr, ↓vpre, zp]
   refine .inl ⟨_, hck, by simp only [uptoL, AVal.upto, zt, zu, aI_upto], later_intro ?_⟩
   simp -dsimp only [simprocAttr, ↓vpre, zp]
   refine za0 ?_
   refine zg1 ?_
   simp -dsimp only [simprocAttr, ↓vpre, zp]
   refine za0 ?_
   refine zk0 rfl (fun h => ?_) (fun h => ?_)
   ·cases h
   ·refine zb0 ?_
    refine zg1 ?_
    simp -dsimp only [simprocAttr, ↓vpre, zp, nils_flat, ← hN]
    refine ⟨by omega, by omega, ?_⟩
    refine za0 ?_
    have hpo : PO (List.replicate N []) (([AObj.gone, AObj.cells []] ++ List.replicate N (AObj.spare 0)).set 1 (.cells ((List.range N).map fun j => .lst 1 [] (.tok ([AObj.gone, AObj.cells []].length + j))))) := by
     refine ⟨by simp, ?_, fun j l hj => ?_, ?_⟩
     ·rw [List.getElem?_set_self (by simp), outC_nil]
      rfl
     ·have hj' := lt_of_getElem? hj
      rw [List.length_replicate] at hj'
      rw [List.getElem?_set_ne (by omega), List.getElem?_append_right (by simp)]
      simp only [List.length_cons, List.length_nil, Nat.zero_add, Nat.add_sub_cancel_left]
      simp [hj'] at hj ⊢
      rw [hj]
      rfl
     ·rw [← outC_nil]
      have := uptoO_set (k := 1) (n := N + 2) (x := .cells (outC 2 (List.replicate N []))) (O := [AObj.gone, AObj.cells []] ++ List.replicate N (AObj.spare 0)) (fun o ho => by
       rcases List.mem_append.1 ho with q | q
       ·simp at q
        rcases q with rfl | rfl <;> trivial
       ·rw [(List.mem_replicate.1 q).2]
        trivial) (outC_upto (by simp; omega))
      simpa using this
    show AWP Try.prog _ _ _ ⟨_, _, List.set [AObj.gone, AObj.cells []] 1 (.cells (List.replicate N (AVal.lst 1 [] .ex)))⟩
    refine awp_ownAll 1 N (by simp) ?_
    generalize ([AObj.gone, AObj.cells []] ++ List.replicate N (AObj.spare 0)).set 1 (.cells ((List.range N).map fun j => .lst 1 [] (.tok ([AObj.gone, AObj.cells []].length + j)))) = O0 at *
    rw [← hN] at hR
    refine zg2 ?_
    simp -dsimp only [simprocAttr, ↓vpre, zp, ← hN]
    refine za0 ?_
    refine awp_block (awp_loop (ι := {p : Nat × List (List Int) × List AObj // p.1 ≤ N ∧ PO p.2.1 p.2.2 ∧ p.2.1.length = N ∧ Bnd (p.1 * 257) p.2.1 ∧ R = predL p.1 p.2.1 (f.blocks.drop p.1)}) (fun p => ⟨50, [(1, .ip none [aI f.name, eBlocks f.blocks]), (5, .ms 1 0 N N), (20, eBlocks f.blocks), (21, aI N), (22, aI p.1.1)], p.1.2.2⟩) (fun p => N - p.1.1) ⟨(0, _, O0), by simp, hpo, by simp, by intro l hl; simp [(List.mem_replicate.1 hl).2], hR⟩ ?_ ?_)
    ·refine ⟨rfl, ?_, ?_⟩
     rotate_left
     simp -dsimp only [simprocAttr, ↓vpre, zp, Says, exists_eq_left', Option.some.injEq, sub_self, and_assoc, true_and, and_true]
     all_goals rfl
    ·rintro ⟨⟨k, ls, O⟩, hk, hp, hls, hbd, hke⟩
     simp only at hk hp hls hbd hke
     have hOl := hp.len
     have hup := hp.up
     refine zg1 ?_
     simp -dsimp only [simprocAttr, ↓vpre, zp]
     refine za0 ?_
     refine zk1 rfl (fun h => ?_) (fun h => ?_)
     ·refine zb0 ?_
      have hlt : k < N := by simpa using h
      obtain ⟨b, hb⟩ : ∃ b, f.blocks[k]? = some b := ⟨f.blocks[k]'(by omega), List.getElem?_eq_getElem _⟩
      have hbm := List.mem_of_getElem? hb
      have hend := end_ok (hw.blk b hbm).fin
      have hto : b.term.to.length ≤ 257 := by
       rcases (show (b.term.kind = 0 ∨ b.term.kind = 4) ∨ b.term.kind = 1 ∨ b.term.kind = 2 ∨ b.term.kind = 3 by have := hend.kind; omega) with q | q | q | q
       ·rw [hend.to q]; simp
       ·rw [hend.jump q]; omega
       ·rw [hend.cond q]; omega
       ·rw [hend.switch q]; have := hend.cases; omega
      rw [drop_at hb] at hke
      simp only [predL] at hke
      obtain ⟨L1, hL1⟩ : ∃ L1, L1 = predB k ls b.term.to := ⟨_, rfl⟩
      rw [← hL1] at hke
      refine awp_seq (awp_block ?_)
      refine zg1 ?_
      simp -dsimp only [simprocAttr, ↓vpre, zp, hb]
      refine za0 ?_
      refine awp_local 7 ([eIs b.params, eInss b.ins, aI b.term.kind, aI b.term.arg, aI b.term.n, eIs b.term.cases, eEdges b.term.to]) [(1, .ip none [aI f.name, eBlocks f.blocks]), (5, .ms 1 0 N N), (20, eBlocks f.blocks), (21, aI N), (22, aI k), (6, aI k), (7, .ip none [eIs b.params, eInss b.ins, aI b.term.kind, aI b.term.arg, aI b.term.n, eIs b.term.cases, eEdges b.term.to])] (by simp [putS, dropS, Go.Av.look]) (by rfl) (by omega) (by simp [putS, dropS, Go.Av.look]) ?_ ?_ ?_
      ·exact hup
      ·simp [AVal.upto, uptoL, aI_upto, Edge.map_upto, Ins.map_upto, Block.map_upto, hOl]
      refine zg1 ?_
      simp -dsimp only [simprocAttr, ↓vpre, zp]
      refine za0 ?_
      refine awp_block (awp_loop (ι := {p : Nat × List (List Int) × List AObj // p.1 ≤ b.term.to.length ∧ PO p.2.1 p.2.2 ∧ p.2.1.length = N ∧ Bnd (k * 257 + p.1) p.2.1 ∧ L1 = predB k p.2.1 (b.term.to.drop p.1)}) (fun p => ⟨50, [(1, .ip none [aI f.name, eBlocks f.blocks]), (5, .ms 1 0 N N), (20, eBlocks f.blocks), (21, aI N), (22, aI k), (6, aI k), (29, eEdges b.term.to), (30, aI b.term.to.length), (31, aI p.1.1)], p.1.2.2⟩) (fun p => b.term.to.length - p.1.1) ⟨(0, ls, O), by simp, hp, hls, hbd, hL1⟩ ?_ ?_)
      ·refine ⟨rfl, ?_, ?_⟩
       rotate_left
       simp -dsimp only [simprocAttr, ↓vpre, zp, Says, exists_eq_left', Option.some.injEq, sub_self, and_assoc, true_and, and_true]
       all_goals rfl
      ·rintro ⟨⟨z, ls, O⟩, hz, hp, hls, hbd, hze⟩
       simp only at hz hp hls hbd hze
       have hOl := hp.len
       have hup := hp.up
       refine zg1 ?_
       simp -dsimp only [simprocAttr, ↓vpre, zp]
       refine za0 ?_
       refine zk1 rfl (fun h => ?_) (fun h => ?_)
       ·refine zb0 ?_
        have hlz : z < b.term.to.length := by simpa using h
        obtain ⟨e, he⟩ : ∃ e, b.term.to[z]? = some e := ⟨b.term.to[z], by simp [hlz]⟩
        have hee := (hend.edges e (List.mem_of_getElem? he)).1
        rw [drop_at he] at hze
        simp only [predB, List.foldl_cons] at hze
        obtain ⟨j, hj⟩ : ∃ j : Nat, e.block = (j : Int) := ⟨e.block.toNat, by omega⟩
        have hjN : j < N := by omega
        obtain ⟨l, hl⟩ : ∃ l, ls[j]? = some l := ⟨ls[j]'(by omega), List.getElem?_eq_getElem _⟩
        have hpe : predE k ls e = ls.set j (l ++ [(k : Int)]) := by simp [predE, hj, hl]
        rw [hpe] at hze
        have hget := outC_get (b := 2) hl
        have hsp := hp.sp j l hl
        have hpn := hp.push hl k
        have hput := outC_set (b := 2) (ls := ls) (j := j) (l ++ [(k : Int)])
        rw [List.map_append] at hput
        have hlb := hbd l (List.mem_of_getElem? hl)
        have harr := hp.arr
        have harr2 := at_set_ne (k := 1) (j := 2 + j) (y := .spare (l.length + 1)) harr (by omega)
        refine awp_seq (awp_block ?_)
        refine zg1 ?_
        simp -dsimp only [simprocAttr, ↓vpre, zp, he]
        refine za0 ?_
        refine awp_local 9 ([aI e.block, eIs e.args]) [(1, .ip none [aI f.name, eBlocks f.blocks]), (5, .ms 1 0 N N), (20, eBlocks f.blocks), (21, aI N), (22, aI k), (6, aI k), (29, eEdges b.term.to), (30, aI b.term.to.length), (31, aI z), (9, .ip none [aI e.block, eIs e.args])] (by simp [putS, dropS, Go.Av.look]) (by rfl) (by omega) (by simp [putS, dropS, Go.Av.look]) ?_ ?_ ?_
        ·exact hup
        ·simp [AVal.upto, uptoL, aI_upto, Edge.map_upto, Ins.map_upto, Block.map_upto, hOl]
        refine zg0 ?_
        simp -dsimp only [simprocAttr, ↓vpre, zp, hj, harr, hget, hsp, harr2, hput, Int.toNat_natCast, Nat.mul_one, List.length_map, List.length_set]
        refine ⟨by omega, by omega, by omega, by omega, by rw [outC_len]; omega, ?_⟩
        refine ⟨orderB_ren [1, 2 + j] O.length [.pure, .pure, .pure, .pure, .pure, .pure, .pure, .rd 0, .pure, .pure, .wr 2 [1], .pure, .wr 2 [0]] (by simp; omega) (by simp; omega) rfl rfl (by kernel_rfl), at_intro ?_⟩
        simp -dsimp only [vend, ne_eq, Nat.reduceEqDiff, reduceCtorEq]
        have hput' : (outC 2 ls).set j (.lst 1 (l.map aI ++ [.v (.int .i64 k)]) (.tok (2 + j))) = outC 2 (ls.set j (l ++ [(k : Int)])) := hput
        rw [splice_one _ (by rw [outC_len]; omega), hput']
        refine zg0 ?_
        simp -dsimp only [simprocAttr, ↓vpre, zp]
        repeat (refine ⟨by omega, ?_⟩)
        refine zl0 ?_
        refine ⟨⟨(z + 1, _, _), by simp only; omega, hpn, by simp [hls], hbd.push hl k, hze⟩, by simp; omega, ?_⟩
        refine ⟨rfl, ?_, ?_⟩
        rotate_left
        simp -dsimp only [simprocAttr, ↓vpre, zp, Says, exists_eq_left', Option.some.injEq, sub_self, and_assoc, true_and, and_true]
        ·exact Sub.int (by simp)
        ·rfl
       ·refine awp_exit ?_
        simp -dsimp only [vend, ne_eq, Nat.reduceEqDiff, reduceCtorEq]
        have hzz : z = b.term.to.length := by simp at h; omega
        subst hzz
        rw [List.drop_length] at hze
        simp only [predB, List.foldl_nil] at hze
        subst hze
        refine zg0 ?_
        simp -dsimp only [simprocAttr, ↓vpre, zp]
        repeat (refine ⟨by omega, ?_⟩)
        refine zl0 ?_
        refine ⟨⟨(k + 1, _, O), by simp only; omega, hp, hls, hbd.mono (by omega), hke⟩, by simp; omega, ?_⟩
        refine ⟨rfl, ?_, ?_⟩
        rotate_left
        simp -dsimp only [simprocAttr, ↓vpre, zp, Says, exists_eq_left', Option.some.injEq, sub_self, and_assoc, true_and, and_true]
        ·exact Sub.int (by simp)
        ·rfl
     ·refine awp_exit ?_
      simp -dsimp only [vend, ne_eq, Nat.reduceEqDiff, reduceCtorEq]
      have hkk : k = N := by simp at h; omega
      subst hkk
      rw [hN, List.drop_length] at hke
      simp only [predL] at hke
      subst hke
      have hshare := outC_share 2 R
      have hcl : (outC 2 R).length = k := by rw [outC_len, hls]
      refine awp_freeze1 5 1 (o := .cells (outC 2 R)) (.lst 1 (R.map eIs) .sh) hp.arr (by simp [AObj.isSpare]) trivial rfl (FSub.ms (cs := outC 2 R) hp.arr (by intro x hx; obtain ⟨l, _, rfl⟩ := List.mem_map.1 hx; rfl) (by rw [List.length_map, hls]) (by rw [List.drop_zero, Nat.mul_one, ← hcl, List.take_length, hshare])) ?_
      simp -dsimp only [simprocAttr, ↓vpre, zp]
      refine zg1 ?_
      simp -dsimp only [simprocAttr, ↓vpre, zp]
      refine za0 ?_
      refine awp_ret ?_
      simp -dsimp only [simprocAttr, ↓vpre, zp, RetTo, Try.results21, retVals, retVal, mkRet, AVal.upto, Nat.zero_le, Nat.le_refl, Nat.le_add_right, seqPost_ret, blockPost_ret, loopPost_ret]
      simp only [uptoL, AVal.upto, and_true]
      rw [uptoL_iff]
      intro x hx
      obtain ⟨l, _, rfl⟩ := List.mem_map.1 hx
      exact ⟨aI_upto _ _, trivial⟩
  ·exact FSub.mp rfl rfl
 ·rw [if_neg hc]
  obtain ⟨e, he⟩ : ∃ e, e = checkFuncM f := ⟨_, rfl⟩
  rw [← he] at hc hck ⊢
  have hde : decide (e = 0) = false := decide_eq_false hc
  refine ecall_of hT true 0 Try.func21 rfl (by kernel_rfl) (by simp [Try.ntmps21]) (by simp) ?_
  show AWP Try.prog _ _ _ ⟨50, _, _⟩
  dsimp only [Tmp, TypeId, slotsOf]
  refine zg1 ?_
  simp -dsimp only [simprocAttr, ↓vpre, zp]
  refine za0 ?_
  refine awp_freeze1 1 0 (.ip none [aI f.name, eBlocks f.blocks]) rfl (by simp [AObj.isSpare]) trivial rfl ?_ ?_
  rotate_left
  simp -dsimp only [simprocAttr, ↓vpre, zp]
  ·refine zg2 ?_
   simp -dsimp only [simprocAttr, ↓vpre, zp]
   refine .inl ⟨_, hck, by simp only [uptoL, AVal.upto, zt, zu, aI_upto], later_intro ?_⟩
   simp -dsimp only [simprocAttr, ↓vpre, zp]
   refine za0 ?_
   refine zg1 ?_
   simp -dsimp only [simprocAttr, ↓vpre, zp, hde]
   refine za0 ?_
   refine zk0 rfl (fun h => ?_) (fun h => ?_)
   ·refine zg1 ?_
    simp -dsimp only [simprocAttr, ↓vpre, zp]
    refine za0 ?_
    refine awp_ret ?_
    simp -dsimp only [simprocAttr, ↓vpre, zp, RetTo, Try.results21, retVals, retVal, mkRet, AVal.upto, Nat.zero_le, Nat.le_refl, Nat.le_add_right, seqPost_ret, blockPost_ret, loopPost_ret]
    simp [uptoL, AVal.upto]
   ·cases h
  ·exact FSub.mp rfl rfl
end Go.Proofs.Ythhjebmgmjemoaa
end

section
/-
  A slice that is built of its elements, as an object that owns its block.
-/
namespace Go.Av

theorem cert_buildSlice_os {P : Program} {tab : Tab} (hT : TabOK P tab) {o : Oper} {σ : St} {t e : TypeId} {len : Nat} {parts : Array (Nat × Operand)} {ti te : TInfo} {ps : List (Nat × AVal)} {xs : List AVal}
    (ho : o.op = .buildSlice t len parts) (hd : ∀ d, o.dst = some d → d < σ.n) (ht : tab t = some ti) (hdesc : ti.desc = .slice e) (he : tab e = some te) (hpos : 0 < te.size) (hev : σ.evParts parts.toList = some ps) (hfl : ∀ p ∈ ps, p.2.flat)
    (hseq : seqParts 0 ps = some xs) (hlen : xs.length = len) (hsz : ∀ x ∈ xs, x.cells.length = te.size) (hsm : len * te.size ≤ 2 ^ 24) (hz : len ≠ 0) : Cert P o σ (.os σ.objs.length len te.size) (.write (σ.objs ++ [.cells (cellsAll xs)])) :=
  Cert.ofRun hd fun base σ' a g hrel h ho' => by
    have hO : g.objs = σ.objs := ho'.resolve_left (by simp)
    have hg := hrel.good
    have hpr := evParts_rel (a := a) (g := g) (fun x hx y hy => h x (by simpa [ho, Op.operands] using hx) y hy) hev hfl
    have hu := slice_desc hT ht hdesc
    obtain ⟨⟨i, z, h1, h2, h3, h4, h5, h6, h7, h8, h9⟩, _⟩ := hT e te he
    have hps := seqParts_eq hseq
    have hsc : ∀ x ∈ xs, ∀ c ∈ x.cells, c.scalar := by
      have aux : ∀ {ps : List (Nat × AVal)} {vs : List (Nat × Value)}, PRel g ps vs → ∀ p ∈ ps, ∀ c ∈ p.2.cells, c.scalar := by
        intro ps vs hr
        induction hr with
        | nil => intro p hp; cases hp
        | cons hx hf r ih =>
          intro p hp
          rcases List.mem_cons.1 hp with hp | hp
          · subst hp
            exact hx.cells_scalar hf
          · exact ih p hp
      intro x hx c hc
      have hmem : ∃ k, (k, x) ∈ ps := by
        obtain ⟨k, hk⟩ := List.getElem?_of_mem hx
        refine ⟨0 + k, ?_⟩
        rw [hps, List.mem_map]
        refine ⟨(x, 0 + k), ?_, rfl⟩
        rw [List.mem_iff_getElem?]
        exact ⟨k, by simp [hk]⟩
      obtain ⟨k, hk⟩ := hmem
      exact aux hpr _ hk c hc
    have hne : ¬ len * i.size = 0 := by
      rw [h2]
      intro e0
      rcases Nat.mul_eq_zero.1 e0 with q | q <;> omega
    obtain ⟨zs, hzs⟩ : ∃ zs : Array Value, zs = (Array.range (len * i.size)).map (z.cells[· % z.cells.size]!) := ⟨_, rfl⟩
    have hzsz : zs.size = len * te.size := by rw [hzs]; simp [h2]
    obtain ⟨zc, hzc, hzr, hzl⟩ : ∃ zc : List AVal, (∀ c ∈ zc, c.scalar) ∧ RVs g zc zs ∧ zc.length = len * te.size := by
      refine ⟨(List.range (len * te.size)).map fun j => te.zero.getD (j % te.size) (.v (.bool false)), fun c hc => ?_, ⟨by simp [hzsz], fun j c u hj hju => ?_⟩, by simp⟩
      · rw [List.mem_map] at hc
        obtain ⟨j, _, e⟩ := hc
        subst e
        have hlt : j % te.size < te.zero.length := by rw [h6]; exact Nat.mod_lt _ hpos
        rw [List.getD_eq_getElem?_getD, List.getElem?_eq_getElem hlt]
        exact h9 _ (List.getElem_mem hlt)
      · have hj' := lt_of_getElem? hj
        simp only [List.length_map, List.length_range] at hj'
        rw [List.getElem?_map, List.getElem?_range hj'] at hj
        simp only [Option.map_some, Option.some.injEq] at hj
        subst hj
        have hlt : j % te.size < te.zero.length := by rw [h6]; exact Nat.mod_lt _ hpos
        have hlt' : j % te.size < z.cells.size := by rw [h5]; exact hlt
        rw [hzs] at hju
        simp only [Array.getElem?_map, h2, Array.getElem?_range, if_pos hj', Option.map_some, Option.some.injEq] at hju
        subst hju
        rw [List.getD_eq_getElem?_getD, List.getElem?_eq_getElem hlt]
        refine h8 g (j % te.size) _ _ (List.getElem?_eq_getElem hlt) ?_
        rw [h5, h6]
        simp [hlt']
    have hfill : ∃ cs', fillA (fun i => some (i * te.size, te.size)) zc ps = some cs' := by
      have aux : ∀ (ys : List AVal) (k : Nat) (cs : List AVal), (∀ y ∈ ys, y.cells.length = te.size) → (k + ys.length) * te.size ≤ cs.length → ∃ cs', fillA (fun i => some (i * te.size, te.size)) cs ((ys.zipIdx k).map fun p => (p.2, p.1)) = some cs' := by
        intro ys
        induction ys with
        | nil => intro k cs _ _; exact ⟨cs, rfl⟩
        | cons y ys ih =>
          intro k cs hy hl
          simp only [List.zipIdx_cons, List.map_cons, fillA]
          simp only [List.length_cons] at hl
          have hk1 : (k + 1) * te.size = k * te.size + te.size := Nat.succ_mul k te.size
          have hmono : (k + 1) * te.size ≤ (k + (ys.length + 1)) * te.size := Nat.mul_le_mul_right _ (by omega)
          have hc : y.cells.length = te.size ∧ k * te.size + te.size ≤ cs.length := ⟨hy y (by simp), by omega⟩
          rw [if_pos hc]
          refine ih (k + 1) _ (fun z hz => hy z (List.mem_cons_of_mem _ hz)) ?_
          rw [splice_length (by omega), show k + 1 + ys.length = k + (ys.length + 1) by omega]
          exact hl
      rw [hps]
      exact aux xs 0 zc hsz (by rw [hzl, hlen, Nat.zero_add]; exact Nat.le_refl _)
    obtain ⟨cs', hcs'⟩ := hfill
    obtain ⟨arr', q1, q2, _⟩ := fill_spec (fun i => some (i * te.size, te.size)) hpr hzr hcs'
    obtain ⟨e1, _⟩ := fillA_seq xs 0 zc cs' (by rw [← hps]; exact hcs') (by rw [hzl, hlen, Nat.zero_add]; exact Nat.le_refl _)
    have e2 : cs' = cellsAll xs := by
      rw [e1]
      simp only [Nat.zero_mul, List.take_zero, List.nil_append, Nat.zero_add]
      rw [List.drop_of_length_le (by rw [hzl, hlen]; omega), List.append_nil]
    subst e2
    have hrun : (Instr.buildSlice t len (parts.map fun (i, x) => (i, a.eval x))).run P g.w = .ok (.slice (some ⟨g.w.heap.size, 0, none⟩) len len) (g.w.alloc (.cells arr' e)) := by
      have hbig : ¬ len * i.size > 2 ^ 24 := by rw [h2]; omega
      rw [hzs, ← h2] at q1
      have q1' : Instr.fill (fun i_1 => some (i_1 * i.size, i.size)) ((Array.range (len * i.size)).map (z.cells[· % z.cells.size]!)) (parts.map fun (i, x) => (i, a.eval x)).toList = some arr' := by
        rw [Array.toList_map]
        exact q1
      simp only [Instr.buildSlice, run_underlying hu, Go.sizeOf, typeInfo, Go.zeroValue, Sem.run_bind, run_program, Result.andThen_ok, h1, Sem.run_pure, Go.newRow]
      rw [if_neg hbig, if_neg hne]
      simp only [Sem.run_bind, Sem.run_pure, Result.andThen_ok, run_program, h1, h4, q1', run_newObj]
      rfl
    have hle := Le.alloc hg (.cells arr' e) 0 (.cells (cellsAll xs))
    have hsize : arr'.size = len * te.size := by
      rw [q2.1, ← hlen]
      have : ∀ ys : List AVal, (∀ y ∈ ys, y.cells.length = te.size) → (cellsAll ys).length = ys.length * te.size := fun ys => by
        induction ys with
        | nil => intro _; simp [cellsAll]
        | cons y ys ih =>
          intro hy
          have h1 := ih fun z hz => hy z (by simp [hz])
          have h2 := hy y (by simp)
          simp only [cellsAll, List.flatMap_cons, List.length_append, List.length_cons] at h1 ⊢
          rw [h1, h2, Nat.succ_mul]
          omega
      exact this xs hsz
    have hscA : ∀ c ∈ cellsAll xs, c.scalar := fun c hc => by
      simp only [cellsAll, List.mem_flatMap] at hc
      obtain ⟨x, hx, hc⟩ := hc
      exact hsc x hx c hc
    refine ⟨.slice (some ⟨g.w.heap.size, 0, none⟩) len len, g.alloc (.cells arr' e) 0 (.cells (cellsAll xs)), .inl (by simp [execOp, ho, hrun, G.alloc]), hle, Good.alloc hg _ 0 _ (.inr rfl) ⟨_, e, rfl, by rw [q2.1]; exact Nat.le_refl _, (q2.mono hle).2, hscA⟩, by simp [G.alloc, hO, Mode.post], ?_⟩
    rw [← hO]
    exact .os (l := ⟨g.w.heap.size, 0, arr'.size⟩) (env_new hg) objs_new (by simp [AObj.isSpare]) (Nat.le_refl _) (by rw [hsize]; exact Nat.le_refl _) (by
      have : len ≤ len * te.size := Nat.le_mul_of_pos_right _ hpos
      omega)

/-- A slice that owns its block, told as a list. -/
theorem FSub.os {O : List AObj} {id len sz : Nat} {cs xs : List AVal} (hid : O[id]? = some (.cells cs)) (hsz : ∀ x ∈ xs, x.cells.length = sz) (hlen : xs.length = len) (hd : ((cs.drop 0).take (len * sz)).map AVal.shareCell = cellsAll xs) : FSub O id (.os id len sz) (.lst sz xs .sh) := fun g u l' hg hO he hle h => by
  obtain ⟨l, o1, cap', h1, h2, _, hlc, _, hmax, eu⟩ := h.os_inv
  subst eu
  rw [he] at h1
  simp only [Option.some.injEq] at h1
  subst h1
  have hid' : g.objs[id]? = some (.cells cs) := by rw [hO]; exact hid
  obtain ⟨arr, t', hlo, hrow, hal, hcs, hcsc, _⟩ := hg.row hid' he
  subst hlen
  have key : ∀ (j : Nat) (c : AVal), (cellsAll xs)[j]? = some c → ∃ c', cs[0 + j]? = some c' ∧ c'.shareCell = c := fun j c hj => by
    rw [← hd, List.getElem?_map, Option.map_eq_some_iff] at hj
    obtain ⟨c', hj, e⟩ := hj
    have := take_get hj
    rw [List.getElem?_drop] at this
    exact ⟨c', this, e⟩
  refine .lst hsz (fun x hx c hc => ?_) hlc hmax (fun _ => rfl) (fun j => arr.getD (0 + j) undef) (fun j c hj => ?_) (fun j c hj => ?_) trivial
  · have hmem : c ∈ cellsAll xs := by
      simp only [cellsAll, List.mem_flatMap]
      exact ⟨x, hx, hc⟩
    obtain ⟨j, hj⟩ := List.getElem?_of_mem hmem
    obtain ⟨c', hj', e⟩ := key j c hj
    subst e
    exact AVal.scalar_shareCell (hcsc c' (List.mem_of_getElem? hj'))
  · obtain ⟨c', hj', e⟩ := key j c hj
    have hlt := lt_of_getElem? hj'
    refine ⟨?_, freeze_own hg he hid' trivial _⟩
    show g.w.cell? _ = _
    simp only
    rw [cell_of_row hrow]
    simp [Array.getD_eq_getD_getElem?, show j < arr.size by omega]
  · obtain ⟨c', hj', e⟩ := key j c hj
    have hlt := lt_of_getElem? hj'
    subst e
    exact ((hcs _ c' _ hj' (by simp [Array.getD_eq_getD_getElem?, show j < arr.size by omega])).mono hle).shareCell

/-- The middle of a region builds a slice that owns its block. -/
theorem midOp_os {P : Program} {tab : Tab} {md : Md} (hT : TabOK P tab) {o : Oper} {l2 : List Oper} {Q : AEx → St → Prop} {σ : St} {t e : TypeId} {len d : Nat} {parts : Array (Nat × Operand)} {ti te : TInfo} {ps : List (Nat × AVal)} {xs : List AVal}
    (ho : o.op = .buildSlice t len parts) (hdst : o.dst = some d) (hd : d < σ.n) (ht : tab t = some ti) (hdesc : ti.desc = .slice e) (he : tab e = some te) (hpos : 0 < te.size) (hev : σ.evParts parts.toList = some ps) (hfl : ∀ p ∈ ps, p.2.flat)
    (hseq : seqParts 0 ps = some xs) (hlen : xs.length = len) (hsz : ∀ x ∈ xs, x.cells.length = te.size) (hsm : len * te.size ≤ 2 ^ 24) (hz : len ≠ 0)
    (h : vcOps P tab md l2 0 [] ⟨σ.n, putO o.dst (.os σ.objs.length len te.size) σ.slots, σ.objs ++ [.cells (cellsAll xs)]⟩ [] fun ρ _ => At ρ (Q .norm)) : MidOp P tab md o l2 Q σ :=
  ⟨_, _, cert_buildSlice_os hT ho (fun d' e => by rw [hdst] at e; cases e; exact hd) ht hdesc he hpos hev hfl hseq hlen hsz hsm hz, h⟩

end Go.Av
end

section
set_option linter.unusedSimpArgs false
set_option maxRecDepth 100000
set_option maxHeartbeats 4000000
namespace Go.Proofs.Ythhjebmgmjemoaa
open Go.Av

/-- A growing slice of integers: nil, or a slice that owns its object. -/
def outV (oid : Nat) (l : List Int) : AVal := if l = [] then .lst 1 [] .ex else .os oid l.length 1

theorem cellsAll_v (x : Value) : cellsAll [AVal.v x] = [AVal.v x] := rfl
theorem cells_os' (id len sz : Nat) : (AVal.os id len sz).cells = [AVal.os id len sz] := rfl

theorem leave_nil {O : List AObj} (hup : ∀ o ∈ O, o.upto O.length) (h1 : O[1]? = some (.cells [.lst 1 [] .ex])) (k : Int) :
  ECall Try.prog 46 O [aI k, .mp 1 0] (fun r O' => r = .tup [] ∧ O' = (O ++ [AObj.cells [aI k]]).set 1 (.cells [.os O.length 1 1])) := by
 have hl := lt_of_getElem? h1
 have h1' : ∀ X, (O ++ X)[1]? = some (.cells [.lst 1 [] .ex]) := fun X => at_left h1
 have hkk : O.length ≤ O.length + 1 := by omega
 refine ecall_of hT true (O.length + 1) Try.func46 rfl (by kernel_rfl) (by simp [Try.ntmps46]) (by assumption) ?_
 show AWP Try.prog _ _ _ ⟨7, _, _⟩
 dsimp only [Tmp, TypeId, slotsOf]
 have htk : ((O ++ [AObj.cells [AVal.v (.int .i64 k)]]).set 1 (.cells [.os O.length 1 1])).take (O.length + 1) = (O ++ [AObj.cells [AVal.v (.int .i64 k)]]).set 1 (.cells [.os O.length 1 1]) := List.take_of_length_le (by simp)
 refine zs0 ?_
 simp -dsimp only [simprocAttr, ↓vpre, zp, h1, h1', cellsAll_v, cells_os']
 refine ⟨trivial, ?_⟩
 refine at_intro ?_
 simp -dsimp only [simprocAttr, ↓vpre, zp, RetTo, Try.results46, retVals, retVal, mkRet, AVal.upto, Nat.zero_le, Nat.le_refl, Nat.le_add_right, seqPost_ret, blockPost_ret, loopPost_ret, htk, List.length_set, List.length_append]
 exact ⟨uptoO_set (uptoO_snoc (fun o ho => AObj.upto_mono (by omega) (hup o ho)) ⟨trivial, trivial⟩) ⟨show _ < _ by omega, trivial⟩, trivial⟩

theorem leave_os {O : List AObj} (hup : ∀ o ∈ O, o.upto O.length) {oid : Nat} {l : List Int} (h1 : O[1]? = some (.cells [.os oid l.length 1])) (h2 : O[oid]? = some (.cells (l.map aI))) (ho : oid ≠ 1) (hll : l.length ≤ 1000) (k : Int) :
  ECall Try.prog 46 O [aI k, .mp 1 0] (fun r O' => r = .tup [] ∧ O' = (O.set oid .gone ++ [AObj.cells ((l ++ [k]).map aI)]).set 1 (.cells [.os O.length (l.length + 1) 1])) := by
 have hl := lt_of_getElem? h1
 have h1' : ∀ X, (O.set oid .gone ++ X)[1]? = some (.cells [.os oid l.length 1]) := fun X => at_left (at_set_ne h1 ho)
 have hkk : O.length ≤ O.length + 1 := by omega
 refine ecall_of hT true (O.length + 1) Try.func46 rfl (by kernel_rfl) (by simp [Try.ntmps46]) (by assumption) ?_
 show AWP Try.prog _ _ _ ⟨7, _, _⟩
 dsimp only [Tmp, TypeId, slotsOf]
 refine zs0 ?_
 simp -dsimp only [simprocAttr, ↓vpre, zp, h1, h1', h2, cellsAll_v, cells_os']
 refine ⟨by simp, by omega, by omega, ?_⟩
 have hTT : (l.map aI).take (l.length * 1) = l.map aI := List.take_of_length_le (by simp)
 have htk : ((O.set oid .gone ++ [AObj.cells (l.map aI ++ [AVal.v (.int .i64 k)])]).set 1 (.cells [.os O.length (l.length + 1) 1])).take (O.length + 1) = (O.set oid .gone ++ [AObj.cells (l.map aI ++ [AVal.v (.int .i64 k)])]).set 1 (.cells [.os O.length (l.length + 1) 1]) := List.take_of_length_le (by simp)
 refine ⟨trivial, ?_⟩
 refine at_intro ?_
 simp -dsimp only [simprocAttr, ↓vpre, zp, RetTo, Try.results46, retVals, retVal, mkRet, AVal.upto, Nat.zero_le, Nat.le_refl, Nat.le_add_right, seqPost_ret, blockPost_ret, loopPost_ret, hTT, htk, List.length_set, List.length_append]
 refine ⟨uptoO_set (uptoO_snoc (uptoO_set (fun o ho => AObj.upto_mono (by omega) (hup o ho)) trivial) ?_) ⟨show _ < _ by omega, trivial⟩, trivial, by simp⟩
 show uptoL _ _
 have := aI_upto (O.length + 1) (l ++ [k])
 simpa using this

end Go.Proofs.Ythhjebmgmjemoaa
end

section
/-
  Depth-first search: what the program computes, with the objects that it makes.
-/
namespace Go.Proofs.Ythhjebmgmjemoaa
open Go.Av

structure Sr where
  seen : List Bool
  st : List (Int × Int)
  out : List Int

def toOf (f : Func) (b : Int) : List Edge := (blkOf f b).term.to
def nextOf (f : Func) (b e : Int) : Int := ((toOf f b)[e.toNat]?.getD default).block

def srStep (f : Func) (S : Sr) : Sr :=
  match S.st with
  | [] => S
  | (b, e) :: r =>
    if e = (toOf f b).length then ⟨S.seen, r, S.out ++ [b]⟩
    else if S.seen[(nextOf f b e).toNat]?.getD false = true then ⟨S.seen, (b, e + 1) :: r, S.out⟩
    else ⟨S.seen.set (nextOf f b e).toNat true, (nextOf f b e, 0) :: (b, e + 1) :: r, S.out⟩

def srRun (f : Func) : Nat → Sr → Sr
  | 0, S => S
  | n + 1, S => if S.st.isEmpty then S else srRun f n (srStep f S)

def srStart (f : Func) : Sr := ⟨(List.replicate f.blocks.length false).set 0 true, [(0, 0)], []⟩

/-- cfg.search: the blocks, in postorder. -/
def searchM (f : Func) : List Int := (srRun f 100000 (srStart f)).out

structure SrOK (f : Func) (S : Sr) : Prop where
  len : S.seen.length = f.blocks.length
  blk : ∀ p ∈ S.st, 0 ≤ p.1 ∧ p.1 < f.blocks.length ∧ 0 ≤ p.2 ∧ p.2 ≤ (toOf f p.1).length
  few : S.out.length + S.st.length ≤ S.seen.countP id
  outs : ∀ b ∈ S.out, 0 ≤ b ∧ b < f.blocks.length

def stW : List (Int × Int) → Nat
  | [] => 0
  | p :: r => (258 - p.2.toNat) + stW r

def srW (S : Sr) : Nat := 300 * (S.seen.length - S.seen.countP id) + stW S.st

/-- What a search needs of a function. -/
structure GrW (f : Func) : Prop where
  ne : f.blocks ≠ []
  few : f.blocks.length ≤ 128
  to : ∀ b ∈ f.blocks, b.term.to.length ≤ 257
  edges : ∀ b ∈ f.blocks, ∀ e ∈ b.term.to, 1 ≤ e.block ∧ e.block < f.blocks.length

theorem FnW.gr {f : Func} (h : FnW f) : GrW f :=
  ⟨h.ne, h.few, fun b hb => to_few (end_ok (h.blk b hb).fin), fun b hb e he => by
    have := ((end_ok (h.blk b hb).fin).edges e he).1
    omega⟩

theorem GrW.next {f : Func} (h : GrW f) {b e : Int} (hb : 0 ≤ b ∧ b < f.blocks.length) (h0 : 0 ≤ e) (h1 : e < (toOf f b).length) : ∃ x, (toOf f b)[e.toNat]? = some x ∧ x.block = nextOf f b e ∧ 1 ≤ nextOf f b e ∧ nextOf f b e < f.blocks.length := by
  have hlt : e.toNat < (toOf f b).length := by omega
  have hx : (toOf f b)[e.toNat]? = some (toOf f b)[e.toNat] := List.getElem?_eq_getElem hlt
  refine ⟨_, hx, by rw [nextOf, hx]; rfl, ?_⟩
  have := h.edges _ (blkOf_mem hb.1 hb.2) (toOf f b)[e.toNat] (List.getElem_mem hlt)
  rw [nextOf, hx]
  exact this

theorem countP_set_true {l : List Bool} {k : Nat} (hk : k < l.length) (h : l[k]?.getD false = false) : (l.set k true).countP id = l.countP id + 1 := by
  induction l generalizing k with
  | nil => simp at hk
  | cons a r ih =>
    cases k with
    | zero =>
      simp only [List.getElem?_cons_zero, Option.getD_some] at h
      subst h
      simp
    | succ k =>
      simp only [List.getElem?_cons_succ] at h
      have := ih (by simpa using hk) h
      simp only [List.set_cons_succ, List.countP_cons, this]
      omega

theorem srStep_ok {f : Func} (hg : GrW f) {S : Sr} (h : SrOK f S) (hne : S.st ≠ []) : SrOK f (srStep f S) ∧ srW (srStep f S) < srW S := by
  obtain ⟨seen, st, out⟩ := S
  cases st with
  | nil => exact absurd rfl hne
  | cons p r =>
    obtain ⟨b, e⟩ := p
    obtain ⟨h1, h2, h3, h4⟩ := h
    simp only at h1 h2 h3 h4
    have hp := h2 (b, e) (by simp)
    simp only at hp
    have hto : (toOf f b).length ≤ 257 := hg.to _ (blkOf_mem hp.1 hp.2.1)
    have hc : seen.countP id ≤ seen.length := List.countP_le_length
    simp only [List.length_cons] at h3
    simp only [srStep]
    by_cases he : e = (toOf f b).length
    · rw [if_pos he]
      refine ⟨⟨h1, fun p hp => h2 p (by simp [hp]), by simp only [List.length_append, List.length_cons, List.length_nil]; omega, fun x hx => ?_⟩, ?_⟩
      · rcases List.mem_append.1 hx with q | q
        · exact h4 x q
        · simp only [List.mem_singleton] at q
          subst q
          exact ⟨hp.1, hp.2.1⟩
      · simp only [srW, stW]
        omega
    · rw [if_neg he]
      obtain ⟨x, hx, hxb, hn1, hn2⟩ := hg.next ⟨hp.1, hp.2.1⟩ hp.2.2.1 (by omega)
      by_cases hs : seen[(nextOf f b e).toNat]?.getD false = true
      · rw [if_pos hs]
        refine ⟨⟨h1, fun p hpm => ?_, by simpa using h3, h4⟩, ?_⟩
        · rcases List.mem_cons.1 hpm with q | q
          · subst q
            exact ⟨hp.1, hp.2.1, by simp only; omega, by simp only; omega⟩
          · exact h2 p (by simp [q])
        · simp only [srW, stW]
          omega
      · rw [if_neg hs]
        have hs' : seen[(nextOf f b e).toNat]?.getD false = false := by simpa using hs
        have hk : (nextOf f b e).toNat < seen.length := by omega
        have hcs := countP_set_true hk hs'
        have hcl : (seen.set (nextOf f b e).toNat true).countP id ≤ (seen.set (nextOf f b e).toNat true).length := List.countP_le_length
        rw [List.length_set] at hcl
        refine ⟨⟨by simpa using h1, fun p hpm => ?_, by simp only [List.length_cons, hcs]; omega, h4⟩, ?_⟩
        · rcases List.mem_cons.1 hpm with q | q
          · subst q
            exact ⟨by simp only; omega, hn2, by simp, by simp⟩
          · rcases List.mem_cons.1 q with q | q
            · subst q
              exact ⟨hp.1, hp.2.1, by simp only; omega, by simp only; omega⟩
            · exact h2 p (by simp [q])
        · simp only [srW, stW, List.length_set, hcs]
          omega

theorem srRun_ok {f : Func} (hg : GrW f) : ∀ (n : Nat) (S : Sr), SrOK f S → srW S < n → SrOK f (srRun f n S) ∧ (srRun f n S).st = []
  | 0, S, _, h => by omega
  | n + 1, S, h, hw => by
    simp only [srRun]
    cases hst : S.st with
    | nil => simpa [hst] using h
    | cons p r =>
      simp only [List.isEmpty_cons, Bool.false_eq_true, if_false]
      have := srStep_ok hg h (by rw [hst]; simp)
      exact srRun_ok hg n _ this.1 (by omega)

theorem srStart_ok {f : Func} (hg : GrW f) : SrOK f (srStart f) ∧ srW (srStart f) < 100000 := by
  have hl : 0 < f.blocks.length := by
    cases hb : f.blocks with
    | nil => exact absurd hb hg.ne
    | cons => simp
  have hfew := hg.few
  have hc : ((List.replicate f.blocks.length false).set 0 true).countP id = 1 := by
    rw [countP_set_true (by simpa using hl) (by simp [hl])]
    simp [List.countP_replicate]
  refine ⟨⟨by simp [srStart], fun p hp => ?_, by simp only [srStart, hc]; simp, by simp [srStart]⟩, ?_⟩
  · simp only [srStart, List.mem_singleton] at hp
    subst hp
    exact ⟨by simp, by simp; omega, by simp, by simp⟩
  · simp only [srW, srStart, hc, List.length_set, List.length_replicate, stW]
    simp
    omega

/-! the objects -/

/-- The cells of a stack. -/
def stkC : List (Int × Int) → List AVal
  | [] => []
  | p :: r => stkC r ++ [aI p.1, aI p.2]

theorem stkC_len : ∀ l : List (Int × Int), (stkC l).length = l.length * 2
  | [] => rfl
  | p :: r => by
    simp only [stkC, List.length_append, stkC_len r, List.length_cons, List.length_nil]
    omega

theorem stkC_upto (n : Nat) : ∀ l : List (Int × Int), uptoL n (stkC l)
  | [] => trivial
  | p :: r => by
    rw [uptoL_iff]
    intro x hx
    rcases List.mem_append.1 hx with q | q
    · exact uptoL_iff.1 (stkC_upto n r) x q
    · simp only [List.mem_cons, List.not_mem_nil, or_false] at q
      rcases q with rfl | rfl <;> trivial

structure So where
  S : Sr
  sid : Nat
  oid : Nat
  O : List AObj

def cellsAt (O : List AObj) (id : Nat) : List AVal :=
  match O[id]? with
  | some (.cells cs) => cs
  | _ => []

/-- The objects behind a call of leave. -/
def outPush (O : List AObj) (oid : Nat) (out : List Int) (b : Int) : List AObj :=
  if out = [] then (O ++ [AObj.cells [aI b]]).set 1 (.cells [.os O.length 1 1])
  else (O.set oid .gone ++ [AObj.cells ((out ++ [b]).map aI)]).set 1 (.cells [.os O.length (out.length + 1) 1])

def soStep (f : Func) (X : So) : So :=
  match X.S.st with
  | [] => X
  | (b, e) :: r =>
    if e = (toOf f b).length then ⟨srStep f X.S, X.sid, X.O.length, outPush X.O X.oid X.S.out b⟩
    else
      let cs := (cellsAt X.O X.sid).set (r.length * 2 + 1) (aI (e + 1))
      let O1 := X.O.set X.sid (.cells cs)
      if X.S.seen[(nextOf f b e).toNat]?.getD false = true then ⟨srStep f X.S, X.sid, X.oid, O1⟩
      else
        let O2 := O1.set 2 (.cells ((X.S.seen.set (nextOf f b e).toNat true).map eB))
        ⟨srStep f X.S, O2.length, X.oid, O2.set X.sid .gone ++ [AObj.cells (cs.take ((r.length + 1) * 2) ++ [aI (nextOf f b e), aI 0])]⟩

def soRun (f : Func) : Nat → So → So
  | 0, X => X
  | n + 1, X => if X.S.st.isEmpty then X else soRun f n (soStep f X)

theorem soStep_S (f : Func) (X : So) : (soStep f X).S = srStep f X.S := by
  unfold soStep
  cases hst : X.S.st with
  | nil => simp [srStep, hst]
  | cons p r =>
    simp only
    split
    · rfl
    · split <;> rfl

theorem soRun_S (f : Func) : ∀ (n : Nat) (X : So), (soRun f n X).S = srRun f n X.S
  | 0, X => rfl
  | n + 1, X => by
    simp only [soRun, srRun]
    split
    · rfl
    · rw [soRun_S f n, soStep_S]

/-- How the objects of a search tell its state. -/
structure SO (X : So) : Prop where
  up : ∀ o ∈ X.O, o.upto X.O.length
  out : X.O[1]? = some (.cells [outV X.oid X.S.out])
  outs : X.S.out ≠ [] → X.O[X.oid]? = some (.cells (X.S.out.map aI)) ∧ X.oid ≠ X.sid ∧ 2 < X.oid
  seen : X.O[2]? = some (.cells (X.S.seen.map eB))
  stk : ∃ junk, X.O[X.sid]? = some (.cells (stkC X.S.st ++ junk))
  sne : 2 < X.sid

theorem eB_upto (n : Nat) (l : List Bool) : uptoL n (l.map eB) := by
  rw [uptoL_iff]
  intro x hx
  obtain ⟨b, _, rfl⟩ := List.mem_map.1 hx
  trivial

theorem SO.step {f : Func} {X : So} (h : SO X) : SO (soStep f X) := by
  obtain ⟨⟨seen, st, out⟩, sid, oid, O⟩ := X
  obtain ⟨h1, h2, h3, h4, ⟨junk, h5⟩, h6⟩ := h
  simp only at h1 h2 h3 h4 h5 h6
  have l1 := lt_of_getElem? h2
  have l2 := lt_of_getElem? h4
  have l5 := lt_of_getElem? h5
  cases st with
  | nil => exact ⟨h1, h2, h3, h4, ⟨junk, h5⟩, h6⟩
  | cons p r =>
    obtain ⟨b, e⟩ := p
    simp only [soStep, srStep]
    by_cases he : e = (toOf f b).length
    · rw [if_pos he, if_pos he]
      by_cases ho : out = []
      · subst ho
        simp only [outPush, if_true, List.nil_append]
        refine ⟨?_, ?_, fun _ => ⟨?_, by simp only; omega, by simp only; omega⟩, ?_, ⟨[aI b, aI e] ++ junk, ?_⟩, h6⟩
        · have := uptoO_set (n := O.length + 1) (k := 1) (x := .cells [.os O.length 1 1]) (uptoO_snoc (fun o ho => AObj.upto_mono (by omega) (h1 o ho)) (x := .cells [aI b]) ⟨trivial, trivial⟩) ⟨show _ < _ by omega, trivial⟩
          simpa using this
        · simp only
          rw [List.getElem?_set_self (by simp; omega)]
          rfl
        · simp only
          rw [List.getElem?_set_ne (by omega), List.getElem?_append_right (Nat.le_refl _)]
          simp
        · simp only
          rw [List.getElem?_set_ne (by omega), List.getElem?_append_left l2]
          exact h4
        · simp only
          rw [List.getElem?_set_ne (by omega), List.getElem?_append_left l5, h5]
          simp [stkC]
      · obtain ⟨k1, k2, k3⟩ := h3 ho
        have lo := lt_of_getElem? k1
        simp only [outPush, if_neg ho]
        refine ⟨?_, ?_, fun _ => ⟨?_, by simp only; omega, by simp only; omega⟩, ?_, ⟨[aI b, aI e] ++ junk, ?_⟩, h6⟩
        · have := uptoO_set (n := O.length + 1) (k := 1) (x := .cells [.os O.length (out.length + 1) 1]) (uptoO_snoc (uptoO_set (k := oid) (x := .gone) (fun o ho => AObj.upto_mono (by omega) (h1 o ho)) trivial) (x := .cells ((out ++ [b]).map aI)) (aI_upto _ _)) ⟨show _ < _ by omega, trivial⟩
          simpa using this
        · simp only
          rw [List.getElem?_set_self (by simp; omega)]
          simp [outV]
        · simp only
          rw [List.getElem?_set_ne (by omega), List.getElem?_append_right (by simp)]
          simp
        · simp only
          rw [List.getElem?_set_ne (by omega), List.getElem?_append_left (by simpa using l2), List.getElem?_set_ne (by omega)]
          exact h4
        · simp only
          rw [List.getElem?_set_ne (by omega), List.getElem?_append_left (by simpa using l5), List.getElem?_set_ne (by omega), h5]
          simp [stkC]
    · rw [if_neg he, if_neg he]
      have hcs : (cellsAt O sid).set (r.length * 2 + 1) (aI (e + 1)) = stkC ((b, e + 1) :: r) ++ junk := by
        simp only [cellsAt, h5, stkC]
        rw [List.append_assoc, List.set_append_right _ _ (by rw [stkC_len]; omega), stkC_len, show r.length * 2 + 1 - r.length * 2 = 1 by omega]
        simp
      rw [hcs]
      have hju : uptoL O.length junk := by
        rw [uptoL_iff]
        intro x hx
        have := h1 _ (List.mem_of_getElem? h5)
        exact uptoL_iff.1 this x (List.mem_append.2 (.inr hx))
      have hcu : uptoL O.length (stkC ((b, e + 1) :: r) ++ junk) := by
        rw [uptoL_iff]
        intro x hx
        rcases List.mem_append.1 hx with q | q
        · exact uptoL_iff.1 (stkC_upto _ _) x q
        · exact uptoL_iff.1 hju x q
      by_cases hs : seen[(nextOf f b e).toNat]?.getD false = true
      · rw [if_pos hs, if_pos hs]
        refine ⟨?_, ?_, fun ho => ?_, ?_, ⟨junk, ?_⟩, h6⟩
        · have := uptoO_set (n := O.length) (k := sid) (x := .cells (stkC ((b, e + 1) :: r) ++ junk)) h1 hcu
          simpa using this
        · simp only
          rw [List.getElem?_set_ne (by omega)]
          exact h2
        · obtain ⟨k1, k2, k3⟩ := h3 ho
          refine ⟨?_, k2, k3⟩
          simp only
          rw [List.getElem?_set_ne (fun q => k2 q.symm)]
          exact k1
        · simp only
          rw [List.getElem?_set_ne (by omega)]
          exact h4
        · simp only
          rw [List.getElem?_set_self l5]
      · rw [if_neg hs, if_neg hs]
        skip
        have htk : (stkC ((b, e + 1) :: r) ++ junk).take ((r.length + 1) * 2) = stkC ((b, e + 1) :: r) := by
          rw [List.take_append_of_le_length (by rw [stkC_len]; simp), List.take_of_length_le (by rw [stkC_len]; simp)]
        rw [htk]
        refine ⟨?_, ?_, fun ho => ?_, ?_, ⟨[], ?_⟩, ?_⟩
        · have a1 := uptoO_set (n := O.length) (k := sid) (x := .cells (stkC ((b, e + 1) :: r) ++ junk)) h1 hcu
          have a2 := uptoO_set (k := 2) (x := .cells ((seen.set (nextOf f b e).toNat true).map eB)) a1 (eB_upto _ _)
          have a3 := uptoO_set (k := sid) (x := .gone) a2 trivial
          have a4 := uptoO_snoc (n := O.length + 1) (x := .cells (stkC ((b, e + 1) :: r) ++ [aI (nextOf f b e), aI 0])) (fun o ho => AObj.upto_mono (by omega) (a3 o ho)) (by
            show uptoL _ _
            have := stkC_upto (O.length + 1) ((nextOf f b e, 0) :: (b, e + 1) :: r)
            exact this)
          simpa using a4
        · simp only
          rw [List.getElem?_append_left (by simp; omega), List.getElem?_set_ne (by omega), List.getElem?_set_ne (by omega), List.getElem?_set_ne (by omega)]
          exact h2
        · obtain ⟨k1, k2, k3⟩ := h3 ho
          have lo := lt_of_getElem? k1
          refine ⟨?_, by simp; omega, k3⟩
          simp only
          rw [List.getElem?_append_left (by simpa using lo), List.getElem?_set_ne (fun q => k2 q.symm), List.getElem?_set_ne (by omega), List.getElem?_set_ne (fun q => k2 q.symm)]
          exact k1
        · simp only
          rw [List.getElem?_append_left (by simpa using l2), List.getElem?_set_ne (by omega), List.getElem?_set_self (by simpa using l2)]
        · simp only [List.length_set]
          rw [List.getElem?_append_right (by simp)]
          simp [stkC]
        · simp
          omega

end Go.Proofs.Ythhjebmgmjemoaa
end

section
set_option linter.unusedSimpArgs false
set_option maxRecDepth 100000
set_option maxHeartbeats 4000000
namespace Go.Proofs.Ythhjebmgmjemoaa
open Go.Av

/-- The objects at the beginning of a search. -/
def soStart (f : Func) : So := ⟨srStart f, 3, 0, [.gone, .cells [.lst 1 [] .ex], .cells ((srStart f).seen.map eB), .cells [aI 0, aI 0]]⟩

theorem soStart_ok (f : Func) : SO (soStart f) where
 up := by
  intro o ho
  simp only [soStart, List.mem_cons, List.not_mem_nil, or_false] at ho
  rcases ho with rfl | rfl | rfl | rfl
  ·trivial
  ·exact ⟨⟨trivial, trivial⟩, trivial⟩
  ·exact eB_upto _ _
  ·exact ⟨trivial, trivial, trivial⟩
 out := rfl
 outs := fun h => absurd rfl h
 seen := rfl
 stk := ⟨[], rfl⟩
 sne := by simp [soStart]

theorem falses_flat (n : Nat) : (List.replicate n [AVal.v (.bool false)]).flatten = (List.replicate n false).map eB := by
 induction n with
 | zero => rfl
 | succ n ih => rw [List.replicate_succ, List.flatten_cons, ih, List.replicate_succ]; rfl

theorem search_spec (f : Func) (hg : GrW f) :
  ECall Try.prog 45 [.gone, .cells [.lst 1 [] .ex]] [f.enc, .fn (.func 46) [] [.mp 1 0]] (fun r O' => r = .tup [] ∧ O' = (soRun f 100000 (soStart f)).O) := by
 have hN128 := hg.few
 have hl : 0 < f.blocks.length := by
  cases hb : f.blocks with
  | nil => exact absurd hb hg.ne
  | cons => simp
 obtain ⟨N, hN⟩ : ∃ N, N = f.blocks.length := ⟨_, rfl⟩
 obtain ⟨F, hF⟩ : ∃ F, F = soRun f 100000 (soStart f) := ⟨_, rfl⟩
 rw [← hF]
 have hkk : [AObj.gone, AObj.cells [AVal.lst 1 [] .ex]].length ≤ F.O.length := by
  have key : ∀ (n : Nat) (X : So), SO X → SO (soRun f n X) := fun n => by
   induction n with
   | zero => exact fun X h => h
   | succ n ih =>
    intro X h
    simp only [soRun]
    split
    ·exact h
    ·exact ih _ h.step
  have := lt_of_getElem? (key 100000 _ (soStart_ok f)).out
  rw [← hF] at this
  simp only [List.length_cons, List.length_nil]
  omega
 refine ecall_of hT true (F.O.length) Try.func45 rfl (by kernel_rfl) (by simp [Try.ntmps45]) (by assumption) ?_
 show AWP Try.prog _ _ _ ⟨81, _, _⟩
 dsimp only [Tmp, TypeId, slotsOf]
 refine zg1 ?_
 simp -dsimp only [simprocAttr, ↓vpre, zp]
 refine za0 ?_
 refine awp_freeze1 2 2 (.ip none [aI f.name, eBlocks f.blocks]) rfl (by simp [AObj.isSpare]) trivial rfl ?_ ?_
 rotate_left
 simp -dsimp only [simprocAttr, ↓vpre, zp]
 ·refine awp_trunc' 2 [(1, .fn (.func 46) [] [.mp 1 0]), (2, .ip none [aI f.name, eBlocks f.blocks])] (by simp) (by omega) [.gone, .cells [.lst 1 [] .ex]] ?_ ?_ ?_ ?_ ?_
  ·rfl
  ·simp [AObj.upto, uptoL, AVal.upto, aI_upto, Block.map_upto]
  ·simp [Says, St.get, putS, dropS, Go.Av.look, Sub.refl]
  ·simp [AObj.upto, uptoL, AVal.upto, aI_upto, Block.map_upto]
  refine zg1 ?_
  simp -dsimp only [simprocAttr, ↓vpre, zp, falses_flat, ← hN]
  refine ⟨by omega, by omega, ?_⟩
  refine za0 ?_
  refine zg1 ?_
  simp -dsimp only [simprocAttr, ↓vpre, zp]
  have hspl : splice ((List.replicate N false).map eB) 0 [.v (.bool true)] = (srStart f).seen.map eB := by
   rw [splice_one _ (by simp; omega)]
   simp only [srStart, ← hN, List.map_set]
   rfl
  refine ⟨by omega, by simp; omega, ?_⟩
  rw [hspl]
  refine za0 ?_
  refine awp_seq (awp_mid_op ⟨false, false⟩ hT 1 rfl rfl rfl (by simp) ?_)
  simp -dsimp only [simprocAttr, ↓vpre, zp]
  refine midOp_os hT rfl rfl (by simp) rfl rfl rfl (by simp) rfl (by intro p hp; simp at hp; subst hp; trivial) rfl rfl (by intro x hx; simp at hx; subst hx; rfl) (by simp) (by simp) ?_
  simp -dsimp only [simprocAttr, ↓vpre, zp]
  refine za0 ?_
  have hok0 := srStart_ok hg
  refine awp_block (awp_loop (ι := {X : So // SO X ∧ SrOK f X.S ∧ ∃ n, srW X.S < n ∧ F = soRun f n X}) (fun X => ⟨81, [(1, .fn (.func 46) [] [.mp 1 0]), (2, .ip none [aI f.name, eBlocks f.blocks]), (4, .ms 2 0 N N), (5, .os X.1.sid X.1.S.st.length 2)], X.1.O⟩) (fun X => srW X.1.S) ⟨soStart f, soStart_ok f, hok0.1, 100000, hok0.2, hF⟩ ?_ ?_)
  ·refine ⟨rfl, ?_, ?_⟩
   rotate_left
   simp -dsimp only [simprocAttr, ↓vpre, zp, Says, exists_eq_left', Option.some.injEq, sub_self, and_assoc, true_and, and_true]
   all_goals first | rfl | exact Sub.refl _
  ·rintro ⟨X, hX, hS, n, hn, hnF⟩
   have hXs := hX.step (f := f)
   obtain ⟨⟨seen, st, out⟩, sid, oid, O⟩ := X
   obtain ⟨h1, h2, h3, h4, ⟨junk, h5⟩, h6⟩ := id hX
   simp only at h1 h2 h3 h4 h5 h6 hn
   cases st with
   | nil =>
    refine zg2 ?_
    simp -dsimp only [simprocAttr, ↓vpre, zp]
    refine za0 ?_
    refine zk0 rfl (fun h => ?_) (fun h => ?_)
    ·cases h
    ·refine awp_exit ?_
     simp -dsimp only [vend, ne_eq, Nat.reduceEqDiff, reduceCtorEq]
     have hFO : F.O = O := by
      rw [hnF]
      cases n with
      | zero => rfl
      | succ n => rfl
     skip
     simp -dsimp only [simprocAttr, ↓vpre, zp, RetTo, Try.results45, retVals, retVal, mkRet, AVal.upto, Nat.zero_le, Nat.le_refl, Nat.le_add_right, seqPost_ret, blockPost_ret, loopPost_ret]
     rw [hFO]
     exact ⟨by simp, by rw [List.take_of_length_le (Nat.le_refl _)]; exact h1, trivial, List.take_of_length_le (Nat.le_refl _)⟩
   | cons p r =>
    obtain ⟨b, e⟩ := p
    have hstep := srStep_ok hg hS (by simp)
    obtain ⟨n, rfl⟩ : ∃ n', n = n' + 1 := ⟨n - 1, by omega⟩
    have hnF' : F = soRun f n (soStep f ⟨⟨seen, (b, e) :: r, out⟩, sid, oid, O⟩) := hnF
    have hSs := soStep_S f ⟨⟨seen, (b, e) :: r, out⟩, sid, oid, O⟩
    have hp := hS.blk (b, e) (by simp)
    simp only at hp
    have hstl : r.length ≤ 128 := by
     have a1 := hS.few
     have a2 : seen.countP id ≤ seen.length := List.countP_le_length
     have a3 := hS.len
     simp only [List.length_cons] at a1 a3
     omega
    have hr2 : ((r.length + 1 : Nat) : Int) - 1 = (r.length : Nat) := by omega
    obtain ⟨B, hB⟩ : ∃ B, B = blkOf f b := ⟨_, rfl⟩
    have hBg := blkOf_at hp.1 hp.2.1
    rw [← hB] at hBg
    have hto : toOf f b = B.term.to := by rw [hB]; rfl
    have hcb : (stkC ((b, e) :: r) ++ junk)[r.length * 2]? = some (aI b) := by
     rw [stkC, List.append_assoc, List.getElem?_append_right (by rw [stkC_len]; omega), stkC_len, Nat.sub_self]
     rfl
    have hce : (stkC ((b, e) :: r) ++ junk)[r.length * 2 + 1]? = some (aI e) := by
     rw [stkC, List.append_assoc, List.getElem?_append_right (by rw [stkC_len]; omega), stkC_len, show r.length * 2 + 1 - r.length * 2 = 1 by omega]
     rfl
    obtain ⟨cs, hcs⟩ : ∃ cs, cs = stkC ((b, e) :: r) ++ junk := ⟨_, rfl⟩
    rw [← hcs] at hcb hce h5
    refine zg2 ?_
    simp -dsimp only [simprocAttr, ↓vpre, zp]
    refine za0 ?_
    refine zk0 rfl (fun h => ?_) (fun h => ?_)
    ·refine zb0 ?_
     refine awp_block ?_
     refine zg1 ?_
     simp -dsimp only [simprocAttr, ↓vpre, zp, hr2]
     repeat (refine ⟨by omega, ?_⟩)
     refine za0 ?_
     refine zg1 ?_
     simp -dsimp only [simprocAttr, ↓vpre, zp, h5, hcb, hBg]
     repeat (refine ⟨by omega, ?_⟩)
     refine ⟨by (show orderB _ _ = true); kernel_rfl, ?_⟩
     refine za0 ?_
     by_cases he : e = (toOf f b).length
     ·have hde : decide (e = (B.term.to.length : Int)) = true := decide_eq_true (by rw [he, hto])
      have hsr : srStep f ⟨seen, (b, e) :: r, out⟩ = ⟨seen, r, out ++ [b]⟩ := by simp only [srStep]; rw [if_pos he]
      have hso : soStep f ⟨⟨seen, (b, e) :: r, out⟩, sid, oid, O⟩ = ⟨⟨seen, r, out ++ [b]⟩, sid, O.length, outPush O oid out b⟩ := by simp only [soStep]; rw [if_pos he, hsr]
      rw [hso] at hXs hnF'
      simp only [hsr] at hstep
      have hlv : ECall Try.prog 46 O [aI b, .mp 1 0] (fun r' O' => r' = .tup [] ∧ O' = outPush O oid out b) := by
       unfold outPush
       by_cases ho : out = []
       ·rw [if_pos ho]
        exact leave_nil h1 (by rw [h2, ho]; rfl) b
       ·rw [if_neg ho]
        obtain ⟨k1, k2, k3⟩ := h3 ho
        have a1 := hS.few
        have a2 : seen.countP id ≤ seen.length := List.countP_le_length
        have a3 := hS.len
        simp only at a1 a3
        exact leave_os h1 (by rw [h2, outV, if_neg ho]) k1 (by omega) (by omega) b
      refine zg2 ?_
      simp -dsimp only [simprocAttr, ↓vpre, zp, h5, hce, hde]
      refine za0 ?_
      refine zk0 rfl (fun h => ?_) (fun h => ?_)
      ·refine zg1 ?_
       simp -dsimp only [simprocAttr, ↓vpre, zp, h5, hcb]
       refine .inr (.inl ⟨_, _, hlv, .inl (later_intro ?_)⟩)
       simp -dsimp only [simprocAttr, ↓vpre, zp]
       refine za0 ?_
       refine zg1 ?_
       simp -dsimp only [simprocAttr, ↓vpre, zp, hr2]
       repeat (refine ⟨by omega, ?_⟩)
       refine za0 ?_
       refine awp_exit ?_
       simp -dsimp only [vend, ne_eq, Nat.reduceEqDiff, reduceCtorEq]
       refine ⟨⟨_, hXs, hstep.1, n, ?_, hnF'⟩, ?_, ?_⟩
       ·have := hstep.2
        simp only at this hn ⊢
        omega
       ·exact hstep.2
       ·refine ⟨rfl, ?_, ?_⟩
        rotate_left
        simp -dsimp only [simprocAttr, ↓vpre, zp, Says, exists_eq_left', Option.some.injEq, sub_self, and_assoc, true_and, and_true]
        all_goals rfl
      ·cases h
     ·have hde : decide (e = (B.term.to.length : Int)) = false := decide_eq_false (by rw [← hto]; exact he)
      obtain ⟨x, hx, hxb, hn1, hn2⟩ := hg.next ⟨hp.1, hp.2.1⟩ hp.2.2.1 (by omega)
      rw [hto] at hx
      refine zg2 ?_
      simp -dsimp only [simprocAttr, ↓vpre, zp, h5, hce, hde]
      refine za0 ?_
      refine zk0 rfl (fun h => ?_) (fun h => ?_)
      ·cases h
      ·refine zb0 ?_
       refine zg1 ?_
       simp -dsimp only [simprocAttr, ↓vpre, zp, h5, hce, hx]
       repeat (refine ⟨by omega, ?_⟩)
       refine za0 ?_
       obtain ⟨j, hj⟩ : ∃ j : Nat, nextOf f b e = (j : Int) := ⟨(nextOf f b e).toNat, by omega⟩
       have hjN : j < seen.length := by
        have a3 := hS.len
        simp only at a3
        omega
       rw [hj] at hxb hn1 hn2
       obtain ⟨sv, hsv⟩ : ∃ sv, seen[j]? = some sv := ⟨seen[j], List.getElem?_eq_getElem hjN⟩
       have hsvm : (seen.map eB)[j]? = some (.v (.bool sv)) := by rw [List.getElem?_map, hsv]; rfl
       have hcl : (r.length + 1) * 2 ≤ cs.length := by
        rw [hcs, List.length_append, stkC_len]
        simp
       obtain ⟨cs1, hcs1⟩ : ∃ cs1, cs1 = cs.set (r.length * 2 + 1) (aI (e + 1)) := ⟨_, rfl⟩
       have hspl : splice cs (r.length * 2 + 1) [.v (.int .i64 (e + 1))] = cs1 := by rw [splice_one _ (by omega), hcs1]
       have hcl1 : (r.length + 1) * 2 ≤ cs1.length := by rw [hcs1, List.length_set]; exact hcl
       obtain ⟨O1, hO1⟩ : ∃ O1, O1 = O.set sid (.cells cs1) := ⟨_, rfl⟩
       have g5 : O1[sid]? = some (.cells cs1) := by rw [hO1]; exact at_set h5
       have g4 : O1[2]? = some (.cells (seen.map eB)) := by rw [hO1]; exact at_set_ne h4 (by omega)
       have hcat : cellsAt O sid = cs := by simp only [cellsAt, h5]
       have h257 : (toOf f b).length ≤ 257 := hg.to _ (blkOf_mem hp.1 hp.2.1)
       refine zg1 ?_
       simp -dsimp only [simprocAttr, ↓vpre, zp, h5, hce]
       repeat (refine ⟨by omega, ?_⟩)
       refine za0 ?_
       rw [hspl, ← hO1]
       cases sv with
       | true =>
        have hsr : srStep f ⟨seen, (b, e) :: r, out⟩ = ⟨seen, (b, e + 1) :: r, out⟩ := by simp only [srStep]; rw [if_neg he, hj, Int.toNat_natCast, hsv, if_pos (show (some true).getD false = true from rfl)]
        have hso : soStep f ⟨⟨seen, (b, e) :: r, out⟩, sid, oid, O⟩ = ⟨⟨seen, (b, e + 1) :: r, out⟩, sid, oid, O1⟩ := by simp only [soStep]; rw [if_neg he, hsr, hcat, hj, Int.toNat_natCast, hsv, if_pos (show (some true).getD false = true from rfl), ← hcs1, hO1]
        rw [hso] at hXs hnF'
        simp only [hsr] at hstep
        refine zg1 ?_
        simp -dsimp only [simprocAttr, ↓vpre, zp, g4, hxb, Int.toNat_natCast, hsvm, Nat.mul_one]
        repeat (refine ⟨by omega, ?_⟩)
        refine za0 ?_
        refine zk0 rfl (fun h => ?_) (fun h => ?_)
        ·cases h
        ·refine zn1 ?_
         refine ⟨⟨_, hXs, hstep.1, n, ?_, hnF'⟩, ?_, ?_⟩
         ·have := hstep.2
          simp only at this hn ⊢
          omega
         ·exact hstep.2
         ·refine ⟨rfl, ?_, ?_⟩
          rotate_left
          simp -dsimp only [simprocAttr, ↓vpre, zp, Says, exists_eq_left', Option.some.injEq, sub_self, and_assoc, true_and, and_true]
          all_goals rfl
       | false =>
        have hsr : srStep f ⟨seen, (b, e) :: r, out⟩ = ⟨seen.set j true, ((j : Int), 0) :: (b, e + 1) :: r, out⟩ := by simp only [srStep]; rw [if_neg he, hj, Int.toNat_natCast, hsv, if_neg (by simp)]
        obtain ⟨O2, hO2⟩ : ∃ O2, O2 = O1.set 2 (.cells ((seen.set j true).map eB)) := ⟨_, rfl⟩
        have k5 : O2[sid]? = some (.cells cs1) := by rw [hO2]; exact at_set_ne g5 (by omega)
        have hso : soStep f ⟨⟨seen, (b, e) :: r, out⟩, sid, oid, O⟩ = ⟨⟨seen.set j true, ((j : Int), 0) :: (b, e + 1) :: r, out⟩, O2.length, oid, O2.set sid .gone ++ [AObj.cells (cs1.take ((r.length + 1) * 2) ++ [aI j, aI 0])]⟩ := by
         simp only [soStep]
         rw [if_neg he, hsr, hcat, hj, Int.toNat_natCast, hsv, if_neg (by simp), ← hcs1, ← hO1, ← hO2]
        rw [hso] at hXs hnF'
        simp only [hsr] at hstep
        have hspl2 : splice (seen.map eB) j [.v (.bool true)] = (seen.set j true).map eB := by
         rw [splice_one _ (by simpa using hjN), List.map_set]
         rfl
        refine zg1 ?_
        simp -dsimp only [simprocAttr, ↓vpre, zp, g4, hxb, Int.toNat_natCast, hsvm, Nat.mul_one]
        repeat (refine ⟨by omega, ?_⟩)
        refine za0 ?_
        refine zk0 rfl (fun h => ?_) (fun h => ?_)
        ·refine zg1 ?_
         simp -dsimp only [simprocAttr, ↓vpre, zp, g4, hxb, Int.toNat_natCast, Nat.mul_one]
         repeat (refine ⟨by omega, ?_⟩)
         refine za0 ?_
         rw [hspl2, ← hO2]
         refine zg0 ?_
         simp -dsimp only [simprocAttr, ↓vpre, zp, k5, hxb]
         repeat (refine ⟨by omega, ?_⟩)
         refine zl1 ?_
         refine ⟨⟨_, hXs, hstep.1, n, ?_, hnF'⟩, ?_, ?_⟩
         ·have := hstep.2
          simp only at this hn ⊢
          omega
         ·exact hstep.2
         ·refine ⟨rfl, ?_, ?_⟩
          rotate_left
          simp -dsimp only [simprocAttr, ↓vpre, zp, Says, exists_eq_left', Option.some.injEq, sub_self, and_assoc, true_and, and_true]
          all_goals rfl
        ·cases h
    ·exact absurd (of_decide_eq_false h) (by omega)
 ·exact FSub.mp rfl rfl
end Go.Proofs.Ythhjebmgmjemoaa
end

section
set_option linter.unusedSimpArgs false
set_option maxRecDepth 100000
set_option maxHeartbeats 4000000
namespace Go.Proofs.Ythhjebmgmjemoaa
open Go.Av

/-- The first i and the last i are exchanged. -/
def RevTo (l : List Int) (i : Nat) (m : List Int) : Prop := m.length = l.length ∧ ∀ k, k < l.length → m[k]? = if k < i ∨ l.length ≤ k + i then l[l.length - 1 - k]? else l[k]?

theorem revTo_zero (l : List Int) : RevTo l 0 l := ⟨rfl, fun k hk => by rw [if_neg (by omega)]⟩

theorem revTo_step {l m : List Int} {i : Nat} (h : RevTo l i m) (hi : 2 * i + 1 < l.length) {a b : Int} (ha : m[i]? = some a) (hb : m[l.length - 1 - i]? = some b) : RevTo l (i + 1) ((m.set i b).set (l.length - 1 - i) a) := by
 obtain ⟨h1, h2⟩ := h
 refine ⟨by simpa using h1, fun k hk => ?_⟩
 have e1 := h2 i (by omega)
 have e2 := h2 (l.length - 1 - i) (by omega)
 rw [if_neg (by omega)] at e1 e2
 rw [List.getElem?_set, List.getElem?_set]
 simp only [List.length_set]
 by_cases q1 : l.length - 1 - i = k
 ·rw [if_pos q1, if_pos (by omega), if_pos (by omega), ← ha, e1]
  congr 1
  omega
 ·rw [if_neg q1]
  by_cases q2 : i = k
  ·rw [if_pos q2, if_pos (by omega), if_pos (by omega), ← hb, e2, q2]
  ·rw [if_neg q2, h2 k hk]
   by_cases q3 : k < i ∨ l.length ≤ k + i
   ·rw [if_pos q3, if_pos (by omega)]
   ·rw [if_neg q3, if_neg (by omega)]

theorem revTo_done {l m : List Int} {i : Nat} (h : RevTo l i m) (hi : l.length ≤ 2 * i + 1) : m = l.reverse := by
 obtain ⟨h1, h2⟩ := h
 apply List.ext_getElem?
 intro k
 by_cases hk : k < l.length
 ·rw [h2 k hk, List.getElem?_reverse hk]
  split
  ·rfl
  ·congr 1
   omega
 ·rw [List.getElem?_eq_none (by omega), List.getElem?_eq_none (by simp; omega)]

theorem reverse_spec {O : List AObj} (hup : ∀ o ∈ O, o.upto O.length) {oid : Nat} {l : List Int} (ho : O[oid]? = some (.cells (l.map aI))) (hll : l.length ≤ 1000) :
  ECall Try.prog 47 O [.os oid l.length 1] (fun r O' => r = .tup [] ∧ O' = O.set oid (.cells (l.reverse.map aI))) := by
 have hol := lt_of_getElem? ho
 have hsame : O.set oid (.cells (l.map aI)) = O := set_same ho
 have hgt : ∀ x, (O.set oid x)[oid]? = some x := fun x => List.getElem?_set_self hol
 have htk : ∀ m : List Int, (O.set oid (.cells (m.map aI))).take O.length = O.set oid (.cells (m.map aI)) := fun m => take_set_len
 have hup2 : ∀ m : List Int, ∀ o ∈ O.set oid (.cells (m.map aI)), o.upto O.length := fun m => uptoO_set hup (aI_upto _ _)
 refine ecall_of hT true O.length Try.func47 rfl (by kernel_rfl) (by simp [Try.ntmps47]) (by simp) ?_
 show AWP Try.prog _ _ _ ⟨28, _, _⟩
 dsimp only [Tmp, TypeId, slotsOf]
 refine zg1 ?_
 simp -dsimp only [simprocAttr, ↓vpre, zp]
 repeat (refine ⟨by omega, ?_⟩)
 refine za0 ?_
 refine awp_block (awp_loop (ι := {x : Nat × List Int // x.1 ≤ l.length ∧ RevTo l x.1 x.2}) (fun x => ⟨28, [(0, .os oid l.length 1), (2, aI x.1.1), (3, aI ((l.length : Int) - 1 - x.1.1))], O.set oid (.cells (x.1.2.map aI))⟩) (fun x => l.length - x.1.1) ⟨(0, l), by simp, revTo_zero l⟩ ?_ ?_)
 ·refine ⟨rfl, ?_, ?_⟩
  rotate_left
  simp -dsimp only [simprocAttr, ↓vpre, zp, Says, exists_eq_left', Option.some.injEq, sub_self, and_assoc, true_and, and_true]
  exact hsame.symm
 ·rintro ⟨⟨i, m⟩, hi, hr⟩
  simp only at hi hr
  have hml := hr.1
  refine zg2 ?_
  simp -dsimp only [simprocAttr, ↓vpre, zp]
  refine za0 ?_
  refine zk0 rfl (fun h => ?_) (fun h => ?_)
  ·refine zb0 ?_
   have hlt : 2 * i + 1 < l.length := by
    have := of_decide_eq_true h
    omega
   obtain ⟨j, hj⟩ : ∃ j, j = l.length - 1 - i := ⟨_, rfl⟩
   have hji : (l.length : Int) - 1 - i = (j : Nat) := by omega
   obtain ⟨a, ha⟩ : ∃ a, m[i]? = some a := ⟨m[i]'(by omega), List.getElem?_eq_getElem _⟩
   obtain ⟨b, hb⟩ : ∃ b, m[j]? = some b := ⟨m[j]'(by omega), List.getElem?_eq_getElem _⟩
   have hnext := revTo_step hr hlt ha (by rw [← hj]; exact hb)
   rw [← hj] at hnext
   have hma : (m.map aI)[i]? = some (aI a) := by rw [List.getElem?_map, ha]; rfl
   have hmb : (m.map aI)[j]? = some (aI b) := by rw [List.getElem?_map, hb]; rfl
   have hs1 : splice (m.map aI) i [.v (.int .i64 b)] = (m.set i b).map aI := by
    rw [splice_one _ (by simp; omega), List.map_set]
   have hs2 : splice ((m.set i b).map aI) j [.v (.int .i64 a)] = ((m.set i b).set j a).map aI := by
    rw [splice_one _ (by simp; omega)]
    simp only [List.map_set]
   refine awp_seq (awp_block ?_)
   refine zg0 ?_
   simp -dsimp only [simprocAttr, ↓vpre, zp, hgt, hji, hma, hmb, Int.toNat_natCast, Nat.mul_one, hs1, hs2, List.set_set, List.length_set]
   refine ⟨by omega, by omega, by omega, by omega, by omega, by omega, ?_⟩
   refine ⟨orderB_ren [oid] O.length [.pure, .pure, .pure, .pure, .pure, .pure, .pure, .rd 0, .pure, .pure, .pure, .rd 0, .pure, .wr 1 [0], .pure, .wr 1 [0]] (by simp) (by simp; omega) rfl rfl (by kernel_rfl), at_intro ?_⟩
   simp -dsimp only [vend, ne_eq, Nat.reduceEqDiff, reduceCtorEq]
   refine zg0 ?_
   simp -dsimp only [simprocAttr, ↓vpre, zp]
   repeat (refine ⟨by omega, ?_⟩)
   refine zl0 ?_
   refine ⟨⟨(i + 1, _), by simp only; omega, hnext⟩, by simp; omega, ?_⟩
   refine ⟨rfl, ?_, ?_⟩
   rotate_left
   simp -dsimp only [simprocAttr, ↓vpre, zp, Says, exists_eq_left', Option.some.injEq, sub_self, and_assoc, true_and, and_true]
   ·exact ⟨Sub.int (by simp), Sub.int (by omega)⟩
   ·rfl
  ·refine awp_exit ?_
   simp -dsimp only [vend, ne_eq, Nat.reduceEqDiff, reduceCtorEq]
   have hge : l.length ≤ 2 * i + 1 := by
    have := of_decide_eq_false h
    omega
   rw [revTo_done hr hge]
   skip
   simp -dsimp only [simprocAttr, ↓vpre, zp, RetTo, Try.results47, retVals, retVal, mkRet, AVal.upto, Nat.zero_le, Nat.le_refl, Nat.le_add_right, seqPost_ret, blockPost_ret, loopPost_ret, htk, List.length_set]
   exact ⟨hup2 _, trivial⟩

end Go.Proofs.Ythhjebmgmjemoaa
end

section
set_option linter.unusedSimpArgs false
set_option maxRecDepth 100000
set_option maxHeartbeats 4000000
namespace Go.Proofs.Ythhjebmgmjemoaa
open Go.Av

/-- cfg.Order -/
def orderM (f : Func) : List Int := (searchM f).reverse
def orderR (f : Func) : AVal := if checkFuncM f = 0 then .tup [eIs (orderM f), aI 0] else .tup [eIs [], aI (checkFuncM f)]

theorem sr_out {f : Func} : ∀ (n : Nat) (S : Sr), (S.st = [] → S.out ≠ []) → (srRun f n S).st = [] → (srRun f n S).out ≠ []
 | 0, S, h, he => h he
 | n + 1, S, h, he => by
  simp only [srRun] at he ⊢
  cases hst : S.st with
  | nil =>
   rw [hst] at he
   simp only [List.isEmpty_nil, if_true] at he ⊢
   exact h hst
  | cons p r =>
   rw [hst] at he
   simp only [List.isEmpty_cons, Bool.false_eq_true, if_false] at he ⊢
   refine sr_out n _ (fun q => ?_) he
   obtain ⟨b, e⟩ := p
   simp only [srStep, hst] at q ⊢
   split
   ·simp
   ·rename_i hne
    rw [if_neg hne] at q
    split at q <;> simp at q

theorem soRun_ok {f : Func} : ∀ (n : Nat) (X : So), SO X → SO (soRun f n X)
 | 0, X, h => h
 | n + 1, X, h => by
  simp only [soRun]
  split
  ·exact h
  ·exact soRun_ok n _ h.step

theorem searchM_few {f : Func} (hg : GrW f) : searchM f ≠ [] ∧ (searchM f).length ≤ 128 ∧ ∀ b ∈ searchM f, 0 ≤ b ∧ b < f.blocks.length := by
 have h0 := srStart_ok hg
 have h1 := srRun_ok hg 100000 _ h0.1 h0.2
 have h2 := sr_out 100000 (srStart f) (fun q => by simp [srStart] at q) h1.2
 have a1 := h1.1.few
 have a2 : (srRun f 100000 (srStart f)).seen.countP id ≤ (srRun f 100000 (srStart f)).seen.length := List.countP_le_length
 have a3 := h1.1.len
 have a4 := hg.few
 exact ⟨h2, by unfold searchM; omega, h1.1.outs⟩

theorem aI_cellsAll (l : List Int) : (l.map aI).map AVal.shareCell = cellsAll (l.map aI) := by
 induction l with
 | nil => rfl
 | cons a r ih =>
  simp only [List.map_cons, cellsAll, List.flatMap_cons] at ih ⊢
  rw [ih]
  rfl

theorem order_spec (f : Func) (hfit : f.fit) : PCall Try.prog 25 [f.enc] (orderR f) := by
 have hck := checkFunc_spec f hfit
 unfold orderR
 by_cases hc : checkFuncM f = 0
 ·rw [if_pos hc]
  rw [hc] at hck
  have hg := (checkFunc_ok hfit hc).gr
  have hsr := search_spec f hg
  obtain ⟨f1, f2, _⟩ := searchM_few hg
  have hXS : (soRun f 100000 (soStart f)).S = srRun f 100000 (srStart f) := soRun_S f 100000 (soStart f)
  have hX := soRun_ok (f := f) 100000 _ (soStart_ok f)
  obtain ⟨X, hXe⟩ : ∃ X, X = soRun f 100000 (soStart f) := ⟨_, rfl⟩
  rw [← hXe] at hsr hX hXS
  have hout : X.S.out = searchM f := by rw [hXS]; rfl
  unfold orderM
  obtain ⟨l, hl⟩ : ∃ l, l = searchM f := ⟨_, rfl⟩
  rw [← hl] at f1 f2 hout ⊢
  have h1 := hX.out
  rw [hout, outV, if_neg f1] at h1
  obtain ⟨h2, h3, h4⟩ := hX.outs (by rw [hout]; exact f1)
  rw [hout] at h2
  have hup := hX.up
  obtain ⟨S, sid, oid, O⟩ := X
  simp only at h1 h2 h3 h4 hup hsr
  have hrev := reverse_spec hup h2 (by omega)
  have h1' : (O.set oid (.cells (l.reverse.map aI)))[1]? = some (.cells [.os oid l.length 1]) := at_set_ne h1 (by omega)
  have h2' : (O.set oid (.cells (l.reverse.map aI)))[oid]? = some (.cells (l.reverse.map aI)) := at_set h2
  refine ecall_of hT true 0 Try.func25 rfl (by kernel_rfl) (by simp [Try.ntmps25]) (by simp) ?_
  show AWP Try.prog _ _ _ ⟨17, _, _⟩
  dsimp only [Tmp, TypeId, slotsOf]
  refine zg1 ?_
  simp -dsimp only [simprocAttr, ↓vpre, zp]
  refine za0 ?_
  refine awp_freeze1 1 0 (.ip none [aI f.name, eBlocks f.blocks]) rfl (by simp [AObj.isSpare]) trivial rfl ?_ ?_
  rotate_left
  simp -dsimp only [simprocAttr, ↓vpre, zp]
  ·refine zg2 ?_
   simp -dsimp only [simprocAttr, ↓vpre, zp]
   refine .inl ⟨_, hck, by simp only [uptoL, AVal.upto, zt, zu, aI_upto], later_intro ?_⟩
   simp -dsimp only [simprocAttr, ↓vpre, zp]
   refine za0 ?_
   refine zg1 ?_
   simp -dsimp only [simprocAttr, ↓vpre, zp]
   refine za0 ?_
   refine zk0 rfl (fun h => ?_) (fun h => ?_)
   ·cases h
   ·refine zb0 ?_
    refine zg1 ?_
    simp -dsimp only [simprocAttr, ↓vpre, zp]
    refine za0 ?_
    refine zg1 ?_
    simp -dsimp only [simprocAttr, ↓vpre, zp]
    refine .inr (.inl ⟨_, _, hsr, .inl (later_intro ?_)⟩)
    simp -dsimp only [simprocAttr, ↓vpre, zp]
    refine za0 ?_
    refine zg1 ?_
    simp -dsimp only [simprocAttr, ↓vpre, zp, h1]
    refine .inr (.inl ⟨_, _, hrev, .inl (later_intro ?_)⟩)
    simp -dsimp only [simprocAttr, ↓vpre, zp]
    refine za0 ?_
    refine zg1 ?_
    simp -dsimp only [simprocAttr, ↓vpre, zp, h1']
    refine za0 ?_
    refine awp_freeze1 2 oid (o := .cells (l.reverse.map aI)) (eIs l.reverse) h2' (by simp [AObj.isSpare]) trivial rfl (FSub.os (cs := l.reverse.map aI) h2' ?_ ?_ ?_) ?_
    ·intro x hx
     obtain ⟨c, _, rfl⟩ := List.mem_map.1 hx
     rfl
    ·simp
    ·rw [List.drop_zero, List.take_of_length_le (by simp)]
     exact aI_cellsAll _
    ·simp -dsimp only [simprocAttr, ↓vpre, zp]
     refine awp_ret ?_
     simp -dsimp only [simprocAttr, ↓vpre, zp, RetTo, Try.results25, retVals, retVal, mkRet, AVal.upto, Nat.zero_le, Nat.le_refl, Nat.le_add_right, seqPost_ret, blockPost_ret, loopPost_ret]
     exact ⟨⟨aI_upto _ _, trivial⟩, trivial, trivial⟩
  ·exact FSub.mp rfl rfl
 ·rw [if_neg hc]
  obtain ⟨e, he⟩ : ∃ e, e = checkFuncM f := ⟨_, rfl⟩
  rw [← he] at hc hck ⊢
  have hde : decide (e = 0) = false := decide_eq_false hc
  refine ecall_of hT true 0 Try.func25 rfl (by kernel_rfl) (by simp [Try.ntmps25]) (by simp) ?_
  show AWP Try.prog _ _ _ ⟨17, _, _⟩
  dsimp only [Tmp, TypeId, slotsOf]
  refine zg1 ?_
  simp -dsimp only [simprocAttr, ↓vpre, zp]
  refine za0 ?_
  refine awp_freeze1 1 0 (.ip none [aI f.name, eBlocks f.blocks]) rfl (by simp [AObj.isSpare]) trivial rfl ?_ ?_
  rotate_left
  simp -dsimp only [simprocAttr, ↓vpre, zp]
  ·refine zg2 ?_
   simp -dsimp only [simprocAttr, ↓vpre, zp]
   refine .inl ⟨_, hck, by simp only [uptoL, AVal.upto, zt, zu, aI_upto], later_intro ?_⟩
   simp -dsimp only [simprocAttr, ↓vpre, zp]
   refine za0 ?_
   refine zg1 ?_
   simp -dsimp only [simprocAttr, ↓vpre, zp, hde]
   refine za0 ?_
   refine zk0 rfl (fun h => ?_) (fun h => ?_)
   ·refine zg1 ?_
    simp -dsimp only [simprocAttr, ↓vpre, zp]
    refine za0 ?_
    refine awp_ret ?_
    simp -dsimp only [simprocAttr, ↓vpre, zp, RetTo, Try.results25, retVals, retVal, mkRet, AVal.upto, Nat.zero_le, Nat.le_refl, Nat.le_add_right, seqPost_ret, blockPost_ret, loopPost_ret]
    simp [uptoL, AVal.upto]
   ·cases h
  ·exact FSub.mp rfl rfl
end Go.Proofs.Ythhjebmgmjemoaa
end

section
/-
  Reverse postorder: every block but the first has a predecessor that comes before it.
-/
namespace Go.Proofs.Ythhjebmgmjemoaa
open Go.Av

def Edg (f : Func) (a b : Int) : Prop := ∃ x ∈ toOf f a, x.block = b

def StC (f : Func) : List (Int × Int) → Prop
  | [] => True
  | [p] => p.1 = 0
  | p :: q :: r => Edg f q.1 p.1 ∧ p.1 ≠ 0 ∧ StC f (q :: r)

theorem StC.tail {f : Func} {p : Int × Int} {r : List (Int × Int)} (h : StC f (p :: r)) : StC f r := by
  cases r with
  | nil => trivial
  | cons q r => exact h.2.2

theorem StC.head {f : Func} {b e e' : Int} {r : List (Int × Int)} (h : StC f ((b, e) :: r)) : StC f ((b, e') :: r) := by
  cases r with
  | nil => exact h
  | cons q r => exact h

structure Jn (f : Func) (S : Sr) : Prop where
  st : StC f S.st
  out : ∀ i v, S.out[i]? = some v → (v ≠ 0 ∧ ∃ a, Edg f a v ∧ ((∃ j, i < j ∧ S.out[j]? = some a) ∨ ∃ e, (a, e) ∈ S.st)) ∨ (v = 0 ∧ S.st = [] ∧ i + 1 = S.out.length)

theorem Jn.step {f : Func} (hg : GrW f) {S : Sr} (hS : SrOK f S) (h : Jn f S) : Jn f (srStep f S) := by
  obtain ⟨seen, st, out⟩ := S
  obtain ⟨h1, h2⟩ := h
  simp only at h1 h2
  cases st with
  | nil => exact ⟨h1, h2⟩
  | cons p r =>
    obtain ⟨b, e⟩ := p
    have hp := hS.blk (b, e) (by simp)
    simp only at hp
    have hold : ∀ i v, out[i]? = some v → v ≠ 0 ∧ ∃ a, Edg f a v ∧ ((∃ j, i < j ∧ out[j]? = some a) ∨ ∃ e', (a, e') ∈ (b, e) :: r) := fun i v hi => by
      rcases h2 i v hi with q | ⟨_, q, _⟩
      · exact q
      · cases q
    simp only [srStep]
    split
    · refine ⟨h1.tail, fun i v hi => ?_⟩
      simp only at hi ⊢
      by_cases hlt : i < out.length
      · rw [List.getElem?_append_left hlt] at hi
        obtain ⟨q0, a, q1, q2⟩ := hold i v hi
        refine .inl ⟨q0, a, q1, ?_⟩
        rcases q2 with ⟨j, q2, q3⟩ | ⟨e', q2⟩
        · exact .inl ⟨j, q2, by rw [List.getElem?_append_left (lt_of_getElem? q3)]; exact q3⟩
        · rcases List.mem_cons.1 q2 with q | q
          · simp only [Prod.mk.injEq] at q
            exact .inl ⟨out.length, hlt, by rw [q.1]; simp⟩
          · exact .inr ⟨e', q⟩
      · have hi' := lt_of_getElem? hi
        simp only [List.length_append, List.length_cons, List.length_nil] at hi'
        have : i = out.length := by omega
        subst this
        simp at hi
        subst hi
        cases r with
        | nil => exact .inr ⟨h1, rfl, by simp⟩
        | cons q r => exact .inl ⟨h1.2.1, q.1, h1.1, .inr ⟨q.2, by simp⟩⟩
    · rename_i he
      obtain ⟨x, hx, hxb, hn1, hn2⟩ := hg.next ⟨hp.1, hp.2.1⟩ hp.2.2.1 (by omega)
      split
      · refine ⟨h1.head, fun i v hi => .inl ?_⟩
        obtain ⟨q0, a, q1, q2⟩ := hold i v hi
        refine ⟨q0, a, q1, ?_⟩
        rcases q2 with q2 | ⟨e', q2⟩
        · exact .inl q2
        · rcases List.mem_cons.1 q2 with q | q
          · simp only [Prod.mk.injEq] at q
            exact .inr ⟨e + 1, by simp [q.1]⟩
          · exact .inr ⟨e', by simp [q]⟩
      · refine ⟨⟨⟨x, List.mem_of_getElem? hx, hxb⟩, by simp only; omega, h1.head⟩, fun i v hi => .inl ?_⟩
        obtain ⟨q0, a, q1, q2⟩ := hold i v hi
        refine ⟨q0, a, q1, ?_⟩
        rcases q2 with q2 | ⟨e', q2⟩
        · exact .inl q2
        · rcases List.mem_cons.1 q2 with q | q
          · simp only [Prod.mk.injEq] at q
            exact .inr ⟨e + 1, by simp [q.1]⟩
          · exact .inr ⟨e', by simp [q]⟩

theorem Jn.run {f : Func} (hg : GrW f) : ∀ (n : Nat) (S : Sr), SrOK f S → Jn f S → Jn f (srRun f n S)
  | 0, S, _, h => h
  | n + 1, S, hS, h => by
    simp only [srRun]
    cases hst : S.st with
    | nil => simpa [hst] using h
    | cons p r =>
      simp only [List.isEmpty_cons, Bool.false_eq_true, if_false]
      exact Jn.run hg n _ (srStep_ok hg hS (by rw [hst]; simp)).1 (h.step hg hS)

theorem Jn.start (f : Func) : Jn f (srStart f) := ⟨rfl, fun i v h => by simp [srStart] at h⟩

/-- The order's law. -/
theorem order_law {f : Func} (hg : GrW f) {n : Nat} {v : Int} (h : (orderM f)[n]? = some v) : (n = 0 ∧ v = 0) ∨ ∃ a, Edg f a v ∧ a ∈ (orderM f).take n := by
  have h0 := srStart_ok hg
  have h1 := srRun_ok hg 100000 _ h0.1 h0.2
  have hJ := Jn.run hg 100000 _ h0.1 (Jn.start f)
  have hn := lt_of_getElem? h
  unfold orderM searchM at *
  generalize srRun f 100000 (srStart f) = S at *
  have hl : n < S.out.length := by simpa using hn
  rw [List.getElem?_reverse hl] at h
  rcases hJ.out _ _ h with ⟨_, a, q1, q2⟩ | ⟨q1, _, q3⟩
  · rcases q2 with ⟨j, q3, q4⟩ | ⟨e, q3⟩
    · refine .inr ⟨a, q1, ?_⟩
      have hj := lt_of_getElem? q4
      have : (S.out.reverse)[S.out.length - 1 - j]? = some a := by
        rw [List.getElem?_reverse (by omega), ← q4]
        congr 1
        omega
      exact List.mem_of_getElem? (i := S.out.length - 1 - j) (by rw [List.getElem?_take, if_pos (by omega)]; exact this)
    · rw [h1.2] at q3
      cases q3
  · exact .inl ⟨by omega, q1⟩

/-! predecessors -/

theorem predE_mono {k : Nat} {ls : List (List Int)} {e : Edge} {j : Nat} {a : Int} (h : a ∈ ls[j]?.getD []) : a ∈ (predE k ls e)[j]?.getD [] := by
  unfold predE
  by_cases q : e.block.toNat = j
  · subst q
    by_cases hl : e.block.toNat < ls.length
    · rw [List.getElem?_set_self hl]
      simp [h]
    · rw [List.getElem?_eq_none (by omega)] at h
      simp at h
  · rw [List.getElem?_set_ne q]
    exact h

theorem predB_mono {k : Nat} {j : Nat} {a : Int} : ∀ {es : List Edge} {ls : List (List Int)}, a ∈ ls[j]?.getD [] → a ∈ (predB k ls es)[j]?.getD []
  | [], _, h => h
  | e :: r, ls, h => predB_mono (es := r) (predE_mono h)

theorem predL_mono {j : Nat} {a : Int} : ∀ {bs : List Block} {k : Nat} {ls : List (List Int)}, a ∈ ls[j]?.getD [] → a ∈ (predL k ls bs)[j]?.getD []
  | [], _, _, h => h
  | b :: r, k, ls, h => predL_mono (bs := r) (predB_mono h)

theorem predB_new {k : Nat} : ∀ {es : List Edge} {ls : List (List Int)} {x : Edge}, x ∈ es → x.block.toNat < ls.length → (k : Int) ∈ (predB k ls es)[x.block.toNat]?.getD []
  | [], _, _, h, _ => by cases h
  | e :: r, ls, x, h, hl => by
    show (k : Int) ∈ (predB k (predE k ls e) r)[x.block.toNat]?.getD []
    rcases List.mem_cons.1 h with q | q
    · subst q
      apply predB_mono
      unfold predE
      rw [List.getElem?_set_self hl]
      simp
    · exact predB_new q (by rw [predE_len]; exact hl)

theorem predL_new : ∀ {bs : List Block} {k i : Nat} {ls : List (List Int)} {b : Block} {x : Edge}, bs[i]? = some b → x ∈ b.term.to → x.block.toNat < ls.length → ((k + i : Nat) : Int) ∈ (predL k ls bs)[x.block.toNat]?.getD []
  | [], _, _, _, _, _, h, _, _ => by simp at h
  | c :: r, k, i, ls, b, x, h, hx, hl => by
    cases i with
    | zero =>
      simp only [List.getElem?_cons_zero, Option.some.injEq] at h
      subst h
      exact predL_mono (bs := r) (predB_new hx hl)
    | succ i =>
      have := predL_new (bs := r) (k := k + 1) (i := i) (ls := predB k ls c.term.to) (by simpa using h) hx (by rw [predB_len]; exact hl)
      rw [show k + (i + 1) = k + 1 + i by omega]
      exact this

theorem edg_preds {f : Func} {a v : Int} (ha : 0 ≤ a ∧ a < f.blocks.length) (hv : 0 ≤ v ∧ v < f.blocks.length) (h : Edg f a v) : a ∈ (predsM f)[v.toNat]?.getD [] := by
  obtain ⟨x, hx, hxv⟩ := h
  have hb := blkOf_at ha.1 ha.2
  have := predL_new (bs := f.blocks) (k := 0) (ls := List.replicate f.blocks.length []) hb hx (by rw [hxv, List.length_replicate]; omega)
  rw [hxv, Nat.zero_add, Int.toNat_of_nonneg ha.1] at this
  exact this

/-- R.HasInt -/
def hasM (l : List Int) (n : Int) : Bool := l.any fun x => decide (x = n)

theorem hasM_iff {l : List Int} {n : Int} : hasM l n = true ↔ n ∈ l := by
  simp [hasM]

theorem ordered_law {f : Func} (hg : GrW f) {n : Nat} {v : Int} (h : (orderM f)[n]? = some v) : ((decide ((n : Int) = 0) && decide (v = 0)) || ((predsM f)[v.toNat]?.getD []).any (hasM ((orderM f).take n))) = true := by
  have hb := (searchM_few hg).2.2
  have hmem : ∀ x ∈ orderM f, 0 ≤ x ∧ x < f.blocks.length := fun x hx => hb x (by simpa [orderM] using hx)
  rcases order_law hg h with ⟨q1, q2⟩ | ⟨a, q1, q2⟩
  · simp [q1, q2]
  · have ha := hmem a (List.mem_of_mem_take q2)
    have hv := hmem v (List.mem_of_getElem? h)
    simp only [Bool.or_eq_true, List.any_eq_true]
    exact .inr ⟨a, edg_preds ha hv q1, hasM_iff.2 q2⟩

end Go.Proofs.Ythhjebmgmjemoaa
end

section
set_option linter.unusedSimpArgs false
set_option maxRecDepth 100000
set_option maxHeartbeats 4000000
namespace Go.Proofs.Ythhjebmgmjemoaa
open Go.Av

theorem any_at {α : Type} {l : List α} {p : α → Bool} {j : Nat} {x : α} (h : l[j]? = some x) : (l.drop j).any p = (p x || (l.drop (j + 1)).any p) := by
 rw [drop_at h]
 rfl

theorem aI_upto_take (m n : Nat) (l : List Int) : uptoL m ((l.map aI).take n) := by
 rw [← List.map_take]
 exact aI_upto _ _

theorem hasInt_spec (l : List Int) (n : Int) : PCall Try.prog 26 [eIs l, aI n] (.v (.bool (hasM l n))) := by
 obtain ⟨R, hR⟩ : ∃ R, R = hasM l n := ⟨_, rfl⟩
 rw [← hR]
 unfold hasM at hR
 refine ecall_of hT true 0 Try.func26 rfl (by kernel_rfl) (by simp [Try.ntmps26]) (by simp) ?_
 show AWP Try.prog _ _ _ ⟨17, _, _⟩
 dsimp only [Tmp, TypeId, slotsOf]
 refine zg1 ?_
 simp -dsimp only [simprocAttr, ↓vpre, zp]
 refine za0 ?_
 refine awp_len 0 rfl (fun hll => ?_)
 simp only [List.length_map] at hll
 refine zg2 ?_
 simp -dsimp only [simprocAttr, ↓vpre, zp]
 refine za0 ?_
 refine awp_block (awp_loop (ι := {k : Nat // k ≤ l.length ∧ R = (l.drop k).any fun x => decide (x = n)}) (fun k => ⟨17, [(1, aI n), (4, .v (.bool false)), (7, eIs l), (8, aI l.length), (9, aI k.1)], []⟩) (fun k => l.length - k.1) ⟨0, by omega, hR⟩ ?_ ?_)
 ·refine ⟨rfl, ?_, ?_⟩
  rotate_left
  simp -dsimp only [simprocAttr, ↓vpre, zp, Says, exists_eq_left', Option.some.injEq, sub_self, and_assoc, true_and, and_true]
  rfl
 ·rintro ⟨k, hk, hke⟩
  refine zg1 ?_
  simp -dsimp only [simprocAttr, ↓vpre, zp]
  refine za0 ?_
  refine zk1 rfl (fun h => ?_) (fun h => ?_)
  ·refine zb0 ?_
   have hlt : k < l.length := by simpa using h
   obtain ⟨a, ha⟩ : ∃ a, l[k]? = some a := ⟨l[k], by simp [hlt]⟩
   rw [any_at ha] at hke
   refine awp_seq (awp_block ?_)
   refine zg1 ?_
   simp -dsimp only [simprocAttr, ↓vpre, zp, ha]
   refine za0 ?_
   by_cases hab : a = n
   ·have hd : decide (a = n) = true := decide_eq_true hab
    rw [hd, Bool.true_or] at hke
    refine zg1 ?_
    simp -dsimp only [simprocAttr, ↓vpre, zp, hd]
    refine za0 ?_
    refine zk0 rfl (fun h => ?_) (fun h => ?_)
    ·refine zg1 ?_
     simp -dsimp only [simprocAttr, ↓vpre, zp]
     refine za0 ?_
     refine awp_ret ?_
     simp -dsimp only [simprocAttr, ↓vpre, zp, RetTo, Try.results26, retVals, retVal, mkRet, AVal.upto, Nat.zero_le, Nat.le_refl, Nat.le_add_right, seqPost_ret, blockPost_ret, loopPost_ret]
     rw [hke]
    ·cases h
   ·have hd : decide (a = n) = false := decide_eq_false hab
    rw [hd, Bool.false_or] at hke
    refine zg1 ?_
    simp -dsimp only [simprocAttr, ↓vpre, zp, hd]
    refine za0 ?_
    refine zk0 rfl (fun h => ?_) (fun h => ?_)
    ·cases h
    ·refine zb1 ?_
     refine zg0 ?_
     simp -dsimp only [simprocAttr, ↓vpre, zp]
     repeat (refine ⟨by omega, ?_⟩)
     refine zl0 ?_
     refine ⟨⟨k + 1, hlt, hke⟩, by simp; omega, ?_⟩
     refine ⟨rfl, ?_, ?_⟩
     rotate_left
     simp -dsimp only [simprocAttr, ↓vpre, zp, Says, exists_eq_left', Option.some.injEq, sub_self, and_assoc, true_and, and_true]
     ·exact Sub.int (by simp)
     ·rfl
  ·refine awp_exit ?_
   simp -dsimp only [vend, ne_eq, Nat.reduceEqDiff, reduceCtorEq]
   have hkk : k = l.length := by simp at h; omega
   subst hkk
   rw [List.drop_length] at hke
   refine zg1 ?_
   simp -dsimp only [simprocAttr, ↓vpre, zp]
   refine za0 ?_
   refine awp_ret ?_
   simp -dsimp only [simprocAttr, ↓vpre, zp, RetTo, Try.results26, retVals, retVal, mkRet, AVal.upto, Nat.zero_le, Nat.le_refl, Nat.le_add_right, seqPost_ret, blockPost_ret, loopPost_ret]
   rw [hke]
   rfl

theorem cfgOrdered_law (f : Func) (hfit : f.fit) : PCall Try.prog 9 [f.enc] (.v (.bool true)) := by
 have hwk := works_spec
 have hpr := preds_spec f hfit
 have hor := order_spec f hfit
 unfold predsR at hpr
 unfold orderR at hor
 by_cases hc : checkFuncM f = 0
 ·rw [if_pos hc] at hpr hor
  have hw := checkFunc_ok hfit hc
  have hg := hw.gr
  have hn : f.blocks.length ≤ 128 := hw.few
  have hPl := preds_len f
  obtain ⟨g1, g2, g3⟩ := searchM_few hg
  have hlaw : ∀ (n : Nat) (v : Int), (orderM f)[n]? = some v → _ := fun n v h => ordered_law hg h
  have hne : orderM f ≠ [] := by simpa [orderM] using g1
  have hlen : (orderM f).length ≤ 128 := by simpa [orderM] using g2
  have hrange : ∀ v ∈ orderM f, 0 ≤ v ∧ v < f.blocks.length := fun v hv => g3 v (by simpa [orderM] using hv)
  generalize orderM f = L at *
  generalize predsM f = P at *
  have hL0 : 0 < L.length := by
   cases L with
   | nil => exact absurd rfl hne
   | cons => simp
  have hd0 : decide ((0 : Int) < L.length) = true := decide_eq_true (by omega)
  refine ecall_of hT true 0 Try.func9 rfl (by kernel_rfl) (by simp [Try.ntmps9]) (by simp) ?_
  show AWP Try.prog _ _ _ ⟨70, _, _⟩
  dsimp only [Tmp, TypeId, slotsOf]
  refine zg1 ?_
  simp -dsimp only [simprocAttr, ↓vpre, zp]
  refine za0 ?_
  refine awp_freeze1 1 0 (.ip none [aI f.name, eBlocks f.blocks]) rfl (by simp [AObj.isSpare]) trivial rfl ?_ ?_
  rotate_left
  simp -dsimp only [simprocAttr, ↓vpre, zp]
  ·refine zg2 ?_
   simp -dsimp only [simprocAttr, ↓vpre, zp]
   refine .inl ⟨_, hwk, by simp only [uptoL, AVal.upto, zt, zu, aI_upto, aI_upto_take], later_intro ?_⟩
   simp -dsimp only [simprocAttr, ↓vpre, zp]
   refine za0 ?_
   refine zk0 rfl (fun h => ?_) (fun h => ?_)
   ·cases h
   ·refine zb0 ?_
    refine zg1 ?_
    simp -dsimp only [simprocAttr, ↓vpre, zp]
    refine .inl ⟨_, hor, by simp only [uptoL, AVal.upto, zt, zu, aI_upto, aI_upto_take], later_intro ?_⟩
    simp -dsimp only [simprocAttr, ↓vpre, zp]
    refine za0 ?_
    refine zg1 ?_
    simp -dsimp only [simprocAttr, ↓vpre, zp]
    refine .inl ⟨_, hpr, by simp only [uptoL, AVal.upto, zt, zu, aI_upto, aI_upto_take], later_intro ?_⟩
    simp -dsimp only [simprocAttr, ↓vpre, zp]
    refine za0 ?_
    refine zg2 ?_
    simp -dsimp only [simprocAttr, ↓vpre, zp]
    refine za0 ?_
    refine zk0 rfl (fun h => ?_) (fun h => ?_)
    ·cases h
    ·refine zb0 ?_
     refine zg2 ?_
     simp -dsimp only [simprocAttr, ↓vpre, zp]
     refine za0 ?_
     refine awp_block (awp_loop (ι := {n : Nat // n ≤ L.length}) (fun n => ⟨70, [(2, .v (.bool false)), (3, eIs L), (5, .lst 1 (P.map eIs) .sh), (33, eIs L), (34, aI L.length), (35, aI n.1)], [.gone]⟩) (fun n => L.length - n.1) ⟨0, by omega⟩ ?_ ?_)
     ·refine ⟨rfl, ?_, ?_⟩
      rotate_left
      simp -dsimp only [simprocAttr, ↓vpre, zp, Says, exists_eq_left', Option.some.injEq, sub_self, and_assoc, true_and, and_true]
      rfl
     ·rintro ⟨n, hn2⟩
      refine zg1 ?_
      simp -dsimp only [simprocAttr, ↓vpre, zp]
      refine za0 ?_
      refine zk1 rfl (fun h => ?_) (fun h => ?_)
      ·refine zb0 ?_
       have hlt : n < L.length := by simpa using h
       obtain ⟨v, hv⟩ : ∃ v, L[n]? = some v := ⟨L[n], by simp [hlt]⟩
       have hvr := hrange v (List.mem_of_getElem? hv)
       have hlv := hlaw n v hv
       obtain ⟨Q, hQ⟩ : ∃ Q, P[v.toNat]? = some Q := ⟨P[v.toNat]'(by omega), List.getElem?_eq_getElem _⟩
       rw [hQ, Option.getD_some] at hlv
       refine awp_seq (awp_block ?_)
       refine zg1 ?_
       simp -dsimp only [simprocAttr, ↓vpre, zp, hv]
       refine za0 ?_
       refine awp_mid (⟨70, [(2, .v (.bool false)), (3, eIs L), (5, .lst 1 (P.map eIs) .sh), (33, eIs L), (34, aI L.length), (35, aI n), (7, aI n), (8, aI v), (9, .v (.bool (decide ((n : Int) = 0) && decide (v = 0))))], [.gone]⟩) ?_ ?_
       ·cases hA : decide ((n : Int) = 0) <;> cases hB : decide (v = 0)
        all_goals
         refine awp_region hT hm ?_
         simp -dsimp only [simprocAttr, ↓vpre, zp, hA, hB]
         refine at_intro ?_
         show Covers _ _
         refine ⟨rfl, ?_, ?_⟩
         rotate_left
         simp -dsimp only [simprocAttr, ↓vpre, zp, Says, exists_eq_left', Option.some.injEq, sub_self, and_assoc, true_and, and_true]
         all_goals rfl
       ·obtain ⟨b0, hb0⟩ : ∃ b0, b0 = (decide ((n : Int) = 0) && decide (v = 0)) := ⟨_, rfl⟩
        rw [← hb0] at hlv ⊢
        refine zg2 ?_
        simp -dsimp only [simprocAttr, ↓vpre, zp, hQ]
        repeat (refine ⟨by omega, ?_⟩)
        refine za0 ?_
        refine awp_len 49 rfl (fun hql => ?_)
        simp only [List.length_map] at hql
        refine awp_block (awp_loop (ι := {q : Nat × Bool // q.1 ≤ Q.length ∧ (q.2 || (Q.drop q.1).any (hasM (L.take n))) = true}) (fun q => ⟨70, [(2, .v (.bool false)), (3, eIs L), (5, .lst 1 (P.map eIs) .sh), (33, eIs L), (34, aI L.length), (35, aI n), (7, aI n), (9, .v (.bool q.1.2)), (49, eIs Q), (50, aI Q.length), (51, aI q.1.1)], [.gone]⟩) (fun q => Q.length - q.1.1) ⟨(0, b0), by simp, hlv⟩ ?_ ?_)
        ·refine ⟨rfl, ?_, ?_⟩
         rotate_left
         simp -dsimp only [simprocAttr, ↓vpre, zp, Says, exists_eq_left', Option.some.injEq, sub_self, and_assoc, true_and, and_true]
         rfl
        ·rintro ⟨⟨q, b1⟩, hq, hqe⟩
         simp only at hq hqe
         refine zg1 ?_
         simp -dsimp only [simprocAttr, ↓vpre, zp]
         refine za0 ?_
         refine zk1 rfl (fun h => ?_) (fun h => ?_)
         ·refine zb0 ?_
          have hlq : q < Q.length := by simpa using h
          obtain ⟨a, ha⟩ : ∃ a, Q[q]? = some a := ⟨Q[q], by simp [hlq]⟩
          rw [any_at ha] at hqe
          have hhi := hasInt_spec (L.take n) a
          unfold eIs at hhi
          rw [List.map_take] at hhi
          refine awp_seq (awp_block ?_)
          refine zg1 ?_
          simp -dsimp only [simprocAttr, ↓vpre, zp, ha]
          refine za0 ?_
          cases b1 with
          | true =>
           refine zg0 ?_
           simp -dsimp only [simprocAttr, ↓vpre, zp]
           refine za0 ?_
           refine zg0 ?_
           simp -dsimp only [simprocAttr, ↓vpre, zp]
           repeat (refine ⟨by omega, ?_⟩)
           refine zl0 ?_
           refine ⟨⟨(q + 1, true), hlq, rfl⟩, by simp; omega, ?_⟩
           refine ⟨rfl, ?_, ?_⟩
           rotate_left
           simp -dsimp only [simprocAttr, ↓vpre, zp, Says, exists_eq_left', Option.some.injEq, sub_self, and_assoc, true_and, and_true]
           all_goals first | exact Sub.int (by simp) | rfl
          | false =>
           rw [Bool.false_or] at hqe
           refine zg0 ?_
           simp -dsimp only [simprocAttr, ↓vpre, zp]
           repeat (refine ⟨by omega, ?_⟩)
           refine .inl ⟨_, hhi, by simp only [uptoL, AVal.upto, zt, zu, aI_upto, aI_upto_take], later_intro ?_⟩
           simp -dsimp only [simprocAttr, ↓vpre, zp]
           refine za0 ?_
           refine zg0 ?_
           simp -dsimp only [simprocAttr, ↓vpre, zp]
           repeat (refine ⟨by omega, ?_⟩)
           refine zl0 ?_
           refine ⟨⟨(q + 1, hasM (L.take n) a), hlq, hqe⟩, by simp; omega, ?_⟩
           refine ⟨rfl, ?_, ?_⟩
           rotate_left
           simp -dsimp only [simprocAttr, ↓vpre, zp, Says, exists_eq_left', Option.some.injEq, sub_self, and_assoc, true_and, and_true]
           all_goals first | exact Sub.int (by simp) | rfl
         ·refine awp_exit ?_
          simp -dsimp only [vend, ne_eq, Nat.reduceEqDiff, reduceCtorEq]
          have hqq : q = Q.length := by simp at h; omega
          subst hqq
          rw [List.drop_length, List.any_nil, Bool.or_false] at hqe
          subst hqe
          refine zg1 ?_
          simp -dsimp only [simprocAttr, ↓vpre, zp]
          refine za0 ?_
          refine zk0 rfl (fun h => ?_) (fun h => ?_)
          ·cases h
          ·refine zb1 ?_
           refine zg0 ?_
           simp -dsimp only [simprocAttr, ↓vpre, zp]
           repeat (refine ⟨by omega, ?_⟩)
           refine zl0 ?_
           refine ⟨⟨n + 1, hlt⟩, by simp; omega, ?_⟩
           refine ⟨rfl, ?_, ?_⟩
           rotate_left
           simp -dsimp only [simprocAttr, ↓vpre, zp, Says, exists_eq_left', Option.some.injEq, sub_self, and_assoc, true_and, and_true]
           all_goals first | exact Sub.int (by simp) | rfl
      ·refine awp_exit ?_
       simp -dsimp only [vend, ne_eq, Nat.reduceEqDiff, reduceCtorEq]
       refine zg1 ?_
       simp -dsimp only [simprocAttr, ↓vpre, zp, hd0]
       refine za0 ?_
       refine awp_ret ?_
       simp -dsimp only [simprocAttr, ↓vpre, zp, RetTo, Try.results9, retVals, retVal, mkRet, AVal.upto, Nat.zero_le, Nat.le_refl, Nat.le_add_right, seqPost_ret, blockPost_ret, loopPost_ret]
  ·exact FSub.mp rfl rfl
 ·rw [if_neg hc] at hpr hor
  obtain ⟨e, he⟩ : ∃ e, e = checkFuncM f := ⟨_, rfl⟩
  rw [← he] at hc hpr hor
  have hde : decide (e = 0) = false := decide_eq_false hc
  refine ecall_of hT true 0 Try.func9 rfl (by kernel_rfl) (by simp [Try.ntmps9]) (by simp) ?_
  show AWP Try.prog _ _ _ ⟨70, _, _⟩
  dsimp only [Tmp, TypeId, slotsOf]
  refine zg1 ?_
  simp -dsimp only [simprocAttr, ↓vpre, zp]
  refine za0 ?_
  refine awp_freeze1 1 0 (.ip none [aI f.name, eBlocks f.blocks]) rfl (by simp [AObj.isSpare]) trivial rfl ?_ ?_
  rotate_left
  simp -dsimp only [simprocAttr, ↓vpre, zp]
  ·refine zg2 ?_
   simp -dsimp only [simprocAttr, ↓vpre, zp]
   refine .inl ⟨_, hwk, by simp only [uptoL, AVal.upto, zt, zu, aI_upto, aI_upto_take], later_intro ?_⟩
   simp -dsimp only [simprocAttr, ↓vpre, zp]
   refine za0 ?_
   refine zk0 rfl (fun h => ?_) (fun h => ?_)
   ·cases h
   ·refine zb0 ?_
    refine zg1 ?_
    simp -dsimp only [simprocAttr, ↓vpre, zp]
    refine .inl ⟨_, hor, by simp only [uptoL, AVal.upto, zt, zu, aI_upto, aI_upto_take], later_intro ?_⟩
    simp -dsimp only [simprocAttr, ↓vpre, zp]
    refine za0 ?_
    refine zg1 ?_
    simp -dsimp only [simprocAttr, ↓vpre, zp]
    refine .inl ⟨_, hpr, by simp only [uptoL, AVal.upto, zt, zu, aI_upto, aI_upto_take], later_intro ?_⟩
    simp -dsimp only [simprocAttr, ↓vpre, zp]
    refine za0 ?_
    refine zg2 ?_
    simp -dsimp only [simprocAttr, ↓vpre, zp, hde]
    refine za0 ?_
    refine zk0 rfl (fun h => ?_) (fun h => ?_)
    ·refine zg1 ?_
     simp -dsimp only [simprocAttr, ↓vpre, zp, decide_true]
     refine za0 ?_
     refine awp_ret ?_
     simp -dsimp only [simprocAttr, ↓vpre, zp, RetTo, Try.results9, retVals, retVal, mkRet, AVal.upto, Nat.zero_le, Nat.le_refl, Nat.le_add_right, seqPost_ret, blockPost_ret, loopPost_ret]
    ·cases h
  ·exact FSub.mp rfl rfl
end Go.Proofs.Ythhjebmgmjemoaa
end
