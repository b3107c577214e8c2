/-
  Texts bound together by a program of mine: YthhjebmgmjemoaaPf, YthhjebmgmjemoaaT48, YthhjebmgmjemoaaPg, YthhjebmgmjemoaaT49, YthhjebmgmjemoaaT50, YthhjebmgmjemoaaPh, YthhjebmgmjemoaaT51, YthhjebmgmjemoaaPi, YthhjebmgmjemoaaPc, YthhjebmgmjemoaaPj, YthhjebmgmjemoaaT52, YthhjebmgmjemoaaPda, YthhjebmgmjemoaaT54, YthhjebmgmjemoaaT53.
-/
import Derived.Test.YthhjebmgmjemoaaJ5
set_option linter.all false

section
namespace Go.Av
theorem awp_ownAll {P : Program} {kb : Nat} {c : Code} {Q : AEx → St → Prop} {n : Nat} {slots : List (Nat × AVal)} {O : List AObj} (k m : Nat) (hk : k < O.length)
    (h : AWP P kb c Q ⟨n, slots, (O ++ List.replicate m (AObj.spare 0)).set k (.cells ((List.range m).map fun j => .lst 1 [] (.tok (O.length + j))))⟩) : AWP P kb c Q ⟨n, slots, O.set k (.cells (List.replicate m (.lst 1 [] .ex)))⟩ := by
  obtain ⟨conv, hconv⟩ : ∃ conv : Nat → List AVal, conv = fun q => ((List.range q).map fun j => AVal.lst 1 [] (.tok (O.length + j))) ++ List.replicate (m - q) (.lst 1 [] .ex) := ⟨_, rfl⟩
  have key : ∀ q, q ≤ m → AWP P kb c Q ⟨n, slots, (O ++ List.replicate q (AObj.spare 0)).set k (.cells (conv q))⟩ → AWP P kb c Q ⟨n, slots, O.set k (.cells (List.replicate m (.lst 1 [] .ex)))⟩ := fun q => by
    induction q with
    | zero =>
      intro _ h
      simpa [hconv] using h
    | succ q ih =>
      intro hq h
      refine ih (by omega) (awp_ownCell k q (sz := 1) (cs := conv q) (xs := []) ?_ ?_ ?_)
      · rw [List.getElem?_set_self (by simp; omega)]
      · rw [hconv]
        simp only
        rw [List.getElem?_append_right (by simp)]
        simp only [List.length_map, List.length_range, Nat.sub_self]
        rw [show m - q = (m - (q + 1)) + 1 by omega, List.replicate_succ]
        rfl
      have e1 : (O ++ List.replicate q (AObj.spare 0)).set k (.cells (conv q)) ++ [AObj.spare ([] : List AVal).length] = (O ++ List.replicate (q + 1) (AObj.spare 0)).set k (.cells (conv q)) := by
        rw [List.set_append_left _ _ hk, List.set_append_left _ _ hk, List.append_assoc]
        congr 1
        rw [List.replicate_succ']
        rfl
      have e2 : (conv q).set q (.lst 1 [] (.tok ((O ++ List.replicate q (AObj.spare 0)).set k (.cells (conv q))).length)) = conv (q + 1) := by
        rw [hconv]
        simp only [List.length_set, List.length_append, List.length_replicate]
        rw [List.set_append_right _ _ (by simp)]
        simp only [List.length_map, List.length_range, Nat.sub_self]
        rw [show m - q = (m - (q + 1)) + 1 by omega, List.replicate_succ, List.set_cons_zero, List.range_succ, List.map_append, List.append_assoc]
        rfl
      rw [e1, e2, List.set_set]
      exact h
  refine key m (Nat.le_refl _) ?_
  simpa [hconv] using h
end Go.Av
namespace Go.Proofs.Ythhjebmgmjemoaa
open Go.Av
def outC (b : Nat) (ls : List (List Int)) : List AVal := ls.mapIdx fun j l => .lst 1 (l.map aI) (.tok (b + j))
theorem outC_get {b : Nat} {ls : List (List Int)} {j : Nat} {l : List Int} (h : ls[j]? = some l) : (outC b ls)[j]? = some (.lst 1 (l.map aI) (.tok (b + j))) := by
  simp [outC, h]
theorem outC_set {b : Nat} {ls : List (List Int)} {j : Nat} (l : List Int) : (outC b ls).set j (.lst 1 (l.map aI) (.tok (b + j))) = outC b (ls.set j l) := by
  apply List.ext_getElem?
  intro i
  simp only [outC, List.getElem?_set, List.getElem?_mapIdx, List.length_mapIdx]
  by_cases e : j = i
  · subst e
    by_cases hl : j < ls.length
    · simp [hl]
    simp [hl]
  simp [e]
theorem outC_len (b : Nat) (ls : List (List Int)) : (outC b ls).length = ls.length := by simp [outC]
theorem outC_nil (b n : Nat) : outC b (List.replicate n []) = (List.range n).map fun j => .lst 1 [] (.tok (b + j)) := by
  apply List.ext_getElem?
  intro i
  simp only [outC, List.getElem?_mapIdx, List.getElem?_map]
  by_cases h : i < n
  · simp [h]
  simp [h]
theorem outC_share (b : Nat) (ls : List (List Int)) : (outC b ls).map AVal.shareCell = cellsAll (ls.map eIs) := by
  have h1 : cellsAll (ls.map eIs) = ls.map eIs := by
    induction ls with
    | nil => rfl
    | cons l r ih =>
      simp only [List.map_cons, cellsAll, List.flatMap_cons] at ih ⊢
      rw [ih]
      rfl
  rw [h1]
  apply List.ext_getElem?
  intro i
  simp only [outC, List.getElem?_map, List.getElem?_mapIdx]
  cases ls[i]? with
  | none => rfl
  | some l =>
    simp only [Option.map_some, Option.some.injEq]
    rw [shareCell_lst]
theorem outC_upto {b n : Nat} {ls : List (List Int)} (h : b + ls.length ≤ n) : uptoL n (outC b ls) := by
  rw [uptoL_iff]
  intro x hx
  obtain ⟨j, hj⟩ := List.mem_iff_getElem?.1 hx
  simp only [outC, List.getElem?_mapIdx] at hj
  cases hl : ls[j]? with
  | none => rw [hl] at hj; cases hj
  | some l =>
    rw [hl] at hj
    simp only [Option.map_some, Option.some.injEq] at hj
    subst hj
    have := lt_of_getElem? hl
    exact ⟨aI_upto _ _, show _ < _ by omega⟩
theorem splice_one {cs : List AVal} {j : Nat} (x : AVal) (h : j < cs.length) : splice cs j [x] = cs.set j x := by
  apply List.ext_getElem?
  intro i
  rw [splice_get (by simp; omega), List.getElem?_set]
  simp only [List.length_cons, List.length_nil, Nat.zero_add]
  by_cases e : j = i
  · subst e
    simp [h]
  rw [if_neg (by omega), if_neg e]
structure PO (ls : List (List Int)) (O : List AObj) : Prop where
  len : O.length = ls.length + 2
  arr : O[1]? = some (.cells (outC 2 ls))
  sp : ∀ j l, ls[j]? = some l → O[2 + j]? = some (.spare l.length)
  up : ∀ o ∈ O, o.upto O.length
theorem PO.push {ls : List (List Int)} {O : List AObj} (h : PO ls O) {j : Nat} {l : List Int} (hj : ls[j]? = some l) (k : Int) : PO (ls.set j (l ++ [k])) ((O.set (2 + j) (.spare (l.length + 1))).set 1 (.cells (outC 2 (ls.set j (l ++ [k]))))) := by
  have hlt := lt_of_getElem? hj
  have hl := h.len
  refine ⟨by simp [hl], ?_, fun i m hi => ?_, ?_⟩
  · rw [List.getElem?_set_self (by simp; omega)]
  · rw [List.getElem?_set_ne (by omega)]
    by_cases e : j = i
    · subst e
      rw [List.getElem?_set_self hlt] at hi
      simp only [Option.some.injEq] at hi
      subst hi
      rw [List.getElem?_set_self (by omega)]
      simp
    rw [List.getElem?_set_ne e] at hi
    rw [List.getElem?_set_ne (by omega)]
    exact h.sp i m hi
  have h1 : ∀ o ∈ O.set (2 + j) (.spare (l.length + 1)), o.upto O.length := uptoO_set h.up trivial
  have h2 := uptoO_set (k := 1) (x := .cells (outC 2 (ls.set j (l ++ [k])))) h1 (by
    show uptoL _ _
    exact outC_upto (by simp [hl]; omega))
  simpa using h2
def predE (k : Nat) (ls : List (List Int)) (e : Edge) : List (List Int) := ls.set e.block.toNat ((ls[e.block.toNat]?.getD []) ++ [(k : Int)])
def predB (k : Nat) (ls : List (List Int)) (es : List Edge) : List (List Int) := es.foldl (predE k) ls
def predL : Nat → List (List Int) → List Block → List (List Int)
  | _, ls, [] => ls
  | k, ls, b :: r => predL (k + 1) (predB k ls b.term.to) r
def predsM (f : Func) : List (List Int) := predL 0 (List.replicate f.blocks.length []) f.blocks
theorem predE_len (k : Nat) (ls : List (List Int)) (e : Edge) : (predE k ls e).length = ls.length := by simp [predE]
theorem predB_len (k : Nat) : ∀ (es : List Edge) (ls : List (List Int)), (predB k ls es).length = ls.length
  | [], _ => rfl
  | e :: r, ls => by
    show (predB k (predE k ls e) r).length = _
    rw [predB_len k r, predE_len]
theorem predL_len : ∀ (l : List Block) (k : Nat) (ls : List (List Int)), (predL k ls l).length = ls.length
  | [], _, _ => rfl
  | b :: r, k, ls => by
    simp only [predL]
    rw [predL_len r, predB_len]
theorem to_few {f : Func} {t : Term} (hend : EndW f t) : t.to.length ≤ 257 := by
  rcases (show (t.kind = 0 ∨ t.kind = 4) ∨ t.kind = 1 ∨ t.kind = 2 ∨ t.kind = 3 by have := hend.kind; omega) with q | q | q | q
  · rw [hend.to q]; simp
  · rw [hend.jump q]; omega
  · rw [hend.cond q]; omega
  rw [hend.switch q]; have := hend.cases; omega
theorem preds_len (f : Func) : (predsM f).length = f.blocks.length := by simp [predsM, predL_len]
theorem nils_flat (n : Nat) : (List.replicate n [AVal.lst 1 [] .ex]).flatten = List.replicate n (.lst 1 [] .ex) := by
  induction n with
  | zero => rfl
  | succ n ih => rw [List.replicate_succ, List.flatten_cons, ih, List.replicate_succ]; rfl
end Go.Proofs.Ythhjebmgmjemoaa
end

section
set_option linter.unusedSimpArgs false
set_option maxRecDepth 100000
set_option maxHeartbeats 4000000
namespace Go.Proofs.Ythhjebmgmjemoaa
open Go.Av
def nextF (x v : Int) : Int := max x (v + 1)
def blkVals (b : Block) : List Int := b.params ++ b.ins.map Ins.to
def valsF (f : Func) : List Int := f.blocks.flatMap blkVals
def freshM (f : Func) : Int := (valsF f).foldl nextF 0
theorem fresh1_spec {O : List AObj} (hup : ∀ o ∈ O, o.upto O.length) {A : Nat} {x : Int} (hA : O[A]? = some (.cells [aI x])) (v : Int) (hv : 0 ≤ v ∧ v ≤ 2 ^ 60) :
  ECall Try.prog 43 O [aI v, .mp A 0] (fun r O' => r = .tup [] ∧ O' = O.set A (.cells [aI (nextF x v)])) := by
 have hAl := lt_of_getElem? hA
 have htk : (O.set A (.cells [aI (nextF x v)])).take O.length = O.set A (.cells [aI (nextF x v)]) := take_set_len
 have hu2 : ∀ o ∈ O.set A (.cells [aI (nextF x v)]), o.upto O.length := uptoO_set hup ⟨trivial, trivial⟩
 unfold nextF at *
 refine zf true O.length Try.func43 Try.ntmps43 ?_
 dsimp only [Tmp, TypeId, slotsOf]
 refine zg0 ?_
 simp -dsimp only [simprocAttr, ↓vpre, zp, hA]
 repeat (refine ⟨by omega, ?_⟩)
 refine at_intro ?_
 simp -dsimp only [simprocAttr, ↓vpre, zp, zr, Try.results43, htk, List.length_set]
 exact ⟨hu2, trivial⟩
def ValsW (f : Func) : Prop := ∀ v ∈ valsF f, 0 ≤ v ∧ v ≤ 4095
theorem nextF_le {x v : Int} (hx : x ≤ 4096) (hv : v ≤ 4095) : nextF x v ≤ 4096 := by
 unfold nextF
 omega
theorem foldNext_le : ∀ (l : List Int) (x : Int), x ≤ 4096 → (∀ v ∈ l, v ≤ 4095) → l.foldl nextF x ≤ 4096
 | [], _, hx, _ => hx
 | v :: r, x, hx, h => foldNext_le r _ (nextF_le hx (h v (by simp))) (fun w hw => h w (by simp [hw]))
theorem foldNext_ge : ∀ (l : List Int) (x : Int), x ≤ l.foldl nextF x ∧ ∀ v ∈ l, v < l.foldl nextF x
 | [], _ => ⟨Int.le_refl _, by simp⟩
 | v :: r, x => by
  have ih := foldNext_ge r (nextF x v)
  have : x ≤ nextF x v ∧ v < nextF x v := by unfold nextF; omega
  simp only [List.foldl_cons]
  refine ⟨by omega, fun w hw => ?_⟩
  rcases List.mem_cons.1 hw with q | q
  ·subst q
   omega
  exact ih.2 w q
theorem values_spec {O : List AObj} (hup : ∀ o ∈ O, o.upto O.length) {A : Nat} (f : Func) (hf : ValsW f) (hbl : f.blocks.length ≤ 2 ^ 47) (hbp : ∀ b ∈ f.blocks, b.params.length ≤ 2 ^ 47 ∧ b.ins.length ≤ 2 ^ 47) (hA : O[A]? = some (.cells [aI 0])) :
  ECall Try.prog 42 O [f.enc, .fn (.func 43) [] [.mp A 0]] (fun r O' => r = .tup [] ∧ O' = O.set A (.cells [aI (freshM f)])) := by
 have hAl := lt_of_getElem? hA
 obtain ⟨R, hR⟩ : ∃ R, R = freshM f := ⟨_, rfl⟩
 rw [← hR]
 unfold freshM valsF at hR
 have hgt : ∀ x, (O.set A x)[A]? = some x := fun x => List.getElem?_set_self hAl
 have hup2 : ∀ x : Int, ∀ o ∈ O.set A (.cells [aI x]), o.upto (O.set A (.cells [aI x])).length := fun x => by
  rw [List.length_set]
  exact uptoO_set hup ⟨trivial, trivial⟩
 have hlen : ∀ x, (O.set A x).length = O.length := fun x => List.length_set
 have hsame : O.set A (.cells [aI 0]) = O := set_same hA
 have htk : ∀ x : Int, (O.set A (.cells [aI x])).take O.length = O.set A (.cells [aI x]) := fun x => take_set_len
 have hst : ∀ x y, (O.set A x).set A y = O.set A y := fun x y => List.set_set ..
 refine zf true O.length Try.func42 Try.ntmps42 ?_
 dsimp only [Tmp, TypeId, slotsOf]
 refine zh1 (za0 ?_)
 refine awp_local 2 ([aI f.name, eBlocks f.blocks]) [(1, .fn (.func 43) [] [.mp A 0]), (2, .ip none [aI f.name, eBlocks f.blocks])] rfl (by rfl) (by omega) (by simp [putS, dropS, Go.Av.look]) ?_ ?_ ?_
 ·exact hup
 ·simp [AVal.upto, uptoL, aI_upto, Block.map_upto, hAl]
 refine zh1 (za0 ?_)
 refine awp_block (awp_loop (ι := {x : Nat × Int // x.1 ≤ f.blocks.length ∧ R = ((f.blocks.drop x.1).flatMap blkVals).foldl nextF x.2 ∧ x.2 ≤ 4096}) (fun x => ⟨41, [(1, .fn (.func 43) [] [.mp A 0]), (11, eBlocks f.blocks), (12, aI f.blocks.length), (13, aI x.1.1)], O.set A (.cells [aI x.1.2])⟩) (fun x => f.blocks.length - x.1.1) ⟨(0, 0), by simp, hR, by simp⟩ ?_ ?_)
 ·refine zq rfl ?_ ?_
  simp -dsimp only [simprocAttr, ↓vpre, zp, zc]
  exact hsame.symm
 rintro ⟨⟨k, x⟩, hk, hke, hx⟩
 simp only at hk hke hx
 refine zh1 (za0 ?_)
 apply zk1 rfl <;> intro h
 ·refine zb0 ?_
  have hlt : k < f.blocks.length := by simpa using h
  obtain ⟨b, hb⟩ : ∃ b, f.blocks[k]? = some b := ⟨f.blocks[k], by simp [hlt]⟩
  have hbm := List.mem_of_getElem? hb
  have hbv : ∀ v ∈ blkVals b, 0 ≤ v ∧ v ≤ 4095 := fun v hv => hf v (List.mem_flatMap.2 ⟨b, hbm, hv⟩)
  rw [drop_at hb] at hke
  rw [List.flatMap_cons, List.foldl_append, blkVals, List.foldl_append] at hke
  have hbp := hbp b hbm
  have hlx := hlen (.cells [aI x])
  refine awp_seq (awp_block ?_)
  refine zg1 ?_
  simp -dsimp only [simprocAttr, ↓vpre, zp, hb]
  refine za0 ?_
  refine awp_local 5 ([eIs b.params, eInss b.ins, aI b.term.kind, aI b.term.arg, aI b.term.n, eIs b.term.cases, eEdges b.term.to]) [(1, .fn (.func 43) [] [.mp A 0]), (5, .ip none [eIs b.params, eInss b.ins, aI b.term.kind, aI b.term.arg, aI b.term.n, eIs b.term.cases, eEdges b.term.to]), (11, eBlocks f.blocks), (12, aI f.blocks.length), (13, aI k)] rfl (by rfl) (by omega) (by simp [putS, dropS, Go.Av.look]) ?_ ?_ ?_
  ·exact hup2 x
  ·simp [AVal.upto, uptoL, aI_upto, Block.map_upto, Edge.map_upto, Ins.map_upto, hAl]
  refine zh2 (za0 ?_)
  refine awp_block (awp_loop (ι := {y : Nat × Int // y.1 ≤ b.params.length ∧ R = ((f.blocks.drop (k + 1)).flatMap blkVals).foldl nextF ((b.ins.map Ins.to).foldl nextF ((b.params.drop y.1).foldl nextF y.2)) ∧ y.2 ≤ 4096}) (fun y => ⟨41, [(1, .fn (.func 43) [] [.mp A 0]), (5, .ip none [eIs b.params, eInss b.ins, aI b.term.kind, aI b.term.arg, aI b.term.n, eIs b.term.cases, eEdges b.term.to]), (11, eBlocks f.blocks), (12, aI f.blocks.length), (13, aI k), (18, eIs b.params), (19, aI b.params.length), (20, aI y.1.1)], O.set A (.cells [aI y.1.2])⟩) (fun y => b.params.length - y.1.1) ⟨(0, x), by simp, hke, hx⟩ ?_ ?_)
  ·refine zq rfl ?_ ?_
   simp -dsimp only [simprocAttr, ↓vpre, zp, zc]
   rfl
  rintro ⟨⟨j, y⟩, hj, hje, hy⟩
  simp only at hj hje hy
  refine zh1 (za0 ?_)
  apply zk1 rfl <;> intro h
  ·refine zb0 ?_
   have hltj : j < b.params.length := by simpa using h
   obtain ⟨v, hv⟩ : ∃ v, b.params[j]? = some v := ⟨b.params[j], by simp [hltj]⟩
   rw [drop_at hv, List.foldl_cons] at hje
   have hvr := hbv v (by simp [blkVals, List.mem_of_getElem? hv])
   have hfr := fresh1_spec (hup2 y) (hgt _) v ⟨hvr.1, by omega⟩
   rw [hst] at hfr
   refine awp_seq (awp_block ?_)
   refine zg1 ?_
   simp -dsimp only [simprocAttr, ↓vpre, zp, hv]
   refine za0 ?_
   refine zh0 ?_
   refine .inr (.inl ⟨_, _, hfr, .inl (later_intro (zj ?_))⟩)
   refine za0 ?_
   refine zh0 ?_
   repeat (refine ⟨by omega, ?_⟩)
   refine zl0 ?_
   refine ⟨⟨(j + 1, nextF y v), hltj, hje, nextF_le hy hvr.2⟩, by simp; omega, ?_⟩
   refine zq rfl ?_ ?_
   simp -dsimp only [simprocAttr, ↓vpre, zp, zc]
   ·exact Sub.int (by simp)
   rfl
  refine awp_exit ?_
  simp -dsimp only [vend, ne_eq, Nat.reduceEqDiff, reduceCtorEq]
  have hjj : j = b.params.length := by simp at h; omega
  subst hjj
  rw [List.drop_length, List.foldl_nil] at hje
  refine zh1 (za0 ?_)
  refine awp_block (awp_loop (ι := {z : Nat × Int // z.1 ≤ b.ins.length ∧ R = ((f.blocks.drop (k + 1)).flatMap blkVals).foldl nextF (((b.ins.drop z.1).map Ins.to).foldl nextF z.2) ∧ z.2 ≤ 4096}) (fun z => ⟨41, [(1, .fn (.func 43) [] [.mp A 0]), (11, eBlocks f.blocks), (12, aI f.blocks.length), (13, aI k), (29, eInss b.ins), (30, aI b.ins.length), (31, aI z.1.1)], O.set A (.cells [aI z.1.2])⟩) (fun z => b.ins.length - z.1.1) ⟨(0, y), by simp, hje, hy⟩ ?_ ?_)
  ·refine zq rfl ?_ ?_
   simp -dsimp only [simprocAttr, ↓vpre, zp, zc]
   rfl
  rintro ⟨⟨q, z⟩, hq, hqe, hz⟩
  simp only at hq hqe hz
  refine zh1 (za0 ?_)
  apply zk1 rfl <;> intro h
  ·refine zb0 ?_
   have hltq : q < b.ins.length := by simpa using h
   obtain ⟨i, hi⟩ : ∃ i, b.ins[q]? = some i := ⟨b.ins[q], by simp [hltq]⟩
   rw [drop_at hi, List.map_cons, List.foldl_cons] at hqe
   have hvr := hbv i.to (by simp only [blkVals, List.mem_append, List.mem_map]; exact .inr ⟨i, List.mem_of_getElem? hi, rfl⟩)
   have hfr := fresh1_spec (hup2 z) (hgt _) i.to ⟨hvr.1, by omega⟩
   rw [hst] at hfr
   have hlx := hlen (.cells [aI z])
   refine awp_seq (awp_block ?_)
   refine zg1 ?_
   simp -dsimp only [simprocAttr, ↓vpre, zp, hi]
   refine za0 ?_
   refine awp_local 9 ([aI i.to, aI i.op, aI i.n, eIs i.args]) [(1, .fn (.func 43) [] [.mp A 0]), (9, .ip none [aI i.to, aI i.op, aI i.n, eIs i.args]), (11, eBlocks f.blocks), (12, aI f.blocks.length), (13, aI k), (29, eInss b.ins), (30, aI b.ins.length), (31, aI q)] rfl (by rfl) (by omega) (by simp [putS, dropS, Go.Av.look]) ?_ ?_ ?_
   ·exact hup2 z
   ·simp [AVal.upto, uptoL, aI_upto, Block.map_upto, Edge.map_upto, Ins.map_upto, hAl]
   refine zh0 ?_
   refine .inr (.inl ⟨_, _, hfr, .inl (later_intro (zj ?_))⟩)
   refine za0 ?_
   refine zh0 ?_
   repeat (refine ⟨by omega, ?_⟩)
   refine zl0 ?_
   refine ⟨⟨(q + 1, nextF z i.to), hltq, hqe, nextF_le hz hvr.2⟩, by simp; omega, ?_⟩
   refine zq rfl ?_ ?_
   simp -dsimp only [simprocAttr, ↓vpre, zp, zc]
   ·exact Sub.int (by simp)
   rfl
  refine awp_exit ?_
  simp -dsimp only [vend, ne_eq, Nat.reduceEqDiff, reduceCtorEq]
  have hqq : q = b.ins.length := by simp at h; omega
  subst hqq
  rw [List.drop_length, List.map_nil, List.foldl_nil] at hqe
  refine zh0 ?_
  repeat (refine ⟨by omega, ?_⟩)
  refine zl0 ?_
  refine ⟨⟨(k + 1, z), hlt, hqe, hz⟩, by simp; omega, ?_⟩
  refine zq rfl ?_ ?_
  simp -dsimp only [simprocAttr, ↓vpre, zp, zc]
  ·exact Sub.int (by simp)
  rfl
 refine awp_exit ?_
 simp -dsimp only [vend, ne_eq, Nat.reduceEqDiff, reduceCtorEq]
 have hkk : k = f.blocks.length := by simp at h; omega
 subst hkk
 rw [List.drop_length, List.flatMap_nil, List.foldl_nil] at hke
 subst hke
 skip
 simp -dsimp only [simprocAttr, ↓vpre, zp, zr, Try.results42, htk, List.length_set]
 have := hup2 R
 rw [hlen] at this
 exact ⟨this, trivial⟩
theorem fresh_spec (f : Func) (hf : ValsW f) (hbl : f.blocks.length ≤ 2 ^ 47) (hbp : ∀ b ∈ f.blocks, b.params.length ≤ 2 ^ 47 ∧ b.ins.length ≤ 2 ^ 47) : PCall Try.prog 22 [f.enc] (aI (freshM f)) := by
 have hvs := values_spec (O := [.gone, .cells [aI 0]]) (A := 1) (by simp [AObj.upto, uptoL, AVal.upto]) f hf hbl hbp rfl
 refine zf true 0 Try.func22 Try.ntmps22 ?_
 dsimp only [Tmp, TypeId, slotsOf]
 refine zh1 (za0 ?_)
 refine awp_freeze1 1 0 (.ip none [aI f.name, eBlocks f.blocks]) rfl (by simp [AObj.isSpare]) trivial rfl ?_ ?_
 rotate_left
 simp -dsimp only [simprocAttr, ↓vpre, zp]
 ·refine zh1 (za0 ?_)
  refine zh1 ?_
  refine .inr (.inl ⟨_, _, hvs, .inl (later_intro (zj ?_))⟩)
  refine za0 ?_
  refine zh1 (za0 ?_)
  refine awp_ret ?_
  simp -dsimp only [simprocAttr, ↓vpre, zp, zr, Try.results22]
 exact FSub.mp rfl rfl
end Go.Proofs.Ythhjebmgmjemoaa
end

section
namespace Go.Av
theorem RV.to_nn {g : G} {sz : Nat} {xs : List AVal} {a : Addr} {len cap : Nat} (h : RV g (.lst sz xs .sh) (.slice (some a) len cap)) : RV g (.lst sz xs .nn) (.slice (some a) len cap) := by
  cases h with
  | lst hsz hsc hcap hmax hs f hm hr ho => exact .lst hsz hsc hcap hmax hs f hm hr trivial
theorem FSub.ms_nn {O : List AObj} {id off len cap sz : Nat} {cs xs : List AVal} (hid : O[id]? = some (.cells cs)) (hsz : ∀ x ∈ xs, x.cells.length = sz) (hlen : xs.length = len) (hd : ((cs.drop off).take (len * sz)).map AVal.shareCell = cellsAll xs) : FSub O id (.ms id off len cap) (.lst sz xs .nn) := fun g u l' hg hO he hle h => by
  have k := FSub.ms hid hsz hlen hd g u l' hg hO he hle h
  obtain ⟨l, o1, h1, h2, _, hlc, hmax, cap', hcap, eu⟩ := h.ms_inv
  subst eu
  exact k.to_nn
theorem awp_local2 {P : Program} {kb : Nat} {c : Code} {Q : AEx → St → Prop} {n : Nat} {slots : List (Nat × AVal)} {O : List AObj} {a : AObj} {cs : List AVal} (s : Nat) (ds : List AVal) (slots' : List (Nat × AVal)) (hx : look slots s = some (.mp (O.length + 1) 0))
    (hds : cs.map AVal.shareCell = ds) (hkb : kb ≤ O.length) (hs : ∀ p ∈ slots', look (putS s (.ip none ds) slots) p.1 = some p.2) (hup : ∀ o ∈ O, o.upto O.length) (ha : a.upto (O.length + 1)) (hsl : ∀ p ∈ slots', p.2.upto (O.length + 1))
    (h : AWP P kb c Q ⟨n, slots', O ++ [a]⟩) : AWP P kb c Q ⟨n, slots, O ++ [a, .cells cs]⟩ := by
  have e : O ++ [a, .cells cs] = (O ++ [a]) ++ [.cells cs] := by simp
  rw [e]
  refine awp_local s ds slots' (by simpa using hx) hds (by simp; omega) hs (fun o ho => ?_) (fun p hp => by simpa using hsl p hp) h
  rw [List.length_append]
  rcases List.mem_append.1 ho with q | q
  · exact AObj.upto_mono (by omega) (hup o q)
  rw [List.mem_singleton.1 q]
  exact ha
end Go.Av
namespace Go.Proofs.Ythhjebmgmjemoaa
open Go.Av
theorem eB_upto (n : Nat) (l : List Bool) : uptoL n (l.map eB) := by
  rw [uptoL_iff]
  intro x hx
  obtain ⟨b, _, rfl⟩ := List.mem_map.1 hx
  trivial
theorem falses_flat (n : Nat) : (List.replicate n [AVal.v (.bool false)]).flatten = (List.replicate n false).map eB := by
  induction n with
  | zero => rfl
  | succ n ih => rw [List.replicate_succ, List.flatten_cons, ih, List.replicate_succ]; rfl
theorem eB_cells (l : List Bool) : cellsAll (l.map eB) = l.map eB := by
  induction l with
  | nil => rfl
  | cons a r ih =>
    simp only [List.map_cons, cellsAll, List.flatMap_cons] at ih ⊢
    rw [ih]
    rfl
theorem eB_share (l : List Bool) : (l.map eB).map AVal.shareCell = l.map eB := by
  rw [List.map_map]
  rfl
theorem eB_share' (l : List Bool) : (l.map eB).map AVal.share = l.map eB := by
  rw [List.map_map]
  rfl
theorem eB_sz (l : List Bool) : ∀ x ∈ l.map eB, x.cells.length = 1 := fun x hx => by
  obtain ⟨b, _, rfl⟩ := List.mem_map.1 hx
  rfl
theorem eB_freeze {O : List AObj} {id : Nat} {l : List Bool} {len cap : Nat} (h : O[id]? = some (.cells (l.map eB))) (hl : l.length = len) : FSub O id (.ms id 0 len cap) (.lst 1 (l.map eB) .nn) :=
  FSub.ms_nn h (eB_sz l) (by simpa using hl) (by rw [List.drop_zero, List.take_of_length_le (by simp; omega), eB_share, eB_cells])
theorem eB_put {l : List Bool} {j : Nat} (h : j < l.length) (b : Bool) : splice (l.map eB) j [.v (.bool b)] = (l.set j b).map eB := by
  rw [splice_one _ (by simpa using h), List.map_set]
  rfl
def ownF : List Bool → Own
  | [] => .ex
  | _ => .nn
def eF (l : List Bool) : AVal := .lst 1 (l.map eB) (ownF l)
def eH : List Bool → AVal
  | [] => .v (.slice none 0 0)
  | a :: r => .lst 1 ((a :: r).map eB) .nn
theorem eF_get {ls : List (List Bool)} {k : Nat} {l : List Bool} (h : ls[k]? = some l) : (ls.map eF)[k]? = some (.lst 1 (l.map eB) (ownF l)) := by
  rw [List.getElem?_map, h]
  rfl
theorem eF_ne {l : List Bool} (h : l ≠ []) : eF l = .lst 1 (l.map eB) .nn := by
  cases l with
  | nil => exact absurd rfl h
  | cons => rfl
theorem eH_ne {l : List Bool} (h : l ≠ []) : eH l = .lst 1 (l.map eB) .nn := by
  cases l with
  | nil => exact absurd rfl h
  | cons => rfl
theorem ownF_upto (n : Nat) (l : List Bool) : AVal.upto n (.lst 1 (l.map eB) (ownF l)) := by
  cases l with
  | nil => exact ⟨trivial, trivial⟩
  | cons => exact ⟨eB_upto _ _, trivial⟩
theorem eF_upto (n : Nat) (ls : List (List Bool)) : uptoL n (ls.map eF) := by
  rw [uptoL_iff]
  intro x hx
  obtain ⟨l, _, rfl⟩ := List.mem_map.1 hx
  exact ownF_upto n l
theorem eH_upto (n : Nat) (ls : List (List Bool)) : uptoL n (ls.map eH) := by
  rw [uptoL_iff]
  intro x hx
  obtain ⟨l, _, rfl⟩ := List.mem_map.1 hx
  cases l with
  | nil => trivial
  | cons => exact ⟨eB_upto _ _, trivial⟩
def lifeC (f : Func) (many : Nat) (B N : Nat) : List AVal := [aI f.name, eBlocks f.blocks, aI many, .ms B 0 N N]
def putB (l : List Bool) (v : Int) (b : Bool) : List Bool := l.set v.toNat b
def putAll (l : List Bool) (vs : List Int) : List Bool := vs.foldl (fun s v => putB s v true) l
def backI (i : Ins) (now : List Bool) : List Bool := putAll (putB now i.to false) i.args
def backM (l : List Ins) (now : List Bool) : List Bool := l.foldr backI now
def lastV (ps : List Int) : Nat → List Bool → List Bool → List Bool
  | _, [], out => out
  | v, is :: r, out => lastV ps (v + 1) r (if is && !hasI ps v then out.set v true else out)
def firstAt (first : List (List Bool)) (k : Int) : List Bool := first[k.toNat]?.getD []
def lastE (f : Func) (first : List (List Bool)) (out : List Bool) (e : Edge) : List Bool := lastV (blkOf f e.block).params 0 (firstAt first e.block) out
def usesArg (t : Term) : Bool := !decide (t.kind = 1) && !decide (t.kind = 4)
def lastA (t : Term) (o : List Bool) : List Bool := t.to.foldl (fun o e => putAll o e.args) (if usesArg t then putB o t.arg true else o)
def lastM (f : Func) (many : Nat) (first : List (List Bool)) (t : Term) : List Bool := lastA t (t.to.foldl (lastE f first) (List.replicate many false))
def listM : Nat → List Bool → List Int
  | _, [] => []
  | v, is :: r => if is then (v : Int) :: listM (v + 1) r else listM (v + 1) r
theorem putB_len (l : List Bool) (v : Int) (b : Bool) : (putB l v b).length = l.length := by simp [putB]
theorem putAll_len : ∀ (vs : List Int) (l : List Bool), (putAll l vs).length = l.length
  | [], _ => rfl
  | v :: r, l => by
    have := putAll_len r (putB l v true)
    rw [putB_len] at this
    exact this
theorem backI_len (i : Ins) (now : List Bool) : (backI i now).length = now.length := by rw [backI, putAll_len, putB_len]
theorem backM_len : ∀ (l : List Ins) (now : List Bool), (backM l now).length = now.length
  | [], _ => rfl
  | i :: r, now => by
    have := backM_len r now
    simp only [backM, List.foldr_cons] at this ⊢
    rw [backI_len, this]
theorem lastV_len (ps : List Int) : ∀ (S : List Bool) (v : Nat) (out : List Bool), (lastV ps v S out).length = out.length
  | [], _, _ => rfl
  | is :: r, v, out => by
    rw [lastV, lastV_len ps r]
    split <;> simp
theorem lastF_len (f : Func) (first : List (List Bool)) : ∀ (l : List Edge) (out : List Bool), (l.foldl (lastE f first) out).length = out.length
  | [], _ => rfl
  | e :: r, out => by
    rw [List.foldl_cons, lastF_len f first r, lastE, lastV_len]
theorem argsF_len : ∀ (l : List Edge) (out : List Bool), (l.foldl (fun o e => putAll o e.args) out).length = out.length
  | [], _ => rfl
  | e :: r, out => by
    rw [List.foldl_cons, argsF_len r, putAll_len]
theorem lastA_len (t : Term) (o : List Bool) : (lastA t o).length = o.length := by
  rw [lastA, argsF_len]
  split
  · rw [putB_len]
  rfl
theorem lastM_len (f : Func) (many : Nat) (first : List (List Bool)) (t : Term) : (lastM f many first t).length = many := by
  rw [lastM, lastA_len, lastF_len, List.length_replicate]
end Go.Proofs.Ythhjebmgmjemoaa
end

section
set_option linter.unusedSimpArgs false
set_option maxRecDepth 100000
set_option maxHeartbeats 4000000
namespace Go.Proofs.Ythhjebmgmjemoaa
open Go.Av
theorem cloneB_spec {O : List AObj} (hup : ∀ o ∈ O, o.upto O.length) (l : List Bool) (hl : l ≠ []) (hll : l.length ≤ 2 ^ 40) :
  ECall Try.prog 89 O [.lst 1 (l.map eB) .nn] (fun r O' => r = .ms O.length 0 l.length l.length ∧ O' = O ++ [.cells (l.map eB)]) := by
 have hkk : O.length ≤ O.length + 1 := by omega
 have hl0 : ¬ l.length = 0 := fun e => hl (List.length_eq_zero_iff.1 e)
 have hc := eB_cells l
 have hs := eB_share' l
 have htk : (O ++ [AObj.cells (l.map eB)]).take (O.length + 1) = O ++ [AObj.cells (l.map eB)] := List.take_of_length_le (by simp)
 have hu2 : ∀ o ∈ O ++ [AObj.cells (l.map eB)], o.upto (O.length + 1) := uptoO_snoc (fun o ho => AObj.upto_mono (by omega) (hup o ho)) (eB_upto _ _)
 refine ecall_of hT true (O.length + 1) Try.func89 rfl (by kernel_rfl) (by simp [Try.ntmps89]) (by assumption) ?_
 show AWP Try.prog _ _ _ ⟨8, _, _⟩
 dsimp only [Tmp, TypeId, slotsOf]
 refine zh1 (za0 ?_)
 refine zh2 (za0 ?_)
 refine zu0 rfl ?_
 refine zb0 ?_
 refine zm1 ?_
 simp -dsimp only [simprocAttr, ↓vpre, zp, hc, hs]
 repeat (refine ⟨by omega, ?_⟩)
 refine za0 ?_
 refine awp_ret ?_
 simp -dsimp only [simprocAttr, ↓vpre, zp, zr, Try.results89, htk]
 exact ⟨hu2, by omega⟩
theorem equalB_spec (l m : List Bool) : PCall Try.prog 78 [.lst 1 (l.map eB) .sh, .lst 1 (m.map eB) .sh] (.v (.bool (decide (l = m)))) := by
 by_cases hlen : l.length = m.length
 ·have hdl : decide ((l.length : Int) = m.length) = true := decide_eq_true (by omega)
  obtain ⟨R, hR⟩ : ∃ R, R = decide (l = m) := ⟨_, rfl⟩
  rw [← hR]
  refine zf true 0 Try.func78 Try.ntmps78 ?_
  dsimp only [Tmp, TypeId, slotsOf]
  refine zh1 (za0 ?_)
  refine awp_len 0 rfl (fun hll => ?_)
  simp only [List.length_map] at hll
  refine zg2 ?_
  simp -dsimp only [simprocAttr, ↓vpre, zp, hdl]
  refine za0 ?_
  apply zk0 rfl <;> intro h
  ·cases h
  refine zb0 ?_
  refine zh2 (za0 ?_)
  refine awp_block (awp_loop (ι := {k : Nat // k ≤ l.length ∧ R = decide (l.drop k = m.drop k)}) (fun k => ⟨26, [(0, .lst 1 (l.map eB) .sh), (1, .lst 1 (m.map eB) .sh), (4, .v (.bool false)), (12, aI l.length), (13, aI k.1)], []⟩) (fun k => l.length - k.1) ⟨0, by omega, hR⟩ ?_ ?_)
  ·refine zq rfl ?_ ?_
   simp -dsimp only [simprocAttr, ↓vpre, zp, zc]
   rfl
  rintro ⟨k, hk, hke⟩
  refine zh1 (za0 ?_)
  apply zk1 rfl <;> intro h
  ·refine zb0 ?_
   have hlt : k < l.length := by simpa using h
   obtain ⟨a, ha⟩ : ∃ a, l[k]? = some a := ⟨l[k], by simp [hlt]⟩
   obtain ⟨b, hb⟩ : ∃ b, m[k]? = some b := ⟨m[k]'(by omega), List.getElem?_eq_getElem _⟩
   rw [drop_at ha, drop_at hb] at hke
   simp only [List.cons.injEq, Bool.decide_and] at hke
   refine awp_seq (awp_block ?_)
   refine zh1 (za0 ?_)
   refine zg1 ?_
   simp -dsimp only [simprocAttr, ↓vpre, zp, ha, hb, eB]
   refine ⟨Try.underlying4, ?_⟩
   refine ⟨ob (by kernel_rfl), ?_⟩
   refine za0 ?_
   apply zk0 rfl <;> intro h
   ·refine zh1 (za0 ?_)
    refine awp_ret ?_
    simp -dsimp only [simprocAttr, ↓vpre, zp, zr, Try.results78]
    rw [hke, decide_eq_false (show ¬ a = b by simpa using h)]
    rfl
   refine zb1 ?_
   rw [decide_eq_true (show a = b by simpa using h), Bool.true_and] at hke
   refine zh0 ?_
   repeat (refine ⟨by omega, ?_⟩)
   refine zl0 ?_
   refine ⟨⟨k + 1, hlt, hke⟩, by simp; omega, ?_⟩
   refine zq rfl ?_ ?_
   simp -dsimp only [simprocAttr, ↓vpre, zp, zc]
   ·exact Sub.int (by simp)
   rfl
  refine awp_exit ?_
  simp -dsimp only [vend, ne_eq, Nat.reduceEqDiff, reduceCtorEq]
  have hkk : k = l.length := by simp at h; omega
  subst hkk
  rw [List.drop_length, hlen, List.drop_length] at hke
  refine zh1 (za0 ?_)
  refine awp_ret ?_
  simp -dsimp only [simprocAttr, ↓vpre, zp, zr, Try.results78]
  rw [hke]
  rfl
 have hdl : decide ((l.length : Int) = m.length) = false := decide_eq_false (by omega)
 rw [decide_eq_false (fun e => hlen (by rw [e]))]
 refine zf true 0 Try.func78 Try.ntmps78 ?_
 dsimp only [Tmp, TypeId, slotsOf]
 refine zh1 (za0 ?_)
 refine zg2 ?_
 simp -dsimp only [simprocAttr, ↓vpre, zp, hdl]
 refine za0 ?_
 refine zw0 rfl ?_
 refine zh1 (za0 ?_)
 refine awp_ret ?_
 simp -dsimp only [simprocAttr, ↓vpre, zp, zr, Try.results78]
theorem list_spec (l : List Bool) (hl : l.length ≤ 2 ^ 40) : PCall Try.prog 62 [.lst 1 (l.map eB) .sh] (eIs (listM 0 l)) := by
 obtain ⟨R, hR⟩ : ∃ R, R = listM 0 l := ⟨_, rfl⟩
 rw [← hR]
 refine zf true 0 Try.func62 Try.ntmps62 ?_
 dsimp only [Tmp, TypeId, slotsOf]
 refine zh1 (za0 ?_)
 refine zh1 (za0 ?_)
 refine awp_own 3 rfl ?_
 simp -dsimp only [simprocAttr, ↓vpre, zp]
 refine zh2 (za0 ?_)
 refine awp_block (awp_loop (ι := {x : Nat × List Int // x.1 ≤ l.length ∧ x.2.length ≤ x.1 ∧ R = x.2 ++ listM x.1 (l.drop x.1)}) (fun x => ⟨20, [(3, .lst 1 (x.1.2.map aI) (.tok 0)), (6, .lst 1 (l.map eB) .sh), (7, aI l.length), (8, aI x.1.1)], [.spare x.1.2.length]⟩) (fun x => l.length - x.1.1) ⟨(0, []), by simp, by simp, hR⟩ ?_ ?_)
 ·refine zq rfl ?_ ?_
  simp -dsimp only [simprocAttr, ↓vpre, zp, zc]
  rfl
 rintro ⟨⟨k, acc⟩, hk, hak, hke⟩
 simp only at hk hak hke
 refine zh1 (za0 ?_)
 apply zk1 rfl <;> intro h
 ·refine zb0 ?_
  have hlt : k < l.length := by simpa using h
  obtain ⟨a, ha⟩ : ∃ a, l[k]? = some a := ⟨l[k], by simp [hlt]⟩
  rw [drop_at ha] at hke
  simp only [listM] at hke
  refine awp_seq (awp_block ?_)
  refine zg1 ?_
  simp -dsimp only [simprocAttr, ↓vpre, zp, ha, eB]
  refine za0 ?_
  cases a with
  | true =>
   simp only [if_true] at hke
   refine zh1 (za0 ?_)
   refine zw0 rfl ?_
   refine zh0 ?_
   repeat (refine ⟨by omega, ?_⟩)
   refine za0 ?_
   refine zh0 ?_
   repeat (refine ⟨by omega, ?_⟩)
   refine zl0 ?_
   refine ⟨⟨(k + 1, acc ++ [(k : Int)]), hlt, by simp; omega, by simpa using hke⟩, by simp; omega, ?_⟩
   refine zq rfl ?_ ?_
   simp -dsimp only [simprocAttr, ↓vpre, zp, zc]
   ·exact ⟨Sub.lst (by simp), Sub.int (by simp)⟩
   simp
  | false =>
   simp only [Bool.false_eq_true, if_false] at hke
   refine zh1 (za0 ?_)
   refine zu0 rfl ?_
   refine zb1 ?_
   refine zh0 ?_
   repeat (refine ⟨by omega, ?_⟩)
   refine zl0 ?_
   refine ⟨⟨(k + 1, acc), hlt, by simp only; omega, hke⟩, by simp; omega, ?_⟩
   refine zq rfl ?_ ?_
   simp -dsimp only [simprocAttr, ↓vpre, zp, zc]
   ·exact Sub.int (by simp)
   rfl
 refine awp_exit ?_
 simp -dsimp only [vend, ne_eq, Nat.reduceEqDiff, reduceCtorEq]
 have hkk : k = l.length := by simp at h; omega
 subst hkk
 rw [List.drop_length] at hke
 simp only [listM, List.append_nil] at hke
 subst hke
 refine zh1 (za0 ?_)
 refine awp_ret ?_
 simp -dsimp only [simprocAttr, ↓vpre, zp, zr, Try.results62]
end Go.Proofs.Ythhjebmgmjemoaa
end

section
set_option linter.unusedSimpArgs false
set_option maxRecDepth 100000
set_option maxHeartbeats 4000000
namespace Go.Proofs.Ythhjebmgmjemoaa
open Go.Av
def InR (many : Nat) (v : Int) : Prop := 0 ≤ v ∧ v < many
theorem last_spec {O : List AObj} (hup : ∀ o ∈ O, o.upto O.length) {f : Func} {many N A B C : Nat} {first : List (List Bool)} (hA : O[A]? = some (.cells (lifeC f many B N))) (hC : O[C]? = some (.cells (first.map eF))) (hfN : first.length = N) (hN : f.blocks.length = N)
  (hmy : many ≤ 2 ^ 20) (hm0 : 0 < many) (hfl : ∀ l ∈ first, l.length ≤ many) {k : Nat} {b : Block} (hb : f.blocks[k]? = some b) (he : ∀ e ∈ b.term.to, (0 ≤ e.block ∧ e.block.toNat < N) ∧ ∀ a ∈ e.args, InR many a) (ha : usesArg b.term = true → InR many b.term.arg) :
  ECall Try.prog 77 O [.mp A 0, aI k, .ms C 0 N N] (fun r O' => r = .lst 1 ((lastM f many first b.term).map eB) .nn ∧ O' = O) := by
 have hAl := lt_of_getElem? hA
 have hCl := lt_of_getElem? hC
 obtain ⟨R, hR⟩ : ∃ R, R = lastM f many first b.term := ⟨_, rfl⟩
 have hRl : R.length = many := by rw [hR, lastM_len]
 rw [← hR]
 unfold lastM at hR
 unfold lifeC at hA
 have hA' : ∀ X, (O ++ X)[A]? = some (.cells [aI f.name, eBlocks f.blocks, aI many, .ms B 0 N N]) := fun X => at_left hA
 have hC' : ∀ X, (O ++ X)[C]? = some (.cells (first.map eF)) := fun X => at_left hC
 have hkN : k < N := by rw [← hN]; exact lt_of_getElem? hb
 refine zf false O.length Try.func77 Try.ntmps77 ?_
 dsimp only [Tmp, TypeId, slotsOf]
 refine zh1 (za0 ?_)
 refine zg1 ?_
 simp -dsimp only [simprocAttr, ↓vpre, zp, hA, hb]
 repeat (refine ⟨by omega, ?_⟩)
 refine za0 ?_
 refine awp_local 7 ([aI b.term.kind, aI b.term.arg, aI b.term.n, eIs b.term.cases, eEdges b.term.to]) [(0, .mp A 0), (1, aI k), (2, .ms C 0 N N), (7, .ip none [aI b.term.kind, aI b.term.arg, aI b.term.n, eIs b.term.cases, eEdges b.term.to])] (by simp [putS, dropS, Go.Av.look]) (by rfl) (by omega) (by simp [putS, dropS, Go.Av.look]) ?_ ?_ ?_
 ·exact hup
 ·simp [AVal.upto, uptoL, aI_upto, Edge.map_upto, Ins.map_upto, Block.map_upto, hAl, hCl]
 refine zg1 ?_
 simp -dsimp only [simprocAttr, ↓vpre, zp, hA, falses_flat]
 refine ⟨by omega, by omega, ?_⟩
 refine za0 ?_
 refine zh2 (za0 ?_)
 refine awp_len 32 rfl (fun htl => ?_)
 simp only [List.length_map] at htl
 refine awp_block (awp_loop (ι := {x : Nat × List Bool // x.1 ≤ b.term.to.length ∧ x.2.length = many ∧ R = lastA b.term ((b.term.to.drop x.1).foldl (lastE f first) x.2)}) (fun x => ⟨102, [(0, .mp A 0), (2, .ms C 0 N N), (7, .ip none [aI b.term.kind, aI b.term.arg, aI b.term.n, eIs b.term.cases, eEdges b.term.to]), (8, .ms O.length 0 many many), (32, eEdges b.term.to), (33, aI b.term.to.length), (34, aI x.1.1)], O ++ [.cells (x.1.2.map eB)]⟩) (fun x => b.term.to.length - x.1.1) ⟨(0, List.replicate many false), by simp, by simp, hR⟩ ?_ ?_)
 ·refine zq rfl ?_ ?_
  simp -dsimp only [simprocAttr, ↓vpre, zp, zc]
  rfl
 rintro ⟨⟨z, out⟩, hz, hol, hze⟩
 simp only at hz hol hze
 refine zh1 (za0 ?_)
 apply zk1 rfl <;> intro h
 ·refine zb0 ?_
  have hlt : z < b.term.to.length := by simpa using h
  obtain ⟨e, hee⟩ : ∃ e, b.term.to[z]? = some e := ⟨b.term.to[z], by simp [hlt]⟩
  obtain ⟨⟨he0, he1⟩, hea⟩ := he e (List.mem_of_getElem? hee)
  rw [drop_at hee, List.foldl_cons] at hze
  obtain ⟨j, hj⟩ : ∃ j : Nat, e.block = (j : Int) := ⟨e.block.toNat, by omega⟩
  obtain ⟨S, hS⟩ : ∃ S, first[j]? = some S := ⟨first[j]'(by omega), List.getElem?_eq_getElem _⟩
  obtain ⟨c, hc⟩ : ∃ c, f.blocks[j]? = some c := ⟨f.blocks[j]'(by omega), List.getElem?_eq_getElem _⟩
  have hSl := hfl S (List.mem_of_getElem? hS)
  have hlE : lastE f first out e = lastV c.params 0 S out := by
   simp [lastE, firstAt, blkOf, hj, hS, hc]
  rw [hlE] at hze
  have hSg := eF_get hS
  obtain ⟨T, hT1⟩ : ∃ T, T = lastV c.params 0 S out := ⟨_, rfl⟩
  have hTl : T.length = many := by rw [hT1, lastV_len, hol]
  rw [← hT1] at hze
  have hob := eB_upto O.length out
  refine awp_seq (awp_block ?_)
  refine zg1 ?_
  simp -dsimp only [simprocAttr, ↓vpre, zp, hee]
  refine za0 ?_
  refine awp_local2 10 ([aI e.block, eIs e.args]) [(0, .mp A 0), (2, .ms C 0 N N), (7, .ip none [aI b.term.kind, aI b.term.arg, aI b.term.n, eIs b.term.cases, eEdges b.term.to]), (8, .ms O.length 0 many many), (10, .ip none [aI e.block, eIs e.args]), (32, eEdges b.term.to), (33, aI b.term.to.length), (34, aI z)] (by simp [putS, dropS, Go.Av.look]) (by rfl) (by omega) (by simp [putS, dropS, Go.Av.look]) ?_ ?_ ?_ ?_
  ·exact hup
  ·exact eB_upto _ _
  ·simp [AVal.upto, uptoL, aI_upto, Edge.map_upto, Ins.map_upto, Block.map_upto]
   omega
  refine zg1 ?_
  simp -dsimp only [simprocAttr, ↓vpre, zp, hj, hC', hSg, Int.toNat_natCast, Nat.mul_one]
  repeat (refine ⟨by omega, ?_⟩)
  refine za0 ?_
  refine awp_block (awp_loop (ι := {x : Nat × List Bool // x.1 ≤ S.length ∧ x.2.length = many ∧ T = lastV c.params x.1 (S.drop x.1) x.2}) (fun x => ⟨102, [(0, .mp A 0), (2, .ms C 0 N N), (7, .ip none [aI b.term.kind, aI b.term.arg, aI b.term.n, eIs b.term.cases, eEdges b.term.to]), (8, .ms O.length 0 many many), (10, .ip none [aI e.block, eIs e.args]), (32, eEdges b.term.to), (33, aI b.term.to.length), (34, aI z), (42, .lst 1 (S.map eB) (ownF S)), (43, aI S.length), (44, aI x.1.1)], O ++ [.cells (x.1.2.map eB)]⟩) (fun x => S.length - x.1.1) ⟨(0, out), by simp, hol, hT1⟩ ?_ ?_)
  ·refine zq rfl ?_ ?_
   simp -dsimp only [simprocAttr, ↓vpre, zp, zc, hj]
   rfl
  rintro ⟨⟨v, cur⟩, hv, hcl, hve⟩
  simp only at hv hcl hve
  refine zh1 (za0 ?_)
  apply zk1 rfl <;> intro h
  ·refine zb0 ?_
   have hlv : v < S.length := by simpa using h
   obtain ⟨is, his⟩ : ∃ is, S[v]? = some is := ⟨S[v], by simp [hlv]⟩
   rw [drop_at his] at hve
   simp only [lastV] at hve
   have hcon := contains_spec c.params v
   have hsp := eB_put (l := cur) (j := v) (by omega) true
   have hlS : S.length ≤ 2 ^ 20 := by omega
   refine awp_seq (awp_block ?_)
   refine zg1 ?_
   simp -dsimp only [simprocAttr, ↓vpre, zp, his, eB]
   repeat (refine ⟨by omega, ?_⟩)
   refine za0 ?_
   cases is with
   | false =>
    rw [Bool.false_and] at hve
    simp only [Bool.false_eq_true, if_false] at hve
    refine zh1 ?_
    refine ⟨ob (by kernel_rfl), ?_⟩
    refine za0 ?_
    refine zu0 rfl ?_
    refine zb1 ?_
    refine zh0 ?_
    repeat (refine ⟨by omega, ?_⟩)
    refine zl0 ?_
    refine ⟨⟨(v + 1, cur), hlv, hcl, hve⟩, by simp; omega, ?_⟩
    refine zq rfl ?_ ?_
    simp -dsimp only [simprocAttr, ↓vpre, zp, zc]
    ·exact Sub.int (by simp)
    rfl
   | true =>
    rw [Bool.true_and] at hve
    refine zg1 ?_
    simp -dsimp only [simprocAttr, ↓vpre, zp, hA', hj, Int.toNat_natCast, hc]
    repeat (refine ⟨by omega, ?_⟩)
    refine .inl ⟨_, hcon, by simp only [uptoL, AVal.upto, zt, zu, aI_upto, eB_upto], later_intro ?_⟩
    simp -dsimp only [simprocAttr, ↓vpre, zp]
    refine ⟨orderB_ren [A] (O.length + 1) [.pure, .pure, .pure, .pure, .pure, .pure, .rd 0, .pure, .pure, .pure, .pure, .pure, .pure, .pure, .pure, .pure] (by simp) (by simp; omega) rfl rfl (by kernel_rfl), ?_⟩
    refine za0 ?_
    cases hh : hasI c.params v with
    | true =>
     rw [hh] at hve
     simp only [Bool.not_true, Bool.false_eq_true, if_false] at hve
     refine zu0 rfl ?_
     refine zb1 ?_
     refine zh0 ?_
     repeat (refine ⟨by omega, ?_⟩)
     refine zl0 ?_
     refine ⟨⟨(v + 1, cur), hlv, hcl, hve⟩, by simp; omega, ?_⟩
     refine zq rfl ?_ ?_
     simp -dsimp only [simprocAttr, ↓vpre, zp, zc, hj]
     ·exact Sub.int (by simp)
     rfl
    | false =>
     rw [hh] at hve
     simp only [Bool.not_false, if_true] at hve
     refine zw0 rfl ?_
     refine zg0 ?_
     simp -dsimp only [simprocAttr, ↓vpre, zp, hsp, Nat.mul_one]
     refine ⟨by omega, by omega, ?_⟩
     refine za0 ?_
     refine zh0 ?_
     repeat (refine ⟨by omega, ?_⟩)
     refine zl0 ?_
     refine ⟨⟨(v + 1, cur.set v true), hlv, by simp [hcl], hve⟩, by simp; omega, ?_⟩
     refine zq rfl ?_ ?_
     simp -dsimp only [simprocAttr, ↓vpre, zp, zc, hj]
     ·exact Sub.int (by simp)
     rfl
  refine awp_exit ?_
  simp -dsimp only [vend, ne_eq, Nat.reduceEqDiff, reduceCtorEq]
  have hvv : v = S.length := by simp at h; omega
  subst hvv
  rw [List.drop_length] at hve
  simp only [lastV] at hve
  subst hve
  refine zh0 ?_
  repeat (refine ⟨by omega, ?_⟩)
  refine zl0 ?_
  refine ⟨⟨(z + 1, T), hlt, hcl, hze⟩, by simp; omega, ?_⟩
  refine zq rfl ?_ ?_
  simp -dsimp only [simprocAttr, ↓vpre, zp, zc]
  ·exact Sub.int (by simp)
  rfl
 refine awp_exit ?_
 simp -dsimp only [vend, ne_eq, Nat.reduceEqDiff, reduceCtorEq]
 have hzz : z = b.term.to.length := by simp at h; omega
 subst hzz
 rw [List.drop_length, List.foldl_nil] at hze
 obtain ⟨out2, ho2⟩ : ∃ o2, o2 = if usesArg b.term then putB out b.term.arg true else out := ⟨_, rfl⟩
 have ho2l : out2.length = many := by
  rw [ho2]
  split
  ·rw [putB_len, hol]
  exact hol
 unfold lastA at hze
 rw [← ho2] at hze
 refine awp_mid (⟨102, [(0, .mp A 0), (2, .ms C 0 N N), (7, .ip none [aI b.term.kind, aI b.term.arg, aI b.term.n, eIs b.term.cases, eEdges b.term.to]), (8, .ms O.length 0 many many)], O ++ [.cells (out2.map eB)]⟩) ?_ ?_
 ·cases h1 : decide (b.term.kind = 1) with
  | true =>
   have hu : usesArg b.term = false := by simp [usesArg, h1]
   rw [hu] at ho2
   simp only [Bool.false_eq_true, if_false] at ho2
   subst ho2
   refine zg1 ?_
   simp -dsimp only [simprocAttr, ↓vpre, zp, h1]
   refine za0 ?_
   refine zu0 rfl ?_
   refine awp_skip ?_
   show Covers _ _
   refine zq rfl ?_ ?_
   simp -dsimp only [simprocAttr, ↓vpre, zp, zc]
   rfl
  | false =>
   cases h4 : decide (b.term.kind = 4) with
   | true =>
    have hu : usesArg b.term = false := by simp [usesArg, h4]
    rw [hu] at ho2
    simp only [Bool.false_eq_true, if_false] at ho2
    subst ho2
    refine zg1 ?_
    simp -dsimp only [simprocAttr, ↓vpre, zp, h1, h4]
    refine za0 ?_
    refine zu0 rfl ?_
    refine awp_skip ?_
    show Covers _ _
    refine zq rfl ?_ ?_
    simp -dsimp only [simprocAttr, ↓vpre, zp, zc]
    rfl
   | false =>
    have hu : usesArg b.term = true := by simp [usesArg, h1, h4]
    obtain ⟨a0, a1⟩ := ha hu
    rw [hu] at ho2
    simp only [if_true] at ho2
    subst ho2
    obtain ⟨j, hj⟩ : ∃ j : Nat, b.term.arg = (j : Int) := ⟨b.term.arg.toNat, by omega⟩
    have hsp := eB_put (l := out) (j := j) (by omega) true
    have hpb : putB out b.term.arg true = out.set j true := by simp [putB, hj]
    rw [hpb]
    refine zg1 ?_
    simp -dsimp only [simprocAttr, ↓vpre, zp, h1, h4]
    refine za0 ?_
    refine zw0 rfl ?_
    refine awp_region hT hm ?_
    simp -dsimp only [simprocAttr, ↓vpre, zp, hj, Int.toNat_natCast, Nat.mul_one, hsp]
    refine ⟨by omega, by omega, ?_⟩
    refine at_intro ?_
    show Covers _ _
    refine zq rfl ?_ ?_
    simp -dsimp only [simprocAttr, ↓vpre, zp, zc, hj]
    rfl
 refine zh2 (za0 ?_)
 refine awp_block (awp_loop (ι := {x : Nat × List Bool // x.1 ≤ b.term.to.length ∧ x.2.length = many ∧ R = (b.term.to.drop x.1).foldl (fun o e => putAll o e.args) x.2}) (fun x => ⟨102, [(0, .mp A 0), (2, .ms C 0 N N), (8, .ms O.length 0 many many), (83, eEdges b.term.to), (84, aI b.term.to.length), (85, aI x.1.1)], O ++ [.cells (x.1.2.map eB)]⟩) (fun x => b.term.to.length - x.1.1) ⟨(0, out2), by simp, ho2l, hze⟩ ?_ ?_)
 ·refine zq rfl ?_ ?_
  simp -dsimp only [simprocAttr, ↓vpre, zp, zc]
  rfl
 rintro ⟨⟨z, cur⟩, hz, hcl, hze⟩
 simp only at hz hcl hze
 refine zh1 (za0 ?_)
 apply zk1 rfl <;> intro h
 ·refine zb0 ?_
  have hlt : z < b.term.to.length := by simpa using h
  obtain ⟨e, hee⟩ : ∃ e, b.term.to[z]? = some e := ⟨b.term.to[z], by simp [hlt]⟩
  obtain ⟨_, hea⟩ := he e (List.mem_of_getElem? hee)
  rw [drop_at hee, List.foldl_cons] at hze
  obtain ⟨T, hT1⟩ : ∃ T, T = putAll cur e.args := ⟨_, rfl⟩
  rw [← hT1] at hze
  unfold putAll at hT1
  refine awp_seq (awp_block ?_)
  refine zg1 ?_
  simp -dsimp only [simprocAttr, ↓vpre, zp, hee]
  refine za0 ?_
  refine awp_local2 14 ([aI e.block, eIs e.args]) [(0, .mp A 0), (2, .ms C 0 N N), (8, .ms O.length 0 many many), (14, .ip none [aI e.block, eIs e.args]), (83, eEdges b.term.to), (84, aI b.term.to.length), (85, aI z)] (by simp [putS, dropS, Go.Av.look]) (by rfl) (by omega) (by simp [putS, dropS, Go.Av.look]) ?_ ?_ ?_ ?_
  ·exact hup
  ·exact eB_upto _ _
  ·simp [AVal.upto, uptoL, aI_upto, Edge.map_upto, Ins.map_upto, Block.map_upto]
   omega
  refine zh1 (za0 ?_)
  refine awp_len 90 rfl (fun hal => ?_)
  simp only [List.length_map] at hal
  refine awp_block (awp_loop (ι := {x : Nat × List Bool // x.1 ≤ e.args.length ∧ x.2.length = many ∧ T = (e.args.drop x.1).foldl (fun s v => putB s v true) x.2}) (fun x => ⟨102, [(0, .mp A 0), (2, .ms C 0 N N), (8, .ms O.length 0 many many), (83, eEdges b.term.to), (84, aI b.term.to.length), (85, aI z), (90, eIs e.args), (91, aI e.args.length), (92, aI x.1.1)], O ++ [.cells (x.1.2.map eB)]⟩) (fun x => e.args.length - x.1.1) ⟨(0, cur), by simp, hcl, hT1⟩ ?_ ?_)
  ·refine zq rfl ?_ ?_
   simp -dsimp only [simprocAttr, ↓vpre, zp, zc]
   rfl
  rintro ⟨⟨v, cur⟩, hv, hcl, hve⟩
  simp only at hv hcl hve
  refine zh1 (za0 ?_)
  apply zk1 rfl <;> intro h
  ·refine zb0 ?_
   have hlv : v < e.args.length := by simpa using h
   obtain ⟨a, haa⟩ : ∃ a, e.args[v]? = some a := ⟨e.args[v], by simp [hlv]⟩
   obtain ⟨a0, a1⟩ := hea a (List.mem_of_getElem? haa)
   obtain ⟨j, rfl⟩ : ∃ j : Nat, a = (j : Int) := ⟨a.toNat, by omega⟩
   rw [drop_at haa, List.foldl_cons] at hve
   have hpb : putB cur (j : Int) true = cur.set j true := by simp [putB]
   rw [hpb] at hve
   have hsp := eB_put (l := cur) (j := j) (by omega) true
   refine awp_seq (awp_block ?_)
   refine zg1 ?_
   simp -dsimp only [simprocAttr, ↓vpre, zp, haa]
   refine za0 ?_
   refine zg0 ?_
   simp -dsimp only [simprocAttr, ↓vpre, zp, Int.toNat_natCast, Nat.mul_one, hsp]
   refine ⟨by omega, by omega, ?_⟩
   refine za0 ?_
   refine zh0 ?_
   repeat (refine ⟨by omega, ?_⟩)
   refine zl0 ?_
   refine ⟨⟨(v + 1, cur.set j true), hlv, by simp [hcl], hve⟩, by simp; omega, ?_⟩
   refine zq rfl ?_ ?_
   simp -dsimp only [simprocAttr, ↓vpre, zp, zc]
   ·exact Sub.int (by simp)
   rfl
  refine awp_exit ?_
  simp -dsimp only [vend, ne_eq, Nat.reduceEqDiff, reduceCtorEq]
  have hvv : v = e.args.length := by simp at h; omega
  subst hvv
  rw [List.drop_length, List.foldl_nil] at hve
  subst hve
  refine zh0 ?_
  repeat (refine ⟨by omega, ?_⟩)
  refine zl0 ?_
  refine ⟨⟨(z + 1, T), hlt, hcl, hze⟩, by simp; omega, ?_⟩
  refine zq rfl ?_ ?_
  simp -dsimp only [simprocAttr, ↓vpre, zp, zc]
  ·exact Sub.int (by simp)
  rfl
 refine awp_exit ?_
 simp -dsimp only [vend, ne_eq, Nat.reduceEqDiff, reduceCtorEq]
 have hzz : z = b.term.to.length := by simp at h; omega
 subst hzz
 rw [List.drop_length, List.foldl_nil] at hze
 subst hze
 refine awp_freeze1 8 O.length (o := .cells (R.map eB)) (.lst 1 (R.map eB) .nn) (snoc_get _ _) (by simp [AObj.isSpare]) trivial rfl (eB_freeze (snoc_get _ _) hcl) ?_
 rw [snoc_set]
 simp -dsimp only [simprocAttr, ↓vpre, zp]
 refine zh1 (za0 ?_)
 refine awp_ret ?_
 simp -dsimp only [simprocAttr, ↓vpre, zp, zr, Try.results77]
 exact ⟨hup, eB_upto _ _⟩
end Go.Proofs.Ythhjebmgmjemoaa
end

section
namespace Go.Av
def fnIs : AVal → Option Bool
  | .v .nilFunc => some true
  | .fn _ _ _ => some false
  | _ => none
theorem cert_eqFnNil {P : Program} {o : Oper} {σ : St} {t t' : TypeId} {ps rs : Array TypeId} {vr : Bool} {x y : Operand} {x' : AVal} {b : Bool}
    (ho : o.op = .binOp .neq t x y t') (hd : ∀ d, o.dst = some d → d < σ.n) (ht : P.underlying t = some (.func ps rs vr)) (hx : σ.ev x = some x') (hy : σ.ev y = some (.v .nilFunc)) (hb : fnIs x' = some b) : Cert P o σ (.v (.bool !b)) .pure :=
  Cert.ofQuiet .pure (.inl rfl) hd fun a g _ h _ => by
    have hx' := h x (by simp [ho, Op.operands]) _ hx
    have ey := (h y (by simp [ho, Op.operands]) _ hy).v_inv.1
    have ex : (a.eval x = .nilFunc ∧ b = true) ∨ ∃ f us vs, a.eval x = .func f us vs ∧ b = false := by
      unfold fnIs at hb
      split at hb
      · exact .inl ⟨hx'.v_inv.1, by simpa using hb.symm⟩
      · obtain ⟨us, vs, e, _⟩ := hx'.fn_inv
        exact .inr ⟨_, us, vs, e, by simpa using hb.symm⟩
      cases hb
    have e : ∃ d, Op.equal t (a.eval x) .nilFunc = Op.equalIn (d + 1) t (a.eval x) .nilFunc := ⟨9999, rfl⟩
    obtain ⟨d, e⟩ := e
    refine ⟨.bool !b, ?_, .v trivial⟩
    rcases ex with ⟨ex, eb⟩ | ⟨f, us, vs, ex, eb⟩
    · rw [ex] at e
      have hg := run_eqGuard_flat (P := P) .neq t x y .nilFunc .nilFunc g.w (by simp) (by simp)
      simp [execOp, ho, ex, ey, hg, binOp, eb, e, Op.equalIn, Sem.run_bind, run_underlying ht]
    rw [ex] at e
    have hg := run_eqGuard_flat (P := P) .neq t x y (.func f us vs) .nilFunc g.w (by simp) (by simp)
    simp [execOp, ho, ex, ey, hg, binOp, eb, e, Op.equalIn, Sem.run_bind, run_underlying ht]
theorem midOp_fnNil {P : Program} {tab : Tab} {md : Md} {o : Oper} {l2 : List Oper} {Q : AEx → St → Prop} {τ : St} {t t' : TypeId} {ps rs : Array TypeId} {vr : Bool} {x y : Operand} {x' : AVal} {b : Bool} {d : Nat}
    (ho : o.op = .binOp .neq t x y t') (hdst : o.dst = some d) (hd : d < τ.n) (ht : P.underlying t = some (.func ps rs vr)) (hx : τ.ev x = some x') (hy : τ.ev y = some (.v .nilFunc)) (hb : fnIs x' = some b)
    (h : vcOps P tab md l2 0 [] ⟨τ.n, putO o.dst (.v (.bool !b)) τ.slots, τ.objs⟩ [] fun ρ _ => At ρ (Q .norm)) : MidOp P tab md o l2 Q τ :=
  ⟨_, .pure, cert_eqFnNil ho (fun d' e => by rw [hdst] at e; cases e; exact hd) ht hx hy hb, h⟩
end Go.Av
end

section
set_option linter.unusedSimpArgs false
set_option maxRecDepth 100000
set_option maxHeartbeats 4000000
namespace Go.Proofs.Ythhjebmgmjemoaa
open Go.Av
def backRun {X : Type} (step : X → Nat → List Bool → X) (l : List Ins) : Nat → X → List Bool → X
 | 0, x, s => step x 0 s
 | n + 1, x, s => match l[n]? with
  | none => x
  | some i => backRun step l n (step x (n + 1) s) (backI i s)
theorem backM_snoc (l : List Ins) (i : Ins) (s : List Bool) : backM (l ++ [i]) s = backM l (backI i s) := by simp [backM]
theorem fn121 : Try.prog.underlying 121 = some (.func #[3, 105] #[] false) := Try.underlying121
theorem back_spec {X : Type} {enc : X → List AObj} {Inv : X → Prop} {step : X → Nat → List Bool → X} {x0 : X} (h0 : Inv x0) (hlen : ∀ x, Inv x → (enc x).length = (enc x0).length) (hup : ∀ x, Inv x → ∀ o ∈ enc x, o.upto (enc x0).length)
  {f : Func} {many N A B : Nat} {behind : List (List Bool)} (hA : (enc x0)[A]? = some (.cells (lifeC f many B N))) (hB : (enc x0)[B]? = some (.cells (behind.map eH))) (hbN : behind.length = N) (hmy : many ≤ 2 ^ 20)
  {k : Nat} {b : Block} (hb : f.blocks[k]? = some b) {s0 : List Bool} (hs0 : behind[k]? = some s0) (hne : s0 ≠ []) (hsl : s0.length = many) (hil : b.ins.length ≤ 2 ^ 47) (hin : ∀ i ∈ b.ins, InR many i.to ∧ ∀ a ∈ i.args, InR many a)
  (at_ : AVal) (hst : ∀ x n s, Inv x → n ≤ b.ins.length → s.length = many → Inv (step x n s))
  (hat : (at_ = .v .nilFunc ∧ ∀ x n s, step x n s = x) ∨ ∃ id caps, at_ = .fn (.func id) [] caps ∧ uptoL (enc x0).length caps ∧ ∀ x n s, Inv x → n ≤ b.ins.length → s.length = many →
   ECall Try.prog id (enc x ++ [.cells (s.map eB)]) (aI n :: .ms (enc x0).length 0 many many :: caps) (fun r O' => r = .tup [] ∧ O' = enc (step x n s) ++ [.cells (s.map eB)])) :
  ECall Try.prog 68 (enc x0) [.mp A 0, aI k, at_] (fun r O' => r = .lst 1 ((backM b.ins s0).map eB) .nn ∧ O' = enc (backRun step b.ins b.ins.length x0 s0)) := by
 have hAl := lt_of_getElem? hA
 have hBl := lt_of_getElem? hB
 have hkN : k < N := by rw [← hbN]; exact lt_of_getElem? hs0
 have hup0 := hup x0 h0
 have hat_up : at_.upto (enc x0).length := by
  rcases hat with ⟨rfl, _⟩ | ⟨id, caps, rfl, hc, _⟩
  ·trivial
  exact ⟨trivial, hc⟩
 obtain ⟨R, hR⟩ : ∃ R, R = backM b.ins s0 := ⟨_, rfl⟩
 obtain ⟨Y, hY⟩ : ∃ Y, Y = backRun step b.ins b.ins.length x0 s0 := ⟨_, rfl⟩
 rw [← hR, ← hY]
 unfold lifeC at hA
 have hbg : (behind.map eH)[k]? = some (.lst 1 (s0.map eB) .nn) := by rw [List.getElem?_map, hs0, Option.map_some, eH_ne hne]
 have hcl := cloneB_spec hup0 s0 hne (by omega)
 rw [hsl] at hcl
 have hnow : ∀ x s, Inv x → (enc x ++ [AObj.cells s])[(enc x0).length]? = some (.cells s) := fun x s hx => by
  rw [← hlen x hx, snoc_get]
 have hnset : ∀ x s t, Inv x → (enc x ++ [AObj.cells s]).set (enc x0).length (.cells t) = enc x ++ [.cells t] := fun x s t hx => by
  rw [← hlen x hx, snoc_set]
 refine ecall_of hT false ((enc x0).length) Try.func68 rfl (by kernel_rfl) (by simp [Try.ntmps68]) (by simp) ?_
 show AWP Try.prog _ _ _ ⟨64, _, _⟩
 dsimp only [Tmp, TypeId, slotsOf]
 refine zh1 (za0 ?_)
 refine zg1 ?_
 simp -dsimp only [simprocAttr, ↓vpre, zp, hA, hb]
 repeat (refine ⟨by omega, ?_⟩)
 refine za0 ?_
 refine awp_local 7 ([eIs b.params, eInss b.ins, aI b.term.kind, aI b.term.arg, aI b.term.n, eIs b.term.cases, eEdges b.term.to]) [(0, .mp A 0), (1, aI k), (2, at_), (7, .ip none [eIs b.params, eInss b.ins, aI b.term.kind, aI b.term.arg, aI b.term.n, eIs b.term.cases, eEdges b.term.to])] (by simp [putS, dropS, Go.Av.look]) (by rfl) (by omega) (by simp [putS, dropS, Go.Av.look]) ?_ ?_ ?_
 ·exact hup0
 ·simp [AVal.upto, uptoL, aI_upto, Edge.map_upto, Ins.map_upto, Block.map_upto, hAl, hat_up]
 refine zg1 ?_
 simp -dsimp only [simprocAttr, ↓vpre, zp, hA, hB, hbg, Nat.mul_one]
 repeat (refine ⟨by omega, ?_⟩)
 refine .inr (.inl ⟨_, _, hcl, .inl (later_intro (zj ?_))⟩)
 refine za0 ?_
 refine zh1 (za0 ?_)
 refine awp_block (awp_loop (ι := {x : Nat × X × List Bool // x.1 ≤ b.ins.length ∧ Inv x.2.1 ∧ x.2.2.length = many ∧ R = backM (b.ins.take x.1) x.2.2 ∧ Y = backRun step b.ins x.1 x.2.1 x.2.2}) (fun x => ⟨64, [(2, at_), (7, .ip none [eIs b.params, eInss b.ins, aI b.term.kind, aI b.term.arg, aI b.term.n, eIs b.term.cases, eEdges b.term.to]), (8, .ms (enc x0).length 0 many many), (9, aI x.1.1)], enc x.1.2.1 ++ [.cells (x.1.2.2.map eB)]⟩) (fun x => x.1.1) ⟨(b.ins.length, x0, s0), by simp, h0, hsl, by rw [List.take_length]; exact hR, hY⟩ ?_ ?_)
 ·refine zq rfl ?_ ?_
  simp -dsimp only [simprocAttr, ↓vpre, zp, zc]
  rfl
 rintro ⟨⟨n, x, s⟩, hn, hx, hs, hRe, hYe⟩
 simp only at hn hx hs hRe hYe
 have hx1 := hst x n s hx hn hs
 have hlx := hlen x hx
 have hlx1 := hlen _ hx1
 refine awp_seq (awp_block ?_)
 refine awp_mid (⟨64, [(2, at_), (7, .ip none [eIs b.params, eInss b.ins, aI b.term.kind, aI b.term.arg, aI b.term.n, eIs b.term.cases, eEdges b.term.to]), (8, .ms (enc x0).length 0 many many), (9, aI n)], enc (step x n s) ++ [.cells (s.map eB)]⟩) ?_ ?_
 ·rcases hat with ⟨rfl, hnil⟩ | ⟨id, caps, rfl, hcu, hcb⟩
  ·rw [hnil]
   refine awp_seq (awp_mid_op ⟨false, false⟩ hT 1 rfl rfl rfl (by simp) ?_)
   simp -dsimp only [simprocAttr, ↓vpre, zp]
   refine midOp_fnNil rfl rfl (by simp) fn121 rfl rfl rfl ?_
   simp -dsimp only [simprocAttr, ↓vpre, zp]
   refine za0 ?_
   refine zu0 rfl ?_
   refine awp_skip ?_
   show Covers _ _
   refine zq rfl ?_ ?_
   simp -dsimp only [simprocAttr, ↓vpre, zp, zc]
   rfl
  have hcb := hcb x n s hx hn hs
  refine awp_seq (awp_mid_op ⟨false, false⟩ hT 1 rfl rfl rfl (by simp) ?_)
  simp -dsimp only [simprocAttr, ↓vpre, zp]
  refine midOp_fnNil rfl rfl (by simp) fn121 rfl rfl rfl ?_
  simp -dsimp only [simprocAttr, ↓vpre, zp]
  refine za0 ?_
  refine zw0 rfl ?_
  refine awp_region hT hm ?_
  simp -dsimp only [simprocAttr, ↓vpre, zp]
  refine .inr (.inl ⟨_, _, hcb, .inl (later_intro (zj ?_))⟩)
  refine at_intro ?_
  show Covers _ _
  refine zq rfl ?_ ?_
  simp -dsimp only [simprocAttr, ↓vpre, zp, zc]
  rfl
 cases n with
 | zero =>
  have hYe' : Y = step x 0 s := hYe
  rw [List.take_zero] at hRe
  have hRe' : R = s := hRe
  subst hRe'
  refine zh2 (za0 ?_)
  refine zw0 rfl ?_
  refine zh1 (za0 ?_)
  refine awp_freeze1 6 (enc x0).length (o := .cells (R.map eB)) (.lst 1 (R.map eB) .nn) (hnow _ _ hx1) (by simp [AObj.isSpare]) trivial rfl (eB_freeze (hnow _ _ hx1) hs) ?_
  rw [← hlx1, snoc_set]
  simp -dsimp only [simprocAttr, ↓vpre, zp]
  refine awp_ret ?_
  simp -dsimp only [simprocAttr, ↓vpre, zp, zr, Try.results68]
  exact ⟨by rw [hlx1]; exact hup _ hx1, eB_upto _ _, by rw [hYe']⟩
 | succ n =>
  have hlt : n < b.ins.length := by omega
  obtain ⟨i, hi⟩ : ∃ i, b.ins[n]? = some i := ⟨b.ins[n], by simp [hlt]⟩
  obtain ⟨⟨hi0, hi1⟩, hia⟩ := hin i (List.mem_of_getElem? hi)
  have htk : b.ins.take (n + 1) = b.ins.take n ++ [i] := by rw [List.take_add_one, hi]; rfl
  rw [htk, backM_snoc] at hRe
  simp only [backRun, hi] at hYe
  obtain ⟨x1, hx1e⟩ : ∃ x1, x1 = step x (n + 1) s := ⟨_, rfl⟩
  rw [← hx1e] at hx1 hlx1 hYe
  have hlx1' := hlx1.symm
  have hup1 := hup x1 hx1
  obtain ⟨j, hj⟩ : ∃ j : Nat, i.to = (j : Int) := ⟨i.to.toNat, by omega⟩
  have hsp := eB_put (l := s) (j := j) (by omega) false
  have hn1 : ((n + 1 : Nat) : Int) - 1 = (n : Nat) := by omega
  have hd0 : decide (((n + 1 : Nat) : Int) = 0) = false := decide_eq_false (by omega)
  obtain ⟨T, hT1⟩ : ∃ T, T = backI i s := ⟨_, rfl⟩
  have hTl : T.length = many := by rw [hT1, backI_len, hs]
  rw [← hT1] at hRe hYe
  have hpb : putB s i.to false = s.set j false := by simp [putB, hj]
  unfold backI putAll at hT1
  rw [hpb] at hT1
  rw [← hx1e]
  have hnow1 := fun s => hnow x1 s hx1
  have hnset1 := fun s t => hnset x1 s t hx1
  refine zg2 ?_
  simp -dsimp only [simprocAttr, ↓vpre, zp, hd0]
  refine za0 ?_
  apply zk0 rfl <;> intro h
  ·cases h
  refine zb0 ?_
  refine zg1 ?_
  simp -dsimp only [simprocAttr, ↓vpre, zp, hn1, hi]
  repeat (refine ⟨by omega, ?_⟩)
  refine za0 ?_
  refine awp_local2 10 ([aI i.to, aI i.op, aI i.n, eIs i.args]) [(2, at_), (7, .ip none [eIs b.params, eInss b.ins, aI b.term.kind, aI b.term.arg, aI b.term.n, eIs b.term.cases, eEdges b.term.to]), (8, .ms (enc x0).length 0 many many), (9, aI (n + 1 : Nat)), (10, .ip none [aI i.to, aI i.op, aI i.n, eIs i.args])] (by simp [putS, dropS, Go.Av.look]) (by rfl) (by omega) (by simp [putS, dropS, Go.Av.look]) ?_ ?_ ?_ ?_
  ·rw [hlx1]
   exact hup1
  ·exact eB_upto _ _
  ·have hau2 := AVal.upto_mono (m := (enc x0).length + 1) (n := (enc x0).length) (by omega) at_ hat_up
   simp [AVal.upto, uptoL, aI_upto, Edge.map_upto, Ins.map_upto, Block.map_upto, hlx1, hau2]
  refine zg1 ?_
  simp -dsimp only [simprocAttr, ↓vpre, zp, hj, hnow1, hnset1, Int.toNat_natCast, Nat.mul_one, hsp]
  refine ⟨by omega, by omega, ?_⟩
  refine za0 ?_
  refine zh1 (za0 ?_)
  refine awp_len 54 rfl (fun hal => ?_)
  simp only [List.length_map] at hal
  refine awp_block (awp_loop (ι := {y : Nat × List Bool // y.1 ≤ i.args.length ∧ y.2.length = many ∧ T = (i.args.drop y.1).foldl (fun s v => putB s v true) y.2}) (fun y => ⟨64, [(2, at_), (7, .ip none [eIs b.params, eInss b.ins, aI b.term.kind, aI b.term.arg, aI b.term.n, eIs b.term.cases, eEdges b.term.to]), (8, .ms (enc x0).length 0 many many), (9, aI (n + 1 : Nat)), (54, eIs i.args), (55, aI i.args.length), (56, aI y.1.1)], enc x1 ++ [.cells (y.1.2.map eB)]⟩) (fun y => i.args.length - y.1.1) ⟨(0, s.set j false), by simp, by simp [hs], hT1⟩ ?_ ?_)
  ·refine zq rfl ?_ ?_
   simp -dsimp only [simprocAttr, ↓vpre, zp, zc]
   rfl
  rintro ⟨⟨v, cur⟩, hv, hcl, hve⟩
  simp only at hv hcl hve
  refine zh1 (za0 ?_)
  apply zk1 rfl <;> intro h
  ·refine zb0 ?_
   have hlv : v < i.args.length := by simpa using h
   obtain ⟨a, haa⟩ : ∃ a, i.args[v]? = some a := ⟨i.args[v], by simp [hlv]⟩
   obtain ⟨a0, a1⟩ := hia a (List.mem_of_getElem? haa)
   obtain ⟨q, rfl⟩ : ∃ q : Nat, a = (q : Int) := ⟨a.toNat, by omega⟩
   rw [drop_at haa, List.foldl_cons] at hve
   have hpb : putB cur (q : Int) true = cur.set q true := by simp [putB]
   rw [hpb] at hve
   have hsp := eB_put (l := cur) (j := q) (by omega) true
   refine awp_seq (awp_block ?_)
   refine zg1 ?_
   simp -dsimp only [simprocAttr, ↓vpre, zp, haa]
   refine za0 ?_
   refine zg0 ?_
   simp -dsimp only [simprocAttr, ↓vpre, zp, hnow1, hnset1, Int.toNat_natCast, Nat.mul_one, hsp]
   refine ⟨by omega, by omega, ?_⟩
   refine za0 ?_
   refine zh0 ?_
   repeat (refine ⟨by omega, ?_⟩)
   refine zl0 ?_
   refine ⟨⟨(v + 1, cur.set q true), hlv, by simp [hcl], hve⟩, by simp; omega, ?_⟩
   refine zq rfl ?_ ?_
   simp -dsimp only [simprocAttr, ↓vpre, zp, zc]
   ·exact Sub.int (by simp)
   rfl
  refine awp_exit ?_
  simp -dsimp only [vend, ne_eq, Nat.reduceEqDiff, reduceCtorEq]
  have hvv : v = i.args.length := by simp at h; omega
  subst hvv
  rw [List.drop_length, List.foldl_nil] at hve
  subst hve
  refine zg0 ?_
  simp -dsimp only [simprocAttr, ↓vpre, zp, hn1]
  repeat (refine ⟨by omega, ?_⟩)
  refine zl0 ?_
  refine ⟨⟨(n, x1, T), by simp only; omega, hx1, hcl, hRe, hYe⟩, by simp, ?_⟩
  refine zq rfl ?_ ?_
  simp -dsimp only [simprocAttr, ↓vpre, zp, zc]
  rfl
end Go.Proofs.Ythhjebmgmjemoaa
end

section
namespace Go.Proofs.Ythhjebmgmjemoaa
open Go.Av
def Hs (l : List Bool) (v : Nat) : Prop := l[v]? = some true
theorem Hs.lt {l : List Bool} {v : Nat} (h : Hs l v) : v < l.length := (List.getElem?_eq_some_iff.1 h).1
theorem hs_set {l : List Bool} {j v : Nat} {b : Bool} : Hs (l.set j b) v ↔ (v = j ∧ b = true ∧ v < l.length) ∨ (v ≠ j ∧ Hs l v) := by
  unfold Hs
  rw [List.getElem?_set]
  by_cases e : j = v
  · subst e
    by_cases h : j < l.length
    · simp [h]
    simp [h]
  rw [if_neg e]
  have : v ≠ j := fun q => e q.symm
  simp [this]
theorem hs_put {l : List Bool} {v w : Nat} {b : Bool} {x : Int} (hx : x.toNat = v) : Hs (putB l x b) w ↔ (w = v ∧ b = true ∧ w < l.length) ∨ (w ≠ v ∧ Hs l w) := by
  rw [putB, hx, hs_set]
theorem hs_putAll : ∀ (vs : List Int) (l : List Bool) (w : Nat), Hs (putAll l vs) w ↔ Hs l w ∨ (w < l.length ∧ ∃ a ∈ vs, w = a.toNat)
  | [], l, w => by simp [putAll]
  | v :: r, l, w => by
    have ih := hs_putAll r (putB l v true) w
    rw [putB_len, hs_put rfl] at ih
    have e : putAll l (v :: r) = putAll (putB l v true) r := rfl
    rw [e, ih]
    constructor
    · rintro ((⟨h1, _, h2⟩ | ⟨_, h1⟩) | ⟨h1, a, h2, h3⟩)
      · exact .inr ⟨h2, v, by simp, h1⟩
      · exact .inl h1
      exact .inr ⟨h1, a, by simp [h2], h3⟩
    rintro (h | ⟨h1, a, h2, h3⟩)
    · by_cases q : w = v.toNat
      · exact .inl (.inl ⟨q, rfl, h.lt⟩)
      exact .inl (.inr ⟨q, h⟩)
    rcases List.mem_cons.1 h2 with q | q
    · subst q
      exact .inl (.inl ⟨h3, rfl, h1⟩)
    exact .inr ⟨h1, a, q, h3⟩
theorem hs_backI (i : Ins) (s : List Bool) (w : Nat) : Hs (backI i s) w ↔ (w ≠ i.to.toNat ∧ Hs s w) ∨ (w < s.length ∧ ∃ a ∈ i.args, w = a.toNat) := by
  rw [backI, hs_putAll, putB_len, hs_put rfl]
  simp
theorem hs_lastV (ps : List Int) : ∀ (S : List Bool) (v : Nat) (out : List Bool) (w : Nat), Hs (lastV ps v S out) w ↔ Hs out w ∨ (w < out.length ∧ hasI ps w = false ∧ ∃ j, Hs S j ∧ w = v + j)
  | [], v, out, w => by simp [lastV, Hs]
  | is :: r, v, out, w => by
    have ih := hs_lastV ps r (v + 1) (if is && !hasI ps v then out.set v true else out) w
    have hl : (if is && !hasI ps v then out.set v true else out).length = out.length := by split <;> simp
    rw [lastV, ih, hl]
    constructor
    · rintro (h | ⟨h1, h2, j, h3, h4⟩)
      · split at h
        · rename_i hc
          rcases hs_set.1 h with ⟨h1, _, h2⟩ | ⟨_, h1⟩
          · simp only [Bool.and_eq_true, Bool.not_eq_true'] at hc
            subst h1
            exact .inr ⟨h2, hc.2, 0, by simp [Hs, hc.1], by omega⟩
          exact .inl h1
        exact .inl h
      exact .inr ⟨h1, h2, j + 1, by simpa [Hs] using h3, by omega⟩
    rintro (h | ⟨h1, h2, j, h3, h4⟩)
    · refine .inl ?_
      split
      · by_cases q : w = v
        · exact hs_set.2 (.inl ⟨q, rfl, h.lt⟩)
        exact hs_set.2 (.inr ⟨q, h⟩)
      exact h
    cases j with
    | zero =>
      have h3' : is = true := by simpa [Hs] using h3
      have h4' : w = v := by omega
      subst h4'
      refine .inl ?_
      rw [if_pos (by simp [h3', h2])]
      exact hs_set.2 (.inl ⟨rfl, rfl, h1⟩)
    | succ j => exact .inr ⟨h1, h2, j, by simpa [Hs] using h3, by omega⟩
theorem hs_lastF (f : Func) (first : List (List Bool)) : ∀ (l : List Edge) (out : List Bool) (w : Nat), Hs (l.foldl (lastE f first) out) w ↔ Hs out w ∨ (w < out.length ∧ ∃ e ∈ l, Hs (firstAt first e.block) w ∧ hasI (blkOf f e.block).params w = false)
  | [], out, w => by simp
  | e :: r, out, w => by
    have ih := hs_lastF f first r (lastE f first out e) w
    rw [List.foldl_cons, ih]
    rw [show (lastE f first out e).length = out.length from lastV_len ..]
    unfold lastE
    rw [hs_lastV]
    constructor
    · rintro ((h | ⟨h1, h2, j, h3, h4⟩) | ⟨h1, x, h2, h3, h4⟩)
      · exact .inl h
      · have : w = j := by omega
        subst this
        exact .inr ⟨h1, e, by simp, h3, h2⟩
      exact .inr ⟨h1, x, by simp [h2], h3, h4⟩
    rintro (h | ⟨h1, x, h2, h3, h4⟩)
    · exact .inl (.inl h)
    rcases List.mem_cons.1 h2 with q | q
    · subst q
      exact .inl (.inr ⟨h1, h4, w, h3, by omega⟩)
    exact .inr ⟨h1, x, q, h3, h4⟩
theorem hs_argsF : ∀ (l : List Edge) (out : List Bool) (w : Nat), Hs (l.foldl (fun o e => putAll o e.args) out) w ↔ Hs out w ∨ (w < out.length ∧ ∃ e ∈ l, ∃ a ∈ e.args, w = a.toNat)
  | [], out, w => by simp
  | e :: r, out, w => by
    have ih := hs_argsF r (putAll out e.args) w
    rw [List.foldl_cons, ih, putAll_len, hs_putAll]
    constructor
    · rintro ((h | ⟨h1, h2⟩) | ⟨h1, x, h2, h3⟩)
      · exact .inl h
      · exact .inr ⟨h1, e, by simp, h2⟩
      exact .inr ⟨h1, x, by simp [h2], h3⟩
    rintro (h | ⟨h1, x, h2, h3⟩)
    · exact .inl (.inl h)
    rcases List.mem_cons.1 h2 with q | q
    · subst q
      exact .inl (.inr ⟨h1, h3⟩)
    exact .inr ⟨h1, x, q, h3⟩
theorem hs_false {n w : Nat} : ¬ Hs (List.replicate n false) w := by
  unfold Hs
  rw [List.getElem?_replicate]
  split <;> simp
theorem hs_lastM (f : Func) (many : Nat) (first : List (List Bool)) (t : Term) (w : Nat) : Hs (lastM f many first t) w ↔ w < many ∧ ((∃ e ∈ t.to, Hs (firstAt first e.block) w ∧ hasI (blkOf f e.block).params w = false) ∨ (usesArg t = true ∧ w = t.arg.toNat) ∨ ∃ e ∈ t.to, ∃ a ∈ e.args, w = a.toNat) := by
  have hl : (t.to.foldl (lastE f first) (List.replicate many false)).length = many := by rw [lastF_len, List.length_replicate]
  rw [lastM, lastA, hs_argsF]
  have key : Hs (if usesArg t then putB (t.to.foldl (lastE f first) (List.replicate many false)) t.arg true else t.to.foldl (lastE f first) (List.replicate many false)) w ↔ w < many ∧ ((∃ e ∈ t.to, Hs (firstAt first e.block) w ∧ hasI (blkOf f e.block).params w = false) ∨ (usesArg t = true ∧ w = t.arg.toNat)) := by
    split
    · rename_i hu
      rw [hs_put rfl, hs_lastF, List.length_replicate, hl]
      constructor
      · rintro (⟨h1, _, h2⟩ | ⟨_, h | ⟨h1, h2⟩⟩)
        · exact ⟨h2, .inr ⟨hu, h1⟩⟩
        · exact absurd h hs_false
        exact ⟨h1, .inl h2⟩
      rintro ⟨h1, h2 | ⟨_, h2⟩⟩
      · by_cases q : w = t.arg.toNat
        · exact .inl ⟨q, rfl, h1⟩
        exact .inr ⟨q, .inr ⟨h1, h2⟩⟩
      exact .inl ⟨h2, rfl, h1⟩
    rename_i hu
    rw [hs_lastF, List.length_replicate]
    constructor
    · rintro (h | ⟨h1, h2⟩)
      · exact absurd h hs_false
      exact ⟨h1, .inl h2⟩
    rintro ⟨h1, h2 | ⟨q, _⟩⟩
    · exact .inr ⟨h1, h2⟩
    exact absurd q hu
  have hl2 : (if usesArg t then putB (t.to.foldl (lastE f first) (List.replicate many false)) t.arg true else t.to.foldl (lastE f first) (List.replicate many false)).length = many := by
    split
    · rw [putB_len, hl]
    exact hl
  rw [key, hl2]
  constructor
  · rintro (⟨h1, h2 | h2⟩ | ⟨h1, h2⟩)
    · exact ⟨h1, .inl h2⟩
    · exact ⟨h1, .inr (.inl h2)⟩
    exact ⟨h1, .inr (.inr h2)⟩
  rintro ⟨h1, h2 | h2 | h2⟩
  · exact .inl ⟨h1, .inl h2⟩
  · exact .inl ⟨h1, .inr h2⟩
  exact .inr ⟨h1, h2⟩
def LeB (a b : List Bool) : Prop := ∀ v, Hs a v → Hs b v
theorem cnt_le : ∀ (a b : List Bool), a.length = b.length → LeB a b → a.countP id ≤ b.countP id ∧ (a ≠ b → a.countP id < b.countP id)
  | [], [], _, _ => by simp
  | [], _ :: _, h, _ => by simp at h
  | _ :: _, [], h, _ => by simp at h
  | x :: a, y :: b, hl, h => by
    have ih := cnt_le a b (by simpa using hl) (fun v hv => by
      have := h (v + 1) (by simpa [Hs] using hv)
      simpa [Hs] using this)
    have h0 := h 0
    simp only [Hs, List.getElem?_cons_zero, Option.some.injEq] at h0
    rw [List.countP_cons, List.countP_cons]
    cases x <;> cases y <;> simp at h0 ⊢
    · exact ih
    · omega
    exact ih
theorem backM_mono : ∀ (l : List Ins) {a b : List Bool}, a.length = b.length → LeB a b → LeB (backM l a) (backM l b)
  | [], _, _, _, h => h
  | i :: r, a, b, hl, h => by
    have ih := backM_mono r hl h
    have hl2 : (backM r a).length = (backM r b).length := by rw [backM_len, backM_len, hl]
    intro v hv
    have e : ∀ s, backM (i :: r) s = backI i (backM r s) := fun s => rfl
    rw [e, hs_backI] at hv
    rw [e, hs_backI]
    rcases hv with ⟨h1, h2⟩ | ⟨h1, h2⟩
    · exact .inl ⟨h1, ih v h2⟩
    exact .inr ⟨by omega, h2⟩
structure Lv where
  first : List (List Bool)
  behind : List (List Bool)
  again : Bool
def lvStep (f : Func) (many k : Nat) (S : Lv) : Lv :=
  if S.behind[k]?.getD [] ≠ [] ∧ lastM f many S.first (blkOf f k).term = S.behind[k]?.getD [] then S
  else ⟨S.first.set k (backM (blkOf f k).ins (lastM f many S.first (blkOf f k).term)), S.behind.set k (lastM f many S.first (blkOf f k).term), true⟩
def lvR (f : Func) (many : Nat) : Nat → Lv → Lv
  | 0, S => S
  | k + 1, S => lvR f many k (lvStep f many k S)
def lvI (f : Func) (many : Nat) : Nat → Lv → Lv
  | 0, S => S
  | n + 1, S => if S.again then lvI f many n (lvR f many f.blocks.length ⟨S.first, S.behind, false⟩) else S
def lvS (n : Nat) : Lv := ⟨List.replicate n [], List.replicate n [], true⟩
def manyM (f : Func) : Nat := (freshM f).toNat + 1
def liveM (f : Func) : Lv := lvI f (manyM f) 700000 (lvS f.blocks.length)
structure LvOK (f : Func) (many : Nat) (S : Lv) : Prop where
  len1 : S.first.length = f.blocks.length
  len2 : S.behind.length = f.blocks.length
  sz1 : ∀ l ∈ S.first, l = [] ∨ l.length = many
  sz2 : ∀ l ∈ S.behind, l = [] ∨ l.length = many
  low : ∀ (k : Nat) (l : List Bool), S.behind[k]? = some l → l ≠ [] → S.first[k]? = some (backM (blkOf f k).ins l) ∧ LeB l (lastM f many S.first (blkOf f k).term)
  nil : ∀ k : Nat, S.behind[k]? = some [] → S.first[k]? = some []
def szB (l : List Bool) : Nat := if l = [] then 0 else 1 + l.countP id
def Lv.weight (many : Nat) (S : Lv) : Nat := (S.behind.map fun l => many + 1 - szB l).sum
theorem lvS_ok (f : Func) (many : Nat) : LvOK f many (lvS f.blocks.length) := by
  refine ⟨by simp [lvS], by simp [lvS], fun l hl => .inl (List.mem_replicate.1 hl).2, fun l hl => .inl (List.mem_replicate.1 hl).2, fun k l hl hne => ?_, fun k hk => hk⟩
  exact absurd (List.mem_replicate.1 (List.mem_of_getElem? hl)).2 hne
theorem szB_le {many : Nat} {l : List Bool} (h : l = [] ∨ l.length = many) : szB l ≤ many + 1 := by
  unfold szB
  split
  · omega
  have := List.countP_le_length (p := id) (l := l)
  rcases h with h | h
  · contradiction
  omega
theorem lastM_mono {f : Func} {many : Nat} {A B : List (List Bool)} (h : ∀ k, LeB (firstAt A k) (firstAt B k)) (t : Term) : LeB (lastM f many A t) (lastM f many B t) := fun v hv => by
  rw [hs_lastM] at hv ⊢
  obtain ⟨h1, h2⟩ := hv
  refine ⟨h1, ?_⟩
  rcases h2 with ⟨e, he, h3, h4⟩ | h2
  · exact .inl ⟨e, he, h _ v h3, h4⟩
  exact .inr h2
theorem lvStep_ok {f : Func} {many : Nat} (h0 : 0 < many) {S : Lv} (h : LvOK f many S) {k : Nat} (hk : k < f.blocks.length) : LvOK f many (lvStep f many k S) ∧ (lvStep f many k S).weight many ≤ S.weight many ∧ ((lvStep f many k S).again = true → S.again = true ∨ (lvStep f many k S).weight many < S.weight many) := by
  obtain ⟨old, ho⟩ : ∃ old, S.behind[k]? = some old := ⟨S.behind[k]'(by rw [h.len2]; exact hk), List.getElem?_eq_getElem _⟩
  obtain ⟨ofi, hof⟩ : ∃ o, S.first[k]? = some o := ⟨S.first[k]'(by rw [h.len1]; exact hk), List.getElem?_eq_getElem _⟩
  unfold lvStep
  rw [ho, Option.getD_some]
  obtain ⟨next, hne⟩ : ∃ n, n = lastM f many S.first (blkOf f k).term := ⟨_, rfl⟩
  have hnl : next.length = many := by rw [hne, lastM_len]
  have hn0 : next ≠ [] := fun e => by rw [e] at hnl; simp at hnl; omega
  rw [← hne]
  have hosz := h.sz2 old (List.mem_of_getElem? ho)
  split
  · exact ⟨h, Nat.le_refl _, fun q => .inl q⟩
  rename_i hc
  have hlow : LeB old next := by
    by_cases q : old = []
    · rw [q]
      intro v hv
      simp [Hs] at hv
    rw [hne]
    exact (h.low k old ho q).2
  have hgrow : LeB ofi (backM (blkOf f k).ins next) := by
    by_cases q : old = []
    · rw [q] at ho
      have := h.nil k ho
      rw [hof] at this
      simp only [Option.some.injEq] at this
      rw [this]
      intro v hv
      simp [Hs] at hv
    have := (h.low k old ho q).1
    rw [hof] at this
    simp only [Option.some.injEq] at this
    rw [this]
    exact backM_mono _ (by rw [hosz.resolve_left q, hnl]) hlow
  have hfst : ∀ j, LeB (firstAt S.first j) (firstAt (S.first.set k (backM (blkOf f k).ins next)) j) := fun j => by
    unfold firstAt
    rw [List.getElem?_set]
    by_cases e : k = j.toNat
    · subst e
      rw [if_pos rfl, if_pos (by rw [h.len1]; exact hk), hof]
      exact hgrow
    rw [if_neg e]
    exact fun v hv => hv
  refine ⟨⟨by simp [h.len1], by simp [h.len2], fun l hl => ?_, fun l hl => ?_, fun j l hj hjn => ?_, fun j hj => ?_⟩, ?_⟩
  · rcases List.mem_or_eq_of_mem_set hl with q | q
    · exact h.sz1 l q
    exact .inr (by rw [q, backM_len, hnl])
  · rcases List.mem_or_eq_of_mem_set hl with q | q
    · exact h.sz2 l q
    exact .inr (by rw [q, hnl])
  · simp only at hj ⊢
    rw [List.getElem?_set] at hj
    by_cases e : k = j
    · subst e
      rw [if_pos rfl, if_pos (by rw [h.len2]; exact hk)] at hj
      simp only [Option.some.injEq] at hj
      subst hj
      refine ⟨by rw [List.getElem?_set_self (by rw [h.len1]; exact hk)], ?_⟩
      have := lastM_mono (f := f) (many := many) hfst (blkOf f k).term
      rw [← hne] at this
      exact this
    rw [if_neg e] at hj
    obtain ⟨q1, q2⟩ := h.low j l hj hjn
    rw [List.getElem?_set_ne e]
    exact ⟨q1, fun v hv => lastM_mono hfst _ v (q2 v hv)⟩
  · simp only at hj ⊢
    rw [List.getElem?_set] at hj
    by_cases e : k = j
    · subst e
      rw [if_pos rfl, if_pos (by rw [h.len2]; exact hk)] at hj
      simp only [Option.some.injEq] at hj
      exact absurd hj hn0
    rw [if_neg e] at hj
    rw [List.getElem?_set_ne e]
    exact h.nil j hj
  have hlt : szB old < szB next := by
    unfold szB
    rw [if_neg hn0]
    by_cases q : old = []
    · rw [if_pos q]
      omega
    rw [if_neg q]
    have hll : old.length = next.length := by rw [hosz.resolve_left q, hnl]
    have := (cnt_le old next hll hlow).2 (fun e => hc ⟨q, e.symm⟩)
    omega
  have h1 := szB_le (l := next) (.inr hnl)
  have hs := sum_set (l := S.behind.map fun l => many + 1 - szB l) (k := k) (x := many + 1 - szB next) (y := many + 1 - szB old) (by simp [ho])
  have e : (S.behind.map fun l => many + 1 - szB l).set k (many + 1 - szB next) = (S.behind.set k next).map fun l => many + 1 - szB l := by rw [List.map_set]
  rw [e] at hs
  simp only [Lv.weight]
  refine ⟨by omega, fun _ => .inr (by omega)⟩
theorem lvR_ok {f : Func} {many : Nat} (h0 : 0 < many) : ∀ (k : Nat) {S : Lv}, k ≤ f.blocks.length → LvOK f many S → LvOK f many (lvR f many k S) ∧ (lvR f many k S).weight many ≤ S.weight many ∧ ((lvR f many k S).again = true → S.again = true ∨ (lvR f many k S).weight many < S.weight many)
  | 0, S, _, h => ⟨h, Nat.le_refl _, fun q => .inl q⟩
  | k + 1, S, hk, h => by
    obtain ⟨a1, a2, a3⟩ := lvStep_ok h0 h (k := k) (by omega)
    obtain ⟨b1, b2, b3⟩ := lvR_ok h0 k (by omega) a1
    simp only [lvR]
    refine ⟨b1, by omega, fun q => ?_⟩
    rcases b3 q with q | q
    · rcases a3 q with q | q
      · exact .inl q
      exact .inr (by omega)
    exact .inr (by omega)
theorem lvI_done {f : Func} {many : Nat} {S : Lv} (h : S.again = false) (n : Nat) : lvI f many n S = S := by
  cases n with
  | zero => rfl
  | succ n => simp [lvI, h]
theorem lvI_ok {f : Func} {many : Nat} (h0 : 0 < many) : ∀ (n : Nat) {S : Lv}, LvOK f many S → LvOK f many (lvI f many n S)
  | 0, _, h => h
  | n + 1, S, h => by
    simp only [lvI]
    split
    · exact lvI_ok h0 n (lvR_ok h0 (S := ⟨S.first, S.behind, false⟩) _ (Nat.le_refl _) ⟨h.len1, h.len2, h.sz1, h.sz2, h.low, h.nil⟩).1
    exact h
theorem lvS_weight {n many : Nat} (hn : n ≤ 128) (hm : many ≤ 4097) : (lvS n).weight many ≤ 524544 := by
  have h := sum_le (l := (lvS n).behind.map fun l => many + 1 - szB l) (b := many + 1) (fun x hx => by
    obtain ⟨l, _, rfl⟩ := List.mem_map.1 hx
    omega)
  simp only [lvS, List.length_map, List.length_replicate] at h
  simp only [Lv.weight, lvS]
  have : n * (many + 1) ≤ 128 * 4098 := Nat.mul_le_mul hn (by omega)
  omega
end Go.Proofs.Ythhjebmgmjemoaa
end

section
namespace Go.Proofs.Ythhjebmgmjemoaa
open Go.Av
def parDefs (k : Int) (l : List Int) : Defs := l.map fun p => (p, (k, 0))
def insDefs (k : Int) : Int → List Ins → Defs
  | _, [] => []
  | n, i :: r => (i.to, (k, n + 1)) :: insDefs k (n + 1) r
def blkDefs (k : Int) (b : Block) : Defs := parDefs k b.params ++ insDefs k 0 b.ins
def allDefs : Int → List Block → Defs
  | _, [] => []
  | k, b :: r => blkDefs k b ++ allDefs (k + 1) r
theorem defineM_eq {ds : Defs} {v : Int} {p : Int × Int} (h : (defineM ds v p).1 = 0) : (defineM ds v p).2 = ds ++ [(v, p)] := by
  unfold defineM at h ⊢
  split at h
  · simp at h
  rename_i h1
  rw [if_neg h1]
  split at h
  · simp at h
  rename_i h2
  rw [if_neg h2]
theorem paramsM_eq (k : Int) : ∀ (l : List Int) (ds : Defs), (paramsM k ds l).1 = 0 → (paramsM k ds l).2 = ds ++ parDefs k l
  | [], ds, _ => by simp [paramsM, parDefs]
  | p :: r, ds, h => by
    simp only [paramsM] at h ⊢
    split at h
    · rename_i hne
      exact absurd h hne
    rename_i he
    rw [if_neg he, paramsM_eq k r _ h, defineM_eq (by simpa using he)]
    simp [parDefs]
theorem insM_eq (k : Int) : ∀ (l : List Ins) (n : Int) (ds : Defs), (insM k n ds l).1 = 0 → (insM k n ds l).2 = ds ++ insDefs k n l
  | [], n, ds, _ => by simp [insM, insDefs]
  | i :: r, n, ds, h => by
    simp only [insM] at h ⊢
    split at h
    · rename_i hne
      exact absurd h hne
    rename_i he
    split at h
    · rename_i hf
      exact absurd h hf
    rename_i hf
    rw [if_neg he, if_neg hf, insM_eq k r _ _ h, defineM_eq (by simpa using he)]
    simp [insDefs]
theorem blockM_eq {f : Func} {ds : Defs} {k : Int} (h : (blockM f ds k).1 = 0) : (blockM f ds k).2 = ds ++ blkDefs k (blkOf f k) := by
  unfold blockM at h ⊢
  split at h
  · rename_i hne
    exact absurd h hne
  rename_i hp
  split at h
  · rename_i hne
    exact absurd h hne
  rename_i hi
  rw [if_neg hp, if_neg hi]
  simp only
  rw [insM_eq k _ _ _ (by simpa using hi), paramsM_eq k _ _ (by simpa using hp), blkDefs, List.append_assoc]
theorem blocksM_eq {f : Func} : ∀ (n k : Nat) (ds : Defs), k + n = f.blocks.length → (blocksM f n k ds).1 = 0 → (blocksM f n k ds).2 = ds ++ allDefs k (f.blocks.drop k)
  | 0, k, ds, hk, _ => by
    rw [List.drop_of_length_le (by omega)]
    simp [blocksM, allDefs]
  | n + 1, k, ds, hk, h => by
    simp only [blocksM] at h ⊢
    split at h
    · rename_i hne
      exact absurd h hne
    rename_i he
    rw [if_neg he]
    have hb : f.blocks[k]? = some f.blocks[k] := List.getElem?_eq_getElem (by omega)
    have ih := blocksM_eq n (k + 1) (blockM f ds k).2 (by omega) h
    have e : ((k + 1 : Nat) : Int) = (k : Int) + 1 := by omega
    rw [e] at ih
    rw [ih, blockM_eq (by simpa using he), drop_at hb, allDefs, List.append_assoc]
    congr 3
    simp [blkOf, hb]
def dsF (f : Func) : Defs := allDefs 0 f.blocks
theorem FnW.ds {f : Func} (hfit : f.fit) (h : checkFuncM f = 0) : (blocksM f f.blocks.length 0 []).2 = dsF f ∧ DefsW f.blocks.length (dsF f) := by
  have he : (blocksM f f.blocks.length 0 []).1 = 0 := by
    unfold checkFuncM at h
    split at h
    · simp at h
    split at h
    · simp at h
    split at h
    · simp at h
    split at h
    · rename_i h4
      exact absurd h h4
    rename_i h4
    simpa using h4
  have e := blocksM_eq f.blocks.length 0 [] (by omega) he
  rw [List.drop_zero, List.nil_append] at e
  have hw := (blocksM_ok f.blocks.length 0 [] (.nil _) (by omega) (by simp) he).1
  have e' : (blocksM f f.blocks.length 0 []).2 = dsF f := e
  rw [e'] at hw
  exact ⟨e', hw⟩
theorem lookD_mem {ds : Defs} (hn : (ds.map (·.1)).Nodup) {v : Int} {p : Int × Int} : lookD ds v = some p ↔ (v, p) ∈ ds := by
  induction ds with
  | nil => simp [lookD]
  | cons e r ih =>
    obtain ⟨a, q⟩ := e
    simp only [List.map_cons, List.nodup_cons, List.mem_map, not_exists, not_and] at hn
    have ih := ih hn.2
    simp only [lookD, List.mem_cons, Prod.mk.injEq]
    by_cases h : a = v
    · subst h
      rw [if_pos rfl]
      constructor
      · intro h
        simp only [Option.some.injEq] at h
        exact .inl ⟨rfl, h.symm⟩
      rintro (⟨_, h⟩ | h)
      · rw [h]
      exact absurd rfl (hn.1 _ h)
    rw [if_neg h, ih]
    constructor
    · exact .inr
    rintro (⟨h1, _⟩ | h1)
    · exact absurd h1.symm h
    exact h1
theorem mem_insDefs {k : Int} {v : Int} {p : Int × Int} : ∀ (l : List Ins) (n : Int), (v, p) ∈ insDefs k n l ↔ ∃ (j : Nat) (i : Ins), l[j]? = some i ∧ i.to = v ∧ p = (k, n + j + 1)
  | [], n => by simp [insDefs]
  | i :: r, n => by
    simp only [insDefs, List.mem_cons, Prod.mk.injEq]
    rw [mem_insDefs r (n + 1)]
    constructor
    · rintro (⟨h1, h2⟩ | ⟨j, x, h1, h2, h3⟩)
      · exact ⟨0, i, rfl, h1.symm, by simpa using h2⟩
      exact ⟨j + 1, x, h1, h2, by rw [h3]; congr 1; omega⟩
    rintro ⟨j, x, h1, h2, h3⟩
    cases j with
    | zero =>
      simp only [List.getElem?_cons_zero, Option.some.injEq] at h1
      subst h1
      exact .inl ⟨h2.symm, by simpa using h3⟩
    | succ j => exact .inr ⟨j, x, h1, h2, by rw [h3]; congr 1; omega⟩
theorem mem_allDefs {v : Int} {p : Int × Int} : ∀ (l : List Block) (k : Int), (v, p) ∈ allDefs k l ↔ ∃ (j : Nat) (b : Block), l[j]? = some b ∧ (v, p) ∈ blkDefs (k + j) b
  | [], k => by simp [allDefs]
  | b :: r, k => by
    rw [allDefs, List.mem_append, mem_allDefs r (k + 1)]
    constructor
    · rintro (h | ⟨j, x, h1, h2⟩)
      · exact ⟨0, b, rfl, by simpa using h⟩
      exact ⟨j + 1, x, h1, by rw [show k + ((j + 1 : Nat) : Int) = k + 1 + j by omega]; exact h2⟩
    rintro ⟨j, x, h1, h2⟩
    cases j with
    | zero =>
      simp only [List.getElem?_cons_zero, Option.some.injEq] at h1
      subst h1
      exact .inl (by simpa using h2)
    | succ j => exact .inr ⟨j, x, h1, by rw [show k + ((j + 1 : Nat) : Int) = k + 1 + j by omega] at h2; exact h2⟩
def DefAt (f : Func) (v : Int) (p : Int × Int) : Prop := ∃ (k : Nat) (b : Block), f.blocks[k]? = some b ∧ p.1 = k ∧ ((p.2 = 0 ∧ v ∈ b.params) ∨ ∃ (j : Nat) (i : Ins), b.ins[j]? = some i ∧ i.to = v ∧ p.2 = j + 1)
theorem mem_dsF {f : Func} {v : Int} {p : Int × Int} : (v, p) ∈ dsF f ↔ DefAt f v p := by
  obtain ⟨p1, p2⟩ := p
  rw [dsF, mem_allDefs]
  constructor
  · rintro ⟨k, b, h1, h2⟩
    rw [blkDefs, List.mem_append] at h2
    rcases h2 with h2 | h2
    · simp only [parDefs, List.mem_map, Prod.mk.injEq] at h2
      obtain ⟨x, h3, h4, h5, h6⟩ := h2
      subst h4
      exact ⟨k, b, h1, by simp only; omega, .inl ⟨h6.symm, h3⟩⟩
    obtain ⟨j, i, h3, h4, h5⟩ := (mem_insDefs _ _).1 h2
    simp only [Prod.mk.injEq] at h5
    exact ⟨k, b, h1, by simp only; omega, .inr ⟨j, i, h3, h4, by simp only; omega⟩⟩
  rintro ⟨k, b, h1, h2, h3⟩
  simp only at h2 h3
  subst h2
  refine ⟨k, b, h1, ?_⟩
  rw [blkDefs, List.mem_append]
  rcases h3 with ⟨h3, h4⟩ | ⟨j, i, h3, h4, h5⟩
  · subst h3
    exact .inl (by simpa [parDefs] using h4)
  exact .inr ((mem_insDefs _ _).2 ⟨j, i, h3, h4, by subst h5; simp⟩)
theorem insDefs_fst (k : Int) : ∀ (l : List Ins) (n : Int), (insDefs k n l).map (·.1) = l.map Ins.to
  | [], _ => rfl
  | i :: r, n => by rw [insDefs, List.map_cons, insDefs_fst k r, List.map_cons]
theorem allDefs_fst : ∀ (l : List Block) (k : Int), (allDefs k l).map (·.1) = l.flatMap blkVals
  | [], _ => rfl
  | b :: r, k => by
    rw [allDefs, List.map_append, allDefs_fst r, List.flatMap_cons, blkDefs, List.map_append, insDefs_fst, blkVals, parDefs, List.map_map]
    congr 2
    exact List.map_id' _
theorem dsF_fst (f : Func) : (dsF f).map (·.1) = valsF f := allDefs_fst _ _
theorem domE_again {k : Nat} {S : Ds} {e : Edge} (h : (domE k S e).again = false) : domE k S e = S ∧ ((S.at_ e.block.toNat).meet (S.at_ k)).add e.block.toNat = S.at_ e.block.toNat ∧ S.seen.has e.block.toNat = true := by
  unfold domE at h ⊢
  simp only at h ⊢
  split at h
  · cases h
  rename_i hc
  rw [if_neg hc]
  simp only [ne_eq, not_or, Decidable.not_not, Bool.not_eq_false] at hc
  exact ⟨rfl, hc⟩
theorem domF_again {k : Nat} : ∀ (l : List Edge) {S : Ds}, (l.foldl (domE k) S).again = false → l.foldl (domE k) S = S ∧ ∀ e ∈ l, ((S.at_ e.block.toNat).meet (S.at_ k)).add e.block.toNat = S.at_ e.block.toNat ∧ S.seen.has e.block.toNat = true
  | [], S, _ => ⟨rfl, by simp⟩
  | e :: r, S, h => by
    rw [List.foldl_cons] at h
    have ih := domF_again r h
    rw [ih.1] at h
    have h1 := domE_again h
    rw [List.foldl_cons, ih.1, h1.1]
    rw [h1.1] at ih
    refine ⟨rfl, fun x hx => ?_⟩
    rcases List.mem_cons.1 hx with q | q
    · subst q
      exact h1.2
    exact ih.2 x q
theorem domR_again : ∀ (l : List Block) (k : Nat) {S : Ds}, (domR k S l).again = false → domR k S l = S ∧ ∀ (j : Nat) b, l[j]? = some b → S.seen.has (k + j) = true → ∀ e ∈ b.term.to, ((S.at_ e.block.toNat).meet (S.at_ (k + j))).add e.block.toNat = S.at_ e.block.toNat ∧ S.seen.has e.block.toNat = true
  | [], k, S, _ => ⟨rfl, fun j b h => by simp at h⟩
  | b :: r, k, S, h => by
    rw [domR] at h
    have ih := domR_again r (k + 1) h
    rw [ih.1] at h
    have h1 : domB k S b = S ∧ (S.seen.has k = true → ∀ e ∈ b.term.to, ((S.at_ e.block.toNat).meet (S.at_ k)).add e.block.toNat = S.at_ e.block.toNat ∧ S.seen.has e.block.toNat = true) := by
      unfold domB at h ⊢
      split
      · rename_i hs
        exact ⟨rfl, fun q => by rw [hs] at q; cases q⟩
      rename_i hs
      rw [if_neg hs] at h
      have := domF_again _ h
      exact ⟨this.1, fun _ => this.2⟩
    rw [domR, ih.1, h1.1]
    rw [h1.1] at ih
    refine ⟨rfl, fun j x hj hs => ?_⟩
    cases j with
    | zero =>
      simp only [List.getElem?_cons_zero, Option.some.injEq] at hj
      subst hj
      exact h1.2 hs
    | succ j =>
      rw [show k + (j + 1) = k + 1 + j by omega] at hs ⊢
      exact ih.2 j x hj hs
theorem domI_ends {f : Func} (he : ∀ b ∈ f.blocks, ∀ e ∈ b.term.to, 0 ≤ e.block ∧ e.block.toNat < f.blocks.length) : ∀ (n : Nat) {S : Ds}, DsOK f.blocks.length S → (S.again = true → S.weight < n) → (domI f n S).again = false
  | 0, S, _, h => by
    cases hs : S.again with
    | false => exact hs
    | true => exact absurd (h hs) (by omega)
  | n + 1, S, hS, h => by
    simp only [domI]
    split
    · rename_i ha
      have hw := h ha
      have hr := domR_ok f.blocks (k := 0) (S := ⟨S.over, S.seen, false⟩) ⟨hS.few, hS.len, hS.fit, hS.seen, hS.self⟩ he
      have hwS : (⟨S.over, S.seen, false⟩ : Ds).weight = S.weight := rfl
      refine domI_ends he n hr.1 fun q => ?_
      rcases hr.2.2 q with q | q
      · cases q
      omega
    rename_i ha
    simpa using ha
structure Dz (S : Ds) : Prop where
  zero : S.at_ 0 = Bs.none.add 0
  seen : S.seen.has 0 = true
theorem domE_z {n k : Nat} {S : Ds} (h : Dz S) {e : Edge} (h1 : 1 ≤ e.block) (h2 : e.block.toNat < n) (h3 : n ≤ 128) : Dz (domE k S e) := by
  unfold domE
  simp only
  split
  · refine ⟨?_, ?_⟩
    · have := h.zero
      unfold Ds.at_ at this ⊢
      simp only
      rw [List.getElem?_set_ne (by omega)]
      exact this
    simp only
    rw [Bs.has_add _ _ _ (by omega) (by omega), h.seen]
    rfl
  exact h
theorem domF_z {n k : Nat} (h3 : n ≤ 128) : ∀ (l : List Edge) {S : Ds}, Dz S → (∀ e ∈ l, 1 ≤ e.block ∧ e.block.toNat < n) → Dz (l.foldl (domE k) S)
  | [], _, h, _ => h
  | e :: r, S, h, he => domF_z h3 r (domE_z h (he e (by simp)).1 (he e (by simp)).2 h3) fun x hx => he x (by simp [hx])
theorem domR_z {n : Nat} (h3 : n ≤ 128) : ∀ (l : List Block) {k : Nat} {S : Ds}, Dz S → (∀ b ∈ l, ∀ e ∈ b.term.to, 1 ≤ e.block ∧ e.block.toNat < n) → Dz (domR k S l)
  | [], _, _, h, _ => h
  | b :: r, k, S, h, he => by
    refine domR_z h3 r (k := k + 1) ?_ fun x hx => he x (by simp [hx])
    unfold domB
    split
    · exact h
    exact domF_z h3 _ h (he b (by simp))
theorem domI_z {f : Func} (h3 : f.blocks.length ≤ 128) (he : ∀ b ∈ f.blocks, ∀ e ∈ b.term.to, 1 ≤ e.block ∧ e.block.toNat < f.blocks.length) : ∀ (n : Nat) {S : Ds}, Dz S → Dz (domI f n S)
  | 0, _, h => h
  | n + 1, S, h => by
    simp only [domI]
    split
    · exact domI_z h3 he n (domR_z h3 _ (S := ⟨S.over, S.seen, false⟩) ⟨h.zero, h.seen⟩ he)
    exact h
theorem domI_last {f : Func} : ∀ (n : Nat) {S : Ds}, S.again = true → (domI f n S).again = false → ∃ T : Ds, domI f n S = domR 0 T f.blocks
  | 0, S, h1, h2 => by
    rw [domI, h1] at h2
    cases h2
  | n + 1, S, h1, h2 => by
    simp only [domI, h1, if_true] at h2 ⊢
    cases hr : (domR 0 ⟨S.over, S.seen, false⟩ f.blocks).again with
    | false => exact ⟨_, domI_done hr n⟩
    | true => exact domI_last n hr h2
def overF (f : Func) (k : Nat) : Bs := (domM f).1[k]?.getD .none
def seenF (f : Func) (k : Nat) : Bool := (domM f).2.has k
structure DomW (f : Func) : Prop where
  seen : seenF f 0 = true
  zero : ∀ j, j < 128 → ((overF f 0).has j = true ↔ j = 0)
  self : ∀ k, k < f.blocks.length → (overF f k).has k = true
  step : ∀ (k : Nat) b, f.blocks[k]? = some b → seenF f k = true → ∀ e ∈ b.term.to, seenF f e.block.toNat = true ∧ ∀ j, j < 128 → ((overF f e.block.toNat).has j = true → j = e.block.toNat ∨ (overF f k).has j = true)
theorem domM_w {f : Func} (h0 : f.blocks ≠ []) (h1 : f.blocks.length ≤ 128) (he : ∀ b ∈ f.blocks, ∀ e ∈ b.term.to, 1 ≤ e.block ∧ e.block < f.blocks.length) : DomW f := by
  have he' : ∀ b ∈ f.blocks, ∀ e ∈ b.term.to, 0 ≤ e.block ∧ e.block.toNat < f.blocks.length := fun b hb e hx => by have := he b hb e hx; omega
  have he1 : ∀ b ∈ f.blocks, ∀ e ∈ b.term.to, 1 ≤ e.block ∧ e.block.toNat < f.blocks.length := fun b hb e hx => by have := he b hb e hx; omega
  have hl := List.length_pos_iff.2 h0
  have hS := domS_ok h0 h1
  have hw0 := weight_le hS
  have hz0 : Dz (domS f) := ⟨by unfold Ds.at_ domS; simp only; rw [List.getElem?_set_self (by simpa using hl)]; rfl, by show (Bs.none.add 0).has 0 = true; decide⟩
  have hend := domI_ends he' 20000 hS (fun _ => by omega)
  have hz := domI_z h1 he1 20000 hz0
  obtain ⟨T, hT⟩ := domI_last 20000 rfl hend
  have hok : DsOK f.blocks.length (domI f 20000 (domS f)) := by
    have key : ∀ (n : Nat) (S : Ds), DsOK f.blocks.length S → DsOK f.blocks.length (domI f n S) := fun n => by
      induction n with
      | zero => exact fun S h => h
      | succ n ih =>
        intro S h
        simp only [domI]
        split
        · exact ih _ (domR_ok f.blocks (k := 0) (S := ⟨S.over, S.seen, false⟩) ⟨h.few, h.len, h.fit, h.seen, h.self⟩ he').1
        exact h
    exact key _ _ hS
  have hTa := domR_again f.blocks 0 (S := T) (by rw [← hT]; exact hend)
  have hfix := hTa.2
  rw [show T = domI f 20000 (domS f) from hTa.1.symm.trans hT.symm] at hfix
  have hov : ∀ k, overF f k = (domI f 20000 (domS f)).at_ k := fun k => rfl
  have hse : ∀ k, seenF f k = (domI f 20000 (domS f)).seen.has k := fun k => rfl
  generalize domI f 20000 (domS f) = S at *
  refine ⟨by rw [hse, hz.seen], fun j hj => ?_, fun k hk => by rw [hov]; exact hok.self k hk, fun k b hb hs e hx => ?_⟩
  · rw [hov, hz.zero, Bs.has_add _ _ _ (by omega) hj]
    have : Bs.none.has j = false := by unfold Bs.has Bs.none; simp
    simp [this]
  have hb1 := he1 b (List.mem_of_getElem? hb) e hx
  obtain ⟨q1, q2⟩ := hfix k b hb (by rw [Nat.zero_add, ← hse]; exact hs) e hx
  rw [Nat.zero_add] at q1
  refine ⟨by rw [hse]; exact q2, fun j hj q => ?_⟩
  rw [hov, ← q1, Bs.has_add _ _ _ (by omega) hj, Bs.has_meet] at q
  rw [hov]
  simp only [Bool.or_eq_true, Bool.and_eq_true, decide_eq_true_eq] at q
  rcases q with q | q
  · exact .inr q.2
  exact .inl q
theorem lookD_some {ds : Defs} {v : Int} {p : Int × Int} (h : lookD ds v = some p) : (v, p) ∈ ds := by
  induction ds with
  | nil => cases h
  | cons e r ih =>
    obtain ⟨a, q⟩ := e
    simp only [lookD] at h
    split at h
    · rename_i e
      simp only [Option.some.injEq] at h
      rw [e, h]
      simp
    exact List.mem_cons.2 (.inr (ih h))
def Fine (f : Func) (k : Nat) (n : Int) (v : Int) : Prop := ∃ p, DefAt f v p ∧ (seenF f k = true → (p.1 = k ∧ p.2 ≤ n) ∨ (p.1 ≠ k ∧ (overF f k).has p.1.toNat = true))
theorem fine_of {f : Func} {k : Nat} {n v : Int} (h : fineM (dsF f) (domM f).1 (domM f).2 k n v = true) : Fine f k n v := by
  unfold fineM at h
  cases hl : lookD (dsF f) v with
  | none => rw [hl] at h; cases h
  | some p =>
    rw [hl] at h
    refine ⟨p, mem_dsF.1 (lookD_some hl), fun hs => ?_⟩
    have hs' : (domM f).2.has k = true := hs
    simp only [hs', Bool.not_true, Bool.or_false, Bool.or_eq_true, Bool.and_eq_true, decide_eq_true_eq, Bool.not_eq_true', decide_eq_false_iff_not] at h
    exact h
structure UsesW (f : Func) : Prop where
  ins : ∀ (k : Nat) b, f.blocks[k]? = some b → ∀ (n : Nat) i, b.ins[n]? = some i → ∀ a ∈ i.args, Fine f k n a
  arg : ∀ (k : Nat) b, f.blocks[k]? = some b → b.term.kind ≠ 1 → b.term.kind ≠ 4 → Fine f k b.ins.length b.term.arg
  args : ∀ (k : Nat) b, f.blocks[k]? = some b → ∀ e ∈ b.term.to, ∀ a ∈ e.args, Fine f k b.ins.length a
theorem insUses_all {ds : Defs} {over : List Bs} {seen : Bs} {k : Nat} : ∀ (l : List Ins) (n : Nat), insUses ds over seen k n l = true → ∀ (j : Nat) i, l[j]? = some i → ∀ a ∈ i.args, fineM ds over seen k ((n + j : Nat) : Int) a = true
  | [], _, _ => fun j i h => by simp at h
  | x :: r, n, h => fun j i hj a ha => by
    simp only [insUses, Bool.and_eq_true, List.all_eq_true] at h
    cases j with
    | zero =>
      simp only [List.getElem?_cons_zero, Option.some.injEq] at hj
      subst hj
      exact h.1 a ha
    | succ j =>
      rw [show n + (j + 1) = n + 1 + j by omega]
      exact insUses_all r (n + 1) h.2 j i hj a ha
theorem allUses_all {ds : Defs} {over : List Bs} {seen : Bs} : ∀ (l : List Block) (k : Nat), allUses ds over seen k l = true → ∀ (j : Nat) b, l[j]? = some b → blkUses ds over seen (k + j) b = true
  | [], _, _ => fun j i h => by simp at h
  | x :: r, k, h => fun j b hj => by
    simp only [allUses, Bool.and_eq_true] at h
    cases j with
    | zero =>
      simp only [List.getElem?_cons_zero, Option.some.injEq] at hj
      subst hj
      exact h.1
    | succ j =>
      rw [show k + (j + 1) = k + 1 + j by omega]
      exact allUses_all r (k + 1) h.2 j b hj
theorem uses_w {f : Func} (h : usesM f (dsF f) = 0) : UsesW f := by
  have ha : allUses (dsF f) (domM f).1 (domM f).2 0 f.blocks = true := by
    unfold usesM at h
    split at h
    · assumption
    simp at h
  have hb : ∀ (k : Nat) b, f.blocks[k]? = some b → blkUses (dsF f) (domM f).1 (domM f).2 k b = true := fun k b hk => by
    have := allUses_all f.blocks 0 ha k b hk
    rwa [Nat.zero_add] at this
  have hu : ∀ (k : Nat) b, f.blocks[k]? = some b → usedM b.term (fineM (dsF f) (domM f).1 (domM f).2 k b.ins.length) = true := fun k b hk => by
    have := hb k b hk
    simp only [blkUses, Bool.and_eq_true] at this
    exact this.2
  refine ⟨fun k b hk n i hn a ha => ?_, fun k b hk h1 h4 => ?_, fun k b hk e he a ha => ?_⟩
  · have := hb k b hk
    simp only [blkUses, Bool.and_eq_true] at this
    have := insUses_all b.ins 0 this.1 n i hn a ha
    rw [Nat.zero_add] at this
    exact fine_of this
  · have := hu k b hk
    simp only [usedM, Bool.and_eq_true, Bool.or_eq_true, decide_eq_true_eq, h1, h4, false_or] at this
    exact fine_of this.1
  have := hu k b hk
  simp only [usedM, Bool.and_eq_true, List.all_eq_true] at this
  exact fine_of (this.2 e he a ha)
structure FnV (f : Func) : Prop where
  fn : FnW f
  dom : DomW f
  uses : UsesW f
  vals : ValsW f
  nodup : (valsF f).Nodup
  edges : ∀ b ∈ f.blocks, ∀ e ∈ b.term.to, 1 ≤ e.block ∧ e.block < f.blocks.length
theorem checkFunc_v {f : Func} (hfit : f.fit) (h : checkFuncM f = 0) : FnV f := by
  have hw := checkFunc_ok hfit h
  obtain ⟨hd, hdw⟩ := FnW.ds hfit h
  have he : ∀ b ∈ f.blocks, ∀ e ∈ b.term.to, 1 ≤ e.block ∧ e.block < f.blocks.length := fun b hb e hx => by
    have := ((end_ok (hw.blk b hb).fin).edges e hx).1
    omega
  refine ⟨hw, domM_w hw.ne hw.few he, uses_w (by rw [← hd]; exact hw.uses), fun v hv => ?_, ?_, he⟩
  · rw [← dsF_fst] at hv
    obtain ⟨e, h1, rfl⟩ := List.mem_map.1 hv
    exact hdw.range e h1
  rw [← dsF_fst]
  exact hdw.nodup
theorem DefAt.val {f : Func} {v : Int} {p : Int × Int} (h : DefAt f v p) : v ∈ valsF f := by
  rw [← dsF_fst]
  exact List.mem_map.2 ⟨_, mem_dsF.2 h, rfl⟩
theorem DefAt.uniq {f : Func} (hv : FnV f) {v : Int} {p q : Int × Int} (h : DefAt f v p) (h' : DefAt f v q) : p = q := by
  have hn := hv.nodup
  rw [← dsF_fst] at hn
  have e1 := (lookD_mem hn).2 (mem_dsF.2 h)
  have e2 := (lookD_mem hn).2 (mem_dsF.2 h')
  rw [e1] at e2
  simpa using e2
theorem FnV.below {f : Func} (hv : FnV f) {v : Int} (h : v ∈ valsF f) : 0 ≤ v ∧ v < freshM f ∧ freshM f ≤ 4096 :=
  ⟨(hv.vals v h).1, (foldNext_ge (valsF f) 0).2 v h, foldNext_le _ _ (by omega) fun w hw => (hv.vals w hw).2⟩
theorem freshM_pos (f : Func) : 0 ≤ freshM f := (foldNext_ge (valsF f) 0).1
end Go.Proofs.Ythhjebmgmjemoaa
end

section
namespace Go.Av
theorem cert_buildSlice_os {P : Program} {tab : Tab} (hT : TabOK P tab) {o : Oper} {σ : St} {t e : TypeId} {len : Nat} {parts : Array (Nat × Operand)} {ti te : TInfo} {ps : List (Nat × AVal)} {xs : List AVal}
    (ho : o.op = .buildSlice t len parts) (hd : ∀ d, o.dst = some d → d < σ.n) (ht : tab t = some ti) (hdesc : ti.desc = .slice e) (he : tab e = some te) (hpos : 0 < te.size) (hev : σ.evParts parts.toList = some ps) (hfl : ∀ p ∈ ps, p.2.flat)
    (hseq : seqParts 0 ps = some xs) (hlen : xs.length = len) (hsz : ∀ x ∈ xs, x.cells.length = te.size) (hsm : len * te.size ≤ 2 ^ 24) (hz : len ≠ 0) : Cert P o σ (.os σ.objs.length len te.size) (.write (σ.objs ++ [.cells (cellsAll xs)])) :=
  Cert.ofRun hd fun base σ' a g hrel h ho' => by
    have hO : g.objs = σ.objs := ho'.resolve_left (by simp)
    have hg := hrel.good
    have hpr := evParts_rel (a := a) (g := g) (fun x hx y hy => h x (by simpa [ho, Op.operands] using hx) y hy) hev hfl
    have hu := slice_desc hT ht hdesc
    obtain ⟨⟨i, z, h1, h2, h3, h4, h5, h6, h7, h8, h9⟩, _⟩ := hT e te he
    have hps := seqParts_eq hseq
    have hsc : ∀ x ∈ xs, ∀ c ∈ x.cells, c.scalar := by
      have aux : ∀ {ps : List (Nat × AVal)} {vs : List (Nat × Value)}, PRel g ps vs → ∀ p ∈ ps, ∀ c ∈ p.2.cells, c.scalar := by
        intro ps vs hr
        induction hr with
        | nil => intro p hp; cases hp
        | cons hx hf r ih =>
          intro p hp
          rcases List.mem_cons.1 hp with hp | hp
          · subst hp
            exact hx.cells_scalar hf
          exact ih p hp
      intro x hx c hc
      have hmem : ∃ k, (k, x) ∈ ps := by
        obtain ⟨k, hk⟩ := List.getElem?_of_mem hx
        refine ⟨0 + k, ?_⟩
        rw [hps, List.mem_map]
        refine ⟨(x, 0 + k), ?_, rfl⟩
        rw [List.mem_iff_getElem?]
        exact ⟨k, by simp [hk]⟩
      obtain ⟨k, hk⟩ := hmem
      exact aux hpr _ hk c hc
    have hne : ¬ len * i.size = 0 := by
      rw [h2]
      intro e0
      rcases Nat.mul_eq_zero.1 e0 with q | q <;> omega
    obtain ⟨zs, hzs⟩ : ∃ zs : Array Value, zs = (Array.range (len * i.size)).map (z.cells[· % z.cells.size]!) := ⟨_, rfl⟩
    have hzsz : zs.size = len * te.size := by rw [hzs]; simp [h2]
    obtain ⟨zc, hzc, hzr, hzl⟩ : ∃ zc : List AVal, (∀ c ∈ zc, c.scalar) ∧ RVs g zc zs ∧ zc.length = len * te.size := by
      refine ⟨(List.range (len * te.size)).map fun j => te.zero.getD (j % te.size) (.v (.bool false)), fun c hc => ?_, ⟨by simp [hzsz], fun j c u hj hju => ?_⟩, by simp⟩
      · rw [List.mem_map] at hc
        obtain ⟨j, _, e⟩ := hc
        subst e
        have hlt : j % te.size < te.zero.length := by rw [h6]; exact Nat.mod_lt _ hpos
        rw [List.getD_eq_getElem?_getD, List.getElem?_eq_getElem hlt]
        exact h9 _ (List.getElem_mem hlt)
      have hj' := lt_of_getElem? hj
      simp only [List.length_map, List.length_range] at hj'
      rw [List.getElem?_map, List.getElem?_range hj'] at hj
      simp only [Option.map_some, Option.some.injEq] at hj
      subst hj
      have hlt : j % te.size < te.zero.length := by rw [h6]; exact Nat.mod_lt _ hpos
      have hlt' : j % te.size < z.cells.size := by rw [h5]; exact hlt
      rw [hzs] at hju
      simp only [Array.getElem?_map, h2, Array.getElem?_range, if_pos hj', Option.map_some, Option.some.injEq] at hju
      subst hju
      rw [List.getD_eq_getElem?_getD, List.getElem?_eq_getElem hlt]
      refine h8 g (j % te.size) _ _ (List.getElem?_eq_getElem hlt) ?_
      rw [h5, h6]
      simp [hlt']
    have hfill : ∃ cs', fillA (fun i => some (i * te.size, te.size)) zc ps = some cs' := by
      have aux : ∀ (ys : List AVal) (k : Nat) (cs : List AVal), (∀ y ∈ ys, y.cells.length = te.size) → (k + ys.length) * te.size ≤ cs.length → ∃ cs', fillA (fun i => some (i * te.size, te.size)) cs ((ys.zipIdx k).map fun p => (p.2, p.1)) = some cs' := by
        intro ys
        induction ys with
        | nil => intro k cs _ _; exact ⟨cs, rfl⟩
        | cons y ys ih =>
          intro k cs hy hl
          simp only [List.zipIdx_cons, List.map_cons, fillA]
          simp only [List.length_cons] at hl
          have hk1 : (k + 1) * te.size = k * te.size + te.size := Nat.succ_mul k te.size
          have hmono : (k + 1) * te.size ≤ (k + (ys.length + 1)) * te.size := Nat.mul_le_mul_right _ (by omega)
          have hc : y.cells.length = te.size ∧ k * te.size + te.size ≤ cs.length := ⟨hy y (by simp), by omega⟩
          rw [if_pos hc]
          refine ih (k + 1) _ (fun z hz => hy z (List.mem_cons_of_mem _ hz)) ?_
          rw [splice_length (by omega), show k + 1 + ys.length = k + (ys.length + 1) by omega]
          exact hl
      rw [hps]
      exact aux xs 0 zc hsz (by rw [hzl, hlen, Nat.zero_add]; exact Nat.le_refl _)
    obtain ⟨cs', hcs'⟩ := hfill
    obtain ⟨arr', q1, q2, _⟩ := fill_spec (fun i => some (i * te.size, te.size)) hpr hzr hcs'
    obtain ⟨e1, _⟩ := fillA_seq xs 0 zc cs' (by rw [← hps]; exact hcs') (by rw [hzl, hlen, Nat.zero_add]; exact Nat.le_refl _)
    have e2 : cs' = cellsAll xs := by
      rw [e1]
      simp only [Nat.zero_mul, List.take_zero, List.nil_append, Nat.zero_add]
      rw [List.drop_of_length_le (by rw [hzl, hlen]; omega), List.append_nil]
    subst e2
    have hrun : (Instr.buildSlice t len (parts.map fun (i, x) => (i, a.eval x))).run P g.w = .ok (.slice (some ⟨g.w.heap.size, 0, none⟩) len len) (g.w.alloc (.cells arr' e)) := by
      have hbig : ¬ len * i.size > 2 ^ 24 := by rw [h2]; omega
      rw [hzs, ← h2] at q1
      have q1' : Instr.fill (fun i_1 => some (i_1 * i.size, i.size)) ((Array.range (len * i.size)).map (z.cells[· % z.cells.size]!)) (parts.map fun (i, x) => (i, a.eval x)).toList = some arr' := by
        rw [Array.toList_map]
        exact q1
      simp only [Instr.buildSlice, run_underlying hu, Go.sizeOf, typeInfo, Go.zeroValue, Sem.run_bind, run_program, Result.andThen_ok, h1, Sem.run_pure, Go.newRow]
      rw [if_neg hbig, if_neg hne]
      simp only [Sem.run_bind, Sem.run_pure, Result.andThen_ok, run_program, h1, h4, q1', run_newObj]
      rfl
    have hle := Le.alloc hg (.cells arr' e) 0 (.cells (cellsAll xs))
    have hsize : arr'.size = len * te.size := by
      rw [q2.1, ← hlen]
      have : ∀ ys : List AVal, (∀ y ∈ ys, y.cells.length = te.size) → (cellsAll ys).length = ys.length * te.size := fun ys => by
        induction ys with
        | nil => intro _; simp [cellsAll]
        | cons y ys ih =>
          intro hy
          have h1 := ih fun z hz => hy z (by simp [hz])
          have h2 := hy y (by simp)
          simp only [cellsAll, List.flatMap_cons, List.length_append, List.length_cons] at h1 ⊢
          rw [h1, h2, Nat.succ_mul]
          omega
      exact this xs hsz
    have hscA : ∀ c ∈ cellsAll xs, c.scalar := fun c hc => by
      simp only [cellsAll, List.mem_flatMap] at hc
      obtain ⟨x, hx, hc⟩ := hc
      exact hsc x hx c hc
    refine ⟨.slice (some ⟨g.w.heap.size, 0, none⟩) len len, g.alloc (.cells arr' e) 0 (.cells (cellsAll xs)), .inl (by simp [execOp, ho, hrun, G.alloc]), hle, Good.alloc hg _ 0 _ (.inr rfl) ⟨_, e, rfl, by rw [q2.1]; exact Nat.le_refl _, (q2.mono hle).2, hscA⟩, by simp [G.alloc, hO, Mode.post], ?_⟩
    rw [← hO]
    exact .os (l := ⟨g.w.heap.size, 0, arr'.size⟩) (env_new hg) objs_new (by simp [AObj.isSpare]) (Nat.le_refl _) (by rw [hsize]; exact Nat.le_refl _) (by
      have : len ≤ len * te.size := Nat.le_mul_of_pos_right _ hpos
      omega)
theorem FSub.os {O : List AObj} {id len sz : Nat} {cs xs : List AVal} (hid : O[id]? = some (.cells cs)) (hsz : ∀ x ∈ xs, x.cells.length = sz) (hlen : xs.length = len) (hd : ((cs.drop 0).take (len * sz)).map AVal.shareCell = cellsAll xs) : FSub O id (.os id len sz) (.lst sz xs .sh) := fun g u l' hg hO he hle h => by
  obtain ⟨l, o1, cap', h1, h2, _, hlc, _, hmax, eu⟩ := h.os_inv
  subst eu
  rw [he] at h1
  simp only [Option.some.injEq] at h1
  subst h1
  have hid' : g.objs[id]? = some (.cells cs) := by rw [hO]; exact hid
  obtain ⟨arr, t', hlo, hrow, hal, hcs, hcsc, _⟩ := hg.row hid' he
  subst hlen
  have key : ∀ (j : Nat) (c : AVal), (cellsAll xs)[j]? = some c → ∃ c', cs[0 + j]? = some c' ∧ c'.shareCell = c := fun j c hj => by
    rw [← hd, List.getElem?_map, Option.map_eq_some_iff] at hj
    obtain ⟨c', hj, e⟩ := hj
    have := take_get hj
    rw [List.getElem?_drop] at this
    exact ⟨c', this, e⟩
  refine .lst hsz (fun x hx c hc => ?_) hlc hmax (fun _ => rfl) (fun j => arr.getD (0 + j) undef) (fun j c hj => ?_) (fun j c hj => ?_) trivial
  · have hmem : c ∈ cellsAll xs := by
      simp only [cellsAll, List.mem_flatMap]
      exact ⟨x, hx, hc⟩
    obtain ⟨j, hj⟩ := List.getElem?_of_mem hmem
    obtain ⟨c', hj', e⟩ := key j c hj
    subst e
    exact AVal.scalar_shareCell (hcsc c' (List.mem_of_getElem? hj'))
  · obtain ⟨c', hj', e⟩ := key j c hj
    have hlt := lt_of_getElem? hj'
    refine ⟨?_, freeze_own hg he hid' trivial _⟩
    show g.w.cell? _ = _
    simp only
    rw [cell_of_row hrow]
    simp [Array.getD_eq_getD_getElem?, show j < arr.size by omega]
  obtain ⟨c', hj', e⟩ := key j c hj
  have hlt := lt_of_getElem? hj'
  subst e
  exact ((hcs _ c' _ hj' (by simp [Array.getD_eq_getD_getElem?, show j < arr.size by omega])).mono hle).shareCell
theorem midOp_os {P : Program} {tab : Tab} {md : Md} (hT : TabOK P tab) {o : Oper} {l2 : List Oper} {Q : AEx → St → Prop} {σ : St} {t e : TypeId} {len d : Nat} {parts : Array (Nat × Operand)} {ti te : TInfo} {ps : List (Nat × AVal)} {xs : List AVal}
    (ho : o.op = .buildSlice t len parts) (hdst : o.dst = some d) (hd : d < σ.n) (ht : tab t = some ti) (hdesc : ti.desc = .slice e) (he : tab e = some te) (hpos : 0 < te.size) (hev : σ.evParts parts.toList = some ps) (hfl : ∀ p ∈ ps, p.2.flat)
    (hseq : seqParts 0 ps = some xs) (hlen : xs.length = len) (hsz : ∀ x ∈ xs, x.cells.length = te.size) (hsm : len * te.size ≤ 2 ^ 24) (hz : len ≠ 0)
    (h : vcOps P tab md l2 0 [] ⟨σ.n, putO o.dst (.os σ.objs.length len te.size) σ.slots, σ.objs ++ [.cells (cellsAll xs)]⟩ [] fun ρ _ => At ρ (Q .norm)) : MidOp P tab md o l2 Q σ :=
  ⟨_, _, cert_buildSlice_os hT ho (fun d' e => by rw [hdst] at e; cases e; exact hd) ht hdesc he hpos hev hfl hseq hlen hsz hsm hz, h⟩
end Go.Av
end

section
set_option linter.unusedSimpArgs false
set_option maxRecDepth 100000
set_option maxHeartbeats 4000000
namespace Go.Proofs.Ythhjebmgmjemoaa
open Go.Av
def tabN : Tab := fun t => if t = 105 then some ⟨1, 24, [.v (.slice none 0 0)], .slice 4⟩ else tab t
theorem tok_105n : TOK Try.prog 105 ⟨1, 24, [.v (.slice none 0 0)], .slice 4⟩ := by
 obtain ⟨⟨i, z, h1, h2, h3, h4, h5, h6, h7, h8, h9⟩, hd⟩ := tok_of_B tokB_105
 have hz : z = .slice none 0 0 := by
  have : (Try.prog.info? 105).bind (fun i => i.zero) = some (.slice none 0 0) := by kernel_rfl
  rw [h1] at this
  simpa [h4] using this
 subst hz
 refine ⟨⟨i, _, h1, h2, h3, h4, h5, h6, h7, fun g j c u hc hu => ?_, fun c hc => ?_⟩, hd⟩
 ·cases j with
  | zero =>
   simp only [List.getElem?_cons_zero, Option.some.injEq] at hc
   subst hc
   have : u = .slice none 0 0 := by simpa [Value.cells] using hu.symm
   subst this
   exact .v trivial
  | succ j => simp at hc
 simp only [List.mem_cons, List.not_mem_nil, or_false] at hc
 subst hc
 trivial
theorem hTN : TabOK Try.prog tabN := fun t ti h => by
 unfold tabN at h
 split at h
 ·rename_i e
  subst e
  cases h
  exact tok_105n
 exact hT t ti h
theorem tabN_105 : tabN 105 = some ⟨1, 24, [.v (.slice none 0 0)], .slice 4⟩ := rfl
theorem tabN_101 : tabN 101 = tab 101 := rfl
theorem tabN_107 : tabN 107 = tab 107 := rfl
theorem tabN_39 : tabN 39 = tab 39 := rfl
theorem tabN_37 : tabN 37 = tab 37 := rfl
theorem tabN_3 : tabN 3 = tab 3 := rfl
theorem FnV.inr {f : Func} (hv : FnV f) {v : Int} (h : v ∈ valsF f) : InR (manyM f) v := by
 have := hv.below h
 unfold InR manyM
 omega
theorem FnV.inUse {f : Func} (hv : FnV f) {k : Nat} {n v : Int} (h : Fine f k n v) : InR (manyM f) v := by
 obtain ⟨p, hp, _⟩ := h
 exact hv.inr hp.val
theorem FnV.many {f : Func} (_ : FnV f) (hv : freshM f ≤ 4096) : 0 < manyM f ∧ manyM f ≤ 4097 := by
 have := freshM_pos f
 unfold manyM
 omega
theorem FnV.fresh {f : Func} (hv : FnV f) : freshM f ≤ 4096 := foldNext_le _ _ (by omega) fun w hw => (hv.vals w hw).2
theorem FnV.ins {f : Func} (hv : FnV f) {k : Nat} {b : Block} (hb : f.blocks[k]? = some b) : ∀ i ∈ b.ins, InR (manyM f) i.to ∧ ∀ a ∈ i.args, InR (manyM f) a := fun i hi => by
 refine ⟨hv.inr (List.mem_flatMap.2 ⟨b, List.mem_of_getElem? hb, ?_⟩), fun a ha => ?_⟩
 ·simp only [blkVals, List.mem_append, List.mem_map]
  exact .inr ⟨i, hi, rfl⟩
 obtain ⟨n, hn⟩ := List.getElem?_of_mem hi
 exact hv.inUse (hv.uses.ins k b hb n i hn a ha)
theorem FnV.term {f : Func} (hv : FnV f) {k : Nat} {b : Block} (hb : f.blocks[k]? = some b) : (∀ e ∈ b.term.to, (0 ≤ e.block ∧ e.block.toNat < f.blocks.length) ∧ ∀ a ∈ e.args, InR (manyM f) a) ∧ (usesArg b.term = true → InR (manyM f) b.term.arg) := by
 refine ⟨fun e he => ⟨?_, fun a ha => hv.inUse (hv.uses.args k b hb e he a ha)⟩, fun hu => ?_⟩
 ·have := hv.edges b (List.mem_of_getElem? hb) e he
  omega
 simp only [usesArg, Bool.and_eq_true, Bool.not_eq_true', decide_eq_false_iff_not] at hu
 exact hv.inUse (hv.uses.arg k b hb hu.1 hu.2)
def lvO (f : Func) (S : Lv) : List AObj := [.gone, .gone, .cells (S.behind.map eH), .cells (lifeC f (manyM f) 2 f.blocks.length), .cells (S.first.map eF)]
theorem lvO_upto (f : Func) (S : Lv) : ∀ o ∈ lvO f S, o.upto 5 := by
 intro o ho
 simp only [lvO, List.mem_cons, List.not_mem_nil, or_false] at ho
 rcases ho with rfl | rfl | rfl | rfl | rfl
 ·trivial
 ·trivial
 ·exact eH_upto _ _
 ·simp [AObj.upto, lifeC, uptoL, AVal.upto, Block.map_upto]
 exact eF_upto _ _
theorem nilsF_flat (n : Nat) : (List.replicate n [AVal.lst 1 [] .ex]).flatten = (List.replicate n []).map eF := by
 rw [nils_flat, List.map_replicate]
 rfl
theorem nilsH_flat (n : Nat) : (List.replicate n [AVal.v (.slice none 0 0)]).flatten = (List.replicate n []).map eH := by
 rw [List.map_replicate]
 induction n with
 | zero => rfl
 | succ n ih => rw [List.replicate_succ, List.flatten_cons, ih, List.replicate_succ]; rfl
theorem eH_put {ls : List (List Bool)} {k : Nat} (h : k < ls.length) {s : List Bool} (hs : s ≠ []) : splice (ls.map eH) k [.lst 1 (s.map eB) .nn] = (ls.set k s).map eH := by
 rw [splice_one _ (by simpa using h), List.map_set, eH_ne hs]
theorem eF_put {ls : List (List Bool)} {k : Nat} (h : k < ls.length) {s : List Bool} (hs : s ≠ []) : splice (ls.map eF) k [.lst 1 (s.map eB) .nn] = (ls.set k s).map eF := by
 rw [splice_one _ (by simpa using h), List.map_set, eF_ne hs]
theorem build_spec (f : Func) (hfit : f.fit) (hc : checkFuncM f = 0) :
  ECall Try.prog 61 [.gone] [f.enc] (fun r O' => r = .tup [.mp 3 0, .ms 4 0 f.blocks.length f.blocks.length, aI 0] ∧ O' = lvO f (liveM f)) := by
 have hck := checkFunc_spec f hfit
 rw [hc] at hck
 have hv := checkFunc_v hfit hc
 have hfr := fresh_spec f hv.vals hfit.2.1 (fun b hb => ⟨(hfit.2.2 b hb).2.1, (hfit.2.2 b hb).2.2.1⟩)
 have hn : f.blocks.length ≤ 128 := hv.fn.few
 have hf0 := freshM_pos f
 have hf1 := hv.fresh
 have hmy := hv.many hf1
 obtain ⟨R, hR⟩ : ∃ R, R = liveM f := ⟨_, rfl⟩
 rw [← hR]
 unfold liveM at hR
 obtain ⟨N, hN⟩ : ∃ N, N = f.blocks.length := ⟨_, rfl⟩
 have hM : freshM f + 1 = (manyM f : Nat) := by unfold manyM; omega
 have hkk : [AObj.gone].length ≤ 5 := by simp
 refine ecall_of hT true (5) Try.func61 rfl (by kernel_rfl) (by simp [Try.ntmps61]) (by assumption) ?_
 show AWP Try.prog _ _ _ ⟨77, _, _⟩
 dsimp only [Tmp, TypeId, slotsOf]
 refine zh1 (za0 ?_)
 refine awp_freeze1 1 1 (.ip none [aI f.name, eBlocks f.blocks]) rfl (by simp [AObj.isSpare]) trivial rfl ?_ ?_
 rotate_left
 simp -dsimp only [simprocAttr, ↓vpre, zp]
 ·refine zh2 ?_
  refine .inl ⟨_, hck, by simp only [uptoL, AVal.upto, zt, zu, aI_upto, eB_upto], later_intro ?_⟩
  simp -dsimp only [simprocAttr, ↓vpre, zp]
  refine za0 ?_
  refine zh1 (za0 ?_)
  apply zk0 rfl <;> intro h
  ·cases h
  refine zb0 ?_
  refine awp_seq (awp_region_any ⟨false, false⟩ hTN hm ?_)
  simp -dsimp only [simprocAttr, ↓vpre, zp, tabN_105, tabN_101, tabN_107, tabN_39, tabN_37, tabN_3]
  refine .inl ⟨_, hfr, by simp only [uptoL, AVal.upto, zt, zu, aI_upto, eB_upto], later_intro ?_⟩
  simp -dsimp only [simprocAttr, ↓vpre, zp, tabN_105, tabN_101, tabN_107, tabN_39, tabN_37, tabN_3, nilsH_flat, hM, ← hN]
  refine ⟨by omega, by omega, by omega, by omega, ?_⟩
  refine ⟨ob (by kernel_rfl), ?_⟩
  refine za0 ?_
  refine zg1 ?_
  simp -dsimp only [simprocAttr, ↓vpre, zp, nilsF_flat, ← hN]
  refine ⟨by omega, by omega, ?_⟩
  refine za0 ?_
  refine zh2 (za0 ?_)
  have hw0 := lvS_weight (n := N) (many := manyM f) (by omega) hmy.2
  have hS0 := lvS_ok f (manyM f)
  rw [← hN] at hS0 hR
  have hfO : ∀ S, LvOK f (manyM f) S → ∀ o ∈ lvO f S, o.upto 5 := fun S _ => lvO_upto f S
  refine awp_block (awp_loop (ι := {x : Lv × Nat // LvOK f (manyM f) x.1 ∧ R = lvI f (manyM f) x.2 x.1 ∧ (x.1.again = true → x.1.weight (manyM f) < x.2)}) (fun x => ⟨77, [(1, .ip none [aI f.name, eBlocks f.blocks]), (6, .mp 3 0), (7, .ms 4 0 N N), (8, .v (.bool x.1.1.again))], [.gone, .gone, .cells (x.1.1.behind.map eH), .cells [aI f.name, eBlocks f.blocks, aI (manyM f), .ms 2 0 N N], .cells (x.1.1.first.map eF)]⟩) (fun x => x.1.1.weight (manyM f) + if x.1.1.again then 1 else 0) ⟨(lvS N, 700000), hS0, hR, fun _ => by simp only; omega⟩ ?_ ?_)
  ·refine zq rfl ?_ ?_
   simp -dsimp only [simprocAttr, ↓vpre, zp, zc]
   all_goals first | rfl | exact Sub.refl _
  rintro ⟨⟨S, q⟩, hSo, hRq, hwq⟩
  simp only at hSo hRq hwq
  refine zh2 (za0 ?_)
  apply zk0 rfl <;> intro h
  ·refine zb0 ?_
   have hag : S.again = true := h
   have hwq := hwq hag
   obtain ⟨q, rfl⟩ : ∃ q', q = q' + 1 := ⟨q - 1, by omega⟩
   have hRq' : R = lvI f (manyM f) q (lvR f (manyM f) N ⟨S.first, S.behind, false⟩) := by
    rw [hRq]
    simp [lvI, hag, hN]
   have hSf : LvOK f (manyM f) ⟨S.first, S.behind, false⟩ := ⟨hSo.len1, hSo.len2, hSo.sz1, hSo.sz2, hSo.low, hSo.nil⟩
   have hro := lvR_ok hmy.1 N (S := ⟨S.first, S.behind, false⟩) (by omega) hSf
   obtain ⟨S1, hS1⟩ : ∃ S1, S1 = lvR f (manyM f) N ⟨S.first, S.behind, false⟩ := ⟨_, rfl⟩
   rw [← hS1] at hRq' hro
   obtain ⟨ro1, ro2, ro3⟩ := hro
   have hwS : (⟨S.first, S.behind, false⟩ : Lv).weight (manyM f) = S.weight (manyM f) := rfl
   rw [hwS] at ro2 ro3
   refine awp_block ?_
   refine zh1 (za0 ?_)
   refine zg1 ?_
   simp -dsimp only [simprocAttr, ↓vpre, zp, ← hN]
   repeat (refine ⟨by omega, ?_⟩)
   refine za0 ?_
   refine awp_block (awp_loop (ι := {y : Nat × Lv // y.1 ≤ N ∧ LvOK f (manyM f) y.2 ∧ S1 = lvR f (manyM f) y.1 y.2}) (fun y => ⟨77, [(1, .ip none [aI f.name, eBlocks f.blocks]), (6, .mp 3 0), (7, .ms 4 0 N N), (8, .v (.bool y.1.2.again)), (9, aI ((y.1.1 : Int) - 1))], [.gone, .gone, .cells (y.1.2.behind.map eH), .cells [aI f.name, eBlocks f.blocks, aI (manyM f), .ms 2 0 N N], .cells (y.1.2.first.map eF)]⟩) (fun y => y.1.1) ⟨(N, ⟨S.first, S.behind, false⟩), by simp, hSf, hS1⟩ ?_ ?_)
   ·refine zq rfl ?_ ?_
    simp -dsimp only [simprocAttr, ↓vpre, zp, zc]
    all_goals rfl
   rintro ⟨⟨k, T⟩, hk, hTo, hTe⟩
   simp only at hk hTo hTe
   refine zh2 (za0 ?_)
   apply zk0 rfl <;> intro h
   ·refine zb0 ?_
    obtain ⟨k, rfl⟩ : ∃ k', k = k' + 1 := ⟨k - 1, by have := of_decide_eq_true h; omega⟩
    have hk1 : ((k + 1 : Nat) : Int) - 1 = (k : Nat) := by omega
    obtain ⟨b, hb⟩ : ∃ b, f.blocks[k]? = some b := ⟨f.blocks[k]'(by omega), List.getElem?_eq_getElem _⟩
    have hblk : blkOf f (k : Int) = b := by simp [blkOf, hb]
    simp only [lvR] at hTe
    have hlast := last_spec (O := [.gone, .gone, .cells (T.behind.map eH), .cells (lifeC f (manyM f) 2 N), .cells (T.first.map eF)]) (by
     have := lvO_upto f T
     unfold lvO at this
     rw [← hN] at this
     exact this) (A := 3) (B := 2) (C := 4) (f := f) (many := manyM f) (N := N) (first := T.first) rfl rfl (by rw [hTo.len1, hN]) hN.symm (by omega) hmy.1 (fun l hl => (by
     rcases hTo.sz1 l hl with r | r
     ·simp [r]
     omega)) hb (by rw [hN]; exact (hv.term hb).1) (hv.term hb).2
    obtain ⟨next, hnx⟩ : ∃ n, n = lastM f (manyM f) T.first b.term := ⟨_, rfl⟩
    have hnl : next.length = manyM f := by rw [hnx, lastM_len]
    have hn0 : next ≠ [] := fun e => by rw [e] at hnl; simp at hnl; omega
    rw [← hnx] at hlast
    obtain ⟨old, ho⟩ : ∃ old, T.behind[k]? = some old := ⟨T.behind[k]'(by rw [hTo.len2]; omega), List.getElem?_eq_getElem _⟩
    have hsl := lvStep_ok hmy.1 hTo (k := k) (by omega)
    have hstep : lvStep f (manyM f) k T = if old ≠ [] ∧ next = old then T else ⟨T.first.set k (backM b.ins next), T.behind.set k next, true⟩ := by
     unfold lvStep
     rw [ho, Option.getD_some, hblk, ← hnx]
    have hbk : k < T.behind.length := by rw [hTo.len2]; omega
    have hfk : k < T.first.length := by rw [hTo.len1]; omega
    have hbl2 := hTo.len2
    have hfl2 := hTo.len1
    refine awp_seq (awp_block ?_)
    refine zg1 ?_
    simp -dsimp only [simprocAttr, ↓vpre, zp, hk1]
    refine .inr (.inr ⟨_, hlast, later_intro (zj ?_)⟩)
    refine za0 ?_
    by_cases hpq : old ≠ [] ∧ next = old
    ·rw [if_pos hpq] at hstep
     rw [hstep] at hTe
     have hog : (T.behind.map eH)[k]? = some (.lst 1 (old.map eB) .nn) := by rw [List.getElem?_map, ho, Option.map_some, eH_ne hpq.1]
     have heq := equalB_spec next old
     rw [decide_eq_true hpq.2] at heq
     refine zg2 ?_
     simp -dsimp only [simprocAttr, ↓vpre, zp, hk1, hog, Nat.mul_one]
     repeat (refine ⟨by omega, ?_⟩)
     refine .inl ⟨_, heq, by simp only [uptoL, AVal.upto, zt, zu, aI_upto, eB_upto], later_intro ?_⟩
     simp -dsimp only [simprocAttr, ↓vpre, zp]
     refine za0 ?_
     refine zw0 rfl ?_
     refine awp_exit ?_
     simp -dsimp only [vend, ne_eq, Nat.reduceEqDiff, reduceCtorEq]
     refine zg0 ?_
     simp -dsimp only [simprocAttr, ↓vpre, zp, hk1]
     repeat (refine ⟨by omega, ?_⟩)
     refine zl0 ?_
     refine ⟨⟨(k, T), by simp only; omega, hTo, hTe⟩, by simp, ?_⟩
     refine zq rfl ?_ ?_
     simp -dsimp only [simprocAttr, ↓vpre, zp, zc]
     all_goals rfl
    rw [if_neg hpq] at hstep
    rw [hstep] at hTe hsl
    refine awp_mid (⟨77, [(1, .ip none [aI f.name, eBlocks f.blocks]), (6, .mp 3 0), (7, .ms 4 0 N N), (9, aI (k : Nat)), (10, .lst 1 (next.map eB) .nn)], [.gone, .gone, .cells (T.behind.map eH), .cells [aI f.name, eBlocks f.blocks, aI (manyM f), .ms 2 0 N N], .cells (T.first.map eF)]⟩) ?_ ?_
    ·by_cases hone : old = []
     ·have hog : (T.behind.map eH)[k]? = some (.v (.slice none 0 0)) := by rw [List.getElem?_map, ho, hone]; rfl
      refine zg1 ?_
      simp -dsimp only [simprocAttr, ↓vpre, zp, hk1, hog, Nat.mul_one]
      repeat (refine ⟨by omega, ?_⟩)
      refine za0 ?_
      refine zu0 rfl ?_
      refine awp_skip ?_
      show Covers _ _
      refine zq rfl ?_ ?_
      simp -dsimp only [simprocAttr, ↓vpre, zp, zc, hk1]
      all_goals rfl
     have hog : (T.behind.map eH)[k]? = some (.lst 1 (old.map eB) .nn) := by rw [List.getElem?_map, ho, Option.map_some, eH_ne hone]
     have heq := equalB_spec next old
     rw [decide_eq_false (fun e => hpq ⟨hone, e⟩)] at heq
     refine zg1 ?_
     simp -dsimp only [simprocAttr, ↓vpre, zp, hk1, hog, Nat.mul_one]
     repeat (refine ⟨by omega, ?_⟩)
     refine .inl ⟨_, heq, by simp only [uptoL, AVal.upto, zt, zu, aI_upto, eB_upto], later_intro ?_⟩
     simp -dsimp only [simprocAttr, ↓vpre, zp]
     refine za0 ?_
     refine zu0 rfl ?_
     refine awp_skip ?_
     show Covers _ _
     refine zq rfl ?_ ?_
     simp -dsimp only [simprocAttr, ↓vpre, zp, zc, hk1]
     all_goals rfl
    skip
    have hpH := eH_put hbk hn0
    have hback := back_spec (X := Unit) (enc := fun _ => [.gone, .gone, .cells ((T.behind.set k next).map eH), .cells (lifeC f (manyM f) 2 N), .cells (T.first.map eF)]) (Inv := fun _ => True) (step := fun x _ _ => x) (x0 := ()) trivial (fun _ _ => rfl) (fun _ _ => by
     have := lvO_upto f ⟨T.first, T.behind.set k next, true⟩
     unfold lvO at this
     rw [← hN] at this
     exact this) (f := f) (many := manyM f) (N := N) (A := 3) (B := 2) (behind := T.behind.set k next) rfl rfl (by simp; omega) (by omega) hb (s0 := next) (by rw [List.getElem?_set_self hbk]) hn0 hnl ((hfit.2.2 b (List.mem_of_getElem? hb)).2.2.1) (hv.ins hb) (.v .nilFunc) (fun _ _ _ _ _ _ => trivial) (.inl ⟨rfl, fun _ _ _ => rfl⟩)
    have hbm0 : backM b.ins next ≠ [] := fun e => by
     have := backM_len b.ins next
     rw [e] at this
     simp at this
     omega
    have hpF := eF_put hfk hbm0
    refine zg1 ?_
    simp -dsimp only [simprocAttr, ↓vpre, zp, hk1, hpH, Nat.mul_one]
    refine ⟨by omega, by omega, ?_⟩
    refine za0 ?_
    refine zh0 ?_
    refine .inr (.inr ⟨_, hback, later_intro ?_⟩)
    simp -dsimp only [simprocAttr, ↓vpre, zp, hpF, Nat.mul_one]
    refine ⟨by omega, by omega, ?_⟩
    refine za0 ?_
    refine zh0 ?_
    repeat (refine ⟨by omega, ?_⟩)
    refine zl0 ?_
    refine ⟨⟨(k, _), by simp only; omega, hsl.1, hTe⟩, by simp, ?_⟩
    refine zq rfl ?_ ?_
    simp -dsimp only [simprocAttr, ↓vpre, zp, zc]
    all_goals rfl
   refine awp_exit ?_
   simp -dsimp only [vend, ne_eq, Nat.reduceEqDiff, reduceCtorEq]
   have hk0 : k = 0 := by have := of_decide_eq_false h; omega
   subst hk0
   simp only [lvR] at hTe
   subst hTe
   have hlt2 : S1.again = true → S1.weight (manyM f) < q := fun hh => by
    rcases ro3 hh with r | r
    ·cases r
    omega
   refine ⟨⟨(S1, q), ro1, hRq', hlt2⟩, ?_, ?_⟩
   ·simp only [hag, if_true]
    cases hs1 : S1.again
    ·simp; omega
    rcases ro3 hs1 with r | r
    ·cases r
    simp; omega
   refine zq rfl ?_ ?_
   simp -dsimp only [simprocAttr, ↓vpre, zp, zc]
   all_goals rfl
  refine awp_exit ?_
  simp -dsimp only [vend, ne_eq, Nat.reduceEqDiff, reduceCtorEq]
  have hag : S.again = false := h
  rw [lvI_done hag] at hRq
  subst hRq
  refine zh1 (za0 ?_)
  refine awp_ret ?_
  simp -dsimp only [simprocAttr, ↓vpre, zp, zr, Try.results61]
  have := lvO_upto f R
  unfold lvO lifeC at this ⊢
  rw [← hN] at this ⊢
  exact ⟨this, ⟨show 3 < 5 by omega, show 4 < 5 by omega, trivial, trivial⟩, rfl, rfl⟩
 exact FSub.mp rfl rfl
end Go.Proofs.Ythhjebmgmjemoaa
end

section
namespace Go.Proofs.Ythhjebmgmjemoaa
open Go.Av
theorem lvStep_again {f : Func} {many k : Nat} {S : Lv} (h : (lvStep f many k S).again = false) : lvStep f many k S = S ∧ S.behind[k]?.getD [] ≠ [] ∧ lastM f many S.first (blkOf f k).term = S.behind[k]?.getD [] := by
  unfold lvStep at h ⊢
  split at h
  · rename_i hc
    rw [if_pos hc]
    exact ⟨rfl, hc⟩
  cases h
theorem lvR_again {f : Func} {many : Nat} : ∀ (k : Nat) {S : Lv}, (lvR f many k S).again = false → lvR f many k S = S ∧ ∀ j, j < k → S.behind[j]?.getD [] ≠ [] ∧ lastM f many S.first (blkOf f j).term = S.behind[j]?.getD []
  | 0, S, _ => ⟨rfl, fun j hj => absurd hj (by omega)⟩
  | k + 1, S, h => by
    rw [lvR] at h
    have ih := lvR_again k h
    rw [ih.1] at h
    have h1 := lvStep_again h
    rw [lvR, ih.1, h1.1]
    rw [h1.1] at ih
    refine ⟨rfl, fun j hj => ?_⟩
    by_cases e : j = k
    · subst e
      exact h1.2
    exact ih.2 j (by omega)
theorem lvI_ends {f : Func} {many : Nat} (h0 : 0 < many) : ∀ (n : Nat) {S : Lv}, LvOK f many S → (S.again = true → S.weight many < n) → (lvI f many n S).again = false
  | 0, S, _, h => by
    cases hs : S.again with
    | false => exact hs
    | true => exact absurd (h hs) (by omega)
  | n + 1, S, hS, h => by
    simp only [lvI]
    split
    · rename_i ha
      have hw := h ha
      have hr := lvR_ok h0 (S := ⟨S.first, S.behind, false⟩) f.blocks.length (Nat.le_refl _) ⟨hS.len1, hS.len2, hS.sz1, hS.sz2, hS.low, hS.nil⟩
      have hwS : (⟨S.first, S.behind, false⟩ : Lv).weight many = S.weight many := rfl
      refine lvI_ends h0 n hr.1 fun q => ?_
      rcases hr.2.2 q with q | q
      · cases q
      omega
    rename_i ha
    simpa using ha
theorem lvI_last {f : Func} {many : Nat} : ∀ (n : Nat) {S : Lv}, S.again = true → (lvI f many n S).again = false → ∃ T : Lv, lvI f many n S = lvR f many f.blocks.length T
  | 0, S, h1, h2 => by
    rw [lvI, h1] at h2
    cases h2
  | n + 1, S, h1, h2 => by
    simp only [lvI, h1, if_true] at h2 ⊢
    cases hr : (lvR f many f.blocks.length ⟨S.first, S.behind, false⟩).again with
    | false => exact ⟨_, lvI_done hr n⟩
    | true => exact lvI_last n hr h2
theorem live_fix {f : Func} (h128 : f.blocks.length ≤ 128) (hfr : freshM f ≤ 4096) : LvOK f (manyM f) (liveM f) ∧ ∀ (k : Nat), k < f.blocks.length → ∃ l, (liveM f).behind[k]? = some l ∧ l ≠ [] ∧ l.length = manyM f ∧ l = lastM f (manyM f) (liveM f).first (blkOf f k).term ∧ (liveM f).first[k]? = some (backM (blkOf f k).ins l) := by
  have hf := freshM_pos f
  have h0 : 0 < manyM f := by unfold manyM; omega
  have h1 : manyM f ≤ 4097 := by unfold manyM; omega
  have hS := lvS_ok f (manyM f)
  have hw := lvS_weight (n := f.blocks.length) (many := manyM f) h128 h1
  have hend := lvI_ends h0 700000 hS (fun _ => by omega)
  have hok := lvI_ok h0 700000 hS
  obtain ⟨T, hT⟩ := lvI_last 700000 rfl hend
  have hTa := lvR_again f.blocks.length (S := T) (by rw [← hT]; exact hend)
  have hfix := hTa.2
  rw [show T = lvI f (manyM f) 700000 (lvS f.blocks.length) from hTa.1.symm.trans hT.symm] at hfix
  have e : liveM f = lvI f (manyM f) 700000 (lvS f.blocks.length) := rfl
  rw [← e] at hfix hok
  refine ⟨hok, fun k hk => ?_⟩
  obtain ⟨l, hl⟩ : ∃ l, (liveM f).behind[k]? = some l := ⟨(liveM f).behind[k]'(by rw [hok.len2]; exact hk), List.getElem?_eq_getElem _⟩
  obtain ⟨h2, h3⟩ := hfix k hk
  rw [hl, Option.getD_some] at h2 h3
  refine ⟨l, hl, h2, ?_, h3.symm, (hok.low k l hl h2).1⟩
  rcases hok.sz2 l (List.mem_of_getElem? hl) with q | q
  · exact absurd q h2
  exact q
theorem hasI_iff {l : List Int} {n : Int} : hasI l n = true ↔ n ∈ l := by
  unfold hasI
  rw [decide_eq_true_eq, List.findIdx_lt_length]
  simp
def Before (f : Func) (k : Nat) (n : Int) (v : Int) : Prop := ∃ p, DefAt f v p ∧ ((p.1 = k ∧ p.2 ≤ n) ∨ (p.1 ≠ k ∧ (overF f k).has p.1.toNat = true))
theorem back_before {f : Func} (hv : FnV f) {k : Nat} {b : Block} (hb : f.blocks[k]? = some b) (hs : seenF f k = true) : ∀ (n : Nat) (s : List Bool), n ≤ b.ins.length → (∀ v : Nat, Hs s v → Before f k n v) → ∀ v : Nat, Hs (backM (b.ins.take n) s) v → Before f k 0 v
  | 0, s, _, h => fun v hv => h v (by simpa [backM] using hv)
  | n + 1, s, hn, h => fun v hvv => by
    obtain ⟨i, hi⟩ : ∃ i, b.ins[n]? = some i := ⟨b.ins[n], List.getElem?_eq_getElem _⟩
    have htk : b.ins.take (n + 1) = b.ins.take n ++ [i] := by rw [List.take_add_one, hi]; rfl
    have hbm : backM (b.ins.take n ++ [i]) s = backM (b.ins.take n) (backI i s) := by simp [backM]
    rw [htk, hbm] at hvv
    refine back_before hv hb hs n (backI i s) (by omega) (fun w hw => ?_) v hvv
    rcases (hs_backI i s w).1 hw with ⟨h1, h2⟩ | ⟨_, a, ha, h2⟩
    · obtain ⟨p, hp, hpp⟩ := h w h2
      refine ⟨p, hp, ?_⟩
      rcases hpp with ⟨q1, q2⟩ | q
      · refine .inl ⟨q1, ?_⟩
        obtain ⟨k', b', hb', e1, e2⟩ := hp
        have : k' = k := by omega
        subst this
        rw [hb] at hb'
        simp only [Option.some.injEq] at hb'
        subst hb'
        rcases e2 with ⟨e2, _⟩ | ⟨j, x, hx, hxt, e2⟩
        · omega
        by_cases hj : j = n
        · subst hj
          rw [hi] at hx
          simp only [Option.some.injEq] at hx
          subst hx
          exact absurd (by omega) h1
        omega
      exact .inr q
    obtain ⟨p, hp, hpp⟩ := hv.uses.ins k b hb n i hi a ha
    have h3 := hv.below hp.val
    have : (w : Int) = a := by omega
    exact ⟨p, this ▸ hp, hpp hs⟩
def LvA (f : Func) (first : List (List Bool)) : Prop := ∀ (k : Nat) l, first[k]? = some l → seenF f k = true → ∀ v : Nat, Hs l v → Before f k 0 v
theorem last_before {f : Func} (hv : FnV f) {first : List (List Bool)} (hA : LvA f first) (hl : first.length = f.blocks.length) {many k : Nat} {b : Block} (hb : f.blocks[k]? = some b) (hs : seenF f k = true) (v : Nat) (h : Hs (lastM f many first b.term) v) : Before f k b.ins.length v := by
  have hk := lt_of_getElem? hb
  have hfew := hv.fn.few
  rw [hs_lastM] at h
  obtain ⟨_, h⟩ := h
  rcases h with ⟨e, he, h1, h2⟩ | ⟨h1, h2⟩ | ⟨e, he, a, ha, h2⟩
  · have hee := hv.edges b (List.mem_of_getElem? hb) e he
    obtain ⟨hes, hst⟩ := hv.dom.step k b hb hs e he
    obtain ⟨j, hj⟩ : ∃ j : Nat, e.block = (j : Int) := ⟨e.block.toNat, by omega⟩
    have hj' : e.block.toNat = j := by omega
    rw [hj'] at hes hst
    obtain ⟨l, hfl⟩ : ∃ l, first[j]? = some l := ⟨first[j]'(by omega), List.getElem?_eq_getElem _⟩
    have h1' : Hs l v := by simpa [firstAt, hj', hfl] using h1
    obtain ⟨p, hp, hpp⟩ := hA j l hfl hes v h1'
    have hpr : 0 ≤ p.1 ∧ p.1 < f.blocks.length := by
      obtain ⟨k', b', hb', e1, _⟩ := hp
      have := lt_of_getElem? hb'
      omega
    have hov : (overF f k).has p.1.toNat = true := by
      rcases hpp with ⟨q1, q2⟩ | ⟨q1, q2⟩
      · exfalso
        obtain ⟨k', b', hb', e1, e2⟩ := hp
        have : k' = j := by omega
        subst this
        have : blkOf f e.block = b' := by simp [blkOf, hj', hb']
        rw [this] at h2
        rcases e2 with ⟨_, e2⟩ | ⟨x, i, _, _, e2⟩
        · rw [hasI_iff.2 e2] at h2
          cases h2
        omega
      rcases hst p.1.toNat (by omega) q2 with q | q
      · exact absurd (by omega) q1
      exact q
    refine ⟨p, hp, ?_⟩
    by_cases e1 : p.1 = k
    · refine .inl ⟨e1, ?_⟩
      obtain ⟨k', b', hb', e2, e3⟩ := hp
      have : k' = k := by omega
      subst this
      rw [hb] at hb'
      simp only [Option.some.injEq] at hb'
      subst hb'
      rcases e3 with ⟨e3, _⟩ | ⟨x, i, hx, _, e3⟩
      · omega
      have := lt_of_getElem? hx
      omega
    exact .inr ⟨e1, hov⟩
  · simp only [usesArg, Bool.and_eq_true, Bool.not_eq_true', decide_eq_false_iff_not] at h1
    obtain ⟨p, hp, hpp⟩ := hv.uses.arg k b hb h1.1 h1.2
    have h3 := hv.below hp.val
    have : (v : Int) = b.term.arg := by omega
    exact ⟨p, this ▸ hp, hpp hs⟩
  obtain ⟨p, hp, hpp⟩ := hv.uses.args k b hb e he a ha
  have h3 := hv.below hp.val
  have : (v : Int) = a := by omega
  exact ⟨p, this ▸ hp, hpp hs⟩
theorem lvStep_A {f : Func} (hv : FnV f) {many k : Nat} {S : Lv} (hk : k < f.blocks.length) (hl : S.first.length = f.blocks.length) (h : LvA f S.first) : LvA f (lvStep f many k S).first ∧ (lvStep f many k S).first.length = f.blocks.length := by
  unfold lvStep
  split
  · exact ⟨h, hl⟩
  refine ⟨fun j l hj hs v hvv => ?_, by simpa using hl⟩
  simp only at hj
  rw [List.getElem?_set] at hj
  split at hj
  · rename_i e
    subst e
    rw [if_pos (by omega)] at hj
    simp only [Option.some.injEq] at hj
    subst hj
    have hb : f.blocks[k]? = some f.blocks[k] := List.getElem?_eq_getElem hk
    have hbk : blkOf f k = f.blocks[k] := by simp [blkOf, hb]
    rw [hbk] at hvv
    refine back_before hv hb hs f.blocks[k].ins.length (lastM f many S.first f.blocks[k].term) (Nat.le_refl _) (fun w hw => last_before hv h hl hb hs w hw) v ?_
    rw [List.take_length]
    exact hvv
  exact h j l hj hs v hvv
theorem lvR_A {f : Func} (hv : FnV f) {many : Nat} : ∀ (k : Nat) {S : Lv}, k ≤ f.blocks.length → S.first.length = f.blocks.length → LvA f S.first → LvA f (lvR f many k S).first ∧ (lvR f many k S).first.length = f.blocks.length
  | 0, _, _, hl, h => ⟨h, hl⟩
  | k + 1, S, hk, hl, h => by
    have := lvStep_A hv (many := many) (k := k) (by omega) hl h
    exact lvR_A hv k (by omega) this.2 this.1
theorem lvI_A {f : Func} (hv : FnV f) {many : Nat} : ∀ (n : Nat) {S : Lv}, S.first.length = f.blocks.length → LvA f S.first → LvA f (lvI f many n S).first
  | 0, _, _, h => h
  | n + 1, S, hl, h => by
    simp only [lvI]
    split
    · have := lvR_A hv (many := many) (S := ⟨S.first, S.behind, false⟩) f.blocks.length (Nat.le_refl _) hl h
      exact lvI_A hv n this.2 this.1
    exact h
theorem live_A {f : Func} (hv : FnV f) : LvA f (liveM f).first := by
  refine lvI_A hv 700000 (by simp [lvS]) fun k l hl hs v hvv => ?_
  have := (List.mem_replicate.1 (List.mem_of_getElem? hl)).2
  subst this
  simp [Hs] at hvv
theorem live_zero {f : Func} (hv : FnV f) {l : List Bool} (hl : (liveM f).first[0]? = some l) (v : Nat) (h : Hs l v) : (v : Int) ∈ (blkOf f 0).params := by
  have hl0 := List.length_pos_iff.2 hv.fn.ne
  have hfew := hv.fn.few
  obtain ⟨p, ⟨k, b, hb, e1, e2⟩, hpp⟩ := live_A hv 0 l hl hv.dom.seen v h
  have hkl := lt_of_getElem? hb
  rcases hpp with ⟨q1, q2⟩ | ⟨q1, q2⟩
  · have : k = 0 := by omega
    subst this
    have hbk : blkOf f 0 = b := by simp [blkOf, hb]
    rw [hbk]
    rcases e2 with ⟨_, e2⟩ | ⟨j, i, _, _, e2⟩
    · exact e2
    omega
  have := (hv.dom.zero p.1.toNat (by omega)).1 q2
  omega
theorem mem_listM {v : Int} : ∀ (l : List Bool) (n : Nat), v ∈ listM n l → ∃ j : Nat, Hs l j ∧ v = n + j
  | [], n, h => by simp [listM] at h
  | is :: r, n, h => by
    simp only [listM] at h
    split at h
    · rename_i hc
      rcases List.mem_cons.1 h with q | q
      · exact ⟨0, by simp [Hs, hc], by omega⟩
      obtain ⟨j, h1, h2⟩ := mem_listM r (n + 1) q
      exact ⟨j + 1, by simpa [Hs] using h1, by omega⟩
    obtain ⟨j, h1, h2⟩ := mem_listM r (n + 1) h
    exact ⟨j + 1, by simpa [Hs] using h1, by omega⟩
end Go.Proofs.Ythhjebmgmjemoaa
end

section
set_option linter.unusedSimpArgs false
set_option maxRecDepth 100000
set_option maxHeartbeats 4000000
namespace Go.Proofs.Ythhjebmgmjemoaa
open Go.Av
def hasM (l : List Int) (n : Int) : Bool := l.any fun x => decide (x = n)
theorem hasM_iff {l : List Int} {n : Int} : hasM l n = true ↔ n ∈ l := by
 simp [hasM]
theorem any_at {α : Type} {l : List α} {p : α → Bool} {j : Nat} {x : α} (h : l[j]? = some x) : (l.drop j).any p = (p x || (l.drop (j + 1)).any p) := by
 rw [drop_at h]
 rfl
theorem aI_upto_take (m n : Nat) (l : List Int) : uptoL m ((l.map aI).take n) := by
 rw [← List.map_take]
 exact aI_upto _ _
theorem hasInt_spec (l : List Int) (n : Int) : PCall Try.prog 26 [eIs l, aI n] (.v (.bool (hasM l n))) := by
 obtain ⟨R, hR⟩ : ∃ R, R = hasM l n := ⟨_, rfl⟩
 rw [← hR]
 unfold hasM at hR
 refine zf true 0 Try.func26 Try.ntmps26 ?_
 dsimp only [Tmp, TypeId, slotsOf]
 refine zh1 (za0 ?_)
 refine awp_len 0 rfl (fun hll => ?_)
 simp only [List.length_map] at hll
 refine zh2 (za0 ?_)
 refine awp_block (awp_loop (ι := {k : Nat // k ≤ l.length ∧ R = (l.drop k).any fun x => decide (x = n)}) (fun k => ⟨17, [(1, aI n), (4, .v (.bool false)), (7, eIs l), (8, aI l.length), (9, aI k.1)], []⟩) (fun k => l.length - k.1) ⟨0, by omega, hR⟩ ?_ ?_)
 ·refine zq rfl ?_ ?_
  simp -dsimp only [simprocAttr, ↓vpre, zp, zc]
  rfl
 rintro ⟨k, hk, hke⟩
 refine zh1 (za0 ?_)
 apply zk1 rfl <;> intro h
 ·refine zb0 ?_
  have hlt : k < l.length := by simpa using h
  obtain ⟨a, ha⟩ : ∃ a, l[k]? = some a := ⟨l[k], by simp [hlt]⟩
  rw [any_at ha] at hke
  refine awp_seq (awp_block ?_)
  refine zg1 ?_
  simp -dsimp only [simprocAttr, ↓vpre, zp, ha]
  refine za0 ?_
  by_cases hab : a = n
  ·have hd : decide (a = n) = true := decide_eq_true hab
   rw [hd, Bool.true_or] at hke
   refine zg1 ?_
   simp -dsimp only [simprocAttr, ↓vpre, zp, hd]
   refine za0 ?_
   refine zw0 rfl ?_
   refine zh1 (za0 ?_)
   refine awp_ret ?_
   simp -dsimp only [simprocAttr, ↓vpre, zp, zr, Try.results26]
   rw [hke]
  have hd : decide (a = n) = false := decide_eq_false hab
  rw [hd, Bool.false_or] at hke
  refine zg1 ?_
  simp -dsimp only [simprocAttr, ↓vpre, zp, hd]
  refine za0 ?_
  refine zu0 rfl ?_
  refine zb1 ?_
  refine zh0 ?_
  repeat (refine ⟨by omega, ?_⟩)
  refine zl0 ?_
  refine ⟨⟨k + 1, hlt, hke⟩, by simp; omega, ?_⟩
  refine zq rfl ?_ ?_
  simp -dsimp only [simprocAttr, ↓vpre, zp, zc]
  ·exact Sub.int (by simp)
  rfl
 refine awp_exit ?_
 simp -dsimp only [vend, ne_eq, Nat.reduceEqDiff, reduceCtorEq]
 have hkk : k = l.length := by simp at h; omega
 subst hkk
 rw [List.drop_length] at hke
 refine zh1 (za0 ?_)
 refine awp_ret ?_
 simp -dsimp only [simprocAttr, ↓vpre, zp, zr, Try.results26]
 rw [hke]
 rfl
end Go.Proofs.Ythhjebmgmjemoaa
end

section
set_option linter.unusedSimpArgs false
set_option maxRecDepth 100000
set_option maxHeartbeats 4000000
namespace Go.Proofs.Ythhjebmgmjemoaa
open Go.Av
theorem build_bad (f : Func) (hfit : f.fit) (hc : checkFuncM f ≠ 0) : PCall Try.prog 61 [f.enc] (.tup [.v (.pointer none), .lst 1 [] .sh, aI (checkFuncM f)]) := by
 have hck := checkFunc_spec f hfit
 obtain ⟨e, he⟩ : ∃ e, e = checkFuncM f := ⟨_, rfl⟩
 rw [← he] at hc hck ⊢
 have hde : decide (e = 0) = false := decide_eq_false hc
 refine zf true 0 Try.func61 Try.ntmps61 ?_
 dsimp only [Tmp, TypeId, slotsOf]
 refine zh1 (za0 ?_)
 refine awp_freeze1 1 0 (.ip none [aI f.name, eBlocks f.blocks]) rfl (by simp [AObj.isSpare]) trivial rfl ?_ ?_
 rotate_left
 simp -dsimp only [simprocAttr, ↓vpre, zp]
 ·refine zh2 ?_
  refine .inl ⟨_, hck, by simp only [uptoL, AVal.upto, zt, zu, aI_upto, eB_upto], later_intro ?_⟩
  simp -dsimp only [simprocAttr, ↓vpre, zp]
  refine za0 ?_
  refine zg1 ?_
  simp -dsimp only [simprocAttr, ↓vpre, zp, hde]
  refine za0 ?_
  refine zw0 rfl ?_
  refine zh1 (za0 ?_)
  refine awp_ret ?_
  simp -dsimp only [simprocAttr, ↓vpre, zp, zr, Try.results61]
  simp [uptoL, AVal.upto]
 exact FSub.mp rfl rfl
def liveR (f : Func) : AVal := if checkFuncM f = 0 then .tup [.lst 1 (((liveM f).first.map (listM 0)).map eIs) .sh, .lst 1 (((liveM f).behind.map (listM 0)).map eIs) .sh, aI 0] else .tup [.lst 1 [] .sh, .lst 1 [] .sh, aI (checkFuncM f)]
theorem take_map_snoc {α β : Type} {l : List α} {k : Nat} {x : α} (h : l[k]? = some x) (g : α → β) : (l.take (k + 1)).map g = (l.take k).map g ++ [g x] := by
 rw [List.take_add_one, h]
 simp
theorem live_spec (f : Func) (hfit : f.fit) : PCall Try.prog 32 [f.enc] (liveR f) := by
 unfold liveR
 by_cases hc : checkFuncM f = 0
 ·rw [if_pos hc]
  have hv := checkFunc_v hfit hc
  have hn : f.blocks.length ≤ 128 := hv.fn.few
  have hmy := hv.many hv.fresh
  have hb := build_spec f hfit hc
  obtain ⟨hok, hfix⟩ := live_fix hn hv.fresh
  generalize liveM f = S at *
  obtain ⟨N, hN⟩ : ∃ N, N = f.blocks.length := ⟨_, rfl⟩
  have hl1 := hok.len1
  have hl2 := hok.len2
  unfold lvO lifeC at hb
  rw [← hN] at hb hfix hl1 hl2 hn
  obtain ⟨g, hg⟩ : ∃ g : List Bool → AVal, g = fun l => eIs (listM 0 l) := ⟨_, rfl⟩
  have hr1 : (S.first.map (listM 0)).map eIs = S.first.map g := by rw [List.map_map, hg]; rfl
  have hr2 : (S.behind.map (listM 0)).map eIs = S.behind.map g := by rw [List.map_map, hg]; rfl
  rw [hr1, hr2]
  refine zf true 0 Try.func32 Try.ntmps32 ?_
  dsimp only [Tmp, TypeId, slotsOf]
  refine zh1 (za0 ?_)
  refine awp_freeze1 1 0 (.ip none [aI f.name, eBlocks f.blocks]) rfl (by simp [AObj.isSpare]) trivial rfl ?_ ?_
  rotate_left
  simp -dsimp only [simprocAttr, ↓vpre, zp]
  ·refine zh1 ?_
   refine .inr (.inl ⟨_, _, hb, .inl (later_intro (zj ?_))⟩)
   refine za0 ?_
   refine zh2 (za0 ?_)
   apply zk0 rfl <;> intro h
   ·cases h
   refine zb0 ?_
   refine zh1 (za0 ?_)
   refine awp_own 8 rfl ?_
   simp -dsimp only [simprocAttr, ↓vpre, zp]
   refine awp_own 9 rfl ?_
   simp -dsimp only [simprocAttr, ↓vpre, zp]
   refine zg2 ?_
   simp -dsimp only [simprocAttr, ↓vpre, zp, ← hN]
   refine za0 ?_
   refine awp_block (awp_loop (ι := {k : Nat // k ≤ N}) (fun k => ⟨48, [(1, .ip none [aI f.name, eBlocks f.blocks]), (5, .mp 3 0), (6, .ms 4 0 N N), (8, .lst 1 ((S.first.take k.1).map g) (.tok 5)), (9, .lst 1 ((S.behind.take k.1).map g) (.tok 6)), (22, aI N), (23, aI k.1)], [.gone, .gone, .cells (S.behind.map eH), .cells [aI f.name, eBlocks f.blocks, aI (manyM f), .ms 2 0 N N], .cells (S.first.map eF), .spare k.1, .spare k.1]⟩) (fun k => N - k.1) ⟨0, by omega⟩ ?_ ?_)
   ·refine zq rfl ?_ ?_
    simp -dsimp only [simprocAttr, ↓vpre, zp, zc]
    all_goals rfl
   rintro ⟨k, hk⟩
   refine zh1 (za0 ?_)
   apply zk1 rfl <;> intro h
   ·refine zb0 ?_
    have hlt : k < N := by simpa using h
    obtain ⟨l, hl, hne, hlm, _, hf⟩ := hfix k hlt
    obtain ⟨m, hm'⟩ : ∃ m, m = backM (blkOf f k).ins l := ⟨_, rfl⟩
    have hml : m.length = manyM f := by rw [hm', backM_len, hlm]
    rw [← hm'] at hf
    have hfg := eF_get hf
    have hbg : (S.behind.map eH)[k]? = some (.lst 1 (l.map eB) .nn) := by rw [List.getElem?_map, hl, Option.map_some, eH_ne hne]
    have hls1 := list_spec m (by omega)
    have hls2 := list_spec l (by omega)
    have ht1 : (S.first.take k).map g ++ [eIs (listM 0 m)] = (S.first.take (k + 1)).map g := by rw [take_map_snoc hf, hg]
    have ht2 : (S.behind.take k).map g ++ [eIs (listM 0 l)] = (S.behind.take (k + 1)).map g := by rw [take_map_snoc hl, hg]
    have htl1 : (S.first.take k).length = k := by rw [List.length_take]; omega
    have htl2 : (S.behind.take k).length = k := by rw [List.length_take]; omega
    refine awp_seq (awp_block ?_)
    refine zh1 (za0 ?_)
    refine zg0 ?_
    simp -dsimp only [simprocAttr, ↓vpre, zp, hfg, hbg, Int.toNat_natCast, Nat.mul_one]
    repeat (refine ⟨by omega, ?_⟩)
    refine .inl ⟨_, hls1, by simp only [uptoL, AVal.upto, zt, zu, aI_upto, eB_upto], later_intro ?_⟩
    simp -dsimp only [simprocAttr, ↓vpre, zp, hbg, htl1, htl2, Int.toNat_natCast, Nat.mul_one]
    repeat (refine ⟨by omega, ?_⟩)
    refine .inl ⟨_, hls2, by simp only [uptoL, AVal.upto, zt, zu, aI_upto, eB_upto], later_intro ?_⟩
    simp -dsimp only [simprocAttr, ↓vpre, zp, hbg, htl1, htl2, Int.toNat_natCast, Nat.mul_one]
    repeat (refine ⟨by omega, ?_⟩)
    refine ⟨ob (by kernel_rfl), ?_⟩
    refine za0 ?_
    refine zh0 ?_
    repeat (refine ⟨by omega, ?_⟩)
    refine zl0 ?_
    refine ⟨⟨k + 1, hlt⟩, by simp; omega, ?_⟩
    refine zq rfl ?_ ?_
    simp -dsimp only [simprocAttr, ↓vpre, zp, zc, ht1, ht2]
    ·exact Sub.int (by simp)
    rfl
   refine awp_exit ?_
   simp -dsimp only [vend, ne_eq, Nat.reduceEqDiff, reduceCtorEq]
   have hkk : k = N := by simp at h; omega
   subst hkk
   have ht1 : S.first.take k = S.first := List.take_of_length_le (by omega)
   have ht2 : S.behind.take k = S.behind := List.take_of_length_le (by omega)
   refine zg1 ?_
   simp -dsimp only [simprocAttr, ↓vpre, zp, ht1, ht2]
   refine za0 ?_
   have hgu : ∀ l : List (List Bool), uptoL 0 (l.map g) := fun l => by
    rw [uptoL_iff]
    intro x hx
    obtain ⟨y, _, rfl⟩ := List.mem_map.1 hx
    rw [hg]
    exact ⟨aI_upto _ _, trivial⟩
   refine awp_ret ?_
   simp -dsimp only [simprocAttr, ↓vpre, zp, zr, Try.results32]
   exact ⟨⟨hgu _, trivial⟩, ⟨hgu _, trivial⟩, trivial, trivial⟩
  exact FSub.mp rfl rfl
 rw [if_neg hc]
 have hb := build_bad f hfit hc
 obtain ⟨e, he⟩ : ∃ e, e = checkFuncM f := ⟨_, rfl⟩
 rw [← he] at hc hb ⊢
 have hde : decide (e = 0) = false := decide_eq_false hc
 refine zf true 0 Try.func32 Try.ntmps32 ?_
 dsimp only [Tmp, TypeId, slotsOf]
 refine zh1 (za0 ?_)
 refine awp_freeze1 1 0 (.ip none [aI f.name, eBlocks f.blocks]) rfl (by simp [AObj.isSpare]) trivial rfl ?_ ?_
 rotate_left
 simp -dsimp only [simprocAttr, ↓vpre, zp]
 ·refine zh1 ?_
  refine .inl ⟨_, hb, by simp only [uptoL, AVal.upto, zt, zu, aI_upto, eB_upto], later_intro ?_⟩
  simp -dsimp only [simprocAttr, ↓vpre, zp]
  refine za0 ?_
  refine zg2 ?_
  simp -dsimp only [simprocAttr, ↓vpre, zp, hde]
  refine za0 ?_
  refine zw0 rfl ?_
  refine zh1 (za0 ?_)
  refine awp_ret ?_
  simp -dsimp only [simprocAttr, ↓vpre, zp, zr, Try.results32]
  simp [uptoL, AVal.upto]
 exact FSub.mp rfl rfl
theorem liveBegin_law (f : Func) (hfit : f.fit) : PCall Try.prog 12 [f.enc] (.v (.bool true)) := by
 have hwk := works_spec
 have hlv := live_spec f hfit
 unfold liveR at hlv
 by_cases hc : checkFuncM f = 0
 ·rw [if_pos hc] at hlv
  have hv := checkFunc_v hfit hc
  have hn : f.blocks.length ≤ 128 := hv.fn.few
  have hmy := hv.many hv.fresh
  obtain ⟨hok, hfix⟩ := live_fix hn hv.fresh
  have hl0 := List.length_pos_iff.2 hv.fn.ne
  obtain ⟨lb, _, _, hlm, _, hf⟩ := hfix 0 hl0
  have hzero := fun v => live_zero hv hf v
  have hl1 := hok.len1
  have hl2 := hok.len2
  obtain ⟨l0, hl0e⟩ : ∃ l0, l0 = listM 0 (backM (blkOf f ((0 : Nat) : Int)).ins lb) := ⟨_, rfl⟩
  have hll : ∀ v ∈ l0, v ∈ (blkOf f 0).params := fun v hv0 => by
   rw [hl0e] at hv0
   obtain ⟨j, h1, h2⟩ := mem_listM _ _ hv0
   have := hzero j h1
   rwa [show v = (j : Int) by omega]
  obtain ⟨b, hb⟩ : ∃ b, f.blocks[0]? = some b := ⟨f.blocks[0], List.getElem?_eq_getElem _⟩
  have hbk : blkOf f 0 = b := by simp [blkOf, hb]
  rw [hbk] at hll
  obtain ⟨A, hA⟩ : ∃ A, A = (liveM f).first.map (listM 0) := ⟨_, rfl⟩
  obtain ⟨B, hB⟩ : ∃ B, B = (liveM f).behind.map (listM 0) := ⟨_, rfl⟩
  have hAl : A.length = f.blocks.length := by rw [hA, List.length_map, hl1]
  have hBl : B.length = f.blocks.length := by rw [hB, List.length_map, hl2]
  have hA0 : A[0]? = some l0 := by rw [hA, List.getElem?_map, hf, hl0e]; rfl
  rw [← hA, ← hB] at hlv
  have hd1 : decide ((A.length : Int) = f.blocks.length) = true := decide_eq_true (by omega)
  have hd2 : decide ((B.length : Int) = f.blocks.length) = true := decide_eq_true (by omega)
  refine zf true 0 Try.func12 Try.ntmps12 ?_
  dsimp only [Tmp, TypeId, slotsOf]
  refine zh1 (za0 ?_)
  refine awp_freeze1 1 0 (.ip none [aI f.name, eBlocks f.blocks]) rfl (by simp [AObj.isSpare]) trivial rfl ?_ ?_
  rotate_left
  simp -dsimp only [simprocAttr, ↓vpre, zp]
  ·refine zh2 ?_
   refine .inl ⟨_, hwk, by simp only [uptoL, AVal.upto, zt, zu, aI_upto, eB_upto], later_intro ?_⟩
   simp -dsimp only [simprocAttr, ↓vpre, zp]
   refine za0 ?_
   apply zk0 rfl <;> intro h
   ·cases h
   refine zb0 ?_
   refine zh1 ?_
   refine .inl ⟨_, hlv, by simp only [uptoL, AVal.upto, zt, zu, aI_upto, eB_upto], later_intro ?_⟩
   simp -dsimp only [simprocAttr, ↓vpre, zp]
   refine za0 ?_
   refine zh2 (za0 ?_)
   apply zk0 rfl <;> intro h
   ·cases h
   refine zb0 ?_
   refine zg2 ?_
   simp -dsimp only [simprocAttr, ↓vpre, zp, hd1, hd2]
   refine za0 ?_
   apply zk0 rfl <;> intro h
   ·cases h
   refine zb0 ?_
   refine zg2 ?_
   simp -dsimp only [simprocAttr, ↓vpre, zp, hA0]
   refine za0 ?_
   refine awp_len 40 rfl (fun hll0 => ?_)
   simp only [List.length_map] at hll0
   refine awp_block (awp_loop (ι := {k : Nat // k ≤ l0.length}) (fun k => ⟨55, [(1, .ip none [aI f.name, eBlocks f.blocks]), (2, .v (.bool false)), (40, eIs l0), (41, aI l0.length), (42, aI k.1)], [.gone]⟩) (fun k => l0.length - k.1) ⟨0, by omega⟩ ?_ ?_)
   ·refine zq rfl ?_ ?_
    simp -dsimp only [simprocAttr, ↓vpre, zp, zc]
    rfl
   rintro ⟨k, hk⟩
   refine zh1 (za0 ?_)
   apply zk1 rfl <;> intro h
   ·refine zb0 ?_
    have hlt : k < l0.length := by simpa using h
    obtain ⟨v, hv1⟩ : ∃ v, l0[k]? = some v := ⟨l0[k], by simp [hlt]⟩
    have hvb := hll v (List.mem_of_getElem? hv1)
    have hhi := hasInt_spec b.params v
    rw [hasM_iff.2 hvb] at hhi
    refine awp_seq (awp_block ?_)
    refine zg1 ?_
    simp -dsimp only [simprocAttr, ↓vpre, zp, hv1]
    refine za0 ?_
    refine zg1 ?_
    simp -dsimp only [simprocAttr, ↓vpre, zp, hb]
    refine .inl ⟨_, hhi, by simp only [uptoL, AVal.upto, zt, zu, aI_upto, eB_upto], later_intro ?_⟩
    simp -dsimp only [simprocAttr, ↓vpre, zp]
    refine za0 ?_
    refine zu0 rfl ?_
    refine zb1 ?_
    refine zh0 ?_
    repeat (refine ⟨by omega, ?_⟩)
    refine zl0 ?_
    refine ⟨⟨k + 1, hlt⟩, by simp; omega, ?_⟩
    refine zq rfl ?_ ?_
    simp -dsimp only [simprocAttr, ↓vpre, zp, zc]
    ·exact Sub.int (by simp)
    rfl
   refine awp_exit ?_
   simp -dsimp only [vend, ne_eq, Nat.reduceEqDiff, reduceCtorEq]
   refine zh1 (za0 ?_)
   refine awp_ret ?_
   simp -dsimp only [simprocAttr, ↓vpre, zp, zr, Try.results12]
  exact FSub.mp rfl rfl
 rw [if_neg hc] at hlv
 obtain ⟨e, he⟩ : ∃ e, e = checkFuncM f := ⟨_, rfl⟩
 rw [← he] at hc hlv
 have hde : decide (e = 0) = false := decide_eq_false hc
 refine zf true 0 Try.func12 Try.ntmps12 ?_
 dsimp only [Tmp, TypeId, slotsOf]
 refine zh1 (za0 ?_)
 refine awp_freeze1 1 0 (.ip none [aI f.name, eBlocks f.blocks]) rfl (by simp [AObj.isSpare]) trivial rfl ?_ ?_
 rotate_left
 simp -dsimp only [simprocAttr, ↓vpre, zp]
 ·refine zh2 ?_
  refine .inl ⟨_, hwk, by simp only [uptoL, AVal.upto, zt, zu, aI_upto, eB_upto], later_intro ?_⟩
  simp -dsimp only [simprocAttr, ↓vpre, zp]
  refine za0 ?_
  refine zu0 rfl ?_
  refine zb0 ?_
  refine zh1 ?_
  refine .inl ⟨_, hlv, by simp only [uptoL, AVal.upto, zt, zu, aI_upto, eB_upto], later_intro ?_⟩
  simp -dsimp only [simprocAttr, ↓vpre, zp]
  refine za0 ?_
  refine zg2 ?_
  simp -dsimp only [simprocAttr, ↓vpre, zp, hde]
  refine za0 ?_
  refine zw0 rfl ?_
  refine zh1 (za0 ?_)
  refine awp_ret ?_
  simp -dsimp only [simprocAttr, ↓vpre, zp, zr, Try.results12]
 exact FSub.mp rfl rfl
end Go.Proofs.Ythhjebmgmjemoaa
end
