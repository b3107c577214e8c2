/-
  Texts bound together by a program of mine: YtlclgfgmhnmnaaaPf, YtlclgfgmhnmnaaaT48, YtlclgfgmhnmnaaaPc, YtlclgfgmhnmnaaaPus, YtlclgfgmhnmnaaaPum, YtlclgfgmhnmnaaaT41, YtlclgfgmhnmnaaaPj, YtlclgfgmhnmnaaaT43, YtlclgfgmhnmnaaaPg, YtlclgfgmhnmnaaaPk, YtlclgfgmhnmnaaaPun, YtlclgfgmhnmnaaaPuo, YtlclgfgmhnmnaaaT44, YtlclgfgmhnmnaaaT45, YtlclgfgmhnmnaaaT46, YtlclgfgmhnmnaaaT54, YtlclgfgmhnmnaaaPl, YtlclgfgmhnmnaaaPdb, YtlclgfgmhnmnaaaPdc, YtlclgfgmhnmnaaaPdd, YtlclgfgmhnmnaaaPua, YtlclgfgmhnmnaaaPub, YtlclgfgmhnmnaaaPuq, YtlclgfgmhnmnaaaPut, YtlclgfgmhnmnaaaPuu, YtlclgfgmhnmnaaaPuv, YtlclgfgmhnmnaaaT49, YtlclgfgmhnmnaaaT50, YtlclgfgmhnmnaaaPh, YtlclgfgmhnmnaaaT51, YtlclgfgmhnmnaaaPi, YtlclgfgmhnmnaaaT52, YtlclgfgmhnmnaaaPda, YtlclgfgmhnmnaaaPuw, YtlclgfgmhnmnaaaPur, YtlclgfgmhnmnaaaT121.
-/
import Derived.Test.YtlclgfgmhnmnaaaJ4
import Derived.Sort.Grow
set_option linter.all false
set_option maxRecDepth 100000
set_option maxHeartbeats 4000000

namespace Go.Av

end Go.Av
namespace Go.Proofs.Ytlclgfgmhnmnaaa
open Go.Av
theorem splice_one {cs : List AVal} {j : Nat} (x : AVal) (h : j < cs.length) : splice cs j [x] = cs.set j x := by
  apply List.ext_getElem?
  intro i
  rw [splice_get (by simp; omega), List.getElem?_set]
  simp only [List.length_cons, List.length_nil, Nat.zero_add]
  by_cases e : j = i
  · subst e
    simp [h]
  rw [if_neg (by omega), if_neg e]
theorem to_few {f : Func} {t : Term} (hend : EndW f t) : t.to.length ≤ 257 := by
  rcases (show (t.kind = 0 ∨ t.kind = 4) ∨ t.kind = 1 ∨ t.kind = 2 ∨ t.kind = 3 by have := hend.kind; omega) with q | q | q | q
  · rw [hend.to q]; simp
  · rw [hend.jump q]; omega
  · rw [hend.cond q]; omega
  rw [hend.switch q]; have := hend.cases; omega
theorem nils_flat (n : Nat) : (List.replicate n [AVal.lst 1 [] .ex]).flatten = List.replicate n (.lst 1 [] .ex) := by
  induction n with
  | zero => rfl
  | succ n ih => rw [List.replicate_succ, List.flatten_cons, ih, List.replicate_succ]; rfl
def nextF (x v : Int) : Int := max x (v + 1)
def blkVals (b : Block) : List Int := b.params ++ b.ins.map Ins.to
def valsF (f : Func) : List Int := f.blocks.flatMap blkVals
def freshM (f : Func) : Int := (valsF f).foldl nextF 0
theorem fresh1_spec {O : List AObj} (hup : ∀ o ∈ O, o.upto O.length) {A : Nat} {x : Int} (hA : O[A]? = some (.cells [aI x])) (v : Int) (hv : 0 ≤ v ∧ v ≤ 2 ^ 60) :
  ECall Try.prog 100 O [aI v, .mp A 0] (fun r O' => r = .tup [] ∧ O' = O.set A (.cells [aI (nextF x v)])) := by
 have hAl := lt_of_getElem? hA
 have htk : (O.set A (.cells [aI (nextF x v)])).take O.length = O.set A (.cells [aI (nextF x v)]) := take_set_len
 have hu2 : ∀ o ∈ O.set A (.cells [aI (nextF x v)]), o.upto O.length := uptoO_set hup ⟨trivial, trivial⟩
 unfold nextF at *
 refine zf true O.length Try.func100 Try.ntmps100 ?_
 dsimp only [Tmp, TypeId, slotsOf]
 refine zg0 ?_
 simp -dsimp only [simprocAttr, ↓vpre, zp, hA]
 repeat (refine ⟨by omega, ?_⟩)
 refine at_intro ?_
 simp -dsimp only [simprocAttr, ↓vpre, zp, zr, Try.results100, htk, List.length_set]
 exact ⟨hu2, trivial⟩
def ValsW (f : Func) : Prop := ∀ v ∈ valsF f, 0 ≤ v ∧ v ≤ 4095
theorem nextF_le {x v : Int} (hx : x ≤ 4096) (hv : v ≤ 4095) : nextF x v ≤ 4096 := by
 unfold nextF
 omega
theorem foldNext_le : ∀ (l : List Int) (x : Int), x ≤ 4096 → (∀ v ∈ l, v ≤ 4095) → l.foldl nextF x ≤ 4096
 | [], _, hx, _ => hx
 | v :: r, x, hx, h => foldNext_le r _ (nextF_le hx (h v (by simp))) (fun w hw => h w (by simp [hw]))
theorem foldNext_ge : ∀ (l : List Int) (x : Int), x ≤ l.foldl nextF x ∧ ∀ v ∈ l, v < l.foldl nextF x
 | [], _ => ⟨Int.le_refl _, by simp⟩
 | v :: r, x => by
  have ih := foldNext_ge r (nextF x v)
  have : x ≤ nextF x v ∧ v < nextF x v := by unfold nextF; omega
  simp only [List.foldl_cons]
  refine ⟨by omega, fun w hw => ?_⟩
  rcases List.mem_cons.1 hw with q | q
  ·subst q
   omega
  exact ih.2 w q
theorem values_spec {O : List AObj} (hup : ∀ o ∈ O, o.upto O.length) {A : Nat} (f : Func) (hf : ValsW f) (hbl : f.blocks.length ≤ 2 ^ 47) (hbp : ∀ b ∈ f.blocks, b.params.length ≤ 2 ^ 47 ∧ b.ins.length ≤ 2 ^ 47) (hA : O[A]? = some (.cells [aI 0])) :
  ECall Try.prog 99 O [f.enc, .fn (.func 100) [] [.mp A 0]] (fun r O' => r = .tup [] ∧ O' = O.set A (.cells [aI (freshM f)])) := by
 have hAl := lt_of_getElem? hA
 obtain ⟨R, hR⟩ : ∃ R, R = freshM f := ⟨_, rfl⟩
 rw [← hR]
 unfold freshM valsF at hR
 have hgt : ∀ x, (O.set A x)[A]? = some x := fun x => List.getElem?_set_self hAl
 have hup2 : ∀ x : Int, ∀ o ∈ O.set A (.cells [aI x]), o.upto (O.set A (.cells [aI x])).length := fun x => by
  rw [List.length_set]
  exact uptoO_set hup ⟨trivial, trivial⟩
 have hlen : ∀ x, (O.set A x).length = O.length := fun x => List.length_set
 have hsame : O.set A (.cells [aI 0]) = O := set_same hA
 have htk : ∀ x : Int, (O.set A (.cells [aI x])).take O.length = O.set A (.cells [aI x]) := fun x => take_set_len
 have hst : ∀ x y, (O.set A x).set A y = O.set A y := fun x y => List.set_set ..
 refine zf true O.length Try.func99 Try.ntmps99 ?_
 dsimp only [Tmp, TypeId, slotsOf]
 refine zh1 (za0 ?_)
 refine awp_local 2 ([aI f.name, eBlocks f.blocks]) [(1, .fn (.func 100) [] [.mp A 0]), (2, .ip none [aI f.name, eBlocks f.blocks])] rfl (by rfl) (by omega) (by simp [putS, dropS, Go.Av.look]) ?_ ?_ ?_
 ·exact hup
 ·simp [AVal.upto, uptoL, aI_upto, Block.map_upto, hAl]
 refine zh1 (za0 ?_)
 refine awp_block (awp_loop (ι := {x : Nat × Int // x.1 ≤ f.blocks.length ∧ R = ((f.blocks.drop x.1).flatMap blkVals).foldl nextF x.2 ∧ x.2 ≤ 4096}) (fun x => ⟨41, [(1, .fn (.func 100) [] [.mp A 0]), (11, eBlocks f.blocks), (12, aI f.blocks.length), (13, aI x.1.1)], O.set A (.cells [aI x.1.2])⟩) (fun x => f.blocks.length - x.1.1) ⟨(0, 0), by simp, hR, by simp⟩ ?_ ?_)
 ·refine zq rfl ?_ ?_
  simp -dsimp only [simprocAttr, ↓vpre, zp, zc]
  exact hsame.symm
 rintro ⟨⟨k, x⟩, hk, hke, hx⟩
 simp only at hk hke hx
 refine zh1 (za0 ?_)
 apply zk1 rfl <;> intro h
 ·refine zb0 ?_
  have hlt : k < f.blocks.length := by simpa using h
  obtain ⟨b, hb⟩ : ∃ b, f.blocks[k]? = some b := ⟨f.blocks[k], by simp [hlt]⟩
  have hbm := List.mem_of_getElem? hb
  have hbv : ∀ v ∈ blkVals b, 0 ≤ v ∧ v ≤ 4095 := fun v hv => hf v (List.mem_flatMap.2 ⟨b, hbm, hv⟩)
  rw [drop_at hb] at hke
  rw [List.flatMap_cons, List.foldl_append, blkVals, List.foldl_append] at hke
  have hbp := hbp b hbm
  have hlx := hlen (.cells [aI x])
  refine awp_seq (awp_block ?_)
  refine zg1 ?_
  simp -dsimp only [simprocAttr, ↓vpre, zp, hb]
  refine za0 ?_
  refine awp_local 5 ([eIs b.params, eInss b.ins, aI b.term.kind, aI b.term.arg, aI b.term.n, eIs b.term.cases, eEdges b.term.to]) [(1, .fn (.func 100) [] [.mp A 0]), (5, .ip none [eIs b.params, eInss b.ins, aI b.term.kind, aI b.term.arg, aI b.term.n, eIs b.term.cases, eEdges b.term.to]), (11, eBlocks f.blocks), (12, aI f.blocks.length), (13, aI k)] rfl (by rfl) (by omega) (by simp [putS, dropS, Go.Av.look]) ?_ ?_ ?_
  ·exact hup2 x
  ·simp [AVal.upto, uptoL, aI_upto, Block.map_upto, Edge.map_upto, Ins.map_upto, hAl]
  refine zh2 (za0 ?_)
  refine awp_block (awp_loop (ι := {y : Nat × Int // y.1 ≤ b.params.length ∧ R = ((f.blocks.drop (k + 1)).flatMap blkVals).foldl nextF ((b.ins.map Ins.to).foldl nextF ((b.params.drop y.1).foldl nextF y.2)) ∧ y.2 ≤ 4096}) (fun y => ⟨41, [(1, .fn (.func 100) [] [.mp A 0]), (5, .ip none [eIs b.params, eInss b.ins, aI b.term.kind, aI b.term.arg, aI b.term.n, eIs b.term.cases, eEdges b.term.to]), (11, eBlocks f.blocks), (12, aI f.blocks.length), (13, aI k), (18, eIs b.params), (19, aI b.params.length), (20, aI y.1.1)], O.set A (.cells [aI y.1.2])⟩) (fun y => b.params.length - y.1.1) ⟨(0, x), by simp, hke, hx⟩ ?_ ?_)
  ·refine zq rfl ?_ ?_
   simp -dsimp only [simprocAttr, ↓vpre, zp, zc]
   rfl
  rintro ⟨⟨j, y⟩, hj, hje, hy⟩
  simp only at hj hje hy
  refine zh1 (za0 ?_)
  apply zk1 rfl <;> intro h
  ·refine zb0 ?_
   have hltj : j < b.params.length := by simpa using h
   obtain ⟨v, hv⟩ : ∃ v, b.params[j]? = some v := ⟨b.params[j], by simp [hltj]⟩
   rw [drop_at hv, List.foldl_cons] at hje
   have hvr := hbv v (by simp [blkVals, List.mem_of_getElem? hv])
   have hfr := fresh1_spec (hup2 y) (hgt _) v ⟨hvr.1, by omega⟩
   rw [hst] at hfr
   refine awp_seq (awp_block ?_)
   refine zg1 ?_
   simp -dsimp only [simprocAttr, ↓vpre, zp, hv]
   refine za0 ?_
   refine zh0 ?_
   refine .inr (.inl ⟨_, _, hfr, .inl (later_intro (zj ?_))⟩)
   refine za0 ?_
   refine zh0 ?_
   repeat (refine ⟨by omega, ?_⟩)
   refine zl0 ?_
   refine ⟨⟨(j + 1, nextF y v), hltj, hje, nextF_le hy hvr.2⟩, by simp; omega, ?_⟩
   refine zq rfl ?_ ?_
   simp -dsimp only [simprocAttr, ↓vpre, zp, zc]
   ·exact Sub.int (by simp)
   rfl
  refine awp_exit ?_
  simp -dsimp only [vend, ne_eq, Nat.reduceEqDiff, reduceCtorEq]
  have hjj : j = b.params.length := by simp at h; omega
  subst hjj
  rw [List.drop_length, List.foldl_nil] at hje
  refine zh1 (za0 ?_)
  refine awp_block (awp_loop (ι := {z : Nat × Int // z.1 ≤ b.ins.length ∧ R = ((f.blocks.drop (k + 1)).flatMap blkVals).foldl nextF (((b.ins.drop z.1).map Ins.to).foldl nextF z.2) ∧ z.2 ≤ 4096}) (fun z => ⟨41, [(1, .fn (.func 100) [] [.mp A 0]), (11, eBlocks f.blocks), (12, aI f.blocks.length), (13, aI k), (29, eInss b.ins), (30, aI b.ins.length), (31, aI z.1.1)], O.set A (.cells [aI z.1.2])⟩) (fun z => b.ins.length - z.1.1) ⟨(0, y), by simp, hje, hy⟩ ?_ ?_)
  ·refine zq rfl ?_ ?_
   simp -dsimp only [simprocAttr, ↓vpre, zp, zc]
   rfl
  rintro ⟨⟨q, z⟩, hq, hqe, hz⟩
  simp only at hq hqe hz
  refine zh1 (za0 ?_)
  apply zk1 rfl <;> intro h
  ·refine zb0 ?_
   have hltq : q < b.ins.length := by simpa using h
   obtain ⟨i, hi⟩ : ∃ i, b.ins[q]? = some i := ⟨b.ins[q], by simp [hltq]⟩
   rw [drop_at hi, List.map_cons, List.foldl_cons] at hqe
   have hvr := hbv i.to (by simp only [blkVals, List.mem_append, List.mem_map]; exact .inr ⟨i, List.mem_of_getElem? hi, rfl⟩)
   have hfr := fresh1_spec (hup2 z) (hgt _) i.to ⟨hvr.1, by omega⟩
   rw [hst] at hfr
   have hlx := hlen (.cells [aI z])
   refine awp_seq (awp_block ?_)
   refine zg1 ?_
   simp -dsimp only [simprocAttr, ↓vpre, zp, hi]
   refine za0 ?_
   refine awp_local 9 ([aI i.to, aI i.op, aI i.n, eIs i.args]) [(1, .fn (.func 100) [] [.mp A 0]), (9, .ip none [aI i.to, aI i.op, aI i.n, eIs i.args]), (11, eBlocks f.blocks), (12, aI f.blocks.length), (13, aI k), (29, eInss b.ins), (30, aI b.ins.length), (31, aI q)] rfl (by rfl) (by omega) (by simp [putS, dropS, Go.Av.look]) ?_ ?_ ?_
   ·exact hup2 z
   ·simp [AVal.upto, uptoL, aI_upto, Block.map_upto, Edge.map_upto, Ins.map_upto, hAl]
   refine zh0 ?_
   refine .inr (.inl ⟨_, _, hfr, .inl (later_intro (zj ?_))⟩)
   refine za0 ?_
   refine zh0 ?_
   repeat (refine ⟨by omega, ?_⟩)
   refine zl0 ?_
   refine ⟨⟨(q + 1, nextF z i.to), hltq, hqe, nextF_le hz hvr.2⟩, by simp; omega, ?_⟩
   refine zq rfl ?_ ?_
   simp -dsimp only [simprocAttr, ↓vpre, zp, zc]
   ·exact Sub.int (by simp)
   rfl
  refine awp_exit ?_
  simp -dsimp only [vend, ne_eq, Nat.reduceEqDiff, reduceCtorEq]
  have hqq : q = b.ins.length := by simp at h; omega
  subst hqq
  rw [List.drop_length, List.map_nil, List.foldl_nil] at hqe
  refine zh0 ?_
  repeat (refine ⟨by omega, ?_⟩)
  refine zl0 ?_
  refine ⟨⟨(k + 1, z), hlt, hqe, hz⟩, by simp; omega, ?_⟩
  refine zq rfl ?_ ?_
  simp -dsimp only [simprocAttr, ↓vpre, zp, zc]
  ·exact Sub.int (by simp)
  rfl
 refine awp_exit ?_
 simp -dsimp only [vend, ne_eq, Nat.reduceEqDiff, reduceCtorEq]
 have hkk : k = f.blocks.length := by simp at h; omega
 subst hkk
 rw [List.drop_length, List.flatMap_nil, List.foldl_nil] at hke
 subst hke
 skip
 simp -dsimp only [simprocAttr, ↓vpre, zp, zr, Try.results99, htk, List.length_set]
 have := hup2 R
 rw [hlen] at this
 exact ⟨this, trivial⟩
theorem fresh_spec (f : Func) (hf : ValsW f) (hbl : f.blocks.length ≤ 2 ^ 47) (hbp : ∀ b ∈ f.blocks, b.params.length ≤ 2 ^ 47 ∧ b.ins.length ≤ 2 ^ 47) : PCall Try.prog 70 [f.enc] (aI (freshM f)) := by
 have hvs := values_spec (O := [.gone, .cells [aI 0]]) (A := 1) (by simp [AObj.upto, uptoL, AVal.upto]) f hf hbl hbp rfl
 refine zf true 0 Try.func70 Try.ntmps70 ?_
 dsimp only [Tmp, TypeId, slotsOf]
 refine zh1 (za0 ?_)
 refine awp_freeze1 1 0 (.ip none [aI f.name, eBlocks f.blocks]) rfl (by simp [AObj.isSpare]) trivial rfl ?_ ?_
 rotate_left
 simp -dsimp only [simprocAttr, ↓vpre, zp]
 ·refine zh1 (za0 ?_)
  refine zh1 ?_
  refine .inr (.inl ⟨_, _, hvs, .inl (later_intro (zj ?_))⟩)
  refine za0 ?_
  refine zh1 (za0 ?_)
  refine awp_ret ?_
  simp -dsimp only [simprocAttr, ↓vpre, zp, zr, Try.results70]
 exact FSub.mp rfl rfl
def parDefs (k : Int) (l : List Int) : Defs := l.map fun p => (p, (k, 0))
def insDefs (k : Int) : Int → List Ins → Defs
  | _, [] => []
  | n, i :: r => (i.to, (k, n + 1)) :: insDefs k (n + 1) r
def blkDefs (k : Int) (b : Block) : Defs := parDefs k b.params ++ insDefs k 0 b.ins
def allDefs : Int → List Block → Defs
  | _, [] => []
  | k, b :: r => blkDefs k b ++ allDefs (k + 1) r
theorem defineM_eq {ds : Defs} {v : Int} {p : Int × Int} (h : (defineM ds v p).1 = 0) : (defineM ds v p).2 = ds ++ [(v, p)] := by
  unfold defineM at h ⊢
  split at h
  · simp at h
  rename_i h1
  rw [if_neg h1]
  split at h
  · simp at h
  rename_i h2
  rw [if_neg h2]
theorem paramsM_eq (k : Int) : ∀ (l : List Int) (ds : Defs), (paramsM k ds l).1 = 0 → (paramsM k ds l).2 = ds ++ parDefs k l
  | [], ds, _ => by simp [paramsM, parDefs]
  | p :: r, ds, h => by
    simp only [paramsM] at h ⊢
    split at h
    · rename_i hne
      exact absurd h hne
    rename_i he
    rw [if_neg he, paramsM_eq k r _ h, defineM_eq (by simpa using he)]
    simp [parDefs]
theorem insM_eq (k : Int) : ∀ (l : List Ins) (n : Int) (ds : Defs), (insM k n ds l).1 = 0 → (insM k n ds l).2 = ds ++ insDefs k n l
  | [], n, ds, _ => by simp [insM, insDefs]
  | i :: r, n, ds, h => by
    simp only [insM] at h ⊢
    split at h
    · rename_i hne
      exact absurd h hne
    rename_i he
    split at h
    · rename_i hf
      exact absurd h hf
    rename_i hf
    rw [if_neg he, if_neg hf, insM_eq k r _ _ h, defineM_eq (by simpa using he)]
    simp [insDefs]
theorem blockM_eq {f : Func} {ds : Defs} {k : Int} (h : (blockM f ds k).1 = 0) : (blockM f ds k).2 = ds ++ blkDefs k (blkOf f k) := by
  unfold blockM at h ⊢
  split at h
  · rename_i hne
    exact absurd h hne
  rename_i hp
  split at h
  · rename_i hne
    exact absurd h hne
  rename_i hi
  rw [if_neg hp, if_neg hi]
  simp only
  rw [insM_eq k _ _ _ (by simpa using hi), paramsM_eq k _ _ (by simpa using hp), blkDefs, List.append_assoc]
theorem blocksM_eq {f : Func} : ∀ (n k : Nat) (ds : Defs), k + n = f.blocks.length → (blocksM f n k ds).1 = 0 → (blocksM f n k ds).2 = ds ++ allDefs k (f.blocks.drop k)
  | 0, k, ds, hk, _ => by
    rw [List.drop_of_length_le (by omega)]
    simp [blocksM, allDefs]
  | n + 1, k, ds, hk, h => by
    simp only [blocksM] at h ⊢
    split at h
    · rename_i hne
      exact absurd h hne
    rename_i he
    rw [if_neg he]
    have hb : f.blocks[k]? = some f.blocks[k] := List.getElem?_eq_getElem (by omega)
    have ih := blocksM_eq n (k + 1) (blockM f ds k).2 (by omega) h
    have e : ((k + 1 : Nat) : Int) = (k : Int) + 1 := by omega
    rw [e] at ih
    rw [ih, blockM_eq (by simpa using he), drop_at hb, allDefs, List.append_assoc]
    congr 3
    simp [blkOf, hb]
def dsF (f : Func) : Defs := allDefs 0 f.blocks
theorem FnW.ds {f : Func} (hfit : f.fit) (h : checkFuncM f = 0) : (blocksM f f.blocks.length 0 []).2 = dsF f ∧ DefsW f.blocks.length (dsF f) := by
  have he : (blocksM f f.blocks.length 0 []).1 = 0 := by
    unfold checkFuncM at h
    split at h
    · simp at h
    split at h
    · simp at h
    split at h
    · simp at h
    split at h
    · rename_i h4
      exact absurd h h4
    rename_i h4
    simpa using h4
  have e := blocksM_eq f.blocks.length 0 [] (by omega) he
  rw [List.drop_zero, List.nil_append] at e
  have hw := (blocksM_ok f.blocks.length 0 [] (.nil _) (by omega) (by simp) he).1
  have e' : (blocksM f f.blocks.length 0 []).2 = dsF f := e
  rw [e'] at hw
  exact ⟨e', hw⟩
theorem lookD_mem {ds : Defs} (hn : (ds.map (·.1)).Nodup) {v : Int} {p : Int × Int} : lookD ds v = some p ↔ (v, p) ∈ ds := by
  induction ds with
  | nil => simp [lookD]
  | cons e r ih =>
    obtain ⟨a, q⟩ := e
    simp only [List.map_cons, List.nodup_cons, List.mem_map, not_exists, not_and] at hn
    have ih := ih hn.2
    simp only [lookD, List.mem_cons, Prod.mk.injEq]
    by_cases h : a = v
    · subst h
      rw [if_pos rfl]
      constructor
      · intro h
        simp only [Option.some.injEq] at h
        exact .inl ⟨rfl, h.symm⟩
      rintro (⟨_, h⟩ | h)
      · rw [h]
      exact absurd rfl (hn.1 _ h)
    rw [if_neg h, ih]
    constructor
    · exact .inr
    rintro (⟨h1, _⟩ | h1)
    · exact absurd h1.symm h
    exact h1
theorem mem_insDefs {k : Int} {v : Int} {p : Int × Int} : ∀ (l : List Ins) (n : Int), (v, p) ∈ insDefs k n l ↔ ∃ (j : Nat) (i : Ins), l[j]? = some i ∧ i.to = v ∧ p = (k, n + j + 1)
  | [], n => by simp [insDefs]
  | i :: r, n => by
    simp only [insDefs, List.mem_cons, Prod.mk.injEq]
    rw [mem_insDefs r (n + 1)]
    constructor
    · rintro (⟨h1, h2⟩ | ⟨j, x, h1, h2, h3⟩)
      · exact ⟨0, i, rfl, h1.symm, by simpa using h2⟩
      exact ⟨j + 1, x, h1, h2, by rw [h3]; congr 1; omega⟩
    rintro ⟨j, x, h1, h2, h3⟩
    cases j with
    | zero =>
      simp only [List.getElem?_cons_zero, Option.some.injEq] at h1
      subst h1
      exact .inl ⟨h2.symm, by simpa using h3⟩
    | succ j => exact .inr ⟨j, x, h1, h2, by rw [h3]; congr 1; omega⟩
theorem mem_allDefs {v : Int} {p : Int × Int} : ∀ (l : List Block) (k : Int), (v, p) ∈ allDefs k l ↔ ∃ (j : Nat) (b : Block), l[j]? = some b ∧ (v, p) ∈ blkDefs (k + j) b
  | [], k => by simp [allDefs]
  | b :: r, k => by
    rw [allDefs, List.mem_append, mem_allDefs r (k + 1)]
    constructor
    · rintro (h | ⟨j, x, h1, h2⟩)
      · exact ⟨0, b, rfl, by simpa using h⟩
      exact ⟨j + 1, x, h1, by rw [show k + ((j + 1 : Nat) : Int) = k + 1 + j by omega]; exact h2⟩
    rintro ⟨j, x, h1, h2⟩
    cases j with
    | zero =>
      simp only [List.getElem?_cons_zero, Option.some.injEq] at h1
      subst h1
      exact .inl (by simpa using h2)
    | succ j => exact .inr ⟨j, x, h1, by rw [show k + ((j + 1 : Nat) : Int) = k + 1 + j by omega] at h2; exact h2⟩
def DefAt (f : Func) (v : Int) (p : Int × Int) : Prop := ∃ (k : Nat) (b : Block), f.blocks[k]? = some b ∧ p.1 = k ∧ ((p.2 = 0 ∧ v ∈ b.params) ∨ ∃ (j : Nat) (i : Ins), b.ins[j]? = some i ∧ i.to = v ∧ p.2 = j + 1)
theorem mem_dsF {f : Func} {v : Int} {p : Int × Int} : (v, p) ∈ dsF f ↔ DefAt f v p := by
  obtain ⟨p1, p2⟩ := p
  rw [dsF, mem_allDefs]
  constructor
  · rintro ⟨k, b, h1, h2⟩
    rw [blkDefs, List.mem_append] at h2
    rcases h2 with h2 | h2
    · simp only [parDefs, List.mem_map, Prod.mk.injEq] at h2
      obtain ⟨x, h3, h4, h5, h6⟩ := h2
      subst h4
      exact ⟨k, b, h1, by simp only; omega, .inl ⟨h6.symm, h3⟩⟩
    obtain ⟨j, i, h3, h4, h5⟩ := (mem_insDefs _ _).1 h2
    simp only [Prod.mk.injEq] at h5
    exact ⟨k, b, h1, by simp only; omega, .inr ⟨j, i, h3, h4, by simp only; omega⟩⟩
  rintro ⟨k, b, h1, h2, h3⟩
  simp only at h2 h3
  subst h2
  refine ⟨k, b, h1, ?_⟩
  rw [blkDefs, List.mem_append]
  rcases h3 with ⟨h3, h4⟩ | ⟨j, i, h3, h4, h5⟩
  · subst h3
    exact .inl (by simpa [parDefs] using h4)
  exact .inr ((mem_insDefs _ _).2 ⟨j, i, h3, h4, by subst h5; simp⟩)
theorem insDefs_fst (k : Int) : ∀ (l : List Ins) (n : Int), (insDefs k n l).map (·.1) = l.map Ins.to
  | [], _ => rfl
  | i :: r, n => by rw [insDefs, List.map_cons, insDefs_fst k r, List.map_cons]
theorem allDefs_fst : ∀ (l : List Block) (k : Int), (allDefs k l).map (·.1) = l.flatMap blkVals
  | [], _ => rfl
  | b :: r, k => by
    rw [allDefs, List.map_append, allDefs_fst r, List.flatMap_cons, blkDefs, List.map_append, insDefs_fst, blkVals, parDefs, List.map_map]
    congr 2
    exact List.map_id' _
theorem dsF_fst (f : Func) : (dsF f).map (·.1) = valsF f := allDefs_fst _ _
theorem domE_again {k : Nat} {S : Ds} {e : Edge} (h : (domE k S e).again = false) : domE k S e = S ∧ ((S.at_ e.block.toNat).meet (S.at_ k)).add e.block.toNat = S.at_ e.block.toNat ∧ S.seen.has e.block.toNat = true := by
  unfold domE at h ⊢
  simp only at h ⊢
  split at h
  · cases h
  rename_i hc
  rw [if_neg hc]
  simp only [ne_eq, not_or, Decidable.not_not, Bool.not_eq_false] at hc
  exact ⟨rfl, hc⟩
theorem domF_again {k : Nat} : ∀ (l : List Edge) {S : Ds}, (l.foldl (domE k) S).again = false → l.foldl (domE k) S = S ∧ ∀ e ∈ l, ((S.at_ e.block.toNat).meet (S.at_ k)).add e.block.toNat = S.at_ e.block.toNat ∧ S.seen.has e.block.toNat = true
  | [], S, _ => ⟨rfl, by simp⟩
  | e :: r, S, h => by
    rw [List.foldl_cons] at h
    have ih := domF_again r h
    rw [ih.1] at h
    have h1 := domE_again h
    rw [List.foldl_cons, ih.1, h1.1]
    rw [h1.1] at ih
    refine ⟨rfl, fun x hx => ?_⟩
    rcases List.mem_cons.1 hx with q | q
    · subst q
      exact h1.2
    exact ih.2 x q
theorem domR_again : ∀ (l : List Block) (k : Nat) {S : Ds}, (domR k S l).again = false → domR k S l = S ∧ ∀ (j : Nat) b, l[j]? = some b → S.seen.has (k + j) = true → ∀ e ∈ b.term.to, ((S.at_ e.block.toNat).meet (S.at_ (k + j))).add e.block.toNat = S.at_ e.block.toNat ∧ S.seen.has e.block.toNat = true
  | [], k, S, _ => ⟨rfl, fun j b h => by simp at h⟩
  | b :: r, k, S, h => by
    rw [domR] at h
    have ih := domR_again r (k + 1) h
    rw [ih.1] at h
    have h1 : domB k S b = S ∧ (S.seen.has k = true → ∀ e ∈ b.term.to, ((S.at_ e.block.toNat).meet (S.at_ k)).add e.block.toNat = S.at_ e.block.toNat ∧ S.seen.has e.block.toNat = true) := by
      unfold domB at h ⊢
      split
      · rename_i hs
        exact ⟨rfl, fun q => by rw [hs] at q; cases q⟩
      rename_i hs
      rw [if_neg hs] at h
      have := domF_again _ h
      exact ⟨this.1, fun _ => this.2⟩
    rw [domR, ih.1, h1.1]
    rw [h1.1] at ih
    refine ⟨rfl, fun j x hj hs => ?_⟩
    cases j with
    | zero =>
      simp only [List.getElem?_cons_zero, Option.some.injEq] at hj
      subst hj
      exact h1.2 hs
    | succ j =>
      rw [show k + (j + 1) = k + 1 + j by omega] at hs ⊢
      exact ih.2 j x hj hs
theorem domI_ends {f : Func} (he : ∀ b ∈ f.blocks, ∀ e ∈ b.term.to, 0 ≤ e.block ∧ e.block.toNat < f.blocks.length) : ∀ (n : Nat) {S : Ds}, DsOK f.blocks.length S → (S.again = true → S.weight < n) → (domI f n S).again = false
  | 0, S, _, h => by
    cases hs : S.again with
    | false => exact hs
    | true => exact absurd (h hs) (by omega)
  | n + 1, S, hS, h => by
    simp only [domI]
    split
    · rename_i ha
      have hw := h ha
      have hr := domR_ok f.blocks (k := 0) (S := ⟨S.over, S.seen, false⟩) ⟨hS.few, hS.len, hS.fit, hS.seen, hS.self⟩ he
      have hwS : (⟨S.over, S.seen, false⟩ : Ds).weight = S.weight := rfl
      refine domI_ends he n hr.1 fun q => ?_
      rcases hr.2.2 q with q | q
      · cases q
      omega
    rename_i ha
    simpa using ha
structure Dz (S : Ds) : Prop where
  zero : S.at_ 0 = Bs.none.add 0
  seen : S.seen.has 0 = true
theorem domE_z {n k : Nat} {S : Ds} (h : Dz S) {e : Edge} (h1 : 1 ≤ e.block) (h2 : e.block.toNat < n) (h3 : n ≤ 128) : Dz (domE k S e) := by
  unfold domE
  simp only
  split
  · refine ⟨?_, ?_⟩
    · have := h.zero
      unfold Ds.at_ at this ⊢
      simp only
      rw [List.getElem?_set_ne (by omega)]
      exact this
    simp only
    rw [Bs.has_add _ _ _ (by omega) (by omega), h.seen]
    rfl
  exact h
theorem domF_z {n k : Nat} (h3 : n ≤ 128) : ∀ (l : List Edge) {S : Ds}, Dz S → (∀ e ∈ l, 1 ≤ e.block ∧ e.block.toNat < n) → Dz (l.foldl (domE k) S)
  | [], _, h, _ => h
  | e :: r, S, h, he => domF_z h3 r (domE_z h (he e (by simp)).1 (he e (by simp)).2 h3) fun x hx => he x (by simp [hx])
theorem domR_z {n : Nat} (h3 : n ≤ 128) : ∀ (l : List Block) {k : Nat} {S : Ds}, Dz S → (∀ b ∈ l, ∀ e ∈ b.term.to, 1 ≤ e.block ∧ e.block.toNat < n) → Dz (domR k S l)
  | [], _, _, h, _ => h
  | b :: r, k, S, h, he => by
    refine domR_z h3 r (k := k + 1) ?_ fun x hx => he x (by simp [hx])
    unfold domB
    split
    · exact h
    exact domF_z h3 _ h (he b (by simp))
theorem domI_z {f : Func} (h3 : f.blocks.length ≤ 128) (he : ∀ b ∈ f.blocks, ∀ e ∈ b.term.to, 1 ≤ e.block ∧ e.block.toNat < f.blocks.length) : ∀ (n : Nat) {S : Ds}, Dz S → Dz (domI f n S)
  | 0, _, h => h
  | n + 1, S, h => by
    simp only [domI]
    split
    · exact domI_z h3 he n (domR_z h3 _ (S := ⟨S.over, S.seen, false⟩) ⟨h.zero, h.seen⟩ he)
    exact h
theorem domI_last {f : Func} : ∀ (n : Nat) {S : Ds}, S.again = true → (domI f n S).again = false → ∃ T : Ds, domI f n S = domR 0 T f.blocks
  | 0, S, h1, h2 => by
    rw [domI, h1] at h2
    cases h2
  | n + 1, S, h1, h2 => by
    simp only [domI, h1, if_true] at h2 ⊢
    cases hr : (domR 0 ⟨S.over, S.seen, false⟩ f.blocks).again with
    | false => exact ⟨_, domI_done hr n⟩
    | true => exact domI_last n hr h2
def overF (f : Func) (k : Nat) : Bs := (domM f).1[k]?.getD .none
def seenF (f : Func) (k : Nat) : Bool := (domM f).2.has k
structure DomW (f : Func) : Prop where
  seen : seenF f 0 = true
  zero : ∀ j, j < 128 → ((overF f 0).has j = true ↔ j = 0)
  self : ∀ k, k < f.blocks.length → (overF f k).has k = true
  step : ∀ (k : Nat) b, f.blocks[k]? = some b → seenF f k = true → ∀ e ∈ b.term.to, seenF f e.block.toNat = true ∧ ∀ j, j < 128 → ((overF f e.block.toNat).has j = true → j = e.block.toNat ∨ (overF f k).has j = true)
theorem domM_w {f : Func} (h0 : f.blocks ≠ []) (h1 : f.blocks.length ≤ 128) (he : ∀ b ∈ f.blocks, ∀ e ∈ b.term.to, 1 ≤ e.block ∧ e.block < f.blocks.length) : DomW f := by
  have he' : ∀ b ∈ f.blocks, ∀ e ∈ b.term.to, 0 ≤ e.block ∧ e.block.toNat < f.blocks.length := fun b hb e hx => by have := he b hb e hx; omega
  have he1 : ∀ b ∈ f.blocks, ∀ e ∈ b.term.to, 1 ≤ e.block ∧ e.block.toNat < f.blocks.length := fun b hb e hx => by have := he b hb e hx; omega
  have hl := List.length_pos_iff.2 h0
  have hS := domS_ok h0 h1
  have hw0 := weight_le hS
  have hz0 : Dz (domS f) := ⟨by unfold Ds.at_ domS; simp only; rw [List.getElem?_set_self (by simpa using hl)]; rfl, by show (Bs.none.add 0).has 0 = true; decide⟩
  have hend := domI_ends he' 20000 hS (fun _ => by omega)
  have hz := domI_z h1 he1 20000 hz0
  obtain ⟨T, hT⟩ := domI_last 20000 rfl hend
  have hok : DsOK f.blocks.length (domI f 20000 (domS f)) := by
    have key : ∀ (n : Nat) (S : Ds), DsOK f.blocks.length S → DsOK f.blocks.length (domI f n S) := fun n => by
      induction n with
      | zero => exact fun S h => h
      | succ n ih =>
        intro S h
        simp only [domI]
        split
        · exact ih _ (domR_ok f.blocks (k := 0) (S := ⟨S.over, S.seen, false⟩) ⟨h.few, h.len, h.fit, h.seen, h.self⟩ he').1
        exact h
    exact key _ _ hS
  have hTa := domR_again f.blocks 0 (S := T) (by rw [← hT]; exact hend)
  have hfix := hTa.2
  rw [show T = domI f 20000 (domS f) from hTa.1.symm.trans hT.symm] at hfix
  have hov : ∀ k, overF f k = (domI f 20000 (domS f)).at_ k := fun k => rfl
  have hse : ∀ k, seenF f k = (domI f 20000 (domS f)).seen.has k := fun k => rfl
  generalize domI f 20000 (domS f) = S at *
  refine ⟨by rw [hse, hz.seen], fun j hj => ?_, fun k hk => by rw [hov]; exact hok.self k hk, fun k b hb hs e hx => ?_⟩
  · rw [hov, hz.zero, Bs.has_add _ _ _ (by omega) hj]
    have : Bs.none.has j = false := by unfold Bs.has Bs.none; simp
    simp [this]
  have hb1 := he1 b (List.mem_of_getElem? hb) e hx
  obtain ⟨q1, q2⟩ := hfix k b hb (by rw [Nat.zero_add, ← hse]; exact hs) e hx
  rw [Nat.zero_add] at q1
  refine ⟨by rw [hse]; exact q2, fun j hj q => ?_⟩
  rw [hov, ← q1, Bs.has_add _ _ _ (by omega) hj, Bs.has_meet] at q
  rw [hov]
  simp only [Bool.or_eq_true, Bool.and_eq_true, decide_eq_true_eq] at q
  rcases q with q | q
  · exact .inr q.2
  exact .inl q
theorem lookD_some {ds : Defs} {v : Int} {p : Int × Int} (h : lookD ds v = some p) : (v, p) ∈ ds := by
  induction ds with
  | nil => cases h
  | cons e r ih =>
    obtain ⟨a, q⟩ := e
    simp only [lookD] at h
    split at h
    · rename_i e
      simp only [Option.some.injEq] at h
      rw [e, h]
      simp
    exact List.mem_cons.2 (.inr (ih h))
def Fine (f : Func) (k : Nat) (n : Int) (v : Int) : Prop := ∃ p, DefAt f v p ∧ (seenF f k = true → (p.1 = k ∧ p.2 ≤ n) ∨ (p.1 ≠ k ∧ (overF f k).has p.1.toNat = true))
theorem fine_of {f : Func} {k : Nat} {n v : Int} (h : fineM (dsF f) (domM f).1 (domM f).2 k n v = true) : Fine f k n v := by
  unfold fineM at h
  cases hl : lookD (dsF f) v with
  | none => rw [hl] at h; cases h
  | some p =>
    rw [hl] at h
    refine ⟨p, mem_dsF.1 (lookD_some hl), fun hs => ?_⟩
    have hs' : (domM f).2.has k = true := hs
    simp only [hs', Bool.not_true, Bool.or_false, Bool.or_eq_true, Bool.and_eq_true, decide_eq_true_eq, Bool.not_eq_true', decide_eq_false_iff_not] at h
    exact h
structure UsesW (f : Func) : Prop where
  ins : ∀ (k : Nat) b, f.blocks[k]? = some b → ∀ (n : Nat) i, b.ins[n]? = some i → ∀ a ∈ i.args, Fine f k n a
  arg : ∀ (k : Nat) b, f.blocks[k]? = some b → b.term.kind ≠ 1 → b.term.kind ≠ 4 → Fine f k b.ins.length b.term.arg
  args : ∀ (k : Nat) b, f.blocks[k]? = some b → ∀ e ∈ b.term.to, ∀ a ∈ e.args, Fine f k b.ins.length a
theorem insUses_all {ds : Defs} {over : List Bs} {seen : Bs} {k : Nat} : ∀ (l : List Ins) (n : Nat), insUses ds over seen k n l = true → ∀ (j : Nat) i, l[j]? = some i → ∀ a ∈ i.args, fineM ds over seen k ((n + j : Nat) : Int) a = true
  | [], _, _ => fun j i h => by simp at h
  | x :: r, n, h => fun j i hj a ha => by
    simp only [insUses, Bool.and_eq_true, List.all_eq_true] at h
    cases j with
    | zero =>
      simp only [List.getElem?_cons_zero, Option.some.injEq] at hj
      subst hj
      exact h.1 a ha
    | succ j =>
      rw [show n + (j + 1) = n + 1 + j by omega]
      exact insUses_all r (n + 1) h.2 j i hj a ha
theorem allUses_all {ds : Defs} {over : List Bs} {seen : Bs} : ∀ (l : List Block) (k : Nat), allUses ds over seen k l = true → ∀ (j : Nat) b, l[j]? = some b → blkUses ds over seen (k + j) b = true
  | [], _, _ => fun j i h => by simp at h
  | x :: r, k, h => fun j b hj => by
    simp only [allUses, Bool.and_eq_true] at h
    cases j with
    | zero =>
      simp only [List.getElem?_cons_zero, Option.some.injEq] at hj
      subst hj
      exact h.1
    | succ j =>
      rw [show k + (j + 1) = k + 1 + j by omega]
      exact allUses_all r (k + 1) h.2 j b hj
theorem uses_w {f : Func} (h : usesM f (dsF f) = 0) : UsesW f := by
  have ha : allUses (dsF f) (domM f).1 (domM f).2 0 f.blocks = true := by
    unfold usesM at h
    split at h
    · assumption
    simp at h
  have hb : ∀ (k : Nat) b, f.blocks[k]? = some b → blkUses (dsF f) (domM f).1 (domM f).2 k b = true := fun k b hk => by
    have := allUses_all f.blocks 0 ha k b hk
    rwa [Nat.zero_add] at this
  have hu : ∀ (k : Nat) b, f.blocks[k]? = some b → usedM b.term (fineM (dsF f) (domM f).1 (domM f).2 k b.ins.length) = true := fun k b hk => by
    have := hb k b hk
    simp only [blkUses, Bool.and_eq_true] at this
    exact this.2
  refine ⟨fun k b hk n i hn a ha => ?_, fun k b hk h1 h4 => ?_, fun k b hk e he a ha => ?_⟩
  · have := hb k b hk
    simp only [blkUses, Bool.and_eq_true] at this
    have := insUses_all b.ins 0 this.1 n i hn a ha
    rw [Nat.zero_add] at this
    exact fine_of this
  · have := hu k b hk
    simp only [usedM, Bool.and_eq_true, Bool.or_eq_true, decide_eq_true_eq, h1, h4, false_or] at this
    exact fine_of this.1
  have := hu k b hk
  simp only [usedM, Bool.and_eq_true, List.all_eq_true] at this
  exact fine_of (this.2 e he a ha)
structure FnV (f : Func) : Prop where
  fn : FnW f
  dom : DomW f
  uses : UsesW f
  vals : ValsW f
  nodup : (valsF f).Nodup
  edges : ∀ b ∈ f.blocks, ∀ e ∈ b.term.to, 1 ≤ e.block ∧ e.block < f.blocks.length
theorem checkFunc_v {f : Func} (hfit : f.fit) (h : checkFuncM f = 0) : FnV f := by
  have hw := checkFunc_ok hfit h
  obtain ⟨hd, hdw⟩ := FnW.ds hfit h
  have he : ∀ b ∈ f.blocks, ∀ e ∈ b.term.to, 1 ≤ e.block ∧ e.block < f.blocks.length := fun b hb e hx => by
    have := ((end_ok (hw.blk b hb).fin).edges e hx).1
    omega
  refine ⟨hw, domM_w hw.ne hw.few he, uses_w (by rw [← hd]; exact hw.uses), fun v hv => ?_, ?_, he⟩
  · rw [← dsF_fst] at hv
    obtain ⟨e, h1, rfl⟩ := List.mem_map.1 hv
    exact hdw.range e h1
  rw [← dsF_fst]
  exact hdw.nodup
theorem DefAt.val {f : Func} {v : Int} {p : Int × Int} (h : DefAt f v p) : v ∈ valsF f := by
  rw [← dsF_fst]
  exact List.mem_map.2 ⟨_, mem_dsF.2 h, rfl⟩
theorem FnV.below {f : Func} (hv : FnV f) {v : Int} (h : v ∈ valsF f) : 0 ≤ v ∧ v < freshM f ∧ freshM f ≤ 4096 :=
  ⟨(hv.vals v h).1, (foldNext_ge (valsF f) 0).2 v h, foldNext_le _ _ (by omega) fun w hw => (hv.vals w hw).2⟩
theorem freshM_pos (f : Func) : 0 ≤ freshM f := (foldNext_ge (valsF f) 0).1
theorem lookD_no {ds : Defs} {v : Int} (h : v ∉ ds.map (·.1)) : lookD ds v = none := by
  cases hl : lookD ds v with
  | none => rfl
  | some p => exact absurd (List.mem_map.2 ⟨_, lookD_some hl, rfl⟩) h
theorem defineM_zero {ds : Defs} {v : Int} {p : Int × Int} (hv : 0 ≤ v ∧ v ≤ 4095) (h : v ∉ ds.map (·.1)) : (defineM ds v p).1 = 0 := by
  unfold defineM
  rw [lookD_no h]
  simp [within, hv]
theorem paramsM_zero (k : Int) : ∀ (l : List Int) (ds : Defs), (∀ v ∈ l, 0 ≤ v ∧ v ≤ 4095) → (ds.map (·.1) ++ l).Nodup → (paramsM k ds l).1 = 0
  | [], _, _, _ => rfl
  | p :: r, ds, hv, hn => by
    have hp : p ∉ ds.map (·.1) := fun q => by
      rw [List.nodup_append] at hn
      exact hn.2.2 p q p List.mem_cons_self rfl
    have h0 := defineM_zero (p := (k, 0)) (hv p List.mem_cons_self) hp
    simp only [paramsM]
    rw [if_neg (by rw [h0]; simp), defineM_eq h0]
    refine paramsM_zero k r _ (fun v h => hv v (List.mem_cons_of_mem _ h)) ?_
    rw [List.map_append, List.append_assoc]
    exact hn
theorem insM_zero (k : Int) : ∀ (l : List Ins) (n : Int) (ds : Defs), (∀ i ∈ l, 0 ≤ i.to ∧ i.to ≤ 4095 ∧ formE i = 0) → (ds.map (·.1) ++ l.map Ins.to).Nodup → (insM k n ds l).1 = 0
  | [], _, _, _, _ => rfl
  | i :: r, n, ds, hv, hn => by
    have hp : i.to ∉ ds.map (·.1) := fun q => by
      rw [List.nodup_append] at hn
      exact hn.2.2 _ q _ List.mem_cons_self rfl
    have hi := hv i List.mem_cons_self
    have h0 := defineM_zero (p := (k, n + 1)) ⟨hi.1, hi.2.1⟩ hp
    simp only [insM]
    rw [if_neg (by rw [h0]; simp), if_neg (by rw [hi.2.2]; simp), defineM_eq h0]
    refine insM_zero k r _ _ (fun j h => hv j (List.mem_cons_of_mem _ h)) ?_
    rw [List.map_append, List.append_assoc]
    exact hn
theorem blockM_zero {f : Func} {ds : Defs} {k : Int} {b : Block} (hb : blkOf f k = b) (hp : ∀ v ∈ b.params, 0 ≤ v ∧ v ≤ 4095) (hi : ∀ i ∈ b.ins, 0 ≤ i.to ∧ i.to ≤ 4095 ∧ formE i = 0) (he : endE f b.term = 0) (hn : (ds.map (·.1) ++ blkVals b).Nodup) : (blockM f ds k).1 = 0 := by
  unfold blockM
  rw [hb]
  unfold blkVals at hn
  rw [← List.append_assoc] at hn
  have h1 := paramsM_zero k b.params ds hp (by
    rw [List.nodup_append] at hn
    exact hn.1)
  rw [if_neg (by rw [h1]; simp), paramsM_eq k b.params ds h1]
  have h2 := insM_zero k b.ins 0 (ds ++ parDefs k b.params) hi (by
    rw [List.map_append]
    have : (parDefs k b.params).map (·.1) = b.params := by
      unfold parDefs
      rw [List.map_map]
      exact List.map_id' _
    rw [this]
    exact hn)
  rw [if_neg (by rw [h2]; simp)]
  exact he
theorem blkDefs_fst (k : Int) (b : Block) : (blkDefs k b).map (·.1) = blkVals b := by
  rw [blkDefs, List.map_append, insDefs_fst, blkVals, parDefs, List.map_map]
  congr 1
  exact List.map_id' _
theorem blocksM_zero {f : Func} (hp : ∀ b ∈ f.blocks, (∀ v ∈ b.params, 0 ≤ v ∧ v ≤ 4095) ∧ (∀ i ∈ b.ins, 0 ≤ i.to ∧ i.to ≤ 4095 ∧ formE i = 0) ∧ endE f b.term = 0) :
    ∀ (n k : Nat) (ds : Defs), k + n = f.blocks.length → (ds.map (·.1) ++ (f.blocks.drop k).flatMap blkVals).Nodup → (blocksM f n k ds).1 = 0
  | 0, _, _, _, _ => rfl
  | n + 1, k, ds, hk, hn => by
    have hb : f.blocks[k]? = some f.blocks[k] := List.getElem?_eq_getElem (by omega)
    have hbo : blkOf f (k : Int) = f.blocks[k] := by simp [blkOf, hb]
    rw [drop_at hb, List.flatMap_cons, ← List.append_assoc] at hn
    obtain ⟨p1, p2, p3⟩ := hp _ (List.mem_of_getElem? hb)
    have h0 := blockM_zero (ds := ds) hbo p1 p2 p3 (by
      rw [List.nodup_append] at hn
      exact hn.1)
    simp only [blocksM]
    rw [if_neg (by rw [h0]; simp), blockM_eq h0, hbo]
    have e : (k : Int) + 1 = ((k + 1 : Nat) : Int) := by omega
    rw [e]
    refine blocksM_zero hp n (k + 1) _ (by omega) ?_
    rw [List.map_append, blkDefs_fst]
    exact hn
theorem insUses_intro {ds : Defs} {over : List Bs} {seen : Bs} {k : Nat} : ∀ (l : List Ins) (n : Nat), (∀ (j : Nat) i, l[j]? = some i → ∀ a ∈ i.args, fineM ds over seen k ((n + j : Nat) : Int) a = true) → insUses ds over seen k n l = true
  | [], _, _ => rfl
  | x :: r, n, h => by
    simp only [insUses, Bool.and_eq_true, List.all_eq_true]
    refine ⟨fun a ha => h 0 x rfl a ha, insUses_intro r (n + 1) fun j i hj a ha => ?_⟩
    rw [show n + 1 + j = n + (j + 1) by omega]
    exact h (j + 1) i (by simpa using hj) a ha
theorem allUses_intro {ds : Defs} {over : List Bs} {seen : Bs} : ∀ (l : List Block) (k : Nat), (∀ (j : Nat) b, l[j]? = some b → blkUses ds over seen (k + j) b = true) → allUses ds over seen k l = true
  | [], _, _ => rfl
  | x :: r, k, h => by
    simp only [allUses, Bool.and_eq_true]
    refine ⟨h 0 x rfl, allUses_intro r (k + 1) fun j b hj => ?_⟩
    rw [show k + 1 + j = k + (j + 1) by omega]
    exact h (j + 1) b (by simpa using hj)
theorem fine_intro {f : Func} (hn : (valsF f).Nodup) {k : Nat} {n v : Int} (h : Fine f k n v) : fineM (dsF f) (domM f).1 (domM f).2 k n v = true := by
  obtain ⟨p, h1, h2⟩ := h
  have hl : lookD (dsF f) v = some p := (lookD_mem (by rw [dsF_fst]; exact hn)).2 (mem_dsF.2 h1)
  unfold fineM
  rw [hl]
  simp only [Bool.or_eq_true, Bool.and_eq_true, decide_eq_true_eq, Bool.not_eq_true', decide_eq_false_iff_not]
  cases hs : seenF f k with
  | false => exact .inr (.inr hs)
  | true =>
    rcases h2 hs with q | q
    · exact .inl q
    exact .inr (.inl q)
theorem uses_intro {f : Func} (hn : (valsF f).Nodup) (h : UsesW f) : usesM f (dsF f) = 0 := by
  unfold usesM
  rw [if_pos]
  refine allUses_intro f.blocks 0 fun j b hj => ?_
  rw [Nat.zero_add]
  unfold blkUses usedM
  simp only [Bool.and_eq_true, Bool.or_eq_true, decide_eq_true_eq, List.all_eq_true]
  refine ⟨insUses_intro b.ins 0 fun n i hi a ha => ?_, ?_, fun e he a ha => fine_intro hn (h.args j b hj e he a ha)⟩
  · rw [Nat.zero_add]
    exact fine_intro hn (h.ins j b hj n i hi a ha)
  by_cases h1 : b.term.kind = 1
  · exact .inl (.inl h1)
  by_cases h4 : b.term.kind = 4
  · exact .inl (.inr h4)
  exact .inr (fine_intro hn (h.arg j b hj h1 h4))
def sumI (bs : List Block) : Nat := (bs.map fun b => b.ins.length).sum
theorem wsum_eq : ∀ (bs : List Block) (m : Nat), (∀ b ∈ bs, b.ins.length ≤ 1024) → m + bs.length * 1024 ≤ 1000000 → wsum m bs = ((m + sumI bs : Nat) : Int)
  | [], m, _, _ => by simp [wsum, sumI]
  | b :: r, m, h, hm => by
    have h1 := h b List.mem_cons_self
    rw [List.length_cons] at hm
    have hw : IntKind.i64.wrap ((m : Int) + (b.ins.length : Int)) = ((m + b.ins.length : Nat) : Int) := by
      rw [wrap_in .i64 _ (by show (-9223372036854775808 : Int) ≤ _; omega) (by show _ ≤ (9223372036854775807 : Int); omega)]
      omega
    simp only [wsum]
    rw [hw, wsum_eq r (m + b.ins.length) (fun x hx => h x (List.mem_cons_of_mem _ hx)) (by omega)]
    unfold sumI
    rw [List.map_cons, List.sum_cons, Nat.add_assoc]
theorem check_intro {f : Func} (hne : f.blocks ≠ []) (hfew : f.blocks.length ≤ 128) (hname : -1 ≤ f.name ∧ f.name ≤ 1048575) (hins : ∀ b ∈ f.blocks, b.ins.length ≤ 1024) (hsum : sumI f.blocks ≤ 1024) (hpar : (blkOf f 0).params.length ≤ 6)
    (hv : ∀ v ∈ valsF f, 0 ≤ v ∧ v ≤ 4095) (hn : (valsF f).Nodup) (hb : ∀ b ∈ f.blocks, (∀ i ∈ b.ins, formE i = 0) ∧ endE f b.term = 0) (hu : UsesW f) : checkFuncM f = 0 := by
  have hbv : ∀ b ∈ f.blocks, (∀ v ∈ b.params, 0 ≤ v ∧ v ≤ 4095) ∧ (∀ i ∈ b.ins, 0 ≤ i.to ∧ i.to ≤ 4095 ∧ formE i = 0) ∧ endE f b.term = 0 := fun b h => by
    have hin : ∀ v ∈ blkVals b, 0 ≤ v ∧ v ≤ 4095 := fun v q => hv v (List.mem_flatMap.2 ⟨b, h, q⟩)
    refine ⟨fun v q => hin v (List.mem_append_left _ q), fun i q => ?_, (hb b h).2⟩
    have := hin i.to (List.mem_append_right _ (List.mem_map.2 ⟨i, q, rfl⟩))
    exact ⟨this.1, this.2, (hb b h).1 i q⟩
  have h0 := blocksM_zero hbv f.blocks.length 0 [] (by omega) (by
    rw [List.drop_zero]
    exact hn)
  have h1 := blocksM_eq f.blocks.length 0 [] (by omega) h0
  rw [List.drop_zero, List.nil_append] at h1
  have hw := wsum_eq f.blocks 0 hins (by omega)
  rw [Nat.zero_add] at hw
  have hl := List.length_pos_iff.2 hne
  unfold checkFuncM
  have hww : wsum 0 f.blocks = ((sumI f.blocks : Nat) : Int) := hw
  rw [if_neg (by omega), if_neg (by rw [hww]; omega), if_neg (by simp [within, hname]), if_neg (by
    have h0' : (blocksM f f.blocks.length 0 []).1 = 0 := h0
    rw [h0']
    simp)]
  have h1' : (blocksM f f.blocks.length 0 []).2 = dsF f := h1
  rw [h1']
  exact uses_intro hn hu
theorem sum_few {f : Func} (hfit : f.fit) (h : checkFuncM f = 0) : sumI f.blocks ≤ 1024 := by
  have hw := checkFunc_ok hfit h
  have he := wsum_eq f.blocks 0 hw.ins (by have := hw.few; omega)
  unfold checkFuncM at h
  split at h
  · simp at h
  split at h
  · simp at h
  rename_i h2
  rw [Nat.zero_add] at he
  have he' : wsum 0 f.blocks = ((sumI f.blocks : Nat) : Int) := he
  rw [he'] at h2
  omega
theorem dmax_E {n k : Nat} {D : Nat → Nat → Prop} {R : Nat → Prop} {S : Ds} (hn : n ≤ 128) (hl : S.over.length = n) (h1 : ∀ i j, j < n → D i j → i < n ∧ (S.at_ j).has i = true) (h2 : ∀ j, j < 128 → S.seen.has j = true → R j) (hk : k < n) {e : Edge} (he : 0 ≤ e.block ∧ e.block.toNat < n) (hR : R k → R e.block.toNat)
    (hD : R k → ∀ i, D i e.block.toNat → i = e.block.toNat ∨ D i k) (hs : R k) : (∀ i j, j < n → D i j → i < n ∧ ((domE k S e).at_ j).has i = true) ∧ (∀ j, j < 128 → (domE k S e).seen.has j = true → R j) ∧ (domE k S e).over.length = n := by
  unfold domE
  simp only
  split
  · refine ⟨fun i j hj hij => ?_, fun j hj hsj => ?_, by simp only; rw [List.length_set, hl]⟩
    · refine ⟨(h1 i j hj hij).1, ?_⟩
      have hi := (h1 i j hj hij).1
      unfold Ds.at_
      simp only
      rw [List.getElem?_set]
      split
      · rename_i q
        rw [if_pos (by rw [hl]; exact he.2), Option.getD_some, Bs.has_add _ _ _ (by omega) (by omega), Bs.has_meet]
        simp only [Bool.or_eq_true, Bool.and_eq_true, decide_eq_true_eq]
        rw [← q] at hij
        rcases hD hs i hij with r | r
        · exact .inr r
        exact .inl ⟨(h1 i _ he.2 hij).2, (h1 i k hk r).2⟩
      exact (h1 i j hj hij).2
    simp only at hsj
    rw [Bs.has_add _ _ _ (by omega) hj] at hsj
    simp only [Bool.or_eq_true, decide_eq_true_eq] at hsj
    rcases hsj with q | q
    · exact h2 j hj q
    rw [q]
    exact hR hs
  exact ⟨h1, h2, hl⟩
structure DmX (n : Nat) (D : Nat → Nat → Prop) (R : Nat → Prop) (S : Ds) : Prop where
  len : S.over.length = n
  dom : ∀ i j, j < n → D i j → i < n ∧ (S.at_ j).has i = true
  seen : ∀ j, j < 128 → S.seen.has j = true → R j
structure DmC (f : Func) (D : Nat → Nat → Prop) (R : Nat → Prop) : Prop where
  few : f.blocks.length ≤ 128
  edges : ∀ b ∈ f.blocks, ∀ e ∈ b.term.to, 0 ≤ e.block ∧ e.block.toNat < f.blocks.length
  next : ∀ (k : Nat) b, f.blocks[k]? = some b → R k → ∀ e ∈ b.term.to, R e.block.toNat ∧ ∀ i, D i e.block.toNat → i = e.block.toNat ∨ D i k
theorem dmx_F {f : Func} {D : Nat → Nat → Prop} {R : Nat → Prop} (hc : DmC f D R) {k : Nat} {b : Block} (hb : f.blocks[k]? = some b) (hR : R k) : ∀ (l : List Edge) {S : Ds}, (∀ e ∈ l, e ∈ b.term.to) → DmX f.blocks.length D R S → DmX f.blocks.length D R (l.foldl (domE k) S)
  | [], _, _, h => h
  | e :: r, S, hl, h => by
    have hn := hc.next k b hb hR e (hl e List.mem_cons_self)
    obtain ⟨a1, a2, a3⟩ := dmax_E hc.few h.len h.dom h.seen (lt_of_getElem? hb) (hc.edges b (List.mem_of_getElem? hb) e (hl e List.mem_cons_self)) (fun _ => hn.1) (fun _ => hn.2) hR
    rw [List.foldl_cons]
    exact dmx_F hc hb hR r (fun x hx => hl x (List.mem_cons_of_mem _ hx)) ⟨a3, a1, a2⟩
theorem dmx_R {f : Func} {D : Nat → Nat → Prop} {R : Nat → Prop} (hc : DmC f D R) : ∀ (l : List Block) (k : Nat) {S : Ds}, l = f.blocks.drop k → DmX f.blocks.length D R S → DmX f.blocks.length D R (domR k S l)
  | [], _, _, _, h => h
  | b :: r, k, S, hl, h => by
    have hb : f.blocks[k]? = some b := by
      have := congrArg (fun l => l[0]?) hl
      simpa using this.symm
    have hr : r = f.blocks.drop (k + 1) := by
      rw [drop_at hb] at hl
      simpa using hl
    rw [domR]
    refine dmx_R hc r (k + 1) hr ?_
    unfold domB
    split
    · exact h
    rename_i hs
    have hk := lt_of_getElem? hb
    exact dmx_F hc hb (h.seen k (by have := hc.few; omega) (by simpa using hs)) _ (fun e he => he) h
theorem dmx_I {f : Func} {D : Nat → Nat → Prop} {R : Nat → Prop} (hc : DmC f D R) : ∀ (n : Nat) {S : Ds}, DmX f.blocks.length D R S → DmX f.blocks.length D R (domI f n S)
  | 0, _, h => h
  | n + 1, S, h => by
    simp only [domI]
    split
    · exact dmx_I hc n (dmx_R hc f.blocks 0 (S := ⟨S.over, S.seen, false⟩) (by rw [List.drop_zero]) ⟨h.len, h.dom, h.seen⟩)
    exact h
theorem allB_in : ∀ (n j : Nat), n ≤ 128 → j < n → (allB n).has j = true
  | 0, _, _, h => absurd h (Nat.not_lt_zero _)
  | n + 1, j, hn, hj => by
    rw [allB, Bs.has_add _ _ _ (by omega) (by omega)]
    by_cases e : j = n
    · simp [e]
    rw [allB_in n j (by omega) (by omega)]
    rfl
theorem dom_max {f : Func} {D : Nat → Nat → Prop} {R : Nat → Prop} (hne : f.blocks ≠ []) (hc : DmC f D R) (h0 : R 0) (hz : ∀ i, D i 0 → i = 0) (hlt : ∀ i j, D i j → i < f.blocks.length) {i j : Nat} (hj : j < f.blocks.length) (h : D i j) : (overF f j).has i = true := by
  have hl := List.length_pos_iff.2 hne
  have hs : DmX f.blocks.length D R (domS f) := by
    refine ⟨by simp [domS], fun i j hj hij => ⟨hlt i j hij, ?_⟩, fun j hj hsj => ?_⟩
    · unfold Ds.at_ domS
      simp only
      rw [List.getElem?_set]
      split
      · rename_i e
        subst e
        rw [if_pos (by simpa using hl), Option.getD_some, hz i hij]
        decide
      rw [List.getElem?_replicate, if_pos hj, Option.getD_some]
      exact allB_in _ _ hc.few (hlt i j hij)
    have : (Bs.none.add 0).has j = true := hsj
    rw [Bs.has_add _ _ _ (by omega) hj] at this
    have hn : Bs.none.has j = false := by unfold Bs.has Bs.none; simp
    rw [hn] at this
    simp only [Bool.false_or, decide_eq_true_eq] at this
    rw [this]
    exact h0
  exact ((dmx_I hc 20000 hs).dom i j hj h).2
end Go.Proofs.Ytlclgfgmhnmnaaa
namespace Go.Av
def CertE (P : Program) (o : Oper) (σ0 : St) (R : AVal → List AObj → Prop) : Prop :=
  ∀ (base : G) (σ : St) (a : Act) (g : G), Rel base σ a g → σ.n = σ0.n → (∀ x ∈ o.op.operands, ∀ y, σ0.ev x = some y → σ.ev x = some y) → σ.objs = σ0.objs →
    ∀ (K : Act → World → Prop) (Q : Exit → Act → World → Prop), (∀ r u g', R r g'.objs → Rel base ⟨σ.n, putO o.dst r σ.slots, g'.objs⟩ (a.put o.dst u) g' → K (a.put o.dst u) g'.w) → o.wp P a g.w K Q
theorem cert_ecallE {P : Program} {o : Oper} {σ : St} {x : Operand} {args : Array Operand} {ats : Array TypeId} {f : FuncId} {fs cs ars : List AVal} {R : AVal → List AObj → Prop}
    (ho : o.op = .call ⟨.value x, args, ats⟩) (hd : ∀ d, o.dst = some d → d < σ.n) (hx : σ.ev x = some (.fn (.func f) fs cs)) (ha : σ.evs args.toList = some ars)
    (hcall : ECall P f σ.objs (fs ++ ars ++ cs) R) : CertE P o σ R := by
  intro base τ a g hrel hn hag hm K Q hK
  have hxe : σ.ev x = some (.fn (.func f) fs cs) := hx
  have h1 := hrel.eval (hag x (by simp [ho, Op.operands, Call.operands]) _ hx)
  obtain ⟨us, vs, e1, l1, l2, r1, r2⟩ := h1.fn_inv
  have h2 := evs_rel (σ := σ) (a := a) (g := g) (xs := args.toList) (fun z hz y hy => hrel.eval (hag z (by
    rw [ho]
    simp only [Op.operands, Call.operands, Array.mem_append]
    exact .inr (Array.mem_toList_iff.1 hz)) y hy)) ha
  have h2' : RVs g ars (args.map a.eval) := by
    have e : args.map a.eval = (args.toList.map a.eval).toArray := Array.ext' (by rw [Array.toList_map])
    rw [e]
    exact h2
  have hall := (RVs.append_arr (RVs.append_arr ⟨l1, r1⟩ h2') ⟨l2, r2⟩)
  have hrun := run_callv (P := P) (w := g.w) ho e1 hcall.1
  unfold Oper.wp
  rw [hrun, Oper.upon_enter]
  refine (hcall.2 g _ hrel.good (hrel.objs.trans hm) hall).mono ?_
  rintro e w' ⟨g', v, r', q1, q2, q3, q4, q5, q6⟩
  subst q1
  subst q2
  refine hK r' v g' q6 ?_
  cases hdst : o.dst with
  | none => exact hrel.step q3 q4
  | some d => exact hrel.put q3 q4 (d := d) (by rw [hn]; exact hd d hdst) q5
theorem wpOps_chain_app {P : Program} {ops : Array Oper} {base : G} {ρ : St} {Q : Exit → Act → World → Prop} {rest : List Nat} (hQ : ∀ a g, Rel base ρ a g → wpOps P ops Q rest a g.w) :
    ∀ (l : List (Nat × Kind)) (σ : St) (a : Act) (g : G), Chain P ops l σ ρ → Rel base σ a g → wpOps P ops Q (l.map (·.1) ++ rest) a g.w
  | [], σ, a, g, hch, hrel => hQ a g (Same.rel hch hrel)
  | (i, k) :: r, σ, a, g, hch, hrel => by
    obtain ⟨σ', ⟨o, ho, hstep⟩, hrest⟩ := hch
    simp only [List.map_cons, List.cons_append, wpOps, ho]
    rcases hstep with ⟨hw, r', m, hcert, hk, hσ⟩ | ⟨hw, _, hσ⟩
    · rw [if_pos (wantedA_spec hrel hw)]
      refine .inl (hcert.2 base σ a g hrel rfl (fun x _ y hy => hy) (Mode.agree_of (.inr rfl)) _ _ fun u g' hrel' => ?_)
      subst hσ
      exact wpOps_chain_app hQ r _ _ _ hrest hrel'
    rw [if_neg (by rw [wantedA_spec hrel hw]; simp)]
    subst hσ
    refine wpOps_chain_app hQ r _ _ g hrest ?_
    cases hdst : o.dst with
    | none => exact hrel
    | some d => exact hrel.skip d
theorem idx_map (ks : List Kind) (s : Nat) : (((ks.zipIdx 0).map fun p => (p.2, p.1)).map fun p => (s + p.1, p.2)).map (·.1) = (List.range ks.length).map (s + ·) := by
  apply List.ext_getElem?
  intro i
  simp only [List.getElem?_map, List.getElem?_zipIdx]
  by_cases h : i < ks.length
  · simp [h]
  rw [List.getElem?_eq_none (by omega), List.getElem?_eq_none (by simp; omega)]
  rfl
theorem range_mid {n k : Nat} (h : k < n) : List.range n = (List.range k).map (0 + ·) ++ (k :: (List.range (n - (k + 1))).map (k + 1 + ·)) := by
  apply List.ext_getElem?
  intro i
  by_cases h1 : i < k
  · rw [List.getElem?_append_left (by simpa using h1)]
    simp [h1, show i < n by omega]
  rw [List.getElem?_append_right (by simp; omega)]
  simp only [List.length_map, List.length_range]
  by_cases h2 : i = k
  · subst h2
    simp [h]
  rw [show i - k = (i - k - 1) + 1 by omega, List.getElem?_cons_succ, List.getElem?_map]
  by_cases h3 : i < n
  · rw [List.getElem?_range h3, List.getElem?_range (by omega), Option.map_some]
    congr 1
    omega
  rw [List.getElem?_eq_none (by simp; omega), List.getElem?_eq_none (by simp; omega)]
  rfl
theorem awp_call_ex {P : Program} {kb : Nat} {tab : Tab} (md : Md) (hT : TabOK P tab) {id : Nat} {l l1 l2 : List Oper} {o : Oper} {Q : AEx → St → Prop} {σ : St} (k : Nat) (h1 : l.take k = l1) (h2 : l[k]? = some o) (h3 : l.drop (k + 1) = l2) (hg : ∀ o ∈ l, o.guard = none)
    (h : vcOps P tab md l1 0 [] σ [] fun τ _ => ∃ R, CertE P o τ R ∧ ∀ r O', R r O' → vcOps P tab md l2 0 [] ⟨τ.n, putO o.dst r τ.slots, O'⟩ [] fun ρ _ => At ρ (Q .norm)) : AWP P kb (.region id l.toArray false) Q σ := by
  have hlt := lt_of_getElem? h2
  obtain ⟨τ, ks1, c1, n1, R, hc, h⟩ := vcOps_sound (all := l1.toArray) hT l1 0 [] σ [] (fun j => by simp) (fun j t hj => by simp [slotAt] at hj) h
  intro base a g hb hr
  have hgo : o.guard = none := hg o (List.mem_of_getElem? h2)
  have l1n : l1.length = k := by rw [← h1, List.length_take]; omega
  have l2n : l2.length = l.length - (k + 1) := by rw [← h3, List.length_drop]
  have d1 := chain_shift (all := l.toArray) (k := 0) (fun i o' hi => by
    have hi' : l1[i]? = some o' := by simpa using hi
    have := lt_of_getElem? hi'
    rw [← h1, List.getElem?_take] at hi'
    split at hi'
    · simpa using hi'
    cases hi') (by simpa using hg) c1
  refine wp_region ?_
  rw [show l.toArray.size = l.length from List.size_toArray, range_mid hlt]
  have e1 := idx_map ks1 0
  rw [n1, l1n] at e1
  rw [← e1]
  refine wpOps_chain_app (ρ := τ) (fun a g hr => ?_) _ _ _ _ d1 hr
  have ho : l.toArray[k]? = some o := by simpa using h2
  simp only [wpOps, ho]
  have hw : wantedA l.toArray o τ = some true := by simp [wantedA, hgo]
  rw [if_pos (wantedA_spec hr hw)]
  refine .inl (hc base τ a g hr rfl (fun x _ y hy => hy) rfl _ _ fun r u g' hR hrel' => ?_)
  obtain ⟨ρ, ks2, c2, n2, hQ⟩ := vcOps_sound (all := l2.toArray) hT l2 0 [] _ [] (fun j => by simp) (fun j t hj => by simp [slotAt] at hj) (h r g'.objs hR)
  have d2 := chain_shift (all := l.toArray) (k := k + 1) (fun i o' hi => by
    have hi' : l2[i]? = some o' := by simpa using hi
    rw [← h3, List.getElem?_drop] at hi'
    simpa using hi') (by simpa using hg) c2
  have e2 := idx_map ks2 (k + 1)
  rw [n2, l2n] at e2
  rw [← e2]
  have := wpOps_chain_app (rest := []) (Q := Post base Q) (P := P) (ops := l.toArray) (base := base) (ρ := ρ) (fun a g hr => ⟨g, ρ, rfl, hr, hQ⟩) _ _ _ _ d2 hrel'
  rw [List.append_nil] at this
  exact this
def RetAll (tab : Tab) (rv : List ResultVar) (R : AVal → List AObj → Prop) : AEx → St → Prop
  | .exit _, _ => False
  | _, σ => on (retVals tab σ rv) fun rs => R (mkRet rs) σ.objs
theorem ecall_all {P : Program} {tab : Tab} (hT : TabOK P tab) {f : FuncId} {fn : Func} {c : Code} {O : List AObj} {args : List AVal} {R : AVal → List AObj → Prop} (hf : P.funcs[f]? = some fn) (hb : fn.body = some c)
    (hname : (fn.name == "runtime.NumGoroutine") = false) (hn : args.length ≤ fn.ntmps) (h : AWP P O.length c (RetAll tab fn.results.toList R) ⟨fn.ntmps, slotsOf 0 args, O⟩) : ECall P f O args R := by
  refine ⟨⟨fn, hf, hname, by simp [hb]⟩, fun g vs hg ho ha => ?_⟩
  refine calls_of_wp hf hb ?_
  have hrel : Rel g ⟨fn.ntmps, slotsOf 0 args, O⟩ { tmps := vs ++ Array.replicate (fn.ntmps - vs.size) undef, defers := [] } g := {
    le := Le.refl g
    good := hg
    objs := ho
    size := by
      have := ha.1
      simp only [Array.size_append, Array.size_replicate]
      omega
    defers := rfl
    slot := fun s x hx => by
      obtain ⟨_, h1⟩ := look_slotsOf args 0 s x hx
      simp only [Nat.sub_zero] at h1
      have hlt := lt_of_getElem? h1
      have hlt' : s < vs.size := by rw [ha.1]; exact hlt
      refine ⟨vs[s], ?_, ha.2 s x _ h1 (by simp [hlt'])⟩
      simp only
      rw [Array.getElem?_append, if_pos hlt']
      simp [hlt'] }
  refine wp_mono (h g _ g (by rw [ho]; exact Nat.le_refl _) hrel) fun e a w hp => ?_
  have key : ∀ g' σ', g'.w = w → Rel g σ' a g' → (on (retVals tab σ' fn.results.toList) fun rs => R (Av.mkRet rs) σ'.objs) →
      a.defers = [] ∧ ∃ v, (results fn a.tmps).run P w = .ok v w ∧ ∃ g' v' r, Ending.returned v = .returned v' ∧ g'.w = w ∧ Le g g' ∧ Good g' ∧ RV g' r v' ∧ R r g'.objs := by
    intro g' σ' hw hr hq
    subst hw
    obtain ⟨rs, hrs, h4⟩ := on_elim hq
    obtain ⟨us, q1, q2⟩ := retVals_spec hT hr hrs
    have hO : g'.objs = σ'.objs := hr.objs
    refine ⟨hr.defers, (if h : us.toArray.size = 1 then us.toArray[0] else .tuple us.toArray), ?_, g', _, _, rfl, rfl, hr.le, hr.good, RV.mkRet q2, by rw [hO]; exact h4⟩
    have hm : fn.results.mapM (retSem a) = Functor.map List.toArray (fn.results.toList.mapM (retSem a)) := Array.mapM_eq_mapM_toList
    have hres : results fn a.tmps = (do
      let vs ← fn.results.mapM (retSem a)
      pure (if h : vs.size = 1 then vs[0] else .tuple vs)) := rfl
    rw [hres, hm]
    simp only [Sem.run_bind, Sem.run_map, q1, Result.andThen_ok, Sem.run_pure]
  cases e with
  | normal =>
    obtain ⟨g', σ', h1, h2, h3⟩ := hp
    exact key g' σ' h1 h2 h3
  | ret =>
    obtain ⟨g', σ', h1, h2, h3⟩ := hp
    exact key g' σ' h1 h2 h3
  | exit id =>
    obtain ⟨g', σ', h1, h2, h3⟩ := hp
    exact h3.elim
  | goto l => exact hp.elim
  | panic c => exact hp.elim
  | outgrown => exact hp.elim
theorem awp_nil2 {P : Program} {kb : Nat} {c : Code} {Q : AEx → St → Prop} {n : Nat} {slots : List (Nat × AVal)} {O : List AObj} (s : Nat) {sz : Nat} {xs : List AVal} {o : Own} (hs : look slots s = some (.lst sz xs o))
    (h1 : xs = [] → AWP P kb c Q ⟨n, putS s (.v (.slice none 0 0)) slots, O⟩) (h2 : AWP P kb c Q ⟨n, putS s (.lst sz xs .nn) slots, O⟩) : AWP P kb c Q ⟨n, slots, O⟩ := by
  intro base a g hb hr
  obtain ⟨u, e1, e2⟩ := hr.slot s _ hs
  have key : ∀ y, RV g y u → Rel base ⟨n, putS s y slots, O⟩ a g := fun y hy =>
    { le := hr.le, good := hr.good, objs := hr.objs, size := hr.size, defers := hr.defers, slot := fun k x hx => by
        simp only [St.get, look_putS] at hx
        split at hx
        · rename_i e
          subst e
          simp only [Option.some.injEq] at hx
          subst hx
          exact ⟨u, e1, hy⟩
        exact hr.slot k x hx }
  cases e2 with
  | nil ho hn => exact h1 rfl base a g hb (key _ (.v trivial))
  | lst hsz hsc hcap hmax hs f hm hr ho => exact h2 base a g hb (key _ (.lst hsz hsc hcap hmax hs f hm hr trivial))
theorem awp_retell2 {P : Program} {kb : Nat} {c : Code} {Q : AEx → St → Prop} {n : Nat} {slots : List (Nat × AVal)} {O : List AObj} (k : Nat) {cs : List AVal} (ds : List AVal) (hok : O[k]? = some (.cells cs)) (hl : ds.length = cs.length) (hsc : ∀ d ∈ ds, d.scalar)
    (hs : ∀ (j : Nat) (c d : AVal), cs[j]? = some c → ds[j]? = some d → Sub O c d) (h : AWP P kb c Q ⟨n, slots, O.set k (.cells ds)⟩) : AWP P kb c Q ⟨n, slots, O⟩ :=
  AWP.weaken h fun base a g hb hr => by
    have hO : g.objs = O := hr.objs
    have hok' : g.objs[k]? = some (.cells cs) := by rw [hO]; exact hok
    obtain ⟨l, arr, t, e1, e2, e3, e4, e5, e6⟩ := hr.good.cells k cs hok'
    have ht : Turns g k (.cells cs) (some l) (.cells ds) g.w := {
      obj := hok'
      os := rfl
      tape := rfl
      output := rfl
      size := Nat.le_refl _
      block := fun _ _ _ => rfl
      cell := fun b off x hx _ => hx
      place := fun l1 h1 _ => by
        simp only [Option.some.injEq] at h1
        subst h1
        exact .inr ⟨l, e1, trivial, rfl, Nat.le_refl _⟩
      spare := fun m h => by cases h
      plain := fun _ => ⟨by simp [AObj.isSpare], e1⟩
      gone := by simp }
    have hle := Le.turn hr.good ht
    have hgood := Good.turn hr.good ht ⟨l, arr, t, rfl, e2, e3, by omega, fun j d u hd hu => by
      have hlt := lt_of_getElem? hd
      have hc : cs[j]? = some cs[j] := List.getElem?_eq_getElem (by omega)
      exact (hs j _ d hc hd g u hO (e5 j _ u hc hu)).mono hle, hsc, e6.2⟩ (fun l1 h1 _ => by
        simp only [Option.some.injEq] at h1
        subst h1
        exact lt_of_getElem?' e3)
    refine ⟨g.turn k (some l) (.cells ds) g.w, rfl, { le := hr.le.trans hle, good := hgood, objs := by simp [G.turn, hO], size := hr.size, defers := hr.defers, slot := fun s y hy => ?_ }⟩
    have hy' : (St.mk n slots O).get s = some y := hy
    obtain ⟨u, h3, h4⟩ := hr.slot s y hy'
    exact ⟨u, h3, h4.mono hle⟩
theorem Sub.nil_lst {O : List AObj} (sz : Nat) : Sub O (.v (.slice none 0 0)) (.lst sz [] .ex) := fun g u _ h => by
  obtain ⟨e, _⟩ := h.v_inv
  rw [e]
  exact .nil (fun id q => by cases q) (by simp)
end Go.Av
namespace Go.Proofs.Ytlclgfgmhnmnaaa
open Go.Av

end Go.Proofs.Ytlclgfgmhnmnaaa
namespace Go.Av
theorem cert_buildSlice_os {P : Program} {tab : Tab} (hT : TabOK P tab) {o : Oper} {σ : St} {t e : TypeId} {len : Nat} {parts : Array (Nat × Operand)} {ti te : TInfo} {ps : List (Nat × AVal)} {xs : List AVal}
    (ho : o.op = .buildSlice t len parts) (hd : ∀ d, o.dst = some d → d < σ.n) (ht : tab t = some ti) (hdesc : ti.desc = .slice e) (he : tab e = some te) (hpos : 0 < te.size) (hev : σ.evParts parts.toList = some ps) (hfl : ∀ p ∈ ps, p.2.flat)
    (hseq : seqParts 0 ps = some xs) (hlen : xs.length = len) (hsz : ∀ x ∈ xs, x.cells.length = te.size) (hsm : len * te.size ≤ 2 ^ 24) (hz : len ≠ 0) : Cert P o σ (.os σ.objs.length len te.size) (.write (σ.objs ++ [.cells (cellsAll xs)])) :=
  Cert.ofRun hd fun base σ' a g hrel h ho' => by
    have hO : g.objs = σ.objs := ho'.resolve_left (by simp)
    have hg := hrel.good
    have hpr := evParts_rel (a := a) (g := g) (fun x hx y hy => h x (by simpa [ho, Op.operands] using hx) y hy) hev hfl
    have hu := slice_desc hT ht hdesc
    obtain ⟨⟨i, z, h1, h2, h3, h4, h5, h6, h7, h8, h9⟩, _⟩ := hT e te he
    have hps := seqParts_eq hseq
    have hsc : ∀ x ∈ xs, ∀ c ∈ x.cells, c.scalar := by
      have aux : ∀ {ps : List (Nat × AVal)} {vs : List (Nat × Value)}, PRel g ps vs → ∀ p ∈ ps, ∀ c ∈ p.2.cells, c.scalar := by
        intro ps vs hr
        induction hr with
        | nil => intro p hp; cases hp
        | cons hx hf r ih =>
          intro p hp
          rcases List.mem_cons.1 hp with hp | hp
          · subst hp
            exact hx.cells_scalar hf
          exact ih p hp
      intro x hx c hc
      have hmem : ∃ k, (k, x) ∈ ps := by
        obtain ⟨k, hk⟩ := List.getElem?_of_mem hx
        refine ⟨0 + k, ?_⟩
        rw [hps, List.mem_map]
        refine ⟨(x, 0 + k), ?_, rfl⟩
        rw [List.mem_iff_getElem?]
        exact ⟨k, by simp [hk]⟩
      obtain ⟨k, hk⟩ := hmem
      exact aux hpr _ hk c hc
    have hne : ¬ len * i.size = 0 := by
      rw [h2]
      intro e0
      rcases Nat.mul_eq_zero.1 e0 with q | q <;> omega
    obtain ⟨zs, hzs⟩ : ∃ zs : Array Value, zs = (Array.range (len * i.size)).map (z.cells[· % z.cells.size]!) := ⟨_, rfl⟩
    have hzsz : zs.size = len * te.size := by rw [hzs]; simp [h2]
    obtain ⟨zc, hzc, hzr, hzl⟩ : ∃ zc : List AVal, (∀ c ∈ zc, c.scalar) ∧ RVs g zc zs ∧ zc.length = len * te.size := by
      refine ⟨(List.range (len * te.size)).map fun j => te.zero.getD (j % te.size) (.v (.bool false)), fun c hc => ?_, ⟨by simp [hzsz], fun j c u hj hju => ?_⟩, by simp⟩
      · rw [List.mem_map] at hc
        obtain ⟨j, _, e⟩ := hc
        subst e
        have hlt : j % te.size < te.zero.length := by rw [h6]; exact Nat.mod_lt _ hpos
        rw [List.getD_eq_getElem?_getD, List.getElem?_eq_getElem hlt]
        exact h9 _ (List.getElem_mem hlt)
      have hj' := lt_of_getElem? hj
      simp only [List.length_map, List.length_range] at hj'
      rw [List.getElem?_map, List.getElem?_range hj'] at hj
      simp only [Option.map_some, Option.some.injEq] at hj
      subst hj
      have hlt : j % te.size < te.zero.length := by rw [h6]; exact Nat.mod_lt _ hpos
      have hlt' : j % te.size < z.cells.size := by rw [h5]; exact hlt
      rw [hzs] at hju
      simp only [Array.getElem?_map, h2, Array.getElem?_range, if_pos hj', Option.map_some, Option.some.injEq] at hju
      subst hju
      rw [List.getD_eq_getElem?_getD, List.getElem?_eq_getElem hlt]
      refine h8 g (j % te.size) _ _ (List.getElem?_eq_getElem hlt) ?_
      rw [h5, h6]
      simp [hlt']
    have hfill : ∃ cs', fillA (fun i => some (i * te.size, te.size)) zc ps = some cs' := by
      have aux : ∀ (ys : List AVal) (k : Nat) (cs : List AVal), (∀ y ∈ ys, y.cells.length = te.size) → (k + ys.length) * te.size ≤ cs.length → ∃ cs', fillA (fun i => some (i * te.size, te.size)) cs ((ys.zipIdx k).map fun p => (p.2, p.1)) = some cs' := by
        intro ys
        induction ys with
        | nil => intro k cs _ _; exact ⟨cs, rfl⟩
        | cons y ys ih =>
          intro k cs hy hl
          simp only [List.zipIdx_cons, List.map_cons, fillA]
          simp only [List.length_cons] at hl
          have hk1 : (k + 1) * te.size = k * te.size + te.size := Nat.succ_mul k te.size
          have hmono : (k + 1) * te.size ≤ (k + (ys.length + 1)) * te.size := Nat.mul_le_mul_right _ (by omega)
          have hc : y.cells.length = te.size ∧ k * te.size + te.size ≤ cs.length := ⟨hy y (by simp), by omega⟩
          rw [if_pos hc]
          refine ih (k + 1) _ (fun z hz => hy z (List.mem_cons_of_mem _ hz)) ?_
          rw [splice_length (by omega), show k + 1 + ys.length = k + (ys.length + 1) by omega]
          exact hl
      rw [hps]
      exact aux xs 0 zc hsz (by rw [hzl, hlen, Nat.zero_add]; exact Nat.le_refl _)
    obtain ⟨cs', hcs'⟩ := hfill
    obtain ⟨arr', q1, q2, _⟩ := fill_spec (fun i => some (i * te.size, te.size)) hpr hzr hcs'
    obtain ⟨e1, _⟩ := fillA_seq xs 0 zc cs' (by rw [← hps]; exact hcs') (by rw [hzl, hlen, Nat.zero_add]; exact Nat.le_refl _)
    have e2 : cs' = cellsAll xs := by
      rw [e1]
      simp only [Nat.zero_mul, List.take_zero, List.nil_append, Nat.zero_add]
      rw [List.drop_of_length_le (by rw [hzl, hlen]; omega), List.append_nil]
    subst e2
    have hrun : (Instr.buildSlice t len (parts.map fun (i, x) => (i, a.eval x))).run P g.w = .ok (.slice (some ⟨g.w.heap.size, 0, none⟩) len len) (g.w.alloc (.cells arr' e)) := by
      have hbig : ¬ len * i.size > 2 ^ 24 := by rw [h2]; omega
      rw [hzs, ← h2] at q1
      have q1' : Instr.fill (fun i_1 => some (i_1 * i.size, i.size)) ((Array.range (len * i.size)).map (z.cells[· % z.cells.size]!)) (parts.map fun (i, x) => (i, a.eval x)).toList = some arr' := by
        rw [Array.toList_map]
        exact q1
      simp only [Instr.buildSlice, run_underlying hu, Go.sizeOf, typeInfo, Go.zeroValue, Sem.run_bind, run_program, Result.andThen_ok, h1, Sem.run_pure, Go.newRow]
      rw [if_neg hbig, if_neg hne]
      simp only [Sem.run_bind, Sem.run_pure, Result.andThen_ok, run_program, h1, h4, q1', run_newObj]
      rfl
    have hle := Le.alloc hg (.cells arr' e) 0 (.cells (cellsAll xs))
    have hsize : arr'.size = len * te.size := by
      rw [q2.1, ← hlen]
      have : ∀ ys : List AVal, (∀ y ∈ ys, y.cells.length = te.size) → (cellsAll ys).length = ys.length * te.size := fun ys => by
        induction ys with
        | nil => intro _; simp [cellsAll]
        | cons y ys ih =>
          intro hy
          have h1 := ih fun z hz => hy z (by simp [hz])
          have h2 := hy y (by simp)
          simp only [cellsAll, List.flatMap_cons, List.length_append, List.length_cons] at h1 ⊢
          rw [h1, h2, Nat.succ_mul]
          omega
      exact this xs hsz
    have hscA : ∀ c ∈ cellsAll xs, c.scalar := fun c hc => by
      simp only [cellsAll, List.mem_flatMap] at hc
      obtain ⟨x, hx, hc⟩ := hc
      exact hsc x hx c hc
    refine ⟨.slice (some ⟨g.w.heap.size, 0, none⟩) len len, g.alloc (.cells arr' e) 0 (.cells (cellsAll xs)), .inl (by simp [execOp, ho, hrun, G.alloc]), hle, Good.alloc hg _ 0 _ (.inr rfl) ⟨_, e, rfl, by rw [q2.1]; exact Nat.le_refl _, (q2.mono hle).2, hscA⟩, by simp [G.alloc, hO, Mode.post], ?_⟩
    rw [← hO]
    exact .os (l := ⟨g.w.heap.size, 0, arr'.size⟩) (env_new hg) objs_new (by simp [AObj.isSpare]) (Nat.le_refl _) (by rw [hsize]; exact Nat.le_refl _) (by
      have : len ≤ len * te.size := Nat.le_mul_of_pos_right _ hpos
      omega)
theorem FSub.os {O : List AObj} {id len sz : Nat} {cs xs : List AVal} (hid : O[id]? = some (.cells cs)) (hsz : ∀ x ∈ xs, x.cells.length = sz) (hlen : xs.length = len) (hd : ((cs.drop 0).take (len * sz)).map AVal.shareCell = cellsAll xs) : FSub O id (.os id len sz) (.lst sz xs .sh) := fun g u l' hg hO he hle h => by
  obtain ⟨l, o1, cap', h1, h2, _, hlc, _, hmax, eu⟩ := h.os_inv
  subst eu
  rw [he] at h1
  simp only [Option.some.injEq] at h1
  subst h1
  have hid' : g.objs[id]? = some (.cells cs) := by rw [hO]; exact hid
  obtain ⟨arr, t', hlo, hrow, hal, hcs, hcsc, _⟩ := hg.row hid' he
  subst hlen
  have key : ∀ (j : Nat) (c : AVal), (cellsAll xs)[j]? = some c → ∃ c', cs[0 + j]? = some c' ∧ c'.shareCell = c := fun j c hj => by
    rw [← hd, List.getElem?_map, Option.map_eq_some_iff] at hj
    obtain ⟨c', hj, e⟩ := hj
    have := take_get hj
    rw [List.getElem?_drop] at this
    exact ⟨c', this, e⟩
  refine .lst hsz (fun x hx c hc => ?_) hlc hmax (fun _ => rfl) (fun j => arr.getD (0 + j) undef) (fun j c hj => ?_) (fun j c hj => ?_) trivial
  · have hmem : c ∈ cellsAll xs := by
      simp only [cellsAll, List.mem_flatMap]
      exact ⟨x, hx, hc⟩
    obtain ⟨j, hj⟩ := List.getElem?_of_mem hmem
    obtain ⟨c', hj', e⟩ := key j c hj
    subst e
    exact AVal.scalar_shareCell (hcsc c' (List.mem_of_getElem? hj'))
  · obtain ⟨c', hj', e⟩ := key j c hj
    have hlt := lt_of_getElem? hj'
    refine ⟨?_, freeze_own hg he hid' trivial _⟩
    show g.w.cell? _ = _
    simp only
    rw [cell_of_row hrow]
    simp [Array.getD_eq_getD_getElem?, show j < arr.size by omega]
  obtain ⟨c', hj', e⟩ := key j c hj
  have hlt := lt_of_getElem? hj'
  subst e
  exact ((hcs _ c' _ hj' (by simp [Array.getD_eq_getD_getElem?, show j < arr.size by omega])).mono hle).shareCell
theorem midOp_os {P : Program} {tab : Tab} {md : Md} (hT : TabOK P tab) {o : Oper} {l2 : List Oper} {Q : AEx → St → Prop} {σ : St} {t e : TypeId} {len d : Nat} {parts : Array (Nat × Operand)} {ti te : TInfo} {ps : List (Nat × AVal)} {xs : List AVal}
    (ho : o.op = .buildSlice t len parts) (hdst : o.dst = some d) (hd : d < σ.n) (ht : tab t = some ti) (hdesc : ti.desc = .slice e) (he : tab e = some te) (hpos : 0 < te.size) (hev : σ.evParts parts.toList = some ps) (hfl : ∀ p ∈ ps, p.2.flat)
    (hseq : seqParts 0 ps = some xs) (hlen : xs.length = len) (hsz : ∀ x ∈ xs, x.cells.length = te.size) (hsm : len * te.size ≤ 2 ^ 24) (hz : len ≠ 0)
    (h : vcOps P tab md l2 0 [] ⟨σ.n, putO o.dst (.os σ.objs.length len te.size) σ.slots, σ.objs ++ [.cells (cellsAll xs)]⟩ [] fun ρ _ => At ρ (Q .norm)) : MidOp P tab md o l2 Q σ :=
  ⟨_, _, cert_buildSlice_os hT ho (fun d' e => by rw [hdst] at e; cases e; exact hd) ht hdesc he hpos hev hfl hseq hlen hsz hsm hz, h⟩
end Go.Av
namespace Go.Proofs.Ytlclgfgmhnmnaaa
open Go.Av
def outV (oid : Nat) (l : List Int) : AVal := if l = [] then .lst 1 [] .ex else .os oid l.length 1
theorem cellsAll_v (x : Value) : cellsAll [AVal.v x] = [AVal.v x] := rfl
theorem cells_os' (id len sz : Nat) : (AVal.os id len sz).cells = [AVal.os id len sz] := rfl
theorem leave_nil {O : List AObj} (hup : ∀ o ∈ O, o.upto O.length) (h1 : O[1]? = some (.cells [.lst 1 [] .ex])) (k : Int) :
  ECall Try.prog 84 O [aI k, .mp 1 0] (fun r O' => r = .tup [] ∧ O' = (O ++ [AObj.cells [aI k]]).set 1 (.cells [.os O.length 1 1])) := by
 have hl := lt_of_getElem? h1
 have h1' : ∀ X, (O ++ X)[1]? = some (.cells [.lst 1 [] .ex]) := fun X => at_left h1
 have hkk : O.length ≤ O.length + 1 := by omega
 refine ecall_of hT true (O.length + 1) Try.func84 rfl (by kernel_rfl) (by simp [Try.ntmps84]) (by assumption) ?_
 show AWP Try.prog _ _ _ ⟨7, _, _⟩
 dsimp only [Tmp, TypeId, slotsOf]
 have htk : ((O ++ [AObj.cells [AVal.v (.int .i64 k)]]).set 1 (.cells [.os O.length 1 1])).take (O.length + 1) = (O ++ [AObj.cells [AVal.v (.int .i64 k)]]).set 1 (.cells [.os O.length 1 1]) := List.take_of_length_le (by simp)
 refine zs0 ?_
 simp -dsimp only [simprocAttr, ↓vpre, zp, h1, h1', cellsAll_v, cells_os']
 refine ⟨trivial, ?_⟩
 refine at_intro ?_
 simp -dsimp only [simprocAttr, ↓vpre, zp, zr, Try.results84, htk, List.length_set, List.length_append]
 exact ⟨uptoO_set (uptoO_snoc (fun o ho => AObj.upto_mono (by omega) (hup o ho)) ⟨trivial, trivial⟩) ⟨show _ < _ by omega, trivial⟩, trivial⟩
theorem leave_os {O : List AObj} (hup : ∀ o ∈ O, o.upto O.length) {oid : Nat} {l : List Int} (h1 : O[1]? = some (.cells [.os oid l.length 1])) (h2 : O[oid]? = some (.cells (l.map aI))) (ho : oid ≠ 1) (hll : l.length ≤ 1000) (k : Int) :
  ECall Try.prog 84 O [aI k, .mp 1 0] (fun r O' => r = .tup [] ∧ O' = (O.set oid .gone ++ [AObj.cells ((l ++ [k]).map aI)]).set 1 (.cells [.os O.length (l.length + 1) 1])) := by
 have hl := lt_of_getElem? h1
 have h1' : ∀ X, (O.set oid .gone ++ X)[1]? = some (.cells [.os oid l.length 1]) := fun X => at_left (at_set_ne h1 ho)
 have hkk : O.length ≤ O.length + 1 := by omega
 refine ecall_of hT true (O.length + 1) Try.func84 rfl (by kernel_rfl) (by simp [Try.ntmps84]) (by assumption) ?_
 show AWP Try.prog _ _ _ ⟨7, _, _⟩
 dsimp only [Tmp, TypeId, slotsOf]
 refine zs0 ?_
 simp -dsimp only [simprocAttr, ↓vpre, zp, h1, h1', h2, cellsAll_v, cells_os']
 refine ⟨by simp, by omega, by omega, ?_⟩
 have hTT : (l.map aI).take (l.length * 1) = l.map aI := List.take_of_length_le (by simp)
 have htk : ((O.set oid .gone ++ [AObj.cells (l.map aI ++ [AVal.v (.int .i64 k)])]).set 1 (.cells [.os O.length (l.length + 1) 1])).take (O.length + 1) = (O.set oid .gone ++ [AObj.cells (l.map aI ++ [AVal.v (.int .i64 k)])]).set 1 (.cells [.os O.length (l.length + 1) 1]) := List.take_of_length_le (by simp)
 refine ⟨trivial, ?_⟩
 refine at_intro ?_
 simp -dsimp only [simprocAttr, ↓vpre, zp, zr, Try.results84, hTT, htk, List.length_set, List.length_append]
 refine ⟨uptoO_set (uptoO_snoc (uptoO_set (fun o ho => AObj.upto_mono (by omega) (hup o ho)) trivial) ?_) ⟨show _ < _ by omega, trivial⟩, trivial, by simp⟩
 show uptoL _ _
 have := aI_upto (O.length + 1) (l ++ [k])
 simpa using this
end Go.Proofs.Ytlclgfgmhnmnaaa
namespace Go.Av
theorem RV.to_nn {g : G} {sz : Nat} {xs : List AVal} {a : Addr} {len cap : Nat} (h : RV g (.lst sz xs .sh) (.slice (some a) len cap)) : RV g (.lst sz xs .nn) (.slice (some a) len cap) := by
  cases h with
  | lst hsz hsc hcap hmax hs f hm hr ho => exact .lst hsz hsc hcap hmax hs f hm hr trivial
theorem FSub.ms_nn {O : List AObj} {id off len cap sz : Nat} {cs xs : List AVal} (hid : O[id]? = some (.cells cs)) (hsz : ∀ x ∈ xs, x.cells.length = sz) (hlen : xs.length = len) (hd : ((cs.drop off).take (len * sz)).map AVal.shareCell = cellsAll xs) : FSub O id (.ms id off len cap) (.lst sz xs .nn) := fun g u l' hg hO he hle h => by
  have k := FSub.ms hid hsz hlen hd g u l' hg hO he hle h
  obtain ⟨l, o1, h1, h2, _, hlc, hmax, cap', hcap, eu⟩ := h.ms_inv
  subst eu
  exact k.to_nn
theorem awp_local2 {P : Program} {kb : Nat} {c : Code} {Q : AEx → St → Prop} {n : Nat} {slots : List (Nat × AVal)} {O : List AObj} {a : AObj} {cs : List AVal} (s : Nat) (ds : List AVal) (slots' : List (Nat × AVal)) (hx : look slots s = some (.mp (O.length + 1) 0))
    (hds : cs.map AVal.shareCell = ds) (hkb : kb ≤ O.length) (hs : ∀ p ∈ slots', look (putS s (.ip none ds) slots) p.1 = some p.2) (hup : ∀ o ∈ O, o.upto O.length) (ha : a.upto (O.length + 1)) (hsl : ∀ p ∈ slots', p.2.upto (O.length + 1))
    (h : AWP P kb c Q ⟨n, slots', O ++ [a]⟩) : AWP P kb c Q ⟨n, slots, O ++ [a, .cells cs]⟩ := by
  have e : O ++ [a, .cells cs] = (O ++ [a]) ++ [.cells cs] := by simp
  rw [e]
  refine awp_local s ds slots' (by simpa using hx) hds (by simp; omega) hs (fun o ho => ?_) (fun p hp => by simpa using hsl p hp) h
  rw [List.length_append]
  rcases List.mem_append.1 ho with q | q
  · exact AObj.upto_mono (by omega) (hup o q)
  rw [List.mem_singleton.1 q]
  exact ha
end Go.Av
namespace Go.Proofs.Ytlclgfgmhnmnaaa
open Go.Av
theorem eB_upto (n : Nat) (l : List Bool) : uptoL n (l.map eB) := by
  rw [uptoL_iff]
  intro x hx
  obtain ⟨b, _, rfl⟩ := List.mem_map.1 hx
  trivial
theorem falses_flat (n : Nat) : (List.replicate n [AVal.v (.bool false)]).flatten = (List.replicate n false).map eB := by
  induction n with
  | zero => rfl
  | succ n ih => rw [List.replicate_succ, List.flatten_cons, ih, List.replicate_succ]; rfl
theorem eB_cells (l : List Bool) : cellsAll (l.map eB) = l.map eB := by
  induction l with
  | nil => rfl
  | cons a r ih =>
    simp only [List.map_cons, cellsAll, List.flatMap_cons] at ih ⊢
    rw [ih]
    rfl
theorem eB_share (l : List Bool) : (l.map eB).map AVal.shareCell = l.map eB := by
  rw [List.map_map]
  rfl
theorem eB_share' (l : List Bool) : (l.map eB).map AVal.share = l.map eB := by
  rw [List.map_map]
  rfl
theorem eB_sz (l : List Bool) : ∀ x ∈ l.map eB, x.cells.length = 1 := fun x hx => by
  obtain ⟨b, _, rfl⟩ := List.mem_map.1 hx
  rfl
theorem eB_freeze {O : List AObj} {id : Nat} {l : List Bool} {len cap : Nat} (h : O[id]? = some (.cells (l.map eB))) (hl : l.length = len) : FSub O id (.ms id 0 len cap) (.lst 1 (l.map eB) .nn) :=
  FSub.ms_nn h (eB_sz l) (by simpa using hl) (by rw [List.drop_zero, List.take_of_length_le (by simp; omega), eB_share, eB_cells])
theorem eB_put {l : List Bool} {j : Nat} (h : j < l.length) (b : Bool) : splice (l.map eB) j [.v (.bool b)] = (l.set j b).map eB := by
  rw [splice_one _ (by simpa using h), List.map_set]
  rfl
def ownF : List Bool → Own
  | [] => .ex
  | _ => .nn
def eF (l : List Bool) : AVal := .lst 1 (l.map eB) (ownF l)
def eH : List Bool → AVal
  | [] => .v (.slice none 0 0)
  | a :: r => .lst 1 ((a :: r).map eB) .nn
theorem eF_get {ls : List (List Bool)} {k : Nat} {l : List Bool} (h : ls[k]? = some l) : (ls.map eF)[k]? = some (.lst 1 (l.map eB) (ownF l)) := by
  rw [List.getElem?_map, h]
  rfl
theorem eF_ne {l : List Bool} (h : l ≠ []) : eF l = .lst 1 (l.map eB) .nn := by
  cases l with
  | nil => exact absurd rfl h
  | cons => rfl
theorem eH_ne {l : List Bool} (h : l ≠ []) : eH l = .lst 1 (l.map eB) .nn := by
  cases l with
  | nil => exact absurd rfl h
  | cons => rfl
theorem ownF_upto (n : Nat) (l : List Bool) : AVal.upto n (.lst 1 (l.map eB) (ownF l)) := by
  cases l with
  | nil => exact ⟨trivial, trivial⟩
  | cons => exact ⟨eB_upto _ _, trivial⟩
theorem eF_upto (n : Nat) (ls : List (List Bool)) : uptoL n (ls.map eF) := by
  rw [uptoL_iff]
  intro x hx
  obtain ⟨l, _, rfl⟩ := List.mem_map.1 hx
  exact ownF_upto n l
theorem eH_upto (n : Nat) (ls : List (List Bool)) : uptoL n (ls.map eH) := by
  rw [uptoL_iff]
  intro x hx
  obtain ⟨l, _, rfl⟩ := List.mem_map.1 hx
  cases l with
  | nil => trivial
  | cons => exact ⟨eB_upto _ _, trivial⟩
def lifeC (f : Func) (many : Nat) (B N : Nat) : List AVal := [aI f.name, eBlocks f.blocks, aI many, .ms B 0 N N]
def putB (l : List Bool) (v : Int) (b : Bool) : List Bool := l.set v.toNat b
def putAll (l : List Bool) (vs : List Int) : List Bool := vs.foldl (fun s v => putB s v true) l
def backI (i : Ins) (now : List Bool) : List Bool := putAll (putB now i.to false) i.args
def backM (l : List Ins) (now : List Bool) : List Bool := l.foldr backI now
def lastV (ps : List Int) : Nat → List Bool → List Bool → List Bool
  | _, [], out => out
  | v, is :: r, out => lastV ps (v + 1) r (if is && !hasI ps v then out.set v true else out)
def firstAt (first : List (List Bool)) (k : Int) : List Bool := first[k.toNat]?.getD []
def lastE (f : Func) (first : List (List Bool)) (out : List Bool) (e : Edge) : List Bool := lastV (blkOf f e.block).params 0 (firstAt first e.block) out
def usesArg (t : Term) : Bool := !decide (t.kind = 1) && !decide (t.kind = 4)
def lastA (t : Term) (o : List Bool) : List Bool := t.to.foldl (fun o e => putAll o e.args) (if usesArg t then putB o t.arg true else o)
def lastM (f : Func) (many : Nat) (first : List (List Bool)) (t : Term) : List Bool := lastA t (t.to.foldl (lastE f first) (List.replicate many false))
def listM : Nat → List Bool → List Int
  | _, [] => []
  | v, is :: r => if is then (v : Int) :: listM (v + 1) r else listM (v + 1) r
theorem putB_len (l : List Bool) (v : Int) (b : Bool) : (putB l v b).length = l.length := by simp [putB]
theorem putAll_len : ∀ (vs : List Int) (l : List Bool), (putAll l vs).length = l.length
  | [], _ => rfl
  | v :: r, l => by
    have := putAll_len r (putB l v true)
    rw [putB_len] at this
    exact this
theorem backI_len (i : Ins) (now : List Bool) : (backI i now).length = now.length := by rw [backI, putAll_len, putB_len]
theorem backM_len : ∀ (l : List Ins) (now : List Bool), (backM l now).length = now.length
  | [], _ => rfl
  | i :: r, now => by
    have := backM_len r now
    simp only [backM, List.foldr_cons] at this ⊢
    rw [backI_len, this]
theorem lastV_len (ps : List Int) : ∀ (S : List Bool) (v : Nat) (out : List Bool), (lastV ps v S out).length = out.length
  | [], _, _ => rfl
  | is :: r, v, out => by
    rw [lastV, lastV_len ps r]
    split <;> simp
theorem lastF_len (f : Func) (first : List (List Bool)) : ∀ (l : List Edge) (out : List Bool), (l.foldl (lastE f first) out).length = out.length
  | [], _ => rfl
  | e :: r, out => by
    rw [List.foldl_cons, lastF_len f first r, lastE, lastV_len]
theorem argsF_len : ∀ (l : List Edge) (out : List Bool), (l.foldl (fun o e => putAll o e.args) out).length = out.length
  | [], _ => rfl
  | e :: r, out => by
    rw [List.foldl_cons, argsF_len r, putAll_len]
theorem lastA_len (t : Term) (o : List Bool) : (lastA t o).length = o.length := by
  rw [lastA, argsF_len]
  split
  · rw [putB_len]
  rfl
theorem lastM_len (f : Func) (many : Nat) (first : List (List Bool)) (t : Term) : (lastM f many first t).length = many := by
  rw [lastM, lastA_len, lastF_len, List.length_replicate]
structure Sr where
  seen : List Bool
  st : List (Int × Int)
  out : List Int
def toOf (f : Func) (b : Int) : List Edge := (blkOf f b).term.to
def nextOf (f : Func) (b e : Int) : Int := ((toOf f b)[e.toNat]?.getD default).block
def srStep (f : Func) (S : Sr) : Sr :=
  match S.st with
  | [] => S
  | (b, e) :: r =>
    if e = (toOf f b).length then ⟨S.seen, r, S.out ++ [b]⟩
    else if S.seen[(nextOf f b e).toNat]?.getD false = true then ⟨S.seen, (b, e + 1) :: r, S.out⟩
    else ⟨S.seen.set (nextOf f b e).toNat true, (nextOf f b e, 0) :: (b, e + 1) :: r, S.out⟩
def srRun (f : Func) : Nat → Sr → Sr
  | 0, S => S
  | n + 1, S => if S.st.isEmpty then S else srRun f n (srStep f S)
def srStart (f : Func) : Sr := ⟨(List.replicate f.blocks.length false).set 0 true, [(0, 0)], []⟩
def searchM (f : Func) : List Int := (srRun f 100000 (srStart f)).out
structure SrOK (f : Func) (S : Sr) : Prop where
  len : S.seen.length = f.blocks.length
  blk : ∀ p ∈ S.st, 0 ≤ p.1 ∧ p.1 < f.blocks.length ∧ 0 ≤ p.2 ∧ p.2 ≤ (toOf f p.1).length
  few : S.out.length + S.st.length ≤ S.seen.countP id
  outs : ∀ b ∈ S.out, 0 ≤ b ∧ b < f.blocks.length
def stW : List (Int × Int) → Nat
  | [] => 0
  | p :: r => (258 - p.2.toNat) + stW r
def srW (S : Sr) : Nat := 300 * (S.seen.length - S.seen.countP id) + stW S.st
structure GrW (f : Func) : Prop where
  ne : f.blocks ≠ []
  few : f.blocks.length ≤ 128
  to : ∀ b ∈ f.blocks, b.term.to.length ≤ 257
  edges : ∀ b ∈ f.blocks, ∀ e ∈ b.term.to, 1 ≤ e.block ∧ e.block < f.blocks.length
theorem FnW.gr {f : Func} (h : FnW f) : GrW f :=
  ⟨h.ne, h.few, fun b hb => to_few (end_ok (h.blk b hb).fin), fun b hb e he => by
    have := ((end_ok (h.blk b hb).fin).edges e he).1
    omega⟩
theorem GrW.next {f : Func} (h : GrW f) {b e : Int} (hb : 0 ≤ b ∧ b < f.blocks.length) (h0 : 0 ≤ e) (h1 : e < (toOf f b).length) : ∃ x, (toOf f b)[e.toNat]? = some x ∧ x.block = nextOf f b e ∧ 1 ≤ nextOf f b e ∧ nextOf f b e < f.blocks.length := by
  have hlt : e.toNat < (toOf f b).length := by omega
  have hx : (toOf f b)[e.toNat]? = some (toOf f b)[e.toNat] := List.getElem?_eq_getElem hlt
  refine ⟨_, hx, by rw [nextOf, hx]; rfl, ?_⟩
  have := h.edges _ (blkOf_mem hb.1 hb.2) (toOf f b)[e.toNat] (List.getElem_mem hlt)
  rw [nextOf, hx]
  exact this
theorem countP_set_true {l : List Bool} {k : Nat} (hk : k < l.length) (h : l[k]?.getD false = false) : (l.set k true).countP id = l.countP id + 1 := by
  induction l generalizing k with
  | nil => simp at hk
  | cons a r ih =>
    cases k with
    | zero =>
      simp only [List.getElem?_cons_zero, Option.getD_some] at h
      subst h
      simp
    | succ k =>
      simp only [List.getElem?_cons_succ] at h
      have := ih (by simpa using hk) h
      simp only [List.set_cons_succ, List.countP_cons, this]
      omega
theorem srStep_ok {f : Func} (hg : GrW f) {S : Sr} (h : SrOK f S) (hne : S.st ≠ []) : SrOK f (srStep f S) ∧ srW (srStep f S) < srW S := by
  obtain ⟨seen, st, out⟩ := S
  cases st with
  | nil => exact absurd rfl hne
  | cons p r =>
    obtain ⟨b, e⟩ := p
    obtain ⟨h1, h2, h3, h4⟩ := h
    simp only at h1 h2 h3 h4
    have hp := h2 (b, e) (by simp)
    simp only at hp
    have hto : (toOf f b).length ≤ 257 := hg.to _ (blkOf_mem hp.1 hp.2.1)
    have hc : seen.countP id ≤ seen.length := List.countP_le_length
    simp only [List.length_cons] at h3
    simp only [srStep]
    by_cases he : e = (toOf f b).length
    · rw [if_pos he]
      refine ⟨⟨h1, fun p hp => h2 p (by simp [hp]), by simp only [List.length_append, List.length_cons, List.length_nil]; omega, fun x hx => ?_⟩, ?_⟩
      · rcases List.mem_append.1 hx with q | q
        · exact h4 x q
        simp only [List.mem_singleton] at q
        subst q
        exact ⟨hp.1, hp.2.1⟩
      simp only [srW, stW]
      omega
    rw [if_neg he]
    obtain ⟨x, hx, hxb, hn1, hn2⟩ := hg.next ⟨hp.1, hp.2.1⟩ hp.2.2.1 (by omega)
    by_cases hs : seen[(nextOf f b e).toNat]?.getD false = true
    · rw [if_pos hs]
      refine ⟨⟨h1, fun p hpm => ?_, by simpa using h3, h4⟩, ?_⟩
      · rcases List.mem_cons.1 hpm with q | q
        · subst q
          exact ⟨hp.1, hp.2.1, by simp only; omega, by simp only; omega⟩
        exact h2 p (by simp [q])
      simp only [srW, stW]
      omega
    rw [if_neg hs]
    have hs' : seen[(nextOf f b e).toNat]?.getD false = false := by simpa using hs
    have hk : (nextOf f b e).toNat < seen.length := by omega
    have hcs := countP_set_true hk hs'
    have hcl : (seen.set (nextOf f b e).toNat true).countP id ≤ (seen.set (nextOf f b e).toNat true).length := List.countP_le_length
    rw [List.length_set] at hcl
    refine ⟨⟨by simpa using h1, fun p hpm => ?_, by simp only [List.length_cons, hcs]; omega, h4⟩, ?_⟩
    · rcases List.mem_cons.1 hpm with q | q
      · subst q
        exact ⟨by simp only; omega, hn2, by simp, by simp⟩
      rcases List.mem_cons.1 q with q | q
      · subst q
        exact ⟨hp.1, hp.2.1, by simp only; omega, by simp only; omega⟩
      exact h2 p (by simp [q])
    simp only [srW, stW, List.length_set, hcs]
    omega
theorem srRun_ok {f : Func} (hg : GrW f) : ∀ (n : Nat) (S : Sr), SrOK f S → srW S < n → SrOK f (srRun f n S) ∧ (srRun f n S).st = []
  | 0, S, _, h => by omega
  | n + 1, S, h, hw => by
    simp only [srRun]
    cases hst : S.st with
    | nil => simpa [hst] using h
    | cons p r =>
      simp only [List.isEmpty_cons, Bool.false_eq_true, if_false]
      have := srStep_ok hg h (by rw [hst]; simp)
      exact srRun_ok hg n _ this.1 (by omega)
theorem srStart_ok {f : Func} (hg : GrW f) : SrOK f (srStart f) ∧ srW (srStart f) < 100000 := by
  have hl : 0 < f.blocks.length := by
    cases hb : f.blocks with
    | nil => exact absurd hb hg.ne
    | cons => simp
  have hfew := hg.few
  have hc : ((List.replicate f.blocks.length false).set 0 true).countP id = 1 := by
    rw [countP_set_true (by simpa using hl) (by simp [hl])]
    simp [List.countP_replicate]
  refine ⟨⟨by simp [srStart], fun p hp => ?_, by simp only [srStart, hc]; simp, by simp [srStart]⟩, ?_⟩
  · simp only [srStart, List.mem_singleton] at hp
    subst hp
    exact ⟨by simp, by simp; omega, by simp, by simp⟩
  simp only [srW, srStart, hc, List.length_set, List.length_replicate, stW]
  simp
  omega
def stkC : List (Int × Int) → List AVal
  | [] => []
  | p :: r => stkC r ++ [aI p.1, aI p.2]
theorem stkC_len : ∀ l : List (Int × Int), (stkC l).length = l.length * 2
  | [] => rfl
  | p :: r => by
    simp only [stkC, List.length_append, stkC_len r, List.length_cons, List.length_nil]
    omega
theorem stkC_upto (n : Nat) : ∀ l : List (Int × Int), uptoL n (stkC l)
  | [] => trivial
  | p :: r => by
    rw [uptoL_iff]
    intro x hx
    rcases List.mem_append.1 hx with q | q
    · exact uptoL_iff.1 (stkC_upto n r) x q
    simp only [List.mem_cons, List.not_mem_nil, or_false] at q
    rcases q with rfl | rfl <;> trivial
structure So where
  S : Sr
  sid : Nat
  oid : Nat
  O : List AObj
def cellsAt (O : List AObj) (id : Nat) : List AVal :=
  match O[id]? with
  | some (.cells cs) => cs
  | _ => []
def outPush (O : List AObj) (oid : Nat) (out : List Int) (b : Int) : List AObj :=
  if out = [] then (O ++ [AObj.cells [aI b]]).set 1 (.cells [.os O.length 1 1])
  else (O.set oid .gone ++ [AObj.cells ((out ++ [b]).map aI)]).set 1 (.cells [.os O.length (out.length + 1) 1])
def soStep (f : Func) (X : So) : So :=
  match X.S.st with
  | [] => X
  | (b, e) :: r =>
    if e = (toOf f b).length then ⟨srStep f X.S, X.sid, X.O.length, outPush X.O X.oid X.S.out b⟩
    else
      let cs := (cellsAt X.O X.sid).set (r.length * 2 + 1) (aI (e + 1))
      let O1 := X.O.set X.sid (.cells cs)
      if X.S.seen[(nextOf f b e).toNat]?.getD false = true then ⟨srStep f X.S, X.sid, X.oid, O1⟩
      else
        let O2 := O1.set 2 (.cells ((X.S.seen.set (nextOf f b e).toNat true).map eB))
        ⟨srStep f X.S, O2.length, X.oid, O2.set X.sid .gone ++ [AObj.cells (cs.take ((r.length + 1) * 2) ++ [aI (nextOf f b e), aI 0])]⟩
def soRun (f : Func) : Nat → So → So
  | 0, X => X
  | n + 1, X => if X.S.st.isEmpty then X else soRun f n (soStep f X)
theorem soStep_S (f : Func) (X : So) : (soStep f X).S = srStep f X.S := by
  unfold soStep
  cases hst : X.S.st with
  | nil => simp [srStep, hst]
  | cons p r =>
    simp only
    split
    · rfl
    split <;> rfl
theorem soRun_S (f : Func) : ∀ (n : Nat) (X : So), (soRun f n X).S = srRun f n X.S
  | 0, X => rfl
  | n + 1, X => by
    simp only [soRun, srRun]
    split
    · rfl
    rw [soRun_S f n, soStep_S]
structure SO (X : So) : Prop where
  up : ∀ o ∈ X.O, o.upto X.O.length
  out : X.O[1]? = some (.cells [outV X.oid X.S.out])
  outs : X.S.out ≠ [] → X.O[X.oid]? = some (.cells (X.S.out.map aI)) ∧ X.oid ≠ X.sid ∧ 2 < X.oid
  seen : X.O[2]? = some (.cells (X.S.seen.map eB))
  stk : ∃ junk, X.O[X.sid]? = some (.cells (stkC X.S.st ++ junk))
  sne : 2 < X.sid
theorem SO.step {f : Func} {X : So} (h : SO X) : SO (soStep f X) := by
  obtain ⟨⟨seen, st, out⟩, sid, oid, O⟩ := X
  obtain ⟨h1, h2, h3, h4, ⟨junk, h5⟩, h6⟩ := h
  simp only at h1 h2 h3 h4 h5 h6
  have l1 := lt_of_getElem? h2
  have l2 := lt_of_getElem? h4
  have l5 := lt_of_getElem? h5
  cases st with
  | nil => exact ⟨h1, h2, h3, h4, ⟨junk, h5⟩, h6⟩
  | cons p r =>
    obtain ⟨b, e⟩ := p
    simp only [soStep, srStep]
    by_cases he : e = (toOf f b).length
    · rw [if_pos he, if_pos he]
      by_cases ho : out = []
      · subst ho
        simp only [outPush, if_true, List.nil_append]
        refine ⟨?_, ?_, fun _ => ⟨?_, by simp only; omega, by simp only; omega⟩, ?_, ⟨[aI b, aI e] ++ junk, ?_⟩, h6⟩
        · have := uptoO_set (n := O.length + 1) (k := 1) (x := .cells [.os O.length 1 1]) (uptoO_snoc (fun o ho => AObj.upto_mono (by omega) (h1 o ho)) (x := .cells [aI b]) ⟨trivial, trivial⟩) ⟨show _ < _ by omega, trivial⟩
          simpa using this
        · simp only
          rw [List.getElem?_set_self (by simp; omega)]
          rfl
        · simp only
          rw [List.getElem?_set_ne (by omega), List.getElem?_append_right (Nat.le_refl _)]
          simp
        · simp only
          rw [List.getElem?_set_ne (by omega), List.getElem?_append_left l2]
          exact h4
        simp only
        rw [List.getElem?_set_ne (by omega), List.getElem?_append_left l5, h5]
        simp [stkC]
      obtain ⟨k1, k2, k3⟩ := h3 ho
      have lo := lt_of_getElem? k1
      simp only [outPush, if_neg ho]
      refine ⟨?_, ?_, fun _ => ⟨?_, by simp only; omega, by simp only; omega⟩, ?_, ⟨[aI b, aI e] ++ junk, ?_⟩, h6⟩
      · have := uptoO_set (n := O.length + 1) (k := 1) (x := .cells [.os O.length (out.length + 1) 1]) (uptoO_snoc (uptoO_set (k := oid) (x := .gone) (fun o ho => AObj.upto_mono (by omega) (h1 o ho)) trivial) (x := .cells ((out ++ [b]).map aI)) (aI_upto _ _)) ⟨show _ < _ by omega, trivial⟩
        simpa using this
      · simp only
        rw [List.getElem?_set_self (by simp; omega)]
        simp [outV]
      · simp only
        rw [List.getElem?_set_ne (by omega), List.getElem?_append_right (by simp)]
        simp
      · simp only
        rw [List.getElem?_set_ne (by omega), List.getElem?_append_left (by simpa using l2), List.getElem?_set_ne (by omega)]
        exact h4
      simp only
      rw [List.getElem?_set_ne (by omega), List.getElem?_append_left (by simpa using l5), List.getElem?_set_ne (by omega), h5]
      simp [stkC]
    rw [if_neg he, if_neg he]
    have hcs : (cellsAt O sid).set (r.length * 2 + 1) (aI (e + 1)) = stkC ((b, e + 1) :: r) ++ junk := by
      simp only [cellsAt, h5, stkC]
      rw [List.append_assoc, List.set_append_right _ _ (by rw [stkC_len]; omega), stkC_len, show r.length * 2 + 1 - r.length * 2 = 1 by omega]
      simp
    rw [hcs]
    have hju : uptoL O.length junk := by
      rw [uptoL_iff]
      intro x hx
      have := h1 _ (List.mem_of_getElem? h5)
      exact uptoL_iff.1 this x (List.mem_append.2 (.inr hx))
    have hcu : uptoL O.length (stkC ((b, e + 1) :: r) ++ junk) := by
      rw [uptoL_iff]
      intro x hx
      rcases List.mem_append.1 hx with q | q
      · exact uptoL_iff.1 (stkC_upto _ _) x q
      exact uptoL_iff.1 hju x q
    by_cases hs : seen[(nextOf f b e).toNat]?.getD false = true
    · rw [if_pos hs, if_pos hs]
      refine ⟨?_, ?_, fun ho => ?_, ?_, ⟨junk, ?_⟩, h6⟩
      · have := uptoO_set (n := O.length) (k := sid) (x := .cells (stkC ((b, e + 1) :: r) ++ junk)) h1 hcu
        simpa using this
      · simp only
        rw [List.getElem?_set_ne (by omega)]
        exact h2
      · obtain ⟨k1, k2, k3⟩ := h3 ho
        refine ⟨?_, k2, k3⟩
        simp only
        rw [List.getElem?_set_ne (fun q => k2 q.symm)]
        exact k1
      · simp only
        rw [List.getElem?_set_ne (by omega)]
        exact h4
      simp only
      rw [List.getElem?_set_self l5]
    rw [if_neg hs, if_neg hs]
    skip
    have htk : (stkC ((b, e + 1) :: r) ++ junk).take ((r.length + 1) * 2) = stkC ((b, e + 1) :: r) := by
      rw [List.take_append_of_le_length (by rw [stkC_len]; simp), List.take_of_length_le (by rw [stkC_len]; simp)]
    rw [htk]
    refine ⟨?_, ?_, fun ho => ?_, ?_, ⟨[], ?_⟩, ?_⟩
    · have a1 := uptoO_set (n := O.length) (k := sid) (x := .cells (stkC ((b, e + 1) :: r) ++ junk)) h1 hcu
      have a2 := uptoO_set (k := 2) (x := .cells ((seen.set (nextOf f b e).toNat true).map eB)) a1 (eB_upto _ _)
      have a3 := uptoO_set (k := sid) (x := .gone) a2 trivial
      have a4 := uptoO_snoc (n := O.length + 1) (x := .cells (stkC ((b, e + 1) :: r) ++ [aI (nextOf f b e), aI 0])) (fun o ho => AObj.upto_mono (by omega) (a3 o ho)) (by
        show uptoL _ _
        have := stkC_upto (O.length + 1) ((nextOf f b e, 0) :: (b, e + 1) :: r)
        exact this)
      simpa using a4
    · simp only
      rw [List.getElem?_append_left (by simp; omega), List.getElem?_set_ne (by omega), List.getElem?_set_ne (by omega), List.getElem?_set_ne (by omega)]
      exact h2
    · obtain ⟨k1, k2, k3⟩ := h3 ho
      have lo := lt_of_getElem? k1
      refine ⟨?_, by simp; omega, k3⟩
      simp only
      rw [List.getElem?_append_left (by simpa using lo), List.getElem?_set_ne (fun q => k2 q.symm), List.getElem?_set_ne (by omega), List.getElem?_set_ne (fun q => k2 q.symm)]
      exact k1
    · simp only
      rw [List.getElem?_append_left (by simpa using l2), List.getElem?_set_ne (by omega), List.getElem?_set_self (by simpa using l2)]
    · simp only [List.length_set]
      rw [List.getElem?_append_right (by simp)]
      simp [stkC]
    simp
    omega
structure SmW (f : Func) : Prop where
  few : f.blocks.length ≤ 128
  params : ∀ b ∈ f.blocks, b.params.length ≤ 4096
  ins : ∀ b ∈ f.blocks, b.ins.length ≤ 1024
  iargs : ∀ b ∈ f.blocks, ∀ i ∈ b.ins, i.args.length ≤ 16
  cases : ∀ b ∈ f.blocks, b.term.cases.length ≤ 256
  to : ∀ b ∈ f.blocks, b.term.to.length ≤ 257
  eargs : ∀ b ∈ f.blocks, ∀ e ∈ b.term.to, e.args.length ≤ 4096
def edC (es : List Edge) : List AVal := es.flatMap fun e => [aI e.block, eIs e.args]
def outX (id : Nat) (es : List Edge) : AVal := if es = [] then .lst 2 [] .ex else .os id es.length 2
def outE (id : Nat) (es : List Edge) : AVal := if es = [] then .lst 2 [] .sh else .os id es.length 2
def blC (id : Nat) (b : Block) : List AVal := [eIs b.params, eInss b.ins, aI b.term.kind, aI b.term.arg, aI b.term.n, eIs b.term.cases, outE id b.term.to]
def blsC (ids : List Nat) (bs : List Block) : List AVal := (List.zipWith blC ids bs).flatten
def outBl (id : Nat) (bs : List Block) : AVal := if bs = [] then .lst 7 [] .ex else .os id bs.length 7
theorem outX_share (id : Nat) (es : List Edge) : (outX id es).shareCell = outE id es := by
  unfold outX outE
  split <;> rfl
theorem outE_share (id : Nat) (es : List Edge) : (outE id es).shareCell = outE id es := by
  unfold outE
  split <;> rfl
theorem edC_snoc (es : List Edge) (e : Edge) : edC (es ++ [e]) = edC es ++ [aI e.block, eIs e.args] := by simp [edC]
theorem edC_len (es : List Edge) : (edC es).length = es.length * 2 := by
  induction es with
  | nil => rfl
  | cons e r ih =>
    have : edC (e :: r) = [aI e.block, eIs e.args] ++ edC r := rfl
    rw [this, List.length_append, ih]
    simp only [List.length_cons, List.length_nil]
    omega
theorem edC_upto (n : Nat) (es : List Edge) : uptoL n (edC es) := by
  rw [uptoL_iff]
  intro c hc
  simp only [edC, List.mem_flatMap] at hc
  obtain ⟨e, _, hc⟩ := hc
  simp only [List.mem_cons, List.not_mem_nil, or_false] at hc
  rcases hc with rfl | rfl
  · trivial
  exact ⟨aI_upto _ _, trivial⟩
theorem edC_share (es : List Edge) : (edC es).map AVal.shareCell = cellsAll (es.map Edge.enc) := by
  induction es with
  | nil => rfl
  | cons e r ih =>
    have h1 : edC (e :: r) = [aI e.block, eIs e.args] ++ edC r := rfl
    have h2 : cellsAll ((e :: r).map Edge.enc) = [aI e.block, eIs e.args] ++ cellsAll (r.map Edge.enc) := rfl
    rw [h1, h2, List.map_append, ih]
    rfl
theorem blsC_snoc {ids : List Nat} {bs : List Block} (h : ids.length = bs.length) (id : Nat) (b : Block) : blsC (ids ++ [id]) (bs ++ [b]) = blsC ids bs ++ blC id b := by
  unfold blsC
  rw [List.zipWith_append h]
  simp
theorem blsC_len : ∀ {ids : List Nat} {bs : List Block}, ids.length = bs.length → (blsC ids bs).length = bs.length * 7
  | [], [], _ => rfl
  | i :: ids, b :: bs, h => by
    have e : blsC (i :: ids) (b :: bs) = blC i b ++ blsC ids bs := rfl
    rw [e, List.length_append, blsC_len (by simpa using h)]
    simp only [blC, List.length_cons, List.length_nil]
    omega
  | [], b :: bs, h => by simp at h
  | i :: ids, [], h => by simp at h
theorem blC_upto {n id : Nat} (b : Block) (h : b.term.to ≠ [] → id < n) : uptoL n (blC id b) := by
  refine ⟨⟨aI_upto _ _, trivial⟩, ⟨Ins.map_upto _ _, trivial⟩, trivial, trivial, trivial, ⟨aI_upto _ _, trivial⟩, ?_, trivial⟩
  unfold outE
  split
  · exact ⟨trivial, trivial⟩
  rename_i q
  exact h q
structure CpO (b0 : Nat) (ids : List Nat) (bs : List Block) (O : List AObj) : Prop where
  li : ids.length = bs.length
  own : ∀ (j id : Nat) (b : Block), ids[j]? = some id → bs[j]? = some b → b.term.to ≠ [] → b0 ≤ id ∧ O[id]? = some (.cells (edC b.term.to))
  inj : ∀ (i j id : Nat) (b c : Block), ids[i]? = some id → ids[j]? = some id → bs[i]? = some b → bs[j]? = some c → b.term.to ≠ [] → c.term.to ≠ [] → i = j
structure CpS (f : Func) (done : List Block) (bid : Nat) (ids : List Nat) (O : List AObj) : Prop where
  up : ∀ o ∈ O, o.upto O.length
  r0 : O[0]? = some .gone
  r1 : O[1]? = some (.cells [aI 0, .lst 7 [] .ex])
  r3 : O[3]? = some (.cells [aI 0, .lst 7 [] .ex])
  out : O[4]? = some (.cells [aI f.name, outBl bid done])
  blk : done ≠ [] → 5 ≤ bid ∧ O[bid]? = some (.cells (blsC ids done))
  cp : CpO 5 ids done O
  ne : ∀ (j id : Nat) (b : Block), ids[j]? = some id → done[j]? = some b → b.term.to ≠ [] → id ≠ bid
theorem blsC_upto {n : Nat} : ∀ {ids : List Nat} {bs : List Block}, (∀ (j id : Nat) (b : Block), ids[j]? = some id → bs[j]? = some b → b.term.to ≠ [] → id < n) → uptoL n (blsC ids bs) := by
  intro ids bs h
  rw [uptoL_iff]
  intro c hc
  unfold blsC at hc
  obtain ⟨l, hl, hc⟩ := List.mem_flatten.1 hc
  obtain ⟨j, hj⟩ := List.mem_iff_getElem?.1 hl
  rw [List.getElem?_zipWith] at hj
  cases h1 : ids[j]? with
  | none => rw [h1] at hj; cases hj
  | some id =>
    cases h2 : bs[j]? with
    | none => rw [h1, h2] at hj; cases hj
    | some b =>
      rw [h1, h2] at hj
      simp only [Option.some.injEq] at hj
      subst hj
      exact uptoL_iff.1 (blC_upto b (h j id b h1 h2)) c hc
theorem CpS.snoc {f : Func} {done : List Block} {bid : Nat} {ids : List Nat} {O O1 : List AObj} (h : CpS f done bid ids O) {b : Block} {tid : Nat} (hlen : O.length ≤ O1.length) (hup : ∀ o ∈ O1, o.upto O1.length)
    (hsame : ∀ k, k < O.length → (done ≠ [] → k ≠ bid) → O1[k]? = O[k]?) (ht : b.term.to ≠ [] → O.length ≤ tid ∧ O1[tid]? = some (.cells (edC b.term.to))) {cs ar : List AVal} (hcs : cs = blsC (ids ++ [tid]) (done ++ [b])) (har : ar = [aI f.name, .os O1.length (done.length + 1) 7]) :
    CpS f (done ++ [b]) O1.length (ids ++ [tid]) ((O1 ++ [AObj.cells cs]).set 4 (.cells ar)) := by
  have h4 := lt_of_getElem? h.out
  have hli := h.cp.li
  have hkeep : ∀ k, k < O.length → k ≠ 4 → (done ≠ [] → k ≠ bid) → ((O1 ++ [AObj.cells cs]).set 4 (.cells ar))[k]? = O[k]? := fun k hk hk4 hkb => by
    rw [List.getElem?_set_ne (Ne.symm hk4), List.getElem?_append_left (by omega), hsame k hk hkb]
  have hb5 : done ≠ [] → 5 ≤ bid := fun q => (h.blk q).1
  have hids : ∀ (j id : Nat) (c : Block), (ids ++ [tid])[j]? = some id → (done ++ [b])[j]? = some c → (ids[j]? = some id ∧ done[j]? = some c) ∨ (j = ids.length ∧ id = tid ∧ c = b) := fun j id c h1 h2 => by
    by_cases hj : j < ids.length
    · rw [List.getElem?_append_left hj] at h1
      rw [List.getElem?_append_left (by omega)] at h2
      exact .inl ⟨h1, h2⟩
    have hj1 := lt_of_getElem? h1
    rw [List.length_append, List.length_singleton] at hj1
    have hje : j = ids.length := by omega
    subst hje
    rw [List.getElem?_append_right (Nat.le_refl _), Nat.sub_self] at h1
    rw [List.getElem?_append_right (by omega), ← hli, Nat.sub_self] at h2
    simp only [List.getElem?_cons_zero, Option.some.injEq] at h1 h2
    exact .inr ⟨rfl, h1.symm, h2.symm⟩
  have hdn : ∀ (j id : Nat) (c : Block), ids[j]? = some id → done[j]? = some c → c.term.to ≠ [] → 5 ≤ id ∧ id < O.length ∧ O1[id]? = some (.cells (edC c.term.to)) := fun j id c h1 h2 h3 => by
    obtain ⟨o1, o2⟩ := h.cp.own j id c h1 h2 h3
    have hl := lt_of_getElem? o2
    refine ⟨o1, hl, ?_⟩
    rw [hsame id hl (fun _ => h.ne j id c h1 h2 h3)]
    exact o2
  have hown : ∀ (j id : Nat) (c : Block), (ids ++ [tid])[j]? = some id → (done ++ [b])[j]? = some c → c.term.to ≠ [] → 5 ≤ id ∧ id < O1.length ∧ O1[id]? = some (.cells (edC c.term.to)) := fun j id c h1 h2 h3 => by
    rcases hids j id c h1 h2 with ⟨q1, q2⟩ | ⟨_, q2, q3⟩
    · obtain ⟨p1, p2, p3⟩ := hdn j id c q1 q2 h3
      exact ⟨p1, by omega, p3⟩
    rw [q3] at h3 ⊢
    rw [q2]
    obtain ⟨t1, t2⟩ := ht h3
    exact ⟨by omega, lt_of_getElem? t2, t2⟩
  subst hcs
  subst har
  exact {
    up := by
      intro o ho
      rw [List.length_set, List.length_append, List.length_singleton]
      rcases List.mem_or_eq_of_mem_set ho with q | q
      · rcases List.mem_append.1 q with q | q
        · exact AObj.upto_mono (by omega) (hup o q)
        rw [List.mem_singleton] at q
        subst q
        exact blsC_upto fun j id c h1 h2 h3 => by
          have := (hown j id c h1 h2 h3).2.1
          omega
      subst q
      exact ⟨trivial, show _ < _ by omega, trivial⟩
    r0 := by rw [hkeep 0 (lt_of_getElem? h.r0) (by omega) (fun q => by have := hb5 q; omega)]; exact h.r0
    r1 := by rw [hkeep 1 (lt_of_getElem? h.r1) (by omega) (fun q => by have := hb5 q; omega)]; exact h.r1
    r3 := by rw [hkeep 3 (lt_of_getElem? h.r3) (by omega) (fun q => by have := hb5 q; omega)]; exact h.r3
    out := by
      rw [List.getElem?_set_self (by rw [List.length_append]; omega)]
      have : outBl O1.length (done ++ [b]) = .os O1.length (done.length + 1) 7 := by
        unfold outBl
        rw [if_neg (by simp), List.length_append]
        rfl
      rw [this]
    blk := fun _ => by
      refine ⟨by omega, ?_⟩
      rw [List.getElem?_set_ne (by omega), List.getElem?_append_right (Nat.le_refl _), Nat.sub_self]
      rfl
    cp := {
      li := by rw [List.length_append, List.length_append, hli]; rfl
      own := fun j id c h1 h2 h3 => by
        obtain ⟨p1, p2, p3⟩ := hown j id c h1 h2 h3
        refine ⟨p1, ?_⟩
        rw [List.getElem?_set_ne (by omega), List.getElem?_append_left p2]
        exact p3
      inj := fun i j id c d h1 h2 h3 h4 h5 h6 => by
        rcases hids i id c h1 h3 with ⟨p1, p2⟩ | ⟨p1, p2, p3⟩
        · rcases hids j id d h2 h4 with ⟨q1, q2⟩ | ⟨q1, q2, q3⟩
          · exact h.cp.inj i j id c d p1 q1 p2 q2 h5 h6
          have := (hdn i id c p1 p2 h5).2.1
          rw [q3] at h6
          have := (ht h6).1
          omega
        rcases hids j id d h2 h4 with ⟨q1, q2⟩ | ⟨q1, q2, q3⟩
        · have := (hdn j id d q1 q2 h6).2.1
          rw [p3] at h5
          have := (ht h5).1
          omega
        omega }
    ne := fun j id c h1 h2 h3 => by
      have := (hown j id c h1 h2 h3).2.1
      omega }
structure CpI (O : List AObj) (cs : List AVal) (n : Nat) (O2 : List AObj) : Prop where
  len : O2.length = O.length + 2
  up : ∀ o ∈ O2, o.upto O2.length
  keep : ∀ k, k < O.length → O2[k]? = O[k]?
  cell : O2[O.length]? = some (.cells cs)
  sp : O2[O.length + 1]? = some (.spare n)
theorem CpI.start {O : List AObj} (hup : ∀ o ∈ O, o.upto O.length) {cs : List AVal} (hcs : uptoL (O.length + 2) cs) : CpI O cs 0 (O ++ [.cells cs, .spare 0]) where
  len := by simp
  up := fun o ho => by
    rw [List.length_append]
    rcases List.mem_append.1 ho with q | q
    · exact AObj.upto_mono (by omega) (hup o q)
    simp only [List.mem_cons, List.not_mem_nil, or_false] at q
    rcases q with rfl | rfl
    · exact hcs
    trivial
  keep := fun k hk => by rw [List.getElem?_append_left hk]
  cell := by
    rw [List.getElem?_append_right (Nat.le_refl _), Nat.sub_self]
    rfl
  sp := by
    rw [List.getElem?_append_right (by omega), show O.length + 1 - O.length = 1 by omega]
    rfl
theorem CpI.one {O : List AObj} {cs : List AVal} {n : Nat} {O2 : List AObj} (h : CpI O cs n O2) {cs' : List AVal} (hcs : uptoL (O.length + 2) cs') : CpI O cs' n (O2.set O.length (.cells cs')) where
  len := by rw [List.length_set, h.len]
  up := by
    rw [List.length_set]
    exact uptoO_set h.up (by rw [h.len]; exact hcs)
  keep := fun k hk => by rw [List.getElem?_set_ne (by omega), h.keep k hk]
  cell := by rw [List.getElem?_set_self (by rw [h.len]; omega)]
  sp := by rw [List.getElem?_set_ne (by omega), h.sp]
theorem CpI.room {O : List AObj} {cs : List AVal} {n : Nat} {O2 : List AObj} (h : CpI O cs n O2) (m : Nat) : CpI O cs m (O2.set (O.length + 1) (.spare m)) where
  len := by rw [List.length_set, h.len]
  up := by
    rw [List.length_set]
    exact uptoO_set h.up trivial
  keep := fun k hk => by rw [List.getElem?_set_ne (by omega), h.keep k hk]
  cell := by rw [List.getElem?_set_ne (by omega), h.cell]
  sp := by rw [List.getElem?_set_self (by rw [h.len]; omega)]
structure CpE (O : List AObj) (cs : AVal → List AVal) (tid : Nat) (es : List Edge) (O3 : List AObj) : Prop where
  len : O.length + 2 ≤ O3.length
  up : ∀ o ∈ O3, o.upto O3.length
  keep : ∀ k, k < O.length → O3[k]? = O[k]?
  cell : O3[O.length]? = some (.cells (cs (outX tid es)))
  own : es ≠ [] → O.length + 2 ≤ tid ∧ O3[tid]? = some (.cells (edC es))
theorem CpE.start {O : List AObj} {cs : AVal → List AVal} {n : Nat} {O2 : List AObj} (h : CpI O (cs (.lst 2 [] .ex)) n O2) : CpE O cs 0 [] O2 where
  len := by rw [h.len]; omega
  up := h.up
  keep := h.keep
  cell := h.cell
  own := fun q => absurd rfl q
theorem CpE.push {O : List AObj} {cs : AVal → List AVal} {tid : Nat} {es : List Edge} {O3 O4 : List AObj} (h : CpE O cs tid es O3) (e : Edge) (hcs : ∀ v n, v.upto n → O.length + 2 ≤ n → uptoL n (cs v)) (hlen : O4.length = O3.length) (hup : ∀ o ∈ O4, o.upto O3.length)
    (hsame : ∀ k, (es ≠ [] → k ≠ tid) → O4[k]? = O3[k]?) {c a : List AVal} (hc : c = edC (es ++ [e])) (ha : a = cs (.os O3.length (es.length + 1) 2)) : CpE O cs O3.length (es ++ [e]) ((O4 ++ [AObj.cells c]).set O.length (.cells a)) := by
  have hl := h.len
  have hx : outX O3.length (es ++ [e]) = .os O3.length (es.length + 1) 2 := by
    unfold outX
    rw [if_neg (by simp), List.length_append]
    rfl
  subst hc
  subst ha
  exact {
    len := by rw [List.length_set, List.length_append, hlen]; omega
    up := by
      intro o ho
      rw [List.length_set, List.length_append, List.length_singleton, hlen]
      rcases List.mem_or_eq_of_mem_set ho with q | q
      · rcases List.mem_append.1 q with q | q
        · exact AObj.upto_mono (by omega) (hup o q)
        rw [List.mem_singleton] at q
        subst q
        exact edC_upto _ _
      subst q
      exact hcs _ _ (show O3.length < O3.length + 1 by omega) (by omega)
    keep := fun k hk => by
      rw [List.getElem?_set_ne (by omega), List.getElem?_append_left (by omega), hsame k (fun q => by have := (h.own q).1; omega), h.keep k hk]
    cell := by
      rw [List.getElem?_set_self (by rw [List.length_append]; omega), hx]
    own := fun _ => by
      refine ⟨by omega, ?_⟩
      rw [List.getElem?_set_ne (by omega), List.getElem?_append_right (by omega), hlen, Nat.sub_self]
      rfl }
def CpR (f : Func) (r : AVal) (O : List AObj) : Prop := ∃ (ids : List Nat) (bid : Nat), r = .agg [aI f.name, .os bid f.blocks.length 7] ∧ (∀ o ∈ O, o.upto O.length) ∧ O[0]? = some .gone ∧ O[1]? = some (.cells [aI 0, .lst 7 [] .ex]) ∧
  (5 ≤ bid ∧ O[bid]? = some (.cells (blsC ids f.blocks))) ∧ CpO 5 ids f.blocks O ∧ ∀ (j id : Nat) (b : Block), ids[j]? = some id → f.blocks[j]? = some b → b.term.to ≠ [] → id ≠ bid
theorem copy_start (f : Func) : CpS f [] 0 [] [.gone, .cells [aI 0, .lst 7 [] .ex], .gone, .cells [aI 0, .lst 7 [] .ex], .cells [aI f.name, .lst 7 [] .ex]] where
  up := fun o ho => by
    simp only [List.mem_cons, List.not_mem_nil, or_false] at ho
    rcases ho with rfl | rfl | rfl | rfl | rfl
    · trivial
    · exact ⟨trivial, ⟨trivial, trivial⟩, trivial⟩
    · trivial
    · exact ⟨trivial, ⟨trivial, trivial⟩, trivial⟩
    exact ⟨trivial, ⟨trivial, trivial⟩, trivial⟩
  r0 := rfl
  r1 := rfl
  r3 := rfl
  out := rfl
  blk := fun q => absurd rfl q
  cp := ⟨rfl, fun j id b h => by simp at h, fun i j id b c h => by simp at h⟩
  ne := fun j id b h => by simp at h
theorem CpS.done {f : Func} {bid : Nat} {ids : List Nat} {O : List AObj} (h : CpS f f.blocks bid ids O) (hne : f.blocks ≠ []) {cs : List AVal} (hcs : uptoL O.length cs) : CpR f (.agg [aI f.name, .os bid f.blocks.length 7]) (O.set 3 (.cells cs)) := by
  obtain ⟨b1, b2⟩ := h.blk hne
  refine ⟨ids, bid, rfl, ?_, ?_, ?_, ⟨b1, ?_⟩, ⟨h.cp.li, fun j id b q1 q2 q3 => ?_, h.cp.inj⟩, h.ne⟩
  · rw [List.length_set]
    exact uptoO_set h.up hcs
  · rw [List.getElem?_set_ne (by omega)]; exact h.r0
  · rw [List.getElem?_set_ne (by omega)]; exact h.r1
  · rw [List.getElem?_set_ne (by omega)]; exact b2
  obtain ⟨o1, o2⟩ := h.cp.own j id b q1 q2 q3
  exact ⟨o1, by rw [List.getElem?_set_ne (by omega)]; exact o2⟩
def soStart (f : Func) : So := ⟨srStart f, 3, 0, [.gone, .cells [.lst 1 [] .ex], .cells ((srStart f).seen.map eB), .cells [aI 0, aI 0]]⟩
theorem soStart_ok (f : Func) : SO (soStart f) where
 up := by
  intro o ho
  simp only [soStart, List.mem_cons, List.not_mem_nil, or_false] at ho
  rcases ho with rfl | rfl | rfl | rfl
  ·trivial
  ·exact ⟨⟨trivial, trivial⟩, trivial⟩
  ·exact eB_upto _ _
  exact ⟨trivial, trivial, trivial⟩
 out := rfl
 outs := fun h => absurd rfl h
 seen := rfl
 stk := ⟨[], rfl⟩
 sne := by simp [soStart]
theorem search_spec (f : Func) (hg : GrW f) :
  ECall Try.prog 83 [.gone, .cells [.lst 1 [] .ex]] [f.enc, .fn (.func 84) [] [.mp 1 0]] (fun r O' => r = .tup [] ∧ O' = (soRun f 100000 (soStart f)).O) := by
 have hN128 := hg.few
 have hl : 0 < f.blocks.length := by
  cases hb : f.blocks with
  | nil => exact absurd hb hg.ne
  | cons => simp
 obtain ⟨N, hN⟩ : ∃ N, N = f.blocks.length := ⟨_, rfl⟩
 obtain ⟨F, hF⟩ : ∃ F, F = soRun f 100000 (soStart f) := ⟨_, rfl⟩
 rw [← hF]
 have hkk : [AObj.gone, AObj.cells [AVal.lst 1 [] .ex]].length ≤ F.O.length := by
  have key : ∀ (n : Nat) (X : So), SO X → SO (soRun f n X) := fun n => by
   induction n with
   | zero => exact fun X h => h
   | succ n ih =>
    intro X h
    simp only [soRun]
    split
    ·exact h
    exact ih _ h.step
  have := lt_of_getElem? (key 100000 _ (soStart_ok f)).out
  rw [← hF] at this
  simp only [List.length_cons, List.length_nil]
  omega
 refine ecall_of hT true (F.O.length) Try.func83 rfl (by kernel_rfl) (by simp [Try.ntmps83]) (by assumption) ?_
 show AWP Try.prog _ _ _ ⟨81, _, _⟩
 dsimp only [Tmp, TypeId, slotsOf]
 refine zh1 (za0 ?_)
 refine awp_freeze1 2 2 (.ip none [aI f.name, eBlocks f.blocks]) rfl (by simp [AObj.isSpare]) trivial rfl ?_ ?_
 rotate_left
 simp -dsimp only [simprocAttr, ↓vpre, zp]
 ·refine awp_trunc' 2 [(1, .fn (.func 84) [] [.mp 1 0]), (2, .ip none [aI f.name, eBlocks f.blocks])] (by simp) (by omega) [.gone, .cells [.lst 1 [] .ex]] ?_ ?_ ?_ ?_ ?_
  ·rfl
  ·simp [AObj.upto, uptoL, AVal.upto, aI_upto, Block.map_upto]
  ·simp [Says, St.get, putS, dropS, Go.Av.look, Sub.refl]
  ·simp [AObj.upto, uptoL, AVal.upto, aI_upto, Block.map_upto]
  refine zg1 ?_
  simp -dsimp only [simprocAttr, ↓vpre, zp, falses_flat, ← hN]
  refine ⟨by omega, by omega, ?_⟩
  refine za0 ?_
  refine zh1 ?_
  have hspl : splice ((List.replicate N false).map eB) 0 [.v (.bool true)] = (srStart f).seen.map eB := by
   rw [splice_one _ (by simp; omega)]
   simp only [srStart, ← hN, List.map_set]
   rfl
  refine ⟨by omega, by simp; omega, ?_⟩
  rw [hspl]
  refine za0 ?_
  refine awp_seq (awp_mid_op ⟨false, false⟩ hT 1 rfl rfl rfl (by simp) ?_)
  simp -dsimp only [simprocAttr, ↓vpre, zp]
  refine midOp_os hT rfl rfl (by simp) rfl rfl rfl (by simp) rfl (by intro p hp; simp at hp; subst hp; trivial) rfl rfl (by intro x hx; simp at hx; subst hx; rfl) (by simp) (by simp) ?_
  simp -dsimp only [simprocAttr, ↓vpre, zp]
  refine za0 ?_
  have hok0 := srStart_ok hg
  refine awp_block (awp_loop (ι := {X : So // SO X ∧ SrOK f X.S ∧ ∃ n, srW X.S < n ∧ F = soRun f n X}) (fun X => ⟨81, [(1, .fn (.func 84) [] [.mp 1 0]), (2, .ip none [aI f.name, eBlocks f.blocks]), (4, .ms 2 0 N N), (5, .os X.1.sid X.1.S.st.length 2)], X.1.O⟩) (fun X => srW X.1.S) ⟨soStart f, soStart_ok f, hok0.1, 100000, hok0.2, hF⟩ ?_ ?_)
  ·refine zq rfl ?_ ?_
   simp -dsimp only [simprocAttr, ↓vpre, zp, zc]
   all_goals first | rfl | exact Sub.refl _
  rintro ⟨X, hX, hS, n, hn, hnF⟩
  have hXs := hX.step (f := f)
  obtain ⟨⟨seen, st, out⟩, sid, oid, O⟩ := X
  obtain ⟨h1, h2, h3, h4, ⟨junk, h5⟩, h6⟩ := id hX
  simp only at h1 h2 h3 h4 h5 h6 hn
  cases st with
  | nil =>
   refine zh2 (za0 ?_)
   refine zu0 rfl ?_
   refine awp_exit ?_
   simp -dsimp only [vend, ne_eq, Nat.reduceEqDiff, reduceCtorEq]
   have hFO : F.O = O := by
    rw [hnF]
    cases n with
    | zero => rfl
    | succ n => rfl
   skip
   simp -dsimp only [simprocAttr, ↓vpre, zp, zr, Try.results83]
   rw [hFO]
   exact ⟨by simp, by rw [List.take_of_length_le (Nat.le_refl _)]; exact h1, trivial, List.take_of_length_le (Nat.le_refl _)⟩
  | cons p r =>
   obtain ⟨b, e⟩ := p
   have hstep := srStep_ok hg hS (by simp)
   obtain ⟨n, rfl⟩ : ∃ n', n = n' + 1 := ⟨n - 1, by omega⟩
   have hnF' : F = soRun f n (soStep f ⟨⟨seen, (b, e) :: r, out⟩, sid, oid, O⟩) := hnF
   have hSs := soStep_S f ⟨⟨seen, (b, e) :: r, out⟩, sid, oid, O⟩
   have hp := hS.blk (b, e) (by simp)
   simp only at hp
   have hstl : r.length ≤ 128 := by
    have a1 := hS.few
    have a2 : seen.countP id ≤ seen.length := List.countP_le_length
    have a3 := hS.len
    simp only [List.length_cons] at a1 a3
    omega
   have hr2 : ((r.length + 1 : Nat) : Int) - 1 = (r.length : Nat) := by omega
   obtain ⟨B, hB⟩ : ∃ B, B = blkOf f b := ⟨_, rfl⟩
   have hBg := blkOf_at hp.1 hp.2.1
   rw [← hB] at hBg
   have hto : toOf f b = B.term.to := by rw [hB]; rfl
   have hcb : (stkC ((b, e) :: r) ++ junk)[r.length * 2]? = some (aI b) := by
    rw [stkC, List.append_assoc, List.getElem?_append_right (by rw [stkC_len]; omega), stkC_len, Nat.sub_self]
    rfl
   have hce : (stkC ((b, e) :: r) ++ junk)[r.length * 2 + 1]? = some (aI e) := by
    rw [stkC, List.append_assoc, List.getElem?_append_right (by rw [stkC_len]; omega), stkC_len, show r.length * 2 + 1 - r.length * 2 = 1 by omega]
    rfl
   obtain ⟨cs, hcs⟩ : ∃ cs, cs = stkC ((b, e) :: r) ++ junk := ⟨_, rfl⟩
   rw [← hcs] at hcb hce h5
   refine zh2 (za0 ?_)
   apply zk0 rfl <;> intro h
   ·refine zb0 ?_
    refine awp_block ?_
    refine zg1 ?_
    simp -dsimp only [simprocAttr, ↓vpre, zp, hr2]
    repeat (refine ⟨by omega, ?_⟩)
    refine za0 ?_
    refine zg1 ?_
    simp -dsimp only [simprocAttr, ↓vpre, zp, h5, hcb, hBg]
    repeat (refine ⟨by omega, ?_⟩)
    refine ⟨ob (by kernel_rfl), ?_⟩
    refine za0 ?_
    by_cases he : e = (toOf f b).length
    ·have hde : decide (e = (B.term.to.length : Int)) = true := decide_eq_true (by rw [he, hto])
     have hsr : srStep f ⟨seen, (b, e) :: r, out⟩ = ⟨seen, r, out ++ [b]⟩ := by simp only [srStep]; rw [if_pos he]
     have hso : soStep f ⟨⟨seen, (b, e) :: r, out⟩, sid, oid, O⟩ = ⟨⟨seen, r, out ++ [b]⟩, sid, O.length, outPush O oid out b⟩ := by simp only [soStep]; rw [if_pos he, hsr]
     rw [hso] at hXs hnF'
     simp only [hsr] at hstep
     have hlv : ECall Try.prog 84 O [aI b, .mp 1 0] (fun r' O' => r' = .tup [] ∧ O' = outPush O oid out b) := by
      unfold outPush
      by_cases ho : out = []
      ·rw [if_pos ho]
       exact leave_nil h1 (by rw [h2, ho]; rfl) b
      rw [if_neg ho]
      obtain ⟨k1, k2, k3⟩ := h3 ho
      have a1 := hS.few
      have a2 : seen.countP id ≤ seen.length := List.countP_le_length
      have a3 := hS.len
      simp only at a1 a3
      exact leave_os h1 (by rw [h2, outV, if_neg ho]) k1 (by omega) (by omega) b
     refine zg2 ?_
     simp -dsimp only [simprocAttr, ↓vpre, zp, h5, hce, hde]
     refine za0 ?_
     refine zw0 rfl ?_
     refine zg1 ?_
     simp -dsimp only [simprocAttr, ↓vpre, zp, h5, hcb]
     refine .inr (.inl ⟨_, _, hlv, .inl (later_intro (zj ?_))⟩)
     refine za0 ?_
     refine zg1 ?_
     simp -dsimp only [simprocAttr, ↓vpre, zp, hr2]
     repeat (refine ⟨by omega, ?_⟩)
     refine za0 ?_
     refine awp_exit ?_
     simp -dsimp only [vend, ne_eq, Nat.reduceEqDiff, reduceCtorEq]
     refine ⟨⟨_, hXs, hstep.1, n, ?_, hnF'⟩, ?_, ?_⟩
     ·have := hstep.2
      simp only at this hn ⊢
      omega
     ·exact hstep.2
     refine zq rfl ?_ ?_
     simp -dsimp only [simprocAttr, ↓vpre, zp, zc]
     all_goals rfl
    have hde : decide (e = (B.term.to.length : Int)) = false := decide_eq_false (by rw [← hto]; exact he)
    obtain ⟨x, hx, hxb, hn1, hn2⟩ := hg.next ⟨hp.1, hp.2.1⟩ hp.2.2.1 (by omega)
    rw [hto] at hx
    refine zg2 ?_
    simp -dsimp only [simprocAttr, ↓vpre, zp, h5, hce, hde]
    refine za0 ?_
    refine zu0 rfl ?_
    refine zb0 ?_
    refine zg1 ?_
    simp -dsimp only [simprocAttr, ↓vpre, zp, h5, hce, hx]
    repeat (refine ⟨by omega, ?_⟩)
    refine za0 ?_
    obtain ⟨j, hj⟩ : ∃ j : Nat, nextOf f b e = (j : Int) := ⟨(nextOf f b e).toNat, by omega⟩
    have hjN : j < seen.length := by
     have a3 := hS.len
     simp only at a3
     omega
    rw [hj] at hxb hn1 hn2
    obtain ⟨sv, hsv⟩ : ∃ sv, seen[j]? = some sv := ⟨seen[j], List.getElem?_eq_getElem hjN⟩
    have hsvm : (seen.map eB)[j]? = some (.v (.bool sv)) := by rw [List.getElem?_map, hsv]; rfl
    have hcl : (r.length + 1) * 2 ≤ cs.length := by
     rw [hcs, List.length_append, stkC_len]
     simp
    obtain ⟨cs1, hcs1⟩ : ∃ cs1, cs1 = cs.set (r.length * 2 + 1) (aI (e + 1)) := ⟨_, rfl⟩
    have hspl : splice cs (r.length * 2 + 1) [.v (.int .i64 (e + 1))] = cs1 := by rw [splice_one _ (by omega), hcs1]
    have hcl1 : (r.length + 1) * 2 ≤ cs1.length := by rw [hcs1, List.length_set]; exact hcl
    obtain ⟨O1, hO1⟩ : ∃ O1, O1 = O.set sid (.cells cs1) := ⟨_, rfl⟩
    have g5 : O1[sid]? = some (.cells cs1) := by rw [hO1]; exact at_set h5
    have g4 : O1[2]? = some (.cells (seen.map eB)) := by rw [hO1]; exact at_set_ne h4 (by omega)
    have hcat : cellsAt O sid = cs := by simp only [cellsAt, h5]
    have h257 : (toOf f b).length ≤ 257 := hg.to _ (blkOf_mem hp.1 hp.2.1)
    refine zg1 ?_
    simp -dsimp only [simprocAttr, ↓vpre, zp, h5, hce]
    repeat (refine ⟨by omega, ?_⟩)
    refine za0 ?_
    rw [hspl, ← hO1]
    cases sv with
    | true =>
     have hsr : srStep f ⟨seen, (b, e) :: r, out⟩ = ⟨seen, (b, e + 1) :: r, out⟩ := by simp only [srStep]; rw [if_neg he, hj, Int.toNat_natCast, hsv, if_pos (show (some true).getD false = true from rfl)]
     have hso : soStep f ⟨⟨seen, (b, e) :: r, out⟩, sid, oid, O⟩ = ⟨⟨seen, (b, e + 1) :: r, out⟩, sid, oid, O1⟩ := by simp only [soStep]; rw [if_neg he, hsr, hcat, hj, Int.toNat_natCast, hsv, if_pos (show (some true).getD false = true from rfl), ← hcs1, hO1]
     rw [hso] at hXs hnF'
     simp only [hsr] at hstep
     refine zg1 ?_
     simp -dsimp only [simprocAttr, ↓vpre, zp, g4, hxb, Int.toNat_natCast, hsvm, Nat.mul_one]
     repeat (refine ⟨by omega, ?_⟩)
     refine za0 ?_
     refine zu0 rfl ?_
     refine zn1 ?_
     refine ⟨⟨_, hXs, hstep.1, n, ?_, hnF'⟩, ?_, ?_⟩
     ·have := hstep.2
      simp only at this hn ⊢
      omega
     ·exact hstep.2
     refine zq rfl ?_ ?_
     simp -dsimp only [simprocAttr, ↓vpre, zp, zc]
     all_goals rfl
    | false =>
     have hsr : srStep f ⟨seen, (b, e) :: r, out⟩ = ⟨seen.set j true, ((j : Int), 0) :: (b, e + 1) :: r, out⟩ := by simp only [srStep]; rw [if_neg he, hj, Int.toNat_natCast, hsv, if_neg (by simp)]
     obtain ⟨O2, hO2⟩ : ∃ O2, O2 = O1.set 2 (.cells ((seen.set j true).map eB)) := ⟨_, rfl⟩
     have k5 : O2[sid]? = some (.cells cs1) := by rw [hO2]; exact at_set_ne g5 (by omega)
     have hso : soStep f ⟨⟨seen, (b, e) :: r, out⟩, sid, oid, O⟩ = ⟨⟨seen.set j true, ((j : Int), 0) :: (b, e + 1) :: r, out⟩, O2.length, oid, O2.set sid .gone ++ [AObj.cells (cs1.take ((r.length + 1) * 2) ++ [aI j, aI 0])]⟩ := by
      simp only [soStep]
      rw [if_neg he, hsr, hcat, hj, Int.toNat_natCast, hsv, if_neg (by simp), ← hcs1, ← hO1, ← hO2]
     rw [hso] at hXs hnF'
     simp only [hsr] at hstep
     have hspl2 : splice (seen.map eB) j [.v (.bool true)] = (seen.set j true).map eB := by
      rw [splice_one _ (by simpa using hjN), List.map_set]
      rfl
     refine zg1 ?_
     simp -dsimp only [simprocAttr, ↓vpre, zp, g4, hxb, Int.toNat_natCast, hsvm, Nat.mul_one]
     repeat (refine ⟨by omega, ?_⟩)
     refine za0 ?_
     refine zw0 rfl ?_
     refine zg1 ?_
     simp -dsimp only [simprocAttr, ↓vpre, zp, g4, hxb, Int.toNat_natCast, Nat.mul_one]
     repeat (refine ⟨by omega, ?_⟩)
     refine za0 ?_
     rw [hspl2, ← hO2]
     refine zg0 ?_
     simp -dsimp only [simprocAttr, ↓vpre, zp, k5, hxb]
     repeat (refine ⟨by omega, ?_⟩)
     refine zl1 ?_
     refine ⟨⟨_, hXs, hstep.1, n, ?_, hnF'⟩, ?_, ?_⟩
     ·have := hstep.2
      simp only at this hn ⊢
      omega
     ·exact hstep.2
     refine zq rfl ?_ ?_
     simp -dsimp only [simprocAttr, ↓vpre, zp, zc]
     all_goals rfl
   exact af h (by omega)
 exact FSub.mp rfl rfl
def RevTo (l : List Int) (i : Nat) (m : List Int) : Prop := m.length = l.length ∧ ∀ k, k < l.length → m[k]? = if k < i ∨ l.length ≤ k + i then l[l.length - 1 - k]? else l[k]?
theorem revTo_zero (l : List Int) : RevTo l 0 l := ⟨rfl, fun k hk => by rw [if_neg (by omega)]⟩
theorem revTo_step {l m : List Int} {i : Nat} (h : RevTo l i m) (hi : 2 * i + 1 < l.length) {a b : Int} (ha : m[i]? = some a) (hb : m[l.length - 1 - i]? = some b) : RevTo l (i + 1) ((m.set i b).set (l.length - 1 - i) a) := by
 obtain ⟨h1, h2⟩ := h
 refine ⟨by simpa using h1, fun k hk => ?_⟩
 have e1 := h2 i (by omega)
 have e2 := h2 (l.length - 1 - i) (by omega)
 rw [if_neg (by omega)] at e1 e2
 rw [List.getElem?_set, List.getElem?_set]
 simp only [List.length_set]
 by_cases q1 : l.length - 1 - i = k
 ·rw [if_pos q1, if_pos (by omega), if_pos (by omega), ← ha, e1]
  congr 1
  omega
 rw [if_neg q1]
 by_cases q2 : i = k
 ·rw [if_pos q2, if_pos (by omega), if_pos (by omega), ← hb, e2, q2]
 rw [if_neg q2, h2 k hk]
 by_cases q3 : k < i ∨ l.length ≤ k + i
 ·rw [if_pos q3, if_pos (by omega)]
 rw [if_neg q3, if_neg (by omega)]
theorem revTo_done {l m : List Int} {i : Nat} (h : RevTo l i m) (hi : l.length ≤ 2 * i + 1) : m = l.reverse := by
 obtain ⟨h1, h2⟩ := h
 apply List.ext_getElem?
 intro k
 by_cases hk : k < l.length
 ·rw [h2 k hk, List.getElem?_reverse hk]
  split
  ·rfl
  congr 1
  omega
 rw [List.getElem?_eq_none (by omega), List.getElem?_eq_none (by simp; omega)]
theorem reverse_spec {O : List AObj} (hup : ∀ o ∈ O, o.upto O.length) {oid : Nat} {l : List Int} (ho : O[oid]? = some (.cells (l.map aI))) (hll : l.length ≤ 1000) :
  ECall Try.prog 85 O [.os oid l.length 1] (fun r O' => r = .tup [] ∧ O' = O.set oid (.cells (l.reverse.map aI))) := by
 have hol := lt_of_getElem? ho
 have hsame : O.set oid (.cells (l.map aI)) = O := set_same ho
 have hgt : ∀ x, (O.set oid x)[oid]? = some x := fun x => List.getElem?_set_self hol
 have htk : ∀ m : List Int, (O.set oid (.cells (m.map aI))).take O.length = O.set oid (.cells (m.map aI)) := fun m => take_set_len
 have hup2 : ∀ m : List Int, ∀ o ∈ O.set oid (.cells (m.map aI)), o.upto O.length := fun m => uptoO_set hup (aI_upto _ _)
 refine zf true O.length Try.func85 Try.ntmps85 ?_
 dsimp only [Tmp, TypeId, slotsOf]
 refine zh1 ?_
 repeat (refine ⟨by omega, ?_⟩)
 refine za0 ?_
 refine awp_block (awp_loop (ι := {x : Nat × List Int // x.1 ≤ l.length ∧ RevTo l x.1 x.2}) (fun x => ⟨28, [(0, .os oid l.length 1), (2, aI x.1.1), (3, aI ((l.length : Int) - 1 - x.1.1))], O.set oid (.cells (x.1.2.map aI))⟩) (fun x => l.length - x.1.1) ⟨(0, l), by simp, revTo_zero l⟩ ?_ ?_)
 ·refine zq rfl ?_ ?_
  simp -dsimp only [simprocAttr, ↓vpre, zp, zc]
  exact hsame.symm
 rintro ⟨⟨i, m⟩, hi, hr⟩
 simp only at hi hr
 have hml := hr.1
 refine zh2 (za0 ?_)
 apply zk0 rfl <;> intro h
 ·refine zb0 ?_
  have hlt : 2 * i + 1 < l.length := by
   have := of_decide_eq_true h
   omega
  obtain ⟨j, hj⟩ : ∃ j, j = l.length - 1 - i := ⟨_, rfl⟩
  have hji : (l.length : Int) - 1 - i = (j : Nat) := by omega
  obtain ⟨a, ha⟩ : ∃ a, m[i]? = some a := ⟨m[i]'(by omega), List.getElem?_eq_getElem _⟩
  obtain ⟨b, hb⟩ : ∃ b, m[j]? = some b := ⟨m[j]'(by omega), List.getElem?_eq_getElem _⟩
  have hnext := revTo_step hr hlt ha (by rw [← hj]; exact hb)
  rw [← hj] at hnext
  have hma : (m.map aI)[i]? = some (aI a) := by rw [List.getElem?_map, ha]; rfl
  have hmb : (m.map aI)[j]? = some (aI b) := by rw [List.getElem?_map, hb]; rfl
  have hs1 : splice (m.map aI) i [.v (.int .i64 b)] = (m.set i b).map aI := by
   rw [splice_one _ (by simp; omega), List.map_set]
  have hs2 : splice ((m.set i b).map aI) j [.v (.int .i64 a)] = ((m.set i b).set j a).map aI := by
   rw [splice_one _ (by simp; omega)]
   simp only [List.map_set]
  refine awp_seq (awp_block ?_)
  refine zg0 ?_
  simp -dsimp only [simprocAttr, ↓vpre, zp, hgt, hji, hma, hmb, Int.toNat_natCast, Nat.mul_one, hs1, hs2, List.set_set, List.length_set]
  refine ⟨by omega, by omega, by omega, by omega, by omega, by omega, ?_⟩
  refine ⟨orderB_ren [oid] O.length [.pure, .pure, .pure, .pure, .pure, .pure, .pure, .rd 0, .pure, .pure, .pure, .rd 0, .pure, .wr 1 [0], .pure, .wr 1 [0]] (by simp) (by simp; omega) rfl rfl (by kernel_rfl), at_intro ?_⟩
  simp -dsimp only [vend, ne_eq, Nat.reduceEqDiff, reduceCtorEq]
  refine zh0 ?_
  repeat (refine ⟨by omega, ?_⟩)
  refine zl0 ?_
  refine ⟨⟨(i + 1, _), by simp only; omega, hnext⟩, by simp; omega, ?_⟩
  refine zq rfl ?_ ?_
  simp -dsimp only [simprocAttr, ↓vpre, zp, zc]
  ·exact ⟨Sub.int (by simp), Sub.int (by omega)⟩
  rfl
 refine awp_exit ?_
 simp -dsimp only [vend, ne_eq, Nat.reduceEqDiff, reduceCtorEq]
 have hge : l.length ≤ 2 * i + 1 := by
  have := of_decide_eq_false h
  omega
 rw [revTo_done hr hge]
 skip
 simp -dsimp only [simprocAttr, ↓vpre, zp, zr, Try.results85, htk, List.length_set]
 exact ⟨hup2 _, trivial⟩
def orderM (f : Func) : List Int := (searchM f).reverse
def orderR (f : Func) : AVal := if checkFuncM f = 0 then .tup [eIs (orderM f), aI 0] else .tup [eIs [], aI (checkFuncM f)]
theorem sr_out {f : Func} : ∀ (n : Nat) (S : Sr), (S.st = [] → S.out ≠ []) → (srRun f n S).st = [] → (srRun f n S).out ≠ []
 | 0, S, h, he => h he
 | n + 1, S, h, he => by
  simp only [srRun] at he ⊢
  cases hst : S.st with
  | nil =>
   rw [hst] at he
   simp only [List.isEmpty_nil, if_true] at he ⊢
   exact h hst
  | cons p r =>
   rw [hst] at he
   simp only [List.isEmpty_cons, Bool.false_eq_true, if_false] at he ⊢
   refine sr_out n _ (fun q => ?_) he
   obtain ⟨b, e⟩ := p
   simp only [srStep, hst] at q ⊢
   split
   ·simp
   rename_i hne
   rw [if_neg hne] at q
   split at q <;> simp at q
theorem soRun_ok {f : Func} : ∀ (n : Nat) (X : So), SO X → SO (soRun f n X)
 | 0, X, h => h
 | n + 1, X, h => by
  simp only [soRun]
  split
  ·exact h
  exact soRun_ok n _ h.step
theorem searchM_few {f : Func} (hg : GrW f) : searchM f ≠ [] ∧ (searchM f).length ≤ 128 ∧ ∀ b ∈ searchM f, 0 ≤ b ∧ b < f.blocks.length := by
 have h0 := srStart_ok hg
 have h1 := srRun_ok hg 100000 _ h0.1 h0.2
 have h2 := sr_out 100000 (srStart f) (fun q => by simp [srStart] at q) h1.2
 have a1 := h1.1.few
 have a2 : (srRun f 100000 (srStart f)).seen.countP id ≤ (srRun f 100000 (srStart f)).seen.length := List.countP_le_length
 have a3 := h1.1.len
 have a4 := hg.few
 exact ⟨h2, by unfold searchM; omega, h1.1.outs⟩
theorem aI_cellsAll (l : List Int) : (l.map aI).map AVal.shareCell = cellsAll (l.map aI) := by
 induction l with
 | nil => rfl
 | cons a r ih =>
  simp only [List.map_cons, cellsAll, List.flatMap_cons] at ih ⊢
  rw [ih]
  rfl
theorem order_spec (f : Func) (hfit : f.fit) : PCall Try.prog 56 [f.enc] (orderR f) := by
 have hck := checkFunc_spec f hfit
 unfold orderR
 by_cases hc : checkFuncM f = 0
 ·rw [if_pos hc]
  rw [hc] at hck
  have hg := (checkFunc_ok hfit hc).gr
  have hsr := search_spec f hg
  obtain ⟨f1, f2, _⟩ := searchM_few hg
  have hXS : (soRun f 100000 (soStart f)).S = srRun f 100000 (srStart f) := soRun_S f 100000 (soStart f)
  have hX := soRun_ok (f := f) 100000 _ (soStart_ok f)
  obtain ⟨X, hXe⟩ : ∃ X, X = soRun f 100000 (soStart f) := ⟨_, rfl⟩
  rw [← hXe] at hsr hX hXS
  have hout : X.S.out = searchM f := by rw [hXS]; rfl
  unfold orderM
  obtain ⟨l, hl⟩ : ∃ l, l = searchM f := ⟨_, rfl⟩
  rw [← hl] at f1 f2 hout ⊢
  have h1 := hX.out
  rw [hout, outV, if_neg f1] at h1
  obtain ⟨h2, h3, h4⟩ := hX.outs (by rw [hout]; exact f1)
  rw [hout] at h2
  have hup := hX.up
  obtain ⟨S, sid, oid, O⟩ := X
  simp only at h1 h2 h3 h4 hup hsr
  have hrev := reverse_spec hup h2 (by omega)
  have h1' : (O.set oid (.cells (l.reverse.map aI)))[1]? = some (.cells [.os oid l.length 1]) := at_set_ne h1 (by omega)
  have h2' : (O.set oid (.cells (l.reverse.map aI)))[oid]? = some (.cells (l.reverse.map aI)) := at_set h2
  refine zf true 0 Try.func56 Try.ntmps56 ?_
  dsimp only [Tmp, TypeId, slotsOf]
  refine zh1 (za0 ?_)
  refine awp_freeze1 1 0 (.ip none [aI f.name, eBlocks f.blocks]) rfl (by simp [AObj.isSpare]) trivial rfl ?_ ?_
  rotate_left
  simp -dsimp only [simprocAttr, ↓vpre, zp]
  ·refine zh2 ?_
   refine zi hck ?_
   refine za0 ?_
   refine zh1 (za0 ?_)
   refine zu0 rfl ?_
   refine zb0 ?_
   refine zh1 (za0 ?_)
   refine zh1 ?_
   refine .inr (.inl ⟨_, _, hsr, .inl (later_intro (zj ?_))⟩)
   refine za0 ?_
   refine zg1 ?_
   simp -dsimp only [simprocAttr, ↓vpre, zp, h1]
   refine .inr (.inl ⟨_, _, hrev, .inl (later_intro (zj ?_))⟩)
   refine za0 ?_
   refine zg1 ?_
   simp -dsimp only [simprocAttr, ↓vpre, zp, h1']
   refine za0 ?_
   refine awp_freeze1 2 oid (o := .cells (l.reverse.map aI)) (eIs l.reverse) h2' (by simp [AObj.isSpare]) trivial rfl (FSub.os (cs := l.reverse.map aI) h2' ?_ ?_ ?_) ?_
   ·intro x hx
    obtain ⟨c, _, rfl⟩ := List.mem_map.1 hx
    rfl
   ·simp
   ·rw [List.drop_zero, List.take_of_length_le (by simp)]
    exact aI_cellsAll _
   simp -dsimp only [simprocAttr, ↓vpre, zp]
   refine awp_ret ?_
   simp -dsimp only [simprocAttr, ↓vpre, zp, zr, Try.results56]
   exact ⟨⟨aI_upto _ _, trivial⟩, trivial, trivial⟩
  exact FSub.mp rfl rfl
 rw [if_neg hc]
 obtain ⟨e, he⟩ : ∃ e, e = checkFuncM f := ⟨_, rfl⟩
 rw [← he] at hc hck ⊢
 have hde : decide (e = 0) = false := decide_eq_false hc
 refine zf true 0 Try.func56 Try.ntmps56 ?_
 dsimp only [Tmp, TypeId, slotsOf]
 refine zh1 (za0 ?_)
 refine awp_freeze1 1 0 (.ip none [aI f.name, eBlocks f.blocks]) rfl (by simp [AObj.isSpare]) trivial rfl ?_ ?_
 rotate_left
 simp -dsimp only [simprocAttr, ↓vpre, zp]
 ·refine zh2 ?_
  refine zi hck ?_
  refine za0 ?_
  refine zg1 ?_
  simp -dsimp only [simprocAttr, ↓vpre, zp, hde]
  refine za0 ?_
  refine zw0 rfl ?_
  refine zh1 (za0 ?_)
  refine awp_ret ?_
  simp -dsimp only [simprocAttr, ↓vpre, zp, zr, Try.results56]
  simp [uptoL, AVal.upto]
 exact FSub.mp rfl rfl

def Edg (f : Func) (a b : Int) : Prop := ∃ x ∈ toOf f a, x.block = b
def StC (f : Func) : List (Int × Int) → Prop
  | [] => True
  | [p] => p.1 = 0
  | p :: q :: r => Edg f q.1 p.1 ∧ p.1 ≠ 0 ∧ StC f (q :: r)
theorem StC.tail {f : Func} {p : Int × Int} {r : List (Int × Int)} (h : StC f (p :: r)) : StC f r := by
  cases r with
  | nil => trivial
  | cons q r => exact h.2.2
theorem StC.head {f : Func} {b e e' : Int} {r : List (Int × Int)} (h : StC f ((b, e) :: r)) : StC f ((b, e') :: r) := by
  cases r with
  | nil => exact h
  | cons q r => exact h
structure Jn (f : Func) (S : Sr) : Prop where
  st : StC f S.st
  out : ∀ i v, S.out[i]? = some v → (v ≠ 0 ∧ ∃ a, Edg f a v ∧ ((∃ j, i < j ∧ S.out[j]? = some a) ∨ ∃ e, (a, e) ∈ S.st)) ∨ (v = 0 ∧ S.st = [] ∧ i + 1 = S.out.length)
theorem Jn.step {f : Func} (hg : GrW f) {S : Sr} (hS : SrOK f S) (h : Jn f S) : Jn f (srStep f S) := by
  obtain ⟨seen, st, out⟩ := S
  obtain ⟨h1, h2⟩ := h
  simp only at h1 h2
  cases st with
  | nil => exact ⟨h1, h2⟩
  | cons p r =>
    obtain ⟨b, e⟩ := p
    have hp := hS.blk (b, e) (by simp)
    simp only at hp
    have hold : ∀ i v, out[i]? = some v → v ≠ 0 ∧ ∃ a, Edg f a v ∧ ((∃ j, i < j ∧ out[j]? = some a) ∨ ∃ e', (a, e') ∈ (b, e) :: r) := fun i v hi => by
      rcases h2 i v hi with q | ⟨_, q, _⟩
      · exact q
      cases q
    simp only [srStep]
    split
    · refine ⟨h1.tail, fun i v hi => ?_⟩
      simp only at hi ⊢
      by_cases hlt : i < out.length
      · rw [List.getElem?_append_left hlt] at hi
        obtain ⟨q0, a, q1, q2⟩ := hold i v hi
        refine .inl ⟨q0, a, q1, ?_⟩
        rcases q2 with ⟨j, q2, q3⟩ | ⟨e', q2⟩
        · exact .inl ⟨j, q2, by rw [List.getElem?_append_left (lt_of_getElem? q3)]; exact q3⟩
        rcases List.mem_cons.1 q2 with q | q
        · simp only [Prod.mk.injEq] at q
          exact .inl ⟨out.length, hlt, by rw [q.1]; simp⟩
        exact .inr ⟨e', q⟩
      have hi' := lt_of_getElem? hi
      simp only [List.length_append, List.length_cons, List.length_nil] at hi'
      have : i = out.length := by omega
      subst this
      simp at hi
      subst hi
      cases r with
      | nil => exact .inr ⟨h1, rfl, by simp⟩
      | cons q r => exact .inl ⟨h1.2.1, q.1, h1.1, .inr ⟨q.2, by simp⟩⟩
    rename_i he
    obtain ⟨x, hx, hxb, hn1, hn2⟩ := hg.next ⟨hp.1, hp.2.1⟩ hp.2.2.1 (by omega)
    split
    · refine ⟨h1.head, fun i v hi => .inl ?_⟩
      obtain ⟨q0, a, q1, q2⟩ := hold i v hi
      refine ⟨q0, a, q1, ?_⟩
      rcases q2 with q2 | ⟨e', q2⟩
      · exact .inl q2
      rcases List.mem_cons.1 q2 with q | q
      · simp only [Prod.mk.injEq] at q
        exact .inr ⟨e + 1, by simp [q.1]⟩
      exact .inr ⟨e', by simp [q]⟩
    refine ⟨⟨⟨x, List.mem_of_getElem? hx, hxb⟩, by simp only; omega, h1.head⟩, fun i v hi => .inl ?_⟩
    obtain ⟨q0, a, q1, q2⟩ := hold i v hi
    refine ⟨q0, a, q1, ?_⟩
    rcases q2 with q2 | ⟨e', q2⟩
    · exact .inl q2
    rcases List.mem_cons.1 q2 with q | q
    · simp only [Prod.mk.injEq] at q
      exact .inr ⟨e + 1, by simp [q.1]⟩
    exact .inr ⟨e', by simp [q]⟩
theorem Jn.run {f : Func} (hg : GrW f) : ∀ (n : Nat) (S : Sr), SrOK f S → Jn f S → Jn f (srRun f n S)
  | 0, S, _, h => h
  | n + 1, S, hS, h => by
    simp only [srRun]
    cases hst : S.st with
    | nil => simpa [hst] using h
    | cons p r =>
      simp only [List.isEmpty_cons, Bool.false_eq_true, if_false]
      exact Jn.run hg n _ (srStep_ok hg hS (by rw [hst]; simp)).1 (h.step hg hS)
theorem Jn.start (f : Func) : Jn f (srStart f) := ⟨rfl, fun i v h => by simp [srStart] at h⟩
theorem order_law {f : Func} (hg : GrW f) {n : Nat} {v : Int} (h : (orderM f)[n]? = some v) : (n = 0 ∧ v = 0) ∨ ∃ a, Edg f a v ∧ a ∈ (orderM f).take n := by
  have h0 := srStart_ok hg
  have h1 := srRun_ok hg 100000 _ h0.1 h0.2
  have hJ := Jn.run hg 100000 _ h0.1 (Jn.start f)
  have hn := lt_of_getElem? h
  unfold orderM searchM at *
  generalize srRun f 100000 (srStart f) = S at *
  have hl : n < S.out.length := by simpa using hn
  rw [List.getElem?_reverse hl] at h
  rcases hJ.out _ _ h with ⟨_, a, q1, q2⟩ | ⟨q1, _, q3⟩
  · rcases q2 with ⟨j, q3, q4⟩ | ⟨e, q3⟩
    · refine .inr ⟨a, q1, ?_⟩
      have hj := lt_of_getElem? q4
      have : (S.out.reverse)[S.out.length - 1 - j]? = some a := by
        rw [List.getElem?_reverse (by omega), ← q4]
        congr 1
        omega
      exact List.mem_of_getElem? (i := S.out.length - 1 - j) (by rw [List.getElem?_take, if_pos (by omega)]; exact this)
    rw [h1.2] at q3
    cases q3
  exact .inl ⟨by omega, q1⟩
structure Nd (f : Func) (S : Sr) : Prop where
  nd : (S.out ++ S.st.map (·.1)).Nodup
  seen : ∀ v, v ∈ S.out ++ S.st.map (·.1) ↔ (0 ≤ v ∧ S.seen[v.toNat]?.getD false = true)
  outs : ∀ v ∈ S.out, ∀ x ∈ toOf f v, S.seen[x.block.toNat]?.getD false = true
  st : ∀ p ∈ S.st, ∀ (j : Nat) x, (j : Int) < p.2 → (toOf f p.1)[j]? = some x → S.seen[x.block.toNat]?.getD false = true
theorem getD_set_mono {l : List Bool} {k j : Nat} (h : l[j]?.getD false = true) : (l.set k true)[j]?.getD false = true := by
  have hj : j < l.length := by
    refine Classical.byContradiction fun q => ?_
    rw [List.getElem?_eq_none (by omega)] at h
    cases h
  by_cases e : k = j
  · subst e
    rw [List.getElem?_set_self hj]
    rfl
  rw [List.getElem?_set_ne e]
  exact h
theorem Nd.step {f : Func} (hg : GrW f) {S : Sr} (hS : SrOK f S) (h : Nd f S) : Nd f (srStep f S) := by
  obtain ⟨seen, st, out⟩ := S
  obtain ⟨h1, h2, h3, h4⟩ := h
  simp only at h1 h2 h3 h4
  cases st with
  | nil => exact ⟨h1, h2, h3, h4⟩
  | cons p r =>
    obtain ⟨b, e⟩ := p
    have hp := hS.blk (b, e) (by simp)
    simp only at hp
    have hlen := hS.len
    simp only at hlen
    simp only [srStep]
    split
    · rename_i he
      refine ⟨?_, fun v => ?_, fun v hv x hx => ?_, fun q hq => h4 q (by simp [hq])⟩
      · simp only [List.append_assoc, List.cons_append, List.nil_append]
        simpa using h1
      · rw [← h2 v]
        simp only [List.append_assoc, List.cons_append, List.nil_append, List.map_cons]
      simp only at hv ⊢
      rcases List.mem_append.1 hv with q | q
      · exact h3 v q x hx
      rw [List.mem_singleton.1 q] at hx
      obtain ⟨j, hj⟩ := List.getElem?_of_mem hx
      have := lt_of_getElem? hj
      exact h4 (b, e) (by simp) j x (by simp only; omega) hj
    rename_i he
    obtain ⟨x, hx, hxb, hn1, hn2⟩ := hg.next ⟨hp.1, hp.2.1⟩ hp.2.2.1 (by omega)
    split
    · rename_i hs
      refine ⟨by simpa using h1, fun v => by simpa using h2 v, h3, fun q hq j y hj hy => ?_⟩
      simp only at hq ⊢
      rcases List.mem_cons.1 hq with q' | q'
      · subst q'
        simp only at hj hy
        by_cases hje : (j : Int) < e
        · exact h4 (b, e) (by simp) j y hje hy
        have : j = e.toNat := by omega
        subst this
        rw [hx] at hy
        simp only [Option.some.injEq] at hy
        subst hy
        rw [hxb]
        exact hs
      exact h4 q (by simp [q']) j y hj hy
    rename_i hs
    have hnw : nextOf f b e ∉ out ++ (b :: r.map (·.1)) := fun hm => by
      have := (h2 (nextOf f b e)).1 (by simpa using hm)
      exact hs this.2
    have hk : (nextOf f b e).toNat < seen.length := by omega
    refine ⟨?_, fun v => ?_, fun v hv y hy => getD_set_mono (h3 v hv y hy), fun q hq j y hj hy => ?_⟩
    · simp only [List.map_cons] at h1 ⊢
      rw [List.nodup_append] at h1 ⊢
      simp only [List.mem_append, not_or] at hnw
      refine ⟨h1.1, List.nodup_cons.2 ⟨hnw.2, h1.2.1⟩, fun a ha c hc => ?_⟩
      rcases List.mem_cons.1 hc with q | q
      · subst q
        exact fun e => hnw.1 (e ▸ ha)
      exact h1.2.2 a ha c q
    · simp only [List.map_cons]
      have h2' := h2 v
      simp only [List.map_cons] at h2'
      by_cases e1 : v = nextOf f b e
      · subst e1
        rw [List.getElem?_set_self hk]
        simp
        omega
      have : v ∈ out ++ nextOf f b e :: b :: r.map (·.1) ↔ v ∈ out ++ (b :: r.map (·.1)) := by
        simp only [List.mem_append, List.mem_cons, e1, false_or]
      rw [this, h2']
      by_cases h0 : 0 ≤ v
      · rw [List.getElem?_set_ne (by omega)]
      simp [h0]
    simp only at hq ⊢
    rcases List.mem_cons.1 hq with q' | q'
    · subst q'
      simp only at hj
      omega
    rcases List.mem_cons.1 q' with q' | q'
    · subst q'
      simp only at hj hy
      by_cases hje : (j : Int) < e
      · exact getD_set_mono (h4 (b, e) (by simp) j y hje hy)
      have : j = e.toNat := by omega
      subst this
      rw [hx] at hy
      simp only [Option.some.injEq] at hy
      subst hy
      rw [hxb, List.getElem?_set_self hk]
      rfl
    exact getD_set_mono (h4 q (by simp [q']) j y hj hy)
theorem Nd.run {f : Func} (hg : GrW f) : ∀ (n : Nat) (S : Sr), SrOK f S → Nd f S → Nd f (srRun f n S)
  | 0, S, _, h => h
  | n + 1, S, hS, h => by
    simp only [srRun]
    cases hst : S.st with
    | nil => simpa [hst] using h
    | cons p r =>
      simp only [List.isEmpty_cons, Bool.false_eq_true, if_false]
      exact Nd.run hg n _ (srStep_ok hg hS (by rw [hst]; simp)).1 (h.step hg hS)
theorem Nd.start {f : Func} (hg : GrW f) : Nd f (srStart f) := by
  have hl := List.length_pos_iff.2 hg.ne
  refine ⟨by simp [srStart], fun v => ?_, fun v hv => by simp [srStart] at hv, fun p hp j x hj => ?_⟩
  · simp only [srStart, List.nil_append, List.map_cons, List.map_nil, List.mem_singleton]
    constructor
    · intro e
      subst e
      refine ⟨by omega, ?_⟩
      rw [Int.toNat_zero, List.getElem?_set_self (by simpa using hl)]
      rfl
    rintro ⟨h0, h⟩
    refine Classical.byContradiction fun q => ?_
    rw [List.getElem?_set_ne (by omega), List.getElem?_replicate] at h
    split at h <;> simp at h
  simp only [srStart, List.mem_singleton] at hp
  subst hp
  simp only at hj
  omega
theorem idxI_mem {l : List Int} {n : Int} : (0 ≤ idxI l n ↔ n ∈ l) ∧ (0 ≤ idxI l n → l[(idxI l n).toNat]? = some n) := by
  unfold idxI
  have hm : l.findIdx (· == n) < l.length ↔ n ∈ l := by
    rw [List.findIdx_lt_length]
    simp
  by_cases h : l.findIdx (· == n) < l.length
  · rw [if_pos h]
    refine ⟨⟨fun _ => hm.1 h, fun _ => by omega⟩, fun _ => ?_⟩
    have := List.findIdx_getElem (w := h)
    simp only [beq_iff_eq] at this
    rw [Int.toNat_natCast, List.getElem?_eq_getElem h, this]
  rw [if_neg h]
  exact ⟨⟨fun q => absurd q (by omega), fun q => absurd (hm.2 q) h⟩, fun q => absurd q (by omega)⟩
def plF (f : Func) (k : Int) : Int := idxI (orderM f) k
structure OrdW (f : Func) : Prop where
  inj : ∀ a b, 0 ≤ plF f a → plF f a = plF f b → a = b
  zero : plF f 0 = 0
  at_ : ∀ (i : Nat) v, (orderM f)[i]? = some v → plF f v = i
  get : ∀ v, 0 ≤ plF f v → (orderM f)[(plF f v).toNat]? = some v
  low : ∀ v, -1 ≤ plF f v ∧ plF f v < (orderM f).length
  fwd : ∀ v, 1 ≤ plF f v → ∃ a, Edg f a v ∧ 0 ≤ plF f a ∧ plF f a < plF f v
  next : ∀ a b, 0 ≤ plF f a → Edg f a b → 0 ≤ plF f b
  range : ∀ v, 0 ≤ plF f v → 0 ≤ v ∧ v < f.blocks.length
  few : (orderM f).length ≤ 128
  pos : 0 < (orderM f).length
theorem ord_w {f : Func} (hg : GrW f) : OrdW f := by
  obtain ⟨g1, g2, g3⟩ := searchM_few hg
  have h0 := srStart_ok hg
  have h1 := srRun_ok hg 100000 _ h0.1 h0.2
  have hN := Nd.run hg 100000 _ h0.1 (Nd.start hg)
  have hnd : (orderM f).Nodup := by
    have := hN.nd
    rw [h1.2] at this
    simp only [List.map_nil, List.append_nil] at this
    unfold orderM List.Nodup
    rw [List.pairwise_reverse]
    exact List.Pairwise.imp (fun h => Ne.symm h) this
  have hmem : ∀ v, v ∈ orderM f ↔ v ∈ searchM f := fun v => by simp [orderM]
  have hne : 0 < (orderM f).length := by
    have : orderM f ≠ [] := by simpa [orderM] using g1
    exact List.length_pos_iff.2 this
  have hget : ∀ v, 0 ≤ plF f v → (orderM f)[(plF f v).toNat]? = some v := fun v hv => idxI_mem.2 hv
  have hat : ∀ (i : Nat) v, (orderM f)[i]? = some v → plF f v = i := fun i v hi => by
    have hm : v ∈ orderM f := List.mem_of_getElem? hi
    have h2 := hget v (idxI_mem.1.2 hm)
    have h3 : 0 ≤ plF f v := idxI_mem.1.2 hm
    have := (List.getElem?_inj (lt_of_getElem? h2) hnd).1 (h2.trans hi.symm)
    omega
  have hlow : ∀ v, -1 ≤ plF f v ∧ plF f v < (orderM f).length := fun v => by
    unfold plF idxI
    split
    · omega
    omega
  refine ⟨fun a b ha e => ?_, ?_, hat, hget, hlow, fun v hv => ?_, fun a b ha e => ?_, fun v hv => ?_, by simpa [orderM] using g2, hne⟩
  · have h2 := hget a ha
    have h3 := hget b (by omega)
    rw [e, h3] at h2
    simpa using h2.symm
  · have : (orderM f)[0]? = some (orderM f)[0] := List.getElem?_eq_getElem hne
    rcases order_law hg this with ⟨_, q⟩ | ⟨a, _, q⟩
    · have := hat 0 _ this
      rw [q] at this
      simpa using this
    simp at q
  · have h2 := hget v (by omega)
    rcases order_law hg h2 with ⟨q, _⟩ | ⟨a, q1, q2⟩
    · omega
    obtain ⟨j, hj⟩ := List.getElem?_of_mem q2
    rw [List.getElem?_take] at hj
    split at hj
    · have := hat j a hj
      exact ⟨a, q1, by omega, by omega⟩
    cases hj
  · have hm : a ∈ searchM f := (hmem a).1 (idxI_mem.1.1 ha)
    obtain ⟨x, hx, hxb⟩ := e
    have := hN.outs a hm x hx
    rw [hxb] at this
    have hb : 0 ≤ b := by
      have hra := g3 a hm
      have := hg.edges _ (blkOf_mem hra.1 hra.2) x hx
      omega
    have h3 := (hN.seen b).2 ⟨hb, this⟩
    rw [h1.2] at h3
    simp only [List.map_nil, List.append_nil] at h3
    exact idxI_mem.1.2 ((hmem b).2 h3)
  exact g3 v ((hmem v).1 (idxI_mem.1.1 hv))
def atI (l : List Int) (k : Int) : Int := l[k.toNat]?.getD (-1)

end Go.Proofs.Ytlclgfgmhnmnaaa
namespace Go.Proofs.Ytlclgfgmhnmnaaa
open Go.Av Go.Sort
def sortI (l : List Int) : List Int := l.mergeSort fun x y => decide (x ≤ y)
theorem sortI_perm (l : List Int) : (sortI l).Perm l := List.mergeSort_perm _ _
theorem sortI_sorted (l : List Int) : (sortI l).Pairwise (fun x y => x ≤ y) := by
  have h := List.pairwise_mergeSort (le := fun x y : Int => decide (x ≤ y)) (fun a b c h1 h2 => by simp only [decide_eq_true_eq] at h1 h2 ⊢; omega) (fun a b => by simp only [Bool.or_eq_true, decide_eq_true_eq]; omega) l
  exact h.imp fun q => by simpa using q
def SortCalls (P : Program) (f : FuncId) : Prop := ∀ (blk off cap : Nat) (zs : List Int) (w : World), Go.Sort.Holds (Value.int .i64) w blk off zs.toArray → blk < w.heap.size → zs.length < 4611686018427387904 →
  Calls P f #[.slice (some ⟨blk, off, none⟩) zs.length cap] w fun e w' =>
    e = .returned (.tuple #[]) ∧ ∃ n os, w' = grow (putRow (Value.int .i64) (Sort.ahead w n) blk off (zs.mergeSort fun x y => decide (x ≤ y)).toArray) os
theorem sort_bridge {P : Program} {f : FuncId} (hen : Go.Av.Enters P f) (hc : SortCalls P f) {O : List AObj} {id : Nat} {zs : List Int} (ho : O[id]? = some (.cells (zs.map aI))) (hl : zs.length ≤ 1000) :
    ECall P f O [.os id zs.length 1] (fun r O' => r = .tup [] ∧ O' = O.set id (.cells ((sortI zs).map aI))) := by
  refine ⟨hen, fun g vs hg hgo hvs => ?_⟩
  subst hgo
  obtain ⟨h1, h2⟩ := hvs
  simp only [List.length_singleton] at h1
  have hv0 : vs[0]? = some (vs[0]'(by omega)) := Array.getElem?_eq_getElem _
  obtain ⟨l, o, cap, he, hobj, hns, hcap, hb, hmax, hve⟩ := (h2 0 _ _ rfl hv0).os_inv
  have hvs : vs = #[.slice (some ⟨l.block, 0, none⟩) zs.length cap] := by
    apply Array.ext
    · simpa using h1
    intro i hi1 hi2
    have : i = 0 := by omega
    subst this
    exact hve
  subst hvs
  obtain ⟨arr, t, hlo, hrow, hlen, hcs, hcsc, hlsz⟩ := hg.row ho he
  rw [List.length_map] at hlen
  have hcell : ∀ (j : Nat) x, zs[j]? = some x → arr[j]? = some (.int .i64 x) ∧ flatOK (.int .i64 x) := fun j x hj => by
    have hjl := lt_of_getElem? hj
    have hja : arr[j]? = some (arr[j]'(by omega)) := Array.getElem?_eq_getElem _
    obtain ⟨e, hf⟩ := (hcs j (aI x) _ (by simp [hj]) hja).v_inv
    exact ⟨by rw [hja, e], hf⟩
  have hH : Go.Sort.Holds (Value.int .i64) g.w l.block 0 zs.toArray := fun j hj => by
    have hj' : j < zs.length := by simpa using hj
    refine ⟨?_, by simp [World.frozen?, hrow]⟩
    rw [show g.w.cell? ⟨l.block, 0 + j, none⟩ = arr[0 + j]? from Go.Av.cell_of_row hrow (0 + j), Nat.zero_add, (hcell j _ (List.getElem?_eq_getElem hj')).1]
    simp [hj']
  refine (hc l.block 0 cap zs g.w hH (lt_of_getElem?' hrow) (by omega)).mono ?_
  rintro e w' ⟨rfl, n, os, hw'⟩
  have hss : (zs.mergeSort fun x y => decide (x ≤ y)) = sortI zs := rfl
  rw [hss] at hw'
  have hp := sortI_perm zs
  obtain ⟨ss, hse⟩ : ∃ ss, ss = sortI zs := ⟨_, rfl⟩
  rw [← hse] at hw' hp ⊢
  have hsl := hp.length_eq
  have hblt := lt_of_getElem?' hrow
  have hsame : ∀ k, k < g.w.heap.size → w'.heap[k]? = (g.w.heap.modify l.block (onCells (putCells (Value.int .i64) 0 ss.toArray)))[k]? := fun k hk => by
    subst hw'
    simp only [grow, putRow, mapBlock, Sort.ahead]
    rw [Array.getElem?_append_left (by simpa using hk)]
  have hrow' : w'.heap[l.block]? = some (.cells (putCells (Value.int .i64) 0 ss.toArray arr) t (0, 0)) := by
    rw [hsame _ hblt, Array.getElem?_modify, if_pos rfl, hrow]
    rfl
  have hoth : ∀ k, k < g.w.heap.size → k ≠ l.block → w'.heap[k]? = g.w.heap[k]? := fun k hk hne => by
    rw [hsame k hk, Array.getElem?_modify, if_neg (fun q => hne q.symm)]
  have hput : ∀ (j : Nat) x, ss[j]? = some x → (putCells (Value.int .i64) 0 ss.toArray arr)[j]? = some (.int .i64 x) := fun j x hj => by
    have hjl := lt_of_getElem? hj
    have hja : arr[j]? = some (arr[j]'(by omega)) := Array.getElem?_eq_getElem _
    simp only [putCells, Array.getElem?_mapIdx, hja, Option.map_some, Nat.zero_add, Nat.zero_le, true_and, Nat.sub_zero, List.size_toArray]
    rw [if_pos hjl]
    simp [hj]
  have hturn : Turns g id (.cells (zs.map aI)) (some l) (.cells (ss.map aI)) w' :=
    { obj := ho
      os := by rw [hw']; rfl
      tape := by rw [hw']; rfl
      output := by rw [hw']; rfl
      size := by rw [hw']; simp [grow, putRow, mapBlock, Sort.ahead]
      block := fun k hk hne => hoth k hk fun e => hne l he trivial e.symm
      cell := fun b off x hx hb => by
        by_cases e : b = l.block
        · have := hb l he trivial e.symm
          omega
        rw [cell_congr (hoth b (cell_lt hx) e)]
        exact hx
      place := fun l1 h1 _ => by
        simp only [Option.some.injEq] at h1
        subst h1
        exact .inr ⟨l, he, trivial, rfl, Nat.le_refl _⟩
      spare := fun m h => by cases h
      plain := fun _ => ⟨by simp [AObj.isSpare], he⟩
      gone := by simp }
  refine ⟨g.turn id (some l) (.cells (ss.map aI)) w', .tuple #[], .tup [], rfl, rfl, Le.turn hg hturn, Good.turn hg hturn ?_ ?_, .tup rfl (by simp), rfl, rfl⟩
  · refine ⟨l, _, t, rfl, hlo, hrow', by simp [putCells, hsl]; omega, fun j c u hj hu => ?_, fun c hc => ?_, by simpa [putCells] using hlsz⟩
    · rw [List.getElem?_map] at hj
      obtain ⟨x, hx, rfl⟩ := Option.map_eq_some_iff.1 hj
      rw [hput j x hx] at hu
      simp only [Option.some.injEq] at hu
      subst hu
      have hm : x ∈ zs := hp.subset (List.mem_of_getElem? hx)
      obtain ⟨i, hi⟩ := List.getElem?_of_mem hm
      exact .v (hcell i x hi).2
    obtain ⟨x, _, rfl⟩ := List.mem_map.1 hc
    trivial
  intro l1 h1 _
  simp only [Option.some.injEq] at h1
  subst h1
  rw [hw']
  simp [grow, putRow, mapBlock, Sort.ahead]
  omega
end Go.Proofs.Ytlclgfgmhnmnaaa
namespace Go.Proofs.Ytlclgfgmhnmnaaa
open Go.Av
def rchS (f : Func) : List Int := sortI (orderM f)
theorem mem_rchS {f : Func} {k : Int} : k ∈ rchS f ↔ 0 ≤ plF f k := by
  unfold rchS plF
  rw [(sortI_perm _).mem_iff]
  exact idxI_mem.1.symm
theorem rchS_len (f : Func) : (rchS f).length = (orderM f).length := (sortI_perm _).length_eq
end Go.Proofs.Ytlclgfgmhnmnaaa
namespace Go.Av
theorem awp_frzp {P : Program} {kb : Nat} {c : Code} {Q : AEx → St → Prop} {n : Nat} {slots : List (Nat × AVal)} {A : Nat} {C : Nat → List AVal} {N M : Nat} (pos : Nat → Nat)
    (hsc : ∀ i, ∀ d ∈ C i, d.scalar) (hl : ∀ i, (C i).length = M) (F : Nat → List AObj → Prop)
    (hF : ∀ i O, i < N → O[A]? = some (.cells (C i)) → F i O → (C (i + 1) = C i ∧ F (i + 1) O) ∨
      ∃ id o x y, id ≠ A ∧ O[id]? = some o ∧ ¬ o.isSpare ∧ o.live ∧ (C i)[pos i]? = some x ∧ (C (i + 1)) = (C i).set (pos i) y ∧ FSub O id x y ∧ F (i + 1) ((O.set id .gone).set A (.cells (C (i + 1))))) :
    ∀ (m i : Nat) (O : List AObj), i + m = N → O[A]? = some (.cells (C i)) → F i O → (∀ O', O'.length = O.length → O'[A]? = some (.cells (C N)) → F N O' → AWP P kb c Q ⟨n, slots, O'⟩) → AWP P kb c Q ⟨n, slots, O⟩
  | 0, i, O, hi, hA, hf, h => by
    have : i = N := by omega
    subst this
    exact h O rfl hA hf
  | m + 1, i, O, hi, hA, hf, h => by
    rcases hF i O (by omega) hA hf with ⟨e, hf'⟩ | ⟨id, o, x, y, h1, h2, h3, h4, h5, h6, h7, hf'⟩
    · exact awp_frzp pos hsc hl F hF m (i + 1) O (by omega) (by rw [e]; exact hA) hf' h
    have hAl := lt_of_getElem? hA
    refine awp_freeze_in id h2 h3 h4 slots (fun s z hz => ⟨z, hz, .refl z⟩) A (Ne.symm h1) (C i) (C (i + 1)) hA (by rw [hl, hl]) (hsc (i + 1)) (fun j a b ha hb => ?_) (awp_frzp pos hsc hl F hF m (i + 1) _ (by omega) (by rw [List.getElem?_set_self (by rw [List.length_set]; exact hAl)]) hf' fun O' hO' => h O' (by rw [hO', List.length_set, List.length_set]))
    rw [h6, List.getElem?_set] at hb
    split at hb
    · rename_i e
      rw [← e, h5] at ha
      rw [if_pos (lt_of_getElem? h5)] at hb
      simp only [Option.some.injEq] at ha hb
      subst ha
      subst hb
      exact h7
    rw [ha] at hb
    simp only [Option.some.injEq] at hb
    subst hb
    exact .refl _
end Go.Av
namespace Go.Proofs.Ytlclgfgmhnmnaaa
open Go.Av
def renE (A : List Int) (e : Edge) : Edge := ⟨atI A e.block, e.args⟩
def renB (A : List Int) (b : Block) : Block := ⟨b.params, b.ins, ⟨b.term.kind, b.term.arg, b.term.n, b.term.cases, b.term.to.map (renE A)⟩⟩
def atM (f : Func) : List Int := (List.range f.blocks.length).map fun (k : Nat) => idxI (rchS f) (k : Int)
def pruneM (f : Func) : Func := ⟨f.name, (rchS f).map fun k => renB (atM f) (blkOf f k)⟩
theorem rchS_nodup {f : Func} (hw : OrdW f) : (rchS f).Nodup := by
  refine (sortI_perm _).nodup_iff.2 ?_
  unfold List.Nodup
  rw [List.pairwise_iff_getElem]
  intro i j hi hj hij e
  have h1 := hw.at_ i _ (List.getElem?_eq_getElem hi)
  have h2 := hw.at_ j _ (List.getElem?_eq_getElem hj)
  rw [e, h2] at h1
  omega
theorem edC_append (a b : List Edge) : edC (a ++ b) = edC a ++ edC b := by simp [edC]
def mixE (A : List Int) (es : List Edge) (n : Nat) : List Edge := (es.take n).map (renE A) ++ es.drop n
theorem mixE_zero (A : List Int) (es : List Edge) : mixE A es 0 = es := by simp [mixE]
theorem mixE_all (A : List Int) {es : List Edge} {n : Nat} (h : es.length ≤ n) : mixE A es n = es.map (renE A) := by
  unfold mixE
  rw [List.take_of_length_le h, List.drop_of_length_le h, List.append_nil]
theorem mixE_len (A : List Int) (es : List Edge) (n : Nat) : (mixE A es n).length = es.length := by
  unfold mixE
  rw [List.length_append, List.length_map, List.length_take, List.length_drop]
  omega
theorem edC_at {es : List Edge} {n : Nat} {e : Edge} (h : es[n]? = some e) : (edC es)[n * 2]? = some (aI e.block) ∧ (edC es)[n * 2 + 1]? = some (eIs e.args) := by
  have hl := lt_of_getElem? h
  have e1 : es = es.take n ++ e :: es.drop (n + 1) := by
    rw [← drop_at h, List.take_append_drop]
  have hlen : (edC (es.take n)).length = n * 2 := by rw [edC_len, List.length_take]; omega
  have e2 : edC es = edC (es.take n) ++ (aI e.block :: eIs e.args :: edC (es.drop (n + 1))) := by
    conv => lhs; rw [e1]
    rw [edC_append]
    rfl
  rw [e2]
  refine ⟨?_, ?_⟩
  · rw [List.getElem?_append_right (by omega), hlen, Nat.sub_self]
    rfl
  rw [List.getElem?_append_right (by omega), hlen, show n * 2 + 1 - n * 2 = 1 by omega]
  rfl
theorem mixE_at (A : List Int) {es : List Edge} {n : Nat} {e : Edge} (h : es[n]? = some e) : (mixE A es n)[n]? = some e := by
  have hl := lt_of_getElem? h
  unfold mixE
  rw [List.getElem?_append_right (by rw [List.length_map, List.length_take]; omega), List.length_map, List.length_take, show n - min n es.length = 0 by omega, List.getElem?_drop, Nat.add_zero, h]
theorem mixE_step (A : List Int) {es : List Edge} {n : Nat} {e : Edge} (h : es[n]? = some e) : splice (edC (mixE A es n)) (n * 2) [.v (.int .i64 (atI A e.block))] = edC (mixE A es (n + 1)) := by
  have hl := lt_of_getElem? h
  have hlen : (edC ((es.take n).map (renE A))).length = n * 2 := by rw [edC_len, List.length_map, List.length_take]; omega
  have h1 : edC (mixE A es n) = edC ((es.take n).map (renE A)) ++ (aI e.block :: eIs e.args :: edC (es.drop (n + 1))) := by
    unfold mixE
    rw [edC_append, drop_at h]
    rfl
  have h2 : edC (mixE A es (n + 1)) = edC ((es.take n).map (renE A)) ++ (aI (atI A e.block) :: eIs e.args :: edC (es.drop (n + 1))) := by
    unfold mixE
    rw [edC_append, List.take_add_one, h, List.map_append, edC_append, List.append_assoc]
    rfl
  rw [splice_one _ (by rw [edC_len, mixE_len]; omega), h1, h2, List.set_append_right _ _ (by omega), hlen, Nat.sub_self, List.set_cons_zero]
def prI (ids : List Nat) (l : List Int) : List Nat := l.map fun k => ids[k.toNat]?.getD 0
def prB (f : Func) (A : List Int) (l : List Int) : List Block := l.map fun k => renB A (blkOf f k)
structure PrS (f : Func) (A : List Int) (ids : List Nat) (bid X : Nat) (l : List Int) (oid : Nat) (O : List AObj) : Prop where
  up : ∀ o ∈ O, o.upto O.length
  r1 : O[1]? = some (.cells [aI 0, .lst 7 [] .ex])
  x5 : 5 ≤ X
  xb : bid ≠ X
  bl : 5 ≤ bid ∧ O[bid]? = some (.cells (blsC ids f.blocks))
  li : ids.length = f.blocks.length
  own : ∀ (j id : Nat) (b : Block), ids[j]? = some id → f.blocks[j]? = some b → b.term.to ≠ [] → 5 ≤ id ∧ id ≠ bid ∧ id ≠ X ∧ (l ≠ [] → id ≠ oid) ∧ O[id]? = some (.cells (edC (if (j : Int) ∈ l then b.term.to.map (renE A) else b.term.to)))
  inj : ∀ (i j id : Nat) (b c : Block), ids[i]? = some id → ids[j]? = some id → f.blocks[i]? = some b → f.blocks[j]? = some c → b.term.to ≠ [] → c.term.to ≠ [] → i = j
  out : O[X]? = some (.cells [aI f.name, outBl oid (prB f A l)])
  lst : l ≠ [] → 5 ≤ oid ∧ oid ≠ X ∧ oid ≠ bid ∧ O[oid]? = some (.cells (blsC (prI ids l) (prB f A l)))
theorem renB_to (A : List Int) (b : Block) : (renB A b).term.to = b.term.to.map (renE A) := rfl
theorem outE_ren (A : List Int) (id : Nat) (b : Block) : outE id (b.term.to.map (renE A)) = outE id b.term.to := by
  unfold outE
  by_cases h : b.term.to = []
  · rw [if_pos h, if_pos (by rw [h]; rfl)]
  rw [if_neg h, if_neg (by simpa using h), List.length_map]
theorem PrS.snoc {f : Func} {A : List Int} {ids : List Nat} {bid X : Nat} {l : List Int} {oid : Nat} {O O1 : List AObj} (h : PrS f A ids bid X l oid O) {k : Nat} {b : Block} {id : Nat} (hb : f.blocks[k]? = some b) (hid : ids[k]? = some id) (hk : (k : Int) ∉ l)
    (hlen : O1.length = O.length) (hup : ∀ o ∈ O1, o.upto O.length) (hsame : ∀ j, (b.term.to ≠ [] → j ≠ id) → (l ≠ [] → j ≠ oid) → O1[j]? = O[j]?) (hnew : b.term.to ≠ [] → O1[id]? = some (.cells (edC (b.term.to.map (renE A))))) {cs ar : List AVal}
    (hcs : cs = blsC (prI ids (l ++ [(k : Int)])) (prB f A (l ++ [(k : Int)]))) (har : ar = [aI f.name, .os O.length (l.length + 1) 7]) : PrS f A ids bid X (l ++ [(k : Int)]) O.length ((O1 ++ [AObj.cells cs]).set X (.cells ar)) := by
  have hXl := lt_of_getElem? h.out
  have hbl := lt_of_getElem? h.bl.2
  have hlo : l ≠ [] → oid ≠ X ∧ oid ≠ bid ∧ 5 ≤ oid := fun q => by obtain ⟨a, b, c, _⟩ := h.lst q; exact ⟨b, c, a⟩
  have hin : ∀ (j id : Nat) (c : Block), ids[j]? = some id → f.blocks[j]? = some c → c.term.to ≠ [] → id < O.length := fun j id c h1 h2 h3 => lt_of_getElem? (h.own j id c h1 h2 h3).2.2.2.2
  have hkeep : ∀ j, j < O.length → j ≠ X → (b.term.to ≠ [] → j ≠ id) → (l ≠ [] → j ≠ oid) → ((O1 ++ [AObj.cells cs]).set X (.cells ar))[j]? = O[j]? := fun j hj hjX h1 h2 => by
    rw [List.getElem?_set_ne (Ne.symm hjX), List.getElem?_append_left (by omega), hsame j h1 h2]
  have hidw := h.own k id b hid hb
  subst hcs
  subst har
  exact {
    up := by
      intro o ho
      rw [List.length_set, List.length_append, List.length_singleton, hlen]
      rcases List.mem_or_eq_of_mem_set ho with q | q
      · rcases List.mem_append.1 q with q | q
        · exact AObj.upto_mono (by omega) (hup o q)
        rw [List.mem_singleton] at q
        subst q
        refine blsC_upto fun j id' c h1 h2 h3 => ?_
        unfold prI at h1
        unfold prB at h2
        rw [List.getElem?_map, Option.map_eq_some_iff] at h1 h2
        obtain ⟨k1, e1, e2⟩ := h1
        obtain ⟨k2, e3, e4⟩ := h2
        rw [e1] at e3
        simp only [Option.some.injEq] at e3
        subst e3
        subst e4
        rw [renB_to] at h3
        have hto : (blkOf f k1).term.to ≠ [] := fun q => h3 (by rw [q]; rfl)
        have hk1 : k1.toNat < f.blocks.length := by
          refine Classical.byContradiction fun q => hto ?_
          unfold blkOf
          rw [List.getElem?_eq_none (by omega)]
          rfl
        have hbk : f.blocks[k1.toNat]? = some (blkOf f k1) := by
          unfold blkOf
          rw [List.getElem?_eq_getElem hk1]
          rfl
        have hik : ids[k1.toNat]? = some id' := by
          rw [List.getElem?_eq_getElem (by rw [h.li]; exact hk1)] at e2 ⊢
          exact congrArg some e2
        have := hin _ _ _ hik hbk hto
        omega
      subst q
      exact ⟨trivial, show _ < _ by omega, trivial⟩
    r1 := by
      rw [hkeep 1 (lt_of_getElem? h.r1) (by have := h.x5; omega) (fun q => by have := (hidw q).1; omega) (fun q => by have := (hlo q).2.2; omega)]
      exact h.r1
    x5 := h.x5
    xb := h.xb
    bl := by
      refine ⟨h.bl.1, ?_⟩
      rw [hkeep bid hbl h.xb (fun q => Ne.symm (hidw q).2.1) (fun q => Ne.symm (hlo q).2.1)]
      exact h.bl.2
    li := h.li
    own := fun j id' c h1 h2 h3 => by
      obtain ⟨o1, o2, o3, o4, o5⟩ := h.own j id' c h1 h2 h3
      have hil := lt_of_getElem? o5
      refine ⟨o1, o2, o3, fun _ => by omega, ?_⟩
      rw [List.getElem?_set_ne (Ne.symm o3), List.getElem?_append_left (by omega)]
      by_cases e : j = k
      · subst e
        rw [hid] at h1
        rw [hb] at h2
        simp only [Option.some.injEq] at h1 h2
        subst h1
        subst h2
        rw [if_pos (by simp)]
        exact hnew h3
      rw [hsame id' (fun q e2 => by
        subst e2
        exact e (h.inj j k id' c b h1 hid h2 hb h3 q)) o4, o5]
      have hjk : ((j : Int) ∈ l ++ [(k : Int)]) = ((j : Int) ∈ l) := by
        apply propext
        rw [List.mem_append, List.mem_singleton]
        exact ⟨fun q => q.resolve_right (by omega), .inl⟩
      simp only [hjk]
    inj := h.inj
    out := by
      rw [List.getElem?_set_self (by rw [List.length_append]; omega)]
      have : outBl O.length (prB f A (l ++ [(k : Int)])) = .os O.length (l.length + 1) 7 := by
        unfold outBl prB
        rw [if_neg (by simp), List.length_map, List.length_append]
        rfl
      rw [this]
    lst := fun _ => by
      have h5 := h.x5
      refine ⟨by omega, by omega, by omega, ?_⟩
      rw [List.getElem?_set_ne (by omega), List.getElem?_append_right (by omega), hlen, Nat.sub_self]
      rfl }
end Go.Proofs.Ytlclgfgmhnmnaaa
namespace Go.Proofs.Ytlclgfgmhnmnaaa
open Go.Av
theorem blocks_range (f : Func) : ((List.range f.blocks.length).map fun k : Nat => blkOf f (k : Int)) = f.blocks := by
  apply List.ext_getElem?
  intro i
  rw [List.getElem?_map]
  by_cases h : i < f.blocks.length
  · rw [List.getElem?_range h, List.getElem?_eq_getElem h]
    simp [blkOf, h]
  rw [List.getElem?_eq_none (by simp; omega), List.getElem?_eq_none (by omega)]
  rfl
theorem rch_eq {f : Func} (hw : OrdW f) : rchS f = ((List.range f.blocks.length).map fun k : Nat => (k : Int)).filter fun k => decide (0 ≤ plF f k) := by
  have hp : ((List.range f.blocks.length).map fun k : Nat => (k : Int)).Pairwise (fun a b => a < b) := by
    rw [List.pairwise_map]
    exact List.Pairwise.imp (fun h => by omega) List.pairwise_lt_range
  have hp2 := hp.filter (fun k => decide (0 ≤ plF f k))
  refine List.Perm.eq_of_pairwise (le := fun a b => a ≤ b) (fun a b _ _ h1 h2 => by omega) (sortI_sorted _) (hp2.imp fun h => by omega) ?_
  rw [List.perm_ext_iff_of_nodup (rchS_nodup hw) (hp2.imp fun h => by omega)]
  intro k
  rw [mem_rchS, List.mem_filter, decide_eq_true_eq]
  constructor
  · intro h
    have hr := hw.range k h
    exact ⟨List.mem_map.2 ⟨k.toNat, List.mem_range.2 (by omega), by omega⟩, h⟩
  exact fun h => h.2
theorem sub_flat {α β : Type} (F : α → List β) {l m : List α} (h : l.Sublist m) : (l.flatMap F).Sublist (m.flatMap F) := by
  induction h with
  | slnil => exact List.Sublist.refl _
  | cons a _ ih =>
    rw [List.flatMap_cons]
    exact List.sublist_append_of_sublist_right ih
  | cons_cons a _ ih =>
    rw [List.flatMap_cons, List.flatMap_cons]
    exact (List.Sublist.refl _).append ih
theorem sub_sum {α : Type} (F : α → Nat) {l m : List α} (h : l.Sublist m) : (l.map F).sum ≤ (m.map F).sum := by
  induction h with
  | slnil => exact Nat.le_refl _
  | cons a _ ih =>
    rw [List.map_cons, List.sum_cons]
    omega
  | cons_cons a _ ih =>
    rw [List.map_cons, List.map_cons, List.sum_cons, List.sum_cons]
    omega
theorem rch_sub {f : Func} (hw : OrdW f) : (rchS f).Sublist ((List.range f.blocks.length).map fun k : Nat => (k : Int)) := by
  rw [rch_eq hw]
  exact List.filter_sublist
theorem prune_vals {f : Func} (hw : OrdW f) : (valsF (pruneM f)).Sublist (valsF f) := by
  have h1 : valsF (pruneM f) = (rchS f).flatMap fun k => blkVals (blkOf f k) := by
    unfold valsF pruneM
    rw [List.flatMap_map]
    rfl
  have h2 : valsF f = ((List.range f.blocks.length).map fun k : Nat => (k : Int)).flatMap fun k => blkVals (blkOf f k) := by
    unfold valsF
    conv => lhs; rw [← blocks_range f]
    rw [List.flatMap_map, List.flatMap_map]
  rw [h1, h2]
  exact sub_flat _ (rch_sub hw)
theorem prune_sum {f : Func} (hw : OrdW f) : sumI (pruneM f).blocks ≤ sumI f.blocks := by
  have h1 : sumI (pruneM f).blocks = ((rchS f).map fun k => (blkOf f k).ins.length).sum := by
    unfold sumI pruneM
    rw [List.map_map]
    rfl
  have h2 : sumI f.blocks = (((List.range f.blocks.length).map fun k : Nat => (k : Int)).map fun k => (blkOf f k).ins.length).sum := by
    unfold sumI
    conv => lhs; rw [← blocks_range f]
    rw [List.map_map, List.map_map]
    rfl
  rw [h1, h2]
  exact sub_sum _ (rch_sub hw)
def posM (f : Func) (k : Int) : Int := idxI (rchS f) k
section
variable {f : Func}
theorem pos_at {k : Int} (h : 0 ≤ plF f k) : 0 ≤ posM f k ∧ (rchS f)[(posM f k).toNat]? = some k := by
  have h1 := (idxI_mem (l := rchS f) (n := k)).1.2 (mem_rchS.2 h)
  exact ⟨h1, (idxI_mem (l := rchS f) (n := k)).2 h1⟩
theorem rch_inj (hw : OrdW f) {i j : Nat} {k : Int} (h1 : (rchS f)[i]? = some k) (h2 : (rchS f)[j]? = some k) : i = j := by
  have hn := List.pairwise_iff_getElem.1 (rchS_nodup hw)
  obtain ⟨p1, e1⟩ := List.getElem?_eq_some_iff.1 h1
  obtain ⟨p2, e2⟩ := List.getElem?_eq_some_iff.1 h2
  refine Classical.byContradiction fun q => ?_
  rcases Nat.lt_or_gt_of_ne q with q | q
  · exact hn i j p1 p2 q (e1.trans e2.symm)
  exact hn j i p2 p1 q (e2.trans e1.symm)
theorem pos_of (hw : OrdW f) {j : Nat} {k : Int} (h : (rchS f)[j]? = some k) : posM f k = j := by
  obtain ⟨h1, h2⟩ := pos_at (mem_rchS.1 (List.mem_of_getElem? h))
  have := rch_inj hw h h2
  omega
theorem rch_zero (hw : OrdW f) : (rchS f)[0]? = some 0 := by
  obtain ⟨h1, h2⟩ := pos_at (f := f) (k := 0) (by rw [hw.zero]; omega)
  have hs := List.pairwise_iff_getElem.1 (sortI_sorted (orderM f))
  have hl := lt_of_getElem? h2
  have h0 : (rchS f)[0]? = some ((rchS f)[0]'(by omega)) := List.getElem?_eq_getElem _
  rw [h0]
  congr 1
  by_cases e : (posM f 0).toNat = 0
  · rw [e, h0] at h2
    simpa using h2
  have h3 := hs 0 (posM f 0).toNat (by show 0 < (rchS f).length; omega) hl (by omega)
  have h4 := (List.getElem?_eq_some_iff.1 h2).2
  have h5 := (hw.range _ (mem_rchS.1 (List.mem_of_getElem? h0))).1
  have h6 : (rchS f)[0]'(by omega) ≤ (rchS f)[(posM f 0).toNat] := h3
  rw [h4] at h6
  omega
theorem at_pos {k : Int} (h0 : 0 ≤ k) (h1 : k < f.blocks.length) : atI (atM f) k = posM f k := by
  unfold atI atM
  rw [List.getElem?_map, List.getElem?_range (by omega), Option.map_some, Option.getD_some]
  show idxI (rchS f) ((k.toNat : Nat) : Int) = _
  rw [show ((k.toNat : Nat) : Int) = k by omega]
  rfl
theorem prune_blk {j : Nat} {c : Block} : (pruneM f).blocks[j]? = some c ↔ ∃ k, (rchS f)[j]? = some k ∧ c = renB (atM f) (blkOf f k) := by
  unfold pruneM
  simp only [List.getElem?_map, Option.map_eq_some_iff]
  constructor
  · rintro ⟨k, h1, h2⟩
    exact ⟨k, h1, h2.symm⟩
  rintro ⟨k, h1, h2⟩
  exact ⟨k, h1, h2.symm⟩
theorem prune_len : (pruneM f).blocks.length = (rchS f).length := List.length_map ..
theorem prune_of {k : Int} (h : 0 ≤ plF f k) : blkOf (pruneM f) (posM f k) = renB (atM f) (blkOf f k) := by
  have := (prune_blk (f := f)).2 ⟨k, (pos_at h).2, rfl⟩
  unfold blkOf
  rw [this]
  rfl
theorem blk_at {k : Int} (h0 : 0 ≤ k) (h1 : k < f.blocks.length) : f.blocks[k.toNat]? = some (blkOf f k) := by
  unfold blkOf
  rw [List.getElem?_eq_getElem (by omega)]
  rfl
end
theorem shape_same {t t' : Term} (h1 : t.kind = t'.kind) (h2 : t.arg = t'.arg) (h3 : t.n = t'.n) (h4 : t.cases = t'.cases) (h5 : t.to.length = t'.to.length) : shapeM t = shapeM t' := by
  unfold shapeM edgesM argM
  rw [h1, h2, h3, h4, h5]
theorem DefAt.range {f : Func} {v : Int} {p : Int × Int} (h : DefAt f v p) : 0 ≤ p.1 ∧ p.1 < f.blocks.length := by
  obtain ⟨k, b, h1, h2, _⟩ := h
  have := lt_of_getElem? h1
  omega
theorem end_intro {f : Func} {t : Term} (h1 : shapeM t = true) (h2 : t.cases.length ≤ 256) (h3 : t.kind = 4 → 1 ≤ t.n ∧ t.n ≤ 6) (h4 : casesE t.cases t.cases.length = 0) (h5 : ∀ e ∈ t.to, (1 ≤ e.block ∧ e.block ≤ (f.blocks.length : Int) - 1) ∧ e.args.length = (blkOf f e.block).params.length) : endE f t = 0 := by
  unfold endE
  rw [if_neg (by simp [h1]), if_neg (by omega), if_neg (fun q => by
    have := h3 q.1
    have q2 := q.2
    simp [within, this] at q2), if_neg (by rw [h4]; simp)]
  generalize t.to = l at h5
  induction l with
  | nil => rfl
  | cons e r ih =>
    have he := h5 e List.mem_cons_self
    simp only [edgesE]
    rw [if_neg (by simp [within, he.1]), if_neg (by rw [he.2]; simp)]
    exact ih fun x hx => h5 x (List.mem_cons_of_mem _ hx)
theorem end_cases {f : Func} {t : Term} (h : endE f t = 0) : casesE t.cases t.cases.length = 0 := by
  unfold endE at h
  split at h
  · simp at h
  split at h
  · simp at h
  split at h
  · simp at h
  split at h
  · rename_i q
    exact absurd h q
  rename_i q
  simpa using q
theorem seen_rch {f : Func} (hd : DomW f) (hw : OrdW f) : ∀ (n : Nat) (k : Int), 0 ≤ plF f k → plF f k < n → seenF f k.toNat = true ∧ ∀ d, d < 128 → (overF f k.toNat).has d = true → 0 ≤ plF f (d : Int)
  | 0, k, h, hn => by omega
  | n + 1, k, h, hn => by
    by_cases h0 : plF f k = 0
    · have hk : k = 0 := hw.inj k 0 h (by rw [hw.zero, h0])
      subst hk
      refine ⟨hd.seen, fun d hdl q => ?_⟩
      rw [(hd.zero d hdl).1 q]
      show 0 ≤ plF f 0
      rw [hw.zero]
      omega
    obtain ⟨p, ⟨e, he, he2⟩, hp0, hp1⟩ := hw.fwd k (by omega)
    obtain ⟨i1, i2⟩ := seen_rch hd hw n p hp0 (by omega)
    have hpr := hw.range p hp0
    obtain ⟨s1, s2⟩ := hd.step p.toNat (blkOf f p) (blk_at hpr.1 hpr.2) i1 e he
    rw [he2] at s1 s2
    refine ⟨s1, fun d hdl q => ?_⟩
    rcases s2 d hdl q with r | r
    · have hkr := hw.range k h
      rw [r, show ((k.toNat : Nat) : Int) = k by omega]
      exact h
    exact i2 d hdl r
theorem rch_seen {f : Func} (hd : DomW f) (hw : OrdW f) {k : Int} (h : 0 ≤ plF f k) : seenF f k.toNat = true ∧ ∀ d, d < 128 → (overF f k.toNat).has d = true → 0 ≤ plF f (d : Int) := seen_rch hd hw 300 k h (by
  have h1 := (hw.low k).2
  have h2 := hw.few
  omega)
theorem def_prune {f : Func} (hw : OrdW f) {v : Int} {p : Int × Int} (h : DefAt f v p) (hr : 0 ≤ plF f p.1) : DefAt (pruneM f) v (posM f p.1, p.2) := by
  obtain ⟨k, b, h1, h2, h3⟩ := h
  obtain ⟨q1, q2⟩ := pos_at hr
  have hb : blkOf f p.1 = b := by
    rw [h2]
    unfold blkOf
    rw [Int.toNat_natCast, h1]
    rfl
  refine ⟨(posM f p.1).toNat, renB (atM f) b, prune_blk.2 ⟨p.1, q2, by rw [hb]⟩, by simp only; omega, h3⟩
theorem prune_check {f : Func} (hfit : f.fit) (hc : checkFuncM f = 0) : checkFuncM (pruneM f) = 0 := by
  have hv := checkFunc_v hfit hc
  have hf := hv.fn
  have hg := hf.gr
  have hw := ord_w hg
  have hd := hv.dom
  have hsub := prune_vals hw
  have hr0 := rch_zero hw
  have hlen : (rchS f).length ≤ f.blocks.length := by
    have := (rch_sub hw).length_le
    simpa using this
  have hrl := lt_of_getElem? hr0
  have hfew := hg.few
  have hb0 : blkOf (pruneM f) 0 = renB (atM f) (blkOf f 0) := by
    have := prune_of (f := f) (k := 0) (by rw [hw.zero]; omega)
    rwa [pos_of hw hr0] at this
  have hmem : ∀ c ∈ (pruneM f).blocks, ∃ k, 0 ≤ plF f k ∧ c = renB (atM f) (blkOf f k) ∧ blkOf f k ∈ f.blocks := fun c hcm => by
    obtain ⟨j, hj⟩ := List.mem_iff_getElem?.1 hcm
    obtain ⟨k, h1, h2⟩ := prune_blk.1 hj
    have hk := mem_rchS.1 (List.mem_of_getElem? h1)
    have hkr := hw.range k hk
    exact ⟨k, hk, h2, List.mem_of_getElem? (blk_at hkr.1 hkr.2)⟩
  have hedge : ∀ {k : Int}, 0 ≤ plF f k → ∀ e ∈ (blkOf f k).term.to, 0 ≤ plF f e.block ∧ 1 ≤ e.block ∧ e.block < f.blocks.length := fun {k} hk e he => by
    have hkr := hw.range k hk
    have := hg.edges _ (List.mem_of_getElem? (blk_at hkr.1 hkr.2)) e he
    exact ⟨hw.next k e.block hk ⟨e, he, rfl⟩, this⟩
  have hfine : ∀ {k : Int} {n v : Int}, 0 ≤ plF f k → Fine f k.toNat n v → Fine (pruneM f) (posM f k).toNat n v := fun {k n v} hk h => by
    obtain ⟨⟨pa, pb⟩, h1, h2⟩ := h
    obtain ⟨p, hpe⟩ : ∃ p : Int × Int, p = (pa, pb) := ⟨_, rfl⟩
    rw [← hpe] at h1 h2
    obtain ⟨s1, s2⟩ := rch_seen hd hw hk
    have hkr := hw.range k hk
    obtain ⟨q1, q2⟩ := pos_at hk
    rcases h2 s1 with ⟨e1, e2⟩ | ⟨e1, e2⟩
    · have e3 : p.1 = k := by omega
      refine ⟨(posM f k, p.2), by rw [← e3]; exact def_prune hw h1 (by rw [e3]; exact hk), fun _ => .inl ⟨by simp only; omega, e2⟩⟩
    have hdl := h1.range
    have hpn : ((p.1.toNat : Nat) : Int) = p.1 := by omega
    have hpd : 0 ≤ plF f p.1 := by
      have := s2 p.1.toNat (by omega) e2
      rwa [hpn] at this
    obtain ⟨r1, r2⟩ := pos_at hpd
    refine ⟨(posM f p.1, p.2), def_prune hw h1 hpd, fun _ => .inr ⟨fun q => ?_, ?_⟩⟩
    · have q' : (posM f p.1).toNat = (posM f k).toNat := by
        have : posM f p.1 = ((posM f k).toNat : Int) := q
        omega
      rw [q', q2] at r2
      simp only [Option.some.injEq] at r2
      omega
    show (overF (pruneM f) (posM f k).toNat).has (posM f p.1).toNat = true
    refine dom_max (D := fun i j => ∃ ki kj, (rchS f)[i]? = some ki ∧ (rchS f)[j]? = some kj ∧ (overF f kj.toNat).has ki.toNat = true) (R := fun _ => True) (by
      intro q
      have := congrArg List.length q
      rw [prune_len] at this
      simp only [List.length_nil] at this
      omega) ?_ trivial ?_ ?_ (by rw [prune_len]; exact lt_of_getElem? q2) ⟨p.1, k, r2, q2, e2⟩
    · refine ⟨by rw [prune_len]; omega, fun c hcm e he => ?_, fun j c hj _ e he => ⟨trivial, fun i hi => ?_⟩⟩
      · obtain ⟨kc, hkc, e3, _⟩ := hmem c hcm
        rw [e3, renB_to] at he
        obtain ⟨x, hx, rfl⟩ := List.mem_map.1 he
        obtain ⟨x1, x2, x3⟩ := hedge hkc x hx
        obtain ⟨y1, y2⟩ := pos_at x1
        show 0 ≤ atI (atM f) x.block ∧ (atI (atM f) x.block).toNat < _
        rw [at_pos (by omega) x3, prune_len]
        exact ⟨y1, lt_of_getElem? y2⟩
      obtain ⟨kc, h3, h4⟩ := prune_blk.1 hj
      have hkc := mem_rchS.1 (List.mem_of_getElem? h3)
      rw [h4, renB_to] at he
      obtain ⟨x, hx, rfl⟩ := List.mem_map.1 he
      obtain ⟨x1, x2, x3⟩ := hedge hkc x hx
      obtain ⟨y1, y2⟩ := pos_at x1
      have hat : (renE (atM f) x).block = posM f x.block := at_pos (by omega) x3
      rw [hat] at hi ⊢
      obtain ⟨ki, kj, i1, i2, i3⟩ := hi
      rw [y2] at i2
      simp only [Option.some.injEq] at i2
      subst i2
      have hkcr := hw.range kc hkc
      have hki := hw.range ki (mem_rchS.1 (List.mem_of_getElem? i1))
      obtain ⟨t1, t2⟩ := hd.step kc.toNat _ (blk_at hkcr.1 hkcr.2) (rch_seen hd hw hkc).1 x hx
      rcases t2 ki.toNat (by omega) i3 with u | u
      · refine .inl ?_
        have : ki = x.block := by omega
        rw [this] at i1
        exact rch_inj hw i1 y2
      exact .inr ⟨ki, kc, i1, h3, u⟩
    · rintro i ⟨ki, kj, i1, i2, i3⟩
      rw [hr0] at i2
      simp only [Option.some.injEq] at i2
      subst i2
      have hki := hw.range ki (mem_rchS.1 (List.mem_of_getElem? i1))
      have := (hd.zero ki.toNat (by omega)).1 i3
      have hk0 : ki = 0 := by omega
      rw [hk0] at i1
      exact rch_inj hw i1 hr0
    rintro i j ⟨ki, kj, i1, _, _⟩
    rw [prune_len]
    exact lt_of_getElem? i1
  refine check_intro (fun q => ?_) (by rw [prune_len]; omega) hf.name (fun c hcm => ?_) (Nat.le_trans (prune_sum hw) (sum_few hfit hc)) (by rw [hb0]; exact hf.args) (fun v h => hv.vals v (hsub.subset h)) (hsub.nodup hv.nodup) (fun c hcm => ?_) ?_
  · have := congrArg List.length q
    rw [prune_len] at this
    simp only [List.length_nil] at this
    omega
  · obtain ⟨k, _, e1, e2⟩ := hmem c hcm
    rw [e1]
    exact hf.ins (blkOf f k) e2
  · obtain ⟨k, hk, e1, e2⟩ := hmem c hcm
    have hbw := hf.blk _ e2
    rw [e1]
    refine ⟨hbw.forms, ?_⟩
    obtain ⟨m1, m2, m3, m4⟩ := edges_of_end hbw.fin
    refine end_intro ?_ m2 m3 (end_cases (f := f) (t := (blkOf f k).term) hbw.fin) fun e he => ?_
    · have hs : shapeM (renB (atM f) (blkOf f k)).term = shapeM (blkOf f k).term := shape_same rfl rfl rfl rfl (List.length_map ..)
      rw [hs]
      exact m1
    rw [renB_to] at he
    obtain ⟨x, hx, rfl⟩ := List.mem_map.1 he
    obtain ⟨x1, x2, x3⟩ := hedge hk x hx
    obtain ⟨y1, y2⟩ := pos_at x1
    have hat : (renE (atM f) x).block = posM f x.block := at_pos (by omega) x3
    rw [hat, prune_of x1, prune_len]
    have hyl := lt_of_getElem? y2
    refine ⟨⟨?_, by omega⟩, (m4 x hx).2⟩
    refine Classical.byContradiction fun q => ?_
    have h0 : (posM f x.block).toNat = 0 := by omega
    rw [h0, hr0] at y2
    simp only [Option.some.injEq] at y2
    omega
  have hget : ∀ {j : Nat} {c : Block}, (pruneM f).blocks[j]? = some c → ∃ k, 0 ≤ plF f k ∧ c = renB (atM f) (blkOf f k) ∧ f.blocks[k.toNat]? = some (blkOf f k) ∧ j = (posM f k).toNat := fun {j c} hj => by
    obtain ⟨k, h1, h2⟩ := prune_blk.1 hj
    have hk := mem_rchS.1 (List.mem_of_getElem? h1)
    have hkr := hw.range k hk
    have := pos_of hw h1
    exact ⟨k, hk, h2, blk_at hkr.1 hkr.2, by omega⟩
  refine ⟨fun j c hj n i hi a ha => ?_, fun j c hj h1 h4 => ?_, fun j c hj e he a ha => ?_⟩
  · obtain ⟨k, hk, e1, e2, e3⟩ := hget hj
    rw [e3]
    rw [e1] at hi
    exact hfine hk (hv.uses.ins _ _ e2 n i hi a ha)
  · obtain ⟨k, hk, e1, e2, e3⟩ := hget hj
    rw [e3]
    rw [e1] at h1 h4 ⊢
    exact hfine hk (hv.uses.arg _ (blkOf f k) e2 h1 h4)
  obtain ⟨k, hk, e1, e2, e3⟩ := hget hj
  rw [e3]
  rw [e1] at he ⊢
  rw [renB_to] at he
  obtain ⟨x, hx, rfl⟩ := List.mem_map.1 he
  exact hfine hk (hv.uses.args _ _ e2 x hx a ha)
end Go.Proofs.Ytlclgfgmhnmnaaa
namespace Go.Proofs.Ytlclgfgmhnmnaaa
open Go.Av

end Go.Proofs.Ytlclgfgmhnmnaaa
namespace Go.Proofs.Ytlclgfgmhnmnaaa
open Go.Av
theorem prune_fit {f : Func} (hfit : f.fit) (hg : GrW f) : (pruneM f).fit := by
  have hw := ord_w hg
  have hl : (rchS f).length ≤ 128 := by rw [rchS_len]; exact hw.few
  refine ⟨hfit.1, by rw [prune_len]; omega, fun c hcm => ?_⟩
  obtain ⟨j, hj⟩ := List.mem_iff_getElem?.1 hcm
  obtain ⟨k, h1, h2⟩ := prune_blk.1 hj
  have hkr := hw.range k (mem_rchS.1 (List.mem_of_getElem? h1))
  obtain ⟨b1, b2, b3, b4, t1, t2, t3, t4, t5, t6, t7⟩ := hfit.2.2 _ (List.mem_of_getElem? (blk_at hkr.1 hkr.2))
  rw [h2]
  refine ⟨b1, b2, b3, b4, t1, t2, t3, t4, t5, by rw [renB_to, List.length_map]; exact t6, fun e he => ?_⟩
  rw [renB_to] at he
  obtain ⟨x, hx, rfl⟩ := List.mem_map.1 he
  obtain ⟨x1, x2, x3⟩ := t7 x hx
  refine ⟨?_, x2, x3⟩
  show fitI (atI (atM f) x.block)
  have hb : -1 ≤ atI (atM f) x.block ∧ atI (atM f) x.block ≤ 128 := by
    unfold atI atM
    rw [List.getElem?_map]
    by_cases q : x.block.toNat < f.blocks.length
    · rw [List.getElem?_range q, Option.map_some, Option.getD_some]
      by_cases r : 0 ≤ idxI (rchS f) ((x.block.toNat : Nat) : Int)
      · have := lt_of_getElem? ((idxI_mem (l := rchS f) (n := ((x.block.toNat : Nat) : Int))).2 r)
        omega
      have : idxI (rchS f) ((x.block.toNat : Nat) : Int) = -1 := by
        unfold idxI at r ⊢
        split
        · rename_i s
          rw [if_pos s] at r
          omega
        rfl
      omega
    rw [List.getElem?_eq_none (by simp; omega)]
    simp
  unfold fitI
  omega
section
variable {f : Func}
end
end Go.Proofs.Ytlclgfgmhnmnaaa
namespace Go.Proofs.Ytlclgfgmhnmnaaa
open Go.Av
theorem cloneB_spec {O : List AObj} (hup : ∀ o ∈ O, o.upto O.length) (l : List Bool) (hl : l ≠ []) (hll : l.length ≤ 2 ^ 40) :
  ECall Try.prog 73 O [.lst 1 (l.map eB) .nn] (fun r O' => r = .ms O.length 0 l.length l.length ∧ O' = O ++ [.cells (l.map eB)]) := by
 have hkk : O.length ≤ O.length + 1 := by omega
 have hl0 : ¬ l.length = 0 := fun e => hl (List.length_eq_zero_iff.1 e)
 have hc := eB_cells l
 have hs := eB_share' l
 have htk : (O ++ [AObj.cells (l.map eB)]).take (O.length + 1) = O ++ [AObj.cells (l.map eB)] := List.take_of_length_le (by simp)
 have hu2 : ∀ o ∈ O ++ [AObj.cells (l.map eB)], o.upto (O.length + 1) := uptoO_snoc (fun o ho => AObj.upto_mono (by omega) (hup o ho)) (eB_upto _ _)
 refine ecall_of hT true (O.length + 1) Try.func73 rfl (by kernel_rfl) (by simp [Try.ntmps73]) (by assumption) ?_
 show AWP Try.prog _ _ _ ⟨8, _, _⟩
 dsimp only [Tmp, TypeId, slotsOf]
 refine zh1 (za0 ?_)
 refine zh2 (za0 ?_)
 refine zu0 rfl ?_
 refine zb0 ?_
 refine zm1 ?_
 simp -dsimp only [simprocAttr, ↓vpre, zp, hc, hs]
 repeat (refine ⟨by omega, ?_⟩)
 refine za0 ?_
 refine awp_ret ?_
 simp -dsimp only [simprocAttr, ↓vpre, zp, zr, Try.results73, htk]
 exact ⟨hu2, by omega⟩
theorem equalB_spec (l m : List Bool) : PCall Try.prog 72 [.lst 1 (l.map eB) .sh, .lst 1 (m.map eB) .sh] (.v (.bool (decide (l = m)))) := by
 by_cases hlen : l.length = m.length
 ·have hdl : decide ((l.length : Int) = m.length) = true := decide_eq_true (by omega)
  obtain ⟨R, hR⟩ : ∃ R, R = decide (l = m) := ⟨_, rfl⟩
  rw [← hR]
  refine zf true 0 Try.func72 Try.ntmps72 ?_
  dsimp only [Tmp, TypeId, slotsOf]
  refine zh1 (za0 ?_)
  refine awp_len 0 rfl (fun hll => ?_)
  simp only [List.length_map] at hll
  refine zg2 ?_
  simp -dsimp only [simprocAttr, ↓vpre, zp, hdl]
  refine za0 ?_
  apply zk0 rfl <;> intro h
  ·cases h
  refine zb0 ?_
  refine zh2 (za0 ?_)
  refine awp_block (awp_loop (ι := {k : Nat // k ≤ l.length ∧ R = decide (l.drop k = m.drop k)}) (fun k => ⟨26, [(0, .lst 1 (l.map eB) .sh), (1, .lst 1 (m.map eB) .sh), (4, .v (.bool false)), (12, aI l.length), (13, aI k.1)], []⟩) (fun k => l.length - k.1) ⟨0, by omega, hR⟩ ?_ ?_)
  ·refine zq rfl ?_ ?_
   simp -dsimp only [simprocAttr, ↓vpre, zp, zc]
   rfl
  rintro ⟨k, hk, hke⟩
  refine zh1 (za0 ?_)
  apply zk1 rfl <;> intro h
  ·refine zb0 ?_
   have hlt : k < l.length := by simpa using h
   obtain ⟨a, ha⟩ : ∃ a, l[k]? = some a := ⟨l[k], by simp [hlt]⟩
   obtain ⟨b, hb⟩ : ∃ b, m[k]? = some b := ⟨m[k]'(by omega), List.getElem?_eq_getElem _⟩
   rw [drop_at ha, drop_at hb] at hke
   simp only [List.cons.injEq, Bool.decide_and] at hke
   refine awp_seq (awp_block ?_)
   refine zh1 (za0 ?_)
   refine zg1 ?_
   simp -dsimp only [simprocAttr, ↓vpre, zp, ha, hb, eB]
   refine ⟨Try.underlying4, ?_⟩
   refine ⟨ob (by kernel_rfl), ?_⟩
   refine za0 ?_
   apply zk0 rfl <;> intro h
   ·refine zh1 (za0 ?_)
    refine awp_ret ?_
    simp -dsimp only [simprocAttr, ↓vpre, zp, zr, Try.results72]
    rw [hke, decide_eq_false (show ¬ a = b by simpa using h)]
    rfl
   refine zb1 ?_
   rw [decide_eq_true (show a = b by simpa using h), Bool.true_and] at hke
   refine zh0 ?_
   repeat (refine ⟨by omega, ?_⟩)
   refine zl0 ?_
   refine ⟨⟨k + 1, hlt, hke⟩, by simp; omega, ?_⟩
   refine zq rfl ?_ ?_
   simp -dsimp only [simprocAttr, ↓vpre, zp, zc]
   ·exact Sub.int (by simp)
   rfl
  refine awp_exit ?_
  simp -dsimp only [vend, ne_eq, Nat.reduceEqDiff, reduceCtorEq]
  have hkk : k = l.length := by simp at h; omega
  subst hkk
  rw [List.drop_length, hlen, List.drop_length] at hke
  refine zh1 (za0 ?_)
  refine awp_ret ?_
  simp -dsimp only [simprocAttr, ↓vpre, zp, zr, Try.results72]
  rw [hke]
  rfl
 have hdl : decide ((l.length : Int) = m.length) = false := decide_eq_false (by omega)
 rw [decide_eq_false (fun e => hlen (by rw [e]))]
 refine zf true 0 Try.func72 Try.ntmps72 ?_
 dsimp only [Tmp, TypeId, slotsOf]
 refine zh1 (za0 ?_)
 refine zg2 ?_
 simp -dsimp only [simprocAttr, ↓vpre, zp, hdl]
 refine za0 ?_
 refine zw0 rfl ?_
 refine zh1 (za0 ?_)
 refine awp_ret ?_
 simp -dsimp only [simprocAttr, ↓vpre, zp, zr, Try.results72]
theorem list_spec (l : List Bool) (hl : l.length ≤ 2 ^ 40) : PCall Try.prog 46 [.lst 1 (l.map eB) .sh] (eIs (listM 0 l)) := by
 obtain ⟨R, hR⟩ : ∃ R, R = listM 0 l := ⟨_, rfl⟩
 rw [← hR]
 refine zf true 0 Try.func46 Try.ntmps46 ?_
 dsimp only [Tmp, TypeId, slotsOf]
 refine zh1 (za0 ?_)
 refine zh1 (za0 ?_)
 refine awp_own 3 rfl ?_
 simp -dsimp only [simprocAttr, ↓vpre, zp]
 refine zh2 (za0 ?_)
 refine awp_block (awp_loop (ι := {x : Nat × List Int // x.1 ≤ l.length ∧ x.2.length ≤ x.1 ∧ R = x.2 ++ listM x.1 (l.drop x.1)}) (fun x => ⟨20, [(3, .lst 1 (x.1.2.map aI) (.tok 0)), (6, .lst 1 (l.map eB) .sh), (7, aI l.length), (8, aI x.1.1)], [.spare x.1.2.length]⟩) (fun x => l.length - x.1.1) ⟨(0, []), by simp, by simp, hR⟩ ?_ ?_)
 ·refine zq rfl ?_ ?_
  simp -dsimp only [simprocAttr, ↓vpre, zp, zc]
  rfl
 rintro ⟨⟨k, acc⟩, hk, hak, hke⟩
 simp only at hk hak hke
 refine zh1 (za0 ?_)
 apply zk1 rfl <;> intro h
 ·refine zb0 ?_
  have hlt : k < l.length := by simpa using h
  obtain ⟨a, ha⟩ : ∃ a, l[k]? = some a := ⟨l[k], by simp [hlt]⟩
  rw [drop_at ha] at hke
  simp only [listM] at hke
  refine awp_seq (awp_block ?_)
  refine zg1 ?_
  simp -dsimp only [simprocAttr, ↓vpre, zp, ha, eB]
  refine za0 ?_
  cases a with
  | true =>
   simp only [if_true] at hke
   refine zh1 (za0 ?_)
   refine zw0 rfl ?_
   refine zh0 ?_
   repeat (refine ⟨by omega, ?_⟩)
   refine za0 ?_
   refine zh0 ?_
   repeat (refine ⟨by omega, ?_⟩)
   refine zl0 ?_
   refine ⟨⟨(k + 1, acc ++ [(k : Int)]), hlt, by simp; omega, by simpa using hke⟩, by simp; omega, ?_⟩
   refine zq rfl ?_ ?_
   simp -dsimp only [simprocAttr, ↓vpre, zp, zc]
   ·exact ⟨Sub.lst (by simp), Sub.int (by simp)⟩
   simp
  | false =>
   simp only [Bool.false_eq_true, if_false] at hke
   refine zh1 (za0 ?_)
   refine zu0 rfl ?_
   refine zb1 ?_
   refine zh0 ?_
   repeat (refine ⟨by omega, ?_⟩)
   refine zl0 ?_
   refine ⟨⟨(k + 1, acc), hlt, by simp only; omega, hke⟩, by simp; omega, ?_⟩
   refine zq rfl ?_ ?_
   simp -dsimp only [simprocAttr, ↓vpre, zp, zc]
   ·exact Sub.int (by simp)
   rfl
 refine awp_exit ?_
 simp -dsimp only [vend, ne_eq, Nat.reduceEqDiff, reduceCtorEq]
 have hkk : k = l.length := by simp at h; omega
 subst hkk
 rw [List.drop_length] at hke
 simp only [listM, List.append_nil] at hke
 subst hke
 refine zh1 (za0 ?_)
 refine awp_ret ?_
 simp -dsimp only [simprocAttr, ↓vpre, zp, zr, Try.results46]
def InR (many : Nat) (v : Int) : Prop := 0 ≤ v ∧ v < many
theorem last_spec {O : List AObj} (hup : ∀ o ∈ O, o.upto O.length) {f : Func} {many N A B C : Nat} {first : List (List Bool)} (hA : O[A]? = some (.cells (lifeC f many B N))) (hC : O[C]? = some (.cells (first.map eF))) (hfN : first.length = N) (hN : f.blocks.length = N)
  (hmy : many ≤ 2 ^ 20) (hm0 : 0 < many) (hfl : ∀ l ∈ first, l.length ≤ many) {k : Nat} {b : Block} (hb : f.blocks[k]? = some b) (he : ∀ e ∈ b.term.to, (0 ≤ e.block ∧ e.block.toNat < N) ∧ ∀ a ∈ e.args, InR many a) (ha : usesArg b.term = true → InR many b.term.arg) :
  ECall Try.prog 71 O [.mp A 0, aI k, .ms C 0 N N] (fun r O' => r = .lst 1 ((lastM f many first b.term).map eB) .nn ∧ O' = O) := by
 have hAl := lt_of_getElem? hA
 have hCl := lt_of_getElem? hC
 obtain ⟨R, hR⟩ : ∃ R, R = lastM f many first b.term := ⟨_, rfl⟩
 have hRl : R.length = many := by rw [hR, lastM_len]
 rw [← hR]
 unfold lastM at hR
 unfold lifeC at hA
 have hA' : ∀ X, (O ++ X)[A]? = some (.cells [aI f.name, eBlocks f.blocks, aI many, .ms B 0 N N]) := fun X => at_left hA
 have hC' : ∀ X, (O ++ X)[C]? = some (.cells (first.map eF)) := fun X => at_left hC
 have hkN : k < N := by rw [← hN]; exact lt_of_getElem? hb
 refine zf false O.length Try.func71 Try.ntmps71 ?_
 dsimp only [Tmp, TypeId, slotsOf]
 refine zh1 (za0 ?_)
 refine zg1 ?_
 simp -dsimp only [simprocAttr, ↓vpre, zp, hA, hb]
 repeat (refine ⟨by omega, ?_⟩)
 refine za0 ?_
 refine awp_local 7 ([aI b.term.kind, aI b.term.arg, aI b.term.n, eIs b.term.cases, eEdges b.term.to]) [(0, .mp A 0), (1, aI k), (2, .ms C 0 N N), (7, .ip none [aI b.term.kind, aI b.term.arg, aI b.term.n, eIs b.term.cases, eEdges b.term.to])] (by simp [putS, dropS, Go.Av.look]) (by rfl) (by omega) (by simp [putS, dropS, Go.Av.look]) ?_ ?_ ?_
 ·exact hup
 ·simp [AVal.upto, uptoL, aI_upto, Edge.map_upto, Ins.map_upto, Block.map_upto, hAl, hCl]
 refine zg1 ?_
 simp -dsimp only [simprocAttr, ↓vpre, zp, hA, falses_flat]
 refine ⟨by omega, by omega, ?_⟩
 refine za0 ?_
 refine zh2 (za0 ?_)
 refine awp_len 32 rfl (fun htl => ?_)
 simp only [List.length_map] at htl
 refine awp_block (awp_loop (ι := {x : Nat × List Bool // x.1 ≤ b.term.to.length ∧ x.2.length = many ∧ R = lastA b.term ((b.term.to.drop x.1).foldl (lastE f first) x.2)}) (fun x => ⟨102, [(0, .mp A 0), (2, .ms C 0 N N), (7, .ip none [aI b.term.kind, aI b.term.arg, aI b.term.n, eIs b.term.cases, eEdges b.term.to]), (8, .ms O.length 0 many many), (32, eEdges b.term.to), (33, aI b.term.to.length), (34, aI x.1.1)], O ++ [.cells (x.1.2.map eB)]⟩) (fun x => b.term.to.length - x.1.1) ⟨(0, List.replicate many false), by simp, by simp, hR⟩ ?_ ?_)
 ·refine zq rfl ?_ ?_
  simp -dsimp only [simprocAttr, ↓vpre, zp, zc]
  rfl
 rintro ⟨⟨z, out⟩, hz, hol, hze⟩
 simp only at hz hol hze
 refine zh1 (za0 ?_)
 apply zk1 rfl <;> intro h
 ·refine zb0 ?_
  have hlt : z < b.term.to.length := by simpa using h
  obtain ⟨e, hee⟩ : ∃ e, b.term.to[z]? = some e := ⟨b.term.to[z], by simp [hlt]⟩
  obtain ⟨⟨he0, he1⟩, hea⟩ := he e (List.mem_of_getElem? hee)
  rw [drop_at hee, List.foldl_cons] at hze
  obtain ⟨j, hj⟩ : ∃ j : Nat, e.block = (j : Int) := ⟨e.block.toNat, by omega⟩
  obtain ⟨S, hS⟩ : ∃ S, first[j]? = some S := ⟨first[j]'(by omega), List.getElem?_eq_getElem _⟩
  obtain ⟨c, hc⟩ : ∃ c, f.blocks[j]? = some c := ⟨f.blocks[j]'(by omega), List.getElem?_eq_getElem _⟩
  have hSl := hfl S (List.mem_of_getElem? hS)
  have hlE : lastE f first out e = lastV c.params 0 S out := by
   simp [lastE, firstAt, blkOf, hj, hS, hc]
  rw [hlE] at hze
  have hSg := eF_get hS
  obtain ⟨T, hT1⟩ : ∃ T, T = lastV c.params 0 S out := ⟨_, rfl⟩
  have hTl : T.length = many := by rw [hT1, lastV_len, hol]
  rw [← hT1] at hze
  have hob := eB_upto O.length out
  refine awp_seq (awp_block ?_)
  refine zg1 ?_
  simp -dsimp only [simprocAttr, ↓vpre, zp, hee]
  refine za0 ?_
  refine awp_local2 10 ([aI e.block, eIs e.args]) [(0, .mp A 0), (2, .ms C 0 N N), (7, .ip none [aI b.term.kind, aI b.term.arg, aI b.term.n, eIs b.term.cases, eEdges b.term.to]), (8, .ms O.length 0 many many), (10, .ip none [aI e.block, eIs e.args]), (32, eEdges b.term.to), (33, aI b.term.to.length), (34, aI z)] (by simp [putS, dropS, Go.Av.look]) (by rfl) (by omega) (by simp [putS, dropS, Go.Av.look]) ?_ ?_ ?_ ?_
  ·exact hup
  ·exact eB_upto _ _
  ·simp [AVal.upto, uptoL, aI_upto, Edge.map_upto, Ins.map_upto, Block.map_upto]
   omega
  refine zg1 ?_
  simp -dsimp only [simprocAttr, ↓vpre, zp, hj, hC', hSg, Int.toNat_natCast, Nat.mul_one]
  repeat (refine ⟨by omega, ?_⟩)
  refine za0 ?_
  refine awp_block (awp_loop (ι := {x : Nat × List Bool // x.1 ≤ S.length ∧ x.2.length = many ∧ T = lastV c.params x.1 (S.drop x.1) x.2}) (fun x => ⟨102, [(0, .mp A 0), (2, .ms C 0 N N), (7, .ip none [aI b.term.kind, aI b.term.arg, aI b.term.n, eIs b.term.cases, eEdges b.term.to]), (8, .ms O.length 0 many many), (10, .ip none [aI e.block, eIs e.args]), (32, eEdges b.term.to), (33, aI b.term.to.length), (34, aI z), (42, .lst 1 (S.map eB) (ownF S)), (43, aI S.length), (44, aI x.1.1)], O ++ [.cells (x.1.2.map eB)]⟩) (fun x => S.length - x.1.1) ⟨(0, out), by simp, hol, hT1⟩ ?_ ?_)
  ·refine zq rfl ?_ ?_
   simp -dsimp only [simprocAttr, ↓vpre, zp, zc, hj]
   rfl
  rintro ⟨⟨v, cur⟩, hv, hcl, hve⟩
  simp only at hv hcl hve
  refine zh1 (za0 ?_)
  apply zk1 rfl <;> intro h
  ·refine zb0 ?_
   have hlv : v < S.length := by simpa using h
   obtain ⟨is, his⟩ : ∃ is, S[v]? = some is := ⟨S[v], by simp [hlv]⟩
   rw [drop_at his] at hve
   simp only [lastV] at hve
   have hcon := contains_spec c.params v
   have hsp := eB_put (l := cur) (j := v) (by omega) true
   have hlS : S.length ≤ 2 ^ 20 := by omega
   refine awp_seq (awp_block ?_)
   refine zg1 ?_
   simp -dsimp only [simprocAttr, ↓vpre, zp, his, eB]
   repeat (refine ⟨by omega, ?_⟩)
   refine za0 ?_
   cases is with
   | false =>
    rw [Bool.false_and] at hve
    simp only [Bool.false_eq_true, if_false] at hve
    refine zh1 ?_
    refine ⟨ob (by kernel_rfl), ?_⟩
    refine za0 ?_
    refine zu0 rfl ?_
    refine zb1 ?_
    refine zh0 ?_
    repeat (refine ⟨by omega, ?_⟩)
    refine zl0 ?_
    refine ⟨⟨(v + 1, cur), hlv, hcl, hve⟩, by simp; omega, ?_⟩
    refine zq rfl ?_ ?_
    simp -dsimp only [simprocAttr, ↓vpre, zp, zc]
    ·exact Sub.int (by simp)
    rfl
   | true =>
    rw [Bool.true_and] at hve
    refine zg1 ?_
    simp -dsimp only [simprocAttr, ↓vpre, zp, hA', hj, Int.toNat_natCast, hc]
    repeat (refine ⟨by omega, ?_⟩)
    refine .inl ⟨_, hcon, by simp only [uptoL, AVal.upto, zt, zu, aI_upto, eB_upto], later_intro ?_⟩
    simp -dsimp only [simprocAttr, ↓vpre, zp]
    refine ⟨orderB_ren [A] (O.length + 1) [.pure, .pure, .pure, .pure, .pure, .pure, .rd 0, .pure, .pure, .pure, .pure, .pure, .pure, .pure, .pure, .pure] (by simp) (by simp; omega) rfl rfl (by kernel_rfl), ?_⟩
    refine za0 ?_
    cases hh : hasI c.params v with
    | true =>
     rw [hh] at hve
     simp only [Bool.not_true, Bool.false_eq_true, if_false] at hve
     refine zu0 rfl ?_
     refine zb1 ?_
     refine zh0 ?_
     repeat (refine ⟨by omega, ?_⟩)
     refine zl0 ?_
     refine ⟨⟨(v + 1, cur), hlv, hcl, hve⟩, by simp; omega, ?_⟩
     refine zq rfl ?_ ?_
     simp -dsimp only [simprocAttr, ↓vpre, zp, zc, hj]
     ·exact Sub.int (by simp)
     rfl
    | false =>
     rw [hh] at hve
     simp only [Bool.not_false, if_true] at hve
     refine zw0 rfl ?_
     refine zg0 ?_
     simp -dsimp only [simprocAttr, ↓vpre, zp, hsp, Nat.mul_one]
     refine ⟨by omega, by omega, ?_⟩
     refine za0 ?_
     refine zh0 ?_
     repeat (refine ⟨by omega, ?_⟩)
     refine zl0 ?_
     refine ⟨⟨(v + 1, cur.set v true), hlv, by simp [hcl], hve⟩, by simp; omega, ?_⟩
     refine zq rfl ?_ ?_
     simp -dsimp only [simprocAttr, ↓vpre, zp, zc, hj]
     ·exact Sub.int (by simp)
     rfl
  refine awp_exit ?_
  simp -dsimp only [vend, ne_eq, Nat.reduceEqDiff, reduceCtorEq]
  have hvv : v = S.length := by simp at h; omega
  subst hvv
  rw [List.drop_length] at hve
  simp only [lastV] at hve
  subst hve
  refine zh0 ?_
  repeat (refine ⟨by omega, ?_⟩)
  refine zl0 ?_
  refine ⟨⟨(z + 1, T), hlt, hcl, hze⟩, by simp; omega, ?_⟩
  refine zq rfl ?_ ?_
  simp -dsimp only [simprocAttr, ↓vpre, zp, zc]
  ·exact Sub.int (by simp)
  rfl
 refine awp_exit ?_
 simp -dsimp only [vend, ne_eq, Nat.reduceEqDiff, reduceCtorEq]
 have hzz : z = b.term.to.length := by simp at h; omega
 subst hzz
 rw [List.drop_length, List.foldl_nil] at hze
 obtain ⟨out2, ho2⟩ : ∃ o2, o2 = if usesArg b.term then putB out b.term.arg true else out := ⟨_, rfl⟩
 have ho2l : out2.length = many := by
  rw [ho2]
  split
  ·rw [putB_len, hol]
  exact hol
 unfold lastA at hze
 rw [← ho2] at hze
 refine awp_mid (⟨102, [(0, .mp A 0), (2, .ms C 0 N N), (7, .ip none [aI b.term.kind, aI b.term.arg, aI b.term.n, eIs b.term.cases, eEdges b.term.to]), (8, .ms O.length 0 many many)], O ++ [.cells (out2.map eB)]⟩) ?_ ?_
 ·cases h1 : decide (b.term.kind = 1) with
  | true =>
   have hu : usesArg b.term = false := by simp [usesArg, h1]
   rw [hu] at ho2
   simp only [Bool.false_eq_true, if_false] at ho2
   subst ho2
   refine zg1 ?_
   simp -dsimp only [simprocAttr, ↓vpre, zp, h1]
   refine za0 ?_
   refine zu0 rfl ?_
   refine awp_skip ?_
   show Covers _ _
   refine zq rfl ?_ ?_
   simp -dsimp only [simprocAttr, ↓vpre, zp, zc]
   rfl
  | false =>
   cases h4 : decide (b.term.kind = 4) with
   | true =>
    have hu : usesArg b.term = false := by simp [usesArg, h4]
    rw [hu] at ho2
    simp only [Bool.false_eq_true, if_false] at ho2
    subst ho2
    refine zg1 ?_
    simp -dsimp only [simprocAttr, ↓vpre, zp, h1, h4]
    refine za0 ?_
    refine zu0 rfl ?_
    refine awp_skip ?_
    show Covers _ _
    refine zq rfl ?_ ?_
    simp -dsimp only [simprocAttr, ↓vpre, zp, zc]
    rfl
   | false =>
    have hu : usesArg b.term = true := by simp [usesArg, h1, h4]
    obtain ⟨a0, a1⟩ := ha hu
    rw [hu] at ho2
    simp only [if_true] at ho2
    subst ho2
    obtain ⟨j, hj⟩ : ∃ j : Nat, b.term.arg = (j : Int) := ⟨b.term.arg.toNat, by omega⟩
    have hsp := eB_put (l := out) (j := j) (by omega) true
    have hpb : putB out b.term.arg true = out.set j true := by simp [putB, hj]
    rw [hpb]
    refine zg1 ?_
    simp -dsimp only [simprocAttr, ↓vpre, zp, h1, h4]
    refine za0 ?_
    refine zw0 rfl ?_
    refine awp_region hT hm ?_
    simp -dsimp only [simprocAttr, ↓vpre, zp, hj, Int.toNat_natCast, Nat.mul_one, hsp]
    refine ⟨by omega, by omega, ?_⟩
    refine at_intro ?_
    show Covers _ _
    refine zq rfl ?_ ?_
    simp -dsimp only [simprocAttr, ↓vpre, zp, zc, hj]
    rfl
 refine zh2 (za0 ?_)
 refine awp_block (awp_loop (ι := {x : Nat × List Bool // x.1 ≤ b.term.to.length ∧ x.2.length = many ∧ R = (b.term.to.drop x.1).foldl (fun o e => putAll o e.args) x.2}) (fun x => ⟨102, [(0, .mp A 0), (2, .ms C 0 N N), (8, .ms O.length 0 many many), (83, eEdges b.term.to), (84, aI b.term.to.length), (85, aI x.1.1)], O ++ [.cells (x.1.2.map eB)]⟩) (fun x => b.term.to.length - x.1.1) ⟨(0, out2), by simp, ho2l, hze⟩ ?_ ?_)
 ·refine zq rfl ?_ ?_
  simp -dsimp only [simprocAttr, ↓vpre, zp, zc]
  rfl
 rintro ⟨⟨z, cur⟩, hz, hcl, hze⟩
 simp only at hz hcl hze
 refine zh1 (za0 ?_)
 apply zk1 rfl <;> intro h
 ·refine zb0 ?_
  have hlt : z < b.term.to.length := by simpa using h
  obtain ⟨e, hee⟩ : ∃ e, b.term.to[z]? = some e := ⟨b.term.to[z], by simp [hlt]⟩
  obtain ⟨_, hea⟩ := he e (List.mem_of_getElem? hee)
  rw [drop_at hee, List.foldl_cons] at hze
  obtain ⟨T, hT1⟩ : ∃ T, T = putAll cur e.args := ⟨_, rfl⟩
  rw [← hT1] at hze
  unfold putAll at hT1
  refine awp_seq (awp_block ?_)
  refine zg1 ?_
  simp -dsimp only [simprocAttr, ↓vpre, zp, hee]
  refine za0 ?_
  refine awp_local2 14 ([aI e.block, eIs e.args]) [(0, .mp A 0), (2, .ms C 0 N N), (8, .ms O.length 0 many many), (14, .ip none [aI e.block, eIs e.args]), (83, eEdges b.term.to), (84, aI b.term.to.length), (85, aI z)] (by simp [putS, dropS, Go.Av.look]) (by rfl) (by omega) (by simp [putS, dropS, Go.Av.look]) ?_ ?_ ?_ ?_
  ·exact hup
  ·exact eB_upto _ _
  ·simp [AVal.upto, uptoL, aI_upto, Edge.map_upto, Ins.map_upto, Block.map_upto]
   omega
  refine zh1 (za0 ?_)
  refine awp_len 90 rfl (fun hal => ?_)
  simp only [List.length_map] at hal
  refine awp_block (awp_loop (ι := {x : Nat × List Bool // x.1 ≤ e.args.length ∧ x.2.length = many ∧ T = (e.args.drop x.1).foldl (fun s v => putB s v true) x.2}) (fun x => ⟨102, [(0, .mp A 0), (2, .ms C 0 N N), (8, .ms O.length 0 many many), (83, eEdges b.term.to), (84, aI b.term.to.length), (85, aI z), (90, eIs e.args), (91, aI e.args.length), (92, aI x.1.1)], O ++ [.cells (x.1.2.map eB)]⟩) (fun x => e.args.length - x.1.1) ⟨(0, cur), by simp, hcl, hT1⟩ ?_ ?_)
  ·refine zq rfl ?_ ?_
   simp -dsimp only [simprocAttr, ↓vpre, zp, zc]
   rfl
  rintro ⟨⟨v, cur⟩, hv, hcl, hve⟩
  simp only at hv hcl hve
  refine zh1 (za0 ?_)
  apply zk1 rfl <;> intro h
  ·refine zb0 ?_
   have hlv : v < e.args.length := by simpa using h
   obtain ⟨a, haa⟩ : ∃ a, e.args[v]? = some a := ⟨e.args[v], by simp [hlv]⟩
   obtain ⟨a0, a1⟩ := hea a (List.mem_of_getElem? haa)
   obtain ⟨j, rfl⟩ : ∃ j : Nat, a = (j : Int) := ⟨a.toNat, by omega⟩
   rw [drop_at haa, List.foldl_cons] at hve
   have hpb : putB cur (j : Int) true = cur.set j true := by simp [putB]
   rw [hpb] at hve
   have hsp := eB_put (l := cur) (j := j) (by omega) true
   refine awp_seq (awp_block ?_)
   refine zg1 ?_
   simp -dsimp only [simprocAttr, ↓vpre, zp, haa]
   refine za0 ?_
   refine zg0 ?_
   simp -dsimp only [simprocAttr, ↓vpre, zp, Int.toNat_natCast, Nat.mul_one, hsp]
   refine ⟨by omega, by omega, ?_⟩
   refine za0 ?_
   refine zh0 ?_
   repeat (refine ⟨by omega, ?_⟩)
   refine zl0 ?_
   refine ⟨⟨(v + 1, cur.set j true), hlv, by simp [hcl], hve⟩, by simp; omega, ?_⟩
   refine zq rfl ?_ ?_
   simp -dsimp only [simprocAttr, ↓vpre, zp, zc]
   ·exact Sub.int (by simp)
   rfl
  refine awp_exit ?_
  simp -dsimp only [vend, ne_eq, Nat.reduceEqDiff, reduceCtorEq]
  have hvv : v = e.args.length := by simp at h; omega
  subst hvv
  rw [List.drop_length, List.foldl_nil] at hve
  subst hve
  refine zh0 ?_
  repeat (refine ⟨by omega, ?_⟩)
  refine zl0 ?_
  refine ⟨⟨(z + 1, T), hlt, hcl, hze⟩, by simp; omega, ?_⟩
  refine zq rfl ?_ ?_
  simp -dsimp only [simprocAttr, ↓vpre, zp, zc]
  ·exact Sub.int (by simp)
  rfl
 refine awp_exit ?_
 simp -dsimp only [vend, ne_eq, Nat.reduceEqDiff, reduceCtorEq]
 have hzz : z = b.term.to.length := by simp at h; omega
 subst hzz
 rw [List.drop_length, List.foldl_nil] at hze
 subst hze
 refine awp_freeze1 8 O.length (o := .cells (R.map eB)) (.lst 1 (R.map eB) .nn) (snoc_get _ _) (by simp [AObj.isSpare]) trivial rfl (eB_freeze (snoc_get _ _) hcl) ?_
 rw [snoc_set]
 simp -dsimp only [simprocAttr, ↓vpre, zp]
 refine zh1 (za0 ?_)
 refine awp_ret ?_
 simp -dsimp only [simprocAttr, ↓vpre, zp, zr, Try.results71]
 exact ⟨hup, eB_upto _ _⟩
end Go.Proofs.Ytlclgfgmhnmnaaa
namespace Go.Av
def fnIs : AVal → Option Bool
  | .v .nilFunc => some true
  | .fn _ _ _ => some false
  | _ => none
theorem cert_eqFnNil {P : Program} {o : Oper} {σ : St} {t t' : TypeId} {ps rs : Array TypeId} {vr : Bool} {x y : Operand} {x' : AVal} {b : Bool}
    (ho : o.op = .binOp .neq t x y t') (hd : ∀ d, o.dst = some d → d < σ.n) (ht : P.underlying t = some (.func ps rs vr)) (hx : σ.ev x = some x') (hy : σ.ev y = some (.v .nilFunc)) (hb : fnIs x' = some b) : Cert P o σ (.v (.bool !b)) .pure :=
  Cert.ofQuiet .pure (.inl rfl) hd fun a g _ h _ => by
    have hx' := h x (by simp [ho, Op.operands]) _ hx
    have ey := (h y (by simp [ho, Op.operands]) _ hy).v_inv.1
    have ex : (a.eval x = .nilFunc ∧ b = true) ∨ ∃ f us vs, a.eval x = .func f us vs ∧ b = false := by
      unfold fnIs at hb
      split at hb
      · exact .inl ⟨hx'.v_inv.1, by simpa using hb.symm⟩
      · obtain ⟨us, vs, e, _⟩ := hx'.fn_inv
        exact .inr ⟨_, us, vs, e, by simpa using hb.symm⟩
      cases hb
    have e : ∃ d, Op.equal t (a.eval x) .nilFunc = Op.equalIn (d + 1) t (a.eval x) .nilFunc := ⟨9999, rfl⟩
    obtain ⟨d, e⟩ := e
    refine ⟨.bool !b, ?_, .v trivial⟩
    rcases ex with ⟨ex, eb⟩ | ⟨f, us, vs, ex, eb⟩
    · rw [ex] at e
      have hg := run_eqGuard_flat (P := P) .neq t x y .nilFunc .nilFunc g.w (by simp) (by simp)
      simp [execOp, ho, ex, ey, hg, binOp, eb, e, Op.equalIn, Sem.run_bind, run_underlying ht]
    rw [ex] at e
    have hg := run_eqGuard_flat (P := P) .neq t x y (.func f us vs) .nilFunc g.w (by simp) (by simp)
    simp [execOp, ho, ex, ey, hg, binOp, eb, e, Op.equalIn, Sem.run_bind, run_underlying ht]
theorem midOp_fnNil {P : Program} {tab : Tab} {md : Md} {o : Oper} {l2 : List Oper} {Q : AEx → St → Prop} {τ : St} {t t' : TypeId} {ps rs : Array TypeId} {vr : Bool} {x y : Operand} {x' : AVal} {b : Bool} {d : Nat}
    (ho : o.op = .binOp .neq t x y t') (hdst : o.dst = some d) (hd : d < τ.n) (ht : P.underlying t = some (.func ps rs vr)) (hx : τ.ev x = some x') (hy : τ.ev y = some (.v .nilFunc)) (hb : fnIs x' = some b)
    (h : vcOps P tab md l2 0 [] ⟨τ.n, putO o.dst (.v (.bool !b)) τ.slots, τ.objs⟩ [] fun ρ _ => At ρ (Q .norm)) : MidOp P tab md o l2 Q τ :=
  ⟨_, .pure, cert_eqFnNil ho (fun d' e => by rw [hdst] at e; cases e; exact hd) ht hx hy hb, h⟩
end Go.Av
namespace Go.Proofs.Ytlclgfgmhnmnaaa
open Go.Av
def backRun {X : Type} (step : X → Nat → List Bool → X) (l : List Ins) : Nat → X → List Bool → X
 | 0, x, s => step x 0 s
 | n + 1, x, s => match l[n]? with
  | none => x
  | some i => backRun step l n (step x (n + 1) s) (backI i s)
theorem backM_snoc (l : List Ins) (i : Ins) (s : List Bool) : backM (l ++ [i]) s = backM l (backI i s) := by simp [backM]
theorem fn121 : Try.prog.underlying 97 = some (.func #[3, 38] #[] false) := Try.underlying97
theorem back_spec {X : Type} {enc : X → List Bool → List AObj} {Inv : X → Prop} {step : X → Nat → List Bool → X} {x0 : X} {O0 : List AObj} {K : Nat} (h0 : Inv x0) (hup0 : ∀ o ∈ O0, o.upto O0.length) (henc0 : ∀ s, enc x0 s = O0 ++ [.cells (s.map eB)])
  (hnow : ∀ x s, Inv x → (enc x s)[O0.length]? = some (.cells (s.map eB))) (hnset : ∀ x s t, Inv x → (enc x s).set O0.length (.cells (t.map eB)) = enc x t) (hup : ∀ x s, Inv x → ∀ o ∈ enc x s, o.upto (enc x s).length)
  {f : Func} {many N A B : Nat} {behind : List (List Bool)} (hA : O0[A]? = some (.cells (lifeC f many B N))) (hB : O0[B]? = some (.cells (behind.map eH))) (hbN : behind.length = N) (hmy : many ≤ 2 ^ 20)
  {k : Nat} {b : Block} (hb : f.blocks[k]? = some b) {s0 : List Bool} (hs0 : behind[k]? = some s0) (hne : s0 ≠ []) (hsl : s0.length = many) (hil : b.ins.length ≤ 2 ^ 47) (hin : ∀ i ∈ b.ins, InR many i.to ∧ ∀ a ∈ i.args, InR many a)
  (at_ : AVal) (hst : ∀ x n s, Inv x → n ≤ b.ins.length → s.length = many → Inv (step x n s))
  (hat : (at_ = .v .nilFunc ∧ ∀ x n s, step x n s = x) ∨ ∃ id caps, at_ = .fn (.func id) [] caps ∧ uptoL O0.length caps ∧ ∀ x n s, Inv x → n ≤ b.ins.length → s.length = many →
   ECall Try.prog id (enc x s) (aI n :: .ms O0.length 0 many many :: caps) (fun r O' => r = .tup [] ∧ O' = enc (step x n s) s))
  (hK0 : O0.length ≤ K) (hK : ∀ x s, Inv x → x = backRun step b.ins b.ins.length x0 s0 → K ≤ (enc x s).length ∧ ∀ o ∈ ((enc x s).set O0.length .gone).take K, o.upto K) :
  ECall Try.prog 44 O0 [.mp A 0, aI k, at_] (fun r O' => r = .lst 1 ((backM b.ins s0).map eB) .nn ∧ O' = ((enc (backRun step b.ins b.ins.length x0 s0) (backM b.ins s0)).set O0.length .gone).take K) := by
 have hAl := lt_of_getElem? hA
 have hBl := lt_of_getElem? hB
 have hkN : k < N := by rw [← hbN]; exact lt_of_getElem? hs0
 have hat_up : at_.upto O0.length := by
  rcases hat with ⟨rfl, _⟩ | ⟨id, caps, rfl, hc, _⟩
  ·trivial
  exact ⟨trivial, hc⟩
 obtain ⟨R, hR⟩ : ∃ R, R = backM b.ins s0 := ⟨_, rfl⟩
 obtain ⟨Y, hY⟩ : ∃ Y, Y = backRun step b.ins b.ins.length x0 s0 := ⟨_, rfl⟩
 rw [← hR, ← hY]
 rw [← hY] at hK
 unfold lifeC at hA
 have hbg : (behind.map eH)[k]? = some (.lst 1 (s0.map eB) .nn) := by rw [List.getElem?_map, hs0, Option.map_some, eH_ne hne]
 have hcl := cloneB_spec hup0 s0 hne (by omega)
 rw [hsl, ← henc0] at hcl
 have hlt0 : ∀ x s, Inv x → O0.length < (enc x s).length := fun x s hx => lt_of_getElem? (hnow x s hx)
 refine ecall_of hT false (K) Try.func44 rfl (by kernel_rfl) (by simp [Try.ntmps44]) (by assumption) ?_
 show AWP Try.prog _ _ _ ⟨64, _, _⟩
 dsimp only [Tmp, TypeId, slotsOf]
 refine zh1 (za0 ?_)
 refine zg1 ?_
 simp -dsimp only [simprocAttr, ↓vpre, zp, hA, hb]
 repeat (refine ⟨by omega, ?_⟩)
 refine za0 ?_
 refine awp_local 7 ([eIs b.params, eInss b.ins, aI b.term.kind, aI b.term.arg, aI b.term.n, eIs b.term.cases, eEdges b.term.to]) [(0, .mp A 0), (1, aI k), (2, at_), (7, .ip none [eIs b.params, eInss b.ins, aI b.term.kind, aI b.term.arg, aI b.term.n, eIs b.term.cases, eEdges b.term.to])] (by simp [putS, dropS, Go.Av.look]) (by rfl) (by omega) (by simp [putS, dropS, Go.Av.look]) ?_ ?_ ?_
 ·exact hup0
 ·simp [AVal.upto, uptoL, aI_upto, Edge.map_upto, Ins.map_upto, Block.map_upto, hAl, hat_up]
 refine zg1 ?_
 simp -dsimp only [simprocAttr, ↓vpre, zp, hA, hB, hbg, Nat.mul_one]
 repeat (refine ⟨by omega, ?_⟩)
 refine .inr (.inl ⟨_, _, hcl, .inl (later_intro (zj ?_))⟩)
 refine za0 ?_
 refine zh1 (za0 ?_)
 refine awp_block (awp_loop (ι := {x : Nat × X × List Bool // x.1 ≤ b.ins.length ∧ Inv x.2.1 ∧ x.2.2.length = many ∧ R = backM (b.ins.take x.1) x.2.2 ∧ Y = backRun step b.ins x.1 x.2.1 x.2.2}) (fun x => ⟨64, [(2, at_), (7, .ip none [eIs b.params, eInss b.ins, aI b.term.kind, aI b.term.arg, aI b.term.n, eIs b.term.cases, eEdges b.term.to]), (8, .ms O0.length 0 many many), (9, aI x.1.1)], enc x.1.2.1 x.1.2.2⟩) (fun x => x.1.1) ⟨(b.ins.length, x0, s0), by simp, h0, hsl, by rw [List.take_length]; exact hR, hY⟩ ?_ ?_)
 ·refine zq rfl ?_ ?_
  simp -dsimp only [simprocAttr, ↓vpre, zp, zc]
  rfl
 rintro ⟨⟨n, x, s⟩, hn, hx, hs, hRe, hYe⟩
 simp only at hn hx hs hRe hYe
 have hx1 := hst x n s hx hn hs
 have hlx := hlt0 x s hx
 have hlx1 := hlt0 _ s hx1
 refine awp_seq (awp_block ?_)
 refine awp_mid (⟨64, [(2, at_), (7, .ip none [eIs b.params, eInss b.ins, aI b.term.kind, aI b.term.arg, aI b.term.n, eIs b.term.cases, eEdges b.term.to]), (8, .ms O0.length 0 many many), (9, aI n)], enc (step x n s) s⟩) ?_ ?_
 ·rcases hat with ⟨rfl, hnil⟩ | ⟨id, caps, rfl, hcu, hcb⟩
  ·rw [hnil]
   refine awp_seq (awp_mid_op ⟨false, false⟩ hT 1 rfl rfl rfl (by simp) ?_)
   simp -dsimp only [simprocAttr, ↓vpre, zp]
   refine midOp_fnNil rfl rfl (by simp) fn121 rfl rfl rfl ?_
   simp -dsimp only [simprocAttr, ↓vpre, zp]
   refine za0 ?_
   refine zu0 rfl ?_
   refine awp_skip ?_
   show Covers _ _
   refine zq rfl ?_ ?_
   simp -dsimp only [simprocAttr, ↓vpre, zp, zc]
   rfl
  have hcb := hcb x n s hx hn hs
  refine awp_seq (awp_mid_op ⟨false, false⟩ hT 1 rfl rfl rfl (by simp) ?_)
  simp -dsimp only [simprocAttr, ↓vpre, zp]
  refine midOp_fnNil rfl rfl (by simp) fn121 rfl rfl rfl ?_
  simp -dsimp only [simprocAttr, ↓vpre, zp]
  refine za0 ?_
  refine zw0 rfl ?_
  refine awp_region hT hm ?_
  simp -dsimp only [simprocAttr, ↓vpre, zp]
  refine .inr (.inl ⟨_, _, hcb, .inl (later_intro (zj ?_))⟩)
  refine at_intro ?_
  show Covers _ _
  refine zq rfl ?_ ?_
  simp -dsimp only [simprocAttr, ↓vpre, zp, zc]
  rfl
 cases n with
 | zero =>
  have hYe' : Y = step x 0 s := hYe
  rw [List.take_zero] at hRe
  have hRe' : R = s := hRe
  subst hRe'
  refine zh2 (za0 ?_)
  refine zw0 rfl ?_
  refine zh1 (za0 ?_)
  obtain ⟨k1, k2⟩ := hK _ R hx1 hYe'.symm
  refine awp_freeze1 6 O0.length (o := .cells (R.map eB)) (.lst 1 (R.map eB) .nn) (hnow _ _ hx1) (by simp [AObj.isSpare]) trivial rfl (eB_freeze (hnow _ _ hx1) hs) ?_
  simp -dsimp only [simprocAttr, ↓vpre, zp]
  refine awp_ret ?_
  simp -dsimp only [simprocAttr, ↓vpre, zp, zr, Try.results44]
  exact ⟨by simpa using k1, k2, eB_upto _ _, by rw [hYe']⟩
 | succ n =>
  have hlt : n < b.ins.length := by omega
  obtain ⟨i, hi⟩ : ∃ i, b.ins[n]? = some i := ⟨b.ins[n], by simp [hlt]⟩
  obtain ⟨⟨hi0, hi1⟩, hia⟩ := hin i (List.mem_of_getElem? hi)
  have htk : b.ins.take (n + 1) = b.ins.take n ++ [i] := by rw [List.take_add_one, hi]; rfl
  rw [htk, backM_snoc] at hRe
  simp only [backRun, hi] at hYe
  obtain ⟨x1, hx1e⟩ : ∃ x1, x1 = step x (n + 1) s := ⟨_, rfl⟩
  rw [← hx1e] at hx1 hlx1 hYe
  have hup1 := fun s => hup x1 s hx1
  obtain ⟨j, hj⟩ : ∃ j : Nat, i.to = (j : Int) := ⟨i.to.toNat, by omega⟩
  have hsp := eB_put (l := s) (j := j) (by omega) false
  have hn1 : ((n + 1 : Nat) : Int) - 1 = (n : Nat) := by omega
  have hd0 : decide (((n + 1 : Nat) : Int) = 0) = false := decide_eq_false (by omega)
  obtain ⟨T, hT1⟩ : ∃ T, T = backI i s := ⟨_, rfl⟩
  have hTl : T.length = many := by rw [hT1, backI_len, hs]
  rw [← hT1] at hRe hYe
  have hpb : putB s i.to false = s.set j false := by simp [putB, hj]
  unfold backI putAll at hT1
  rw [hpb] at hT1
  rw [← hx1e]
  have hnow1 := fun s => hnow x1 s hx1
  have hnset1 := fun s t => hnset x1 s t hx1
  have hlt1 := fun s => hlt0 x1 s hx1
  refine zg2 ?_
  simp -dsimp only [simprocAttr, ↓vpre, zp, hd0]
  refine za0 ?_
  apply zk0 rfl <;> intro h
  ·cases h
  refine zb0 ?_
  refine zg1 ?_
  simp -dsimp only [simprocAttr, ↓vpre, zp, hn1, hi]
  repeat (refine ⟨by omega, ?_⟩)
  refine za0 ?_
  have hlt1s := hlt1 s
  refine awp_local 10 ([aI i.to, aI i.op, aI i.n, eIs i.args]) [(2, at_), (7, .ip none [eIs b.params, eInss b.ins, aI b.term.kind, aI b.term.arg, aI b.term.n, eIs b.term.cases, eEdges b.term.to]), (8, .ms O0.length 0 many many), (9, aI (n + 1 : Nat)), (10, .ip none [aI i.to, aI i.op, aI i.n, eIs i.args])] (by simp [putS, dropS, Go.Av.look]) (by rfl) (by omega) (by simp [putS, dropS, Go.Av.look]) ?_ ?_ ?_
  ·exact hup1 s
  ·have hau2 := AVal.upto_mono (m := (enc x1 s).length) (n := O0.length) (by omega) at_ hat_up
   simp [AVal.upto, uptoL, aI_upto, Edge.map_upto, Ins.map_upto, Block.map_upto, hlt1s, hau2]
  refine zg1 ?_
  simp -dsimp only [simprocAttr, ↓vpre, zp, hj, hnow1, hnset1, Int.toNat_natCast, Nat.mul_one, hsp]
  refine ⟨by omega, by omega, ?_⟩
  refine za0 ?_
  refine zh1 (za0 ?_)
  refine awp_len 54 rfl (fun hal => ?_)
  simp only [List.length_map] at hal
  refine awp_block (awp_loop (ι := {y : Nat × List Bool // y.1 ≤ i.args.length ∧ y.2.length = many ∧ T = (i.args.drop y.1).foldl (fun s v => putB s v true) y.2}) (fun y => ⟨64, [(2, at_), (7, .ip none [eIs b.params, eInss b.ins, aI b.term.kind, aI b.term.arg, aI b.term.n, eIs b.term.cases, eEdges b.term.to]), (8, .ms O0.length 0 many many), (9, aI (n + 1 : Nat)), (54, eIs i.args), (55, aI i.args.length), (56, aI y.1.1)], enc x1 y.1.2⟩) (fun y => i.args.length - y.1.1) ⟨(0, s.set j false), by simp, by simp [hs], hT1⟩ ?_ ?_)
  ·refine zq rfl ?_ ?_
   simp -dsimp only [simprocAttr, ↓vpre, zp, zc]
   rfl
  rintro ⟨⟨v, cur⟩, hv, hcl, hve⟩
  simp only at hv hcl hve
  refine zh1 (za0 ?_)
  apply zk1 rfl <;> intro h
  ·refine zb0 ?_
   have hlv : v < i.args.length := by simpa using h
   obtain ⟨a, haa⟩ : ∃ a, i.args[v]? = some a := ⟨i.args[v], by simp [hlv]⟩
   obtain ⟨a0, a1⟩ := hia a (List.mem_of_getElem? haa)
   obtain ⟨q, rfl⟩ : ∃ q : Nat, a = (q : Int) := ⟨a.toNat, by omega⟩
   rw [drop_at haa, List.foldl_cons] at hve
   have hpb : putB cur (q : Int) true = cur.set q true := by simp [putB]
   rw [hpb] at hve
   have hsp := eB_put (l := cur) (j := q) (by omega) true
   refine awp_seq (awp_block ?_)
   refine zg1 ?_
   simp -dsimp only [simprocAttr, ↓vpre, zp, haa]
   refine za0 ?_
   refine zg0 ?_
   simp -dsimp only [simprocAttr, ↓vpre, zp, hnow1, hnset1, Int.toNat_natCast, Nat.mul_one, hsp]
   refine ⟨by omega, by omega, ?_⟩
   refine za0 ?_
   refine zh0 ?_
   repeat (refine ⟨by omega, ?_⟩)
   refine zl0 ?_
   refine ⟨⟨(v + 1, cur.set q true), hlv, by simp [hcl], hve⟩, by simp; omega, ?_⟩
   refine zq rfl ?_ ?_
   simp -dsimp only [simprocAttr, ↓vpre, zp, zc]
   ·exact Sub.int (by simp)
   rfl
  refine awp_exit ?_
  simp -dsimp only [vend, ne_eq, Nat.reduceEqDiff, reduceCtorEq]
  have hvv : v = i.args.length := by simp at h; omega
  subst hvv
  rw [List.drop_length, List.foldl_nil] at hve
  subst hve
  refine zg0 ?_
  simp -dsimp only [simprocAttr, ↓vpre, zp, hn1]
  repeat (refine ⟨by omega, ?_⟩)
  refine zl0 ?_
  refine ⟨⟨(n, x1, T), by simp only; omega, hx1, hcl, hRe, hYe⟩, by simp, ?_⟩
  refine zq rfl ?_ ?_
  simp -dsimp only [simprocAttr, ↓vpre, zp, zc]
  rfl
def Hs (l : List Bool) (v : Nat) : Prop := l[v]? = some true
theorem Hs.lt {l : List Bool} {v : Nat} (h : Hs l v) : v < l.length := (List.getElem?_eq_some_iff.1 h).1
theorem hs_set {l : List Bool} {j v : Nat} {b : Bool} : Hs (l.set j b) v ↔ (v = j ∧ b = true ∧ v < l.length) ∨ (v ≠ j ∧ Hs l v) := by
  unfold Hs
  rw [List.getElem?_set]
  by_cases e : j = v
  · subst e
    by_cases h : j < l.length
    · simp [h]
    simp [h]
  rw [if_neg e]
  have : v ≠ j := fun q => e q.symm
  simp [this]
theorem hs_put {l : List Bool} {v w : Nat} {b : Bool} {x : Int} (hx : x.toNat = v) : Hs (putB l x b) w ↔ (w = v ∧ b = true ∧ w < l.length) ∨ (w ≠ v ∧ Hs l w) := by
  rw [putB, hx, hs_set]
theorem hs_putAll : ∀ (vs : List Int) (l : List Bool) (w : Nat), Hs (putAll l vs) w ↔ Hs l w ∨ (w < l.length ∧ ∃ a ∈ vs, w = a.toNat)
  | [], l, w => by simp [putAll]
  | v :: r, l, w => by
    have ih := hs_putAll r (putB l v true) w
    rw [putB_len, hs_put rfl] at ih
    have e : putAll l (v :: r) = putAll (putB l v true) r := rfl
    rw [e, ih]
    constructor
    · rintro ((⟨h1, _, h2⟩ | ⟨_, h1⟩) | ⟨h1, a, h2, h3⟩)
      · exact .inr ⟨h2, v, by simp, h1⟩
      · exact .inl h1
      exact .inr ⟨h1, a, by simp [h2], h3⟩
    rintro (h | ⟨h1, a, h2, h3⟩)
    · by_cases q : w = v.toNat
      · exact .inl (.inl ⟨q, rfl, h.lt⟩)
      exact .inl (.inr ⟨q, h⟩)
    rcases List.mem_cons.1 h2 with q | q
    · subst q
      exact .inl (.inl ⟨h3, rfl, h1⟩)
    exact .inr ⟨h1, a, q, h3⟩
theorem hs_backI (i : Ins) (s : List Bool) (w : Nat) : Hs (backI i s) w ↔ (w ≠ i.to.toNat ∧ Hs s w) ∨ (w < s.length ∧ ∃ a ∈ i.args, w = a.toNat) := by
  rw [backI, hs_putAll, putB_len, hs_put rfl]
  simp
theorem hs_lastV (ps : List Int) : ∀ (S : List Bool) (v : Nat) (out : List Bool) (w : Nat), Hs (lastV ps v S out) w ↔ Hs out w ∨ (w < out.length ∧ hasI ps w = false ∧ ∃ j, Hs S j ∧ w = v + j)
  | [], v, out, w => by simp [lastV, Hs]
  | is :: r, v, out, w => by
    have ih := hs_lastV ps r (v + 1) (if is && !hasI ps v then out.set v true else out) w
    have hl : (if is && !hasI ps v then out.set v true else out).length = out.length := by split <;> simp
    rw [lastV, ih, hl]
    constructor
    · rintro (h | ⟨h1, h2, j, h3, h4⟩)
      · split at h
        · rename_i hc
          rcases hs_set.1 h with ⟨h1, _, h2⟩ | ⟨_, h1⟩
          · simp only [Bool.and_eq_true, Bool.not_eq_true'] at hc
            subst h1
            exact .inr ⟨h2, hc.2, 0, by simp [Hs, hc.1], by omega⟩
          exact .inl h1
        exact .inl h
      exact .inr ⟨h1, h2, j + 1, by simpa [Hs] using h3, by omega⟩
    rintro (h | ⟨h1, h2, j, h3, h4⟩)
    · refine .inl ?_
      split
      · by_cases q : w = v
        · exact hs_set.2 (.inl ⟨q, rfl, h.lt⟩)
        exact hs_set.2 (.inr ⟨q, h⟩)
      exact h
    cases j with
    | zero =>
      have h3' : is = true := by simpa [Hs] using h3
      have h4' : w = v := by omega
      subst h4'
      refine .inl ?_
      rw [if_pos (by simp [h3', h2])]
      exact hs_set.2 (.inl ⟨rfl, rfl, h1⟩)
    | succ j => exact .inr ⟨h1, h2, j, by simpa [Hs] using h3, by omega⟩
theorem hs_lastF (f : Func) (first : List (List Bool)) : ∀ (l : List Edge) (out : List Bool) (w : Nat), Hs (l.foldl (lastE f first) out) w ↔ Hs out w ∨ (w < out.length ∧ ∃ e ∈ l, Hs (firstAt first e.block) w ∧ hasI (blkOf f e.block).params w = false)
  | [], out, w => by simp
  | e :: r, out, w => by
    have ih := hs_lastF f first r (lastE f first out e) w
    rw [List.foldl_cons, ih]
    rw [show (lastE f first out e).length = out.length from lastV_len ..]
    unfold lastE
    rw [hs_lastV]
    constructor
    · rintro ((h | ⟨h1, h2, j, h3, h4⟩) | ⟨h1, x, h2, h3, h4⟩)
      · exact .inl h
      · have : w = j := by omega
        subst this
        exact .inr ⟨h1, e, by simp, h3, h2⟩
      exact .inr ⟨h1, x, by simp [h2], h3, h4⟩
    rintro (h | ⟨h1, x, h2, h3, h4⟩)
    · exact .inl (.inl h)
    rcases List.mem_cons.1 h2 with q | q
    · subst q
      exact .inl (.inr ⟨h1, h4, w, h3, by omega⟩)
    exact .inr ⟨h1, x, q, h3, h4⟩
theorem hs_argsF : ∀ (l : List Edge) (out : List Bool) (w : Nat), Hs (l.foldl (fun o e => putAll o e.args) out) w ↔ Hs out w ∨ (w < out.length ∧ ∃ e ∈ l, ∃ a ∈ e.args, w = a.toNat)
  | [], out, w => by simp
  | e :: r, out, w => by
    have ih := hs_argsF r (putAll out e.args) w
    rw [List.foldl_cons, ih, putAll_len, hs_putAll]
    constructor
    · rintro ((h | ⟨h1, h2⟩) | ⟨h1, x, h2, h3⟩)
      · exact .inl h
      · exact .inr ⟨h1, e, by simp, h2⟩
      exact .inr ⟨h1, x, by simp [h2], h3⟩
    rintro (h | ⟨h1, x, h2, h3⟩)
    · exact .inl (.inl h)
    rcases List.mem_cons.1 h2 with q | q
    · subst q
      exact .inl (.inr ⟨h1, h3⟩)
    exact .inr ⟨h1, x, q, h3⟩
theorem hs_false {n w : Nat} : ¬ Hs (List.replicate n false) w := by
  unfold Hs
  rw [List.getElem?_replicate]
  split <;> simp
theorem hs_lastM (f : Func) (many : Nat) (first : List (List Bool)) (t : Term) (w : Nat) : Hs (lastM f many first t) w ↔ w < many ∧ ((∃ e ∈ t.to, Hs (firstAt first e.block) w ∧ hasI (blkOf f e.block).params w = false) ∨ (usesArg t = true ∧ w = t.arg.toNat) ∨ ∃ e ∈ t.to, ∃ a ∈ e.args, w = a.toNat) := by
  have hl : (t.to.foldl (lastE f first) (List.replicate many false)).length = many := by rw [lastF_len, List.length_replicate]
  rw [lastM, lastA, hs_argsF]
  have key : Hs (if usesArg t then putB (t.to.foldl (lastE f first) (List.replicate many false)) t.arg true else t.to.foldl (lastE f first) (List.replicate many false)) w ↔ w < many ∧ ((∃ e ∈ t.to, Hs (firstAt first e.block) w ∧ hasI (blkOf f e.block).params w = false) ∨ (usesArg t = true ∧ w = t.arg.toNat)) := by
    split
    · rename_i hu
      rw [hs_put rfl, hs_lastF, List.length_replicate, hl]
      constructor
      · rintro (⟨h1, _, h2⟩ | ⟨_, h | ⟨h1, h2⟩⟩)
        · exact ⟨h2, .inr ⟨hu, h1⟩⟩
        · exact absurd h hs_false
        exact ⟨h1, .inl h2⟩
      rintro ⟨h1, h2 | ⟨_, h2⟩⟩
      · by_cases q : w = t.arg.toNat
        · exact .inl ⟨q, rfl, h1⟩
        exact .inr ⟨q, .inr ⟨h1, h2⟩⟩
      exact .inl ⟨h2, rfl, h1⟩
    rename_i hu
    rw [hs_lastF, List.length_replicate]
    constructor
    · rintro (h | ⟨h1, h2⟩)
      · exact absurd h hs_false
      exact ⟨h1, .inl h2⟩
    rintro ⟨h1, h2 | ⟨q, _⟩⟩
    · exact .inr ⟨h1, h2⟩
    exact absurd q hu
  have hl2 : (if usesArg t then putB (t.to.foldl (lastE f first) (List.replicate many false)) t.arg true else t.to.foldl (lastE f first) (List.replicate many false)).length = many := by
    split
    · rw [putB_len, hl]
    exact hl
  rw [key, hl2]
  constructor
  · rintro (⟨h1, h2 | h2⟩ | ⟨h1, h2⟩)
    · exact ⟨h1, .inl h2⟩
    · exact ⟨h1, .inr (.inl h2)⟩
    exact ⟨h1, .inr (.inr h2)⟩
  rintro ⟨h1, h2 | h2 | h2⟩
  · exact .inl ⟨h1, .inl h2⟩
  · exact .inl ⟨h1, .inr h2⟩
  exact .inr ⟨h1, h2⟩
def LeB (a b : List Bool) : Prop := ∀ v, Hs a v → Hs b v
theorem cnt_le : ∀ (a b : List Bool), a.length = b.length → LeB a b → a.countP id ≤ b.countP id ∧ (a ≠ b → a.countP id < b.countP id)
  | [], [], _, _ => by simp
  | [], _ :: _, h, _ => by simp at h
  | _ :: _, [], h, _ => by simp at h
  | x :: a, y :: b, hl, h => by
    have ih := cnt_le a b (by simpa using hl) (fun v hv => by
      have := h (v + 1) (by simpa [Hs] using hv)
      simpa [Hs] using this)
    have h0 := h 0
    simp only [Hs, List.getElem?_cons_zero, Option.some.injEq] at h0
    rw [List.countP_cons, List.countP_cons]
    cases x <;> cases y <;> simp at h0 ⊢
    · exact ih
    · omega
    exact ih
theorem backM_mono : ∀ (l : List Ins) {a b : List Bool}, a.length = b.length → LeB a b → LeB (backM l a) (backM l b)
  | [], _, _, _, h => h
  | i :: r, a, b, hl, h => by
    have ih := backM_mono r hl h
    have hl2 : (backM r a).length = (backM r b).length := by rw [backM_len, backM_len, hl]
    intro v hv
    have e : ∀ s, backM (i :: r) s = backI i (backM r s) := fun s => rfl
    rw [e, hs_backI] at hv
    rw [e, hs_backI]
    rcases hv with ⟨h1, h2⟩ | ⟨h1, h2⟩
    · exact .inl ⟨h1, ih v h2⟩
    exact .inr ⟨by omega, h2⟩
structure Lv where
  first : List (List Bool)
  behind : List (List Bool)
  again : Bool
def lvStep (f : Func) (many k : Nat) (S : Lv) : Lv :=
  if S.behind[k]?.getD [] ≠ [] ∧ lastM f many S.first (blkOf f k).term = S.behind[k]?.getD [] then S
  else ⟨S.first.set k (backM (blkOf f k).ins (lastM f many S.first (blkOf f k).term)), S.behind.set k (lastM f many S.first (blkOf f k).term), true⟩
def lvR (f : Func) (many : Nat) : Nat → Lv → Lv
  | 0, S => S
  | k + 1, S => lvR f many k (lvStep f many k S)
def lvI (f : Func) (many : Nat) : Nat → Lv → Lv
  | 0, S => S
  | n + 1, S => if S.again then lvI f many n (lvR f many f.blocks.length ⟨S.first, S.behind, false⟩) else S
def lvS (n : Nat) : Lv := ⟨List.replicate n [], List.replicate n [], true⟩
def manyM (f : Func) : Nat := (freshM f).toNat + 1
def liveM (f : Func) : Lv := lvI f (manyM f) 700000 (lvS f.blocks.length)
structure LvOK (f : Func) (many : Nat) (S : Lv) : Prop where
  len1 : S.first.length = f.blocks.length
  len2 : S.behind.length = f.blocks.length
  sz1 : ∀ l ∈ S.first, l = [] ∨ l.length = many
  sz2 : ∀ l ∈ S.behind, l = [] ∨ l.length = many
  low : ∀ (k : Nat) (l : List Bool), S.behind[k]? = some l → l ≠ [] → S.first[k]? = some (backM (blkOf f k).ins l) ∧ LeB l (lastM f many S.first (blkOf f k).term)
  nil : ∀ k : Nat, S.behind[k]? = some [] → S.first[k]? = some []
def szB (l : List Bool) : Nat := if l = [] then 0 else 1 + l.countP id
def Lv.weight (many : Nat) (S : Lv) : Nat := (S.behind.map fun l => many + 1 - szB l).sum
theorem lvS_ok (f : Func) (many : Nat) : LvOK f many (lvS f.blocks.length) := by
  refine ⟨by simp [lvS], by simp [lvS], fun l hl => .inl (List.mem_replicate.1 hl).2, fun l hl => .inl (List.mem_replicate.1 hl).2, fun k l hl hne => ?_, fun k hk => hk⟩
  exact absurd (List.mem_replicate.1 (List.mem_of_getElem? hl)).2 hne
theorem szB_le {many : Nat} {l : List Bool} (h : l = [] ∨ l.length = many) : szB l ≤ many + 1 := by
  unfold szB
  split
  · omega
  have := List.countP_le_length (p := id) (l := l)
  rcases h with h | h
  · contradiction
  omega
theorem lastM_mono {f : Func} {many : Nat} {A B : List (List Bool)} (h : ∀ k, LeB (firstAt A k) (firstAt B k)) (t : Term) : LeB (lastM f many A t) (lastM f many B t) := fun v hv => by
  rw [hs_lastM] at hv ⊢
  obtain ⟨h1, h2⟩ := hv
  refine ⟨h1, ?_⟩
  rcases h2 with ⟨e, he, h3, h4⟩ | h2
  · exact .inl ⟨e, he, h _ v h3, h4⟩
  exact .inr h2
theorem lvStep_ok {f : Func} {many : Nat} (h0 : 0 < many) {S : Lv} (h : LvOK f many S) {k : Nat} (hk : k < f.blocks.length) : LvOK f many (lvStep f many k S) ∧ (lvStep f many k S).weight many ≤ S.weight many ∧ ((lvStep f many k S).again = true → S.again = true ∨ (lvStep f many k S).weight many < S.weight many) := by
  obtain ⟨old, ho⟩ : ∃ old, S.behind[k]? = some old := ⟨S.behind[k]'(by rw [h.len2]; exact hk), List.getElem?_eq_getElem _⟩
  obtain ⟨ofi, hof⟩ : ∃ o, S.first[k]? = some o := ⟨S.first[k]'(by rw [h.len1]; exact hk), List.getElem?_eq_getElem _⟩
  unfold lvStep
  rw [ho, Option.getD_some]
  obtain ⟨next, hne⟩ : ∃ n, n = lastM f many S.first (blkOf f k).term := ⟨_, rfl⟩
  have hnl : next.length = many := by rw [hne, lastM_len]
  have hn0 : next ≠ [] := fun e => by rw [e] at hnl; simp at hnl; omega
  rw [← hne]
  have hosz := h.sz2 old (List.mem_of_getElem? ho)
  split
  · exact ⟨h, Nat.le_refl _, fun q => .inl q⟩
  rename_i hc
  have hlow : LeB old next := by
    by_cases q : old = []
    · rw [q]
      intro v hv
      simp [Hs] at hv
    rw [hne]
    exact (h.low k old ho q).2
  have hgrow : LeB ofi (backM (blkOf f k).ins next) := by
    by_cases q : old = []
    · rw [q] at ho
      have := h.nil k ho
      rw [hof] at this
      simp only [Option.some.injEq] at this
      rw [this]
      intro v hv
      simp [Hs] at hv
    have := (h.low k old ho q).1
    rw [hof] at this
    simp only [Option.some.injEq] at this
    rw [this]
    exact backM_mono _ (by rw [hosz.resolve_left q, hnl]) hlow
  have hfst : ∀ j, LeB (firstAt S.first j) (firstAt (S.first.set k (backM (blkOf f k).ins next)) j) := fun j => by
    unfold firstAt
    rw [List.getElem?_set]
    by_cases e : k = j.toNat
    · subst e
      rw [if_pos rfl, if_pos (by rw [h.len1]; exact hk), hof]
      exact hgrow
    rw [if_neg e]
    exact fun v hv => hv
  refine ⟨⟨by simp [h.len1], by simp [h.len2], fun l hl => ?_, fun l hl => ?_, fun j l hj hjn => ?_, fun j hj => ?_⟩, ?_⟩
  · rcases List.mem_or_eq_of_mem_set hl with q | q
    · exact h.sz1 l q
    exact .inr (by rw [q, backM_len, hnl])
  · rcases List.mem_or_eq_of_mem_set hl with q | q
    · exact h.sz2 l q
    exact .inr (by rw [q, hnl])
  · simp only at hj ⊢
    rw [List.getElem?_set] at hj
    by_cases e : k = j
    · subst e
      rw [if_pos rfl, if_pos (by rw [h.len2]; exact hk)] at hj
      simp only [Option.some.injEq] at hj
      subst hj
      refine ⟨by rw [List.getElem?_set_self (by rw [h.len1]; exact hk)], ?_⟩
      have := lastM_mono (f := f) (many := many) hfst (blkOf f k).term
      rw [← hne] at this
      exact this
    rw [if_neg e] at hj
    obtain ⟨q1, q2⟩ := h.low j l hj hjn
    rw [List.getElem?_set_ne e]
    exact ⟨q1, fun v hv => lastM_mono hfst _ v (q2 v hv)⟩
  · simp only at hj ⊢
    rw [List.getElem?_set] at hj
    by_cases e : k = j
    · subst e
      rw [if_pos rfl, if_pos (by rw [h.len2]; exact hk)] at hj
      simp only [Option.some.injEq] at hj
      exact absurd hj hn0
    rw [if_neg e] at hj
    rw [List.getElem?_set_ne e]
    exact h.nil j hj
  have hlt : szB old < szB next := by
    unfold szB
    rw [if_neg hn0]
    by_cases q : old = []
    · rw [if_pos q]
      omega
    rw [if_neg q]
    have hll : old.length = next.length := by rw [hosz.resolve_left q, hnl]
    have := (cnt_le old next hll hlow).2 (fun e => hc ⟨q, e.symm⟩)
    omega
  have h1 := szB_le (l := next) (.inr hnl)
  have hs := sum_set (l := S.behind.map fun l => many + 1 - szB l) (k := k) (x := many + 1 - szB next) (y := many + 1 - szB old) (by simp [ho])
  have e : (S.behind.map fun l => many + 1 - szB l).set k (many + 1 - szB next) = (S.behind.set k next).map fun l => many + 1 - szB l := by rw [List.map_set]
  rw [e] at hs
  simp only [Lv.weight]
  refine ⟨by omega, fun _ => .inr (by omega)⟩
theorem lvR_ok {f : Func} {many : Nat} (h0 : 0 < many) : ∀ (k : Nat) {S : Lv}, k ≤ f.blocks.length → LvOK f many S → LvOK f many (lvR f many k S) ∧ (lvR f many k S).weight many ≤ S.weight many ∧ ((lvR f many k S).again = true → S.again = true ∨ (lvR f many k S).weight many < S.weight many)
  | 0, S, _, h => ⟨h, Nat.le_refl _, fun q => .inl q⟩
  | k + 1, S, hk, h => by
    obtain ⟨a1, a2, a3⟩ := lvStep_ok h0 h (k := k) (by omega)
    obtain ⟨b1, b2, b3⟩ := lvR_ok h0 k (by omega) a1
    simp only [lvR]
    refine ⟨b1, by omega, fun q => ?_⟩
    rcases b3 q with q | q
    · rcases a3 q with q | q
      · exact .inl q
      exact .inr (by omega)
    exact .inr (by omega)
theorem lvI_done {f : Func} {many : Nat} {S : Lv} (h : S.again = false) (n : Nat) : lvI f many n S = S := by
  cases n with
  | zero => rfl
  | succ n => simp [lvI, h]
theorem lvI_ok {f : Func} {many : Nat} (h0 : 0 < many) : ∀ (n : Nat) {S : Lv}, LvOK f many S → LvOK f many (lvI f many n S)
  | 0, _, h => h
  | n + 1, S, h => by
    simp only [lvI]
    split
    · exact lvI_ok h0 n (lvR_ok h0 (S := ⟨S.first, S.behind, false⟩) _ (Nat.le_refl _) ⟨h.len1, h.len2, h.sz1, h.sz2, h.low, h.nil⟩).1
    exact h
theorem lvS_weight {n many : Nat} (hn : n ≤ 128) (hm : many ≤ 4097) : (lvS n).weight many ≤ 524544 := by
  have h := sum_le (l := (lvS n).behind.map fun l => many + 1 - szB l) (b := many + 1) (fun x hx => by
    obtain ⟨l, _, rfl⟩ := List.mem_map.1 hx
    omega)
  simp only [lvS, List.length_map, List.length_replicate] at h
  simp only [Lv.weight, lvS]
  have : n * (many + 1) ≤ 128 * 4098 := Nat.mul_le_mul hn (by omega)
  omega
def tabN : Tab := fun t => if t = 38 then some ⟨1, 24, [.v (.slice none 0 0)], .slice 4⟩ else tab t
theorem tok_105n : TOK Try.prog 38 ⟨1, 24, [.v (.slice none 0 0)], .slice 4⟩ := by
 obtain ⟨⟨i, z, h1, h2, h3, h4, h5, h6, h7, h8, h9⟩, hd⟩ := tok_of_B tokB_38
 have hz : z = .slice none 0 0 := by
  have : (Try.prog.info? 38).bind (fun i => i.zero) = some (.slice none 0 0) := by kernel_rfl
  rw [h1] at this
  simpa [h4] using this
 subst hz
 refine ⟨⟨i, _, h1, h2, h3, h4, h5, h6, h7, fun g j c u hc hu => ?_, fun c hc => ?_⟩, hd⟩
 ·cases j with
  | zero =>
   simp only [List.getElem?_cons_zero, Option.some.injEq] at hc
   subst hc
   have : u = .slice none 0 0 := by simpa [Value.cells] using hu.symm
   subst this
   exact .v trivial
  | succ j => simp at hc
 simp only [List.mem_cons, List.not_mem_nil, or_false] at hc
 subst hc
 trivial
theorem hTN : TabOK Try.prog tabN := fun t ti h => by
 unfold tabN at h
 split at h
 ·rename_i e
  subst e
  cases h
  exact tok_105n
 exact hT t ti h
theorem tabN_38 : tabN 38 = some ⟨1, 24, [.v (.slice none 0 0)], .slice 4⟩ := rfl
theorem tabN_89 : tabN 89 = tab 89 := rfl
theorem tabN_94 : tabN 94 = tab 94 := rfl
theorem tabN_24 : tabN 24 = tab 24 := rfl
theorem tabN_22 : tabN 22 = tab 22 := rfl
theorem tabN_3 : tabN 3 = tab 3 := rfl
theorem FnV.inr {f : Func} (hv : FnV f) {v : Int} (h : v ∈ valsF f) : InR (manyM f) v := by
 have := hv.below h
 unfold InR manyM
 omega
theorem FnV.inUse {f : Func} (hv : FnV f) {k : Nat} {n v : Int} (h : Fine f k n v) : InR (manyM f) v := by
 obtain ⟨p, hp, _⟩ := h
 exact hv.inr hp.val
theorem FnV.many {f : Func} (_ : FnV f) (hv : freshM f ≤ 4096) : 0 < manyM f ∧ manyM f ≤ 4097 := by
 have := freshM_pos f
 unfold manyM
 omega
theorem FnV.fresh {f : Func} (hv : FnV f) : freshM f ≤ 4096 := foldNext_le _ _ (by omega) fun w hw => (hv.vals w hw).2
theorem FnV.ins {f : Func} (hv : FnV f) {k : Nat} {b : Block} (hb : f.blocks[k]? = some b) : ∀ i ∈ b.ins, InR (manyM f) i.to ∧ ∀ a ∈ i.args, InR (manyM f) a := fun i hi => by
 refine ⟨hv.inr (List.mem_flatMap.2 ⟨b, List.mem_of_getElem? hb, ?_⟩), fun a ha => ?_⟩
 ·simp only [blkVals, List.mem_append, List.mem_map]
  exact .inr ⟨i, hi, rfl⟩
 obtain ⟨n, hn⟩ := List.getElem?_of_mem hi
 exact hv.inUse (hv.uses.ins k b hb n i hn a ha)
theorem FnV.term {f : Func} (hv : FnV f) {k : Nat} {b : Block} (hb : f.blocks[k]? = some b) : (∀ e ∈ b.term.to, (0 ≤ e.block ∧ e.block.toNat < f.blocks.length) ∧ ∀ a ∈ e.args, InR (manyM f) a) ∧ (usesArg b.term = true → InR (manyM f) b.term.arg) := by
 refine ⟨fun e he => ⟨?_, fun a ha => hv.inUse (hv.uses.args k b hb e he a ha)⟩, fun hu => ?_⟩
 ·have := hv.edges b (List.mem_of_getElem? hb) e he
  omega
 simp only [usesArg, Bool.and_eq_true, Bool.not_eq_true', decide_eq_false_iff_not] at hu
 exact hv.inUse (hv.uses.arg k b hb hu.1 hu.2)
def lvO (f : Func) (S : Lv) : List AObj := [.gone, .gone, .cells (S.behind.map eH), .cells (lifeC f (manyM f) 2 f.blocks.length), .cells (S.first.map eF)]
theorem lvO_upto (f : Func) (S : Lv) : ∀ o ∈ lvO f S, o.upto 5 := by
 intro o ho
 simp only [lvO, List.mem_cons, List.not_mem_nil, or_false] at ho
 rcases ho with rfl | rfl | rfl | rfl | rfl
 ·trivial
 ·trivial
 ·exact eH_upto _ _
 ·simp [AObj.upto, lifeC, uptoL, AVal.upto, Block.map_upto]
 exact eF_upto _ _
theorem nilsF_flat (n : Nat) : (List.replicate n [AVal.lst 1 [] .ex]).flatten = (List.replicate n []).map eF := by
 rw [nils_flat, List.map_replicate]
 rfl
theorem nilsH_flat (n : Nat) : (List.replicate n [AVal.v (.slice none 0 0)]).flatten = (List.replicate n []).map eH := by
 rw [List.map_replicate]
 induction n with
 | zero => rfl
 | succ n ih => rw [List.replicate_succ, List.flatten_cons, ih, List.replicate_succ]; rfl
theorem eH_put {ls : List (List Bool)} {k : Nat} (h : k < ls.length) {s : List Bool} (hs : s ≠ []) : splice (ls.map eH) k [.lst 1 (s.map eB) .nn] = (ls.set k s).map eH := by
 rw [splice_one _ (by simpa using h), List.map_set, eH_ne hs]
theorem eF_put {ls : List (List Bool)} {k : Nat} (h : k < ls.length) {s : List Bool} (hs : s ≠ []) : splice (ls.map eF) k [.lst 1 (s.map eB) .nn] = (ls.set k s).map eF := by
 rw [splice_one _ (by simpa using h), List.map_set, eF_ne hs]
theorem build_spec (f : Func) (hfit : f.fit) (hc : checkFuncM f = 0) :
  ECall Try.prog 43 [.gone] [f.enc] (fun r O' => r = .tup [.mp 3 0, .ms 4 0 f.blocks.length f.blocks.length, aI 0] ∧ O' = lvO f (liveM f)) := by
 have hck := checkFunc_spec f hfit
 rw [hc] at hck
 have hv := checkFunc_v hfit hc
 have hfr := fresh_spec f hv.vals hfit.2.1 (fun b hb => ⟨(hfit.2.2 b hb).2.1, (hfit.2.2 b hb).2.2.1⟩)
 have hn : f.blocks.length ≤ 128 := hv.fn.few
 have hf0 := freshM_pos f
 have hf1 := hv.fresh
 have hmy := hv.many hf1
 obtain ⟨R, hR⟩ : ∃ R, R = liveM f := ⟨_, rfl⟩
 rw [← hR]
 unfold liveM at hR
 obtain ⟨N, hN⟩ : ∃ N, N = f.blocks.length := ⟨_, rfl⟩
 have hM : freshM f + 1 = (manyM f : Nat) := by unfold manyM; omega
 have hkk : [AObj.gone].length ≤ 5 := by simp
 refine ecall_of hT true (5) Try.func43 rfl (by kernel_rfl) (by simp [Try.ntmps43]) (by assumption) ?_
 show AWP Try.prog _ _ _ ⟨77, _, _⟩
 dsimp only [Tmp, TypeId, slotsOf]
 refine zh1 (za0 ?_)
 refine awp_freeze1 1 1 (.ip none [aI f.name, eBlocks f.blocks]) rfl (by simp [AObj.isSpare]) trivial rfl ?_ ?_
 rotate_left
 simp -dsimp only [simprocAttr, ↓vpre, zp]
 ·refine zh2 ?_
  refine .inl ⟨_, hck, by simp only [uptoL, AVal.upto, zt, zu, aI_upto, eB_upto], later_intro ?_⟩
  simp -dsimp only [simprocAttr, ↓vpre, zp]
  refine za0 ?_
  refine zh1 (za0 ?_)
  apply zk0 rfl <;> intro h
  ·cases h
  refine zb0 ?_
  refine awp_seq (awp_region_any ⟨false, false⟩ hTN hm ?_)
  simp -dsimp only [simprocAttr, ↓vpre, zp, tabN_38, tabN_89, tabN_94, tabN_24, tabN_22, tabN_3]
  refine .inl ⟨_, hfr, by simp only [uptoL, AVal.upto, zt, zu, aI_upto, eB_upto], later_intro ?_⟩
  simp -dsimp only [simprocAttr, ↓vpre, zp, tabN_38, tabN_89, tabN_94, tabN_24, tabN_22, tabN_3, nilsH_flat, hM, ← hN]
  refine ⟨by omega, by omega, by omega, by omega, ?_⟩
  refine ⟨ob (by kernel_rfl), ?_⟩
  refine za0 ?_
  refine zg1 ?_
  simp -dsimp only [simprocAttr, ↓vpre, zp, nilsF_flat, ← hN]
  refine ⟨by omega, by omega, ?_⟩
  refine za0 ?_
  refine zh2 (za0 ?_)
  have hw0 := lvS_weight (n := N) (many := manyM f) (by omega) hmy.2
  have hS0 := lvS_ok f (manyM f)
  rw [← hN] at hS0 hR
  have hfO : ∀ S, LvOK f (manyM f) S → ∀ o ∈ lvO f S, o.upto 5 := fun S _ => lvO_upto f S
  refine awp_block (awp_loop (ι := {x : Lv × Nat // LvOK f (manyM f) x.1 ∧ R = lvI f (manyM f) x.2 x.1 ∧ (x.1.again = true → x.1.weight (manyM f) < x.2)}) (fun x => ⟨77, [(1, .ip none [aI f.name, eBlocks f.blocks]), (6, .mp 3 0), (7, .ms 4 0 N N), (8, .v (.bool x.1.1.again))], [.gone, .gone, .cells (x.1.1.behind.map eH), .cells [aI f.name, eBlocks f.blocks, aI (manyM f), .ms 2 0 N N], .cells (x.1.1.first.map eF)]⟩) (fun x => x.1.1.weight (manyM f) + if x.1.1.again then 1 else 0) ⟨(lvS N, 700000), hS0, hR, fun _ => by simp only; omega⟩ ?_ ?_)
  ·refine zq rfl ?_ ?_
   simp -dsimp only [simprocAttr, ↓vpre, zp, zc]
   all_goals first | rfl | exact Sub.refl _
  rintro ⟨⟨S, q⟩, hSo, hRq, hwq⟩
  simp only at hSo hRq hwq
  refine zh2 (za0 ?_)
  apply zk0 rfl <;> intro h
  ·refine zb0 ?_
   have hag : S.again = true := h
   have hwq := hwq hag
   obtain ⟨q, rfl⟩ : ∃ q', q = q' + 1 := ⟨q - 1, by omega⟩
   have hRq' : R = lvI f (manyM f) q (lvR f (manyM f) N ⟨S.first, S.behind, false⟩) := by
    rw [hRq]
    simp [lvI, hag, hN]
   have hSf : LvOK f (manyM f) ⟨S.first, S.behind, false⟩ := ⟨hSo.len1, hSo.len2, hSo.sz1, hSo.sz2, hSo.low, hSo.nil⟩
   have hro := lvR_ok hmy.1 N (S := ⟨S.first, S.behind, false⟩) (by omega) hSf
   obtain ⟨S1, hS1⟩ : ∃ S1, S1 = lvR f (manyM f) N ⟨S.first, S.behind, false⟩ := ⟨_, rfl⟩
   rw [← hS1] at hRq' hro
   obtain ⟨ro1, ro2, ro3⟩ := hro
   have hwS : (⟨S.first, S.behind, false⟩ : Lv).weight (manyM f) = S.weight (manyM f) := rfl
   rw [hwS] at ro2 ro3
   refine awp_block ?_
   refine zh1 (za0 ?_)
   refine zg1 ?_
   simp -dsimp only [simprocAttr, ↓vpre, zp, ← hN]
   repeat (refine ⟨by omega, ?_⟩)
   refine za0 ?_
   refine awp_block (awp_loop (ι := {y : Nat × Lv // y.1 ≤ N ∧ LvOK f (manyM f) y.2 ∧ S1 = lvR f (manyM f) y.1 y.2}) (fun y => ⟨77, [(1, .ip none [aI f.name, eBlocks f.blocks]), (6, .mp 3 0), (7, .ms 4 0 N N), (8, .v (.bool y.1.2.again)), (9, aI ((y.1.1 : Int) - 1))], [.gone, .gone, .cells (y.1.2.behind.map eH), .cells [aI f.name, eBlocks f.blocks, aI (manyM f), .ms 2 0 N N], .cells (y.1.2.first.map eF)]⟩) (fun y => y.1.1) ⟨(N, ⟨S.first, S.behind, false⟩), by simp, hSf, hS1⟩ ?_ ?_)
   ·refine zq rfl ?_ ?_
    simp -dsimp only [simprocAttr, ↓vpre, zp, zc]
    all_goals rfl
   rintro ⟨⟨k, T⟩, hk, hTo, hTe⟩
   simp only at hk hTo hTe
   refine zh2 (za0 ?_)
   apply zk0 rfl <;> intro h
   ·refine zb0 ?_
    obtain ⟨k, rfl⟩ : ∃ k', k = k' + 1 := ⟨k - 1, by have := of_decide_eq_true h; omega⟩
    have hk1 : ((k + 1 : Nat) : Int) - 1 = (k : Nat) := by omega
    obtain ⟨b, hb⟩ : ∃ b, f.blocks[k]? = some b := ⟨f.blocks[k]'(by omega), List.getElem?_eq_getElem _⟩
    have hblk : blkOf f (k : Int) = b := by simp [blkOf, hb]
    simp only [lvR] at hTe
    have hlast := last_spec (O := [.gone, .gone, .cells (T.behind.map eH), .cells (lifeC f (manyM f) 2 N), .cells (T.first.map eF)]) (by
     have := lvO_upto f T
     unfold lvO at this
     rw [← hN] at this
     exact this) (A := 3) (B := 2) (C := 4) (f := f) (many := manyM f) (N := N) (first := T.first) rfl rfl (by rw [hTo.len1, hN]) hN.symm (by omega) hmy.1 (fun l hl => (by
     rcases hTo.sz1 l hl with r | r
     ·simp [r]
     omega)) hb (by rw [hN]; exact (hv.term hb).1) (hv.term hb).2
    obtain ⟨next, hnx⟩ : ∃ n, n = lastM f (manyM f) T.first b.term := ⟨_, rfl⟩
    have hnl : next.length = manyM f := by rw [hnx, lastM_len]
    have hn0 : next ≠ [] := fun e => by rw [e] at hnl; simp at hnl; omega
    rw [← hnx] at hlast
    obtain ⟨old, ho⟩ : ∃ old, T.behind[k]? = some old := ⟨T.behind[k]'(by rw [hTo.len2]; omega), List.getElem?_eq_getElem _⟩
    have hsl := lvStep_ok hmy.1 hTo (k := k) (by omega)
    have hstep : lvStep f (manyM f) k T = if old ≠ [] ∧ next = old then T else ⟨T.first.set k (backM b.ins next), T.behind.set k next, true⟩ := by
     unfold lvStep
     rw [ho, Option.getD_some, hblk, ← hnx]
    have hbk : k < T.behind.length := by rw [hTo.len2]; omega
    have hfk : k < T.first.length := by rw [hTo.len1]; omega
    have hbl2 := hTo.len2
    have hfl2 := hTo.len1
    refine awp_seq (awp_block ?_)
    refine zg1 ?_
    simp -dsimp only [simprocAttr, ↓vpre, zp, hk1]
    refine .inr (.inr ⟨_, hlast, later_intro (zj ?_)⟩)
    refine za0 ?_
    by_cases hpq : old ≠ [] ∧ next = old
    ·rw [if_pos hpq] at hstep
     rw [hstep] at hTe
     have hog : (T.behind.map eH)[k]? = some (.lst 1 (old.map eB) .nn) := by rw [List.getElem?_map, ho, Option.map_some, eH_ne hpq.1]
     have heq := equalB_spec next old
     rw [decide_eq_true hpq.2] at heq
     refine zg2 ?_
     simp -dsimp only [simprocAttr, ↓vpre, zp, hk1, hog, Nat.mul_one]
     repeat (refine ⟨by omega, ?_⟩)
     refine .inl ⟨_, heq, by simp only [uptoL, AVal.upto, zt, zu, aI_upto, eB_upto], later_intro ?_⟩
     simp -dsimp only [simprocAttr, ↓vpre, zp]
     refine za0 ?_
     refine zw0 rfl ?_
     refine awp_exit ?_
     simp -dsimp only [vend, ne_eq, Nat.reduceEqDiff, reduceCtorEq]
     refine zg0 ?_
     simp -dsimp only [simprocAttr, ↓vpre, zp, hk1]
     repeat (refine ⟨by omega, ?_⟩)
     refine zl0 ?_
     refine ⟨⟨(k, T), by simp only; omega, hTo, hTe⟩, by simp, ?_⟩
     refine zq rfl ?_ ?_
     simp -dsimp only [simprocAttr, ↓vpre, zp, zc]
     all_goals rfl
    rw [if_neg hpq] at hstep
    rw [hstep] at hTe hsl
    refine awp_mid (⟨77, [(1, .ip none [aI f.name, eBlocks f.blocks]), (6, .mp 3 0), (7, .ms 4 0 N N), (9, aI (k : Nat)), (10, .lst 1 (next.map eB) .nn)], [.gone, .gone, .cells (T.behind.map eH), .cells [aI f.name, eBlocks f.blocks, aI (manyM f), .ms 2 0 N N], .cells (T.first.map eF)]⟩) ?_ ?_
    ·by_cases hone : old = []
     ·have hog : (T.behind.map eH)[k]? = some (.v (.slice none 0 0)) := by rw [List.getElem?_map, ho, hone]; rfl
      refine zg1 ?_
      simp -dsimp only [simprocAttr, ↓vpre, zp, hk1, hog, Nat.mul_one]
      repeat (refine ⟨by omega, ?_⟩)
      refine za0 ?_
      refine zu0 rfl ?_
      refine awp_skip ?_
      show Covers _ _
      refine zq rfl ?_ ?_
      simp -dsimp only [simprocAttr, ↓vpre, zp, zc, hk1]
      all_goals rfl
     have hog : (T.behind.map eH)[k]? = some (.lst 1 (old.map eB) .nn) := by rw [List.getElem?_map, ho, Option.map_some, eH_ne hone]
     have heq := equalB_spec next old
     rw [decide_eq_false (fun e => hpq ⟨hone, e⟩)] at heq
     refine zg1 ?_
     simp -dsimp only [simprocAttr, ↓vpre, zp, hk1, hog, Nat.mul_one]
     repeat (refine ⟨by omega, ?_⟩)
     refine .inl ⟨_, heq, by simp only [uptoL, AVal.upto, zt, zu, aI_upto, eB_upto], later_intro ?_⟩
     simp -dsimp only [simprocAttr, ↓vpre, zp]
     refine za0 ?_
     refine zu0 rfl ?_
     refine awp_skip ?_
     show Covers _ _
     refine zq rfl ?_ ?_
     simp -dsimp only [simprocAttr, ↓vpre, zp, zc, hk1]
     all_goals rfl
    skip
    have hpH := eH_put hbk hn0
    have hupB : ∀ o ∈ ([.gone, .gone, .cells ((T.behind.set k next).map eH), .cells (lifeC f (manyM f) 2 N), .cells (T.first.map eF)] : List AObj), o.upto 5 := by
     have := lvO_upto f ⟨T.first, T.behind.set k next, true⟩
     unfold lvO at this
     rw [← hN] at this
     exact this
    have hKK : ∀ s : List Bool, ∀ o ∈ ((([.gone, .gone, .cells ((T.behind.set k next).map eH), .cells (lifeC f (manyM f) 2 N), .cells (T.first.map eF)] : List AObj) ++ [AObj.cells (s.map eB)]).set 5 .gone).take 5, o.upto 5 := fun s o ho => hupB o ho
    have hback := back_spec (X := Unit) (enc := fun _ s => [.gone, .gone, .cells ((T.behind.set k next).map eH), .cells (lifeC f (manyM f) 2 N), .cells (T.first.map eF)] ++ [.cells (s.map eB)]) (Inv := fun _ => True) (step := fun x _ _ => x) (x0 := ()) (O0 := [.gone, .gone, .cells ((T.behind.set k next).map eH), .cells (lifeC f (manyM f) 2 N), .cells (T.first.map eF)]) (K := 5) trivial hupB (fun _ => rfl) (fun _ _ _ => rfl) (fun _ _ _ _ => rfl)
     (fun _ s _ => uptoO_snoc (n := 6) (x := .cells (s.map eB)) (fun o ho => AObj.upto_mono (by omega) (hupB o ho)) (eB_upto 6 s)) (f := f) (many := manyM f) (N := N) (A := 3) (B := 2) (behind := T.behind.set k next) rfl rfl (by simp; omega) (by omega) hb (s0 := next) (by rw [List.getElem?_set_self hbk]) hn0 hnl ((hfit.2.2 b (List.mem_of_getElem? hb)).2.2.1) (hv.ins hb) (.v .nilFunc) (fun _ _ _ _ _ _ => trivial) (.inl ⟨rfl, fun _ _ _ => rfl⟩) (by simp) (fun _ s _ _ => ⟨by simp, hKK s⟩)
    have hbm0 : backM b.ins next ≠ [] := fun e => by
     have := backM_len b.ins next
     rw [e] at this
     simp at this
     omega
    have hpF := eF_put hfk hbm0
    refine zg1 ?_
    simp -dsimp only [simprocAttr, ↓vpre, zp, hk1, hpH, Nat.mul_one]
    refine ⟨by omega, by omega, ?_⟩
    refine za0 ?_
    refine zh0 ?_
    refine .inr (.inr ⟨_, hback, later_intro ?_⟩)
    simp -dsimp only [simprocAttr, ↓vpre, zp, hpF, Nat.mul_one]
    refine ⟨by omega, by omega, ?_⟩
    refine za0 ?_
    refine zh0 ?_
    repeat (refine ⟨by omega, ?_⟩)
    refine zl0 ?_
    refine ⟨⟨(k, _), by simp only; omega, hsl.1, hTe⟩, by simp, ?_⟩
    refine zq rfl ?_ ?_
    simp -dsimp only [simprocAttr, ↓vpre, zp, zc]
    all_goals rfl
   refine awp_exit ?_
   simp -dsimp only [vend, ne_eq, Nat.reduceEqDiff, reduceCtorEq]
   have hk0 : k = 0 := by have := of_decide_eq_false h; omega
   subst hk0
   simp only [lvR] at hTe
   subst hTe
   have hlt2 : S1.again = true → S1.weight (manyM f) < q := fun hh => by
    rcases ro3 hh with r | r
    ·cases r
    omega
   refine ⟨⟨(S1, q), ro1, hRq', hlt2⟩, ?_, ?_⟩
   ·simp only [hag, if_true]
    cases hs1 : S1.again
    ·simp; omega
    rcases ro3 hs1 with r | r
    ·cases r
    simp; omega
   refine zq rfl ?_ ?_
   simp -dsimp only [simprocAttr, ↓vpre, zp, zc]
   all_goals rfl
  refine awp_exit ?_
  simp -dsimp only [vend, ne_eq, Nat.reduceEqDiff, reduceCtorEq]
  have hag : S.again = false := h
  rw [lvI_done hag] at hRq
  subst hRq
  refine zh1 (za0 ?_)
  refine awp_ret ?_
  simp -dsimp only [simprocAttr, ↓vpre, zp, zr, Try.results43]
  have := lvO_upto f R
  unfold lvO lifeC at this ⊢
  rw [← hN] at this ⊢
  exact ⟨this, ⟨show 3 < 5 by omega, show 4 < 5 by omega, trivial, trivial⟩, rfl, rfl⟩
 exact FSub.mp rfl rfl
theorem lvStep_again {f : Func} {many k : Nat} {S : Lv} (h : (lvStep f many k S).again = false) : lvStep f many k S = S ∧ S.behind[k]?.getD [] ≠ [] ∧ lastM f many S.first (blkOf f k).term = S.behind[k]?.getD [] := by
  unfold lvStep at h ⊢
  split at h
  · rename_i hc
    rw [if_pos hc]
    exact ⟨rfl, hc⟩
  cases h
theorem lvR_again {f : Func} {many : Nat} : ∀ (k : Nat) {S : Lv}, (lvR f many k S).again = false → lvR f many k S = S ∧ ∀ j, j < k → S.behind[j]?.getD [] ≠ [] ∧ lastM f many S.first (blkOf f j).term = S.behind[j]?.getD []
  | 0, S, _ => ⟨rfl, fun j hj => absurd hj (by omega)⟩
  | k + 1, S, h => by
    rw [lvR] at h
    have ih := lvR_again k h
    rw [ih.1] at h
    have h1 := lvStep_again h
    rw [lvR, ih.1, h1.1]
    rw [h1.1] at ih
    refine ⟨rfl, fun j hj => ?_⟩
    by_cases e : j = k
    · subst e
      exact h1.2
    exact ih.2 j (by omega)
theorem lvI_ends {f : Func} {many : Nat} (h0 : 0 < many) : ∀ (n : Nat) {S : Lv}, LvOK f many S → (S.again = true → S.weight many < n) → (lvI f many n S).again = false
  | 0, S, _, h => by
    cases hs : S.again with
    | false => exact hs
    | true => exact absurd (h hs) (by omega)
  | n + 1, S, hS, h => by
    simp only [lvI]
    split
    · rename_i ha
      have hw := h ha
      have hr := lvR_ok h0 (S := ⟨S.first, S.behind, false⟩) f.blocks.length (Nat.le_refl _) ⟨hS.len1, hS.len2, hS.sz1, hS.sz2, hS.low, hS.nil⟩
      have hwS : (⟨S.first, S.behind, false⟩ : Lv).weight many = S.weight many := rfl
      refine lvI_ends h0 n hr.1 fun q => ?_
      rcases hr.2.2 q with q | q
      · cases q
      omega
    rename_i ha
    simpa using ha
theorem lvI_last {f : Func} {many : Nat} : ∀ (n : Nat) {S : Lv}, S.again = true → (lvI f many n S).again = false → ∃ T : Lv, lvI f many n S = lvR f many f.blocks.length T
  | 0, S, h1, h2 => by
    rw [lvI, h1] at h2
    cases h2
  | n + 1, S, h1, h2 => by
    simp only [lvI, h1, if_true] at h2 ⊢
    cases hr : (lvR f many f.blocks.length ⟨S.first, S.behind, false⟩).again with
    | false => exact ⟨_, lvI_done hr n⟩
    | true => exact lvI_last n hr h2
theorem live_fix {f : Func} (h128 : f.blocks.length ≤ 128) (hfr : freshM f ≤ 4096) : LvOK f (manyM f) (liveM f) ∧ ∀ (k : Nat), k < f.blocks.length → ∃ l, (liveM f).behind[k]? = some l ∧ l ≠ [] ∧ l.length = manyM f ∧ l = lastM f (manyM f) (liveM f).first (blkOf f k).term ∧ (liveM f).first[k]? = some (backM (blkOf f k).ins l) := by
  have hf := freshM_pos f
  have h0 : 0 < manyM f := by unfold manyM; omega
  have h1 : manyM f ≤ 4097 := by unfold manyM; omega
  have hS := lvS_ok f (manyM f)
  have hw := lvS_weight (n := f.blocks.length) (many := manyM f) h128 h1
  have hend := lvI_ends h0 700000 hS (fun _ => by omega)
  have hok := lvI_ok h0 700000 hS
  obtain ⟨T, hT⟩ := lvI_last 700000 rfl hend
  have hTa := lvR_again f.blocks.length (S := T) (by rw [← hT]; exact hend)
  have hfix := hTa.2
  rw [show T = lvI f (manyM f) 700000 (lvS f.blocks.length) from hTa.1.symm.trans hT.symm] at hfix
  have e : liveM f = lvI f (manyM f) 700000 (lvS f.blocks.length) := rfl
  rw [← e] at hfix hok
  refine ⟨hok, fun k hk => ?_⟩
  obtain ⟨l, hl⟩ : ∃ l, (liveM f).behind[k]? = some l := ⟨(liveM f).behind[k]'(by rw [hok.len2]; exact hk), List.getElem?_eq_getElem _⟩
  obtain ⟨h2, h3⟩ := hfix k hk
  rw [hl, Option.getD_some] at h2 h3
  refine ⟨l, hl, h2, ?_, h3.symm, (hok.low k l hl h2).1⟩
  rcases hok.sz2 l (List.mem_of_getElem? hl) with q | q
  · exact absurd q h2
  exact q
theorem least_step {f : Func} {Q : Nat → Nat → Prop} (hQ : ∀ (k : Nat) (first : List (List Bool)), k < f.blocks.length → (∀ j w, Hs (first[j]?.getD []) w → Q j w) → ∀ w, Hs (backM (blkOf f k).ins (lastM f (manyM f) first (blkOf f k).term)) w → Q k w)
    {k : Nat} (hk : k < f.blocks.length) {S : Lv} (h : ∀ j w, Hs (S.first[j]?.getD []) w → Q j w) : ∀ j w, Hs ((lvStep f (manyM f) k S).first[j]?.getD []) w → Q j w := by
  unfold lvStep
  split
  · exact h
  intro j w hj
  simp only at hj
  rw [List.getElem?_set] at hj
  split at hj
  · rename_i e
    subst e
    split at hj
    · exact hQ k S.first hk h w hj
    simp [Hs] at hj
  exact h j w hj
theorem least_R {f : Func} {Q : Nat → Nat → Prop} (hQ : ∀ (k : Nat) (first : List (List Bool)), k < f.blocks.length → (∀ j w, Hs (first[j]?.getD []) w → Q j w) → ∀ w, Hs (backM (blkOf f k).ins (lastM f (manyM f) first (blkOf f k).term)) w → Q k w) :
    ∀ (k : Nat) {S : Lv}, k ≤ f.blocks.length → (∀ j w, Hs (S.first[j]?.getD []) w → Q j w) → ∀ j w, Hs ((lvR f (manyM f) k S).first[j]?.getD []) w → Q j w
  | 0, _, _, h => h
  | k + 1, _, hk, h => least_R hQ k (by omega) (least_step hQ (by omega) h)
theorem least_I {f : Func} {Q : Nat → Nat → Prop} (hQ : ∀ (k : Nat) (first : List (List Bool)), k < f.blocks.length → (∀ j w, Hs (first[j]?.getD []) w → Q j w) → ∀ w, Hs (backM (blkOf f k).ins (lastM f (manyM f) first (blkOf f k).term)) w → Q k w) :
    ∀ (n : Nat) {S : Lv}, (∀ j w, Hs (S.first[j]?.getD []) w → Q j w) → ∀ j w, Hs ((lvI f (manyM f) n S).first[j]?.getD []) w → Q j w
  | 0, _, h => h
  | n + 1, S, h => by
    simp only [lvI]
    split
    · exact least_I hQ n (least_R hQ f.blocks.length (S := ⟨S.first, S.behind, false⟩) (Nat.le_refl _) h)
    exact h
theorem live_least {f : Func} {Q : Nat → Nat → Prop} (hQ : ∀ (k : Nat) (first : List (List Bool)), k < f.blocks.length → (∀ j w, Hs (first[j]?.getD []) w → Q j w) → ∀ w, Hs (backM (blkOf f k).ins (lastM f (manyM f) first (blkOf f k).term)) w → Q k w) :
    ∀ j w, Hs ((liveM f).first[j]?.getD []) w → Q j w := by
  refine least_I hQ 700000 fun j w h => ?_
  unfold lvS at h
  simp only at h
  rw [List.getElem?_replicate] at h
  split at h <;> simp [Hs] at h
theorem backM_tr : ∀ (l : List Ins) {a b : List Bool}, (∀ w, Hs a w → Hs b w) → (∀ i ∈ l, ∀ x ∈ i.args, x.toNat < b.length) → ∀ w, Hs (backM l a) w → Hs (backM l b) w
  | [], _, _, h, _ => h
  | i :: r, a, b, h, hl => fun w hw => by
    have ih := backM_tr r h fun j hj => hl j (List.mem_cons_of_mem _ hj)
    have e : ∀ s, backM (i :: r) s = backI i (backM r s) := fun s => rfl
    rw [e, hs_backI] at hw
    rw [e, hs_backI]
    rcases hw with ⟨h1, h2⟩ | ⟨_, x, h2, h3⟩
    · exact .inl ⟨h1, ih w h2⟩
    exact .inr ⟨by rw [backM_len, h3]; exact hl i List.mem_cons_self x h2, x, h2, h3⟩
theorem live_tr {f g : Func} (hv : FnV g) {bf bg : Block} {j : Nat} (hbg : g.blocks[j]? = some bg) (hins : bf.ins = bg.ins) (harg : bf.term.arg = bg.term.arg) (hkind : bf.term.kind = bg.term.kind) {mf : Nat} {F G : List (List Bool)} (hsz : ∀ l ∈ G, l = [] ∨ l.length = manyM g)
    (hto : ∀ e ∈ bf.term.to, ∃ e' ∈ bg.term.to, e'.args = e.args ∧ (blkOf g e'.block).params = (blkOf f e.block).params ∧ ∀ w, Hs (firstAt F e.block) w → Hs (firstAt G e'.block) w) :
    (∀ w, Hs (lastM f mf F bf.term) w → Hs (lastM g (manyM g) G bg.term) w) ∧ ∀ w, Hs (backM bf.ins (lastM f mf F bf.term)) w → Hs (backM bg.ins (lastM g (manyM g) G bg.term)) w := by
  have hua : usesArg bf.term = usesArg bg.term := by
    unfold usesArg
    rw [hkind]
  have ht := hv.term hbg
  have h1 : ∀ w, Hs (lastM f mf F bf.term) w → Hs (lastM g (manyM g) G bg.term) w := fun w h => by
    rw [hs_lastM] at h ⊢
    obtain ⟨_, h⟩ := h
    rcases h with ⟨e, he, q1, q2⟩ | ⟨q1, q2⟩ | ⟨e, he, a, ha, q⟩
    · obtain ⟨e', he', _, p2, p3⟩ := hto e he
      have hw := p3 w q1
      refine ⟨?_, .inl ⟨e', he', hw, by rw [p2]; exact q2⟩⟩
      have hl := hw.lt
      unfold firstAt at hw hl
      cases hg : G[e'.block.toNat]? with
      | none =>
        rw [hg] at hl
        simp at hl
      | some l =>
        rw [hg, Option.getD_some] at hl
        rcases hsz l (List.mem_of_getElem? hg) with r | r
        · rw [r] at hl
          simp at hl
        omega
    · rw [hua] at q1
      have := ht.2 q1
      unfold InR at this
      rw [harg] at q2
      exact ⟨by omega, .inr (.inl ⟨q1, q2⟩)⟩
    obtain ⟨e', he', p1, _, _⟩ := hto e he
    have := (ht.1 e' he').2 a (by rw [p1]; exact ha)
    unfold InR at this
    exact ⟨by omega, .inr (.inr ⟨e', he', a, by rw [p1]; exact ha, q⟩)⟩
  refine ⟨h1, ?_⟩
  rw [hins]
  refine backM_tr bg.ins h1 fun i hi x hx => ?_
  rw [lastM_len]
  have := (hv.ins hbg i hi).2 x hx
  unfold InR at this
  omega
theorem live_prune {f : Func} (hv : FnV f) (hv' : FnV (pruneM f)) {k : Int} (hk : 0 ≤ plF f k) :
    (∀ w, Hs ((liveM f).first[k.toNat]?.getD []) w ↔ Hs ((liveM (pruneM f)).first[(posM f k).toNat]?.getD []) w) ∧ ∀ w, Hs ((liveM f).behind[k.toNat]?.getD []) w ↔ Hs ((liveM (pruneM f)).behind[(posM f k).toNat]?.getD []) w := by
  have hg := hv.fn.gr
  have hw := ord_w hg
  obtain ⟨hok, hfix⟩ := live_fix hv.fn.few hv.fresh
  obtain ⟨hok', hfix'⟩ := live_fix hv'.fn.few hv'.fresh
  have hpair : ∀ {k : Int}, 0 ≤ plF f k → f.blocks[k.toNat]? = some (blkOf f k) ∧ (pruneM f).blocks[(posM f k).toNat]? = some (renB (atM f) (blkOf f k)) ∧ k.toNat < f.blocks.length ∧ (posM f k).toNat < (pruneM f).blocks.length ∧ blkOf f ((k.toNat : Nat) : Int) = blkOf f k ∧ blkOf (pruneM f) (((posM f k).toNat : Nat) : Int) = renB (atM f) (blkOf f k) := fun {k} hk => by
    have hr := hw.range k hk
    obtain ⟨p1, p2⟩ := pos_at hk
    have hb := (prune_blk (f := f)).2 ⟨k, p2, rfl⟩
    refine ⟨blk_at hr.1 hr.2, hb, by omega, lt_of_getElem? hb, by rw [show ((k.toNat : Nat) : Int) = k by omega], ?_⟩
    rw [show (((posM f k).toNat : Nat) : Int) = posM f k by omega, prune_of hk]
  have hedge : ∀ {k : Int}, 0 ≤ plF f k → ∀ e ∈ (blkOf f k).term.to, 0 ≤ plF f e.block ∧ (renE (atM f) e).block = posM f e.block := fun {k} hk e he => by
    have hr := hw.range k hk
    have := hg.edges _ (List.mem_of_getElem? (blk_at hr.1 hr.2)) e he
    exact ⟨hw.next k e.block hk ⟨e, he, rfl⟩, at_pos (by omega) this.2⟩
  have hfst : ∀ (F : List (List Bool)) (k : Int), firstAt F k = F[k.toNat]?.getD [] := fun F k => rfl
  have to1 : ∀ {k : Int}, 0 ≤ plF f k → ∀ (F : List (List Bool)), (∀ j : Int, 0 ≤ plF f j → ∀ w, Hs (F[j.toNat]?.getD []) w → Hs ((liveM (pruneM f)).first[(posM f j).toNat]?.getD []) w) →
      ∀ e ∈ (blkOf f k).term.to, ∃ e' ∈ (renB (atM f) (blkOf f k)).term.to, e'.args = e.args ∧ (blkOf (pruneM f) e'.block).params = (blkOf f e.block).params ∧ ∀ w, Hs (firstAt F e.block) w → Hs (firstAt (liveM (pruneM f)).first e'.block) w := fun {k} hk F hF e he => by
    obtain ⟨h1, h2⟩ := hedge hk e he
    refine ⟨renE (atM f) e, by rw [renB_to]; exact List.mem_map.2 ⟨e, he, rfl⟩, rfl, ?_, fun w hw => ?_⟩
    · rw [h2, prune_of h1]
      rfl
    rw [hfst, h2]
    exact hF e.block h1 w hw
  have to2 : ∀ {k : Int}, 0 ≤ plF f k → ∀ (G : List (List Bool)), (∀ j : Int, 0 ≤ plF f j → ∀ w, Hs (G[(posM f j).toNat]?.getD []) w → Hs ((liveM f).first[j.toNat]?.getD []) w) →
      ∀ e ∈ (renB (atM f) (blkOf f k)).term.to, ∃ e' ∈ (blkOf f k).term.to, e'.args = e.args ∧ (blkOf f e'.block).params = (blkOf (pruneM f) e.block).params ∧ ∀ w, Hs (firstAt G e.block) w → Hs (firstAt (liveM f).first e'.block) w := fun {k} hk G hG e he => by
    rw [renB_to] at he
    obtain ⟨x, hx, rfl⟩ := List.mem_map.1 he
    obtain ⟨h1, h2⟩ := hedge hk x hx
    refine ⟨x, hx, rfl, ?_, fun w hw => ?_⟩
    · rw [h2, prune_of h1]
      rfl
    rw [hfst, h2] at hw
    exact hG x.block h1 w hw
  have d1 : ∀ j : Int, 0 ≤ plF f j → ∀ w, Hs ((liveM f).first[j.toNat]?.getD []) w → Hs ((liveM (pruneM f)).first[(posM f j).toNat]?.getD []) w := by
    have := live_least (f := f) (Q := fun j w => 0 ≤ plF f (j : Int) → Hs ((liveM (pruneM f)).first[(posM f (j : Int)).toNat]?.getD []) w) (fun k F hkl hF w hwv hk => by
      obtain ⟨p1, p2, p3, p4, p5, p6⟩ := hpair hk
      obtain ⟨l, l1, l2, l3, l4, l5⟩ := hfix' _ p4
      rw [l5, Option.getD_some, p6, l4, p6]
      exact (live_tr hv' (bf := blkOf f (k : Int)) p2 rfl rfl rfl hok'.sz1 (to1 hk F fun j hj w h => by
        have hr := hw.range j hj
        have := hF j.toNat w h
        rw [show ((j.toNat : Nat) : Int) = j by omega] at this
        exact this hj)).2 w hwv)
    intro j hj w h
    have hr := hw.range j hj
    have := this j.toNat w h
    rw [show ((j.toNat : Nat) : Int) = j by omega] at this
    exact this hj
  have d2 : ∀ j : Int, 0 ≤ plF f j → ∀ w, Hs ((liveM (pruneM f)).first[(posM f j).toNat]?.getD []) w → Hs ((liveM f).first[j.toNat]?.getD []) w := by
    have := live_least (f := pruneM f) (Q := fun j w => ∀ k, (rchS f)[j]? = some k → Hs ((liveM f).first[k.toNat]?.getD []) w) (fun j G hjl hG w hwv k hjk => by
      have hk := mem_rchS.1 (List.mem_of_getElem? hjk)
      obtain ⟨p1, p2, p3, p4, p5, p6⟩ := hpair hk
      have hpos := pos_of hw hjk
      obtain ⟨l, l1, l2, l3, l4, l5⟩ := hfix _ p3
      rw [l5, Option.getD_some, p5, l4, p5]
      have hbj : blkOf (pruneM f) (j : Int) = renB (atM f) (blkOf f k) := by rw [← hpos, prune_of hk]
      rw [hbj] at hwv
      exact (live_tr hv (bf := renB (atM f) (blkOf f k)) p1 rfl rfl rfl hok.sz1 (to2 hk G fun i hi w h => hG _ w h i (pos_at hi).2)).2 w hwv)
    exact fun j hj w h => this _ w h j (pos_at hj).2
  refine ⟨fun w => ⟨d1 k hk w, d2 k hk w⟩, fun w => ?_⟩
  obtain ⟨p1, p2, p3, p4, p5, p6⟩ := hpair hk
  obtain ⟨l, l1, l2, l3, l4, l5⟩ := hfix _ p3
  obtain ⟨m, m1, m2, m3, m4, m5⟩ := hfix' _ p4
  rw [l1, m1, Option.getD_some, Option.getD_some, l4, m4, p5, p6]
  exact ⟨(live_tr hv' (bf := blkOf f k) p2 rfl rfl rfl hok'.sz1 (to1 hk _ d1)).1 w, (live_tr hv (bf := renB (atM f) (blkOf f k)) p1 rfl rfl rfl hok.sz1 (to2 hk _ d2)).1 w⟩
theorem listM_none : ∀ (l : List Bool) (n : Nat), (∀ w, ¬ Hs l w) → listM n l = []
  | [], _, _ => rfl
  | b :: r, n, h => by
    have h0 := h 0
    have hb : b = false := by
      cases b with
      | false => rfl
      | true => exact absurd rfl h0
    rw [listM, hb, if_neg (by simp)]
    exact listM_none r (n + 1) fun w q => h (w + 1) (by simpa [Hs] using q)
theorem listM_eq : ∀ (l m : List Bool) (n : Nat), (∀ w, Hs l w ↔ Hs m w) → listM n l = listM n m
  | [], m, n, h => (listM_none m n fun w q => by have := (h w).2 q; simp [Hs] at this).symm
  | b :: l, [], n, h => listM_none (b :: l) n fun w q => by have := (h w).1 q; simp [Hs] at this
  | b :: l, c :: m, n, h => by
    have h0 := h 0
    have ih := listM_eq l m (n + 1) fun w => by
      have := h (w + 1)
      simpa [Hs] using this
    have hbc : b = c := by
      simp only [Hs, List.getElem?_cons_zero, Option.some.injEq] at h0
      cases b <;> cases c <;> simp at h0 ⊢
    rw [listM, listM, hbc, ih]
theorem blC_ren (A : List Int) (id : Nat) (b : Block) : blC id (renB A b) = blC id b := by
  unfold blC
  rw [renB_to, outE_ren]
  rfl
theorem blsC_at : ∀ {ids : List Nat} {bs : List Block} {k id : Nat} {b : Block}, ids[k]? = some id → bs[k]? = some b → ((blsC ids bs).drop (k * 7)).take 7 = blC id b
  | i :: ids, c :: bs, 0, id, b, h1, h2 => by
    simp only [List.getElem?_cons_zero, Option.some.injEq] at h1 h2
    subst h1
    subst h2
    rfl
  | i :: ids, c :: bs, k + 1, id, b, h1, h2 => by
    have ih := blsC_at (ids := ids) (bs := bs) (k := k) (by simpa using h1) (by simpa using h2)
    have e : blsC (i :: ids) (c :: bs) = blC i c ++ blsC ids bs := rfl
    have hl : (blC i c).length = 7 := rfl
    rw [e, List.drop_append, List.drop_of_length_le (by rw [hl]; omega), hl, List.nil_append, show (k + 1) * 7 - 7 = k * 7 by omega]
    exact ih
  | [], _, k, id, b, h1, _ => by simp at h1
  | i :: ids, [], k, id, b, _, h2 => by simp at h2
theorem prC_snoc {f : Func} {A : List Int} {ids : List Nat} {l : List Int} {k id : Nat} {b : Block} (h1 : ids[k]? = some id) (h2 : f.blocks[k]? = some b) :
    blsC (prI ids (l ++ [(k : Int)])) (prB f A (l ++ [(k : Int)])) = blsC (prI ids l) (prB f A l) ++ blC id b := by
  have hb : blkOf f (k : Int) = b := by
    unfold blkOf
    rw [Int.toNat_natCast, h2]
    rfl
  unfold prI prB
  rw [List.map_append, List.map_append]
  simp only [List.map_cons, List.map_nil, Int.toNat_natCast, h1, Option.getD_some, hb]
  rw [blsC_snoc (by simp), blC_ren]
theorem prI_len (ids : List Nat) (l : List Int) : (prI ids l).length = l.length := List.length_map ..
theorem prB_len (f : Func) (A : List Int) (l : List Int) : (prB f A l).length = l.length := List.length_map ..
theorem PrS.start {f : Func} (A : List Int) {ids : List Nat} {bid : Nat} {O : List AObj} (hup : ∀ o ∈ O, o.upto O.length) (h1 : O[1]? = some (.cells [aI 0, .lst 7 [] .ex])) (hb : 5 ≤ bid ∧ O[bid]? = some (.cells (blsC ids f.blocks))) (hc : CpO 5 ids f.blocks O)
    (hne : ∀ (j id : Nat) (b : Block), ids[j]? = some id → f.blocks[j]? = some b → b.term.to ≠ [] → id ≠ bid) : PrS f A ids bid O.length [] 0 (O ++ [AObj.cells [aI f.name, .lst 7 [] .ex]]) where
  up := fun o ho => by
    rw [List.length_append, List.length_singleton]
    rcases List.mem_append.1 ho with q | q
    · exact AObj.upto_mono (by omega) (hup o q)
    rw [List.mem_singleton] at q
    subst q
    exact ⟨trivial, ⟨trivial, trivial⟩, trivial⟩
  r1 := at_left h1
  x5 := by
    have := lt_of_getElem? hb.2
    omega
  xb := by
    have := lt_of_getElem? hb.2
    omega
  bl := ⟨hb.1, at_left hb.2⟩
  li := hc.li
  own := fun j id b q1 q2 q3 => by
    obtain ⟨o1, o2⟩ := hc.own j id b q1 q2 q3
    have := lt_of_getElem? o2
    refine ⟨o1, hne j id b q1 q2 q3, by omega, fun q => absurd rfl q, ?_⟩
    rw [if_neg (by simp)]
    exact at_left o2
  inj := hc.inj
  out := snoc_get _ _
  lst := fun q => absurd rfl q
def mixB : Nat → List Nat → List Block → List AVal
  | 0, ids, bs => blsC ids bs
  | i + 1, _ :: ids, b :: bs => b.enc.cells ++ mixB i ids bs
  | _ + 1, _, _ => []
theorem mixB_len : ∀ (i : Nat) {ids : List Nat} {bs : List Block}, ids.length = bs.length → (mixB i ids bs).length = bs.length * 7
  | 0, ids, bs, h => blsC_len h
  | i + 1, _ :: ids, b :: bs, h => by
    have hb : b.enc.cells.length = 7 := rfl
    rw [mixB, List.length_append, mixB_len i (by simpa using h), hb, List.length_cons]
    omega
  | i + 1, [], [], _ => rfl
  | i + 1, [], b :: bs, h => by simp at h
  | i + 1, x :: ids, [], h => by simp at h
theorem blC_scalar (id : Nat) (b : Block) : ∀ d ∈ blC id b, d.scalar := fun d hd => by
  simp only [blC, List.mem_cons, List.not_mem_nil, or_false] at hd
  rcases hd with rfl | rfl | rfl | rfl | rfl | rfl | rfl
  · trivial
  · trivial
  · trivial
  · trivial
  · trivial
  · trivial
  unfold outE
  split <;> trivial
theorem mixB_scalar : ∀ (i : Nat) (ids : List Nat) (bs : List Block), ∀ d ∈ mixB i ids bs, d.scalar
  | 0, ids, bs => fun d hd => by
    unfold mixB blsC at hd
    obtain ⟨l, hl, hd⟩ := List.mem_flatten.1 hd
    obtain ⟨j, hj⟩ := List.mem_iff_getElem?.1 hl
    rw [List.getElem?_zipWith] at hj
    cases h1 : ids[j]? with
    | none => rw [h1] at hj; cases hj
    | some id =>
      cases h2 : bs[j]? with
      | none => rw [h1, h2] at hj; cases hj
      | some b =>
        rw [h1, h2] at hj
        simp only [Option.some.injEq] at hj
        subst hj
        exact blC_scalar id b d hd
  | i + 1, x :: ids, b :: bs => fun d hd => by
    rw [mixB] at hd
    rcases List.mem_append.1 hd with q | q
    · simp only [Block.enc, AVal.cells, List.mem_cons, List.not_mem_nil, or_false] at q
      rcases q with rfl | rfl | rfl | rfl | rfl | rfl | rfl <;> trivial
    exact mixB_scalar i ids bs d q
  | i + 1, [], [] => fun d hd => by cases hd
  | i + 1, [], b :: bs => fun d hd => by cases hd
  | i + 1, x :: ids, [] => fun d hd => by cases hd
theorem mixB_at : ∀ (i : Nat) {ids : List Nat} {bs : List Block} {id : Nat} {b : Block}, ids[i]? = some id → bs[i]? = some b →
    (mixB i ids bs)[i * 7 + 6]? = some (outE id b.term.to) ∧ mixB (i + 1) ids bs = (mixB i ids bs).set (i * 7 + 6) (eEdges b.term.to)
  | 0, x :: ids, c :: bs, id, b, h1, h2 => by
    simp only [List.getElem?_cons_zero, Option.some.injEq] at h1 h2
    subst h1
    subst h2
    exact ⟨rfl, rfl⟩
  | i + 1, x :: ids, c :: bs, id, b, h1, h2 => by
    obtain ⟨i1, i2⟩ := mixB_at i (ids := ids) (bs := bs) (id := id) (b := b) (by simpa using h1) (by simpa using h2)
    have hb : c.enc.cells.length = 7 := rfl
    have e : mixB (i + 1) (x :: ids) (c :: bs) = c.enc.cells ++ mixB i ids bs := rfl
    have e2 : mixB (i + 1 + 1) (x :: ids) (c :: bs) = c.enc.cells ++ mixB (i + 1) ids bs := rfl
    rw [e, e2, i2]
    refine ⟨?_, ?_⟩
    · rw [List.getElem?_append_right (by omega), hb, show (i + 1) * 7 + 6 - 7 = i * 7 + 6 by omega]
      exact i1
    rw [List.set_append_right _ _ (by omega), hb, show (i + 1) * 7 + 6 - 7 = i * 7 + 6 by omega]
  | 0, [], _, id, b, h1, _ => by simp at h1
  | 0, _ :: _, [], id, b, _, h2 => by simp at h2
  | i + 1, [], _, id, b, h1, _ => by simp at h1
  | i + 1, _ :: _, [], id, b, _, h2 => by simp at h2
theorem mixB_all : ∀ {ids : List Nat} {bs : List Block}, ids.length = bs.length → mixB bs.length ids bs = cellsAll (bs.map Block.enc)
  | [], [], _ => rfl
  | x :: ids, b :: bs, h => by
    have e : cellsAll ((b :: bs).map Block.enc) = b.enc.cells ++ cellsAll (bs.map Block.enc) := rfl
    rw [e, ← mixB_all (ids := ids) (by simpa using h)]
    rfl
  | [], b :: bs, h => by simp at h
  | x :: ids, [], h => by simp at h
theorem blocks_share (bs : List Block) : (cellsAll (bs.map Block.enc)).map AVal.shareCell = cellsAll (bs.map Block.enc) := by
  induction bs with
  | nil => rfl
  | cons b r ih =>
    have e : cellsAll ((b :: r).map Block.enc) = b.enc.cells ++ cellsAll (r.map Block.enc) := rfl
    rw [e, List.map_append, ih]
    rfl
theorem awp_blocks {P : Program} {kb : Nat} {c : Code} {Q : AEx → St → Prop} {n : Nat} {slots : List (Nat × AVal)} {O : List AObj} {ids : List Nat} {bs : List Block} {X oid : Nat} {name : Int}
    (hl : ids.length = bs.length) (hX : oid ≠ X) (hout : O[X]? = some (.cells [aI name, .os oid bs.length 7])) (hlst : O[oid]? = some (.cells (blsC ids bs)))
    (hown : ∀ (j id : Nat) (b : Block), ids[j]? = some id → bs[j]? = some b → b.term.to ≠ [] → id ≠ oid ∧ id ≠ X ∧ O[id]? = some (.cells (edC b.term.to)))
    (hinj : ∀ (i j id : Nat) (b d : Block), ids[i]? = some id → ids[j]? = some id → bs[i]? = some b → bs[j]? = some d → b.term.to ≠ [] → d.term.to ≠ [] → i = j)
    (h : ∀ O', O'.length = O.length → O'[X]? = some (.cells [aI name, eBlocks bs]) → AWP P kb c Q ⟨n, slots, O'⟩) : AWP P kb c Q ⟨n, slots, O⟩ := by
  refine awp_frzp (A := oid) (C := fun i => mixB i ids bs) (N := bs.length) (M := bs.length * 7) (fun i => i * 7 + 6) (fun i => mixB_scalar i ids bs) (fun i => mixB_len i hl)
    (fun i O => O[X]? = some (.cells [aI name, .os oid bs.length 7]) ∧ ∀ (j id : Nat) (b : Block), i ≤ j → ids[j]? = some id → bs[j]? = some b → b.term.to ≠ [] → id ≠ oid ∧ id ≠ X ∧ O[id]? = some (.cells (edC b.term.to)))
    (fun i O hi hA hf => ?_) bs.length 0 O (by omega) hlst ⟨hout, fun j id b _ => hown j id b⟩ (fun O1 hO1 hA hf => ?_)
  · have hid : ids[i]? = some (ids[i]'(by omega)) := List.getElem?_eq_getElem _
    have hb : bs[i]? = some (bs[i]'hi) := List.getElem?_eq_getElem _
    generalize ids[i]'(by omega) = id at hid
    generalize bs[i]'hi = b at hb
    obtain ⟨m1, m2⟩ := mixB_at i hid hb
    by_cases ht : b.term.to = []
    · refine .inl ⟨?_, hf.1, fun j id b hij => hf.2 j id b (by omega)⟩
      have he : eEdges b.term.to = outE id b.term.to := by
        rw [ht]
        rfl
      show mixB (i + 1) ids bs = mixB i ids bs
      rw [m2, he]
      apply List.ext_getElem?
      intro j
      rw [List.getElem?_set]
      split
      · rename_i e
        rw [← e, if_pos (lt_of_getElem? m1), m1]
      rfl
    obtain ⟨o1, o2, o3⟩ := hf.2 i id b (Nat.le_refl _) hid hb ht
    refine .inr ⟨id, .cells (edC b.term.to), .os id b.term.to.length 2, eEdges b.term.to, o1, o3, by simp [AObj.isSpare], trivial, ?_, m2, FSub.os (cs := edC b.term.to) o3 (fun x hx => by obtain ⟨e, _, rfl⟩ := List.mem_map.1 hx; rfl) (by simp) (by rw [List.drop_zero, List.take_of_length_le (by rw [edC_len]; omega)]; exact edC_share _), ?_, fun j id' b' hij h1 h2 h3 => ?_⟩
    · show (mixB i ids bs)[i * 7 + 6]? = _
      rw [m1]
      exact congrArg some (if_neg ht)
    · rw [List.getElem?_set_ne (fun e => hX e), List.getElem?_set_ne (fun e => o2 e)]
      exact hf.1
    obtain ⟨p1, p2, p3⟩ := hf.2 j id' b' (by omega) h1 h2 h3
    refine ⟨p1, p2, ?_⟩
    rw [List.getElem?_set_ne (fun e => p1 e.symm), List.getElem?_set_ne (fun e => ?_)]
    · exact p3
    subst e
    have := hinj i j id b b' hid h1 hb h2 ht h3
    omega
  rw [mixB_all hl] at hA
  refine awp_freeze_in oid hA (by simp [AObj.isSpare]) trivial slots (fun s z hz => ⟨z, hz, .refl z⟩) X (Ne.symm hX) [aI name, .os oid bs.length 7] [aI name, eBlocks bs] hf.1 rfl (fun d hd => ?_) (fun j a d ha hd => ?_) (h _ (by rw [List.length_set, List.length_set, hO1]) ?_)
  · simp only [List.mem_cons, List.not_mem_nil, or_false] at hd
    rcases hd with rfl | rfl <;> trivial
  · match j, ha, hd with
    | 0, ha, hd =>
      simp only [List.getElem?_cons_zero, Option.some.injEq] at ha hd
      subst ha
      subst hd
      exact .refl _
    | 1, ha, hd =>
      simp only [List.getElem?_cons_succ, List.getElem?_cons_zero, Option.some.injEq] at ha hd
      subst ha
      subst hd
      refine FSub.os hA (fun x hx => ?_) (by simp) ?_
      · obtain ⟨b, _, rfl⟩ := List.mem_map.1 hx
        rfl
      have hml := mixB_len bs.length hl
      rw [mixB_all hl] at hml
      rw [List.drop_zero, List.take_of_length_le (by omega)]
      exact blocks_share bs
    | j + 2, ha, hd => simp at ha
  rw [List.getElem?_set_self (by rw [List.length_set]; exact lt_of_getElem? hf.1)]
theorem aI_shares (l : List Int) : (l.map aI).map AVal.share = l.map aI := by
 rw [List.map_map]
 rfl
theorem clone_spec (l : List Int) (hl : l.length ≤ 2 ^ 43) : PCall Try.prog 66 [eIs l] (eIs l) := by
 have hs := aI_shares l
 refine zf true 0 Try.func66 Try.ntmps66 ?_
 dsimp only [Tmp, TypeId, slotsOf]
 refine zh1 (za0 ?_)
 refine awp_nil2 0 rfl (fun hn => ?_) ?_
 ·simp -dsimp only [simprocAttr, ↓vpre, zp]
  refine zh2 (za0 ?_)
  refine zw0 rfl ?_
  refine zh1 (za0 ?_)
  refine awp_ret ?_
  simp -dsimp only [simprocAttr, ↓vpre, zp, zr, Try.results66]
  exact ⟨trivial, by show AVal.lst 1 [] Own.sh = .lst 1 (l.map aI) .sh; rw [hn]⟩
 simp -dsimp only [simprocAttr, ↓vpre, zp]
 refine zh2 (za0 ?_)
 refine zu0 rfl ?_
 refine zb0 ?_
 refine zg1 ?_
 simp -dsimp only [simprocAttr, ↓vpre, zp, hs]
 repeat (refine ⟨by omega, ?_⟩)
 refine za0 ?_
 refine awp_ret ?_
 simp -dsimp only [simprocAttr, ↓vpre, zp, zr, Try.results66]
end Go.Proofs.Ytlclgfgmhnmnaaa
