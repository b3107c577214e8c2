/-
  Texts bound together by a program of mine: YtlclgfgmhnmnaaaPf, YtlclgfgmhnmnaaaT48, YtlclgfgmhnmnaaaPg, YtlclgfgmhnmnaaaT49, YtlclgfgmhnmnaaaT50, YtlclgfgmhnmnaaaPh, YtlclgfgmhnmnaaaT51, YtlclgfgmhnmnaaaPi, YtlclgfgmhnmnaaaT41, YtlclgfgmhnmnaaaPj, YtlclgfgmhnmnaaaT43, YtlclgfgmhnmnaaaPde, YtlclgfgmhnmnaaaT59, YtlclgfgmhnmnaaaPc, YtlclgfgmhnmnaaaT52, YtlclgfgmhnmnaaaPda, YtlclgfgmhnmnaaaT54, YtlclgfgmhnmnaaaT53, YtlclgfgmhnmnaaaPdf, YtlclgfgmhnmnaaaPdg, YtlclgfgmhnmnaaaPdh, YtlclgfgmhnmnaaaT101, YtlclgfgmhnmnaaaT102, YtlclgfgmhnmnaaaT103, YtlclgfgmhnmnaaaPdi, YtlclgfgmhnmnaaaT104, YtlclgfgmhnmnaaaT60, YtlclgfgmhnmnaaaT61, YtlclgfgmhnmnaaaT62, YtlclgfgmhnmnaaaT105.
-/
import Derived.Test.YtlclgfgmhnmnaaaJ5
set_option linter.all false

section
namespace Go.Av
end Go.Av
namespace Go.Proofs.Ytlclgfgmhnmnaaa
open Go.Av
def outC (b : Nat) (ls : List (List Int)) : List AVal := ls.mapIdx fun j l => .lst 1 (l.map aI) (.tok (b + j))
theorem outC_upto {b n : Nat} {ls : List (List Int)} (h : b + ls.length ≤ n) : uptoL n (outC b ls) := by
  rw [uptoL_iff]
  intro x hx
  obtain ⟨j, hj⟩ := List.mem_iff_getElem?.1 hx
  simp only [outC, List.getElem?_mapIdx] at hj
  cases hl : ls[j]? with
  | none => rw [hl] at hj; cases hj
  | some l =>
    rw [hl] at hj
    simp only [Option.map_some, Option.some.injEq] at hj
    subst hj
    have := lt_of_getElem? hl
    exact ⟨aI_upto _ _, show _ < _ by omega⟩
theorem splice_one {cs : List AVal} {j : Nat} (x : AVal) (h : j < cs.length) : splice cs j [x] = cs.set j x := by
  apply List.ext_getElem?
  intro i
  rw [splice_get (by simp; omega), List.getElem?_set]
  simp only [List.length_cons, List.length_nil, Nat.zero_add]
  by_cases e : j = i
  · subst e
    simp [h]
  rw [if_neg (by omega), if_neg e]
structure PO (ls : List (List Int)) (O : List AObj) : Prop where
  len : O.length = ls.length + 2
  arr : O[1]? = some (.cells (outC 2 ls))
  sp : ∀ j l, ls[j]? = some l → O[2 + j]? = some (.spare l.length)
  up : ∀ o ∈ O, o.upto O.length
theorem PO.push {ls : List (List Int)} {O : List AObj} (h : PO ls O) {j : Nat} {l : List Int} (hj : ls[j]? = some l) (k : Int) : PO (ls.set j (l ++ [k])) ((O.set (2 + j) (.spare (l.length + 1))).set 1 (.cells (outC 2 (ls.set j (l ++ [k]))))) := by
  have hlt := lt_of_getElem? hj
  have hl := h.len
  refine ⟨by simp [hl], ?_, fun i m hi => ?_, ?_⟩
  · rw [List.getElem?_set_self (by simp; omega)]
  · rw [List.getElem?_set_ne (by omega)]
    by_cases e : j = i
    · subst e
      rw [List.getElem?_set_self hlt] at hi
      simp only [Option.some.injEq] at hi
      subst hi
      rw [List.getElem?_set_self (by omega)]
      simp
    rw [List.getElem?_set_ne e] at hi
    rw [List.getElem?_set_ne (by omega)]
    exact h.sp i m hi
  have h1 : ∀ o ∈ O.set (2 + j) (.spare (l.length + 1)), o.upto O.length := uptoO_set h.up trivial
  have h2 := uptoO_set (k := 1) (x := .cells (outC 2 (ls.set j (l ++ [k])))) h1 (by
    show uptoL _ _
    exact outC_upto (by simp [hl]; omega))
  simpa using h2
def predE (k : Nat) (ls : List (List Int)) (e : Edge) : List (List Int) := ls.set e.block.toNat ((ls[e.block.toNat]?.getD []) ++ [(k : Int)])
def predB (k : Nat) (ls : List (List Int)) (es : List Edge) : List (List Int) := es.foldl (predE k) ls
def predL : Nat → List (List Int) → List Block → List (List Int)
  | _, ls, [] => ls
  | k, ls, b :: r => predL (k + 1) (predB k ls b.term.to) r
def predsM (f : Func) : List (List Int) := predL 0 (List.replicate f.blocks.length []) f.blocks
theorem nils_flat (n : Nat) : (List.replicate n [AVal.lst 1 [] .ex]).flatten = List.replicate n (.lst 1 [] .ex) := by
  induction n with
  | zero => rfl
  | succ n ih => rw [List.replicate_succ, List.flatten_cons, ih, List.replicate_succ]; rfl
end Go.Proofs.Ytlclgfgmhnmnaaa
end

section
set_option linter.unusedSimpArgs false
set_option maxRecDepth 100000
set_option maxHeartbeats 4000000
namespace Go.Proofs.Ytlclgfgmhnmnaaa
open Go.Av
def nextF (x v : Int) : Int := max x (v + 1)
def blkVals (b : Block) : List Int := b.params ++ b.ins.map Ins.to
def valsF (f : Func) : List Int := f.blocks.flatMap blkVals
def freshM (f : Func) : Int := (valsF f).foldl nextF 0
theorem fresh1_spec {O : List AObj} (hup : ∀ o ∈ O, o.upto O.length) {A : Nat} {x : Int} (hA : O[A]? = some (.cells [aI x])) (v : Int) (hv : 0 ≤ v ∧ v ≤ 2 ^ 60) :
  ECall Try.prog 100 O [aI v, .mp A 0] (fun r O' => r = .tup [] ∧ O' = O.set A (.cells [aI (nextF x v)])) := by
 have hAl := lt_of_getElem? hA
 have htk : (O.set A (.cells [aI (nextF x v)])).take O.length = O.set A (.cells [aI (nextF x v)]) := take_set_len
 have hu2 : ∀ o ∈ O.set A (.cells [aI (nextF x v)]), o.upto O.length := uptoO_set hup ⟨trivial, trivial⟩
 unfold nextF at *
 refine zf true O.length Try.func100 Try.ntmps100 ?_
 dsimp only [Tmp, TypeId, slotsOf]
 refine zg0 ?_
 simp -dsimp only [simprocAttr, ↓vpre, zp, hA]
 repeat (refine ⟨by omega, ?_⟩)
 refine at_intro ?_
 simp -dsimp only [simprocAttr, ↓vpre, zp, zr, Try.results100, htk, List.length_set]
 exact ⟨hu2, trivial⟩
def ValsW (f : Func) : Prop := ∀ v ∈ valsF f, 0 ≤ v ∧ v ≤ 4095
theorem nextF_le {x v : Int} (hx : x ≤ 4096) (hv : v ≤ 4095) : nextF x v ≤ 4096 := by
 unfold nextF
 omega
theorem foldNext_le : ∀ (l : List Int) (x : Int), x ≤ 4096 → (∀ v ∈ l, v ≤ 4095) → l.foldl nextF x ≤ 4096
 | [], _, hx, _ => hx
 | v :: r, x, hx, h => foldNext_le r _ (nextF_le hx (h v (by simp))) (fun w hw => h w (by simp [hw]))
theorem foldNext_ge : ∀ (l : List Int) (x : Int), x ≤ l.foldl nextF x ∧ ∀ v ∈ l, v < l.foldl nextF x
 | [], _ => ⟨Int.le_refl _, by simp⟩
 | v :: r, x => by
  have ih := foldNext_ge r (nextF x v)
  have : x ≤ nextF x v ∧ v < nextF x v := by unfold nextF; omega
  simp only [List.foldl_cons]
  refine ⟨by omega, fun w hw => ?_⟩
  rcases List.mem_cons.1 hw with q | q
  ·subst q
   omega
  exact ih.2 w q
theorem values_spec {O : List AObj} (hup : ∀ o ∈ O, o.upto O.length) {A : Nat} (f : Func) (hf : ValsW f) (hbl : f.blocks.length ≤ 2 ^ 47) (hbp : ∀ b ∈ f.blocks, b.params.length ≤ 2 ^ 47 ∧ b.ins.length ≤ 2 ^ 47) (hA : O[A]? = some (.cells [aI 0])) :
  ECall Try.prog 99 O [f.enc, .fn (.func 100) [] [.mp A 0]] (fun r O' => r = .tup [] ∧ O' = O.set A (.cells [aI (freshM f)])) := by
 have hAl := lt_of_getElem? hA
 obtain ⟨R, hR⟩ : ∃ R, R = freshM f := ⟨_, rfl⟩
 rw [← hR]
 unfold freshM valsF at hR
 have hgt : ∀ x, (O.set A x)[A]? = some x := fun x => List.getElem?_set_self hAl
 have hup2 : ∀ x : Int, ∀ o ∈ O.set A (.cells [aI x]), o.upto (O.set A (.cells [aI x])).length := fun x => by
  rw [List.length_set]
  exact uptoO_set hup ⟨trivial, trivial⟩
 have hlen : ∀ x, (O.set A x).length = O.length := fun x => List.length_set
 have hsame : O.set A (.cells [aI 0]) = O := set_same hA
 have htk : ∀ x : Int, (O.set A (.cells [aI x])).take O.length = O.set A (.cells [aI x]) := fun x => take_set_len
 have hst : ∀ x y, (O.set A x).set A y = O.set A y := fun x y => List.set_set ..
 refine zf true O.length Try.func99 Try.ntmps99 ?_
 dsimp only [Tmp, TypeId, slotsOf]
 refine zh1 (za0 ?_)
 refine awp_local 2 ([aI f.name, eBlocks f.blocks]) [(1, .fn (.func 100) [] [.mp A 0]), (2, .ip none [aI f.name, eBlocks f.blocks])] rfl (by rfl) (by omega) (by simp [putS, dropS, Go.Av.look]) ?_ ?_ ?_
 ·exact hup
 ·simp [AVal.upto, uptoL, aI_upto, Block.map_upto, hAl]
 refine zh1 (za0 ?_)
 refine awp_block (awp_loop (ι := {x : Nat × Int // x.1 ≤ f.blocks.length ∧ R = ((f.blocks.drop x.1).flatMap blkVals).foldl nextF x.2 ∧ x.2 ≤ 4096}) (fun x => ⟨41, [(1, .fn (.func 100) [] [.mp A 0]), (11, eBlocks f.blocks), (12, aI f.blocks.length), (13, aI x.1.1)], O.set A (.cells [aI x.1.2])⟩) (fun x => f.blocks.length - x.1.1) ⟨(0, 0), by simp, hR, by simp⟩ ?_ ?_)
 ·refine zq rfl ?_ ?_
  simp -dsimp only [simprocAttr, ↓vpre, zp, zc]
  exact hsame.symm
 rintro ⟨⟨k, x⟩, hk, hke, hx⟩
 simp only at hk hke hx
 refine zh1 (za0 ?_)
 apply zk1 rfl <;> intro h
 ·refine zb0 ?_
  have hlt : k < f.blocks.length := by simpa using h
  obtain ⟨b, hb⟩ : ∃ b, f.blocks[k]? = some b := ⟨f.blocks[k], by simp [hlt]⟩
  have hbm := List.mem_of_getElem? hb
  have hbv : ∀ v ∈ blkVals b, 0 ≤ v ∧ v ≤ 4095 := fun v hv => hf v (List.mem_flatMap.2 ⟨b, hbm, hv⟩)
  rw [drop_at hb] at hke
  rw [List.flatMap_cons, List.foldl_append, blkVals, List.foldl_append] at hke
  have hbp := hbp b hbm
  have hlx := hlen (.cells [aI x])
  refine awp_seq (awp_block ?_)
  refine zg1 ?_
  simp -dsimp only [simprocAttr, ↓vpre, zp, hb]
  refine za0 ?_
  refine awp_local 5 ([eIs b.params, eInss b.ins, aI b.term.kind, aI b.term.arg, aI b.term.n, eIs b.term.cases, eEdges b.term.to]) [(1, .fn (.func 100) [] [.mp A 0]), (5, .ip none [eIs b.params, eInss b.ins, aI b.term.kind, aI b.term.arg, aI b.term.n, eIs b.term.cases, eEdges b.term.to]), (11, eBlocks f.blocks), (12, aI f.blocks.length), (13, aI k)] rfl (by rfl) (by omega) (by simp [putS, dropS, Go.Av.look]) ?_ ?_ ?_
  ·exact hup2 x
  ·simp [AVal.upto, uptoL, aI_upto, Block.map_upto, Edge.map_upto, Ins.map_upto, hAl]
  refine zh2 (za0 ?_)
  refine awp_block (awp_loop (ι := {y : Nat × Int // y.1 ≤ b.params.length ∧ R = ((f.blocks.drop (k + 1)).flatMap blkVals).foldl nextF ((b.ins.map Ins.to).foldl nextF ((b.params.drop y.1).foldl nextF y.2)) ∧ y.2 ≤ 4096}) (fun y => ⟨41, [(1, .fn (.func 100) [] [.mp A 0]), (5, .ip none [eIs b.params, eInss b.ins, aI b.term.kind, aI b.term.arg, aI b.term.n, eIs b.term.cases, eEdges b.term.to]), (11, eBlocks f.blocks), (12, aI f.blocks.length), (13, aI k), (18, eIs b.params), (19, aI b.params.length), (20, aI y.1.1)], O.set A (.cells [aI y.1.2])⟩) (fun y => b.params.length - y.1.1) ⟨(0, x), by simp, hke, hx⟩ ?_ ?_)
  ·refine zq rfl ?_ ?_
   simp -dsimp only [simprocAttr, ↓vpre, zp, zc]
   rfl
  rintro ⟨⟨j, y⟩, hj, hje, hy⟩
  simp only at hj hje hy
  refine zh1 (za0 ?_)
  apply zk1 rfl <;> intro h
  ·refine zb0 ?_
   have hltj : j < b.params.length := by simpa using h
   obtain ⟨v, hv⟩ : ∃ v, b.params[j]? = some v := ⟨b.params[j], by simp [hltj]⟩
   rw [drop_at hv, List.foldl_cons] at hje
   have hvr := hbv v (by simp [blkVals, List.mem_of_getElem? hv])
   have hfr := fresh1_spec (hup2 y) (hgt _) v ⟨hvr.1, by omega⟩
   rw [hst] at hfr
   refine awp_seq (awp_block ?_)
   refine zg1 ?_
   simp -dsimp only [simprocAttr, ↓vpre, zp, hv]
   refine za0 ?_
   refine zh0 ?_
   refine .inr (.inl ⟨_, _, hfr, .inl (later_intro (zj ?_))⟩)
   refine za0 ?_
   refine zh0 ?_
   repeat (refine ⟨by omega, ?_⟩)
   refine zl0 ?_
   refine ⟨⟨(j + 1, nextF y v), hltj, hje, nextF_le hy hvr.2⟩, by simp; omega, ?_⟩
   refine zq rfl ?_ ?_
   simp -dsimp only [simprocAttr, ↓vpre, zp, zc]
   ·exact Sub.int (by simp)
   rfl
  refine awp_exit ?_
  simp -dsimp only [vend, ne_eq, Nat.reduceEqDiff, reduceCtorEq]
  have hjj : j = b.params.length := by simp at h; omega
  subst hjj
  rw [List.drop_length, List.foldl_nil] at hje
  refine zh1 (za0 ?_)
  refine awp_block (awp_loop (ι := {z : Nat × Int // z.1 ≤ b.ins.length ∧ R = ((f.blocks.drop (k + 1)).flatMap blkVals).foldl nextF (((b.ins.drop z.1).map Ins.to).foldl nextF z.2) ∧ z.2 ≤ 4096}) (fun z => ⟨41, [(1, .fn (.func 100) [] [.mp A 0]), (11, eBlocks f.blocks), (12, aI f.blocks.length), (13, aI k), (29, eInss b.ins), (30, aI b.ins.length), (31, aI z.1.1)], O.set A (.cells [aI z.1.2])⟩) (fun z => b.ins.length - z.1.1) ⟨(0, y), by simp, hje, hy⟩ ?_ ?_)
  ·refine zq rfl ?_ ?_
   simp -dsimp only [simprocAttr, ↓vpre, zp, zc]
   rfl
  rintro ⟨⟨q, z⟩, hq, hqe, hz⟩
  simp only at hq hqe hz
  refine zh1 (za0 ?_)
  apply zk1 rfl <;> intro h
  ·refine zb0 ?_
   have hltq : q < b.ins.length := by simpa using h
   obtain ⟨i, hi⟩ : ∃ i, b.ins[q]? = some i := ⟨b.ins[q], by simp [hltq]⟩
   rw [drop_at hi, List.map_cons, List.foldl_cons] at hqe
   have hvr := hbv i.to (by simp only [blkVals, List.mem_append, List.mem_map]; exact .inr ⟨i, List.mem_of_getElem? hi, rfl⟩)
   have hfr := fresh1_spec (hup2 z) (hgt _) i.to ⟨hvr.1, by omega⟩
   rw [hst] at hfr
   have hlx := hlen (.cells [aI z])
   refine awp_seq (awp_block ?_)
   refine zg1 ?_
   simp -dsimp only [simprocAttr, ↓vpre, zp, hi]
   refine za0 ?_
   refine awp_local 9 ([aI i.to, aI i.op, aI i.n, eIs i.args]) [(1, .fn (.func 100) [] [.mp A 0]), (9, .ip none [aI i.to, aI i.op, aI i.n, eIs i.args]), (11, eBlocks f.blocks), (12, aI f.blocks.length), (13, aI k), (29, eInss b.ins), (30, aI b.ins.length), (31, aI q)] rfl (by rfl) (by omega) (by simp [putS, dropS, Go.Av.look]) ?_ ?_ ?_
   ·exact hup2 z
   ·simp [AVal.upto, uptoL, aI_upto, Block.map_upto, Edge.map_upto, Ins.map_upto, hAl]
   refine zh0 ?_
   refine .inr (.inl ⟨_, _, hfr, .inl (later_intro (zj ?_))⟩)
   refine za0 ?_
   refine zh0 ?_
   repeat (refine ⟨by omega, ?_⟩)
   refine zl0 ?_
   refine ⟨⟨(q + 1, nextF z i.to), hltq, hqe, nextF_le hz hvr.2⟩, by simp; omega, ?_⟩
   refine zq rfl ?_ ?_
   simp -dsimp only [simprocAttr, ↓vpre, zp, zc]
   ·exact Sub.int (by simp)
   rfl
  refine awp_exit ?_
  simp -dsimp only [vend, ne_eq, Nat.reduceEqDiff, reduceCtorEq]
  have hqq : q = b.ins.length := by simp at h; omega
  subst hqq
  rw [List.drop_length, List.map_nil, List.foldl_nil] at hqe
  refine zh0 ?_
  repeat (refine ⟨by omega, ?_⟩)
  refine zl0 ?_
  refine ⟨⟨(k + 1, z), hlt, hqe, hz⟩, by simp; omega, ?_⟩
  refine zq rfl ?_ ?_
  simp -dsimp only [simprocAttr, ↓vpre, zp, zc]
  ·exact Sub.int (by simp)
  rfl
 refine awp_exit ?_
 simp -dsimp only [vend, ne_eq, Nat.reduceEqDiff, reduceCtorEq]
 have hkk : k = f.blocks.length := by simp at h; omega
 subst hkk
 rw [List.drop_length, List.flatMap_nil, List.foldl_nil] at hke
 subst hke
 skip
 simp -dsimp only [simprocAttr, ↓vpre, zp, zr, Try.results99, htk, List.length_set]
 have := hup2 R
 rw [hlen] at this
 exact ⟨this, trivial⟩
theorem fresh_spec (f : Func) (hf : ValsW f) (hbl : f.blocks.length ≤ 2 ^ 47) (hbp : ∀ b ∈ f.blocks, b.params.length ≤ 2 ^ 47 ∧ b.ins.length ≤ 2 ^ 47) : PCall Try.prog 70 [f.enc] (aI (freshM f)) := by
 have hvs := values_spec (O := [.gone, .cells [aI 0]]) (A := 1) (by simp [AObj.upto, uptoL, AVal.upto]) f hf hbl hbp rfl
 refine zf true 0 Try.func70 Try.ntmps70 ?_
 dsimp only [Tmp, TypeId, slotsOf]
 refine zh1 (za0 ?_)
 refine awp_freeze1 1 0 (.ip none [aI f.name, eBlocks f.blocks]) rfl (by simp [AObj.isSpare]) trivial rfl ?_ ?_
 rotate_left
 simp -dsimp only [simprocAttr, ↓vpre, zp]
 ·refine zh1 (za0 ?_)
  refine zh1 ?_
  refine .inr (.inl ⟨_, _, hvs, .inl (later_intro (zj ?_))⟩)
  refine za0 ?_
  refine zh1 (za0 ?_)
  refine awp_ret ?_
  simp -dsimp only [simprocAttr, ↓vpre, zp, zr, Try.results70]
 exact FSub.mp rfl rfl
end Go.Proofs.Ytlclgfgmhnmnaaa
end

section
namespace Go.Av
theorem RV.to_nn {g : G} {sz : Nat} {xs : List AVal} {a : Addr} {len cap : Nat} (h : RV g (.lst sz xs .sh) (.slice (some a) len cap)) : RV g (.lst sz xs .nn) (.slice (some a) len cap) := by
  cases h with
  | lst hsz hsc hcap hmax hs f hm hr ho => exact .lst hsz hsc hcap hmax hs f hm hr trivial
theorem FSub.ms_nn {O : List AObj} {id off len cap sz : Nat} {cs xs : List AVal} (hid : O[id]? = some (.cells cs)) (hsz : ∀ x ∈ xs, x.cells.length = sz) (hlen : xs.length = len) (hd : ((cs.drop off).take (len * sz)).map AVal.shareCell = cellsAll xs) : FSub O id (.ms id off len cap) (.lst sz xs .nn) := fun g u l' hg hO he hle h => by
  have k := FSub.ms hid hsz hlen hd g u l' hg hO he hle h
  obtain ⟨l, o1, h1, h2, _, hlc, hmax, cap', hcap, eu⟩ := h.ms_inv
  subst eu
  exact k.to_nn
theorem awp_local2 {P : Program} {kb : Nat} {c : Code} {Q : AEx → St → Prop} {n : Nat} {slots : List (Nat × AVal)} {O : List AObj} {a : AObj} {cs : List AVal} (s : Nat) (ds : List AVal) (slots' : List (Nat × AVal)) (hx : look slots s = some (.mp (O.length + 1) 0))
    (hds : cs.map AVal.shareCell = ds) (hkb : kb ≤ O.length) (hs : ∀ p ∈ slots', look (putS s (.ip none ds) slots) p.1 = some p.2) (hup : ∀ o ∈ O, o.upto O.length) (ha : a.upto (O.length + 1)) (hsl : ∀ p ∈ slots', p.2.upto (O.length + 1))
    (h : AWP P kb c Q ⟨n, slots', O ++ [a]⟩) : AWP P kb c Q ⟨n, slots, O ++ [a, .cells cs]⟩ := by
  have e : O ++ [a, .cells cs] = (O ++ [a]) ++ [.cells cs] := by simp
  rw [e]
  refine awp_local s ds slots' (by simpa using hx) hds (by simp; omega) hs (fun o ho => ?_) (fun p hp => by simpa using hsl p hp) h
  rw [List.length_append]
  rcases List.mem_append.1 ho with q | q
  · exact AObj.upto_mono (by omega) (hup o q)
  rw [List.mem_singleton.1 q]
  exact ha
end Go.Av
namespace Go.Proofs.Ytlclgfgmhnmnaaa
open Go.Av
theorem eB_upto (n : Nat) (l : List Bool) : uptoL n (l.map eB) := by
  rw [uptoL_iff]
  intro x hx
  obtain ⟨b, _, rfl⟩ := List.mem_map.1 hx
  trivial
theorem falses_flat (n : Nat) : (List.replicate n [AVal.v (.bool false)]).flatten = (List.replicate n false).map eB := by
  induction n with
  | zero => rfl
  | succ n ih => rw [List.replicate_succ, List.flatten_cons, ih, List.replicate_succ]; rfl
theorem eB_cells (l : List Bool) : cellsAll (l.map eB) = l.map eB := by
  induction l with
  | nil => rfl
  | cons a r ih =>
    simp only [List.map_cons, cellsAll, List.flatMap_cons] at ih ⊢
    rw [ih]
    rfl
theorem eB_share (l : List Bool) : (l.map eB).map AVal.shareCell = l.map eB := by
  rw [List.map_map]
  rfl
theorem eB_share' (l : List Bool) : (l.map eB).map AVal.share = l.map eB := by
  rw [List.map_map]
  rfl
theorem eB_sz (l : List Bool) : ∀ x ∈ l.map eB, x.cells.length = 1 := fun x hx => by
  obtain ⟨b, _, rfl⟩ := List.mem_map.1 hx
  rfl
theorem eB_freeze {O : List AObj} {id : Nat} {l : List Bool} {len cap : Nat} (h : O[id]? = some (.cells (l.map eB))) (hl : l.length = len) : FSub O id (.ms id 0 len cap) (.lst 1 (l.map eB) .nn) :=
  FSub.ms_nn h (eB_sz l) (by simpa using hl) (by rw [List.drop_zero, List.take_of_length_le (by simp; omega), eB_share, eB_cells])
theorem eB_put {l : List Bool} {j : Nat} (h : j < l.length) (b : Bool) : splice (l.map eB) j [.v (.bool b)] = (l.set j b).map eB := by
  rw [splice_one _ (by simpa using h), List.map_set]
  rfl
def ownF : List Bool → Own
  | [] => .ex
  | _ => .nn
def eF (l : List Bool) : AVal := .lst 1 (l.map eB) (ownF l)
def eH : List Bool → AVal
  | [] => .v (.slice none 0 0)
  | a :: r => .lst 1 ((a :: r).map eB) .nn
theorem eF_get {ls : List (List Bool)} {k : Nat} {l : List Bool} (h : ls[k]? = some l) : (ls.map eF)[k]? = some (.lst 1 (l.map eB) (ownF l)) := by
  rw [List.getElem?_map, h]
  rfl
theorem eF_ne {l : List Bool} (h : l ≠ []) : eF l = .lst 1 (l.map eB) .nn := by
  cases l with
  | nil => exact absurd rfl h
  | cons => rfl
theorem eH_ne {l : List Bool} (h : l ≠ []) : eH l = .lst 1 (l.map eB) .nn := by
  cases l with
  | nil => exact absurd rfl h
  | cons => rfl
theorem ownF_upto (n : Nat) (l : List Bool) : AVal.upto n (.lst 1 (l.map eB) (ownF l)) := by
  cases l with
  | nil => exact ⟨trivial, trivial⟩
  | cons => exact ⟨eB_upto _ _, trivial⟩
theorem eF_upto (n : Nat) (ls : List (List Bool)) : uptoL n (ls.map eF) := by
  rw [uptoL_iff]
  intro x hx
  obtain ⟨l, _, rfl⟩ := List.mem_map.1 hx
  exact ownF_upto n l
theorem eH_upto (n : Nat) (ls : List (List Bool)) : uptoL n (ls.map eH) := by
  rw [uptoL_iff]
  intro x hx
  obtain ⟨l, _, rfl⟩ := List.mem_map.1 hx
  cases l with
  | nil => trivial
  | cons => exact ⟨eB_upto _ _, trivial⟩
def lifeC (f : Func) (many : Nat) (B N : Nat) : List AVal := [aI f.name, eBlocks f.blocks, aI many, .ms B 0 N N]
def putB (l : List Bool) (v : Int) (b : Bool) : List Bool := l.set v.toNat b
def putAll (l : List Bool) (vs : List Int) : List Bool := vs.foldl (fun s v => putB s v true) l
def backI (i : Ins) (now : List Bool) : List Bool := putAll (putB now i.to false) i.args
def backM (l : List Ins) (now : List Bool) : List Bool := l.foldr backI now
def lastV (ps : List Int) : Nat → List Bool → List Bool → List Bool
  | _, [], out => out
  | v, is :: r, out => lastV ps (v + 1) r (if is && !hasI ps v then out.set v true else out)
def firstAt (first : List (List Bool)) (k : Int) : List Bool := first[k.toNat]?.getD []
def lastE (f : Func) (first : List (List Bool)) (out : List Bool) (e : Edge) : List Bool := lastV (blkOf f e.block).params 0 (firstAt first e.block) out
def usesArg (t : Term) : Bool := !decide (t.kind = 1) && !decide (t.kind = 4)
def lastA (t : Term) (o : List Bool) : List Bool := t.to.foldl (fun o e => putAll o e.args) (if usesArg t then putB o t.arg true else o)
def lastM (f : Func) (many : Nat) (first : List (List Bool)) (t : Term) : List Bool := lastA t (t.to.foldl (lastE f first) (List.replicate many false))
def listM : Nat → List Bool → List Int
  | _, [] => []
  | v, is :: r => if is then (v : Int) :: listM (v + 1) r else listM (v + 1) r
theorem putB_len (l : List Bool) (v : Int) (b : Bool) : (putB l v b).length = l.length := by simp [putB]
theorem putAll_len : ∀ (vs : List Int) (l : List Bool), (putAll l vs).length = l.length
  | [], _ => rfl
  | v :: r, l => by
    have := putAll_len r (putB l v true)
    rw [putB_len] at this
    exact this
theorem backI_len (i : Ins) (now : List Bool) : (backI i now).length = now.length := by rw [backI, putAll_len, putB_len]
theorem backM_len : ∀ (l : List Ins) (now : List Bool), (backM l now).length = now.length
  | [], _ => rfl
  | i :: r, now => by
    have := backM_len r now
    simp only [backM, List.foldr_cons] at this ⊢
    rw [backI_len, this]
theorem lastV_len (ps : List Int) : ∀ (S : List Bool) (v : Nat) (out : List Bool), (lastV ps v S out).length = out.length
  | [], _, _ => rfl
  | is :: r, v, out => by
    rw [lastV, lastV_len ps r]
    split <;> simp
theorem lastF_len (f : Func) (first : List (List Bool)) : ∀ (l : List Edge) (out : List Bool), (l.foldl (lastE f first) out).length = out.length
  | [], _ => rfl
  | e :: r, out => by
    rw [List.foldl_cons, lastF_len f first r, lastE, lastV_len]
theorem argsF_len : ∀ (l : List Edge) (out : List Bool), (l.foldl (fun o e => putAll o e.args) out).length = out.length
  | [], _ => rfl
  | e :: r, out => by
    rw [List.foldl_cons, argsF_len r, putAll_len]
theorem lastA_len (t : Term) (o : List Bool) : (lastA t o).length = o.length := by
  rw [lastA, argsF_len]
  split
  · rw [putB_len]
  rfl
theorem lastM_len (f : Func) (many : Nat) (first : List (List Bool)) (t : Term) : (lastM f many first t).length = many := by
  rw [lastM, lastA_len, lastF_len, List.length_replicate]
end Go.Proofs.Ytlclgfgmhnmnaaa
end

section
set_option linter.unusedSimpArgs false
set_option maxRecDepth 100000
set_option maxHeartbeats 4000000
namespace Go.Proofs.Ytlclgfgmhnmnaaa
open Go.Av
theorem cloneB_spec {O : List AObj} (hup : ∀ o ∈ O, o.upto O.length) (l : List Bool) (hl : l ≠ []) (hll : l.length ≤ 2 ^ 40) :
  ECall Try.prog 73 O [.lst 1 (l.map eB) .nn] (fun r O' => r = .ms O.length 0 l.length l.length ∧ O' = O ++ [.cells (l.map eB)]) := by
 have hkk : O.length ≤ O.length + 1 := by omega
 have hl0 : ¬ l.length = 0 := fun e => hl (List.length_eq_zero_iff.1 e)
 have hc := eB_cells l
 have hs := eB_share' l
 have htk : (O ++ [AObj.cells (l.map eB)]).take (O.length + 1) = O ++ [AObj.cells (l.map eB)] := List.take_of_length_le (by simp)
 have hu2 : ∀ o ∈ O ++ [AObj.cells (l.map eB)], o.upto (O.length + 1) := uptoO_snoc (fun o ho => AObj.upto_mono (by omega) (hup o ho)) (eB_upto _ _)
 refine ecall_of hT true (O.length + 1) Try.func73 rfl (by kernel_rfl) (by simp [Try.ntmps73]) (by assumption) ?_
 show AWP Try.prog _ _ _ ⟨8, _, _⟩
 dsimp only [Tmp, TypeId, slotsOf]
 refine zh1 (za0 ?_)
 refine zh2 (za0 ?_)
 refine zu0 rfl ?_
 refine zb0 ?_
 refine zm1 ?_
 simp -dsimp only [simprocAttr, ↓vpre, zp, hc, hs]
 repeat (refine ⟨by omega, ?_⟩)
 refine za0 ?_
 refine awp_ret ?_
 simp -dsimp only [simprocAttr, ↓vpre, zp, zr, Try.results73, htk]
 exact ⟨hu2, by omega⟩
theorem equalB_spec (l m : List Bool) : PCall Try.prog 72 [.lst 1 (l.map eB) .sh, .lst 1 (m.map eB) .sh] (.v (.bool (decide (l = m)))) := by
 by_cases hlen : l.length = m.length
 ·have hdl : decide ((l.length : Int) = m.length) = true := decide_eq_true (by omega)
  obtain ⟨R, hR⟩ : ∃ R, R = decide (l = m) := ⟨_, rfl⟩
  rw [← hR]
  refine zf true 0 Try.func72 Try.ntmps72 ?_
  dsimp only [Tmp, TypeId, slotsOf]
  refine zh1 (za0 ?_)
  refine awp_len 0 rfl (fun hll => ?_)
  simp only [List.length_map] at hll
  refine zg2 ?_
  simp -dsimp only [simprocAttr, ↓vpre, zp, hdl]
  refine za0 ?_
  apply zk0 rfl <;> intro h
  ·cases h
  refine zb0 ?_
  refine zh2 (za0 ?_)
  refine awp_block (awp_loop (ι := {k : Nat // k ≤ l.length ∧ R = decide (l.drop k = m.drop k)}) (fun k => ⟨26, [(0, .lst 1 (l.map eB) .sh), (1, .lst 1 (m.map eB) .sh), (4, .v (.bool false)), (12, aI l.length), (13, aI k.1)], []⟩) (fun k => l.length - k.1) ⟨0, by omega, hR⟩ ?_ ?_)
  ·refine zq rfl ?_ ?_
   simp -dsimp only [simprocAttr, ↓vpre, zp, zc]
   rfl
  rintro ⟨k, hk, hke⟩
  refine zh1 (za0 ?_)
  apply zk1 rfl <;> intro h
  ·refine zb0 ?_
   have hlt : k < l.length := by simpa using h
   obtain ⟨a, ha⟩ : ∃ a, l[k]? = some a := ⟨l[k], by simp [hlt]⟩
   obtain ⟨b, hb⟩ : ∃ b, m[k]? = some b := ⟨m[k]'(by omega), List.getElem?_eq_getElem _⟩
   rw [drop_at ha, drop_at hb] at hke
   simp only [List.cons.injEq, Bool.decide_and] at hke
   refine awp_seq (awp_block ?_)
   refine zh1 (za0 ?_)
   refine zg1 ?_
   simp -dsimp only [simprocAttr, ↓vpre, zp, ha, hb, eB]
   refine ⟨Try.underlying4, ?_⟩
   refine ⟨ob (by kernel_rfl), ?_⟩
   refine za0 ?_
   apply zk0 rfl <;> intro h
   ·refine zh1 (za0 ?_)
    refine awp_ret ?_
    simp -dsimp only [simprocAttr, ↓vpre, zp, zr, Try.results72]
    rw [hke, decide_eq_false (show ¬ a = b by simpa using h)]
    rfl
   refine zb1 ?_
   rw [decide_eq_true (show a = b by simpa using h), Bool.true_and] at hke
   refine zh0 ?_
   repeat (refine ⟨by omega, ?_⟩)
   refine zl0 ?_
   refine ⟨⟨k + 1, hlt, hke⟩, by simp; omega, ?_⟩
   refine zq rfl ?_ ?_
   simp -dsimp only [simprocAttr, ↓vpre, zp, zc]
   ·exact Sub.int (by simp)
   rfl
  refine awp_exit ?_
  simp -dsimp only [vend, ne_eq, Nat.reduceEqDiff, reduceCtorEq]
  have hkk : k = l.length := by simp at h; omega
  subst hkk
  rw [List.drop_length, hlen, List.drop_length] at hke
  refine zh1 (za0 ?_)
  refine awp_ret ?_
  simp -dsimp only [simprocAttr, ↓vpre, zp, zr, Try.results72]
  rw [hke]
  rfl
 have hdl : decide ((l.length : Int) = m.length) = false := decide_eq_false (by omega)
 rw [decide_eq_false (fun e => hlen (by rw [e]))]
 refine zf true 0 Try.func72 Try.ntmps72 ?_
 dsimp only [Tmp, TypeId, slotsOf]
 refine zh1 (za0 ?_)
 refine zg2 ?_
 simp -dsimp only [simprocAttr, ↓vpre, zp, hdl]
 refine za0 ?_
 refine zw0 rfl ?_
 refine zh1 (za0 ?_)
 refine awp_ret ?_
 simp -dsimp only [simprocAttr, ↓vpre, zp, zr, Try.results72]
end Go.Proofs.Ytlclgfgmhnmnaaa
end

section
set_option linter.unusedSimpArgs false
set_option maxRecDepth 100000
set_option maxHeartbeats 4000000
namespace Go.Proofs.Ytlclgfgmhnmnaaa
open Go.Av
def InR (many : Nat) (v : Int) : Prop := 0 ≤ v ∧ v < many
theorem last_spec {O : List AObj} (hup : ∀ o ∈ O, o.upto O.length) {f : Func} {many N A B C : Nat} {first : List (List Bool)} (hA : O[A]? = some (.cells (lifeC f many B N))) (hC : O[C]? = some (.cells (first.map eF))) (hfN : first.length = N) (hN : f.blocks.length = N)
  (hmy : many ≤ 2 ^ 20) (hm0 : 0 < many) (hfl : ∀ l ∈ first, l.length ≤ many) {k : Nat} {b : Block} (hb : f.blocks[k]? = some b) (he : ∀ e ∈ b.term.to, (0 ≤ e.block ∧ e.block.toNat < N) ∧ ∀ a ∈ e.args, InR many a) (ha : usesArg b.term = true → InR many b.term.arg) :
  ECall Try.prog 71 O [.mp A 0, aI k, .ms C 0 N N] (fun r O' => r = .lst 1 ((lastM f many first b.term).map eB) .nn ∧ O' = O) := by
 have hAl := lt_of_getElem? hA
 have hCl := lt_of_getElem? hC
 obtain ⟨R, hR⟩ : ∃ R, R = lastM f many first b.term := ⟨_, rfl⟩
 have hRl : R.length = many := by rw [hR, lastM_len]
 rw [← hR]
 unfold lastM at hR
 unfold lifeC at hA
 have hA' : ∀ X, (O ++ X)[A]? = some (.cells [aI f.name, eBlocks f.blocks, aI many, .ms B 0 N N]) := fun X => at_left hA
 have hC' : ∀ X, (O ++ X)[C]? = some (.cells (first.map eF)) := fun X => at_left hC
 have hkN : k < N := by rw [← hN]; exact lt_of_getElem? hb
 refine zf false O.length Try.func71 Try.ntmps71 ?_
 dsimp only [Tmp, TypeId, slotsOf]
 refine zh1 (za0 ?_)
 refine zg1 ?_
 simp -dsimp only [simprocAttr, ↓vpre, zp, hA, hb]
 repeat (refine ⟨by omega, ?_⟩)
 refine za0 ?_
 refine awp_local 7 ([aI b.term.kind, aI b.term.arg, aI b.term.n, eIs b.term.cases, eEdges b.term.to]) [(0, .mp A 0), (1, aI k), (2, .ms C 0 N N), (7, .ip none [aI b.term.kind, aI b.term.arg, aI b.term.n, eIs b.term.cases, eEdges b.term.to])] (by simp [putS, dropS, Go.Av.look]) (by rfl) (by omega) (by simp [putS, dropS, Go.Av.look]) ?_ ?_ ?_
 ·exact hup
 ·simp [AVal.upto, uptoL, aI_upto, Edge.map_upto, Ins.map_upto, Block.map_upto, hAl, hCl]
 refine zg1 ?_
 simp -dsimp only [simprocAttr, ↓vpre, zp, hA, falses_flat]
 refine ⟨by omega, by omega, ?_⟩
 refine za0 ?_
 refine zh2 (za0 ?_)
 refine awp_len 32 rfl (fun htl => ?_)
 simp only [List.length_map] at htl
 refine awp_block (awp_loop (ι := {x : Nat × List Bool // x.1 ≤ b.term.to.length ∧ x.2.length = many ∧ R = lastA b.term ((b.term.to.drop x.1).foldl (lastE f first) x.2)}) (fun x => ⟨102, [(0, .mp A 0), (2, .ms C 0 N N), (7, .ip none [aI b.term.kind, aI b.term.arg, aI b.term.n, eIs b.term.cases, eEdges b.term.to]), (8, .ms O.length 0 many many), (32, eEdges b.term.to), (33, aI b.term.to.length), (34, aI x.1.1)], O ++ [.cells (x.1.2.map eB)]⟩) (fun x => b.term.to.length - x.1.1) ⟨(0, List.replicate many false), by simp, by simp, hR⟩ ?_ ?_)
 ·refine zq rfl ?_ ?_
  simp -dsimp only [simprocAttr, ↓vpre, zp, zc]
  rfl
 rintro ⟨⟨z, out⟩, hz, hol, hze⟩
 simp only at hz hol hze
 refine zh1 (za0 ?_)
 apply zk1 rfl <;> intro h
 ·refine zb0 ?_
  have hlt : z < b.term.to.length := by simpa using h
  obtain ⟨e, hee⟩ : ∃ e, b.term.to[z]? = some e := ⟨b.term.to[z], by simp [hlt]⟩
  obtain ⟨⟨he0, he1⟩, hea⟩ := he e (List.mem_of_getElem? hee)
  rw [drop_at hee, List.foldl_cons] at hze
  obtain ⟨j, hj⟩ : ∃ j : Nat, e.block = (j : Int) := ⟨e.block.toNat, by omega⟩
  obtain ⟨S, hS⟩ : ∃ S, first[j]? = some S := ⟨first[j]'(by omega), List.getElem?_eq_getElem _⟩
  obtain ⟨c, hc⟩ : ∃ c, f.blocks[j]? = some c := ⟨f.blocks[j]'(by omega), List.getElem?_eq_getElem _⟩
  have hSl := hfl S (List.mem_of_getElem? hS)
  have hlE : lastE f first out e = lastV c.params 0 S out := by
   simp [lastE, firstAt, blkOf, hj, hS, hc]
  rw [hlE] at hze
  have hSg := eF_get hS
  obtain ⟨T, hT1⟩ : ∃ T, T = lastV c.params 0 S out := ⟨_, rfl⟩
  have hTl : T.length = many := by rw [hT1, lastV_len, hol]
  rw [← hT1] at hze
  have hob := eB_upto O.length out
  refine awp_seq (awp_block ?_)
  refine zg1 ?_
  simp -dsimp only [simprocAttr, ↓vpre, zp, hee]
  refine za0 ?_
  refine awp_local2 10 ([aI e.block, eIs e.args]) [(0, .mp A 0), (2, .ms C 0 N N), (7, .ip none [aI b.term.kind, aI b.term.arg, aI b.term.n, eIs b.term.cases, eEdges b.term.to]), (8, .ms O.length 0 many many), (10, .ip none [aI e.block, eIs e.args]), (32, eEdges b.term.to), (33, aI b.term.to.length), (34, aI z)] (by simp [putS, dropS, Go.Av.look]) (by rfl) (by omega) (by simp [putS, dropS, Go.Av.look]) ?_ ?_ ?_ ?_
  ·exact hup
  ·exact eB_upto _ _
  ·simp [AVal.upto, uptoL, aI_upto, Edge.map_upto, Ins.map_upto, Block.map_upto]
   omega
  refine zg1 ?_
  simp -dsimp only [simprocAttr, ↓vpre, zp, hj, hC', hSg, Int.toNat_natCast, Nat.mul_one]
  repeat (refine ⟨by omega, ?_⟩)
  refine za0 ?_
  refine awp_block (awp_loop (ι := {x : Nat × List Bool // x.1 ≤ S.length ∧ x.2.length = many ∧ T = lastV c.params x.1 (S.drop x.1) x.2}) (fun x => ⟨102, [(0, .mp A 0), (2, .ms C 0 N N), (7, .ip none [aI b.term.kind, aI b.term.arg, aI b.term.n, eIs b.term.cases, eEdges b.term.to]), (8, .ms O.length 0 many many), (10, .ip none [aI e.block, eIs e.args]), (32, eEdges b.term.to), (33, aI b.term.to.length), (34, aI z), (42, .lst 1 (S.map eB) (ownF S)), (43, aI S.length), (44, aI x.1.1)], O ++ [.cells (x.1.2.map eB)]⟩) (fun x => S.length - x.1.1) ⟨(0, out), by simp, hol, hT1⟩ ?_ ?_)
  ·refine zq rfl ?_ ?_
   simp -dsimp only [simprocAttr, ↓vpre, zp, zc, hj]
   rfl
  rintro ⟨⟨v, cur⟩, hv, hcl, hve⟩
  simp only at hv hcl hve
  refine zh1 (za0 ?_)
  apply zk1 rfl <;> intro h
  ·refine zb0 ?_
   have hlv : v < S.length := by simpa using h
   obtain ⟨is, his⟩ : ∃ is, S[v]? = some is := ⟨S[v], by simp [hlv]⟩
   rw [drop_at his] at hve
   simp only [lastV] at hve
   have hcon := contains_spec c.params v
   have hsp := eB_put (l := cur) (j := v) (by omega) true
   have hlS : S.length ≤ 2 ^ 20 := by omega
   refine awp_seq (awp_block ?_)
   refine zg1 ?_
   simp -dsimp only [simprocAttr, ↓vpre, zp, his, eB]
   repeat (refine ⟨by omega, ?_⟩)
   refine za0 ?_
   cases is with
   | false =>
    rw [Bool.false_and] at hve
    simp only [Bool.false_eq_true, if_false] at hve
    refine zh1 ?_
    refine ⟨ob (by kernel_rfl), ?_⟩
    refine za0 ?_
    refine zu0 rfl ?_
    refine zb1 ?_
    refine zh0 ?_
    repeat (refine ⟨by omega, ?_⟩)
    refine zl0 ?_
    refine ⟨⟨(v + 1, cur), hlv, hcl, hve⟩, by simp; omega, ?_⟩
    refine zq rfl ?_ ?_
    simp -dsimp only [simprocAttr, ↓vpre, zp, zc]
    ·exact Sub.int (by simp)
    rfl
   | true =>
    rw [Bool.true_and] at hve
    refine zg1 ?_
    simp -dsimp only [simprocAttr, ↓vpre, zp, hA', hj, Int.toNat_natCast, hc]
    repeat (refine ⟨by omega, ?_⟩)
    refine .inl ⟨_, hcon, by simp only [uptoL, AVal.upto, zt, zu, aI_upto, eB_upto], later_intro ?_⟩
    simp -dsimp only [simprocAttr, ↓vpre, zp]
    refine ⟨orderB_ren [A] (O.length + 1) [.pure, .pure, .pure, .pure, .pure, .pure, .rd 0, .pure, .pure, .pure, .pure, .pure, .pure, .pure, .pure, .pure] (by simp) (by simp; omega) rfl rfl (by kernel_rfl), ?_⟩
    refine za0 ?_
    cases hh : hasI c.params v with
    | true =>
     rw [hh] at hve
     simp only [Bool.not_true, Bool.false_eq_true, if_false] at hve
     refine zu0 rfl ?_
     refine zb1 ?_
     refine zh0 ?_
     repeat (refine ⟨by omega, ?_⟩)
     refine zl0 ?_
     refine ⟨⟨(v + 1, cur), hlv, hcl, hve⟩, by simp; omega, ?_⟩
     refine zq rfl ?_ ?_
     simp -dsimp only [simprocAttr, ↓vpre, zp, zc, hj]
     ·exact Sub.int (by simp)
     rfl
    | false =>
     rw [hh] at hve
     simp only [Bool.not_false, if_true] at hve
     refine zw0 rfl ?_
     refine zg0 ?_
     simp -dsimp only [simprocAttr, ↓vpre, zp, hsp, Nat.mul_one]
     refine ⟨by omega, by omega, ?_⟩
     refine za0 ?_
     refine zh0 ?_
     repeat (refine ⟨by omega, ?_⟩)
     refine zl0 ?_
     refine ⟨⟨(v + 1, cur.set v true), hlv, by simp [hcl], hve⟩, by simp; omega, ?_⟩
     refine zq rfl ?_ ?_
     simp -dsimp only [simprocAttr, ↓vpre, zp, zc, hj]
     ·exact Sub.int (by simp)
     rfl
  refine awp_exit ?_
  simp -dsimp only [vend, ne_eq, Nat.reduceEqDiff, reduceCtorEq]
  have hvv : v = S.length := by simp at h; omega
  subst hvv
  rw [List.drop_length] at hve
  simp only [lastV] at hve
  subst hve
  refine zh0 ?_
  repeat (refine ⟨by omega, ?_⟩)
  refine zl0 ?_
  refine ⟨⟨(z + 1, T), hlt, hcl, hze⟩, by simp; omega, ?_⟩
  refine zq rfl ?_ ?_
  simp -dsimp only [simprocAttr, ↓vpre, zp, zc]
  ·exact Sub.int (by simp)
  rfl
 refine awp_exit ?_
 simp -dsimp only [vend, ne_eq, Nat.reduceEqDiff, reduceCtorEq]
 have hzz : z = b.term.to.length := by simp at h; omega
 subst hzz
 rw [List.drop_length, List.foldl_nil] at hze
 obtain ⟨out2, ho2⟩ : ∃ o2, o2 = if usesArg b.term then putB out b.term.arg true else out := ⟨_, rfl⟩
 have ho2l : out2.length = many := by
  rw [ho2]
  split
  ·rw [putB_len, hol]
  exact hol
 unfold lastA at hze
 rw [← ho2] at hze
 refine awp_mid (⟨102, [(0, .mp A 0), (2, .ms C 0 N N), (7, .ip none [aI b.term.kind, aI b.term.arg, aI b.term.n, eIs b.term.cases, eEdges b.term.to]), (8, .ms O.length 0 many many)], O ++ [.cells (out2.map eB)]⟩) ?_ ?_
 ·cases h1 : decide (b.term.kind = 1) with
  | true =>
   have hu : usesArg b.term = false := by simp [usesArg, h1]
   rw [hu] at ho2
   simp only [Bool.false_eq_true, if_false] at ho2
   subst ho2
   refine zg1 ?_
   simp -dsimp only [simprocAttr, ↓vpre, zp, h1]
   refine za0 ?_
   refine zu0 rfl ?_
   refine awp_skip ?_
   show Covers _ _
   refine zq rfl ?_ ?_
   simp -dsimp only [simprocAttr, ↓vpre, zp, zc]
   rfl
  | false =>
   cases h4 : decide (b.term.kind = 4) with
   | true =>
    have hu : usesArg b.term = false := by simp [usesArg, h4]
    rw [hu] at ho2
    simp only [Bool.false_eq_true, if_false] at ho2
    subst ho2
    refine zg1 ?_
    simp -dsimp only [simprocAttr, ↓vpre, zp, h1, h4]
    refine za0 ?_
    refine zu0 rfl ?_
    refine awp_skip ?_
    show Covers _ _
    refine zq rfl ?_ ?_
    simp -dsimp only [simprocAttr, ↓vpre, zp, zc]
    rfl
   | false =>
    have hu : usesArg b.term = true := by simp [usesArg, h1, h4]
    obtain ⟨a0, a1⟩ := ha hu
    rw [hu] at ho2
    simp only [if_true] at ho2
    subst ho2
    obtain ⟨j, hj⟩ : ∃ j : Nat, b.term.arg = (j : Int) := ⟨b.term.arg.toNat, by omega⟩
    have hsp := eB_put (l := out) (j := j) (by omega) true
    have hpb : putB out b.term.arg true = out.set j true := by simp [putB, hj]
    rw [hpb]
    refine zg1 ?_
    simp -dsimp only [simprocAttr, ↓vpre, zp, h1, h4]
    refine za0 ?_
    refine zw0 rfl ?_
    refine awp_region hT hm ?_
    simp -dsimp only [simprocAttr, ↓vpre, zp, hj, Int.toNat_natCast, Nat.mul_one, hsp]
    refine ⟨by omega, by omega, ?_⟩
    refine at_intro ?_
    show Covers _ _
    refine zq rfl ?_ ?_
    simp -dsimp only [simprocAttr, ↓vpre, zp, zc, hj]
    rfl
 refine zh2 (za0 ?_)
 refine awp_block (awp_loop (ι := {x : Nat × List Bool // x.1 ≤ b.term.to.length ∧ x.2.length = many ∧ R = (b.term.to.drop x.1).foldl (fun o e => putAll o e.args) x.2}) (fun x => ⟨102, [(0, .mp A 0), (2, .ms C 0 N N), (8, .ms O.length 0 many many), (83, eEdges b.term.to), (84, aI b.term.to.length), (85, aI x.1.1)], O ++ [.cells (x.1.2.map eB)]⟩) (fun x => b.term.to.length - x.1.1) ⟨(0, out2), by simp, ho2l, hze⟩ ?_ ?_)
 ·refine zq rfl ?_ ?_
  simp -dsimp only [simprocAttr, ↓vpre, zp, zc]
  rfl
 rintro ⟨⟨z, cur⟩, hz, hcl, hze⟩
 simp only at hz hcl hze
 refine zh1 (za0 ?_)
 apply zk1 rfl <;> intro h
 ·refine zb0 ?_
  have hlt : z < b.term.to.length := by simpa using h
  obtain ⟨e, hee⟩ : ∃ e, b.term.to[z]? = some e := ⟨b.term.to[z], by simp [hlt]⟩
  obtain ⟨_, hea⟩ := he e (List.mem_of_getElem? hee)
  rw [drop_at hee, List.foldl_cons] at hze
  obtain ⟨T, hT1⟩ : ∃ T, T = putAll cur e.args := ⟨_, rfl⟩
  rw [← hT1] at hze
  unfold putAll at hT1
  refine awp_seq (awp_block ?_)
  refine zg1 ?_
  simp -dsimp only [simprocAttr, ↓vpre, zp, hee]
  refine za0 ?_
  refine awp_local2 14 ([aI e.block, eIs e.args]) [(0, .mp A 0), (2, .ms C 0 N N), (8, .ms O.length 0 many many), (14, .ip none [aI e.block, eIs e.args]), (83, eEdges b.term.to), (84, aI b.term.to.length), (85, aI z)] (by simp [putS, dropS, Go.Av.look]) (by rfl) (by omega) (by simp [putS, dropS, Go.Av.look]) ?_ ?_ ?_ ?_
  ·exact hup
  ·exact eB_upto _ _
  ·simp [AVal.upto, uptoL, aI_upto, Edge.map_upto, Ins.map_upto, Block.map_upto]
   omega
  refine zh1 (za0 ?_)
  refine awp_len 90 rfl (fun hal => ?_)
  simp only [List.length_map] at hal
  refine awp_block (awp_loop (ι := {x : Nat × List Bool // x.1 ≤ e.args.length ∧ x.2.length = many ∧ T = (e.args.drop x.1).foldl (fun s v => putB s v true) x.2}) (fun x => ⟨102, [(0, .mp A 0), (2, .ms C 0 N N), (8, .ms O.length 0 many many), (83, eEdges b.term.to), (84, aI b.term.to.length), (85, aI z), (90, eIs e.args), (91, aI e.args.length), (92, aI x.1.1)], O ++ [.cells (x.1.2.map eB)]⟩) (fun x => e.args.length - x.1.1) ⟨(0, cur), by simp, hcl, hT1⟩ ?_ ?_)
  ·refine zq rfl ?_ ?_
   simp -dsimp only [simprocAttr, ↓vpre, zp, zc]
   rfl
  rintro ⟨⟨v, cur⟩, hv, hcl, hve⟩
  simp only at hv hcl hve
  refine zh1 (za0 ?_)
  apply zk1 rfl <;> intro h
  ·refine zb0 ?_
   have hlv : v < e.args.length := by simpa using h
   obtain ⟨a, haa⟩ : ∃ a, e.args[v]? = some a := ⟨e.args[v], by simp [hlv]⟩
   obtain ⟨a0, a1⟩ := hea a (List.mem_of_getElem? haa)
   obtain ⟨j, rfl⟩ : ∃ j : Nat, a = (j : Int) := ⟨a.toNat, by omega⟩
   rw [drop_at haa, List.foldl_cons] at hve
   have hpb : putB cur (j : Int) true = cur.set j true := by simp [putB]
   rw [hpb] at hve
   have hsp := eB_put (l := cur) (j := j) (by omega) true
   refine awp_seq (awp_block ?_)
   refine zg1 ?_
   simp -dsimp only [simprocAttr, ↓vpre, zp, haa]
   refine za0 ?_
   refine zg0 ?_
   simp -dsimp only [simprocAttr, ↓vpre, zp, Int.toNat_natCast, Nat.mul_one, hsp]
   refine ⟨by omega, by omega, ?_⟩
   refine za0 ?_
   refine zh0 ?_
   repeat (refine ⟨by omega, ?_⟩)
   refine zl0 ?_
   refine ⟨⟨(v + 1, cur.set j true), hlv, by simp [hcl], hve⟩, by simp; omega, ?_⟩
   refine zq rfl ?_ ?_
   simp -dsimp only [simprocAttr, ↓vpre, zp, zc]
   ·exact Sub.int (by simp)
   rfl
  refine awp_exit ?_
  simp -dsimp only [vend, ne_eq, Nat.reduceEqDiff, reduceCtorEq]
  have hvv : v = e.args.length := by simp at h; omega
  subst hvv
  rw [List.drop_length, List.foldl_nil] at hve
  subst hve
  refine zh0 ?_
  repeat (refine ⟨by omega, ?_⟩)
  refine zl0 ?_
  refine ⟨⟨(z + 1, T), hlt, hcl, hze⟩, by simp; omega, ?_⟩
  refine zq rfl ?_ ?_
  simp -dsimp only [simprocAttr, ↓vpre, zp, zc]
  ·exact Sub.int (by simp)
  rfl
 refine awp_exit ?_
 simp -dsimp only [vend, ne_eq, Nat.reduceEqDiff, reduceCtorEq]
 have hzz : z = b.term.to.length := by simp at h; omega
 subst hzz
 rw [List.drop_length, List.foldl_nil] at hze
 subst hze
 refine awp_freeze1 8 O.length (o := .cells (R.map eB)) (.lst 1 (R.map eB) .nn) (snoc_get _ _) (by simp [AObj.isSpare]) trivial rfl (eB_freeze (snoc_get _ _) hcl) ?_
 rw [snoc_set]
 simp -dsimp only [simprocAttr, ↓vpre, zp]
 refine zh1 (za0 ?_)
 refine awp_ret ?_
 simp -dsimp only [simprocAttr, ↓vpre, zp, zr, Try.results71]
 exact ⟨hup, eB_upto _ _⟩
end Go.Proofs.Ytlclgfgmhnmnaaa
end

section
namespace Go.Av
def fnIs : AVal → Option Bool
  | .v .nilFunc => some true
  | .fn _ _ _ => some false
  | _ => none
theorem cert_eqFnNil {P : Program} {o : Oper} {σ : St} {t t' : TypeId} {ps rs : Array TypeId} {vr : Bool} {x y : Operand} {x' : AVal} {b : Bool}
    (ho : o.op = .binOp .neq t x y t') (hd : ∀ d, o.dst = some d → d < σ.n) (ht : P.underlying t = some (.func ps rs vr)) (hx : σ.ev x = some x') (hy : σ.ev y = some (.v .nilFunc)) (hb : fnIs x' = some b) : Cert P o σ (.v (.bool !b)) .pure :=
  Cert.ofQuiet .pure (.inl rfl) hd fun a g _ h _ => by
    have hx' := h x (by simp [ho, Op.operands]) _ hx
    have ey := (h y (by simp [ho, Op.operands]) _ hy).v_inv.1
    have ex : (a.eval x = .nilFunc ∧ b = true) ∨ ∃ f us vs, a.eval x = .func f us vs ∧ b = false := by
      unfold fnIs at hb
      split at hb
      · exact .inl ⟨hx'.v_inv.1, by simpa using hb.symm⟩
      · obtain ⟨us, vs, e, _⟩ := hx'.fn_inv
        exact .inr ⟨_, us, vs, e, by simpa using hb.symm⟩
      cases hb
    have e : ∃ d, Op.equal t (a.eval x) .nilFunc = Op.equalIn (d + 1) t (a.eval x) .nilFunc := ⟨9999, rfl⟩
    obtain ⟨d, e⟩ := e
    refine ⟨.bool !b, ?_, .v trivial⟩
    rcases ex with ⟨ex, eb⟩ | ⟨f, us, vs, ex, eb⟩
    · rw [ex] at e
      have hg := run_eqGuard_flat (P := P) .neq t x y .nilFunc .nilFunc g.w (by simp) (by simp)
      simp [execOp, ho, ex, ey, hg, binOp, eb, e, Op.equalIn, Sem.run_bind, run_underlying ht]
    rw [ex] at e
    have hg := run_eqGuard_flat (P := P) .neq t x y (.func f us vs) .nilFunc g.w (by simp) (by simp)
    simp [execOp, ho, ex, ey, hg, binOp, eb, e, Op.equalIn, Sem.run_bind, run_underlying ht]
theorem midOp_fnNil {P : Program} {tab : Tab} {md : Md} {o : Oper} {l2 : List Oper} {Q : AEx → St → Prop} {τ : St} {t t' : TypeId} {ps rs : Array TypeId} {vr : Bool} {x y : Operand} {x' : AVal} {b : Bool} {d : Nat}
    (ho : o.op = .binOp .neq t x y t') (hdst : o.dst = some d) (hd : d < τ.n) (ht : P.underlying t = some (.func ps rs vr)) (hx : τ.ev x = some x') (hy : τ.ev y = some (.v .nilFunc)) (hb : fnIs x' = some b)
    (h : vcOps P tab md l2 0 [] ⟨τ.n, putO o.dst (.v (.bool !b)) τ.slots, τ.objs⟩ [] fun ρ _ => At ρ (Q .norm)) : MidOp P tab md o l2 Q τ :=
  ⟨_, .pure, cert_eqFnNil ho (fun d' e => by rw [hdst] at e; cases e; exact hd) ht hx hy hb, h⟩
end Go.Av
end

section
set_option linter.unusedSimpArgs false
set_option maxRecDepth 100000
set_option maxHeartbeats 4000000
namespace Go.Proofs.Ytlclgfgmhnmnaaa
open Go.Av
def backRun {X : Type} (step : X → Nat → List Bool → X) (l : List Ins) : Nat → X → List Bool → X
 | 0, x, s => step x 0 s
 | n + 1, x, s => match l[n]? with
  | none => x
  | some i => backRun step l n (step x (n + 1) s) (backI i s)
theorem backM_snoc (l : List Ins) (i : Ins) (s : List Bool) : backM (l ++ [i]) s = backM l (backI i s) := by simp [backM]
theorem fn121 : Try.prog.underlying 97 = some (.func #[3, 38] #[] false) := Try.underlying97
theorem back_spec {X : Type} {enc : X → List Bool → List AObj} {Inv : X → Prop} {step : X → Nat → List Bool → X} {x0 : X} {O0 : List AObj} {K : Nat} (h0 : Inv x0) (hup0 : ∀ o ∈ O0, o.upto O0.length) (henc0 : ∀ s, enc x0 s = O0 ++ [.cells (s.map eB)])
  (hnow : ∀ x s, Inv x → (enc x s)[O0.length]? = some (.cells (s.map eB))) (hnset : ∀ x s t, Inv x → (enc x s).set O0.length (.cells (t.map eB)) = enc x t) (hup : ∀ x s, Inv x → ∀ o ∈ enc x s, o.upto (enc x s).length)
  {f : Func} {many N A B : Nat} {behind : List (List Bool)} (hA : O0[A]? = some (.cells (lifeC f many B N))) (hB : O0[B]? = some (.cells (behind.map eH))) (hbN : behind.length = N) (hmy : many ≤ 2 ^ 20)
  {k : Nat} {b : Block} (hb : f.blocks[k]? = some b) {s0 : List Bool} (hs0 : behind[k]? = some s0) (hne : s0 ≠ []) (hsl : s0.length = many) (hil : b.ins.length ≤ 2 ^ 47) (hin : ∀ i ∈ b.ins, InR many i.to ∧ ∀ a ∈ i.args, InR many a)
  (at_ : AVal) (hst : ∀ x n s, Inv x → n ≤ b.ins.length → s.length = many → Inv (step x n s))
  (hat : (at_ = .v .nilFunc ∧ ∀ x n s, step x n s = x) ∨ ∃ id caps, at_ = .fn (.func id) [] caps ∧ uptoL O0.length caps ∧ ∀ x n s, Inv x → n ≤ b.ins.length → s.length = many →
   ECall Try.prog id (enc x s) (aI n :: .ms O0.length 0 many many :: caps) (fun r O' => r = .tup [] ∧ O' = enc (step x n s) s))
  (hK0 : O0.length ≤ K) (hK : ∀ x s, Inv x → x = backRun step b.ins b.ins.length x0 s0 → K ≤ (enc x s).length ∧ ∀ o ∈ ((enc x s).set O0.length .gone).take K, o.upto K) :
  ECall Try.prog 44 O0 [.mp A 0, aI k, at_] (fun r O' => r = .lst 1 ((backM b.ins s0).map eB) .nn ∧ O' = ((enc (backRun step b.ins b.ins.length x0 s0) (backM b.ins s0)).set O0.length .gone).take K) := by
 have hAl := lt_of_getElem? hA
 have hBl := lt_of_getElem? hB
 have hkN : k < N := by rw [← hbN]; exact lt_of_getElem? hs0
 have hat_up : at_.upto O0.length := by
  rcases hat with ⟨rfl, _⟩ | ⟨id, caps, rfl, hc, _⟩
  ·trivial
  exact ⟨trivial, hc⟩
 obtain ⟨R, hR⟩ : ∃ R, R = backM b.ins s0 := ⟨_, rfl⟩
 obtain ⟨Y, hY⟩ : ∃ Y, Y = backRun step b.ins b.ins.length x0 s0 := ⟨_, rfl⟩
 rw [← hR, ← hY]
 rw [← hY] at hK
 unfold lifeC at hA
 have hbg : (behind.map eH)[k]? = some (.lst 1 (s0.map eB) .nn) := by rw [List.getElem?_map, hs0, Option.map_some, eH_ne hne]
 have hcl := cloneB_spec hup0 s0 hne (by omega)
 rw [hsl, ← henc0] at hcl
 have hlt0 : ∀ x s, Inv x → O0.length < (enc x s).length := fun x s hx => lt_of_getElem? (hnow x s hx)
 refine ecall_of hT false (K) Try.func44 rfl (by kernel_rfl) (by simp [Try.ntmps44]) (by assumption) ?_
 show AWP Try.prog _ _ _ ⟨64, _, _⟩
 dsimp only [Tmp, TypeId, slotsOf]
 refine zh1 (za0 ?_)
 refine zg1 ?_
 simp -dsimp only [simprocAttr, ↓vpre, zp, hA, hb]
 repeat (refine ⟨by omega, ?_⟩)
 refine za0 ?_
 refine awp_local 7 ([eIs b.params, eInss b.ins, aI b.term.kind, aI b.term.arg, aI b.term.n, eIs b.term.cases, eEdges b.term.to]) [(0, .mp A 0), (1, aI k), (2, at_), (7, .ip none [eIs b.params, eInss b.ins, aI b.term.kind, aI b.term.arg, aI b.term.n, eIs b.term.cases, eEdges b.term.to])] (by simp [putS, dropS, Go.Av.look]) (by rfl) (by omega) (by simp [putS, dropS, Go.Av.look]) ?_ ?_ ?_
 ·exact hup0
 ·simp [AVal.upto, uptoL, aI_upto, Edge.map_upto, Ins.map_upto, Block.map_upto, hAl, hat_up]
 refine zg1 ?_
 simp -dsimp only [simprocAttr, ↓vpre, zp, hA, hB, hbg, Nat.mul_one]
 repeat (refine ⟨by omega, ?_⟩)
 refine .inr (.inl ⟨_, _, hcl, .inl (later_intro (zj ?_))⟩)
 refine za0 ?_
 refine zh1 (za0 ?_)
 refine awp_block (awp_loop (ι := {x : Nat × X × List Bool // x.1 ≤ b.ins.length ∧ Inv x.2.1 ∧ x.2.2.length = many ∧ R = backM (b.ins.take x.1) x.2.2 ∧ Y = backRun step b.ins x.1 x.2.1 x.2.2}) (fun x => ⟨64, [(2, at_), (7, .ip none [eIs b.params, eInss b.ins, aI b.term.kind, aI b.term.arg, aI b.term.n, eIs b.term.cases, eEdges b.term.to]), (8, .ms O0.length 0 many many), (9, aI x.1.1)], enc x.1.2.1 x.1.2.2⟩) (fun x => x.1.1) ⟨(b.ins.length, x0, s0), by simp, h0, hsl, by rw [List.take_length]; exact hR, hY⟩ ?_ ?_)
 ·refine zq rfl ?_ ?_
  simp -dsimp only [simprocAttr, ↓vpre, zp, zc]
  rfl
 rintro ⟨⟨n, x, s⟩, hn, hx, hs, hRe, hYe⟩
 simp only at hn hx hs hRe hYe
 have hx1 := hst x n s hx hn hs
 have hlx := hlt0 x s hx
 have hlx1 := hlt0 _ s hx1
 refine awp_seq (awp_block ?_)
 refine awp_mid (⟨64, [(2, at_), (7, .ip none [eIs b.params, eInss b.ins, aI b.term.kind, aI b.term.arg, aI b.term.n, eIs b.term.cases, eEdges b.term.to]), (8, .ms O0.length 0 many many), (9, aI n)], enc (step x n s) s⟩) ?_ ?_
 ·rcases hat with ⟨rfl, hnil⟩ | ⟨id, caps, rfl, hcu, hcb⟩
  ·rw [hnil]
   refine awp_seq (awp_mid_op ⟨false, false⟩ hT 1 rfl rfl rfl (by simp) ?_)
   simp -dsimp only [simprocAttr, ↓vpre, zp]
   refine midOp_fnNil rfl rfl (by simp) fn121 rfl rfl rfl ?_
   simp -dsimp only [simprocAttr, ↓vpre, zp]
   refine za0 ?_
   refine zu0 rfl ?_
   refine awp_skip ?_
   show Covers _ _
   refine zq rfl ?_ ?_
   simp -dsimp only [simprocAttr, ↓vpre, zp, zc]
   rfl
  have hcb := hcb x n s hx hn hs
  refine awp_seq (awp_mid_op ⟨false, false⟩ hT 1 rfl rfl rfl (by simp) ?_)
  simp -dsimp only [simprocAttr, ↓vpre, zp]
  refine midOp_fnNil rfl rfl (by simp) fn121 rfl rfl rfl ?_
  simp -dsimp only [simprocAttr, ↓vpre, zp]
  refine za0 ?_
  refine zw0 rfl ?_
  refine awp_region hT hm ?_
  simp -dsimp only [simprocAttr, ↓vpre, zp]
  refine .inr (.inl ⟨_, _, hcb, .inl (later_intro (zj ?_))⟩)
  refine at_intro ?_
  show Covers _ _
  refine zq rfl ?_ ?_
  simp -dsimp only [simprocAttr, ↓vpre, zp, zc]
  rfl
 cases n with
 | zero =>
  have hYe' : Y = step x 0 s := hYe
  rw [List.take_zero] at hRe
  have hRe' : R = s := hRe
  subst hRe'
  refine zh2 (za0 ?_)
  refine zw0 rfl ?_
  refine zh1 (za0 ?_)
  obtain ⟨k1, k2⟩ := hK _ R hx1 hYe'.symm
  refine awp_freeze1 6 O0.length (o := .cells (R.map eB)) (.lst 1 (R.map eB) .nn) (hnow _ _ hx1) (by simp [AObj.isSpare]) trivial rfl (eB_freeze (hnow _ _ hx1) hs) ?_
  simp -dsimp only [simprocAttr, ↓vpre, zp]
  refine awp_ret ?_
  simp -dsimp only [simprocAttr, ↓vpre, zp, zr, Try.results44]
  exact ⟨by simpa using k1, k2, eB_upto _ _, by rw [hYe']⟩
 | succ n =>
  have hlt : n < b.ins.length := by omega
  obtain ⟨i, hi⟩ : ∃ i, b.ins[n]? = some i := ⟨b.ins[n], by simp [hlt]⟩
  obtain ⟨⟨hi0, hi1⟩, hia⟩ := hin i (List.mem_of_getElem? hi)
  have htk : b.ins.take (n + 1) = b.ins.take n ++ [i] := by rw [List.take_add_one, hi]; rfl
  rw [htk, backM_snoc] at hRe
  simp only [backRun, hi] at hYe
  obtain ⟨x1, hx1e⟩ : ∃ x1, x1 = step x (n + 1) s := ⟨_, rfl⟩
  rw [← hx1e] at hx1 hlx1 hYe
  have hup1 := fun s => hup x1 s hx1
  obtain ⟨j, hj⟩ : ∃ j : Nat, i.to = (j : Int) := ⟨i.to.toNat, by omega⟩
  have hsp := eB_put (l := s) (j := j) (by omega) false
  have hn1 : ((n + 1 : Nat) : Int) - 1 = (n : Nat) := by omega
  have hd0 : decide (((n + 1 : Nat) : Int) = 0) = false := decide_eq_false (by omega)
  obtain ⟨T, hT1⟩ : ∃ T, T = backI i s := ⟨_, rfl⟩
  have hTl : T.length = many := by rw [hT1, backI_len, hs]
  rw [← hT1] at hRe hYe
  have hpb : putB s i.to false = s.set j false := by simp [putB, hj]
  unfold backI putAll at hT1
  rw [hpb] at hT1
  rw [← hx1e]
  have hnow1 := fun s => hnow x1 s hx1
  have hnset1 := fun s t => hnset x1 s t hx1
  have hlt1 := fun s => hlt0 x1 s hx1
  refine zg2 ?_
  simp -dsimp only [simprocAttr, ↓vpre, zp, hd0]
  refine za0 ?_
  apply zk0 rfl <;> intro h
  ·cases h
  refine zb0 ?_
  refine zg1 ?_
  simp -dsimp only [simprocAttr, ↓vpre, zp, hn1, hi]
  repeat (refine ⟨by omega, ?_⟩)
  refine za0 ?_
  have hlt1s := hlt1 s
  refine awp_local 10 ([aI i.to, aI i.op, aI i.n, eIs i.args]) [(2, at_), (7, .ip none [eIs b.params, eInss b.ins, aI b.term.kind, aI b.term.arg, aI b.term.n, eIs b.term.cases, eEdges b.term.to]), (8, .ms O0.length 0 many many), (9, aI (n + 1 : Nat)), (10, .ip none [aI i.to, aI i.op, aI i.n, eIs i.args])] (by simp [putS, dropS, Go.Av.look]) (by rfl) (by omega) (by simp [putS, dropS, Go.Av.look]) ?_ ?_ ?_
  ·exact hup1 s
  ·have hau2 := AVal.upto_mono (m := (enc x1 s).length) (n := O0.length) (by omega) at_ hat_up
   simp [AVal.upto, uptoL, aI_upto, Edge.map_upto, Ins.map_upto, Block.map_upto, hlt1s, hau2]
  refine zg1 ?_
  simp -dsimp only [simprocAttr, ↓vpre, zp, hj, hnow1, hnset1, Int.toNat_natCast, Nat.mul_one, hsp]
  refine ⟨by omega, by omega, ?_⟩
  refine za0 ?_
  refine zh1 (za0 ?_)
  refine awp_len 54 rfl (fun hal => ?_)
  simp only [List.length_map] at hal
  refine awp_block (awp_loop (ι := {y : Nat × List Bool // y.1 ≤ i.args.length ∧ y.2.length = many ∧ T = (i.args.drop y.1).foldl (fun s v => putB s v true) y.2}) (fun y => ⟨64, [(2, at_), (7, .ip none [eIs b.params, eInss b.ins, aI b.term.kind, aI b.term.arg, aI b.term.n, eIs b.term.cases, eEdges b.term.to]), (8, .ms O0.length 0 many many), (9, aI (n + 1 : Nat)), (54, eIs i.args), (55, aI i.args.length), (56, aI y.1.1)], enc x1 y.1.2⟩) (fun y => i.args.length - y.1.1) ⟨(0, s.set j false), by simp, by simp [hs], hT1⟩ ?_ ?_)
  ·refine zq rfl ?_ ?_
   simp -dsimp only [simprocAttr, ↓vpre, zp, zc]
   rfl
  rintro ⟨⟨v, cur⟩, hv, hcl, hve⟩
  simp only at hv hcl hve
  refine zh1 (za0 ?_)
  apply zk1 rfl <;> intro h
  ·refine zb0 ?_
   have hlv : v < i.args.length := by simpa using h
   obtain ⟨a, haa⟩ : ∃ a, i.args[v]? = some a := ⟨i.args[v], by simp [hlv]⟩
   obtain ⟨a0, a1⟩ := hia a (List.mem_of_getElem? haa)
   obtain ⟨q, rfl⟩ : ∃ q : Nat, a = (q : Int) := ⟨a.toNat, by omega⟩
   rw [drop_at haa, List.foldl_cons] at hve
   have hpb : putB cur (q : Int) true = cur.set q true := by simp [putB]
   rw [hpb] at hve
   have hsp := eB_put (l := cur) (j := q) (by omega) true
   refine awp_seq (awp_block ?_)
   refine zg1 ?_
   simp -dsimp only [simprocAttr, ↓vpre, zp, haa]
   refine za0 ?_
   refine zg0 ?_
   simp -dsimp only [simprocAttr, ↓vpre, zp, hnow1, hnset1, Int.toNat_natCast, Nat.mul_one, hsp]
   refine ⟨by omega, by omega, ?_⟩
   refine za0 ?_
   refine zh0 ?_
   repeat (refine ⟨by omega, ?_⟩)
   refine zl0 ?_
   refine ⟨⟨(v + 1, cur.set q true), hlv, by simp [hcl], hve⟩, by simp; omega, ?_⟩
   refine zq rfl ?_ ?_
   simp -dsimp only [simprocAttr, ↓vpre, zp, zc]
   ·exact Sub.int (by simp)
   rfl
  refine awp_exit ?_
  simp -dsimp only [vend, ne_eq, Nat.reduceEqDiff, reduceCtorEq]
  have hvv : v = i.args.length := by simp at h; omega
  subst hvv
  rw [List.drop_length, List.foldl_nil] at hve
  subst hve
  refine zg0 ?_
  simp -dsimp only [simprocAttr, ↓vpre, zp, hn1]
  repeat (refine ⟨by omega, ?_⟩)
  refine zl0 ?_
  refine ⟨⟨(n, x1, T), by simp only; omega, hx1, hcl, hRe, hYe⟩, by simp, ?_⟩
  refine zq rfl ?_ ?_
  simp -dsimp only [simprocAttr, ↓vpre, zp, zc]
  rfl
end Go.Proofs.Ytlclgfgmhnmnaaa
end

section
namespace Go.Proofs.Ytlclgfgmhnmnaaa
open Go.Av
def Hs (l : List Bool) (v : Nat) : Prop := l[v]? = some true
theorem Hs.lt {l : List Bool} {v : Nat} (h : Hs l v) : v < l.length := (List.getElem?_eq_some_iff.1 h).1
theorem hs_set {l : List Bool} {j v : Nat} {b : Bool} : Hs (l.set j b) v ↔ (v = j ∧ b = true ∧ v < l.length) ∨ (v ≠ j ∧ Hs l v) := by
  unfold Hs
  rw [List.getElem?_set]
  by_cases e : j = v
  · subst e
    by_cases h : j < l.length
    · simp [h]
    simp [h]
  rw [if_neg e]
  have : v ≠ j := fun q => e q.symm
  simp [this]
theorem hs_put {l : List Bool} {v w : Nat} {b : Bool} {x : Int} (hx : x.toNat = v) : Hs (putB l x b) w ↔ (w = v ∧ b = true ∧ w < l.length) ∨ (w ≠ v ∧ Hs l w) := by
  rw [putB, hx, hs_set]
theorem hs_putAll : ∀ (vs : List Int) (l : List Bool) (w : Nat), Hs (putAll l vs) w ↔ Hs l w ∨ (w < l.length ∧ ∃ a ∈ vs, w = a.toNat)
  | [], l, w => by simp [putAll]
  | v :: r, l, w => by
    have ih := hs_putAll r (putB l v true) w
    rw [putB_len, hs_put rfl] at ih
    have e : putAll l (v :: r) = putAll (putB l v true) r := rfl
    rw [e, ih]
    constructor
    · rintro ((⟨h1, _, h2⟩ | ⟨_, h1⟩) | ⟨h1, a, h2, h3⟩)
      · exact .inr ⟨h2, v, by simp, h1⟩
      · exact .inl h1
      exact .inr ⟨h1, a, by simp [h2], h3⟩
    rintro (h | ⟨h1, a, h2, h3⟩)
    · by_cases q : w = v.toNat
      · exact .inl (.inl ⟨q, rfl, h.lt⟩)
      exact .inl (.inr ⟨q, h⟩)
    rcases List.mem_cons.1 h2 with q | q
    · subst q
      exact .inl (.inl ⟨h3, rfl, h1⟩)
    exact .inr ⟨h1, a, q, h3⟩
theorem hs_backI (i : Ins) (s : List Bool) (w : Nat) : Hs (backI i s) w ↔ (w ≠ i.to.toNat ∧ Hs s w) ∨ (w < s.length ∧ ∃ a ∈ i.args, w = a.toNat) := by
  rw [backI, hs_putAll, putB_len, hs_put rfl]
  simp
theorem hs_lastV (ps : List Int) : ∀ (S : List Bool) (v : Nat) (out : List Bool) (w : Nat), Hs (lastV ps v S out) w ↔ Hs out w ∨ (w < out.length ∧ hasI ps w = false ∧ ∃ j, Hs S j ∧ w = v + j)
  | [], v, out, w => by simp [lastV, Hs]
  | is :: r, v, out, w => by
    have ih := hs_lastV ps r (v + 1) (if is && !hasI ps v then out.set v true else out) w
    have hl : (if is && !hasI ps v then out.set v true else out).length = out.length := by split <;> simp
    rw [lastV, ih, hl]
    constructor
    · rintro (h | ⟨h1, h2, j, h3, h4⟩)
      · split at h
        · rename_i hc
          rcases hs_set.1 h with ⟨h1, _, h2⟩ | ⟨_, h1⟩
          · simp only [Bool.and_eq_true, Bool.not_eq_true'] at hc
            subst h1
            exact .inr ⟨h2, hc.2, 0, by simp [Hs, hc.1], by omega⟩
          exact .inl h1
        exact .inl h
      exact .inr ⟨h1, h2, j + 1, by simpa [Hs] using h3, by omega⟩
    rintro (h | ⟨h1, h2, j, h3, h4⟩)
    · refine .inl ?_
      split
      · by_cases q : w = v
        · exact hs_set.2 (.inl ⟨q, rfl, h.lt⟩)
        exact hs_set.2 (.inr ⟨q, h⟩)
      exact h
    cases j with
    | zero =>
      have h3' : is = true := by simpa [Hs] using h3
      have h4' : w = v := by omega
      subst h4'
      refine .inl ?_
      rw [if_pos (by simp [h3', h2])]
      exact hs_set.2 (.inl ⟨rfl, rfl, h1⟩)
    | succ j => exact .inr ⟨h1, h2, j, by simpa [Hs] using h3, by omega⟩
theorem hs_lastF (f : Func) (first : List (List Bool)) : ∀ (l : List Edge) (out : List Bool) (w : Nat), Hs (l.foldl (lastE f first) out) w ↔ Hs out w ∨ (w < out.length ∧ ∃ e ∈ l, Hs (firstAt first e.block) w ∧ hasI (blkOf f e.block).params w = false)
  | [], out, w => by simp
  | e :: r, out, w => by
    have ih := hs_lastF f first r (lastE f first out e) w
    rw [List.foldl_cons, ih]
    rw [show (lastE f first out e).length = out.length from lastV_len ..]
    unfold lastE
    rw [hs_lastV]
    constructor
    · rintro ((h | ⟨h1, h2, j, h3, h4⟩) | ⟨h1, x, h2, h3, h4⟩)
      · exact .inl h
      · have : w = j := by omega
        subst this
        exact .inr ⟨h1, e, by simp, h3, h2⟩
      exact .inr ⟨h1, x, by simp [h2], h3, h4⟩
    rintro (h | ⟨h1, x, h2, h3, h4⟩)
    · exact .inl (.inl h)
    rcases List.mem_cons.1 h2 with q | q
    · subst q
      exact .inl (.inr ⟨h1, h4, w, h3, by omega⟩)
    exact .inr ⟨h1, x, q, h3, h4⟩
theorem hs_argsF : ∀ (l : List Edge) (out : List Bool) (w : Nat), Hs (l.foldl (fun o e => putAll o e.args) out) w ↔ Hs out w ∨ (w < out.length ∧ ∃ e ∈ l, ∃ a ∈ e.args, w = a.toNat)
  | [], out, w => by simp
  | e :: r, out, w => by
    have ih := hs_argsF r (putAll out e.args) w
    rw [List.foldl_cons, ih, putAll_len, hs_putAll]
    constructor
    · rintro ((h | ⟨h1, h2⟩) | ⟨h1, x, h2, h3⟩)
      · exact .inl h
      · exact .inr ⟨h1, e, by simp, h2⟩
      exact .inr ⟨h1, x, by simp [h2], h3⟩
    rintro (h | ⟨h1, x, h2, h3⟩)
    · exact .inl (.inl h)
    rcases List.mem_cons.1 h2 with q | q
    · subst q
      exact .inl (.inr ⟨h1, h3⟩)
    exact .inr ⟨h1, x, q, h3⟩
theorem hs_false {n w : Nat} : ¬ Hs (List.replicate n false) w := by
  unfold Hs
  rw [List.getElem?_replicate]
  split <;> simp
theorem hs_lastM (f : Func) (many : Nat) (first : List (List Bool)) (t : Term) (w : Nat) : Hs (lastM f many first t) w ↔ w < many ∧ ((∃ e ∈ t.to, Hs (firstAt first e.block) w ∧ hasI (blkOf f e.block).params w = false) ∨ (usesArg t = true ∧ w = t.arg.toNat) ∨ ∃ e ∈ t.to, ∃ a ∈ e.args, w = a.toNat) := by
  have hl : (t.to.foldl (lastE f first) (List.replicate many false)).length = many := by rw [lastF_len, List.length_replicate]
  rw [lastM, lastA, hs_argsF]
  have key : Hs (if usesArg t then putB (t.to.foldl (lastE f first) (List.replicate many false)) t.arg true else t.to.foldl (lastE f first) (List.replicate many false)) w ↔ w < many ∧ ((∃ e ∈ t.to, Hs (firstAt first e.block) w ∧ hasI (blkOf f e.block).params w = false) ∨ (usesArg t = true ∧ w = t.arg.toNat)) := by
    split
    · rename_i hu
      rw [hs_put rfl, hs_lastF, List.length_replicate, hl]
      constructor
      · rintro (⟨h1, _, h2⟩ | ⟨_, h | ⟨h1, h2⟩⟩)
        · exact ⟨h2, .inr ⟨hu, h1⟩⟩
        · exact absurd h hs_false
        exact ⟨h1, .inl h2⟩
      rintro ⟨h1, h2 | ⟨_, h2⟩⟩
      · by_cases q : w = t.arg.toNat
        · exact .inl ⟨q, rfl, h1⟩
        exact .inr ⟨q, .inr ⟨h1, h2⟩⟩
      exact .inl ⟨h2, rfl, h1⟩
    rename_i hu
    rw [hs_lastF, List.length_replicate]
    constructor
    · rintro (h | ⟨h1, h2⟩)
      · exact absurd h hs_false
      exact ⟨h1, .inl h2⟩
    rintro ⟨h1, h2 | ⟨q, _⟩⟩
    · exact .inr ⟨h1, h2⟩
    exact absurd q hu
  have hl2 : (if usesArg t then putB (t.to.foldl (lastE f first) (List.replicate many false)) t.arg true else t.to.foldl (lastE f first) (List.replicate many false)).length = many := by
    split
    · rw [putB_len, hl]
    exact hl
  rw [key, hl2]
  constructor
  · rintro (⟨h1, h2 | h2⟩ | ⟨h1, h2⟩)
    · exact ⟨h1, .inl h2⟩
    · exact ⟨h1, .inr (.inl h2)⟩
    exact ⟨h1, .inr (.inr h2)⟩
  rintro ⟨h1, h2 | h2 | h2⟩
  · exact .inl ⟨h1, .inl h2⟩
  · exact .inl ⟨h1, .inr h2⟩
  exact .inr ⟨h1, h2⟩
def LeB (a b : List Bool) : Prop := ∀ v, Hs a v → Hs b v
theorem cnt_le : ∀ (a b : List Bool), a.length = b.length → LeB a b → a.countP id ≤ b.countP id ∧ (a ≠ b → a.countP id < b.countP id)
  | [], [], _, _ => by simp
  | [], _ :: _, h, _ => by simp at h
  | _ :: _, [], h, _ => by simp at h
  | x :: a, y :: b, hl, h => by
    have ih := cnt_le a b (by simpa using hl) (fun v hv => by
      have := h (v + 1) (by simpa [Hs] using hv)
      simpa [Hs] using this)
    have h0 := h 0
    simp only [Hs, List.getElem?_cons_zero, Option.some.injEq] at h0
    rw [List.countP_cons, List.countP_cons]
    cases x <;> cases y <;> simp at h0 ⊢
    · exact ih
    · omega
    exact ih
theorem backM_mono : ∀ (l : List Ins) {a b : List Bool}, a.length = b.length → LeB a b → LeB (backM l a) (backM l b)
  | [], _, _, _, h => h
  | i :: r, a, b, hl, h => by
    have ih := backM_mono r hl h
    have hl2 : (backM r a).length = (backM r b).length := by rw [backM_len, backM_len, hl]
    intro v hv
    have e : ∀ s, backM (i :: r) s = backI i (backM r s) := fun s => rfl
    rw [e, hs_backI] at hv
    rw [e, hs_backI]
    rcases hv with ⟨h1, h2⟩ | ⟨h1, h2⟩
    · exact .inl ⟨h1, ih v h2⟩
    exact .inr ⟨by omega, h2⟩
structure Lv where
  first : List (List Bool)
  behind : List (List Bool)
  again : Bool
def lvStep (f : Func) (many k : Nat) (S : Lv) : Lv :=
  if S.behind[k]?.getD [] ≠ [] ∧ lastM f many S.first (blkOf f k).term = S.behind[k]?.getD [] then S
  else ⟨S.first.set k (backM (blkOf f k).ins (lastM f many S.first (blkOf f k).term)), S.behind.set k (lastM f many S.first (blkOf f k).term), true⟩
def lvR (f : Func) (many : Nat) : Nat → Lv → Lv
  | 0, S => S
  | k + 1, S => lvR f many k (lvStep f many k S)
def lvI (f : Func) (many : Nat) : Nat → Lv → Lv
  | 0, S => S
  | n + 1, S => if S.again then lvI f many n (lvR f many f.blocks.length ⟨S.first, S.behind, false⟩) else S
def lvS (n : Nat) : Lv := ⟨List.replicate n [], List.replicate n [], true⟩
def manyM (f : Func) : Nat := (freshM f).toNat + 1
def liveM (f : Func) : Lv := lvI f (manyM f) 700000 (lvS f.blocks.length)
structure LvOK (f : Func) (many : Nat) (S : Lv) : Prop where
  len1 : S.first.length = f.blocks.length
  len2 : S.behind.length = f.blocks.length
  sz1 : ∀ l ∈ S.first, l = [] ∨ l.length = many
  sz2 : ∀ l ∈ S.behind, l = [] ∨ l.length = many
  low : ∀ (k : Nat) (l : List Bool), S.behind[k]? = some l → l ≠ [] → S.first[k]? = some (backM (blkOf f k).ins l) ∧ LeB l (lastM f many S.first (blkOf f k).term)
  nil : ∀ k : Nat, S.behind[k]? = some [] → S.first[k]? = some []
def szB (l : List Bool) : Nat := if l = [] then 0 else 1 + l.countP id
def Lv.weight (many : Nat) (S : Lv) : Nat := (S.behind.map fun l => many + 1 - szB l).sum
theorem lvS_ok (f : Func) (many : Nat) : LvOK f many (lvS f.blocks.length) := by
  refine ⟨by simp [lvS], by simp [lvS], fun l hl => .inl (List.mem_replicate.1 hl).2, fun l hl => .inl (List.mem_replicate.1 hl).2, fun k l hl hne => ?_, fun k hk => hk⟩
  exact absurd (List.mem_replicate.1 (List.mem_of_getElem? hl)).2 hne
theorem szB_le {many : Nat} {l : List Bool} (h : l = [] ∨ l.length = many) : szB l ≤ many + 1 := by
  unfold szB
  split
  · omega
  have := List.countP_le_length (p := id) (l := l)
  rcases h with h | h
  · contradiction
  omega
theorem lastM_mono {f : Func} {many : Nat} {A B : List (List Bool)} (h : ∀ k, LeB (firstAt A k) (firstAt B k)) (t : Term) : LeB (lastM f many A t) (lastM f many B t) := fun v hv => by
  rw [hs_lastM] at hv ⊢
  obtain ⟨h1, h2⟩ := hv
  refine ⟨h1, ?_⟩
  rcases h2 with ⟨e, he, h3, h4⟩ | h2
  · exact .inl ⟨e, he, h _ v h3, h4⟩
  exact .inr h2
theorem lvStep_ok {f : Func} {many : Nat} (h0 : 0 < many) {S : Lv} (h : LvOK f many S) {k : Nat} (hk : k < f.blocks.length) : LvOK f many (lvStep f many k S) ∧ (lvStep f many k S).weight many ≤ S.weight many ∧ ((lvStep f many k S).again = true → S.again = true ∨ (lvStep f many k S).weight many < S.weight many) := by
  obtain ⟨old, ho⟩ : ∃ old, S.behind[k]? = some old := ⟨S.behind[k]'(by rw [h.len2]; exact hk), List.getElem?_eq_getElem _⟩
  obtain ⟨ofi, hof⟩ : ∃ o, S.first[k]? = some o := ⟨S.first[k]'(by rw [h.len1]; exact hk), List.getElem?_eq_getElem _⟩
  unfold lvStep
  rw [ho, Option.getD_some]
  obtain ⟨next, hne⟩ : ∃ n, n = lastM f many S.first (blkOf f k).term := ⟨_, rfl⟩
  have hnl : next.length = many := by rw [hne, lastM_len]
  have hn0 : next ≠ [] := fun e => by rw [e] at hnl; simp at hnl; omega
  rw [← hne]
  have hosz := h.sz2 old (List.mem_of_getElem? ho)
  split
  · exact ⟨h, Nat.le_refl _, fun q => .inl q⟩
  rename_i hc
  have hlow : LeB old next := by
    by_cases q : old = []
    · rw [q]
      intro v hv
      simp [Hs] at hv
    rw [hne]
    exact (h.low k old ho q).2
  have hgrow : LeB ofi (backM (blkOf f k).ins next) := by
    by_cases q : old = []
    · rw [q] at ho
      have := h.nil k ho
      rw [hof] at this
      simp only [Option.some.injEq] at this
      rw [this]
      intro v hv
      simp [Hs] at hv
    have := (h.low k old ho q).1
    rw [hof] at this
    simp only [Option.some.injEq] at this
    rw [this]
    exact backM_mono _ (by rw [hosz.resolve_left q, hnl]) hlow
  have hfst : ∀ j, LeB (firstAt S.first j) (firstAt (S.first.set k (backM (blkOf f k).ins next)) j) := fun j => by
    unfold firstAt
    rw [List.getElem?_set]
    by_cases e : k = j.toNat
    · subst e
      rw [if_pos rfl, if_pos (by rw [h.len1]; exact hk), hof]
      exact hgrow
    rw [if_neg e]
    exact fun v hv => hv
  refine ⟨⟨by simp [h.len1], by simp [h.len2], fun l hl => ?_, fun l hl => ?_, fun j l hj hjn => ?_, fun j hj => ?_⟩, ?_⟩
  · rcases List.mem_or_eq_of_mem_set hl with q | q
    · exact h.sz1 l q
    exact .inr (by rw [q, backM_len, hnl])
  · rcases List.mem_or_eq_of_mem_set hl with q | q
    · exact h.sz2 l q
    exact .inr (by rw [q, hnl])
  · simp only at hj ⊢
    rw [List.getElem?_set] at hj
    by_cases e : k = j
    · subst e
      rw [if_pos rfl, if_pos (by rw [h.len2]; exact hk)] at hj
      simp only [Option.some.injEq] at hj
      subst hj
      refine ⟨by rw [List.getElem?_set_self (by rw [h.len1]; exact hk)], ?_⟩
      have := lastM_mono (f := f) (many := many) hfst (blkOf f k).term
      rw [← hne] at this
      exact this
    rw [if_neg e] at hj
    obtain ⟨q1, q2⟩ := h.low j l hj hjn
    rw [List.getElem?_set_ne e]
    exact ⟨q1, fun v hv => lastM_mono hfst _ v (q2 v hv)⟩
  · simp only at hj ⊢
    rw [List.getElem?_set] at hj
    by_cases e : k = j
    · subst e
      rw [if_pos rfl, if_pos (by rw [h.len2]; exact hk)] at hj
      simp only [Option.some.injEq] at hj
      exact absurd hj hn0
    rw [if_neg e] at hj
    rw [List.getElem?_set_ne e]
    exact h.nil j hj
  have hlt : szB old < szB next := by
    unfold szB
    rw [if_neg hn0]
    by_cases q : old = []
    · rw [if_pos q]
      omega
    rw [if_neg q]
    have hll : old.length = next.length := by rw [hosz.resolve_left q, hnl]
    have := (cnt_le old next hll hlow).2 (fun e => hc ⟨q, e.symm⟩)
    omega
  have h1 := szB_le (l := next) (.inr hnl)
  have hs := sum_set (l := S.behind.map fun l => many + 1 - szB l) (k := k) (x := many + 1 - szB next) (y := many + 1 - szB old) (by simp [ho])
  have e : (S.behind.map fun l => many + 1 - szB l).set k (many + 1 - szB next) = (S.behind.set k next).map fun l => many + 1 - szB l := by rw [List.map_set]
  rw [e] at hs
  simp only [Lv.weight]
  refine ⟨by omega, fun _ => .inr (by omega)⟩
theorem lvR_ok {f : Func} {many : Nat} (h0 : 0 < many) : ∀ (k : Nat) {S : Lv}, k ≤ f.blocks.length → LvOK f many S → LvOK f many (lvR f many k S) ∧ (lvR f many k S).weight many ≤ S.weight many ∧ ((lvR f many k S).again = true → S.again = true ∨ (lvR f many k S).weight many < S.weight many)
  | 0, S, _, h => ⟨h, Nat.le_refl _, fun q => .inl q⟩
  | k + 1, S, hk, h => by
    obtain ⟨a1, a2, a3⟩ := lvStep_ok h0 h (k := k) (by omega)
    obtain ⟨b1, b2, b3⟩ := lvR_ok h0 k (by omega) a1
    simp only [lvR]
    refine ⟨b1, by omega, fun q => ?_⟩
    rcases b3 q with q | q
    · rcases a3 q with q | q
      · exact .inl q
      exact .inr (by omega)
    exact .inr (by omega)
theorem lvI_done {f : Func} {many : Nat} {S : Lv} (h : S.again = false) (n : Nat) : lvI f many n S = S := by
  cases n with
  | zero => rfl
  | succ n => simp [lvI, h]
theorem lvI_ok {f : Func} {many : Nat} (h0 : 0 < many) : ∀ (n : Nat) {S : Lv}, LvOK f many S → LvOK f many (lvI f many n S)
  | 0, _, h => h
  | n + 1, S, h => by
    simp only [lvI]
    split
    · exact lvI_ok h0 n (lvR_ok h0 (S := ⟨S.first, S.behind, false⟩) _ (Nat.le_refl _) ⟨h.len1, h.len2, h.sz1, h.sz2, h.low, h.nil⟩).1
    exact h
theorem lvS_weight {n many : Nat} (hn : n ≤ 128) (hm : many ≤ 4097) : (lvS n).weight many ≤ 524544 := by
  have h := sum_le (l := (lvS n).behind.map fun l => many + 1 - szB l) (b := many + 1) (fun x hx => by
    obtain ⟨l, _, rfl⟩ := List.mem_map.1 hx
    omega)
  simp only [lvS, List.length_map, List.length_replicate] at h
  simp only [Lv.weight, lvS]
  have : n * (many + 1) ≤ 128 * 4098 := Nat.mul_le_mul hn (by omega)
  omega
end Go.Proofs.Ytlclgfgmhnmnaaa
end

section
set_option linter.unusedSimpArgs false
set_option maxRecDepth 100000
set_option maxHeartbeats 4000000
namespace Go.Proofs.Ytlclgfgmhnmnaaa
open Go.Av
def predsR (f : Func) : AVal := if checkFuncM f = 0 then .tup [.lst 1 ((predsM f).map eIs) .sh, aI 0] else .tup [.lst 1 [] .sh, aI (checkFuncM f)]
def Bnd (c : Nat) (ls : List (List Int)) : Prop := ∀ l ∈ ls, l.length ≤ c
theorem Bnd.push {c : Nat} {ls : List (List Int)} (h : Bnd c ls) {j : Nat} {l : List Int} (hj : ls[j]? = some l) (k : Int) : Bnd (c + 1) (ls.set j (l ++ [k])) := fun m hm => by
 rcases List.mem_or_eq_of_mem_set hm with q | q
 ·have := h m q
  omega
 subst q
 have := h l (List.mem_of_getElem? hj)
 simp
 omega
theorem Bnd.mono {c d : Nat} {ls : List (List Int)} (h : Bnd c ls) (hd : c ≤ d) : Bnd d ls := fun l hl => Nat.le_trans (h l hl) hd
end Go.Proofs.Ytlclgfgmhnmnaaa
end

section
namespace Go.Av
theorem FSub.os {O : List AObj} {id len sz : Nat} {cs xs : List AVal} (hid : O[id]? = some (.cells cs)) (hsz : ∀ x ∈ xs, x.cells.length = sz) (hlen : xs.length = len) (hd : ((cs.drop 0).take (len * sz)).map AVal.shareCell = cellsAll xs) : FSub O id (.os id len sz) (.lst sz xs .sh) := fun g u l' hg hO he hle h => by
  obtain ⟨l, o1, cap', h1, h2, _, hlc, _, hmax, eu⟩ := h.os_inv
  subst eu
  rw [he] at h1
  simp only [Option.some.injEq] at h1
  subst h1
  have hid' : g.objs[id]? = some (.cells cs) := by rw [hO]; exact hid
  obtain ⟨arr, t', hlo, hrow, hal, hcs, hcsc, _⟩ := hg.row hid' he
  subst hlen
  have key : ∀ (j : Nat) (c : AVal), (cellsAll xs)[j]? = some c → ∃ c', cs[0 + j]? = some c' ∧ c'.shareCell = c := fun j c hj => by
    rw [← hd, List.getElem?_map, Option.map_eq_some_iff] at hj
    obtain ⟨c', hj, e⟩ := hj
    have := take_get hj
    rw [List.getElem?_drop] at this
    exact ⟨c', this, e⟩
  refine .lst hsz (fun x hx c hc => ?_) hlc hmax (fun _ => rfl) (fun j => arr.getD (0 + j) undef) (fun j c hj => ?_) (fun j c hj => ?_) trivial
  · have hmem : c ∈ cellsAll xs := by
      simp only [cellsAll, List.mem_flatMap]
      exact ⟨x, hx, hc⟩
    obtain ⟨j, hj⟩ := List.getElem?_of_mem hmem
    obtain ⟨c', hj', e⟩ := key j c hj
    subst e
    exact AVal.scalar_shareCell (hcsc c' (List.mem_of_getElem? hj'))
  · obtain ⟨c', hj', e⟩ := key j c hj
    have hlt := lt_of_getElem? hj'
    refine ⟨?_, freeze_own hg he hid' trivial _⟩
    show g.w.cell? _ = _
    simp only
    rw [cell_of_row hrow]
    simp [Array.getD_eq_getD_getElem?, show j < arr.size by omega]
  obtain ⟨c', hj', e⟩ := key j c hj
  have hlt := lt_of_getElem? hj'
  subst e
  exact ((hcs _ c' _ hj' (by simp [Array.getD_eq_getD_getElem?, show j < arr.size by omega])).mono hle).shareCell
end Go.Av
end

section
set_option linter.unusedSimpArgs false
set_option maxRecDepth 100000
set_option maxHeartbeats 4000000
namespace Go.Proofs.Ytlclgfgmhnmnaaa
open Go.Av
def outV (oid : Nat) (l : List Int) : AVal := if l = [] then .lst 1 [] .ex else .os oid l.length 1
end Go.Proofs.Ytlclgfgmhnmnaaa
end

section
namespace Go.Proofs.Ytlclgfgmhnmnaaa
open Go.Av
structure Rng where
  val : Int
  blk : Int
  fr : Int
  til : Int
def Rng.enc (r : Rng) : AVal := .agg [aI r.val, aI r.blk, aI r.fr, aI r.til]
theorem Rng.enc_cells (r : Rng) : r.enc.cells = [aI r.val, aI r.blk, aI r.fr, aI r.til] := rfl
theorem Rng.enc_share (r : Rng) : r.enc.share = r.enc := rfl
theorem Rng.enc_flat (r : Rng) : r.enc.flat := trivial
theorem Rng.fold (r : Rng) : AVal.agg [aI r.val, aI r.blk, aI r.fr, aI r.til] = r.enc := rfl
def rngC (l : List Rng) : List AVal := cellsAll (l.map Rng.enc)
theorem rngC_snoc (l : List Rng) (r : Rng) : rngC (l ++ [r]) = rngC l ++ [aI r.val, aI r.blk, aI r.fr, aI r.til] := by
  simp [rngC, cellsAll, Rng.enc_cells]
theorem rngC_len : ∀ l : List Rng, (rngC l).length = l.length * 4
  | [] => rfl
  | r :: l => by
    have := rngC_len l
    simp only [rngC, cellsAll, List.map_cons, List.flatMap_cons, List.length_append, List.length_cons] at this ⊢
    rw [this]
    simp only [Rng.enc_cells, List.length_cons, List.length_nil]
    omega
theorem rngC_upto (n : Nat) (l : List Rng) : uptoL n (rngC l) := by
  rw [uptoL_iff]
  intro c hc
  simp only [rngC, cellsAll, List.mem_flatMap, List.mem_map] at hc
  obtain ⟨_, ⟨r, _, rfl⟩, hc⟩ := hc
  simp only [Rng.enc_cells, List.mem_cons, List.not_mem_nil, or_false] at hc
  rcases hc with rfl | rfl | rfl | rfl <;> trivial
def partV (id : Nat) (l : List Rng) : AVal := if l = [] then .lst 4 [] .ex else .os id l.length 4
def partC : List (List Rng) → List Nat → List AVal
  | l :: r, id :: s => partV id l :: partC r s
  | _, _ => []
theorem partC_len : ∀ (ls : List (List Rng)) (ids : List Nat), ids.length = ls.length → (partC ls ids).length = ls.length
  | [], _, _ => by simp [partC]
  | l :: r, [], h => by simp at h
  | l :: r, id :: s, h => by simp [partC, partC_len r s (by simpa using h)]
theorem partC_get : ∀ {ls : List (List Rng)} {ids : List Nat} {v : Nat} {l : List Rng} {id : Nat}, ls[v]? = some l → ids[v]? = some id → (partC ls ids)[v]? = some (partV id l)
  | [], _, _, _, _, h, _ => by simp at h
  | _ :: _, [], _, _, _, _, h => by simp at h
  | l :: r, i :: s, 0, l', id, h1, h2 => by
    simp only [List.getElem?_cons_zero, Option.some.injEq] at h1 h2
    subst h1
    subst h2
    rfl
  | l :: r, i :: s, v + 1, l', id, h1, h2 => by
    simp only [List.getElem?_cons_succ] at h1 h2
    simp only [partC, List.getElem?_cons_succ]
    exact partC_get h1 h2
theorem partC_set : ∀ {ls : List (List Rng)} {ids : List Nat} {v : Nat} (l : List Rng) (id : Nat), ids.length = ls.length → (partC ls ids).set v (partV id l) = partC (ls.set v l) (ids.set v id)
  | [], ids, v, l, id, h => by
    have : ids = [] := List.length_eq_zero_iff.1 h
    subst this
    rfl
  | l0 :: r, [], _, _, _, h => by simp at h
  | l0 :: r, i :: s, 0, l, id, h => rfl
  | l0 :: r, i :: s, v + 1, l, id, h => by
    simp only [partC, List.set_cons_succ]
    rw [partC_set l id (by simpa using h)]
structure Rx where
  parts : List (List Rng)
  ids : List Nat
  O : List AObj
def addP (k p v : Int) (l : List Rng) : List Rng :=
  match l.getLast? with
  | some r => if r.blk = k then l.dropLast ++ [⟨r.val, r.blk, p, r.til⟩] else l ++ [⟨v, k, p, p⟩]
  | none => [⟨v, k, p, p⟩]
def rxAdd (k p : Int) (X : Rx) (v : Int) : Rx :=
  let l := X.parts[v.toNat]?.getD []
  let id := X.ids[v.toNat]?.getD 0
  let l' := addP k p v l
  let ps := X.parts.set v.toNat l'
  match l.getLast? with
  | some r =>
    if r.blk = k then ⟨ps, X.ids, X.O.set id (.cells (rngC l'))⟩
    else ⟨ps, X.ids.set v.toNat X.O.length, (X.O.set id .gone ++ [AObj.cells (rngC l')]).set 5 (.cells (partC ps (X.ids.set v.toNat X.O.length)))⟩
  | none => ⟨ps, X.ids.set v.toNat X.O.length, (X.O ++ [AObj.cells (rngC l')]).set 5 (.cells (partC ps (X.ids.set v.toNat X.O.length)))⟩
structure RxOK (many : Nat) (P : List Nat) (X : Rx) : Prop where
  len1 : X.parts.length = many
  len2 : X.ids.length = many
  up : ∀ o ∈ X.O, o.upto X.O.length
  arr : X.O[5]? = some (.cells (partC X.parts X.ids))
  var : X.O[6]? = some (.cells [.ms 5 0 many many])
  own : ∀ (v : Nat) l id, X.parts[v]? = some l → X.ids[v]? = some id → l ≠ [] → X.O[id]? = some (.cells (rngC l)) ∧ 7 ≤ id ∧ id ∉ P
  apart : ∀ (v w : Nat) l m id, X.parts[v]? = some l → X.parts[w]? = some m → l ≠ [] → m ≠ [] → X.ids[v]? = some id → X.ids[w]? = some id → v = w
  prot : ∀ j ∈ P, 7 ≤ j ∧ j < X.O.length
theorem partC_upto {ls : List (List Rng)} {ids : List Nat} {n : Nat} (h : ∀ (v : Nat) l id, ls[v]? = some l → ids[v]? = some id → l ≠ [] → id < n) : uptoL n (partC ls ids) := by
  induction ls generalizing ids with
  | nil => simp [partC, uptoL]
  | cons l r ih =>
    cases ids with
    | nil => simp [partC, uptoL]
    | cons id s =>
      refine ⟨?_, ih fun v l id h1 h2 => h (v + 1) l id h1 h2⟩
      unfold partV
      split
      · exact ⟨trivial, trivial⟩
      rename_i hl
      exact h 0 l id rfl rfl hl
theorem set_cases {α : Type} {l : List α} {n w : Nat} {x y : α} (a : (l.set n x)[w]? = some y) : (w = n ∧ y = x) ∨ (w ≠ n ∧ l[w]? = some y) := by
  by_cases e : n = w
  · subst e
    have hlt := lt_of_getElem? a
    rw [List.length_set] at hlt
    rw [List.getElem?_set_self hlt] at a
    simp only [Option.some.injEq] at a
    exact .inl ⟨rfl, a.symm⟩
  rw [List.getElem?_set_ne e] at a
  exact .inr ⟨fun q => e q.symm, a⟩
theorem rxAdd_ok {many : Nat} {P : List Nat} {k p : Int} {X : Rx} (h : RxOK many P X) {v : Int} (h0 : 0 ≤ v) (h1 : v < many) : RxOK many P (rxAdd k p X v) := by
  obtain ⟨n, rfl⟩ : ∃ n : Nat, v = (n : Int) := ⟨v.toNat, by omega⟩
  obtain ⟨l, hl⟩ : ∃ l, X.parts[n]? = some l := ⟨X.parts[n]'(by rw [h.len1]; omega), List.getElem?_eq_getElem _⟩
  obtain ⟨id, hid⟩ : ∃ id, X.ids[n]? = some id := ⟨X.ids[n]'(by rw [h.len2]; omega), List.getElem?_eq_getElem _⟩
  have h5 := lt_of_getElem? h.arr
  have h6 := lt_of_getElem? h.var
  have hn1 : n < X.parts.length := by rw [h.len1]; omega
  have hn2 : n < X.ids.length := by rw [h.len2]; omega
  have hidlt : ∀ (w : Nat) m j, X.parts[w]? = some m → X.ids[w]? = some j → m ≠ [] → j < X.O.length := fun w m j a b c => lt_of_getElem? (h.own w m j a b c).1
  have hne' : addP k p n l ≠ [] := by
    unfold addP
    split
    · split <;> simp
    simp
  unfold rxAdd
  simp only [Int.toNat_natCast, hl, hid, Option.getD_some]
  obtain ⟨l', hl'⟩ : ∃ l', l' = addP k p n l := ⟨_, rfl⟩
  rw [← hl'] at hne' ⊢
  have hnew : ∀ O1 : List AObj, O1.length = X.O.length → (∀ o ∈ O1, o.upto X.O.length) → O1[6]? = X.O[6]? → (∀ (w : Nat) m j, w ≠ n → X.parts[w]? = some m → X.ids[w]? = some j → m ≠ [] → O1[j]? = X.O[j]?) →
      RxOK many P ⟨X.parts.set n l', X.ids.set n X.O.length, (O1 ++ [AObj.cells (rngC l')]).set 5 (.cells (partC (X.parts.set n l') (X.ids.set n X.O.length)))⟩ := fun O1 hO1 hup hO6 hOw => by
    have hgw : ∀ (w : Nat) m, (X.parts.set n l')[w]? = some m → (w = n ∧ m = l') ∨ (w ≠ n ∧ X.parts[w]? = some m) := fun w m a => set_cases a
    have hgi : ∀ (w : Nat) j, (X.ids.set n X.O.length)[w]? = some j → (w = n ∧ j = X.O.length) ∨ (w ≠ n ∧ X.ids[w]? = some j) := fun w j a => set_cases a
    refine ⟨by simp [h.len1], by simp [h.len2], ?_, ?_, ?_, fun w m j a b c => ?_, fun v w l m id a b c d e q => ?_, fun j hj => ?_⟩
    · rw [List.length_set, List.length_append, hO1]
      refine uptoO_set (uptoO_snoc (fun o ho => AObj.upto_mono (by simp) (hup o ho)) (rngC_upto _ _)) (partC_upto fun w m j a b c => ?_)
      simp only [List.length_cons, List.length_nil]
      rcases hgi w j b with ⟨_, q⟩ | ⟨q1, q2⟩
      · omega
      rcases hgw w m a with ⟨q, _⟩ | ⟨_, q⟩
      · exact absurd q q1
      have := hidlt w m j q q2 c
      omega
    · rw [List.getElem?_set_self (by rw [List.length_append, hO1]; omega)]
    · rw [List.getElem?_set_ne (by omega), List.getElem?_append_left (by omega), hO6]
      exact h.var
    · rcases hgi w j b with ⟨q1, q2⟩ | ⟨q1, q2⟩
      · rcases hgw w m a with ⟨_, r⟩ | ⟨r, _⟩
        · subst q2
          subst r
          refine ⟨?_, by omega, fun hm => ?_⟩
          · rw [List.getElem?_set_ne (by omega), ← hO1]
            exact snoc_get _ _
          have := h.prot _ hm
          omega
        exact absurd q1 r
      rcases hgw w m a with ⟨r, _⟩ | ⟨_, r⟩
      · exact absurd r q1
      obtain ⟨s1, s2, s3⟩ := h.own w m j r q2 c
      have hjl := lt_of_getElem? s1
      refine ⟨?_, s2, s3⟩
      rw [List.getElem?_set_ne (by omega), List.getElem?_append_left (by omega), hOw w m j q1 r q2 c]
      exact s1
    · rcases hgi v id e with ⟨q1, q2⟩ | ⟨q1, q2⟩
      · rcases hgi w id q with ⟨r1, r2⟩ | ⟨r1, r2⟩
        · exact q1.trans r1.symm
        rcases hgw w m b with ⟨s, _⟩ | ⟨_, s⟩
        · exact absurd s r1
        have := hidlt w m id s r2 d
        omega
      rcases hgi w id q with ⟨r1, r2⟩ | ⟨r1, r2⟩
      · rcases hgw v l a with ⟨s, _⟩ | ⟨_, s⟩
        · exact absurd s q1
        have := hidlt v l id s q2 c
        omega
      rcases hgw v l a with ⟨s, _⟩ | ⟨_, s⟩
      · exact absurd s q1
      rcases hgw w m b with ⟨t, _⟩ | ⟨_, t⟩
      · exact absurd t r1
      exact h.apart v w l m id s t c d q2 r2
    have := h.prot j hj
    rw [List.length_set, List.length_append, hO1]
    omega
  cases hlast : l.getLast? with
  | none =>
    simp only
    exact hnew X.O rfl h.up rfl fun _ _ _ _ _ _ _ => rfl
  | some r =>
    have hlne : l ≠ [] := fun e => by rw [e] at hlast; cases hlast
    obtain ⟨o1, o2, o3⟩ := h.own n l id hl hid hlne
    have hidl := lt_of_getElem? o1
    simp only
    by_cases hb : r.blk = k
    · rw [if_pos hb]
      have hpc : partC (X.parts.set n l') X.ids = partC X.parts X.ids := by
        have e1 : X.ids.set n id = X.ids := by
          obtain ⟨hlt, e⟩ := List.getElem?_eq_some_iff.1 hid
          rw [← e, List.set_getElem_self]
        have := partC_set (ls := X.parts) (ids := X.ids) (v := n) l' id (by rw [h.len1, h.len2])
        rw [e1] at this
        rw [← this]
        have hlen : l'.length = l.length := by
          rw [hl', addP, hlast]
          simp only
          rw [if_pos hb]
          have := List.length_pos_iff.2 hlne
          simp
          omega
        have : partV id l' = partV id l := by
          unfold partV
          rw [if_neg hne', if_neg hlne, hlen]
        rw [this]
        have hg := partC_get hl hid
        obtain ⟨hlt, e⟩ := List.getElem?_eq_some_iff.1 hg
        rw [← e, List.set_getElem_self]
      have hgw : ∀ (w : Nat) m, (X.parts.set n l')[w]? = some m → (w = n ∧ m = l') ∨ (w ≠ n ∧ X.parts[w]? = some m) := fun w m a => set_cases a
      have hwas : ∀ (w : Nat) m, (X.parts.set n l')[w]? = some m → m ≠ [] → ∃ m0, X.parts[w]? = some m0 ∧ m0 ≠ [] := fun w m a c => by
        rcases hgw w m a with ⟨q, _⟩ | ⟨_, q⟩
        · exact ⟨l, by rw [q]; exact hl, hlne⟩
        exact ⟨m, q, c⟩
      refine ⟨by simp [h.len1], h.len2, ?_, ?_, ?_, fun w m j a b c => ?_, fun v w l m id a b c d e q => ?_, fun j hj => ?_⟩
      · rw [List.length_set]
        exact uptoO_set h.up (rngC_upto _ _)
      · rw [List.getElem?_set_ne (by omega), h.arr, hpc]
      · rw [List.getElem?_set_ne (by omega)]
        exact h.var
      · rcases hgw w m a with ⟨q1, q2⟩ | ⟨q1, q2⟩
        · subst q1
          subst q2
          rw [hid] at b
          simp only [Option.some.injEq] at b
          subst b
          exact ⟨by rw [List.getElem?_set_self hidl], o2, o3⟩
        obtain ⟨s1, s2, s3⟩ := h.own w m j q2 b c
        refine ⟨?_, s2, s3⟩
        rw [List.getElem?_set_ne]
        · exact s1
        intro e
        subst e
        exact q1 (h.apart w n m l id q2 hl c hlne b hid)
      · obtain ⟨l0, a1, a2⟩ := hwas v l a c
        obtain ⟨m0, b1, b2⟩ := hwas w m b d
        exact h.apart v w l0 m0 id a1 b1 a2 b2 e q
      rw [List.length_set]
      exact h.prot j hj
    rw [if_neg hb]
    refine hnew (X.O.set id .gone) (by simp) (uptoO_set h.up trivial) (by rw [List.getElem?_set_ne (by omega)]) fun w m j hw a b c => ?_
    rw [List.getElem?_set_ne]
    intro e
    subst e
    exact hw (h.apart w n m l id a hl c hlne b hid)
end Go.Proofs.Ytlclgfgmhnmnaaa
end

section
set_option linter.unusedSimpArgs false
set_option maxRecDepth 100000
set_option maxHeartbeats 4000000
namespace Go.Proofs.Ytlclgfgmhnmnaaa
open Go.Av
theorem listO_spec {O : List AObj} (hup : ∀ o ∈ O, o.upto O.length) {L : Nat} {l : List Bool} {n : Nat} (hL : O[L]? = some (.cells (l.map eB))) (hn : l.length = n) (hl : n ≤ 2 ^ 40) : ECall Try.prog 46 O [.ms L 0 n n] (fun r O' => r = eIs (listM 0 l) ∧ O' = O) := by
 have hLl := lt_of_getElem? hL
 have hL' : ∀ X, (O ++ X)[L]? = some (.cells (l.map eB)) := fun X => at_left hL
 obtain ⟨R, hR⟩ : ∃ R, R = listM 0 l := ⟨_, rfl⟩
 rw [← hR]
 subst hn
 refine zf true O.length Try.func46 Try.ntmps46 ?_
 dsimp only [Tmp, TypeId, slotsOf]
 refine zh1 (za0 ?_)
 refine zh1 (za0 ?_)
 refine awp_own 3 rfl ?_
 simp -dsimp only [simprocAttr, ↓vpre, zp]
 refine zh2 (za0 ?_)
 refine awp_block (awp_loop (ι := {x : Nat × List Int // x.1 ≤ l.length ∧ x.2.length ≤ x.1 ∧ R = x.2 ++ listM x.1 (l.drop x.1)}) (fun x => ⟨20, [(3, .lst 1 (x.1.2.map aI) (.tok O.length)), (6, .ms L 0 l.length l.length), (7, aI l.length), (8, aI x.1.1)], O ++ [.spare x.1.2.length]⟩) (fun x => l.length - x.1.1) ⟨(0, []), by simp, by simp, hR⟩ ?_ ?_)
 ·refine zq rfl ?_ ?_
  simp -dsimp only [simprocAttr, ↓vpre, zp, zc]
  rfl
 rintro ⟨⟨k, acc⟩, hk, hak, hke⟩
 simp only at hk hak hke
 refine zh1 (za0 ?_)
 apply zk1 rfl <;> intro h
 ·refine zb0 ?_
  have hlt : k < l.length := by simpa using h
  obtain ⟨a, ha⟩ : ∃ a, l[k]? = some a := ⟨l[k], by simp [hlt]⟩
  rw [drop_at ha] at hke
  simp only [listM] at hke
  have hae : (l.map eB)[k]? = some (eB a) := by rw [List.getElem?_map, ha]; rfl
  refine awp_seq (awp_block ?_)
  refine zg1 ?_
  simp -dsimp only [simprocAttr, ↓vpre, zp, hL', hae, eB, Int.toNat_natCast, Nat.mul_one]
  repeat (refine ⟨by omega, ?_⟩)
  refine za0 ?_
  cases a with
  | true =>
   simp only [if_true] at hke
   refine zh1 (za0 ?_)
   refine zw0 rfl ?_
   refine zg0 ?_
   simp -dsimp only [simprocAttr, ↓vpre, zp, snoc_get]
   repeat (refine ⟨by omega, ?_⟩)
   refine za0 ?_
   refine zh0 ?_
   repeat (refine ⟨by omega, ?_⟩)
   refine zl0 ?_
   refine ⟨⟨(k + 1, acc ++ [(k : Int)]), hlt, by simp; omega, by simpa using hke⟩, by simp; omega, ?_⟩
   refine zq rfl ?_ ?_
   simp -dsimp only [simprocAttr, ↓vpre, zp, zc]
   ·exact ⟨Sub.lst (by simp), Sub.int (by simp)⟩
   simp
  | false =>
   simp only [Bool.false_eq_true, if_false] at hke
   refine zh1 (za0 ?_)
   refine zu0 rfl ?_
   refine zb1 ?_
   refine zh0 ?_
   repeat (refine ⟨by omega, ?_⟩)
   refine zl0 ?_
   refine ⟨⟨(k + 1, acc), hlt, by simp only; omega, hke⟩, by simp; omega, ?_⟩
   refine zq rfl ?_ ?_
   simp -dsimp only [simprocAttr, ↓vpre, zp, zc]
   ·exact Sub.int (by simp)
   rfl
 refine awp_exit ?_
 simp -dsimp only [vend, ne_eq, Nat.reduceEqDiff, reduceCtorEq]
 have hkk : k = l.length := by simp at h; omega
 subst hkk
 rw [List.drop_length] at hke
 simp only [listM, List.append_nil] at hke
 subst hke
 refine zh1 (za0 ?_)
 refine awp_ret ?_
 simp -dsimp only [simprocAttr, ↓vpre, zp, zr, Try.results46]
 exact hup
theorem rxAdd_len (k p : Int) (X : Rx) (v : Int) : X.O.length ≤ (rxAdd k p X v).O.length := by
 unfold rxAdd
 simp only
 split
 ·split <;> simp
 simp
def rxAll (k p : Int) (X : Rx) (l : List Int) : Rx := l.foldl (rxAdd k p) X
theorem rxAll_len (k p : Int) : ∀ (l : List Int) (X : Rx), X.O.length ≤ (rxAll k p X l).O.length
 | [], _ => Nat.le_refl _
 | v :: r, X => Nat.le_trans (rxAdd_len k p X v) (rxAll_len k p r _)
theorem listM_lt {v : Int} : ∀ (l : List Bool) (n : Nat), v ∈ listM n l → 0 ≤ v ∧ v < (n + l.length : Nat)
 | [], n, h => by simp [listM] at h
 | is :: r, n, h => by
  simp only [listM] at h
  have key : v ∈ listM (n + 1) r → 0 ≤ v ∧ v < (n + (is :: r).length : Nat) := fun q => by
   have := listM_lt r (n + 1) q
   simp only [List.length_cons]
   omega
  split at h
  ·rcases List.mem_cons.1 h with q | q
   ·simp only [List.length_cons]
    omega
   exact key q
  exact key h
def RxB (c : Nat) (k : Int) (X : Rx) : Prop := ∀ l ∈ X.parts, l.length ≤ c ∨ (l.length ≤ c + 1 ∧ ∃ r, l.getLast? = some r ∧ r.blk = k)
theorem addP_b {c : Nat} {k p v : Int} {l : List Rng} (h : l.length ≤ c ∨ (l.length ≤ c + 1 ∧ ∃ r, l.getLast? = some r ∧ r.blk = k)) : (addP k p v l).length ≤ c + 1 ∧ ∃ r, (addP k p v l).getLast? = some r ∧ r.blk = k := by
 unfold addP
 cases hl : l.getLast? with
 | none =>
  refine ⟨by simp, _, rfl, rfl⟩
 | some r =>
  have hne : l ≠ [] := fun e => by rw [e] at hl; cases hl
  have hp := List.length_pos_iff.2 hne
  simp only
  split
  ·rename_i hb
   refine ⟨?_, _, List.getLast?_concat .., hb⟩
   simp only [List.length_append, List.length_dropLast, List.length_cons, List.length_nil]
   rcases h with q | ⟨q, _⟩ <;> omega
  rename_i hb
  refine ⟨?_, _, List.getLast?_concat .., rfl⟩
  simp only [List.length_append, List.length_cons, List.length_nil]
  rcases h with q | ⟨q, r', q1, q2⟩
  ·omega
  rw [hl] at q1
  simp only [Option.some.injEq] at q1
  exact absurd (q1 ▸ q2) hb
theorem rxAdd_parts (k p : Int) (X : Rx) (v : Int) : (rxAdd k p X v).parts = X.parts.set v.toNat (addP k p v (X.parts[v.toNat]?.getD [])) := by
 unfold rxAdd
 simp only
 split
 ·split <;> rfl
 rfl
theorem RxB.add {c : Nat} {k : Int} {X : Rx} (h : RxB c k X) (p v : Int) : RxB c k (rxAdd k p X v) := fun l hl => by
 rw [rxAdd_parts] at hl
 rcases List.mem_or_eq_of_mem_set hl with q | q
 ·exact h l q
 subst q
 refine .inr (addP_b ?_)
 cases hx : X.parts[v.toNat]? with
 | none => exact .inl (by simp)
 | some m => exact h m (List.mem_of_getElem? hx)
theorem rxAdd_get {many : Nat} {P : List Nat} {k p : Int} {X : Rx} (h : RxOK many P X) {v : Int} (h0 : 0 ≤ v) (h1 : v < many) {j : Nat} (hj : j ∈ P ∨ j < 5) : (rxAdd k p X v).O[j]? = X.O[j]? := by
 obtain ⟨n, rfl⟩ : ∃ n : Nat, v = (n : Int) := ⟨v.toNat, by omega⟩
 obtain ⟨l, hl⟩ : ∃ l, X.parts[n]? = some l := ⟨X.parts[n]'(by rw [h.len1]; omega), List.getElem?_eq_getElem _⟩
 obtain ⟨id, hid⟩ : ∃ id, X.ids[n]? = some id := ⟨X.ids[n]'(by rw [h.len2]; omega), List.getElem?_eq_getElem _⟩
 have h5 := lt_of_getElem? h.arr
 have hj2 : j ≠ 5 ∧ j < X.O.length := by
  rcases hj with q | q
  ·have := h.prot j q
   omega
  omega
 unfold rxAdd
 simp only [Int.toNat_natCast, hl, hid, Option.getD_some]
 cases hlast : l.getLast? with
 | none =>
  simp only
  rw [List.getElem?_set_ne (by omega), List.getElem?_append_left (by omega)]
 | some r =>
  have hlne : l ≠ [] := fun e => by rw [e] at hlast; cases hlast
  obtain ⟨o1, o2, o3⟩ := h.own n l id hl hid hlne
  have hji : id ≠ j := fun e => by
   rcases hj with q | q
   ·exact o3 (e ▸ q)
   omega
  simp only
  split
  ·rw [List.getElem?_set_ne hji]
  rw [List.getElem?_set_ne (by omega), List.getElem?_append_left (by simp; omega), List.getElem?_set_ne hji]
theorem partV_nil (id : Nat) : partV id [] = .lst 4 [] .ex := rfl
theorem partV_ne {l : List Rng} (h : l ≠ []) (id : Nat) : partV id l = .os id l.length 4 := if_neg h
theorem ranges1_spec {many : Nat} {P : List Nat} {X : Rx} (hX : RxOK many P X) {c : Nat} {k : Int} (hc : RxB c k X) (hcm : c ≤ 2 ^ 30) (hmm : many ≤ 2 ^ 30) {L B : Nat} (hL : L ∈ P) (hB : B ∈ P) {s : List Bool} (hnow : X.O[L]? = some (.cells (s.map eB))) (hs : s.length = many) (hk : X.O[B]? = some (.cells [aI k])) (p : Int) :
  ECall Try.prog 45 X.O [aI p, .ms L 0 many many, .mp 6 0, .mp B 0] (fun r O' => r = .tup [] ∧ O' = (rxAll k p X (listM 0 s)).O) := by
 have hlist := listO_spec hX.up hnow hs (by omega)
 have hls : ∀ v ∈ listM 0 s, 0 ≤ v ∧ v < many := fun v hv => by
  have := listM_lt s 0 hv
  omega
 have hll : (listM 0 s).length ≤ many := by
  have key : ∀ (s : List Bool) (n : Nat), (listM n s).length ≤ s.length := fun s => by
   induction s with
   | nil => simp [listM]
   | cons a r ih =>
    intro n
    have := ih (n + 1)
    simp only [listM]
    split <;> simp <;> omega
  have := key s 0
  omega
 obtain ⟨Z, hZ⟩ : ∃ Z, Z = rxAll k p X (listM 0 s) := ⟨_, rfl⟩
 have hkk : X.O.length ≤ Z.O.length := by rw [hZ]; exact rxAll_len k p _ X
 rw [← hZ]
 unfold rxAll at hZ
 generalize listM 0 s = ls at *
 refine ecall_of hT true (Z.O.length) Try.func45 rfl (by kernel_rfl) (by simp [Try.ntmps45]) (by assumption) ?_
 show AWP Try.prog _ _ _ ⟨60, _, _⟩
 dsimp only [Tmp, TypeId, slotsOf]
 refine zh1 ?_
 refine .inr (.inr ⟨_, hlist, later_intro (zj ?_)⟩)
 refine za0 ?_
 refine awp_block (awp_loop (ι := {y : Nat × Rx // y.1 ≤ ls.length ∧ RxOK many P y.2 ∧ RxB c k y.2 ∧ y.2.O[B]? = some (.cells [aI k]) ∧ Z = (ls.drop y.1).foldl (rxAdd k p) y.2 ∧ X.O.length ≤ y.2.O.length}) (fun y => ⟨60, [(0, aI p), (2, .mp 6 0), (3, .mp B 0), (10, eIs ls), (11, aI ls.length), (12, aI y.1.1)], y.1.2.O⟩) (fun y => ls.length - y.1.1) ⟨(0, X), by simp, hX, hc, hk, hZ, Nat.le_refl _⟩ ?_ ?_)
 ·refine zq rfl ?_ ?_
  simp -dsimp only [simprocAttr, ↓vpre, zp, zc]
  rfl
 rintro ⟨⟨j, Y⟩, hj, hY, hYc, hYk, hYe, hYl⟩
 simp only at hj hY hYc hYk hYe hYl
 refine zh1 (za0 ?_)
 apply zk1 rfl <;> intro h
 ·refine zb0 ?_
  have hlt : j < ls.length := by simpa using h
  obtain ⟨v, hv⟩ : ∃ v, ls[j]? = some v := ⟨ls[j], by simp [hlt]⟩
  obtain ⟨hv0, hv1⟩ := hls v (List.mem_of_getElem? hv)
  rw [drop_at hv, List.foldl_cons] at hYe
  have hY1 := rxAdd_ok (k := k) (p := p) hY hv0 hv1
  have hYc1 := hYc.add p v
  have hYk1 := (rxAdd_get (k := k) (p := p) hY hv0 hv1 (j := B) (.inl hB)).trans hYk
  have hYl1 := Nat.le_trans hYl (rxAdd_len k p Y v)
  obtain ⟨n, rfl⟩ : ∃ n : Nat, v = (n : Int) := ⟨v.toNat, by omega⟩
  obtain ⟨l, hl⟩ : ∃ l, Y.parts[n]? = some l := ⟨Y.parts[n]'(by rw [hY.len1]; omega), List.getElem?_eq_getElem _⟩
  obtain ⟨id, hid⟩ : ∃ id, Y.ids[n]? = some id := ⟨Y.ids[n]'(by rw [hY.len2]; omega), List.getElem?_eq_getElem _⟩
  have hcell := partC_get hl hid
  have hpl := partC_len Y.parts Y.ids (by rw [hY.len1, hY.len2])
  rw [hY.len1] at hpl
  have harr := hY.arr
  have hvar := hY.var
  have hlc : l.length ≤ c + 1 := by
   rcases hYc l (List.mem_of_getElem? hl) with q | ⟨q, _⟩ <;> omega
  have hBp := hY.prot B hB
  have h5 := lt_of_getElem? harr
  obtain ⟨Y1, hY1e⟩ : ∃ Y1, Y1 = rxAdd k p Y n := ⟨_, rfl⟩
  rw [← hY1e] at hY1 hYc1 hYk1 hYl1 hYe
  simp only [rxAdd, Int.toNat_natCast, hl, hid, Option.getD_some] at hY1e
  by_cases hl0 : l = []
  ·subst hl0
   rw [partV_nil] at hcell
   refine awp_seq (awp_block ?_)
   refine zg1 ?_
   simp -dsimp only [simprocAttr, ↓vpre, zp, hv]
   refine za0 ?_
   refine zg1 ?_
   simp -dsimp only [simprocAttr, ↓vpre, zp, hvar, harr, hcell, Int.toNat_natCast, Nat.mul_one]
   repeat (refine ⟨by omega, ?_⟩)
   refine za0 ?_
   refine zh1 ?_
   refine ⟨ob (by kernel_rfl), ?_⟩
   refine za0 ?_
   refine zu0 rfl ?_
   have harr' : ∀ X, (Y.O ++ X)[5]? = some (.cells (partC Y.parts Y.ids)) := fun X => at_left harr
   refine zs0 ?_
   simp -dsimp only [simprocAttr, ↓vpre, zp, hvar, harr, harr', hcell, hYk, hpl, Int.toNat_natCast, Nat.mul_one]
   refine ⟨by omega, by omega, trivial, rfl, by omega, orderB_ren [6, 5, B] Y.O.length [.rd 0, .pure, .rd 0, .pure, .pure, .rd 1, .pure, .rd 2, .pure, .pure, .pure, .pure, .wr 3 [], .pure, .wr 4 [1]] (by simp; omega) (by simp; omega) rfl rfl (by kernel_rfl), at_intro ?_⟩
   simp only [List.getLast?_nil] at hY1e
   have hput := splice_one (cs := partC Y.parts Y.ids) (j := n) (.os Y.O.length 1 4) (by omega)
   have hone : addP k p n [] = [⟨n, k, p, p⟩] := rfl
   have hset := partC_set (ls := Y.parts) (ids := Y.ids) (v := n) (addP k p n []) Y.O.length (by rw [hY.len1, hY.len2])
   rw [hone, show partV Y.O.length [⟨n, k, p, p⟩] = .os Y.O.length 1 4 from rfl, ← hput] at hset
   rw [hone, ← hset] at hY1e
   replace hY1e := congrArg Rx.O hY1e
   simp only [rngC, cellsAll, List.map_cons, List.map_nil, List.flatMap_cons, List.flatMap_nil, Rng.enc_cells, List.append_nil] at hY1e
   refine zh0 ?_
   repeat (refine ⟨by omega, ?_⟩)
   refine zl0 ?_
   refine ⟨⟨(j + 1, Y1), hlt, hY1, hYc1, hYk1, hYe, hYl1⟩, by simp; omega, ?_⟩
   refine zq rfl ?_ ?_
   simp -dsimp only [simprocAttr, ↓vpre, zp, zc]
   ·exact Sub.int (by simp)
   exact hY1e.symm
  rw [partV_ne hl0] at hcell
  obtain ⟨l0, r, hlr⟩ : ∃ l0 r, l = l0 ++ [r] := ⟨l.dropLast, l.getLast hl0, (List.dropLast_concat_getLast hl0).symm⟩
  subst hlr
  obtain ⟨o1, o2, o3⟩ := hY.own n _ id hl hid hl0
  rw [List.getLast?_concat] at hY1e
  rw [rngC_snoc] at o1
  have hll0 := rngC_len l0
  have hg1 : (rngC l0 ++ [aI r.val, aI r.blk, aI r.fr, aI r.til])[l0.length * 4 + 1]? = some (aI r.blk) := by
   rw [List.getElem?_append_right (by omega)]
   simp [hll0]
  rw [List.length_append] at hcell hlc
  simp only [List.length_cons, List.length_nil, Nat.zero_add] at hcell hlc
  refine awp_seq (awp_block ?_)
  refine zg1 ?_
  simp -dsimp only [simprocAttr, ↓vpre, zp, hv]
  refine za0 ?_
  refine zg1 ?_
  simp -dsimp only [simprocAttr, ↓vpre, zp, hvar, harr, hcell, Int.toNat_natCast, Nat.mul_one]
  repeat (refine ⟨by omega, ?_⟩)
  refine za0 ?_
  have hpos : decide ((0 : Int) < ((l0.length + 1 : Nat) : Int)) = true := decide_eq_true (by omega)
  have hm1 : ((l0.length + 1 : Nat) : Int) - 1 = (l0.length : Nat) := by omega
  refine zg1 ?_
  simp -dsimp only [simprocAttr, ↓vpre, zp, hpos, hm1, hvar, harr, hcell, o1, hg1, hYk, Int.toNat_natCast, Nat.mul_one]
  repeat (refine ⟨by omega, ?_⟩)
  have hidB : id ≠ B := fun e => o3 (e ▸ hB)
  have hidl := lt_of_getElem? o1
  refine ⟨orderB_ren [6, 5, id, B] Y.O.length [.pure, .pure, .pure, .rd 0, .pure, .pure, .rd 1, .pure, .pure, .pure, .pure, .rd 2, .rd 3, .pure, .pure] (by simp; omega) (by simp; omega) rfl rfl (by kernel_rfl), at_intro ?_⟩
  simp only at hY1e
  by_cases hbk : r.blk = k
  ·rw [if_pos hbk, addP, List.getLast?_concat] at hY1e
   simp only [if_pos hbk, List.dropLast_concat] at hY1e
   replace hY1e := congrArg Rx.O hY1e
   simp only [rngC_snoc] at hY1e
   rw [decide_eq_true hbk]
   refine zw0 rfl ?_
   refine zg0 ?_
   simp -dsimp only [simprocAttr, ↓vpre, zp, hm1, hvar, harr, hcell, o1, Int.toNat_natCast, Nat.mul_one]
   repeat (refine ⟨by omega, ?_⟩)
   refine za0 ?_
   have hsp : splice (rngC l0 ++ [aI r.val, aI r.blk, aI r.fr, aI r.til]) (l0.length * 4 + 2) [aI p] = rngC l0 ++ [aI r.val, aI r.blk, aI p, aI r.til] := by
    rw [splice_one _ (by simp [hll0]), List.set_append_right _ _ (by omega), hll0]
    simp
   rw [← hsp] at hY1e
   refine zh0 ?_
   repeat (refine ⟨by omega, ?_⟩)
   refine zl0 ?_
   refine ⟨⟨(j + 1, Y1), hlt, hY1, hYc1, hYk1, hYe, hYl1⟩, by simp; omega, ?_⟩
   refine zq rfl ?_ ?_
   simp -dsimp only [simprocAttr, ↓vpre, zp, zc]
   ·exact Sub.int (by simp)
   exact hY1e.symm
  rw [if_neg hbk, addP, List.getLast?_concat] at hY1e
  simp only [if_neg hbk] at hY1e
  replace hY1e := congrArg Rx.O hY1e
  have harr' : ∀ X, ((Y.O.set id .gone) ++ X)[5]? = some (.cells (partC Y.parts Y.ids)) := fun X => at_left (by rw [List.getElem?_set_ne (by omega)]; exact harr)
  rw [decide_eq_false hbk]
  refine zu0 rfl ?_
  refine zs0 ?_
  simp -dsimp only [simprocAttr, ↓vpre, zp, hvar, harr, harr', hcell, o1, hYk, hpl, List.length_set, Int.toNat_natCast, Nat.mul_one]
  refine ⟨by omega, by omega, by omega, by omega, by omega, trivial, rfl, by omega, orderB_ren [6, 5, B, id] Y.O.length [.rd 0, .pure, .rd 0, .pure, .pure, .rd 1, .pure, .rd 2, .pure, .pure, .pure, .pure, .wr 4 [3], .pure, .wr 5 [1]] (by simp; omega) (by simp; omega) rfl rfl (by kernel_rfl), at_intro ?_⟩
  have hput := splice_one (cs := partC Y.parts Y.ids) (j := n) (.os Y.O.length (l0.length + 1 + 1) 4) (by omega)
  have hset := partC_set (ls := Y.parts) (ids := Y.ids) (v := n) (l0 ++ [r] ++ [⟨n, k, p, p⟩]) Y.O.length (by rw [hY.len1, hY.len2])
  rw [show partV Y.O.length (l0 ++ [r] ++ [⟨n, k, p, p⟩]) = .os Y.O.length (l0.length + 1 + 1) 4 by rw [partV_ne (by simp)]; simp, ← hput] at hset
  rw [← hset] at hY1e
  have htk : (rngC l0 ++ [aI r.val, aI r.blk, aI r.fr, aI r.til]).take ((l0.length + 1) * 4) = rngC l0 ++ [aI r.val, aI r.blk, aI r.fr, aI r.til] := List.take_of_length_le (by simp [hll0]; omega)
  rw [rngC_snoc, rngC_snoc, ← htk] at hY1e
  refine zh0 ?_
  repeat (refine ⟨by omega, ?_⟩)
  refine zl0 ?_
  refine ⟨⟨(j + 1, Y1), hlt, hY1, hYc1, hYk1, hYe, hYl1⟩, by simp; omega, ?_⟩
  refine zq rfl ?_ ?_
  simp -dsimp only [simprocAttr, ↓vpre, zp, zc]
  ·exact Sub.int (by simp)
  exact hY1e.symm
 refine awp_exit ?_
 simp -dsimp only [vend, ne_eq, Nat.reduceEqDiff, reduceCtorEq]
 have hjj : j = ls.length := by simp at h; omega
 subst hjj
 rw [List.drop_length, List.foldl_nil] at hYe
 subst hYe
 skip
 simp -dsimp only [simprocAttr, ↓vpre, zp, zr, Try.results45]
 exact ⟨hY.up, trivial⟩
end Go.Proofs.Ytlclgfgmhnmnaaa
end

section
namespace Go.Proofs.Ytlclgfgmhnmnaaa
open Go.Av
def parDefs (k : Int) (l : List Int) : Defs := l.map fun p => (p, (k, 0))
def insDefs (k : Int) : Int → List Ins → Defs
  | _, [] => []
  | n, i :: r => (i.to, (k, n + 1)) :: insDefs k (n + 1) r
def blkDefs (k : Int) (b : Block) : Defs := parDefs k b.params ++ insDefs k 0 b.ins
def allDefs : Int → List Block → Defs
  | _, [] => []
  | k, b :: r => blkDefs k b ++ allDefs (k + 1) r
theorem defineM_eq {ds : Defs} {v : Int} {p : Int × Int} (h : (defineM ds v p).1 = 0) : (defineM ds v p).2 = ds ++ [(v, p)] := by
  unfold defineM at h ⊢
  split at h
  · simp at h
  rename_i h1
  rw [if_neg h1]
  split at h
  · simp at h
  rename_i h2
  rw [if_neg h2]
theorem paramsM_eq (k : Int) : ∀ (l : List Int) (ds : Defs), (paramsM k ds l).1 = 0 → (paramsM k ds l).2 = ds ++ parDefs k l
  | [], ds, _ => by simp [paramsM, parDefs]
  | p :: r, ds, h => by
    simp only [paramsM] at h ⊢
    split at h
    · rename_i hne
      exact absurd h hne
    rename_i he
    rw [if_neg he, paramsM_eq k r _ h, defineM_eq (by simpa using he)]
    simp [parDefs]
theorem insM_eq (k : Int) : ∀ (l : List Ins) (n : Int) (ds : Defs), (insM k n ds l).1 = 0 → (insM k n ds l).2 = ds ++ insDefs k n l
  | [], n, ds, _ => by simp [insM, insDefs]
  | i :: r, n, ds, h => by
    simp only [insM] at h ⊢
    split at h
    · rename_i hne
      exact absurd h hne
    rename_i he
    split at h
    · rename_i hf
      exact absurd h hf
    rename_i hf
    rw [if_neg he, if_neg hf, insM_eq k r _ _ h, defineM_eq (by simpa using he)]
    simp [insDefs]
theorem blockM_eq {f : Func} {ds : Defs} {k : Int} (h : (blockM f ds k).1 = 0) : (blockM f ds k).2 = ds ++ blkDefs k (blkOf f k) := by
  unfold blockM at h ⊢
  split at h
  · rename_i hne
    exact absurd h hne
  rename_i hp
  split at h
  · rename_i hne
    exact absurd h hne
  rename_i hi
  rw [if_neg hp, if_neg hi]
  simp only
  rw [insM_eq k _ _ _ (by simpa using hi), paramsM_eq k _ _ (by simpa using hp), blkDefs, List.append_assoc]
theorem blocksM_eq {f : Func} : ∀ (n k : Nat) (ds : Defs), k + n = f.blocks.length → (blocksM f n k ds).1 = 0 → (blocksM f n k ds).2 = ds ++ allDefs k (f.blocks.drop k)
  | 0, k, ds, hk, _ => by
    rw [List.drop_of_length_le (by omega)]
    simp [blocksM, allDefs]
  | n + 1, k, ds, hk, h => by
    simp only [blocksM] at h ⊢
    split at h
    · rename_i hne
      exact absurd h hne
    rename_i he
    rw [if_neg he]
    have hb : f.blocks[k]? = some f.blocks[k] := List.getElem?_eq_getElem (by omega)
    have ih := blocksM_eq n (k + 1) (blockM f ds k).2 (by omega) h
    have e : ((k + 1 : Nat) : Int) = (k : Int) + 1 := by omega
    rw [e] at ih
    rw [ih, blockM_eq (by simpa using he), drop_at hb, allDefs, List.append_assoc]
    congr 3
    simp [blkOf, hb]
def dsF (f : Func) : Defs := allDefs 0 f.blocks
theorem FnW.ds {f : Func} (hfit : f.fit) (h : checkFuncM f = 0) : (blocksM f f.blocks.length 0 []).2 = dsF f ∧ DefsW f.blocks.length (dsF f) := by
  have he : (blocksM f f.blocks.length 0 []).1 = 0 := by
    unfold checkFuncM at h
    split at h
    · simp at h
    split at h
    · simp at h
    split at h
    · simp at h
    split at h
    · rename_i h4
      exact absurd h h4
    rename_i h4
    simpa using h4
  have e := blocksM_eq f.blocks.length 0 [] (by omega) he
  rw [List.drop_zero, List.nil_append] at e
  have hw := (blocksM_ok f.blocks.length 0 [] (.nil _) (by omega) (by simp) he).1
  have e' : (blocksM f f.blocks.length 0 []).2 = dsF f := e
  rw [e'] at hw
  exact ⟨e', hw⟩
theorem lookD_mem {ds : Defs} (hn : (ds.map (·.1)).Nodup) {v : Int} {p : Int × Int} : lookD ds v = some p ↔ (v, p) ∈ ds := by
  induction ds with
  | nil => simp [lookD]
  | cons e r ih =>
    obtain ⟨a, q⟩ := e
    simp only [List.map_cons, List.nodup_cons, List.mem_map, not_exists, not_and] at hn
    have ih := ih hn.2
    simp only [lookD, List.mem_cons, Prod.mk.injEq]
    by_cases h : a = v
    · subst h
      rw [if_pos rfl]
      constructor
      · intro h
        simp only [Option.some.injEq] at h
        exact .inl ⟨rfl, h.symm⟩
      rintro (⟨_, h⟩ | h)
      · rw [h]
      exact absurd rfl (hn.1 _ h)
    rw [if_neg h, ih]
    constructor
    · exact .inr
    rintro (⟨h1, _⟩ | h1)
    · exact absurd h1.symm h
    exact h1
theorem mem_insDefs {k : Int} {v : Int} {p : Int × Int} : ∀ (l : List Ins) (n : Int), (v, p) ∈ insDefs k n l ↔ ∃ (j : Nat) (i : Ins), l[j]? = some i ∧ i.to = v ∧ p = (k, n + j + 1)
  | [], n => by simp [insDefs]
  | i :: r, n => by
    simp only [insDefs, List.mem_cons, Prod.mk.injEq]
    rw [mem_insDefs r (n + 1)]
    constructor
    · rintro (⟨h1, h2⟩ | ⟨j, x, h1, h2, h3⟩)
      · exact ⟨0, i, rfl, h1.symm, by simpa using h2⟩
      exact ⟨j + 1, x, h1, h2, by rw [h3]; congr 1; omega⟩
    rintro ⟨j, x, h1, h2, h3⟩
    cases j with
    | zero =>
      simp only [List.getElem?_cons_zero, Option.some.injEq] at h1
      subst h1
      exact .inl ⟨h2.symm, by simpa using h3⟩
    | succ j => exact .inr ⟨j, x, h1, h2, by rw [h3]; congr 1; omega⟩
theorem mem_allDefs {v : Int} {p : Int × Int} : ∀ (l : List Block) (k : Int), (v, p) ∈ allDefs k l ↔ ∃ (j : Nat) (b : Block), l[j]? = some b ∧ (v, p) ∈ blkDefs (k + j) b
  | [], k => by simp [allDefs]
  | b :: r, k => by
    rw [allDefs, List.mem_append, mem_allDefs r (k + 1)]
    constructor
    · rintro (h | ⟨j, x, h1, h2⟩)
      · exact ⟨0, b, rfl, by simpa using h⟩
      exact ⟨j + 1, x, h1, by rw [show k + ((j + 1 : Nat) : Int) = k + 1 + j by omega]; exact h2⟩
    rintro ⟨j, x, h1, h2⟩
    cases j with
    | zero =>
      simp only [List.getElem?_cons_zero, Option.some.injEq] at h1
      subst h1
      exact .inl (by simpa using h2)
    | succ j => exact .inr ⟨j, x, h1, by rw [show k + ((j + 1 : Nat) : Int) = k + 1 + j by omega] at h2; exact h2⟩
def DefAt (f : Func) (v : Int) (p : Int × Int) : Prop := ∃ (k : Nat) (b : Block), f.blocks[k]? = some b ∧ p.1 = k ∧ ((p.2 = 0 ∧ v ∈ b.params) ∨ ∃ (j : Nat) (i : Ins), b.ins[j]? = some i ∧ i.to = v ∧ p.2 = j + 1)
theorem mem_dsF {f : Func} {v : Int} {p : Int × Int} : (v, p) ∈ dsF f ↔ DefAt f v p := by
  obtain ⟨p1, p2⟩ := p
  rw [dsF, mem_allDefs]
  constructor
  · rintro ⟨k, b, h1, h2⟩
    rw [blkDefs, List.mem_append] at h2
    rcases h2 with h2 | h2
    · simp only [parDefs, List.mem_map, Prod.mk.injEq] at h2
      obtain ⟨x, h3, h4, h5, h6⟩ := h2
      subst h4
      exact ⟨k, b, h1, by simp only; omega, .inl ⟨h6.symm, h3⟩⟩
    obtain ⟨j, i, h3, h4, h5⟩ := (mem_insDefs _ _).1 h2
    simp only [Prod.mk.injEq] at h5
    exact ⟨k, b, h1, by simp only; omega, .inr ⟨j, i, h3, h4, by simp only; omega⟩⟩
  rintro ⟨k, b, h1, h2, h3⟩
  simp only at h2 h3
  subst h2
  refine ⟨k, b, h1, ?_⟩
  rw [blkDefs, List.mem_append]
  rcases h3 with ⟨h3, h4⟩ | ⟨j, i, h3, h4, h5⟩
  · subst h3
    exact .inl (by simpa [parDefs] using h4)
  exact .inr ((mem_insDefs _ _).2 ⟨j, i, h3, h4, by subst h5; simp⟩)
theorem insDefs_fst (k : Int) : ∀ (l : List Ins) (n : Int), (insDefs k n l).map (·.1) = l.map Ins.to
  | [], _ => rfl
  | i :: r, n => by rw [insDefs, List.map_cons, insDefs_fst k r, List.map_cons]
theorem allDefs_fst : ∀ (l : List Block) (k : Int), (allDefs k l).map (·.1) = l.flatMap blkVals
  | [], _ => rfl
  | b :: r, k => by
    rw [allDefs, List.map_append, allDefs_fst r, List.flatMap_cons, blkDefs, List.map_append, insDefs_fst, blkVals, parDefs, List.map_map]
    congr 2
    exact List.map_id' _
theorem dsF_fst (f : Func) : (dsF f).map (·.1) = valsF f := allDefs_fst _ _
theorem domE_again {k : Nat} {S : Ds} {e : Edge} (h : (domE k S e).again = false) : domE k S e = S ∧ ((S.at_ e.block.toNat).meet (S.at_ k)).add e.block.toNat = S.at_ e.block.toNat ∧ S.seen.has e.block.toNat = true := by
  unfold domE at h ⊢
  simp only at h ⊢
  split at h
  · cases h
  rename_i hc
  rw [if_neg hc]
  simp only [ne_eq, not_or, Decidable.not_not, Bool.not_eq_false] at hc
  exact ⟨rfl, hc⟩
theorem domF_again {k : Nat} : ∀ (l : List Edge) {S : Ds}, (l.foldl (domE k) S).again = false → l.foldl (domE k) S = S ∧ ∀ e ∈ l, ((S.at_ e.block.toNat).meet (S.at_ k)).add e.block.toNat = S.at_ e.block.toNat ∧ S.seen.has e.block.toNat = true
  | [], S, _ => ⟨rfl, by simp⟩
  | e :: r, S, h => by
    rw [List.foldl_cons] at h
    have ih := domF_again r h
    rw [ih.1] at h
    have h1 := domE_again h
    rw [List.foldl_cons, ih.1, h1.1]
    rw [h1.1] at ih
    refine ⟨rfl, fun x hx => ?_⟩
    rcases List.mem_cons.1 hx with q | q
    · subst q
      exact h1.2
    exact ih.2 x q
theorem domR_again : ∀ (l : List Block) (k : Nat) {S : Ds}, (domR k S l).again = false → domR k S l = S ∧ ∀ (j : Nat) b, l[j]? = some b → S.seen.has (k + j) = true → ∀ e ∈ b.term.to, ((S.at_ e.block.toNat).meet (S.at_ (k + j))).add e.block.toNat = S.at_ e.block.toNat ∧ S.seen.has e.block.toNat = true
  | [], k, S, _ => ⟨rfl, fun j b h => by simp at h⟩
  | b :: r, k, S, h => by
    rw [domR] at h
    have ih := domR_again r (k + 1) h
    rw [ih.1] at h
    have h1 : domB k S b = S ∧ (S.seen.has k = true → ∀ e ∈ b.term.to, ((S.at_ e.block.toNat).meet (S.at_ k)).add e.block.toNat = S.at_ e.block.toNat ∧ S.seen.has e.block.toNat = true) := by
      unfold domB at h ⊢
      split
      · rename_i hs
        exact ⟨rfl, fun q => by rw [hs] at q; cases q⟩
      rename_i hs
      rw [if_neg hs] at h
      have := domF_again _ h
      exact ⟨this.1, fun _ => this.2⟩
    rw [domR, ih.1, h1.1]
    rw [h1.1] at ih
    refine ⟨rfl, fun j x hj hs => ?_⟩
    cases j with
    | zero =>
      simp only [List.getElem?_cons_zero, Option.some.injEq] at hj
      subst hj
      exact h1.2 hs
    | succ j =>
      rw [show k + (j + 1) = k + 1 + j by omega] at hs ⊢
      exact ih.2 j x hj hs
theorem domI_ends {f : Func} (he : ∀ b ∈ f.blocks, ∀ e ∈ b.term.to, 0 ≤ e.block ∧ e.block.toNat < f.blocks.length) : ∀ (n : Nat) {S : Ds}, DsOK f.blocks.length S → (S.again = true → S.weight < n) → (domI f n S).again = false
  | 0, S, _, h => by
    cases hs : S.again with
    | false => exact hs
    | true => exact absurd (h hs) (by omega)
  | n + 1, S, hS, h => by
    simp only [domI]
    split
    · rename_i ha
      have hw := h ha
      have hr := domR_ok f.blocks (k := 0) (S := ⟨S.over, S.seen, false⟩) ⟨hS.few, hS.len, hS.fit, hS.seen, hS.self⟩ he
      have hwS : (⟨S.over, S.seen, false⟩ : Ds).weight = S.weight := rfl
      refine domI_ends he n hr.1 fun q => ?_
      rcases hr.2.2 q with q | q
      · cases q
      omega
    rename_i ha
    simpa using ha
structure Dz (S : Ds) : Prop where
  zero : S.at_ 0 = Bs.none.add 0
  seen : S.seen.has 0 = true
theorem domE_z {n k : Nat} {S : Ds} (h : Dz S) {e : Edge} (h1 : 1 ≤ e.block) (h2 : e.block.toNat < n) (h3 : n ≤ 128) : Dz (domE k S e) := by
  unfold domE
  simp only
  split
  · refine ⟨?_, ?_⟩
    · have := h.zero
      unfold Ds.at_ at this ⊢
      simp only
      rw [List.getElem?_set_ne (by omega)]
      exact this
    simp only
    rw [Bs.has_add _ _ _ (by omega) (by omega), h.seen]
    rfl
  exact h
theorem domF_z {n k : Nat} (h3 : n ≤ 128) : ∀ (l : List Edge) {S : Ds}, Dz S → (∀ e ∈ l, 1 ≤ e.block ∧ e.block.toNat < n) → Dz (l.foldl (domE k) S)
  | [], _, h, _ => h
  | e :: r, S, h, he => domF_z h3 r (domE_z h (he e (by simp)).1 (he e (by simp)).2 h3) fun x hx => he x (by simp [hx])
theorem domR_z {n : Nat} (h3 : n ≤ 128) : ∀ (l : List Block) {k : Nat} {S : Ds}, Dz S → (∀ b ∈ l, ∀ e ∈ b.term.to, 1 ≤ e.block ∧ e.block.toNat < n) → Dz (domR k S l)
  | [], _, _, h, _ => h
  | b :: r, k, S, h, he => by
    refine domR_z h3 r (k := k + 1) ?_ fun x hx => he x (by simp [hx])
    unfold domB
    split
    · exact h
    exact domF_z h3 _ h (he b (by simp))
theorem domI_z {f : Func} (h3 : f.blocks.length ≤ 128) (he : ∀ b ∈ f.blocks, ∀ e ∈ b.term.to, 1 ≤ e.block ∧ e.block.toNat < f.blocks.length) : ∀ (n : Nat) {S : Ds}, Dz S → Dz (domI f n S)
  | 0, _, h => h
  | n + 1, S, h => by
    simp only [domI]
    split
    · exact domI_z h3 he n (domR_z h3 _ (S := ⟨S.over, S.seen, false⟩) ⟨h.zero, h.seen⟩ he)
    exact h
theorem domI_last {f : Func} : ∀ (n : Nat) {S : Ds}, S.again = true → (domI f n S).again = false → ∃ T : Ds, domI f n S = domR 0 T f.blocks
  | 0, S, h1, h2 => by
    rw [domI, h1] at h2
    cases h2
  | n + 1, S, h1, h2 => by
    simp only [domI, h1, if_true] at h2 ⊢
    cases hr : (domR 0 ⟨S.over, S.seen, false⟩ f.blocks).again with
    | false => exact ⟨_, domI_done hr n⟩
    | true => exact domI_last n hr h2
def overF (f : Func) (k : Nat) : Bs := (domM f).1[k]?.getD .none
def seenF (f : Func) (k : Nat) : Bool := (domM f).2.has k
structure DomW (f : Func) : Prop where
  seen : seenF f 0 = true
  zero : ∀ j, j < 128 → ((overF f 0).has j = true ↔ j = 0)
  self : ∀ k, k < f.blocks.length → (overF f k).has k = true
  step : ∀ (k : Nat) b, f.blocks[k]? = some b → seenF f k = true → ∀ e ∈ b.term.to, seenF f e.block.toNat = true ∧ ∀ j, j < 128 → ((overF f e.block.toNat).has j = true → j = e.block.toNat ∨ (overF f k).has j = true)
theorem domM_w {f : Func} (h0 : f.blocks ≠ []) (h1 : f.blocks.length ≤ 128) (he : ∀ b ∈ f.blocks, ∀ e ∈ b.term.to, 1 ≤ e.block ∧ e.block < f.blocks.length) : DomW f := by
  have he' : ∀ b ∈ f.blocks, ∀ e ∈ b.term.to, 0 ≤ e.block ∧ e.block.toNat < f.blocks.length := fun b hb e hx => by have := he b hb e hx; omega
  have he1 : ∀ b ∈ f.blocks, ∀ e ∈ b.term.to, 1 ≤ e.block ∧ e.block.toNat < f.blocks.length := fun b hb e hx => by have := he b hb e hx; omega
  have hl := List.length_pos_iff.2 h0
  have hS := domS_ok h0 h1
  have hw0 := weight_le hS
  have hz0 : Dz (domS f) := ⟨by unfold Ds.at_ domS; simp only; rw [List.getElem?_set_self (by simpa using hl)]; rfl, by show (Bs.none.add 0).has 0 = true; decide⟩
  have hend := domI_ends he' 20000 hS (fun _ => by omega)
  have hz := domI_z h1 he1 20000 hz0
  obtain ⟨T, hT⟩ := domI_last 20000 rfl hend
  have hok : DsOK f.blocks.length (domI f 20000 (domS f)) := by
    have key : ∀ (n : Nat) (S : Ds), DsOK f.blocks.length S → DsOK f.blocks.length (domI f n S) := fun n => by
      induction n with
      | zero => exact fun S h => h
      | succ n ih =>
        intro S h
        simp only [domI]
        split
        · exact ih _ (domR_ok f.blocks (k := 0) (S := ⟨S.over, S.seen, false⟩) ⟨h.few, h.len, h.fit, h.seen, h.self⟩ he').1
        exact h
    exact key _ _ hS
  have hTa := domR_again f.blocks 0 (S := T) (by rw [← hT]; exact hend)
  have hfix := hTa.2
  rw [show T = domI f 20000 (domS f) from hTa.1.symm.trans hT.symm] at hfix
  have hov : ∀ k, overF f k = (domI f 20000 (domS f)).at_ k := fun k => rfl
  have hse : ∀ k, seenF f k = (domI f 20000 (domS f)).seen.has k := fun k => rfl
  generalize domI f 20000 (domS f) = S at *
  refine ⟨by rw [hse, hz.seen], fun j hj => ?_, fun k hk => by rw [hov]; exact hok.self k hk, fun k b hb hs e hx => ?_⟩
  · rw [hov, hz.zero, Bs.has_add _ _ _ (by omega) hj]
    have : Bs.none.has j = false := by unfold Bs.has Bs.none; simp
    simp [this]
  have hb1 := he1 b (List.mem_of_getElem? hb) e hx
  obtain ⟨q1, q2⟩ := hfix k b hb (by rw [Nat.zero_add, ← hse]; exact hs) e hx
  rw [Nat.zero_add] at q1
  refine ⟨by rw [hse]; exact q2, fun j hj q => ?_⟩
  rw [hov, ← q1, Bs.has_add _ _ _ (by omega) hj, Bs.has_meet] at q
  rw [hov]
  simp only [Bool.or_eq_true, Bool.and_eq_true, decide_eq_true_eq] at q
  rcases q with q | q
  · exact .inr q.2
  exact .inl q
theorem lookD_some {ds : Defs} {v : Int} {p : Int × Int} (h : lookD ds v = some p) : (v, p) ∈ ds := by
  induction ds with
  | nil => cases h
  | cons e r ih =>
    obtain ⟨a, q⟩ := e
    simp only [lookD] at h
    split at h
    · rename_i e
      simp only [Option.some.injEq] at h
      rw [e, h]
      simp
    exact List.mem_cons.2 (.inr (ih h))
def Fine (f : Func) (k : Nat) (n : Int) (v : Int) : Prop := ∃ p, DefAt f v p ∧ (seenF f k = true → (p.1 = k ∧ p.2 ≤ n) ∨ (p.1 ≠ k ∧ (overF f k).has p.1.toNat = true))
theorem fine_of {f : Func} {k : Nat} {n v : Int} (h : fineM (dsF f) (domM f).1 (domM f).2 k n v = true) : Fine f k n v := by
  unfold fineM at h
  cases hl : lookD (dsF f) v with
  | none => rw [hl] at h; cases h
  | some p =>
    rw [hl] at h
    refine ⟨p, mem_dsF.1 (lookD_some hl), fun hs => ?_⟩
    have hs' : (domM f).2.has k = true := hs
    simp only [hs', Bool.not_true, Bool.or_false, Bool.or_eq_true, Bool.and_eq_true, decide_eq_true_eq, Bool.not_eq_true', decide_eq_false_iff_not] at h
    exact h
structure UsesW (f : Func) : Prop where
  ins : ∀ (k : Nat) b, f.blocks[k]? = some b → ∀ (n : Nat) i, b.ins[n]? = some i → ∀ a ∈ i.args, Fine f k n a
  arg : ∀ (k : Nat) b, f.blocks[k]? = some b → b.term.kind ≠ 1 → b.term.kind ≠ 4 → Fine f k b.ins.length b.term.arg
  args : ∀ (k : Nat) b, f.blocks[k]? = some b → ∀ e ∈ b.term.to, ∀ a ∈ e.args, Fine f k b.ins.length a
theorem insUses_all {ds : Defs} {over : List Bs} {seen : Bs} {k : Nat} : ∀ (l : List Ins) (n : Nat), insUses ds over seen k n l = true → ∀ (j : Nat) i, l[j]? = some i → ∀ a ∈ i.args, fineM ds over seen k ((n + j : Nat) : Int) a = true
  | [], _, _ => fun j i h => by simp at h
  | x :: r, n, h => fun j i hj a ha => by
    simp only [insUses, Bool.and_eq_true, List.all_eq_true] at h
    cases j with
    | zero =>
      simp only [List.getElem?_cons_zero, Option.some.injEq] at hj
      subst hj
      exact h.1 a ha
    | succ j =>
      rw [show n + (j + 1) = n + 1 + j by omega]
      exact insUses_all r (n + 1) h.2 j i hj a ha
theorem allUses_all {ds : Defs} {over : List Bs} {seen : Bs} : ∀ (l : List Block) (k : Nat), allUses ds over seen k l = true → ∀ (j : Nat) b, l[j]? = some b → blkUses ds over seen (k + j) b = true
  | [], _, _ => fun j i h => by simp at h
  | x :: r, k, h => fun j b hj => by
    simp only [allUses, Bool.and_eq_true] at h
    cases j with
    | zero =>
      simp only [List.getElem?_cons_zero, Option.some.injEq] at hj
      subst hj
      exact h.1
    | succ j =>
      rw [show k + (j + 1) = k + 1 + j by omega]
      exact allUses_all r (k + 1) h.2 j b hj
theorem uses_w {f : Func} (h : usesM f (dsF f) = 0) : UsesW f := by
  have ha : allUses (dsF f) (domM f).1 (domM f).2 0 f.blocks = true := by
    unfold usesM at h
    split at h
    · assumption
    simp at h
  have hb : ∀ (k : Nat) b, f.blocks[k]? = some b → blkUses (dsF f) (domM f).1 (domM f).2 k b = true := fun k b hk => by
    have := allUses_all f.blocks 0 ha k b hk
    rwa [Nat.zero_add] at this
  have hu : ∀ (k : Nat) b, f.blocks[k]? = some b → usedM b.term (fineM (dsF f) (domM f).1 (domM f).2 k b.ins.length) = true := fun k b hk => by
    have := hb k b hk
    simp only [blkUses, Bool.and_eq_true] at this
    exact this.2
  refine ⟨fun k b hk n i hn a ha => ?_, fun k b hk h1 h4 => ?_, fun k b hk e he a ha => ?_⟩
  · have := hb k b hk
    simp only [blkUses, Bool.and_eq_true] at this
    have := insUses_all b.ins 0 this.1 n i hn a ha
    rw [Nat.zero_add] at this
    exact fine_of this
  · have := hu k b hk
    simp only [usedM, Bool.and_eq_true, Bool.or_eq_true, decide_eq_true_eq, h1, h4, false_or] at this
    exact fine_of this.1
  have := hu k b hk
  simp only [usedM, Bool.and_eq_true, List.all_eq_true] at this
  exact fine_of (this.2 e he a ha)
structure FnV (f : Func) : Prop where
  fn : FnW f
  dom : DomW f
  uses : UsesW f
  vals : ValsW f
  nodup : (valsF f).Nodup
  edges : ∀ b ∈ f.blocks, ∀ e ∈ b.term.to, 1 ≤ e.block ∧ e.block < f.blocks.length
theorem checkFunc_v {f : Func} (hfit : f.fit) (h : checkFuncM f = 0) : FnV f := by
  have hw := checkFunc_ok hfit h
  obtain ⟨hd, hdw⟩ := FnW.ds hfit h
  have he : ∀ b ∈ f.blocks, ∀ e ∈ b.term.to, 1 ≤ e.block ∧ e.block < f.blocks.length := fun b hb e hx => by
    have := ((end_ok (hw.blk b hb).fin).edges e hx).1
    omega
  refine ⟨hw, domM_w hw.ne hw.few he, uses_w (by rw [← hd]; exact hw.uses), fun v hv => ?_, ?_, he⟩
  · rw [← dsF_fst] at hv
    obtain ⟨e, h1, rfl⟩ := List.mem_map.1 hv
    exact hdw.range e h1
  rw [← dsF_fst]
  exact hdw.nodup
theorem DefAt.val {f : Func} {v : Int} {p : Int × Int} (h : DefAt f v p) : v ∈ valsF f := by
  rw [← dsF_fst]
  exact List.mem_map.2 ⟨_, mem_dsF.2 h, rfl⟩
theorem FnV.below {f : Func} (hv : FnV f) {v : Int} (h : v ∈ valsF f) : 0 ≤ v ∧ v < freshM f ∧ freshM f ≤ 4096 :=
  ⟨(hv.vals v h).1, (foldNext_ge (valsF f) 0).2 v h, foldNext_le _ _ (by omega) fun w hw => (hv.vals w hw).2⟩
theorem freshM_pos (f : Func) : 0 ≤ freshM f := (foldNext_ge (valsF f) 0).1
end Go.Proofs.Ytlclgfgmhnmnaaa
end

section
set_option linter.unusedSimpArgs false
set_option maxRecDepth 100000
set_option maxHeartbeats 4000000
namespace Go.Proofs.Ytlclgfgmhnmnaaa
open Go.Av
def tabN : Tab := fun t => if t = 38 then some ⟨1, 24, [.v (.slice none 0 0)], .slice 4⟩ else tab t
theorem tok_105n : TOK Try.prog 38 ⟨1, 24, [.v (.slice none 0 0)], .slice 4⟩ := by
 obtain ⟨⟨i, z, h1, h2, h3, h4, h5, h6, h7, h8, h9⟩, hd⟩ := tok_of_B tokB_38
 have hz : z = .slice none 0 0 := by
  have : (Try.prog.info? 38).bind (fun i => i.zero) = some (.slice none 0 0) := by kernel_rfl
  rw [h1] at this
  simpa [h4] using this
 subst hz
 refine ⟨⟨i, _, h1, h2, h3, h4, h5, h6, h7, fun g j c u hc hu => ?_, fun c hc => ?_⟩, hd⟩
 ·cases j with
  | zero =>
   simp only [List.getElem?_cons_zero, Option.some.injEq] at hc
   subst hc
   have : u = .slice none 0 0 := by simpa [Value.cells] using hu.symm
   subst this
   exact .v trivial
  | succ j => simp at hc
 simp only [List.mem_cons, List.not_mem_nil, or_false] at hc
 subst hc
 trivial
theorem hTN : TabOK Try.prog tabN := fun t ti h => by
 unfold tabN at h
 split at h
 ·rename_i e
  subst e
  cases h
  exact tok_105n
 exact hT t ti h
theorem tabN_38 : tabN 38 = some ⟨1, 24, [.v (.slice none 0 0)], .slice 4⟩ := rfl
theorem tabN_89 : tabN 89 = tab 89 := rfl
theorem tabN_94 : tabN 94 = tab 94 := rfl
theorem tabN_24 : tabN 24 = tab 24 := rfl
theorem tabN_22 : tabN 22 = tab 22 := rfl
theorem tabN_3 : tabN 3 = tab 3 := rfl
theorem FnV.inr {f : Func} (hv : FnV f) {v : Int} (h : v ∈ valsF f) : InR (manyM f) v := by
 have := hv.below h
 unfold InR manyM
 omega
theorem FnV.inUse {f : Func} (hv : FnV f) {k : Nat} {n v : Int} (h : Fine f k n v) : InR (manyM f) v := by
 obtain ⟨p, hp, _⟩ := h
 exact hv.inr hp.val
theorem FnV.many {f : Func} (_ : FnV f) (hv : freshM f ≤ 4096) : 0 < manyM f ∧ manyM f ≤ 4097 := by
 have := freshM_pos f
 unfold manyM
 omega
theorem FnV.fresh {f : Func} (hv : FnV f) : freshM f ≤ 4096 := foldNext_le _ _ (by omega) fun w hw => (hv.vals w hw).2
theorem FnV.ins {f : Func} (hv : FnV f) {k : Nat} {b : Block} (hb : f.blocks[k]? = some b) : ∀ i ∈ b.ins, InR (manyM f) i.to ∧ ∀ a ∈ i.args, InR (manyM f) a := fun i hi => by
 refine ⟨hv.inr (List.mem_flatMap.2 ⟨b, List.mem_of_getElem? hb, ?_⟩), fun a ha => ?_⟩
 ·simp only [blkVals, List.mem_append, List.mem_map]
  exact .inr ⟨i, hi, rfl⟩
 obtain ⟨n, hn⟩ := List.getElem?_of_mem hi
 exact hv.inUse (hv.uses.ins k b hb n i hn a ha)
theorem FnV.term {f : Func} (hv : FnV f) {k : Nat} {b : Block} (hb : f.blocks[k]? = some b) : (∀ e ∈ b.term.to, (0 ≤ e.block ∧ e.block.toNat < f.blocks.length) ∧ ∀ a ∈ e.args, InR (manyM f) a) ∧ (usesArg b.term = true → InR (manyM f) b.term.arg) := by
 refine ⟨fun e he => ⟨?_, fun a ha => hv.inUse (hv.uses.args k b hb e he a ha)⟩, fun hu => ?_⟩
 ·have := hv.edges b (List.mem_of_getElem? hb) e he
  omega
 simp only [usesArg, Bool.and_eq_true, Bool.not_eq_true', decide_eq_false_iff_not] at hu
 exact hv.inUse (hv.uses.arg k b hb hu.1 hu.2)
def lvO (f : Func) (S : Lv) : List AObj := [.gone, .gone, .cells (S.behind.map eH), .cells (lifeC f (manyM f) 2 f.blocks.length), .cells (S.first.map eF)]
theorem lvO_upto (f : Func) (S : Lv) : ∀ o ∈ lvO f S, o.upto 5 := by
 intro o ho
 simp only [lvO, List.mem_cons, List.not_mem_nil, or_false] at ho
 rcases ho with rfl | rfl | rfl | rfl | rfl
 ·trivial
 ·trivial
 ·exact eH_upto _ _
 ·simp [AObj.upto, lifeC, uptoL, AVal.upto, Block.map_upto]
 exact eF_upto _ _
theorem nilsF_flat (n : Nat) : (List.replicate n [AVal.lst 1 [] .ex]).flatten = (List.replicate n []).map eF := by
 rw [nils_flat, List.map_replicate]
 rfl
theorem nilsH_flat (n : Nat) : (List.replicate n [AVal.v (.slice none 0 0)]).flatten = (List.replicate n []).map eH := by
 rw [List.map_replicate]
 induction n with
 | zero => rfl
 | succ n ih => rw [List.replicate_succ, List.flatten_cons, ih, List.replicate_succ]; rfl
theorem eH_put {ls : List (List Bool)} {k : Nat} (h : k < ls.length) {s : List Bool} (hs : s ≠ []) : splice (ls.map eH) k [.lst 1 (s.map eB) .nn] = (ls.set k s).map eH := by
 rw [splice_one _ (by simpa using h), List.map_set, eH_ne hs]
theorem eF_put {ls : List (List Bool)} {k : Nat} (h : k < ls.length) {s : List Bool} (hs : s ≠ []) : splice (ls.map eF) k [.lst 1 (s.map eB) .nn] = (ls.set k s).map eF := by
 rw [splice_one _ (by simpa using h), List.map_set, eF_ne hs]
theorem build_spec (f : Func) (hfit : f.fit) (hc : checkFuncM f = 0) :
  ECall Try.prog 43 [.gone] [f.enc] (fun r O' => r = .tup [.mp 3 0, .ms 4 0 f.blocks.length f.blocks.length, aI 0] ∧ O' = lvO f (liveM f)) := by
 have hck := checkFunc_spec f hfit
 rw [hc] at hck
 have hv := checkFunc_v hfit hc
 have hfr := fresh_spec f hv.vals hfit.2.1 (fun b hb => ⟨(hfit.2.2 b hb).2.1, (hfit.2.2 b hb).2.2.1⟩)
 have hn : f.blocks.length ≤ 128 := hv.fn.few
 have hf0 := freshM_pos f
 have hf1 := hv.fresh
 have hmy := hv.many hf1
 obtain ⟨R, hR⟩ : ∃ R, R = liveM f := ⟨_, rfl⟩
 rw [← hR]
 unfold liveM at hR
 obtain ⟨N, hN⟩ : ∃ N, N = f.blocks.length := ⟨_, rfl⟩
 have hM : freshM f + 1 = (manyM f : Nat) := by unfold manyM; omega
 have hkk : [AObj.gone].length ≤ 5 := by simp
 refine ecall_of hT true (5) Try.func43 rfl (by kernel_rfl) (by simp [Try.ntmps43]) (by assumption) ?_
 show AWP Try.prog _ _ _ ⟨77, _, _⟩
 dsimp only [Tmp, TypeId, slotsOf]
 refine zh1 (za0 ?_)
 refine awp_freeze1 1 1 (.ip none [aI f.name, eBlocks f.blocks]) rfl (by simp [AObj.isSpare]) trivial rfl ?_ ?_
 rotate_left
 simp -dsimp only [simprocAttr, ↓vpre, zp]
 ·refine zh2 ?_
  refine .inl ⟨_, hck, by simp only [uptoL, AVal.upto, zt, zu, aI_upto, eB_upto], later_intro ?_⟩
  simp -dsimp only [simprocAttr, ↓vpre, zp]
  refine za0 ?_
  refine zh1 (za0 ?_)
  apply zk0 rfl <;> intro h
  ·cases h
  refine zb0 ?_
  refine awp_seq (awp_region_any ⟨false, false⟩ hTN hm ?_)
  simp -dsimp only [simprocAttr, ↓vpre, zp, tabN_38, tabN_89, tabN_94, tabN_24, tabN_22, tabN_3]
  refine .inl ⟨_, hfr, by simp only [uptoL, AVal.upto, zt, zu, aI_upto, eB_upto], later_intro ?_⟩
  simp -dsimp only [simprocAttr, ↓vpre, zp, tabN_38, tabN_89, tabN_94, tabN_24, tabN_22, tabN_3, nilsH_flat, hM, ← hN]
  refine ⟨by omega, by omega, by omega, by omega, ?_⟩
  refine ⟨ob (by kernel_rfl), ?_⟩
  refine za0 ?_
  refine zg1 ?_
  simp -dsimp only [simprocAttr, ↓vpre, zp, nilsF_flat, ← hN]
  refine ⟨by omega, by omega, ?_⟩
  refine za0 ?_
  refine zh2 (za0 ?_)
  have hw0 := lvS_weight (n := N) (many := manyM f) (by omega) hmy.2
  have hS0 := lvS_ok f (manyM f)
  rw [← hN] at hS0 hR
  have hfO : ∀ S, LvOK f (manyM f) S → ∀ o ∈ lvO f S, o.upto 5 := fun S _ => lvO_upto f S
  refine awp_block (awp_loop (ι := {x : Lv × Nat // LvOK f (manyM f) x.1 ∧ R = lvI f (manyM f) x.2 x.1 ∧ (x.1.again = true → x.1.weight (manyM f) < x.2)}) (fun x => ⟨77, [(1, .ip none [aI f.name, eBlocks f.blocks]), (6, .mp 3 0), (7, .ms 4 0 N N), (8, .v (.bool x.1.1.again))], [.gone, .gone, .cells (x.1.1.behind.map eH), .cells [aI f.name, eBlocks f.blocks, aI (manyM f), .ms 2 0 N N], .cells (x.1.1.first.map eF)]⟩) (fun x => x.1.1.weight (manyM f) + if x.1.1.again then 1 else 0) ⟨(lvS N, 700000), hS0, hR, fun _ => by simp only; omega⟩ ?_ ?_)
  ·refine zq rfl ?_ ?_
   simp -dsimp only [simprocAttr, ↓vpre, zp, zc]
   all_goals first | rfl | exact Sub.refl _
  rintro ⟨⟨S, q⟩, hSo, hRq, hwq⟩
  simp only at hSo hRq hwq
  refine zh2 (za0 ?_)
  apply zk0 rfl <;> intro h
  ·refine zb0 ?_
   have hag : S.again = true := h
   have hwq := hwq hag
   obtain ⟨q, rfl⟩ : ∃ q', q = q' + 1 := ⟨q - 1, by omega⟩
   have hRq' : R = lvI f (manyM f) q (lvR f (manyM f) N ⟨S.first, S.behind, false⟩) := by
    rw [hRq]
    simp [lvI, hag, hN]
   have hSf : LvOK f (manyM f) ⟨S.first, S.behind, false⟩ := ⟨hSo.len1, hSo.len2, hSo.sz1, hSo.sz2, hSo.low, hSo.nil⟩
   have hro := lvR_ok hmy.1 N (S := ⟨S.first, S.behind, false⟩) (by omega) hSf
   obtain ⟨S1, hS1⟩ : ∃ S1, S1 = lvR f (manyM f) N ⟨S.first, S.behind, false⟩ := ⟨_, rfl⟩
   rw [← hS1] at hRq' hro
   obtain ⟨ro1, ro2, ro3⟩ := hro
   have hwS : (⟨S.first, S.behind, false⟩ : Lv).weight (manyM f) = S.weight (manyM f) := rfl
   rw [hwS] at ro2 ro3
   refine awp_block ?_
   refine zh1 (za0 ?_)
   refine zg1 ?_
   simp -dsimp only [simprocAttr, ↓vpre, zp, ← hN]
   repeat (refine ⟨by omega, ?_⟩)
   refine za0 ?_
   refine awp_block (awp_loop (ι := {y : Nat × Lv // y.1 ≤ N ∧ LvOK f (manyM f) y.2 ∧ S1 = lvR f (manyM f) y.1 y.2}) (fun y => ⟨77, [(1, .ip none [aI f.name, eBlocks f.blocks]), (6, .mp 3 0), (7, .ms 4 0 N N), (8, .v (.bool y.1.2.again)), (9, aI ((y.1.1 : Int) - 1))], [.gone, .gone, .cells (y.1.2.behind.map eH), .cells [aI f.name, eBlocks f.blocks, aI (manyM f), .ms 2 0 N N], .cells (y.1.2.first.map eF)]⟩) (fun y => y.1.1) ⟨(N, ⟨S.first, S.behind, false⟩), by simp, hSf, hS1⟩ ?_ ?_)
   ·refine zq rfl ?_ ?_
    simp -dsimp only [simprocAttr, ↓vpre, zp, zc]
    all_goals rfl
   rintro ⟨⟨k, T⟩, hk, hTo, hTe⟩
   simp only at hk hTo hTe
   refine zh2 (za0 ?_)
   apply zk0 rfl <;> intro h
   ·refine zb0 ?_
    obtain ⟨k, rfl⟩ : ∃ k', k = k' + 1 := ⟨k - 1, by have := of_decide_eq_true h; omega⟩
    have hk1 : ((k + 1 : Nat) : Int) - 1 = (k : Nat) := by omega
    obtain ⟨b, hb⟩ : ∃ b, f.blocks[k]? = some b := ⟨f.blocks[k]'(by omega), List.getElem?_eq_getElem _⟩
    have hblk : blkOf f (k : Int) = b := by simp [blkOf, hb]
    simp only [lvR] at hTe
    have hlast := last_spec (O := [.gone, .gone, .cells (T.behind.map eH), .cells (lifeC f (manyM f) 2 N), .cells (T.first.map eF)]) (by
     have := lvO_upto f T
     unfold lvO at this
     rw [← hN] at this
     exact this) (A := 3) (B := 2) (C := 4) (f := f) (many := manyM f) (N := N) (first := T.first) rfl rfl (by rw [hTo.len1, hN]) hN.symm (by omega) hmy.1 (fun l hl => (by
     rcases hTo.sz1 l hl with r | r
     ·simp [r]
     omega)) hb (by rw [hN]; exact (hv.term hb).1) (hv.term hb).2
    obtain ⟨next, hnx⟩ : ∃ n, n = lastM f (manyM f) T.first b.term := ⟨_, rfl⟩
    have hnl : next.length = manyM f := by rw [hnx, lastM_len]
    have hn0 : next ≠ [] := fun e => by rw [e] at hnl; simp at hnl; omega
    rw [← hnx] at hlast
    obtain ⟨old, ho⟩ : ∃ old, T.behind[k]? = some old := ⟨T.behind[k]'(by rw [hTo.len2]; omega), List.getElem?_eq_getElem _⟩
    have hsl := lvStep_ok hmy.1 hTo (k := k) (by omega)
    have hstep : lvStep f (manyM f) k T = if old ≠ [] ∧ next = old then T else ⟨T.first.set k (backM b.ins next), T.behind.set k next, true⟩ := by
     unfold lvStep
     rw [ho, Option.getD_some, hblk, ← hnx]
    have hbk : k < T.behind.length := by rw [hTo.len2]; omega
    have hfk : k < T.first.length := by rw [hTo.len1]; omega
    have hbl2 := hTo.len2
    have hfl2 := hTo.len1
    refine awp_seq (awp_block ?_)
    refine zg1 ?_
    simp -dsimp only [simprocAttr, ↓vpre, zp, hk1]
    refine .inr (.inr ⟨_, hlast, later_intro (zj ?_)⟩)
    refine za0 ?_
    by_cases hpq : old ≠ [] ∧ next = old
    ·rw [if_pos hpq] at hstep
     rw [hstep] at hTe
     have hog : (T.behind.map eH)[k]? = some (.lst 1 (old.map eB) .nn) := by rw [List.getElem?_map, ho, Option.map_some, eH_ne hpq.1]
     have heq := equalB_spec next old
     rw [decide_eq_true hpq.2] at heq
     refine zg2 ?_
     simp -dsimp only [simprocAttr, ↓vpre, zp, hk1, hog, Nat.mul_one]
     repeat (refine ⟨by omega, ?_⟩)
     refine .inl ⟨_, heq, by simp only [uptoL, AVal.upto, zt, zu, aI_upto, eB_upto], later_intro ?_⟩
     simp -dsimp only [simprocAttr, ↓vpre, zp]
     refine za0 ?_
     refine zw0 rfl ?_
     refine awp_exit ?_
     simp -dsimp only [vend, ne_eq, Nat.reduceEqDiff, reduceCtorEq]
     refine zg0 ?_
     simp -dsimp only [simprocAttr, ↓vpre, zp, hk1]
     repeat (refine ⟨by omega, ?_⟩)
     refine zl0 ?_
     refine ⟨⟨(k, T), by simp only; omega, hTo, hTe⟩, by simp, ?_⟩
     refine zq rfl ?_ ?_
     simp -dsimp only [simprocAttr, ↓vpre, zp, zc]
     all_goals rfl
    rw [if_neg hpq] at hstep
    rw [hstep] at hTe hsl
    refine awp_mid (⟨77, [(1, .ip none [aI f.name, eBlocks f.blocks]), (6, .mp 3 0), (7, .ms 4 0 N N), (9, aI (k : Nat)), (10, .lst 1 (next.map eB) .nn)], [.gone, .gone, .cells (T.behind.map eH), .cells [aI f.name, eBlocks f.blocks, aI (manyM f), .ms 2 0 N N], .cells (T.first.map eF)]⟩) ?_ ?_
    ·by_cases hone : old = []
     ·have hog : (T.behind.map eH)[k]? = some (.v (.slice none 0 0)) := by rw [List.getElem?_map, ho, hone]; rfl
      refine zg1 ?_
      simp -dsimp only [simprocAttr, ↓vpre, zp, hk1, hog, Nat.mul_one]
      repeat (refine ⟨by omega, ?_⟩)
      refine za0 ?_
      refine zu0 rfl ?_
      refine awp_skip ?_
      show Covers _ _
      refine zq rfl ?_ ?_
      simp -dsimp only [simprocAttr, ↓vpre, zp, zc, hk1]
      all_goals rfl
     have hog : (T.behind.map eH)[k]? = some (.lst 1 (old.map eB) .nn) := by rw [List.getElem?_map, ho, Option.map_some, eH_ne hone]
     have heq := equalB_spec next old
     rw [decide_eq_false (fun e => hpq ⟨hone, e⟩)] at heq
     refine zg1 ?_
     simp -dsimp only [simprocAttr, ↓vpre, zp, hk1, hog, Nat.mul_one]
     repeat (refine ⟨by omega, ?_⟩)
     refine .inl ⟨_, heq, by simp only [uptoL, AVal.upto, zt, zu, aI_upto, eB_upto], later_intro ?_⟩
     simp -dsimp only [simprocAttr, ↓vpre, zp]
     refine za0 ?_
     refine zu0 rfl ?_
     refine awp_skip ?_
     show Covers _ _
     refine zq rfl ?_ ?_
     simp -dsimp only [simprocAttr, ↓vpre, zp, zc, hk1]
     all_goals rfl
    skip
    have hpH := eH_put hbk hn0
    have hupB : ∀ o ∈ ([.gone, .gone, .cells ((T.behind.set k next).map eH), .cells (lifeC f (manyM f) 2 N), .cells (T.first.map eF)] : List AObj), o.upto 5 := by
     have := lvO_upto f ⟨T.first, T.behind.set k next, true⟩
     unfold lvO at this
     rw [← hN] at this
     exact this
    have hKK : ∀ s : List Bool, ∀ o ∈ ((([.gone, .gone, .cells ((T.behind.set k next).map eH), .cells (lifeC f (manyM f) 2 N), .cells (T.first.map eF)] : List AObj) ++ [AObj.cells (s.map eB)]).set 5 .gone).take 5, o.upto 5 := fun s o ho => hupB o ho
    have hback := back_spec (X := Unit) (enc := fun _ s => [.gone, .gone, .cells ((T.behind.set k next).map eH), .cells (lifeC f (manyM f) 2 N), .cells (T.first.map eF)] ++ [.cells (s.map eB)]) (Inv := fun _ => True) (step := fun x _ _ => x) (x0 := ()) (O0 := [.gone, .gone, .cells ((T.behind.set k next).map eH), .cells (lifeC f (manyM f) 2 N), .cells (T.first.map eF)]) (K := 5) trivial hupB (fun _ => rfl) (fun _ _ _ => rfl) (fun _ _ _ _ => rfl)
     (fun _ s _ => uptoO_snoc (n := 6) (x := .cells (s.map eB)) (fun o ho => AObj.upto_mono (by omega) (hupB o ho)) (eB_upto 6 s)) (f := f) (many := manyM f) (N := N) (A := 3) (B := 2) (behind := T.behind.set k next) rfl rfl (by simp; omega) (by omega) hb (s0 := next) (by rw [List.getElem?_set_self hbk]) hn0 hnl ((hfit.2.2 b (List.mem_of_getElem? hb)).2.2.1) (hv.ins hb) (.v .nilFunc) (fun _ _ _ _ _ _ => trivial) (.inl ⟨rfl, fun _ _ _ => rfl⟩) (by simp) (fun _ s _ _ => ⟨by simp, hKK s⟩)
    have hbm0 : backM b.ins next ≠ [] := fun e => by
     have := backM_len b.ins next
     rw [e] at this
     simp at this
     omega
    have hpF := eF_put hfk hbm0
    refine zg1 ?_
    simp -dsimp only [simprocAttr, ↓vpre, zp, hk1, hpH, Nat.mul_one]
    refine ⟨by omega, by omega, ?_⟩
    refine za0 ?_
    refine zh0 ?_
    refine .inr (.inr ⟨_, hback, later_intro ?_⟩)
    simp -dsimp only [simprocAttr, ↓vpre, zp, hpF, Nat.mul_one]
    refine ⟨by omega, by omega, ?_⟩
    refine za0 ?_
    refine zh0 ?_
    repeat (refine ⟨by omega, ?_⟩)
    refine zl0 ?_
    refine ⟨⟨(k, _), by simp only; omega, hsl.1, hTe⟩, by simp, ?_⟩
    refine zq rfl ?_ ?_
    simp -dsimp only [simprocAttr, ↓vpre, zp, zc]
    all_goals rfl
   refine awp_exit ?_
   simp -dsimp only [vend, ne_eq, Nat.reduceEqDiff, reduceCtorEq]
   have hk0 : k = 0 := by have := of_decide_eq_false h; omega
   subst hk0
   simp only [lvR] at hTe
   subst hTe
   have hlt2 : S1.again = true → S1.weight (manyM f) < q := fun hh => by
    rcases ro3 hh with r | r
    ·cases r
    omega
   refine ⟨⟨(S1, q), ro1, hRq', hlt2⟩, ?_, ?_⟩
   ·simp only [hag, if_true]
    cases hs1 : S1.again
    ·simp; omega
    rcases ro3 hs1 with r | r
    ·cases r
    simp; omega
   refine zq rfl ?_ ?_
   simp -dsimp only [simprocAttr, ↓vpre, zp, zc]
   all_goals rfl
  refine awp_exit ?_
  simp -dsimp only [vend, ne_eq, Nat.reduceEqDiff, reduceCtorEq]
  have hag : S.again = false := h
  rw [lvI_done hag] at hRq
  subst hRq
  refine zh1 (za0 ?_)
  refine awp_ret ?_
  simp -dsimp only [simprocAttr, ↓vpre, zp, zr, Try.results43]
  have := lvO_upto f R
  unfold lvO lifeC at this ⊢
  rw [← hN] at this ⊢
  exact ⟨this, ⟨show 3 < 5 by omega, show 4 < 5 by omega, trivial, trivial⟩, rfl, rfl⟩
 exact FSub.mp rfl rfl
end Go.Proofs.Ytlclgfgmhnmnaaa
end

section
namespace Go.Proofs.Ytlclgfgmhnmnaaa
open Go.Av
theorem lvStep_again {f : Func} {many k : Nat} {S : Lv} (h : (lvStep f many k S).again = false) : lvStep f many k S = S ∧ S.behind[k]?.getD [] ≠ [] ∧ lastM f many S.first (blkOf f k).term = S.behind[k]?.getD [] := by
  unfold lvStep at h ⊢
  split at h
  · rename_i hc
    rw [if_pos hc]
    exact ⟨rfl, hc⟩
  cases h
theorem lvR_again {f : Func} {many : Nat} : ∀ (k : Nat) {S : Lv}, (lvR f many k S).again = false → lvR f many k S = S ∧ ∀ j, j < k → S.behind[j]?.getD [] ≠ [] ∧ lastM f many S.first (blkOf f j).term = S.behind[j]?.getD []
  | 0, S, _ => ⟨rfl, fun j hj => absurd hj (by omega)⟩
  | k + 1, S, h => by
    rw [lvR] at h
    have ih := lvR_again k h
    rw [ih.1] at h
    have h1 := lvStep_again h
    rw [lvR, ih.1, h1.1]
    rw [h1.1] at ih
    refine ⟨rfl, fun j hj => ?_⟩
    by_cases e : j = k
    · subst e
      exact h1.2
    exact ih.2 j (by omega)
theorem lvI_ends {f : Func} {many : Nat} (h0 : 0 < many) : ∀ (n : Nat) {S : Lv}, LvOK f many S → (S.again = true → S.weight many < n) → (lvI f many n S).again = false
  | 0, S, _, h => by
    cases hs : S.again with
    | false => exact hs
    | true => exact absurd (h hs) (by omega)
  | n + 1, S, hS, h => by
    simp only [lvI]
    split
    · rename_i ha
      have hw := h ha
      have hr := lvR_ok h0 (S := ⟨S.first, S.behind, false⟩) f.blocks.length (Nat.le_refl _) ⟨hS.len1, hS.len2, hS.sz1, hS.sz2, hS.low, hS.nil⟩
      have hwS : (⟨S.first, S.behind, false⟩ : Lv).weight many = S.weight many := rfl
      refine lvI_ends h0 n hr.1 fun q => ?_
      rcases hr.2.2 q with q | q
      · cases q
      omega
    rename_i ha
    simpa using ha
theorem lvI_last {f : Func} {many : Nat} : ∀ (n : Nat) {S : Lv}, S.again = true → (lvI f many n S).again = false → ∃ T : Lv, lvI f many n S = lvR f many f.blocks.length T
  | 0, S, h1, h2 => by
    rw [lvI, h1] at h2
    cases h2
  | n + 1, S, h1, h2 => by
    simp only [lvI, h1, if_true] at h2 ⊢
    cases hr : (lvR f many f.blocks.length ⟨S.first, S.behind, false⟩).again with
    | false => exact ⟨_, lvI_done hr n⟩
    | true => exact lvI_last n hr h2
theorem live_fix {f : Func} (h128 : f.blocks.length ≤ 128) (hfr : freshM f ≤ 4096) : LvOK f (manyM f) (liveM f) ∧ ∀ (k : Nat), k < f.blocks.length → ∃ l, (liveM f).behind[k]? = some l ∧ l ≠ [] ∧ l.length = manyM f ∧ l = lastM f (manyM f) (liveM f).first (blkOf f k).term ∧ (liveM f).first[k]? = some (backM (blkOf f k).ins l) := by
  have hf := freshM_pos f
  have h0 : 0 < manyM f := by unfold manyM; omega
  have h1 : manyM f ≤ 4097 := by unfold manyM; omega
  have hS := lvS_ok f (manyM f)
  have hw := lvS_weight (n := f.blocks.length) (many := manyM f) h128 h1
  have hend := lvI_ends h0 700000 hS (fun _ => by omega)
  have hok := lvI_ok h0 700000 hS
  obtain ⟨T, hT⟩ := lvI_last 700000 rfl hend
  have hTa := lvR_again f.blocks.length (S := T) (by rw [← hT]; exact hend)
  have hfix := hTa.2
  rw [show T = lvI f (manyM f) 700000 (lvS f.blocks.length) from hTa.1.symm.trans hT.symm] at hfix
  have e : liveM f = lvI f (manyM f) 700000 (lvS f.blocks.length) := rfl
  rw [← e] at hfix hok
  refine ⟨hok, fun k hk => ?_⟩
  obtain ⟨l, hl⟩ : ∃ l, (liveM f).behind[k]? = some l := ⟨(liveM f).behind[k]'(by rw [hok.len2]; exact hk), List.getElem?_eq_getElem _⟩
  obtain ⟨h2, h3⟩ := hfix k hk
  rw [hl, Option.getD_some] at h2 h3
  refine ⟨l, hl, h2, ?_, h3.symm, (hok.low k l hl h2).1⟩
  rcases hok.sz2 l (List.mem_of_getElem? hl) with q | q
  · exact absurd q h2
  exact q
def Before (f : Func) (k : Nat) (n : Int) (v : Int) : Prop := ∃ p, DefAt f v p ∧ ((p.1 = k ∧ p.2 ≤ n) ∨ (p.1 ≠ k ∧ (overF f k).has p.1.toNat = true))
def LvA (f : Func) (first : List (List Bool)) : Prop := ∀ (k : Nat) l, first[k]? = some l → seenF f k = true → ∀ v : Nat, Hs l v → Before f k 0 v
theorem mem_listM {v : Int} : ∀ (l : List Bool) (n : Nat), v ∈ listM n l → ∃ j : Nat, Hs l j ∧ v = n + j
  | [], n, h => by simp [listM] at h
  | is :: r, n, h => by
    simp only [listM] at h
    split at h
    · rename_i hc
      rcases List.mem_cons.1 h with q | q
      · exact ⟨0, by simp [Hs, hc], by omega⟩
      obtain ⟨j, h1, h2⟩ := mem_listM r (n + 1) q
      exact ⟨j + 1, by simpa [Hs] using h1, by omega⟩
    obtain ⟨j, h1, h2⟩ := mem_listM r (n + 1) h
    exact ⟨j + 1, by simpa [Hs] using h1, by omega⟩
end Go.Proofs.Ytlclgfgmhnmnaaa
end

section
set_option linter.unusedSimpArgs false
set_option maxRecDepth 100000
set_option maxHeartbeats 4000000
namespace Go.Proofs.Ytlclgfgmhnmnaaa
open Go.Av
def hasM (l : List Int) (n : Int) : Bool := l.any fun x => decide (x = n)
end Go.Proofs.Ytlclgfgmhnmnaaa
end

section
set_option linter.unusedSimpArgs false
set_option maxRecDepth 100000
set_option maxHeartbeats 4000000
namespace Go.Proofs.Ytlclgfgmhnmnaaa
open Go.Av
theorem build_bad (f : Func) (hfit : f.fit) (hc : checkFuncM f ≠ 0) : PCall Try.prog 43 [f.enc] (.tup [.v (.pointer none), .lst 1 [] .sh, aI (checkFuncM f)]) := by
 have hck := checkFunc_spec f hfit
 obtain ⟨e, he⟩ : ∃ e, e = checkFuncM f := ⟨_, rfl⟩
 rw [← he] at hc hck ⊢
 have hde : decide (e = 0) = false := decide_eq_false hc
 refine zf true 0 Try.func43 Try.ntmps43 ?_
 dsimp only [Tmp, TypeId, slotsOf]
 refine zh1 (za0 ?_)
 refine awp_freeze1 1 0 (.ip none [aI f.name, eBlocks f.blocks]) rfl (by simp [AObj.isSpare]) trivial rfl ?_ ?_
 rotate_left
 simp -dsimp only [simprocAttr, ↓vpre, zp]
 ·refine zh2 ?_
  refine .inl ⟨_, hck, by simp only [uptoL, AVal.upto, zt, zu, aI_upto, eB_upto], later_intro ?_⟩
  simp -dsimp only [simprocAttr, ↓vpre, zp]
  refine za0 ?_
  refine zg1 ?_
  simp -dsimp only [simprocAttr, ↓vpre, zp, hde]
  refine za0 ?_
  refine zw0 rfl ?_
  refine zh1 (za0 ?_)
  refine awp_ret ?_
  simp -dsimp only [simprocAttr, ↓vpre, zp, zr, Try.results43]
  simp [uptoL, AVal.upto]
 exact FSub.mp rfl rfl
def liveR (f : Func) : AVal := if checkFuncM f = 0 then .tup [.lst 1 (((liveM f).first.map (listM 0)).map eIs) .sh, .lst 1 (((liveM f).behind.map (listM 0)).map eIs) .sh, aI 0] else .tup [.lst 1 [] .sh, .lst 1 [] .sh, aI (checkFuncM f)]
end Go.Proofs.Ytlclgfgmhnmnaaa
end

section
namespace Go.Proofs.Ytlclgfgmhnmnaaa
open Go.Av
theorem listM_has {j : Nat} : ∀ (l : List Bool) (n : Nat), Hs l j → ((n + j : Nat) : Int) ∈ listM n l
  | [], n, h => by simp [Hs] at h
  | is :: r, n, h => by
    simp only [listM]
    cases j with
    | zero =>
      simp only [Hs, List.getElem?_cons_zero, Option.some.injEq] at h
      rw [if_pos h]
      exact List.mem_cons_self
    | succ j =>
      have ih := listM_has r (n + 1) (j := j) (by simpa [Hs] using h)
      rw [show n + 1 + j = n + (j + 1) by omega] at ih
      split
      · exact List.mem_cons_of_mem _ ih
      exact ih
theorem rxAll_ok {many : Nat} {P : List Nat} {k p : Int} : ∀ (l : List Int) {X : Rx}, RxOK many P X → (∀ v ∈ l, 0 ≤ v ∧ v < many) → RxOK many P (rxAll k p X l)
  | [], _, h, _ => h
  | v :: r, _, h, hl => rxAll_ok r (rxAdd_ok h (hl v (by simp)).1 (hl v (by simp)).2) fun w hw => hl w (by simp [hw])
theorem rxAll_b {c : Nat} {k : Int} (p : Int) : ∀ (l : List Int) {X : Rx}, RxB c k X → RxB c k (rxAll k p X l)
  | [], _, h => h
  | v :: r, _, h => rxAll_b p r (h.add p v)
theorem rxAll_get {many : Nat} {P : List Nat} {k p : Int} {j : Nat} (hj : j ∈ P ∨ j < 5) : ∀ (l : List Int) {X : Rx}, RxOK many P X → (∀ v ∈ l, 0 ≤ v ∧ v < many) → (rxAll k p X l).O[j]? = X.O[j]?
  | [], _, _, _ => rfl
  | v :: r, _, h, hl => by
    obtain ⟨h0, h1⟩ := hl v (by simp)
    exact (rxAll_get hj r (rxAdd_ok h h0 h1) fun w hw => hl w (by simp [hw])).trans (rxAdd_get h h0 h1 hj)
def Rx.put (X : Rx) (L : Nat) (o : AObj) : Rx := ⟨X.parts, X.ids, X.O.set L o⟩
theorem RxOK.put {many : Nat} {P : List Nat} {X : Rx} (h : RxOK many P X) {L : Nat} (hL : L ∈ P) {o : AObj} (ho : o.upto X.O.length) : RxOK many P (X.put L o) := by
  have hLp := h.prot L hL
  refine ⟨h.len1, h.len2, ?_, ?_, ?_, fun w m j a b c => ?_, h.apart, fun j hj => ?_⟩
  · simp only [Rx.put, List.length_set]
    exact uptoO_set h.up ho
  · simp only [Rx.put]
    rw [List.getElem?_set_ne (by omega)]
    exact h.arr
  · simp only [Rx.put]
    rw [List.getElem?_set_ne (by omega)]
    exact h.var
  · obtain ⟨s1, s2, s3⟩ := h.own w m j a b c
    have hne : L ≠ j := fun e => s3 (e ▸ hL)
    refine ⟨?_, s2, s3⟩
    simp only [Rx.put]
    rw [List.getElem?_set_ne hne]
    exact s1
  simp only [Rx.put, List.length_set]
  exact h.prot j hj
theorem RxOK.less {many : Nat} {P : List Nat} {X : Rx} (h : RxOK many P X) : RxOK many [] X :=
  ⟨h.len1, h.len2, h.up, h.arr, h.var, fun w m j a b c => by
    obtain ⟨s1, s2, _⟩ := h.own w m j a b c
    exact ⟨s1, s2, by simp⟩, h.apart, by simp⟩
theorem RxOK.more {many : Nat} {X : Rx} (h : RxOK many [] X) {x y : AObj} (hx : x.upto (X.O.length + 2)) (hy : y.upto (X.O.length + 2)) : RxOK many [X.O.length, X.O.length + 1] ⟨X.parts, X.ids, X.O ++ [x, y]⟩ := by
  have h6 := lt_of_getElem? h.var
  refine ⟨h.len1, h.len2, ?_, ?_, ?_, fun w m j a b c => ?_, h.apart, fun j hj => ?_⟩
  · simp only [List.length_append, List.length_cons, List.length_nil]
    intro o ho
    rcases List.mem_append.1 ho with q | q
    · exact AObj.upto_mono (by omega) (h.up o q)
    simp only [List.mem_cons, List.not_mem_nil, or_false] at q
    rcases q with rfl | rfl
    · exact hx
    exact hy
  · exact at_left h.arr
  · exact at_left h.var
  · obtain ⟨s1, s2, _⟩ := h.own w m j a b c
    have := lt_of_getElem? s1
    refine ⟨at_left s1, s2, ?_⟩
    simp
    omega
  simp only [List.mem_cons, List.not_mem_nil, or_false] at hj
  simp only [List.length_append, List.length_cons, List.length_nil]
  omega
theorem set_app {O : List AObj} {L : Nat} (hL : L < O.length) (h5 : 5 ≠ L) (x c o : AObj) : (O.set L o ++ [x]).set 5 c = ((O ++ [x]).set 5 c).set L o := by
  rw [List.set_comm _ _ h5, List.set_append_left _ _ hL]
theorem rxAdd_put {many : Nat} {P : List Nat} {k p : Int} {X : Rx} (h : RxOK many P X) {v : Int} (h0 : 0 ≤ v) (h1 : v < many) {L : Nat} (hL : L ∈ P) (o : AObj) : rxAdd k p (X.put L o) v = (rxAdd k p X v).put L o := by
  obtain ⟨n, rfl⟩ : ∃ n : Nat, v = (n : Int) := ⟨v.toNat, by omega⟩
  obtain ⟨l, hl⟩ : ∃ l, X.parts[n]? = some l := ⟨X.parts[n]'(by rw [h.len1]; omega), List.getElem?_eq_getElem _⟩
  obtain ⟨id, hid⟩ : ∃ id, X.ids[n]? = some id := ⟨X.ids[n]'(by rw [h.len2]; omega), List.getElem?_eq_getElem _⟩
  have hLp := h.prot L hL
  unfold rxAdd
  simp only [Rx.put, Int.toNat_natCast, hl, hid, Option.getD_some]
  cases hlast : l.getLast? with
  | none =>
    simp only [List.length_set]
    rw [set_app hLp.2 (by omega)]
  | some r =>
    have hlne : l ≠ [] := fun e => by rw [e] at hlast; cases hlast
    obtain ⟨o1, o2, o3⟩ := h.own n l id hl hid hlne
    have hiL : id ≠ L := fun e => o3 (e ▸ hL)
    simp only [List.length_set]
    split
    · rw [List.set_comm _ _ hiL]
    rw [List.set_comm _ _ hiL.symm, set_app (by simp; omega) (by omega)]
theorem rxAll_put {many : Nat} {P : List Nat} {k p : Int} {L : Nat} (hL : L ∈ P) (o : AObj) : ∀ (l : List Int) {X : Rx}, RxOK many P X → (∀ v ∈ l, 0 ≤ v ∧ v < many) → rxAll k p (X.put L o) l = (rxAll k p X l).put L o
  | [], _, _, _ => rfl
  | v :: r, X, h, hl => by
    obtain ⟨h0, h1⟩ := hl v (by simp)
    have := rxAll_put (k := k) (p := p) hL o r (rxAdd_ok (k := k) (p := p) h h0 h1) fun w hw => hl w (by simp [hw])
    simp only [rxAll, List.foldl_cons] at this ⊢
    rw [rxAdd_put h h0 h1 hL]
    exact this
theorem backRun_ind {X : Type} {step : X → Nat → List Bool → X} {l : List Ins} {J : Nat → X → List Bool → Prop} (hs : ∀ n x s i, l[n]? = some i → J (n + 1) x s → J n (step x (n + 1) s) (backI i s)) : ∀ n x s, n ≤ l.length → J n x s → ∃ x' s', J 0 x' s' ∧ backRun step l n x s = step x' 0 s'
  | 0, x, s, _, h => ⟨x, s, h, rfl⟩
  | n + 1, x, s, hn, h => by
    obtain ⟨i, hi⟩ : ∃ i, l[n]? = some i := ⟨l[n], List.getElem?_eq_getElem _⟩
    obtain ⟨x', s', h1, h2⟩ := backRun_ind hs n _ _ (by omega) (hs n x s i hi h)
    refine ⟨x', s', h1, ?_⟩
    simp only [backRun, hi]
    exact h2
def pAdd (k p : Int) (ps : List (List Rng)) (v : Int) : List (List Rng) := ps.set v.toNat (addP k p v (ps[v.toNat]?.getD []))
theorem rxAll_parts (k p : Int) : ∀ (l : List Int) (X : Rx), (rxAll k p X l).parts = l.foldl (pAdd k p) X.parts
  | [], _ => rfl
  | v :: r, X => by
    have := rxAll_parts k p r (rxAdd k p X v)
    simp only [rxAll, List.foldl_cons] at this ⊢
    rw [this, rxAdd_parts]
    rfl
def Wd (k n : Int) (ps : List (List Rng)) : Prop := ∀ (v : Nat) l r, ps[v]? = some l → r ∈ l → r.val = v ∧ r.fr ≤ r.til ∧ (r.blk < k ∨ (r.blk = k ∧ n ≤ r.fr))
def Cov (k p v : Int) (ps : List (List Rng)) : Prop := ∃ l r, ps[v.toNat]? = some l ∧ r ∈ l ∧ r.val = v ∧ r.blk = k ∧ r.fr ≤ p ∧ p ≤ r.til
theorem addP_mem {k p v : Int} {l : List Rng} : (∀ r ∈ addP k p v l, r ∈ l ∨ r = ⟨v, k, p, p⟩ ∨ ∃ r0 ∈ l, r0.blk = k ∧ r = ⟨r0.val, r0.blk, p, r0.til⟩) ∧ (∀ r0 ∈ l, r0 ∈ addP k p v l ∨ (r0.blk = k ∧ ⟨r0.val, r0.blk, p, r0.til⟩ ∈ addP k p v l)) ∧ (⟨v, k, p, p⟩ ∈ addP k p v l ∨ ∃ r0 ∈ l, r0.blk = k ∧ ⟨r0.val, r0.blk, p, r0.til⟩ ∈ addP k p v l) := by
  unfold addP
  cases hl : l.getLast? with
  | none =>
    have hn : l = [] := List.getLast?_eq_none_iff.1 hl
    subst hn
    simp
  | some r =>
    have hm := List.mem_of_getLast? hl
    have hne : l ≠ [] := fun e => by rw [e] at hl; cases hl
    have hd : l = l.dropLast ++ [r] := by
      have := List.dropLast_concat_getLast hne
      rw [List.getLast?_eq_some_getLast hne] at hl
      simp only [Option.some.injEq] at hl
      rw [hl] at this
      exact this.symm
    simp only
    split
    · rename_i hb
      refine ⟨fun x hx => ?_, fun x hx => ?_, .inr ⟨r, hm, hb, by simp⟩⟩
      · rcases List.mem_append.1 hx with q | q
        · exact .inl (List.dropLast_subset _ q)
        rw [List.mem_singleton] at q
        exact .inr (.inr ⟨r, hm, hb, q⟩)
      rw [hd] at hx
      rcases List.mem_append.1 hx with q | q
      · exact .inl (List.mem_append_left _ q)
      rw [List.mem_singleton] at q
      subst q
      exact .inr ⟨hb, by simp⟩
    refine ⟨fun x hx => ?_, fun x hx => .inl (List.mem_append_left _ hx), .inl (by simp)⟩
    rcases List.mem_append.1 hx with q | q
    · exact .inl q
    rw [List.mem_singleton] at q
    exact .inr (.inl q)
theorem pAdd_ok {k p : Int} {ps : List (List Rng)} (h : Wd k p ps) {v : Int} (h0 : 0 ≤ v) (h1 : v < ps.length) : Wd k p (pAdd k p ps v) ∧ Cov k p v (pAdd k p ps v) ∧ ∀ k' p' v', 0 ≤ v' → Cov k' p' v' ps → Cov k' p' v' (pAdd k p ps v) := by
  obtain ⟨n, rfl⟩ : ∃ n : Nat, v = (n : Int) := ⟨v.toNat, by omega⟩
  have hn : n < ps.length := by omega
  obtain ⟨l, hl⟩ : ∃ l, ps[n]? = some l := ⟨ps[n], List.getElem?_eq_getElem _⟩
  obtain ⟨m1, m2, m3⟩ := addP_mem (k := k) (p := p) (v := n) (l := l)
  unfold pAdd
  simp only [Int.toNat_natCast, hl, Option.getD_some]
  generalize addP k p n l = l' at *
  have hget : (ps.set n l')[n]? = some l' := List.getElem?_set_self hn
  have hold : ∀ r0 ∈ l, r0.blk = k → p ≤ r0.fr ∧ r0.fr ≤ r0.til ∧ r0.val = n := fun r0 hr hb => by
    obtain ⟨a, b, c⟩ := h n l r0 hl hr
    omega
  refine ⟨fun w m r hw hr => ?_, ?_, fun k' p' v' hv' => ?_⟩
  · rcases set_cases hw with ⟨rfl, rfl⟩ | ⟨_, q⟩
    · rcases m1 r hr with q | rfl | ⟨r0, q1, q2, rfl⟩
      · exact h _ l r hl q
      · exact ⟨rfl, Int.le_refl _, .inr ⟨rfl, Int.le_refl _⟩⟩
      obtain ⟨a, b, c⟩ := hold r0 q1 q2
      exact ⟨c, by simp only; omega, .inr ⟨q2, Int.le_refl _⟩⟩
    exact h w m r q hr
  · rcases m3 with q | ⟨r0, q1, q2, q3⟩
    · exact ⟨l', _, hget, q, rfl, rfl, Int.le_refl _, Int.le_refl _⟩
    obtain ⟨a, b, c⟩ := hold r0 q1 q2
    exact ⟨l', _, hget, q3, c, q2, Int.le_refl _, by simp only; omega⟩
  rintro ⟨m, r, c1, c2, c3, c4, c5, c6⟩
  by_cases e : v'.toNat = n
  · rw [e, hl] at c1
    simp only [Option.some.injEq] at c1
    subst c1
    rcases m2 r c2 with q | ⟨q1, q2⟩
    · exact ⟨l', r, by rw [e]; exact hget, q, c3, c4, c5, c6⟩
    obtain ⟨a, b, c⟩ := hold r c2 q1
    exact ⟨l', _, by rw [e]; exact hget, q2, c3, c4, by simp only; omega, c6⟩
  exact ⟨m, r, by rw [List.getElem?_set_ne fun q => e q.symm]; exact c1, c2, c3, c4, c5, c6⟩
theorem pAll_ok {k p : Int} : ∀ (l : List Int) {ps : List (List Rng)}, Wd k p ps → (∀ v ∈ l, 0 ≤ v ∧ v < ps.length) → (l.foldl (pAdd k p) ps).length = ps.length ∧ Wd k p (l.foldl (pAdd k p) ps) ∧ (∀ v ∈ l, Cov k p v (l.foldl (pAdd k p) ps)) ∧ ∀ k' p' v', 0 ≤ v' → Cov k' p' v' ps → Cov k' p' v' (l.foldl (pAdd k p) ps)
  | [], _, h, _ => ⟨rfl, h, by simp, fun _ _ _ _ h => h⟩
  | v :: r, ps, h, hl => by
    obtain ⟨h0, h1⟩ := hl v (by simp)
    obtain ⟨a, b, c⟩ := pAdd_ok h h0 h1
    have hlen : (pAdd k p ps v).length = ps.length := by simp [pAdd]
    obtain ⟨d0, d1, d2, d3⟩ := pAll_ok r a fun w hw => by
      rw [hlen]
      exact hl w (by simp [hw])
    refine ⟨d0.trans hlen, d1, fun w hw => ?_, fun k' p' v' hv hc => d3 _ _ _ hv (c _ _ _ hv hc)⟩
    rcases List.mem_cons.1 hw with rfl | q
    · exact d3 _ _ _ h0 b
    exact d2 w q
def rxStep (k : Nat) (x : Rx) (n : Nat) (s : List Bool) : Rx := rxAll k n x (listM 0 s)
def rxBlock (f : Func) (k : Nat) (X : Rx) (s0 : List Bool) : Rx :=
  (backRun (rxStep k) (blkOf f k).ins (blkOf f k).ins.length ⟨X.parts, X.ids, X.O ++ [.cells [aI k], .cells []]⟩ s0).put (X.O.length + 1) .gone
def rxFrom (f : Func) : List (List Bool) → Nat → Rx → Rx
  | [], _, X => X
  | s :: r, k, X => rxFrom f r (k + 1) (rxBlock f k X s)
structure Done (f : Func) (many k : Nat) (ps : List (List Rng)) : Prop where
  len : ps.length = many
  wd : ∀ n, Wd k n ps
  cov : ∀ (k' : Nat), k' < k → ∀ (m : Nat) i, (blkOf f k').ins[m]? = some i → ∀ v ∈ i.args, Cov k' m v ps
theorem rxBlock_ok {f : Func} {many c k : Nat} {X : Rx} {s0 : List Bool} (h : RxOK many [] X) (hc : RxB c k X) (hs : s0.length = many) :
    RxOK many [] (rxBlock f k X s0) ∧ RxB (c + 1) (k + 1 : Nat) (rxBlock f k X s0) ∧ ∀ j, j < 5 → (rxBlock f k X s0).O[j]? = X.O[j]? := by
  have h6 := lt_of_getElem? h.var
  have hm := h.more (x := .cells [aI k]) (y := .cells []) ⟨trivial, trivial⟩ trivial
  have hst : ∀ (x : Rx) (n : Nat) (s : List Bool), s.length = many → (RxOK many [X.O.length, X.O.length + 1] x ∧ RxB c k x ∧ ∀ j, j < 5 → x.O[j]? = X.O[j]?) → RxOK many [X.O.length, X.O.length + 1] (rxStep k x n s) ∧ RxB c k (rxStep k x n s) ∧ ∀ j, j < 5 → (rxStep k x n s).O[j]? = X.O[j]? := fun x n s hs ⟨a, b, d⟩ => by
    have hl : ∀ v ∈ listM 0 s, 0 ≤ v ∧ v < many := fun v hv => by
      have := listM_lt s 0 hv
      omega
    exact ⟨rxAll_ok _ a hl, rxAll_b _ _ b, fun j hj => (rxAll_get (.inr hj) _ a hl).trans (d j hj)⟩
  obtain ⟨x', s', ⟨j1, j2⟩, he⟩ := backRun_ind (step := rxStep k) (l := (blkOf f k).ins) (J := fun n x s => s.length = many ∧ RxOK many [X.O.length, X.O.length + 1] x ∧ RxB c k x ∧ ∀ j, j < 5 → x.O[j]? = X.O[j]?) (fun n x s i hi ⟨j1, j2⟩ => ⟨by rw [backI_len, j1], hst x (n + 1) s j1 j2⟩)
    (blkOf f k).ins.length ⟨X.parts, X.ids, X.O ++ [.cells [aI k], .cells []]⟩ s0 (Nat.le_refl _) ⟨hs, hm, hc, fun j hj => List.getElem?_append_left (by omega)⟩
  obtain ⟨k1, k2, k3⟩ := hst x' 0 s' j1 j2
  unfold rxBlock
  rw [he]
  refine ⟨(k1.put (L := X.O.length + 1) (by simp) (o := .gone) trivial).less, fun l hl => ?_, fun j hj => ?_⟩
  · rcases k2 l hl with q | ⟨q, _⟩
    · exact .inl (by omega)
    exact .inl q
  simp only [Rx.put]
  rw [List.getElem?_set_ne (by omega)]
  exact k3 j hj
end Go.Proofs.Ytlclgfgmhnmnaaa
end

section
namespace Go.Proofs.Ytlclgfgmhnmnaaa
open Go.Av
def setAt (f : Func) (S : List (List Bool)) (k n : Nat) : List Bool := backM ((blkOf f k).ins.drop n) (S[k]?.getD [])
theorem setAt_step {f : Func} {S : List (List Bool)} {k n : Nat} {i : Ins} (h : (blkOf f k).ins[n]? = some i) : setAt f S k n = backI i (setAt f S k (n + 1)) := by
  unfold setAt
  rw [drop_at h]
  rfl
theorem setAt_len (f : Func) (S : List (List Bool)) (k n : Nat) : (setAt f S k n).length = (S[k]?.getD []).length := by
  unfold setAt
  rw [backM_len]
theorem set_kill {f : Func} {S : List (List Bool)} {k n v : Nat} : ∀ d, n + d ≤ (blkOf f k).ins.length → Hs (setAt f S k (n + d)) v → ¬ Hs (setAt f S k n) v → ∃ q i, n ≤ q ∧ q < n + d ∧ (blkOf f k).ins[q]? = some i ∧ i.to.toNat = v
  | 0, _, h1, h2 => absurd h1 h2
  | d + 1, hl, h1, h2 => by
    by_cases h : Hs (setAt f S k (n + d)) v
    · obtain ⟨q, i, a, b, c⟩ := set_kill d (by omega) h h2
      exact ⟨q, i, a, by omega, c⟩
    obtain ⟨i, hi⟩ : ∃ i, (blkOf f k).ins[n + d]? = some i := ⟨_, List.getElem?_eq_getElem (by omega)⟩
    refine ⟨n + d, i, by omega, by omega, hi, ?_⟩
    rw [setAt_step hi, hs_backI] at h
    by_cases e : v = i.to.toNat
    · exact e.symm
    exact absurd (.inl ⟨e, h1⟩) h
theorem set_gen {f : Func} {S : List (List Bool)} {k n v : Nat} : ∀ d, n + d ≤ (blkOf f k).ins.length → Hs (setAt f S k n) v → ¬ Hs (setAt f S k (n + d)) v → ∃ q i, n ≤ q ∧ q < n + d ∧ (blkOf f k).ins[q]? = some i ∧ ∃ a ∈ i.args, v = a.toNat
  | 0, _, h1, h2 => absurd h1 h2
  | d + 1, hl, h1, h2 => by
    by_cases h : Hs (setAt f S k (n + d)) v
    · obtain ⟨i, hi⟩ : ∃ i, (blkOf f k).ins[n + d]? = some i := ⟨_, List.getElem?_eq_getElem (by omega)⟩
      refine ⟨n + d, i, by omega, by omega, hi, ?_⟩
      rw [setAt_step hi, hs_backI] at h
      rcases h with ⟨_, q⟩ | ⟨_, q⟩
      · exact absurd q h2
      exact q
    obtain ⟨q, i, a, b, c⟩ := set_gen d (by omega) h1 h
    exact ⟨q, i, a, by omega, c⟩
theorem DefAt.one {f : Func} (hv : FnV f) {v : Int} {p q : Int × Int} (h1 : DefAt f v p) (h2 : DefAt f v q) : p = q := by
  have hn : ((dsF f).map (·.1)).Nodup := by
    rw [dsF_fst]
    exact hv.nodup
  have e1 := (lookD_mem hn).2 (mem_dsF.2 h1)
  have e2 := (lookD_mem hn).2 (mem_dsF.2 h2)
  rw [e1] at e2
  exact Option.some.inj e2
theorem set_convex {f : Func} (hv : FnV f) {S : List (List Bool)} {k : Nat} {b : Block} (hb : f.blocks[k]? = some b) (hs : seenF f k = true) (hin : ∀ i ∈ b.ins, 0 ≤ i.to ∧ ∀ a ∈ i.args, 0 ≤ a) {n1 n n2 v : Nat} (h1 : n1 ≤ n) (h2 : n ≤ n2) (h3 : n2 ≤ b.ins.length) (a1 : Hs (setAt f S k n1) v) (a2 : Hs (setAt f S k n2) v) : Hs (setAt f S k n) v := by
  have hbk : (blkOf f k).ins = b.ins := by simp [blkOf, hb]
  refine Classical.byContradiction fun h => ?_
  obtain ⟨d, rfl⟩ : ∃ d, n2 = n + d := ⟨n2 - n, by omega⟩
  obtain ⟨c, rfl⟩ : ∃ c, n = n1 + c := ⟨n - n1, by omega⟩
  obtain ⟨q, i, q1, q2, q3, q4⟩ := set_kill d (by rw [hbk]; exact h3) a2 h
  obtain ⟨r, j, r1, r2, r3, a, r4, r5⟩ := set_gen c (by rw [hbk]; omega) a1 h
  rw [hbk] at q3 r3
  have e1 := (hin i (List.mem_of_getElem? q3)).1
  have e2 := (hin j (List.mem_of_getElem? r3)).2 a r4
  have hav : a = i.to := by omega
  obtain ⟨p, p1, p2⟩ := hv.uses.ins k b hb r j r3 a r4
  have hd : DefAt f a ((k : Int), ((q + 1 : Nat) : Int)) := ⟨k, b, hb, rfl, .inr ⟨q, i, q3, hav.symm, rfl⟩⟩
  have e := p1.one hv hd
  subst e
  rcases p2 hs with ⟨_, x⟩ | ⟨x, _⟩
  · simp only at x
    omega
  exact x rfl
def atP (k n : Int) (r : Rng) : Bool := decide (r.blk = k) && (decide (r.fr ≤ n) && decide (n ≤ r.til))
theorem atP_iff {k n : Int} {r : Rng} : atP k n r = true ↔ r.blk = k ∧ r.fr ≤ n ∧ n ≤ r.til := by
  simp [atP]
def Ups (ps : List (List Rng)) : Prop := ∀ (v : Nat) l, ps[v]? = some l → (l.map Rng.blk).Pairwise (· < ·)
def Ends (f : Func) (S : List (List Bool)) (ps : List (List Rng)) : Prop := ∀ (v : Nat) l r, ps[v]? = some l → r ∈ l → ∃ k n1 n2 : Nat, r.blk = k ∧ r.fr = n1 ∧ r.til = n2 ∧ k < f.blocks.length ∧ n1 ≤ (blkOf f k).ins.length ∧ n2 ≤ (blkOf f k).ins.length ∧ Hs (setAt f S k n1) v ∧ Hs (setAt f S k n2) v
theorem addP_ups {k p v : Int} {l : List Rng} (h : (l.map Rng.blk).Pairwise (· < ·)) (hk : ∀ r ∈ l, r.blk ≤ k) : ((addP k p v l).map Rng.blk).Pairwise (· < ·) := by
  unfold addP
  cases hl : l.getLast? with
  | none => simp
  | some r =>
    have hne : l ≠ [] := fun e => by rw [e] at hl; cases hl
    have hd : l.dropLast ++ [r] = l := by
      have := List.dropLast_concat_getLast hne
      rw [List.getLast?_eq_some_getLast hne] at hl
      simp only [Option.some.injEq] at hl
      rw [hl] at this
      exact this
    simp only
    split
    · rw [← hd] at h
      simpa using h
    rename_i hb
    rw [List.map_append, List.pairwise_append]
    refine ⟨h, by simp, fun x hx y hy => ?_⟩
    simp only [List.map_cons, List.map_nil, List.mem_singleton] at hy
    subst hy
    obtain ⟨z, hz, rfl⟩ := List.mem_map.1 hx
    have hr := hk r (List.mem_of_getLast? hl)
    have hzr : z = r ∨ z.blk < r.blk := by
      rw [← hd] at h hz
      rcases List.mem_append.1 hz with q | q
      · rw [List.map_append, List.pairwise_append] at h
        exact .inr (h.2.2 _ (List.mem_map.2 ⟨z, q, rfl⟩) _ (by simp))
      exact .inl (List.mem_singleton.1 q)
    rcases hzr with rfl | q <;> omega
theorem pAdd_more {f : Func} {S : List (List Bool)} {k n v : Nat} {ps : List (List Rng)} (hw : Wd k n ps) (hu : Ups ps) (he : Ends f S ps) (hk : k < f.blocks.length) (hn : n ≤ (blkOf f k).ins.length) (hv : Hs (setAt f S k n) v) : Ups (pAdd k n ps v) ∧ Ends f S (pAdd k n ps v) := by
  unfold pAdd
  simp only [Int.toNat_natCast]
  have hle : ∀ l, ps[v]? = some l → ∀ r ∈ l, r.blk ≤ k := fun l hl r hr => by
    obtain ⟨_, _, c⟩ := hw v l r hl hr
    omega
  refine ⟨fun w m hwm => ?_, fun w m r hwm hr => ?_⟩
  · rcases set_cases hwm with ⟨rfl, rfl⟩ | ⟨_, q⟩
    · cases hl : ps[w]? with
      | none => exact addP_ups (by simp) (by simp)
      | some l => exact addP_ups (hu w l hl) (hle l hl)
    exact hu w m q
  rcases set_cases hwm with ⟨rfl, rfl⟩ | ⟨_, q⟩
  · rcases addP_mem.1 r hr with q | rfl | ⟨r0, q, q2, rfl⟩
    · cases hl : ps[w]? with
      | none => rw [hl] at q; cases q
      | some l => rw [hl] at q; exact he w l r hl q
    · exact ⟨k, n, n, rfl, rfl, rfl, hk, hn, hn, hv, hv⟩
    cases hl : ps[w]? with
    | none => rw [hl] at q; cases q
    | some l =>
      rw [hl] at q
      obtain ⟨k', n1, n2, b1, b2, b3, b4, b5, b6, b7, b8⟩ := he w l r0 hl q
      have : k' = k := by omega
      subst this
      exact ⟨k', n, n2, b1, rfl, b3, b4, hn, b6, hv, b8⟩
  exact he w m r q hr
theorem pAll_more {f : Func} {S : List (List Bool)} {k n : Nat} (hk : k < f.blocks.length) (hn : n ≤ (blkOf f k).ins.length) : ∀ (l : List Int) {ps : List (List Rng)}, Wd k n ps → Ups ps → Ends f S ps → (∀ v ∈ l, 0 ≤ v ∧ v < ps.length ∧ Hs (setAt f S k n) v.toNat) → Ups (l.foldl (pAdd k n) ps) ∧ Ends f S (l.foldl (pAdd k n) ps)
  | [], _, _, hu, he, _ => ⟨hu, he⟩
  | v :: r, ps, hw, hu, he, hl => by
    obtain ⟨h0, h1, h2⟩ := hl v (by simp)
    obtain ⟨a, _, _⟩ := pAdd_ok hw h0 h1
    have hvn : ((v.toNat : Nat) : Int) = v := by omega
    obtain ⟨b, c⟩ := pAdd_more hw hu he hk hn h2
    rw [hvn] at b c
    have hlen : (pAdd k n ps v).length = ps.length := by simp [pAdd]
    exact pAll_more hk hn r a b c fun w hw' => by
      rw [hlen]
      exact hl w (by simp [hw'])
structure All (f : Func) (S : List (List Bool)) (many k : Nat) (ps : List (List Rng)) : Prop where
  len : ps.length = many
  wd : ∀ n, Wd k n ps
  ups : Ups ps
  ends : Ends f S ps
  cov : ∀ k', k' < k → ∀ n, n ≤ (blkOf f k').ins.length → ∀ v : Nat, Hs (setAt f S k' n) v → Cov k' n v ps
theorem rxBlock_all {f : Func} {S : List (List Bool)} {many k : Nat} {X : Rx} {s0 : List Bool} (h : All f S many k X.parts) (hk : k < f.blocks.length) (hs0 : S[k]? = some s0) (hs : s0.length = many) : All f S many (k + 1) (rxBlock f k X s0).parts := by
  have hset : ∀ n, (setAt f S k n).length = many := fun n => by rw [setAt_len, hs0]; exact hs
  have hall : ∀ (n : Nat) {x : Rx}, x.parts.length = many → n ≤ (blkOf f k).ins.length → Wd k n x.parts → Ups x.parts → Ends f S x.parts → (rxStep k x n (setAt f S k n)).parts.length = many ∧ Wd k n (rxStep k x n (setAt f S k n)).parts ∧ Ups (rxStep k x n (setAt f S k n)).parts ∧ Ends f S (rxStep k x n (setAt f S k n)).parts ∧ (∀ v : Nat, Hs (setAt f S k n) v → Cov k n v (rxStep k x n (setAt f S k n)).parts) ∧ ∀ k' p' v', 0 ≤ v' → Cov k' p' v' x.parts → Cov k' p' v' (rxStep k x n (setAt f S k n)).parts := fun n x hx hn hw hu he => by
    have hls : ∀ v ∈ listM 0 (setAt f S k n), 0 ≤ v ∧ v < x.parts.length ∧ Hs (setAt f S k n) v.toNat := fun v hv => by
      have h1 := listM_lt _ 0 hv
      have h2 := hset n
      obtain ⟨j, h3, h4⟩ := mem_listM _ _ hv
      refine ⟨by omega, by omega, ?_⟩
      rw [show v.toNat = j by omega]
      exact h3
    obtain ⟨d0, d1, d2, d3⟩ := pAll_ok (listM 0 (setAt f S k n)) hw fun v hv => ⟨(hls v hv).1, (hls v hv).2.1⟩
    obtain ⟨e1, e2⟩ := pAll_more hk hn (listM 0 (setAt f S k n)) hw hu he hls
    unfold rxStep
    rw [rxAll_parts]
    refine ⟨d0.trans hx, d1, e1, e2, fun v hv => ?_, d3⟩
    have := listM_has _ 0 hv
    rw [Nat.zero_add] at this
    exact d2 _ this
  obtain ⟨x', s', ⟨j1, j2, j3, j4, j5, j6, j7⟩, he⟩ := backRun_ind (step := rxStep k) (l := (blkOf f k).ins) (J := fun n x s => s = setAt f S k n ∧ n ≤ (blkOf f k).ins.length ∧ x.parts.length = many ∧ Wd k n x.parts ∧ (Ups x.parts ∧ Ends f S x.parts) ∧ (∀ m, n < m → m ≤ (blkOf f k).ins.length → ∀ v : Nat, Hs (setAt f S k m) v → Cov k m v x.parts) ∧ ∀ k' p' v', 0 ≤ v' → Cov k' p' v' X.parts → Cov k' p' v' x.parts) (fun n x s i hi ⟨j1, j2, j3, j4, ⟨j5, j5'⟩, j6, j7⟩ => by
      subst j1
      obtain ⟨d0, d1, d2, d3, d4, d5⟩ := hall (n + 1) j3 j2 j4 j5 j5'
      refine ⟨(setAt_step hi).symm, by omega, d0, fun v l r a b => ?_, ⟨d2, d3⟩, fun m hm hml v hv => ?_, fun k' p' v' hv hc => d5 _ _ _ hv (j7 _ _ _ hv hc)⟩
      · obtain ⟨e1, e2, e3⟩ := d1 v l r a b
        refine ⟨e1, e2, ?_⟩
        rcases e3 with q | ⟨q1, q2⟩
        · exact .inl q
        exact .inr ⟨q1, by omega⟩
      by_cases e : m = n + 1
      · subst e
        exact d4 v hv
      exact d5 _ _ _ (by omega) (j6 m (by omega) hml v hv))
    (blkOf f k).ins.length ⟨X.parts, X.ids, X.O ++ [.cells [aI k], .cells []]⟩ s0 (Nat.le_refl _) ⟨by simp [setAt, hs0, backM], Nat.le_refl _, h.len, h.wd _, ⟨h.ups, h.ends⟩, fun m h1 h2 => by omega, fun _ _ _ _ hc => hc⟩
  subst j1
  obtain ⟨d0, d1, d2, d3, d4, d5⟩ := hall 0 j3 (by omega) j4 j5.1 j5.2
  unfold rxBlock
  rw [he]
  refine ⟨d0, fun n v l r a b => ?_, d2, d3, fun k' hk' n hn v hv => ?_⟩
  · obtain ⟨e1, e2, e3⟩ := d1 v l r a b
    exact ⟨e1, e2, .inl (by omega)⟩
  by_cases e : k' = k
  · subst e
    by_cases em : n = 0
    · subst em
      exact d4 v hv
    exact d5 _ _ _ (by omega) (j6 n (by omega) hn v hv)
  exact d5 _ _ _ (by omega) (j7 _ _ _ (by omega) (h.cov k' (by omega) n hn v hv))
theorem rxFrom_all {f : Func} {S : List (List Bool)} {many : Nat} : ∀ (l : List (List Bool)) (k : Nat) {X : Rx}, All f S many k X.parts → k + l.length ≤ f.blocks.length → (∀ j s, l[j]? = some s → S[k + j]? = some s ∧ s.length = many) → All f S many (k + l.length) (rxFrom f l k X).parts
  | [], _, _, h, _, _ => h
  | s :: r, k, X, h, hk, hl => by
    simp only [List.length_cons] at hk
    obtain ⟨h1, h2⟩ := hl 0 s rfl
    have := rxFrom_all r (k + 1) (rxBlock_all h (by omega) h1 h2) (by omega) fun j x hx => by
      have := hl (j + 1) x (by simpa using hx)
      rw [show k + 1 + j = k + (j + 1) by omega]
      exact this
    rw [List.length_cons, show k + (r.length + 1) = k + 1 + r.length by omega]
    exact this
theorem listM_count : ∀ (l : List Bool) (n : Nat), (listM n l).length = l.countP id
  | [], _ => rfl
  | a :: r, n => by
    have := listM_count r (n + 1)
    cases a <;> simp [listM, this]
theorem sum_bits : ∀ l : List Bool, (l.map fun b => if b = true then 1 else 0).sum = l.countP id
  | [] => rfl
  | a :: r => by
    have := sum_bits r
    cases a <;> simp [this] <;> omega
theorem count_one {k n : Int} : ∀ {l : List Rng}, (l.map Rng.blk).Pairwise (· < ·) → l.countP (atP k n) ≤ 1
  | [], _ => by simp
  | r :: l, h => by
    rw [List.map_cons, List.pairwise_cons] at h
    have ih := count_one (k := k) (n := n) h.2
    rw [List.countP_cons]
    split
    · rename_i hr
      have : l.countP (atP k n) = 0 := by
        rw [List.countP_eq_zero]
        intro x hx q
        have h1 := h.1 _ (List.mem_map.2 ⟨x, hx, rfl⟩)
        have h2 := (atP_iff.1 hr).1
        have h3 := (atP_iff.1 q).1
        omega
      omega
    omega
theorem count_at {f : Func} (hv : FnV f) {S : List (List Bool)} {many : Nat} {ps : List (List Rng)} (h : All f S many f.blocks.length ps) {k : Nat} {b : Block} (hb : f.blocks[k]? = some b) (hs : seenF f k = true) (hin : ∀ i ∈ b.ins, 0 ≤ i.to ∧ ∀ a ∈ i.args, 0 ≤ a) {s0 : List Bool} (hs0 : S[k]? = some s0) (hl : s0.length = many) {n : Nat} (hn : n ≤ b.ins.length) :
    ps.flatten.countP (atP k n) = (listM 0 (setAt f S k n)).length := by
  have hbk : (blkOf f k).ins = b.ins := by simp [blkOf, hb]
  have hkl := lt_of_getElem? hb
  rw [listM_count, List.countP_flatten, ← sum_bits]
  congr 1
  refine List.ext_getElem? fun v => ?_
  have hsl : (setAt f S k n).length = many := by rw [setAt_len, hs0]; exact hl
  by_cases hvm : v < many
  · obtain ⟨l, hpl⟩ : ∃ l, ps[v]? = some l := ⟨_, List.getElem?_eq_getElem (by rw [h.len]; exact hvm)⟩
    obtain ⟨a, ha⟩ : ∃ a, (setAt f S k n)[v]? = some a := ⟨_, List.getElem?_eq_getElem (by rw [hsl]; exact hvm)⟩
    rw [List.getElem?_map, List.getElem?_map, hpl, ha]
    simp only [Option.map_some, Option.some.injEq]
    have hone := count_one (k := k) (n := n) (h.ups v l hpl)
    cases a with
    | true =>
      obtain ⟨l', r, c1, c2, c3, c4, c5, c6⟩ := h.cov k hkl n (by rw [hbk]; exact hn) v ha
      rw [Int.toNat_natCast, hpl] at c1
      simp only [Option.some.injEq] at c1
      subst c1
      have : 0 < l.countP (atP k n) := List.countP_pos_iff.2 ⟨r, c2, atP_iff.2 ⟨c4, c5, c6⟩⟩
      simp only [if_true]
      omega
    | false =>
      simp only [Bool.false_eq_true, if_false, List.countP_eq_zero]
      intro r hr q
      obtain ⟨q1, q2, q3⟩ := atP_iff.1 q
      obtain ⟨k', n1, n2, b1, b2, b3, b4, b5, b6, b7, b8⟩ := h.ends v l r hpl hr
      have : k' = k := by omega
      subst this
      rw [hbk] at b6
      have := set_convex hv hb hs hin (show n1 ≤ n by omega) (show n ≤ n2 by omega) b6 b7 b8
      rw [Hs, ha] at this
      cases this
  rw [List.getElem?_eq_none (by simp [h.len]; omega), List.getElem?_eq_none (by simp [hsl]; omega)]
end Go.Proofs.Ytlclgfgmhnmnaaa
end

section
namespace Go.Proofs.Ytlclgfgmhnmnaaa
open Go.Av
def prStep (x : Nat) (_ : Nat) (s : List Bool) : Nat := max x (listM 0 s).length
def prFrom (f : Func) : List (List Bool) → Nat → Nat → Nat
  | [], _, x => x
  | s :: r, k, x => prFrom f r (k + 1) (backRun prStep (blkOf f k).ins (blkOf f k).ins.length x s)
def twoIn (v w : Nat) (s : List Bool) : Bool := s[v]?.getD false && s[w]?.getD false
def inStep (v w : Nat) (x : Bool) (_ : Nat) (s : List Bool) : Bool := x || twoIn v w s
def inFrom (f : Func) (v w : Nat) : List (List Bool) → Nat → Bool → Bool
  | [], _, x => x
  | s :: r, k, x => inFrom f v w r (k + 1) (backRun (inStep v w) (blkOf f k).ins (blkOf f k).ins.length x s)
theorem twoIn_iff {v w : Nat} {s : List Bool} : twoIn v w s = true ↔ Hs s v ∧ Hs s w := by
  have key : ∀ o : Option Bool, o.getD false = true ↔ o = some true := fun o => by
    cases o with
    | none => simp
    | some a => simp
  rw [twoIn, Bool.and_eq_true, key, key]
  rfl
theorem prBlock {f : Func} {S : List (List Bool)} {k : Nat} {s0 : List Bool} (hs0 : S[k]? = some s0) (x0 : Nat) :
    (∀ n, n ≤ (blkOf f k).ins.length → (listM 0 (setAt f S k n)).length ≤ backRun prStep (blkOf f k).ins (blkOf f k).ins.length x0 s0) ∧ x0 ≤ backRun prStep (blkOf f k).ins (blkOf f k).ins.length x0 s0 ∧
      (backRun prStep (blkOf f k).ins (blkOf f k).ins.length x0 s0 = x0 ∨ ∃ n, n ≤ (blkOf f k).ins.length ∧ backRun prStep (blkOf f k).ins (blkOf f k).ins.length x0 s0 = (listM 0 (setAt f S k n)).length) := by
  have hst : ∀ (n x : Nat), n ≤ (blkOf f k).ins.length → (∀ m, n < m → m ≤ (blkOf f k).ins.length → (listM 0 (setAt f S k m)).length ≤ x) → x0 ≤ x → (x = x0 ∨ ∃ m, m ≤ (blkOf f k).ins.length ∧ x = (listM 0 (setAt f S k m)).length) →
      (∀ m, n ≤ m → m ≤ (blkOf f k).ins.length → (listM 0 (setAt f S k m)).length ≤ prStep x n (setAt f S k n)) ∧ x0 ≤ prStep x n (setAt f S k n) ∧ (prStep x n (setAt f S k n) = x0 ∨ ∃ m, m ≤ (blkOf f k).ins.length ∧ prStep x n (setAt f S k n) = (listM 0 (setAt f S k m)).length) := fun n x hn h1 h2 h3 => by
    unfold prStep
    refine ⟨fun m a b => ?_, by omega, ?_⟩
    · by_cases e : m = n
      · subst e
        omega
      have := h1 m (by omega) b
      omega
    by_cases e : (listM 0 (setAt f S k n)).length ≤ x
    · rw [Nat.max_eq_left e]
      exact h3
    exact .inr ⟨n, hn, by omega⟩
  obtain ⟨x', s', ⟨j1, j2, j3, j4, j5⟩, he⟩ := backRun_ind (step := prStep) (l := (blkOf f k).ins) (J := fun n x s => s = setAt f S k n ∧ n ≤ (blkOf f k).ins.length ∧ (∀ m, n < m → m ≤ (blkOf f k).ins.length → (listM 0 (setAt f S k m)).length ≤ x) ∧ x0 ≤ x ∧ (x = x0 ∨ ∃ m, m ≤ (blkOf f k).ins.length ∧ x = (listM 0 (setAt f S k m)).length)) (fun n x s i hi ⟨j1, j2, j3, j4, j5⟩ => by
      subst j1
      obtain ⟨a, b, c⟩ := hst (n + 1) x j2 j3 j4 j5
      exact ⟨(setAt_step hi).symm, by omega, fun m h1 h2 => a m (by omega) h2, b, c⟩)
    (blkOf f k).ins.length x0 s0 (Nat.le_refl _) ⟨by simp [setAt, hs0, backM], Nat.le_refl _, fun m h1 h2 => by omega, Nat.le_refl _, .inl rfl⟩
  subst j1
  obtain ⟨a, b, c⟩ := hst 0 x' (by omega) j3 j4 j5
  rw [he]
  exact ⟨fun n hn => a n (by omega) hn, b, c⟩
theorem prFrom_most {f : Func} {S : List (List Bool)} : ∀ (l : List (List Bool)) (k x0 : Nat), (∀ j s, l[j]? = some s → S[k + j]? = some s) →
    (∀ k', k ≤ k' → k' < k + l.length → ∀ n, n ≤ (blkOf f k').ins.length → (listM 0 (setAt f S k' n)).length ≤ prFrom f l k x0) ∧ x0 ≤ prFrom f l k x0 ∧ (prFrom f l k x0 = x0 ∨ ∃ k' n : Nat, k ≤ k' ∧ k' < k + l.length ∧ n ≤ (blkOf f k').ins.length ∧ prFrom f l k x0 = (listM 0 (setAt f S k' n)).length)
  | [], k, x0, _ => ⟨fun k' h1 h2 => by simp at h2; omega, Nat.le_refl _, .inl rfl⟩
  | s :: r, k, x0, hl => by
    obtain ⟨a1, a2, a3⟩ := prBlock (f := f) (k := k) (S := S) (s0 := s) (hl 0 s rfl) x0
    obtain ⟨b1, b2, b3⟩ := prFrom_most (f := f) r (k + 1) (backRun prStep (blkOf f k).ins (blkOf f k).ins.length x0 s) fun j x hx => by
      have := hl (j + 1) x (by simpa using hx)
      rw [show k + 1 + j = k + (j + 1) by omega]
      exact this
    simp only [prFrom, List.length_cons]
    refine ⟨fun k' h1 h2 n hn => ?_, Nat.le_trans a2 b2, ?_⟩
    · by_cases e : k' = k
      · subst e
        exact Nat.le_trans (a1 n hn) b2
      exact b1 k' (by omega) (by omega) n hn
    rcases b3 with q | ⟨k', n, q1, q2, q3, q4⟩
    · rw [q]
      rcases a3 with q | ⟨n, q1, q2⟩
      · exact .inl q
      exact .inr ⟨k, n, by omega, by omega, q1, q2⟩
    exact .inr ⟨k', n, by omega, by omega, q3, q4⟩
theorem inBlock {f : Func} {S : List (List Bool)} {k v w : Nat} {s0 : List Bool} (hs0 : S[k]? = some s0) (x0 : Bool) :
    backRun (inStep v w) (blkOf f k).ins (blkOf f k).ins.length x0 s0 = true ↔ x0 = true ∨ ∃ n, n ≤ (blkOf f k).ins.length ∧ twoIn v w (setAt f S k n) = true := by
  obtain ⟨x', s', ⟨j1, j2, j3⟩, he⟩ := backRun_ind (step := inStep v w) (l := (blkOf f k).ins) (J := fun n x s => s = setAt f S k n ∧ n ≤ (blkOf f k).ins.length ∧ (x = true ↔ x0 = true ∨ ∃ m, n < m ∧ m ≤ (blkOf f k).ins.length ∧ twoIn v w (setAt f S k m) = true)) (fun n x s i hi ⟨j1, j2, j3⟩ => by
      subst j1
      refine ⟨(setAt_step hi).symm, by omega, ?_⟩
      rw [inStep, Bool.or_eq_true, j3]
      constructor
      · rintro ((q | ⟨m, q1, q2, q3⟩) | q)
        · exact .inl q
        · exact .inr ⟨m, by omega, q2, q3⟩
        exact .inr ⟨n + 1, by omega, j2, q⟩
      rintro (q | ⟨m, q1, q2, q3⟩)
      · exact .inl (.inl q)
      by_cases e : m = n + 1
      · subst e
        exact .inr q3
      exact .inl (.inr ⟨m, by omega, q2, q3⟩))
    (blkOf f k).ins.length x0 s0 (Nat.le_refl _) ⟨by simp [setAt, hs0, backM], Nat.le_refl _, ⟨fun q => .inl q, fun q => by
      rcases q with q | ⟨m, q1, q2, _⟩
      · exact q
      omega⟩⟩
  subst j1
  rw [he, inStep, Bool.or_eq_true, j3]
  constructor
  · rintro ((q | ⟨m, q1, q2, q3⟩) | q)
    · exact .inl q
    · exact .inr ⟨m, q2, q3⟩
    exact .inr ⟨0, by omega, q⟩
  rintro (q | ⟨m, q2, q3⟩)
  · exact .inl (.inl q)
  by_cases e : m = 0
  · subst e
    exact .inr q3
  exact .inl (.inr ⟨m, by omega, q2, q3⟩)
theorem inFrom_iff {f : Func} {S : List (List Bool)} {v w : Nat} : ∀ (l : List (List Bool)) (k : Nat) (x0 : Bool), (∀ j s, l[j]? = some s → S[k + j]? = some s) →
    (inFrom f v w l k x0 = true ↔ x0 = true ∨ ∃ k' n : Nat, k ≤ k' ∧ k' < k + l.length ∧ n ≤ (blkOf f k').ins.length ∧ twoIn v w (setAt f S k' n) = true)
  | [], k, x0, _ => by
    simp only [inFrom, List.length_nil]
    refine ⟨fun q => .inl q, fun q => ?_⟩
    rcases q with q | ⟨k', n, q1, q2, _⟩
    · exact q
    omega
  | s :: r, k, x0, hl => by
    rw [inFrom, inFrom_iff r (k + 1) _ fun j x hx => by
      have := hl (j + 1) x (by simpa using hx)
      rw [show k + 1 + j = k + (j + 1) by omega]
      exact this, inBlock (S := S) (k := k) (hl 0 s rfl) x0]
    simp only [List.length_cons]
    constructor
    · rintro ((q | ⟨n, q1, q2⟩) | ⟨k', n, q1, q2, q3, q4⟩)
      · exact .inl q
      · exact .inr ⟨k, n, by omega, by omega, q1, q2⟩
      exact .inr ⟨k', n, by omega, by omega, q3, q4⟩
    rintro (q | ⟨k', n, q1, q2, q3, q4⟩)
    · exact .inl (.inl q)
    by_cases e : k' = k
    · subst e
      exact .inl (.inr ⟨n, q3, q4⟩)
    exact .inr ⟨k', n, by omega, by omega, q3, q4⟩
def highM (out : List Rng) : Nat := out.foldl (fun h x => max h (out.countP (atP x.blk x.fr))) 0
def togP (v w : Int) (x y : Rng) : Bool := decide (x.val = v) && (decide (y.val = w) && (decide (x.blk = y.blk) && (decide (x.fr ≤ y.til) && decide (y.fr ≤ x.til))))
def bothM (out : List Rng) (v w : Int) : Bool := out.any fun x => out.any (togP v w x)
theorem foldMax {α : Type} {g : α → Nat} : ∀ (l : List α) (x0 : Nat), (∀ x ∈ l, g x ≤ l.foldl (fun h x => max h (g x)) x0) ∧ x0 ≤ l.foldl (fun h x => max h (g x)) x0 ∧ (l.foldl (fun h x => max h (g x)) x0 = x0 ∨ ∃ x ∈ l, l.foldl (fun h x => max h (g x)) x0 = g x)
  | [], x0 => ⟨by simp, Nat.le_refl _, .inl rfl⟩
  | a :: r, x0 => by
    obtain ⟨h1, h2, h3⟩ := foldMax r (max x0 (g a))
    simp only [List.foldl_cons]
    refine ⟨fun x hx => ?_, Nat.le_trans (Nat.le_max_left _ _) h2, ?_⟩
    · rcases List.mem_cons.1 hx with rfl | q
      · exact Nat.le_trans (Nat.le_max_right _ _) h2
      exact h1 x q
    rcases h3 with q | ⟨x, q1, q2⟩
    · by_cases e : g a ≤ x0
      · exact .inl (by omega)
      exact .inr ⟨a, by simp, by omega⟩
    exact .inr ⟨x, by simp [q1], q2⟩
theorem exists_max {α : Type} {p : α → Prop} {g : α → Int} : ∀ (l : List α), (∃ x ∈ l, p x) → ∃ x ∈ l, p x ∧ ∀ y ∈ l, p y → g y ≤ g x
  | [], h => by simp at h
  | a :: r, h => by
    by_cases hr : ∃ x ∈ r, p x
    · obtain ⟨x, h1, h2, h3⟩ := exists_max (g := g) r hr
      by_cases ha : p a ∧ g x < g a
      · refine ⟨a, by simp, ha.1, fun y hy hp => ?_⟩
        rcases List.mem_cons.1 hy with rfl | q
        · omega
        have := h3 y q hp
        omega
      refine ⟨x, by simp [h1], h2, fun y hy hp => ?_⟩
      rcases List.mem_cons.1 hy with rfl | q
      · by_cases e : g x < g y
        · exact absurd ⟨hp, e⟩ ha
        omega
      exact h3 y q hp
    obtain ⟨x, h1, h2⟩ := h
    rcases List.mem_cons.1 h1 with rfl | q
    · refine ⟨x, by simp, h2, fun y hy hp => ?_⟩
      rcases List.mem_cons.1 hy with rfl | q
      · omega
      exact absurd ⟨y, q, hp⟩ hr
    exact absurd ⟨x, q, h2⟩ hr
structure LiveW (f : Func) (S : List (List Bool)) (many : Nat) (ps : List (List Rng)) : Prop where
  all : All f S many f.blocks.length ps
  seen : ∀ k, k < f.blocks.length → seenF f k = true
  pos : ∀ b ∈ f.blocks, ∀ i ∈ b.ins, 0 ≤ i.to ∧ ∀ a ∈ i.args, 0 ≤ a
  beh : ∀ k, k < f.blocks.length → ∃ s, S[k]? = some s ∧ s.length = many
theorem LiveW.count {f : Func} (hv : FnV f) {S : List (List Bool)} {many : Nat} {ps : List (List Rng)} (h : LiveW f S many ps) {k n : Nat} (hk : k < f.blocks.length) (hn : n ≤ (blkOf f k).ins.length) : ps.flatten.countP (atP k n) = (listM 0 (setAt f S k n)).length := by
  obtain ⟨b, hb⟩ : ∃ b, f.blocks[k]? = some b := ⟨_, List.getElem?_eq_getElem hk⟩
  obtain ⟨s, h1, h2⟩ := h.beh k hk
  exact count_at hv h.all hb (h.seen k hk) (h.pos b (List.mem_of_getElem? hb)) h1 h2 (by simpa [blkOf, hb] using hn)
theorem LiveW.part {f : Func} {S : List (List Bool)} {many : Nat} {ps : List (List Rng)} (h : LiveW f S many ps) {r : Rng} (hr : r ∈ ps.flatten) : ∃ (v k n1 n2 : Nat), r.val = v ∧ r.blk = k ∧ r.fr = n1 ∧ r.til = n2 ∧ k < f.blocks.length ∧ n1 ≤ n2 ∧ n2 ≤ (blkOf f k).ins.length ∧ Hs (setAt f S k n1) v ∧ Hs (setAt f S k n2) v := by
  obtain ⟨l, h1, h2⟩ := List.mem_flatten.1 hr
  obtain ⟨v, hv⟩ := List.getElem?_of_mem h1
  obtain ⟨k, n1, n2, b1, b2, b3, b4, b5, b6, b7, b8⟩ := h.all.ends v l r hv h2
  obtain ⟨c1, c2, _⟩ := h.all.wd 0 v l r hv h2
  exact ⟨v, k, n1, n2, c1, b1, b2, b3, b4, by omega, b6, b7, b8⟩
theorem high_most {f : Func} (hv : FnV f) {S : List (List Bool)} {many : Nat} {ps : List (List Rng)} (h : LiveW f S many ps) (hS : S.length = f.blocks.length) : highM ps.flatten = prFrom f S 0 0 := by
  obtain ⟨m1, _, m3⟩ := prFrom_most (f := f) (S := S) S 0 0 fun j s hj => by rw [Nat.zero_add]; exact hj
  obtain ⟨g1, _, g3⟩ := foldMax (g := fun x : Rng => ps.flatten.countP (atP x.blk x.fr)) ps.flatten 0
  change (∀ x ∈ ps.flatten, _ ≤ highM ps.flatten) at g1
  change (highM ps.flatten = 0 ∨ ∃ x ∈ ps.flatten, highM ps.flatten = _) at g3
  refine Nat.le_antisymm ?_ ?_
  · rcases g3 with q | ⟨x, q1, q2⟩
    · omega
    obtain ⟨v, k, n1, n2, b1, b2, b3, b4, b5, b6, b7, b8, b9⟩ := h.part q1
    rw [b2, b3, h.count hv b5 (by omega)] at q2
    rw [q2]
    exact m1 k (by omega) (by omega) n1 (by omega)
  rcases m3 with q | ⟨k, n, q1, q2, q3, q4⟩
  · omega
  rw [q4, ← h.count hv (by omega) q3]
  by_cases e : 0 < ps.flatten.countP (atP k n)
  · obtain ⟨x0, hx0, hp0⟩ := List.countP_pos_iff.1 e
    obtain ⟨x, h1, h2, h3⟩ := exists_max (p := fun r => atP k n r = true) (g := Rng.fr) ps.flatten ⟨x0, hx0, hp0⟩
    refine Nat.le_trans (List.countP_mono_left fun y hy hpy => ?_) (g1 x h1)
    obtain ⟨c1, c2, c3⟩ := atP_iff.1 h2
    obtain ⟨d1, d2, d3⟩ := atP_iff.1 hpy
    have := h3 y hy hpy
    exact atP_iff.2 ⟨by omega, this, by omega⟩
  omega
theorem both_in {f : Func} (hv : FnV f) {S : List (List Bool)} {many : Nat} {ps : List (List Rng)} (h : LiveW f S many ps) (hS : S.length = f.blocks.length) (v w : Nat) : bothM ps.flatten v w = inFrom f v w S 0 false := by
  have hin := inFrom_iff (f := f) (S := S) (v := v) (w := w) S 0 false fun j s hj => by rw [Nat.zero_add]; exact hj
  rw [Bool.eq_iff_iff, hin]
  simp only [bothM, List.any_eq_true, togP, Bool.and_eq_true, decide_eq_true_eq, Bool.false_eq_true, false_or]
  constructor
  · rintro ⟨x, hx, y, hy, e1, e2, e3, e4, e5⟩
    obtain ⟨v1, k1, n1, n2, b1, b2, b3, b4, b5, b6, b7, b8, b9⟩ := h.part hx
    obtain ⟨v2, k2, m1, m2, c1, c2, c3, c4, c5, c6, c7, c8, c9⟩ := h.part hy
    have : k2 = k1 := by omega
    subst this
    have : v1 = v := by omega
    subst this
    have : v2 = w := by omega
    subst this
    obtain ⟨b, hb⟩ : ∃ b, f.blocks[k2]? = some b := ⟨_, List.getElem?_eq_getElem b5⟩
    have hbk : (blkOf f k2).ins = b.ins := by simp [blkOf, hb]
    rw [hbk] at b7 c7
    have hp := h.pos b (List.mem_of_getElem? hb)
    refine ⟨k2, max n1 m1, by omega, by omega, by rw [hbk]; omega, twoIn_iff.2 ⟨?_, ?_⟩⟩
    · exact set_convex hv hb (h.seen k2 b5) hp (show n1 ≤ max n1 m1 by omega) (show max n1 m1 ≤ n2 by omega) b7 b8 b9
    exact set_convex hv hb (h.seen k2 b5) hp (show m1 ≤ max n1 m1 by omega) (show max n1 m1 ≤ m2 by omega) c7 c8 c9
  rintro ⟨k, n, q1, q2, q3, q4⟩
  obtain ⟨h1, h2⟩ := twoIn_iff.1 q4
  obtain ⟨l, x, a1, a2, a3, a4, a5, a6⟩ := h.all.cov k (by omega) n q3 v h1
  obtain ⟨m, y, c1, c2, c3, c4, c5, c6⟩ := h.all.cov k (by omega) n q3 w h2
  exact ⟨x, List.mem_flatten.2 ⟨l, List.mem_of_getElem? a1, a2⟩, y, List.mem_flatten.2 ⟨m, List.mem_of_getElem? c1, c2⟩, a3, c3, by omega, by omega, by omega⟩
end Go.Proofs.Ytlclgfgmhnmnaaa
end

section
set_option linter.unusedSimpArgs false
set_option maxRecDepth 100000
set_option maxHeartbeats 4000000
namespace Go.Proofs.Ytlclgfgmhnmnaaa
open Go.Av
def lvX (f : Func) (S : Lv) (x : AVal) (s : List Bool) : List AObj := lvO f S ++ [.cells [x]] ++ [.cells (s.map eB)]
theorem lvX_upto {f : Func} {S : Lv} {x : AVal} {s : List Bool} (hx : x.upto 7) : ∀ o ∈ lvX f S x s, o.upto 7 := by
 intro o ho
 rcases List.mem_append.1 ho with q | q
 ·rcases List.mem_append.1 q with q | q
  ·exact AObj.upto_mono (by omega) (lvO_upto f S o q)
  rw [List.mem_singleton.1 q]
  exact ⟨hx, trivial⟩
 rw [List.mem_singleton.1 q]
 exact eB_upto 7 s
theorem lvX_get (f : Func) (S : Lv) (x : AVal) (s : List Bool) : (lvX f S x s)[5]? = some (.cells [x]) ∧ (lvX f S x s)[6]? = some (.cells (s.map eB)) ∧ (∀ y, (lvX f S x s).set 5 (.cells [y]) = lvX f S y s) ∧ (∀ t : List Bool, (lvX f S x s).set 6 (.cells (t.map eB)) = lvX f S x t) ∧ (lvX f S x s).length = 7 := ⟨rfl, rfl, fun _ => rfl, fun _ => rfl, rfl⟩
theorem press1_spec {f : Func} {S : Lv} {many : Nat} (x n : Nat) {s : List Bool} (hs : s.length = many) (hm : many ≤ 2 ^ 30) :
  ECall Try.prog 48 (lvX f S (aI x) s) [aI n, .ms 6 0 many many, .mp 5 0] (fun r O' => r = .tup [] ∧ O' = lvX f S (aI (prStep x n s : Nat)) s) := by
 obtain ⟨g5, g6, gs, _, gl⟩ := lvX_get f S (aI x) s
 have hlu := lvX_upto (f := f) (S := S) (x := aI x) (s := s) trivial
 have hlu2 := lvX_upto (f := f) (S := S) (x := aI (prStep x n s : Nat)) (s := s) trivial
 have hlist := listO_spec (O := lvX f S (aI x) s) (by rw [gl]; exact hlu) g6 hs (by omega)
 have hmax : max (x : Int) ((listM 0 s).length : Int) = ((prStep x n s : Nat) : Int) := by
  unfold prStep
  omega
 have hp := gs (aI (prStep x n s : Nat))
 have gl2 := (lvX_get f S (aI (prStep x n s : Nat)) s).2.2.2.2
 generalize listM 0 s = l at *
 generalize lvX f S (aI x) s = O at *
 generalize lvX f S (aI (prStep x n s : Nat)) s = O2 at *
 have gl7 : O.length ≤ 7 := Nat.le_of_eq gl
 have h57 : 5 < O.length := by omega
 refine ecall_of hT true (7) Try.func48 rfl (by kernel_rfl) (by simp [Try.ntmps48]) (by assumption) ?_
 show AWP Try.prog _ _ _ ⟨10, _, _⟩
 dsimp only [Tmp, TypeId, slotsOf]
 refine zg0 ?_
 simp -dsimp only [simprocAttr, ↓vpre, zp, g5]
 refine .inr (.inr ⟨_, hlist, later_intro ?_⟩)
 simp -dsimp only [simprocAttr, ↓vpre, zp, g5, hmax, hp, gl]
 refine ⟨ob (by kernel_rfl), at_intro ?_⟩
 skip
 simp -dsimp only [simprocAttr, ↓vpre, zp, zr, Try.results48]
 exact ⟨by omega, fun o ho => hlu2 o (List.mem_of_mem_take ho), trivial, List.take_of_length_le (by omega)⟩
def pressR (f : Func) : AVal := if checkFuncM f = 0 then .tup [aI (prFrom f (liveM f).behind 0 0 : Nat), aI 0] else .tup [aI 0, aI (checkFuncM f)]
theorem prStep_le {many x n : Nat} {s : List Bool} (hs : s.length = many) (hx : x ≤ many) : prStep x n s ≤ many := by
 unfold prStep
 have := listM_count s 0
 have := List.countP_le_length (p := id) (l := s)
 omega
theorem prRun_le {many : Nat} {l : List Ins} {s0 : List Bool} (hs : s0.length = many) {x : Nat} (hx : x ≤ many) : backRun prStep l l.length x s0 ≤ many := by
 obtain ⟨x', s', ⟨j1, j2⟩, he⟩ := backRun_ind (step := prStep) (l := l) (J := fun _ x s => s.length = many ∧ x ≤ many) (fun n x s i _ ⟨j1, j2⟩ => ⟨by rw [backI_len, j1], prStep_le j1 j2⟩) l.length x s0 (Nat.le_refl _) ⟨hs, hx⟩
 rw [he]
 exact prStep_le j1 j2
theorem lvX_6 {f : Func} {S : Lv} {x : AVal} (hx : x.upto 6) : ∀ o ∈ lvO f S ++ [AObj.cells [x]], o.upto 6 := fun o ho => by
 rcases List.mem_append.1 ho with q | q
 ·exact AObj.upto_mono (by omega) (lvO_upto f S o q)
 rw [List.mem_singleton.1 q]
 exact ⟨hx, trivial⟩
theorem press_back {f : Func} {S : Lv} {many N k x : Nat} {b : Block} {s0 : List Bool} (hin : ∀ i ∈ b.ins, InR many i.to ∧ ∀ a ∈ i.args, InR many a) (hmy : many ≤ 2 ^ 20) (hx : x ≤ many) (hb : f.blocks[k]? = some b) (hs0 : S.behind[k]? = some s0) (hne : s0 ≠ []) (hsl : s0.length = many) (hil : b.ins.length ≤ 2 ^ 47) (hl2 : S.behind.length = N) (hN : N = f.blocks.length) (hM : many = manyM f) :
  ECall Try.prog 44 (lvO f S ++ [.cells [aI x]]) [.mp 3 0, aI k, .fn (.func 48) [] [.mp 5 0]] (fun r O' => r = .lst 1 ((backM b.ins s0).map eB) .nn ∧ O' = lvO f S ++ [.cells [aI (backRun prStep (blkOf f k).ins (blkOf f k).ins.length x s0 : Nat)]]) := by
 have hbk : (blkOf f k).ins = b.ins := by simp [blkOf, hb]
 rw [hbk]
 have hA : (lvO f S ++ [.cells [aI x]])[3]? = some (.cells (lifeC f many 2 N)) := by
  rw [hN, hM]
  rfl
 exact back_spec (X := Nat) (enc := fun x s => lvX f S (aI x) s) (Inv := fun x => x ≤ many) (step := prStep) (x0 := x) (O0 := lvO f S ++ [AObj.cells [aI x]]) (K := 6) hx (lvX_6 (f := f) (S := S) (x := aI x) trivial) (fun _ => rfl) (fun _ _ _ => rfl) (fun _ _ _ _ => rfl) (fun _ _ _ => lvX_upto trivial) (f := f) (many := many) (N := N) (A := 3) (B := 2) (behind := S.behind) hA rfl hl2 hmy hb hs0 hne hsl hil hin (.fn (.func 48) [] [.mp 5 0])
  (fun _ _ _ hx _ hs => prStep_le hs hx) (.inr ⟨48, _, rfl, ⟨by show 5 < 6; omega, trivial⟩, fun x n s _ _ hs => press1_spec x n hs (by omega)⟩) (Nat.le_refl _) (fun x s _ _ => ⟨by show 6 ≤ 7; omega, fun o ho => lvX_6 (f := f) (S := S) (x := aI x) trivial o ho⟩)
theorem pressure_spec (f : Func) (hfit : f.fit) : PCall Try.prog 19 [f.enc] (pressR f) := by
 unfold pressR
 by_cases hc : checkFuncM f = 0
 ·rw [if_pos hc]
  have hv := checkFunc_v hfit hc
  have hn : f.blocks.length ≤ 128 := hv.fn.few
  have hmy := hv.many hv.fresh
  have hb := build_spec f hfit hc
  obtain ⟨hok, hfix⟩ := live_fix hn hv.fresh
  obtain ⟨R, hR⟩ : ∃ R, R = prFrom f (liveM f).behind 0 0 := ⟨_, rfl⟩
  rw [← hR]
  have hlu := lvO_upto f (liveM f)
  generalize liveM f = S at *
  obtain ⟨N, hN⟩ : ∃ N, N = f.blocks.length := ⟨_, rfl⟩
  obtain ⟨many, hM⟩ : ∃ many, many = manyM f := ⟨_, rfl⟩
  rw [← hM] at hmy
  have hl2 := hok.len2
  rw [← hN] at hl2 hn hfix hb
  refine zf true 0 Try.func19 Try.ntmps19 ?_
  dsimp only [Tmp, TypeId, slotsOf]
  refine zh1 (za0 ?_)
  refine awp_freeze1 1 0 (.ip none [aI f.name, eBlocks f.blocks]) rfl (by simp [AObj.isSpare]) trivial rfl ?_ ?_
  rotate_left
  simp -dsimp only [simprocAttr, ↓vpre, zp]
  ·refine zh1 ?_
   refine .inr (.inl ⟨_, _, hb, .inl (later_intro (zj ?_))⟩)
   refine za0 ?_
   refine zh2 (za0 ?_)
   apply zk0 rfl <;> intro h
   ·cases h
   refine zb0 ?_
   refine zh1 (za0 ?_)
   refine zg2 ?_
   simp -dsimp only [simprocAttr, ↓vpre, zp, ← hN]
   refine za0 ?_
   refine awp_block (awp_loop (ι := {x : Nat × Nat // x.1 ≤ N ∧ x.2 ≤ many ∧ R = prFrom f (S.behind.drop x.1) x.1 x.2}) (fun x => ⟨30, [(4, .mp 3 0), (7, .mp 5 0), (20, aI N), (21, aI x.1.1)], lvO f S ++ [.cells [aI x.1.2]]⟩) (fun x => N - x.1.1) ⟨(0, 0), by simp, by simp, hR⟩ ?_ ?_)
   ·refine zq rfl ?_ ?_
    simp -dsimp only [simprocAttr, ↓vpre, zp, zc]
    ·exact Sub.refl _
    rfl
   rintro ⟨⟨k, y⟩, hk, hy, hke⟩
   simp only at hk hy hke
   refine zh1 (za0 ?_)
   apply zk1 rfl <;> intro h
   ·refine zb0 ?_
    have hlt : k < N := by simpa using h
    obtain ⟨b, hbk⟩ : ∃ b, f.blocks[k]? = some b := ⟨f.blocks[k]'(by omega), List.getElem?_eq_getElem _⟩
    obtain ⟨s0, hs0, hne, hsl, _, _⟩ := hfix k hlt
    have hbr := press_back (x := y) (by rw [hM]; exact hv.ins hbk) (by omega) hy hbk hs0 hne (by rw [hsl, hM]) ((hfit.2.2 b (List.mem_of_getElem? hbk)).2.2.1) hl2 hN hM
    rw [drop_at hs0] at hke
    simp only [prFrom] at hke
    obtain ⟨y1, hy1⟩ : ∃ y1, y1 = backRun prStep (blkOf f k).ins (blkOf f k).ins.length y s0 := ⟨_, rfl⟩
    have hy1l : y1 ≤ many := by
     rw [hy1]
     exact prRun_le (by rw [hsl, hM]) hy
    rw [← hy1] at hke hbr
    refine awp_seq (awp_block ?_)
    refine zh1 (za0 ?_)
    refine zh0 ?_
    refine .inr (.inl ⟨_, _, hbr, .inl (later_intro (zj ?_))⟩)
    refine za0 ?_
    refine zh0 ?_
    repeat (refine ⟨by omega, ?_⟩)
    refine zl0 ?_
    refine ⟨⟨(k + 1, y1), hlt, hy1l, hke⟩, by simp; omega, ?_⟩
    refine zq rfl ?_ ?_
    simp -dsimp only [simprocAttr, ↓vpre, zp, zc]
    ·exact Sub.int (by simp)
    rfl
   refine awp_exit ?_
   simp -dsimp only [vend, ne_eq, Nat.reduceEqDiff, reduceCtorEq]
   have hkk : k = N := by simp at h; omega
   subst hkk
   rw [List.drop_of_length_le (by omega)] at hke
   simp only [prFrom] at hke
   subst hke
   have g5 : ∀ y : Nat, (lvO f S ++ [AObj.cells [aI y]])[5]? = some (.cells [aI y]) := fun _ => rfl
   refine zg1 ?_
   simp -dsimp only [simprocAttr, ↓vpre, zp, g5]
   refine za0 ?_
   refine awp_ret ?_
   simp -dsimp only [simprocAttr, ↓vpre, zp, zr, Try.results19]
   simp [uptoL, AVal.upto]
  exact FSub.mp rfl rfl
 rw [if_neg hc]
 have hb := build_bad f hfit hc
 obtain ⟨e, he⟩ : ∃ e, e = checkFuncM f := ⟨_, rfl⟩
 rw [← he] at hc hb ⊢
 have hde : decide (e = 0) = false := decide_eq_false hc
 refine zf true 0 Try.func19 Try.ntmps19 ?_
 dsimp only [Tmp, TypeId, slotsOf]
 refine zh1 (za0 ?_)
 refine awp_freeze1 1 0 (.ip none [aI f.name, eBlocks f.blocks]) rfl (by simp [AObj.isSpare]) trivial rfl ?_ ?_
 rotate_left
 simp -dsimp only [simprocAttr, ↓vpre, zp]
 ·refine zh1 ?_
  refine .inl ⟨_, hb, by simp only [uptoL, AVal.upto, zt, zu, aI_upto, eB_upto], later_intro ?_⟩
  simp -dsimp only [simprocAttr, ↓vpre, zp]
  refine za0 ?_
  refine zg2 ?_
  simp -dsimp only [simprocAttr, ↓vpre, zp, hde]
  refine za0 ?_
  refine zw0 rfl ?_
  refine zh1 (za0 ?_)
  refine awp_ret ?_
  simp -dsimp only [simprocAttr, ↓vpre, zp, zr, Try.results19]
  simp [uptoL, AVal.upto]
 exact FSub.mp rfl rfl
end Go.Proofs.Ytlclgfgmhnmnaaa
end

section
set_option linter.unusedSimpArgs false
set_option maxRecDepth 100000
set_option maxHeartbeats 4000000
namespace Go.Proofs.Ytlclgfgmhnmnaaa
open Go.Av
def idxP {α : Type} (p : α → Bool) : List α → Nat → Int
 | [], _ => -1
 | a :: r, n => if p a = true then n else idxP p r (n + 1)
theorem idxP_any {α : Type} (p : α → Bool) : ∀ (l : List α) (n : Nat), decide (0 ≤ idxP p l n) = l.any p
 | [], _ => rfl
 | a :: r, n => by
  have ih := idxP_any p r (n + 1)
  simp only [idxP, List.any_cons]
  split
  ·rename_i h
   rw [h, Bool.true_or]
   exact decide_eq_true (by omega)
  rename_i h
  have h' : p a = false := by simpa using h
  rw [ih, h', Bool.false_or]
def toIs (v : Int) (i : Ins) : Bool := decide (i.to = v)
def hasDef (v : Int) (b : Block) : Bool := hasI b.params v || b.ins.any (toIs v)
def definedM (f : Func) (v : Int) : Bool := f.blocks.any (hasDef v)
theorem toIs_spec (v : Int) (i : Ins) : PCall Try.prog 78 [i.enc, .ip none [aI v]] (.v (.bool (toIs v i))) := by
 unfold toIs
 refine zf true 0 Try.func78 Try.ntmps78 ?_
 dsimp only [Tmp, TypeId, slotsOf]
 refine zh1 (za0 ?_)
 refine awp_freeze1 2 0 (.ip none [aI i.to, aI i.op, aI i.n, eIs i.args]) rfl (by simp [AObj.isSpare]) trivial rfl ?_ ?_
 rotate_left
 simp -dsimp only [simprocAttr, ↓vpre, zp]
 ·refine zh1 (za0 ?_)
  refine awp_ret ?_
  simp -dsimp only [simprocAttr, ↓vpre, zp, zr, Try.results78]
 exact FSub.mp rfl rfl
theorem ins_idx (l : List Ins) (v : Int) (p : Ins → Bool) (hp : ∀ x, PCall Try.prog 78 [x.enc, .ip none [aI v]] (.v (.bool (p x)))) : PCall Try.prog 102 [eInss l, .fn (.func 78) [] [.ip none [aI v]]] (aI (idxP p l 0)) := by
 obtain ⟨R, hR⟩ : ∃ R, R = idxP p l 0 := ⟨_, rfl⟩
 rw [← hR]
 refine zf true 0 Try.func102 Try.ntmps102 ?_
 dsimp only [Tmp, TypeId, slotsOf]
 refine zh1 (za0 ?_)
 refine awp_len 0 rfl (fun hll => ?_)
 simp only [List.length_map] at hll
 refine zh2 (za0 ?_)
 refine awp_block (awp_loop (ι := {k : Nat // k ≤ l.length ∧ R = idxP p (l.drop k) k}) (fun k => ⟨19, [(0, eInss l), (1, .fn (.func 78) [] [.ip none [aI v]]), (7, aI l.length), (8, aI k.1)], []⟩) (fun k => l.length - k.1) ⟨0, by omega, hR⟩ ?_ ?_)
 ·refine zq rfl ?_ ?_
  simp -dsimp only [simprocAttr, ↓vpre, zp, zc]
  rfl
 rintro ⟨k, hk, hke⟩
 refine zh1 (za0 ?_)
 apply zk1 rfl <;> intro h
 ·refine zb0 ?_
  have hlt : k < l.length := by simpa using h
  obtain ⟨x, hx⟩ : ∃ x, l[k]? = some x := ⟨l[k], by simp [hlt]⟩
  have hb := hp x
  rw [drop_at hx] at hke
  simp only [idxP] at hke
  refine awp_seq (awp_block ?_)
  refine zh1 (za0 ?_)
  cases hpx : p x with
  | true =>
   rw [hpx] at hke hb
   refine zg1 ?_
   simp -dsimp only [simprocAttr, ↓vpre, zp, hx]
   repeat (refine ⟨by omega, ?_⟩)
   refine zi hb ?_
   refine za0 ?_
   refine zw0 rfl ?_
   refine zh1 (za0 ?_)
   refine awp_ret ?_
   simp -dsimp only [simprocAttr, ↓vpre, zp, zr, Try.results102]
   rw [hke]
   rfl
  | false =>
   rw [hpx] at hke hb
   refine zg1 ?_
   simp -dsimp only [simprocAttr, ↓vpre, zp, hx]
   repeat (refine ⟨by omega, ?_⟩)
   refine zi hb ?_
   refine za0 ?_
   refine zu0 rfl ?_
   refine zb1 ?_
   refine zh0 ?_
   repeat (refine ⟨by omega, ?_⟩)
   refine zl0 ?_
   refine ⟨⟨k + 1, hlt, hke⟩, by simp; omega, ?_⟩
   refine zq rfl ?_ ?_
   simp -dsimp only [simprocAttr, ↓vpre, zp, zc]
   ·exact Sub.int (by simp)
   rfl
 refine awp_exit ?_
 simp -dsimp only [vend, ne_eq, Nat.reduceEqDiff, reduceCtorEq]
 have hkk : k = l.length := by simp at h; omega
 subst hkk
 rw [List.drop_length] at hke
 refine zh1 (za0 ?_)
 refine awp_ret ?_
 simp -dsimp only [simprocAttr, ↓vpre, zp, zr, Try.results102]
 rw [hke]
 rfl
theorem ins_any (l : List Ins) (v : Int) (p : Ins → Bool) (hp : ∀ x, PCall Try.prog 78 [x.enc, .ip none [aI v]] (.v (.bool (p x)))) : PCall Try.prog 77 [eInss l, .fn (.func 78) [] [.ip none [aI v]]] (.v (.bool (l.any p))) := by
 have hi := ins_idx l v p hp
 have hd := idxP_any p l 0
 refine zf true 0 Try.func77 Try.ntmps77 ?_
 dsimp only [Tmp, TypeId, slotsOf]
 refine zh1 (za0 ?_)
 refine zh1 ?_
 refine .inl ⟨_, hi, by simp only [uptoL, AVal.upto, zt, zu, aI_upto], later_intro ?_⟩
 simp -dsimp only [simprocAttr, ↓vpre, zp, hd]
 refine za0 ?_
 refine awp_ret ?_
 simp -dsimp only [simprocAttr, ↓vpre, zp, zr, Try.results77]
theorem hasDef_spec (v : Int) (b : Block) : PCall Try.prog 76 [b.enc, .ip none [aI v]] (.v (.bool (hasDef v b))) := by
 have h1 := contains_spec b.params v
 have h2 := ins_any b.ins v (toIs v) fun x => toIs_spec v x
 unfold hasDef
 cases hh : hasI b.params v with
 | true =>
  rw [hh] at h1
  refine zf true 0 Try.func76 Try.ntmps76 ?_
  dsimp only [Tmp, TypeId, slotsOf]
  refine zh1 (za0 ?_)
  refine awp_freeze1 2 0 (.ip none [eIs b.params, eInss b.ins, aI b.term.kind, aI b.term.arg, aI b.term.n, eIs b.term.cases, eEdges b.term.to]) rfl (by simp [AObj.isSpare]) trivial rfl ?_ ?_
  rotate_left
  simp -dsimp only [simprocAttr, ↓vpre, zp]
  ·refine zh1 ?_
   refine zi h1 ?_
   refine za0 ?_
   refine awp_ret ?_
   simp -dsimp only [simprocAttr, ↓vpre, zp, zr, Try.results76]
   rfl
  exact FSub.mp rfl rfl
 | false =>
  rw [hh] at h1
  refine zf true 0 Try.func76 Try.ntmps76 ?_
  dsimp only [Tmp, TypeId, slotsOf]
  refine zh1 (za0 ?_)
  refine awp_freeze1 2 0 (.ip none [eIs b.params, eInss b.ins, aI b.term.kind, aI b.term.arg, aI b.term.n, eIs b.term.cases, eEdges b.term.to]) rfl (by simp [AObj.isSpare]) trivial rfl ?_ ?_
  rotate_left
  simp -dsimp only [simprocAttr, ↓vpre, zp]
  ·refine zh1 ?_
   refine zi h1 ?_
   refine zi h2 ?_
   refine za0 ?_
   refine awp_ret ?_
   simp -dsimp only [simprocAttr, ↓vpre, zp, zr, Try.results76]
   rw [Bool.false_or]
  exact FSub.mp rfl rfl
theorem blk_idx (l : List Block) (v : Int) (p : Block → Bool) (hp : ∀ x, PCall Try.prog 76 [x.enc, .ip none [aI v]] (.v (.bool (p x)))) : PCall Try.prog 101 [eBlocks l, .fn (.func 76) [] [.ip none [aI v]]] (aI (idxP p l 0)) := by
 obtain ⟨R, hR⟩ : ∃ R, R = idxP p l 0 := ⟨_, rfl⟩
 rw [← hR]
 refine zf true 0 Try.func101 Try.ntmps101 ?_
 dsimp only [Tmp, TypeId, slotsOf]
 refine zh1 (za0 ?_)
 refine awp_len 0 rfl (fun hll => ?_)
 simp only [List.length_map] at hll
 refine zh2 (za0 ?_)
 refine awp_block (awp_loop (ι := {k : Nat // k ≤ l.length ∧ R = idxP p (l.drop k) k}) (fun k => ⟨19, [(0, eBlocks l), (1, .fn (.func 76) [] [.ip none [aI v]]), (7, aI l.length), (8, aI k.1)], []⟩) (fun k => l.length - k.1) ⟨0, by omega, hR⟩ ?_ ?_)
 ·refine zq rfl ?_ ?_
  simp -dsimp only [simprocAttr, ↓vpre, zp, zc]
  rfl
 rintro ⟨k, hk, hke⟩
 refine zh1 (za0 ?_)
 apply zk1 rfl <;> intro h
 ·refine zb0 ?_
  have hlt : k < l.length := by simpa using h
  obtain ⟨x, hx⟩ : ∃ x, l[k]? = some x := ⟨l[k], by simp [hlt]⟩
  have hb := hp x
  rw [drop_at hx] at hke
  simp only [idxP] at hke
  refine awp_seq (awp_block ?_)
  refine zh1 (za0 ?_)
  cases hpx : p x with
  | true =>
   rw [hpx] at hke hb
   refine zg1 ?_
   simp -dsimp only [simprocAttr, ↓vpre, zp, hx]
   repeat (refine ⟨by omega, ?_⟩)
   refine zi hb ?_
   refine za0 ?_
   refine zw0 rfl ?_
   refine zh1 (za0 ?_)
   refine awp_ret ?_
   simp -dsimp only [simprocAttr, ↓vpre, zp, zr, Try.results101]
   rw [hke]
   rfl
  | false =>
   rw [hpx] at hke hb
   refine zg1 ?_
   simp -dsimp only [simprocAttr, ↓vpre, zp, hx]
   repeat (refine ⟨by omega, ?_⟩)
   refine zi hb ?_
   refine za0 ?_
   refine zu0 rfl ?_
   refine zb1 ?_
   refine zh0 ?_
   repeat (refine ⟨by omega, ?_⟩)
   refine zl0 ?_
   refine ⟨⟨k + 1, hlt, hke⟩, by simp; omega, ?_⟩
   refine zq rfl ?_ ?_
   simp -dsimp only [simprocAttr, ↓vpre, zp, zc]
   ·exact Sub.int (by simp)
   rfl
 refine awp_exit ?_
 simp -dsimp only [vend, ne_eq, Nat.reduceEqDiff, reduceCtorEq]
 have hkk : k = l.length := by simp at h; omega
 subst hkk
 rw [List.drop_length] at hke
 refine zh1 (za0 ?_)
 refine awp_ret ?_
 simp -dsimp only [simprocAttr, ↓vpre, zp, zr, Try.results101]
 rw [hke]
 rfl
theorem blk_any (l : List Block) (v : Int) (p : Block → Bool) (hp : ∀ x, PCall Try.prog 76 [x.enc, .ip none [aI v]] (.v (.bool (p x)))) : PCall Try.prog 75 [eBlocks l, .fn (.func 76) [] [.ip none [aI v]]] (.v (.bool (l.any p))) := by
 have hi := blk_idx l v p hp
 have hd := idxP_any p l 0
 refine zf true 0 Try.func75 Try.ntmps75 ?_
 dsimp only [Tmp, TypeId, slotsOf]
 refine zh1 (za0 ?_)
 refine zh1 ?_
 refine .inl ⟨_, hi, by simp only [uptoL, AVal.upto, zt, zu, aI_upto], later_intro ?_⟩
 simp -dsimp only [simprocAttr, ↓vpre, zp, hd]
 refine za0 ?_
 refine awp_ret ?_
 simp -dsimp only [simprocAttr, ↓vpre, zp, zr, Try.results75]
theorem defined_spec (f : Func) (v : Int) : PCall Try.prog 50 [f.enc, aI v] (.v (.bool (definedM f v))) := by
 have h1 := blk_any f.blocks v (hasDef v) fun x => hasDef_spec v x
 unfold definedM
 refine zf true 0 Try.func50 Try.ntmps50 ?_
 dsimp only [Tmp, TypeId, slotsOf]
 refine zh1 (za0 ?_)
 refine awp_freeze1 2 0 (.ip none [aI f.name, eBlocks f.blocks]) rfl (by simp [AObj.isSpare]) trivial rfl ?_ ?_
 rotate_left
 simp -dsimp only [simprocAttr, ↓vpre, zp]
 ·refine awp_freeze1 3 1 (.ip none [aI v]) rfl (by simp [AObj.isSpare]) trivial rfl ?_ ?_
  rotate_left
  simp -dsimp only [simprocAttr, ↓vpre, zp]
  ·refine zh1 ?_
   refine zi h1 ?_
   refine za0 ?_
   refine awp_ret ?_
   simp -dsimp only [simprocAttr, ↓vpre, zp, zr, Try.results50]
  exact FSub.mp rfl rfl
 exact FSub.mp rfl rfl
theorem defined_val {f : Func} {v : Int} (h : definedM f v = true) : v ∈ valsF f := by
 simp only [definedM, hasDef, List.any_eq_true, Bool.or_eq_true, toIs, decide_eq_true_eq] at h
 obtain ⟨b, hb, h⟩ := h
 refine List.mem_flatMap.2 ⟨b, hb, ?_⟩
 simp only [blkVals, List.mem_append, List.mem_map]
 rcases h with q | ⟨i, hi, q⟩
 ·left
  unfold hasI at q
  rw [decide_eq_true_eq, List.findIdx_lt_length] at q
  obtain ⟨x, h1, h2⟩ := q
  simp at h2
  rw [← h2]
  exact h1
 exact .inr ⟨i, hi, q⟩
end Go.Proofs.Ytlclgfgmhnmnaaa
end

section
set_option linter.unusedSimpArgs false
set_option maxRecDepth 100000
set_option maxHeartbeats 4000000
namespace Go.Proofs.Ytlclgfgmhnmnaaa
open Go.Av
theorem inter1_spec {f : Func} {S : Lv} {many v w : Nat} (hv : v < many) (hw : w < many) (x : Bool) (n : Nat) {s : List Bool} (hs : s.length = many) :
  ECall Try.prog 51 (lvX f S (.v (.bool x)) s) [aI n, .ms 6 0 many many, .mp 5 0, .ip none [aI v], .ip none [aI w]] (fun r O' => r = .tup [] ∧ O' = lvX f S (.v (.bool (inStep v w x n s))) s) := by
 obtain ⟨g5, g6, gs, _, gl⟩ := lvX_get f S (.v (.bool x)) s
 have hlu2 := lvX_upto (f := f) (S := S) (x := .v (.bool (inStep v w x n s))) (s := s) trivial
 have hp := gs (.v (.bool (inStep v w x n s)))
 have gl2 := (lvX_get f S (.v (.bool (inStep v w x n s))) s).2.2.2.2
 obtain ⟨a, ha⟩ : ∃ a, s[v]? = some a := ⟨s[v], List.getElem?_eq_getElem _⟩
 obtain ⟨b, hb⟩ : ∃ b, s[w]? = some b := ⟨s[w], List.getElem?_eq_getElem _⟩
 have hav : (s.map eB)[v]? = some (eB a) := by rw [List.getElem?_map, ha]; rfl
 have hbw : (s.map eB)[w]? = some (eB b) := by rw [List.getElem?_map, hb]; rfl
 have hin : inStep v w x n s = (x || (a && b)) := by simp [inStep, twoIn, ha, hb]
 rw [hin] at hlu2 hp gl2 ⊢
 have gl7 : (lvX f S (.v (.bool x)) s).length ≤ 7 := Nat.le_of_eq gl
 have h57 : 5 < (lvX f S (.v (.bool x)) s).length := by omega
 generalize lvX f S (.v (.bool (x || (a && b)))) s = O2 at *
 generalize lvX f S (.v (.bool x)) s = O at *
 cases x with
 | true =>
  simp only [Bool.true_or] at hp
  refine ecall_of hT true (7) Try.func51 rfl (by kernel_rfl) (by simp [Try.ntmps51]) (by assumption) ?_
  show AWP Try.prog _ _ _ ⟨20, _, _⟩
  dsimp only [Tmp, TypeId, slotsOf]
  refine zg0 ?_
  simp -dsimp only [simprocAttr, ↓vpre, zp, g5, hp]
  refine at_intro ?_
  skip
  simp -dsimp only [simprocAttr, ↓vpre, zp, zr, Try.results51]
  exact ⟨by omega, fun o ho => hlu2 o (List.mem_of_mem_take ho), trivial, List.take_of_length_le (by omega)⟩
 | false =>
  simp only [Bool.false_or] at hp
  cases a with
  | false =>
   simp only [Bool.false_and] at hp
   refine ecall_of hT true (7) Try.func51 rfl (by kernel_rfl) (by simp [Try.ntmps51]) (by assumption) ?_
   show AWP Try.prog _ _ _ ⟨20, _, _⟩
   dsimp only [Tmp, TypeId, slotsOf]
   refine zg0 ?_
   simp -dsimp only [simprocAttr, ↓vpre, zp, g5, g6, hav, hbw, eB, hp, Int.toNat_natCast, Nat.mul_one]
   repeat (refine ⟨by omega, ?_⟩)
   refine at_intro ?_
   skip
   simp -dsimp only [simprocAttr, ↓vpre, zp, zr, Try.results51]
   exact ⟨by omega, fun o ho => hlu2 o (List.mem_of_mem_take ho), trivial, List.take_of_length_le (by omega)⟩
  | true =>
   simp only [Bool.true_and] at hp
   refine ecall_of hT true (7) Try.func51 rfl (by kernel_rfl) (by simp [Try.ntmps51]) (by assumption) ?_
   show AWP Try.prog _ _ _ ⟨20, _, _⟩
   dsimp only [Tmp, TypeId, slotsOf]
   refine zg0 ?_
   simp -dsimp only [simprocAttr, ↓vpre, zp, g5, g6, hav, hbw, eB, hp, Int.toNat_natCast, Nat.mul_one]
   repeat (refine ⟨by omega, ?_⟩)
   refine at_intro ?_
   skip
   simp -dsimp only [simprocAttr, ↓vpre, zp, zr, Try.results51]
   exact ⟨by omega, fun o ho => hlu2 o (List.mem_of_mem_take ho), trivial, List.take_of_length_le (by omega)⟩
theorem inter_back {f : Func} {S : Lv} {many N k v w : Nat} {x : Bool} {b : Block} {s0 : List Bool} (hv : v < many) (hw : w < many) (hin : ∀ i ∈ b.ins, InR many i.to ∧ ∀ a ∈ i.args, InR many a) (hmy : many ≤ 2 ^ 20) (hb : f.blocks[k]? = some b) (hs0 : S.behind[k]? = some s0) (hne : s0 ≠ []) (hsl : s0.length = many) (hil : b.ins.length ≤ 2 ^ 47) (hl2 : S.behind.length = N) (hN : N = f.blocks.length) (hM : many = manyM f) :
  ECall Try.prog 44 (lvO f S ++ [.cells [.v (.bool x)]]) [.mp 3 0, aI k, .fn (.func 51) [] [.mp 5 0, .ip none [aI v], .ip none [aI w]]] (fun r O' => r = .lst 1 ((backM b.ins s0).map eB) .nn ∧ O' = lvO f S ++ [.cells [.v (.bool (backRun (inStep v w) (blkOf f k).ins (blkOf f k).ins.length x s0))]]) := by
 have hbk : (blkOf f k).ins = b.ins := by simp [blkOf, hb]
 rw [hbk]
 have hA : (lvO f S ++ [.cells [.v (.bool x)]])[3]? = some (.cells (lifeC f many 2 N)) := by
  rw [hN, hM]
  rfl
 exact back_spec (X := Bool) (enc := fun x s => lvX f S (.v (.bool x)) s) (Inv := fun _ => True) (step := inStep v w) (x0 := x) (O0 := lvO f S ++ [AObj.cells [.v (.bool x)]]) (K := 6) trivial (lvX_6 (f := f) (S := S) (x := .v (.bool x)) trivial) (fun _ => rfl) (fun _ _ _ => rfl) (fun _ _ _ _ => rfl) (fun _ _ _ => lvX_upto trivial) (f := f) (many := many) (N := N) (A := 3) (B := 2) (behind := S.behind) hA rfl hl2 hmy hb hs0 hne hsl hil hin (.fn (.func 51) [] [.mp 5 0, .ip none [aI v], .ip none [aI w]])
  (fun _ _ _ _ _ _ => trivial) (.inr ⟨51, _, rfl, ⟨by show 5 < 6; omega, ⟨trivial, trivial⟩, ⟨trivial, trivial⟩, trivial⟩, fun x n s _ _ hs => inter1_spec hv hw x n hs⟩) (Nat.le_refl _) (fun x s _ _ => ⟨by show 6 ≤ 7; omega, fun o ho => lvX_6 (f := f) (S := S) (x := .v (.bool x)) trivial o ho⟩)
def interR (f : Func) (v w : Int) : AVal :=
 if checkFuncM f = 0 then
  if definedM f v = false ∨ definedM f w = false then .tup [.v (.bool false), aI 12]
  else if v = w then .tup [.v (.bool false), aI 1]
  else .tup [.v (.bool (inFrom f v.toNat w.toNat (liveM f).behind 0 false)), aI 0]
 else .tup [.v (.bool false), aI (checkFuncM f)]
theorem interfere_spec (f : Func) (hfit : f.fit) (v w : Int) : PCall Try.prog 21 [f.enc, aI v, aI w] (interR f v w) := by
 have h1 := defined_spec f v
 have h2 := defined_spec f w
 unfold interR
 by_cases hc : checkFuncM f = 0
 ·rw [if_pos hc]
  have hv' := checkFunc_v hfit hc
  have hn : f.blocks.length ≤ 128 := hv'.fn.few
  have hmy := hv'.many hv'.fresh
  have hb := build_spec f hfit hc
  obtain ⟨hok, hfix⟩ := live_fix hn hv'.fresh
  cases hdv : definedM f v with
  | false =>
   rw [if_pos (.inl rfl)]
   rw [hdv] at h1
   refine zf true 0 Try.func21 Try.ntmps21 ?_
   dsimp only [Tmp, TypeId, slotsOf]
   refine zh1 (za0 ?_)
   refine awp_freeze1 3 0 (.ip none [aI f.name, eBlocks f.blocks]) rfl (by simp [AObj.isSpare]) trivial rfl ?_ ?_
   rotate_left
   simp -dsimp only [simprocAttr, ↓vpre, zp]
   ·refine awp_freeze1 4 1 (.ip none [aI v]) rfl (by simp [AObj.isSpare]) trivial rfl ?_ ?_
    rotate_left
    simp -dsimp only [simprocAttr, ↓vpre, zp]
    ·refine awp_freeze1 5 2 (.ip none [aI w]) rfl (by simp [AObj.isSpare]) trivial rfl ?_ ?_
     rotate_left
     simp -dsimp only [simprocAttr, ↓vpre, zp]
     ·refine awp_trunc' 1 [(3, .ip none [aI f.name, eBlocks f.blocks]), (4, .ip none [aI v]), (5, .ip none [aI w])] (by simp) (by omega) [.gone] ?_ ?_ ?_ ?_ ?_
      ·rfl
      ·simp [AObj.upto]
      ·simp [Says, St.get, putS, dropS, Go.Av.look, Sub.refl]
      ·simp [AObj.upto, uptoL, AVal.upto, aI_upto, Func.map_upto, Block.map_upto, Edge.map_upto, Ins.map_upto]
      refine zh1 ?_
      refine .inr (.inl ⟨_, _, hb, .inl (later_intro (zj ?_))⟩)
      refine za0 ?_
      refine awp_seq (awp_block ?_)
      refine zh1 (za0 ?_)
      refine zu0 rfl ?_
      refine zh1 ?_
      refine .inl ⟨_, h1, by simp only [uptoL, AVal.upto, zt, zu, aI_upto, eB_upto], later_intro ?_⟩
      simp -dsimp only [simprocAttr, ↓vpre, zp]
      refine za0 ?_
      refine zw0 rfl ?_
      refine zh1 (za0 ?_)
      refine awp_ret ?_
      simp -dsimp only [simprocAttr, ↓vpre, zp, zr, Try.results21]
      simp [uptoL, AVal.upto]
     exact FSub.mp rfl rfl
    exact FSub.mp rfl rfl
   exact FSub.mp rfl rfl
  | true =>
   rw [hdv] at h1
   cases hdw : definedM f w with
   | false =>
    rw [if_pos (.inr rfl)]
    rw [hdw] at h2
    refine zf true 0 Try.func21 Try.ntmps21 ?_
    dsimp only [Tmp, TypeId, slotsOf]
    refine zh1 (za0 ?_)
    refine awp_freeze1 3 0 (.ip none [aI f.name, eBlocks f.blocks]) rfl (by simp [AObj.isSpare]) trivial rfl ?_ ?_
    rotate_left
    simp -dsimp only [simprocAttr, ↓vpre, zp]
    ·refine awp_freeze1 4 1 (.ip none [aI v]) rfl (by simp [AObj.isSpare]) trivial rfl ?_ ?_
     rotate_left
     simp -dsimp only [simprocAttr, ↓vpre, zp]
     ·refine awp_freeze1 5 2 (.ip none [aI w]) rfl (by simp [AObj.isSpare]) trivial rfl ?_ ?_
      rotate_left
      simp -dsimp only [simprocAttr, ↓vpre, zp]
      ·refine awp_trunc' 1 [(3, .ip none [aI f.name, eBlocks f.blocks]), (4, .ip none [aI v]), (5, .ip none [aI w])] (by simp) (by omega) [.gone] ?_ ?_ ?_ ?_ ?_
       ·rfl
       ·simp [AObj.upto]
       ·simp [Says, St.get, putS, dropS, Go.Av.look, Sub.refl]
       ·simp [AObj.upto, uptoL, AVal.upto, aI_upto, Func.map_upto, Block.map_upto, Edge.map_upto, Ins.map_upto]
       refine zh1 ?_
       refine .inr (.inl ⟨_, _, hb, .inl (later_intro (zj ?_))⟩)
       refine za0 ?_
       refine awp_seq (awp_block ?_)
       refine zh1 (za0 ?_)
       refine zu0 rfl ?_
       refine zh1 ?_
       refine .inl ⟨_, h1, by simp only [uptoL, AVal.upto, zt, zu, aI_upto, eB_upto], later_intro ?_⟩
       simp -dsimp only [simprocAttr, ↓vpre, zp]
       refine .inl ⟨_, h2, by simp only [uptoL, AVal.upto, zt, zu, aI_upto, eB_upto], later_intro ?_⟩
       simp -dsimp only [simprocAttr, ↓vpre, zp]
       refine za0 ?_
       refine zw0 rfl ?_
       refine zh1 (za0 ?_)
       refine awp_ret ?_
       simp -dsimp only [simprocAttr, ↓vpre, zp, zr, Try.results21]
       simp [uptoL, AVal.upto]
      exact FSub.mp rfl rfl
     exact FSub.mp rfl rfl
    exact FSub.mp rfl rfl
   | true =>
    rw [hdw] at h2
    rw [if_neg (by simp)]
    by_cases hvw : v = w
    ·rw [if_pos hvw]
     replace hvw := decide_eq_true hvw
     refine zf true 0 Try.func21 Try.ntmps21 ?_
     dsimp only [Tmp, TypeId, slotsOf]
     refine zh1 (za0 ?_)
     refine awp_freeze1 3 0 (.ip none [aI f.name, eBlocks f.blocks]) rfl (by simp [AObj.isSpare]) trivial rfl ?_ ?_
     rotate_left
     simp -dsimp only [simprocAttr, ↓vpre, zp]
     ·refine awp_freeze1 4 1 (.ip none [aI v]) rfl (by simp [AObj.isSpare]) trivial rfl ?_ ?_
      rotate_left
      simp -dsimp only [simprocAttr, ↓vpre, zp]
      ·refine awp_freeze1 5 2 (.ip none [aI w]) rfl (by simp [AObj.isSpare]) trivial rfl ?_ ?_
       rotate_left
       simp -dsimp only [simprocAttr, ↓vpre, zp]
       ·refine awp_trunc' 1 [(3, .ip none [aI f.name, eBlocks f.blocks]), (4, .ip none [aI v]), (5, .ip none [aI w])] (by simp) (by omega) [.gone] ?_ ?_ ?_ ?_ ?_
        ·rfl
        ·simp [AObj.upto]
        ·simp [Says, St.get, putS, dropS, Go.Av.look, Sub.refl]
        ·simp [AObj.upto, uptoL, AVal.upto, aI_upto, Func.map_upto, Block.map_upto, Edge.map_upto, Ins.map_upto]
        refine zh1 ?_
        refine .inr (.inl ⟨_, _, hb, .inl (later_intro (zj ?_))⟩)
        refine za0 ?_
        refine awp_seq (awp_block ?_)
        refine zh1 (za0 ?_)
        refine zu0 rfl ?_
        refine zh1 ?_
        refine .inl ⟨_, h1, by simp only [uptoL, AVal.upto, zt, zu, aI_upto, eB_upto], later_intro ?_⟩
        simp -dsimp only [simprocAttr, ↓vpre, zp]
        refine .inl ⟨_, h2, by simp only [uptoL, AVal.upto, zt, zu, aI_upto, eB_upto], later_intro ?_⟩
        simp -dsimp only [simprocAttr, ↓vpre, zp]
        refine za0 ?_
        refine zu0 rfl ?_
        refine zg1 ?_
        simp -dsimp only [simprocAttr, ↓vpre, zp, hvw]
        refine za0 ?_
        refine zw0 rfl ?_
        refine zh1 (za0 ?_)
        refine awp_ret ?_
        simp -dsimp only [simprocAttr, ↓vpre, zp, zr, Try.results21]
        simp [uptoL, AVal.upto]
       exact FSub.mp rfl rfl
      exact FSub.mp rfl rfl
     exact FSub.mp rfl rfl
    rw [if_neg hvw]
    replace hvw := decide_eq_false hvw
    obtain ⟨i1, i2⟩ := hv'.inr (defined_val hdv)
    obtain ⟨i3, i4⟩ := hv'.inr (defined_val hdw)
    obtain ⟨vn, rfl⟩ : ∃ n : Nat, v = (n : Int) := ⟨v.toNat, by omega⟩
    obtain ⟨wn, rfl⟩ : ∃ n : Nat, w = (n : Int) := ⟨w.toNat, by omega⟩
    simp only [Int.toNat_natCast]
    obtain ⟨R, hR⟩ : ∃ R, R = inFrom f vn wn (liveM f).behind 0 false := ⟨_, rfl⟩
    rw [← hR]
    generalize liveM f = S at *
    obtain ⟨N, hN⟩ : ∃ N, N = f.blocks.length := ⟨_, rfl⟩
    obtain ⟨many, hM⟩ : ∃ many, many = manyM f := ⟨_, rfl⟩
    have hvm : vn < many := by omega
    have hwm : wn < many := by omega
    rw [← hM] at hmy
    have hl2 := hok.len2
    rw [← hN] at hl2 hn hfix hb
    refine zf true 0 Try.func21 Try.ntmps21 ?_
    dsimp only [Tmp, TypeId, slotsOf]
    refine zh1 (za0 ?_)
    refine awp_freeze1 3 0 (.ip none [aI f.name, eBlocks f.blocks]) rfl (by simp [AObj.isSpare]) trivial rfl ?_ ?_
    rotate_left
    simp -dsimp only [simprocAttr, ↓vpre, zp]
    ·refine awp_freeze1 4 1 (.ip none [aI vn]) rfl (by simp [AObj.isSpare]) trivial rfl ?_ ?_
     rotate_left
     simp -dsimp only [simprocAttr, ↓vpre, zp]
     ·refine awp_freeze1 5 2 (.ip none [aI wn]) rfl (by simp [AObj.isSpare]) trivial rfl ?_ ?_
      rotate_left
      simp -dsimp only [simprocAttr, ↓vpre, zp]
      ·refine awp_trunc' 1 [(3, .ip none [aI f.name, eBlocks f.blocks]), (4, .ip none [aI vn]), (5, .ip none [aI wn])] (by simp) (by omega) [.gone] ?_ ?_ ?_ ?_ ?_
       ·rfl
       ·simp [AObj.upto]
       ·simp [Says, St.get, putS, dropS, Go.Av.look, Sub.refl]
       ·simp [AObj.upto, uptoL, AVal.upto, aI_upto, Func.map_upto, Block.map_upto, Edge.map_upto, Ins.map_upto]
       refine zh1 ?_
       refine .inr (.inl ⟨_, _, hb, .inl (later_intro (zj ?_))⟩)
       refine za0 ?_
       refine awp_seq (awp_block ?_)
       refine zh1 (za0 ?_)
       apply zk0 rfl <;> intro h
       ·cases h
       refine zh1 ?_
       refine .inl ⟨_, h1, by simp only [uptoL, AVal.upto, zt, zu, aI_upto, eB_upto], later_intro ?_⟩
       simp -dsimp only [simprocAttr, ↓vpre, zp]
       refine .inl ⟨_, h2, by simp only [uptoL, AVal.upto, zt, zu, aI_upto, eB_upto], later_intro ?_⟩
       simp -dsimp only [simprocAttr, ↓vpre, zp]
       refine za0 ?_
       apply zk0 rfl <;> intro h
       ·cases h
       refine zg1 ?_
       simp -dsimp only [simprocAttr, ↓vpre, zp, hvw]
       refine za0 ?_
       apply zk0 rfl <;> intro h
       ·cases h
       refine zb1 ?_
       refine zh1 (za0 ?_)
       refine zg2 ?_
       simp -dsimp only [simprocAttr, ↓vpre, zp, ← hN]
       refine za0 ?_
       refine awp_block (awp_loop (ι := {x : Nat × Bool // x.1 ≤ N ∧ R = inFrom f vn wn (S.behind.drop x.1) x.1 x.2}) (fun x => ⟨50, [(4, .ip none [aI vn]), (5, .ip none [aI wn]), (8, .mp 3 0), (11, .mp 5 0), (40, aI N), (41, aI x.1.1)], lvO f S ++ [.cells [.v (.bool x.1.2)]]⟩) (fun x => N - x.1.1) ⟨(0, false), by simp, hR⟩ ?_ ?_)
       ·refine zq rfl ?_ ?_
        simp -dsimp only [simprocAttr, ↓vpre, zp, zc]
        ·exact Sub.refl _
        rfl
       rintro ⟨⟨k, y⟩, hk, hke⟩
       simp only at hk hke
       refine zh1 (za0 ?_)
       apply zk1 rfl <;> intro h
       ·refine zb0 ?_
        have hlt : k < N := by simpa using h
        obtain ⟨b, hbk⟩ : ∃ b, f.blocks[k]? = some b := ⟨f.blocks[k]'(by omega), List.getElem?_eq_getElem _⟩
        obtain ⟨s0, hs0, hne, hsl, _, _⟩ := hfix k hlt
        have hbr := inter_back (x := y) hvm hwm (by rw [hM]; exact hv'.ins hbk) (by omega) hbk hs0 hne (by rw [hsl, hM]) ((hfit.2.2 b (List.mem_of_getElem? hbk)).2.2.1) hl2 hN hM
        rw [drop_at hs0] at hke
        simp only [inFrom] at hke
        obtain ⟨y1, hy1⟩ : ∃ y1, y1 = backRun (inStep vn wn) (blkOf f k).ins (blkOf f k).ins.length y s0 := ⟨_, rfl⟩
        rw [← hy1] at hke hbr
        refine awp_seq (awp_block ?_)
        refine zh1 (za0 ?_)
        refine zh0 ?_
        refine .inr (.inl ⟨_, _, hbr, .inl (later_intro (zj ?_))⟩)
        refine za0 ?_
        refine zh0 ?_
        repeat (refine ⟨by omega, ?_⟩)
        refine zl0 ?_
        refine ⟨⟨(k + 1, y1), hlt, hke⟩, by simp; omega, ?_⟩
        refine zq rfl ?_ ?_
        simp -dsimp only [simprocAttr, ↓vpre, zp, zc]
        ·exact Sub.int (by simp)
        rfl
       refine awp_exit ?_
       simp -dsimp only [vend, ne_eq, Nat.reduceEqDiff, reduceCtorEq]
       have hkk : k = N := by simp at h; omega
       subst hkk
       rw [List.drop_of_length_le (by omega)] at hke
       simp only [inFrom] at hke
       subst hke
       have g5 : ∀ y : Bool, (lvO f S ++ [AObj.cells [.v (.bool y)]])[5]? = some (.cells [.v (.bool y)]) := fun _ => rfl
       refine zg1 ?_
       simp -dsimp only [simprocAttr, ↓vpre, zp, g5]
       refine za0 ?_
       refine awp_ret ?_
       simp -dsimp only [simprocAttr, ↓vpre, zp, zr, Try.results21]
       simp [uptoL, AVal.upto]
      exact FSub.mp rfl rfl
     exact FSub.mp rfl rfl
    exact FSub.mp rfl rfl
 rw [if_neg hc]
 have hb := build_bad f hfit hc
 obtain ⟨e, he⟩ : ∃ e, e = checkFuncM f := ⟨_, rfl⟩
 rw [← he] at hc hb ⊢
 have hde : decide (e = 0) = false := decide_eq_false hc
 refine zf true 0 Try.func21 Try.ntmps21 ?_
 dsimp only [Tmp, TypeId, slotsOf]
 refine zh1 (za0 ?_)
 refine awp_freeze1 3 0 (.ip none [aI f.name, eBlocks f.blocks]) rfl (by simp [AObj.isSpare]) trivial rfl ?_ ?_
 rotate_left
 simp -dsimp only [simprocAttr, ↓vpre, zp]
 ·refine awp_freeze1 4 1 (.ip none [aI v]) rfl (by simp [AObj.isSpare]) trivial rfl ?_ ?_
  rotate_left
  simp -dsimp only [simprocAttr, ↓vpre, zp]
  ·refine awp_freeze1 5 2 (.ip none [aI w]) rfl (by simp [AObj.isSpare]) trivial rfl ?_ ?_
   rotate_left
   simp -dsimp only [simprocAttr, ↓vpre, zp]
   ·refine awp_trunc' 1 [(3, .ip none [aI f.name, eBlocks f.blocks]), (4, .ip none [aI v]), (5, .ip none [aI w])] (by simp) (by omega) [.gone] ?_ ?_ ?_ ?_ ?_
    ·rfl
    ·simp [AObj.upto]
    ·simp [Says, St.get, putS, dropS, Go.Av.look, Sub.refl]
    ·simp [AObj.upto, uptoL, AVal.upto, aI_upto, Func.map_upto, Block.map_upto, Edge.map_upto, Ins.map_upto]
    refine zh1 ?_
    refine .inl ⟨_, hb, by simp only [uptoL, AVal.upto, zt, zu, aI_upto, eB_upto], later_intro ?_⟩
    simp -dsimp only [simprocAttr, ↓vpre, zp]
    refine za0 ?_
    refine awp_seq (awp_block ?_)
    refine zg1 ?_
    simp -dsimp only [simprocAttr, ↓vpre, zp, hde]
    refine za0 ?_
    refine zw0 rfl ?_
    refine zh1 (za0 ?_)
    refine awp_ret ?_
    simp -dsimp only [simprocAttr, ↓vpre, zp, zr, Try.results21]
    simp [uptoL, AVal.upto]
   exact FSub.mp rfl rfl
  exact FSub.mp rfl rfl
 exact FSub.mp rfl rfl
end Go.Proofs.Ytlclgfgmhnmnaaa
end

section
namespace Go.Proofs.Ytlclgfgmhnmnaaa
open Go.Av
def rchE (k : Nat) (s : List Bool) (e : Edge) : List Bool := if s[k]?.getD false = true then s.set e.block.toNat true else s
def rchB (k : Nat) (s : List Bool) (b : Block) : List Bool := b.term.to.foldl (rchE k) s
def rchL : List Block → Nat → List Bool → List Bool
  | [], _, s => s
  | b :: r, k, s => rchL r (k + 1) (rchB k s b)
def rchN (f : Func) : Nat → List Bool → List Bool
  | 0, s => s
  | n + 1, s => rchN f n (rchL f.blocks 0 s)
def reachM (f : Func) : List Bool := rchN f f.blocks.length ((List.replicate f.blocks.length false).set 0 true)
theorem rchE_len (k : Nat) (s : List Bool) (e : Edge) : (rchE k s e).length = s.length := by
  unfold rchE
  split <;> simp
theorem rchB_len (k : Nat) (s : List Bool) (b : Block) : (rchB k s b).length = s.length := by
  unfold rchB
  generalize b.term.to = l
  induction l generalizing s with
  | nil => rfl
  | cons e r ih => rw [List.foldl_cons, ih, rchE_len]
theorem rchL_len : ∀ (l : List Block) (k : Nat) (s : List Bool), (rchL l k s).length = s.length
  | [], _, _ => rfl
  | b :: r, k, s => by rw [rchL, rchL_len r, rchB_len]
theorem rchN_len (f : Func) : ∀ (n : Nat) (s : List Bool), (rchN f n s).length = s.length
  | 0, _ => rfl
  | n + 1, s => by rw [rchN, rchN_len f n, rchL_len]
def Mrk (f : Func) (s : List Bool) : Prop := ∀ j : Nat, s[j]? = some true → seenF f j = true
theorem rchB_mrk {f : Func} (hv : FnV f) {k : Nat} {b : Block} (hb : f.blocks[k]? = some b) {s : List Bool} (h : Mrk f s) : Mrk f (rchB k s b) := by
  unfold rchB
  have key : ∀ (l : List Edge) (s : List Bool), (∀ e ∈ l, e ∈ b.term.to) → Mrk f s → Mrk f (l.foldl (rchE k) s) := fun l => by
    induction l with
    | nil => exact fun s _ h => h
    | cons e r ih =>
      intro s hl h
      rw [List.foldl_cons]
      refine ih _ (fun x hx => hl x (by simp [hx])) ?_
      unfold rchE
      split
      · rename_i hk
        intro j hj
        by_cases e0 : e.block.toNat = j
        · subst e0
          refine (hv.dom.step k b hb (h k ?_) e (hl e (by simp))).1
          cases hs : s[k]? with
          | none => rw [hs] at hk; cases hk
          | some a => rw [hs] at hk; simpa using hk
        rw [List.getElem?_set_ne e0] at hj
        exact h j hj
      exact h
  exact key _ s (fun e he => he) h
theorem rchL_mrk {f : Func} (hv : FnV f) : ∀ (l : List Block) (k : Nat) (s : List Bool), (∀ (j : Nat) b, l[j]? = some b → f.blocks[k + j]? = some b) → Mrk f s → Mrk f (rchL l k s)
  | [], _, _, _, h => h
  | b :: r, k, s, hl, h => by
    rw [rchL]
    refine rchL_mrk hv r (k + 1) _ (fun j x hx => ?_) (rchB_mrk hv (hl 0 b rfl) h)
    have := hl (j + 1) x (by simpa using hx)
    rw [show k + 1 + j = k + (j + 1) by omega]
    exact this
theorem rchN_mrk {f : Func} (hv : FnV f) : ∀ (n : Nat) (s : List Bool), Mrk f s → Mrk f (rchN f n s)
  | 0, _, h => h
  | n + 1, s, h => rchN_mrk hv n _ (rchL_mrk hv f.blocks 0 s (fun j b hj => by rw [Nat.zero_add]; exact hj) h)
theorem reach_mrk {f : Func} (hv : FnV f) : Mrk f (reachM f) := by
  refine rchN_mrk hv _ _ fun j hj => ?_
  by_cases e : 0 = j
  · subst e
    exact hv.dom.seen
  rw [List.getElem?_set_ne e] at hj
  have := (List.mem_replicate.1 (List.mem_of_getElem? hj)).2
  cases this
theorem reachM_len (f : Func) : (reachM f).length = f.blocks.length := by
  unfold reachM
  rw [rchN_len]
  simp
end Go.Proofs.Ytlclgfgmhnmnaaa
end

section
set_option linter.unusedSimpArgs false
set_option maxRecDepth 100000
set_option maxHeartbeats 4000000
namespace Go.Proofs.Ytlclgfgmhnmnaaa
open Go.Av
theorem withinR_spec (a c : Int) (h0 : 0 ≤ a) (h1 : a ≤ c) : PCall Try.prog 49 [aI a, aI 0, aI c] (.v (.bool true)) := by
 have hd0 : decide (0 ≤ a) = true := decide_eq_true h0
 have hd1 : decide (a ≤ c) = true := decide_eq_true h1
 refine zf true 0 Try.func49 Try.ntmps49 ?_
 dsimp only [Tmp, TypeId, slotsOf]
 refine zh1 (za0 ?_)
 refine zg1 ?_
 simp -dsimp only [simprocAttr, ↓vpre, zp, hd0, hd1]
 refine za0 ?_
 refine awp_ret ?_
 simp -dsimp only [simprocAttr, ↓vpre, zp, zr, Try.results49]
theorem reach_spec (f : Func) (hfit : f.fit) (hc : checkFuncM f = 0) : PCall Try.prog 20 [f.enc, aI (-1)] (.lst 1 ((reachM f).map eB) .sh) := by
 have hv := checkFunc_v hfit hc
 have hn : f.blocks.length ≤ 128 := hv.fn.few
 have hl0 := List.length_pos_iff.2 hv.fn.ne
 have hRl := reachM_len f
 obtain ⟨R, hR⟩ : ∃ R, R = reachM f := ⟨_, rfl⟩
 rw [← hR] at hRl ⊢
 unfold reachM at hR
 obtain ⟨N, hN⟩ : ∃ N, N = f.blocks.length := ⟨_, rfl⟩
 rw [← hN] at hn hl0 hR hRl
 have hd : decide ((N : Int) = 0) = false := decide_eq_false (by omega)
 have hrep : List.replicate N (AVal.v (.bool false)) = (List.replicate N false).map eB := by simp [eB]
 have hsp0 := eB_put (l := List.replicate N false) (j := 0) (by simp; omega) true
 refine zf true 0 Try.func20 Try.ntmps20 ?_
 dsimp only [Tmp, TypeId, slotsOf]
 refine zh1 (za0 ?_)
 refine awp_freeze1 2 0 (.ip none [aI f.name, eBlocks f.blocks]) rfl (by simp [AObj.isSpare]) trivial rfl ?_ ?_
 rotate_left
 simp -dsimp only [simprocAttr, ↓vpre, zp]
 ·refine zg1 ?_
  simp -dsimp only [simprocAttr, ↓vpre, zp, ← hN, falses_flat]
  repeat (refine ⟨by omega, ?_⟩)
  refine za0 ?_
  refine zg2 ?_
  simp -dsimp only [simprocAttr, ↓vpre, zp, ← hN, hd]
  refine za0 ?_
  apply zk0 rfl <;> intro h
  ·cases h
  refine zb0 ?_
  refine zg1 ?_
  simp -dsimp only [simprocAttr, ↓vpre, zp, hrep, hsp0, List.length_replicate, Int.toNat_natCast, Nat.mul_one]
  repeat (refine ⟨by omega, ?_⟩)
  refine za0 ?_
  obtain ⟨s0, hs0⟩ : ∃ s0, s0 = (List.replicate N false).set 0 true := ⟨_, rfl⟩
  rw [← hs0] at hR ⊢
  have hs0l : s0.length = N := by rw [hs0]; simp
  refine zg2 ?_
  simp -dsimp only [simprocAttr, ↓vpre, zp, ← hN]
  refine za0 ?_
  refine awp_block (awp_loop (ι := {x : Nat × List Bool // x.1 ≤ N ∧ x.2.length = N ∧ R = rchN f (N - x.1) x.2}) (fun x => ⟨73, [(1, aI (-1)), (2, .ip none [aI f.name, eBlocks f.blocks]), (5, .ms 1 0 N N), (27, aI N), (28, aI x.1.1)], [.gone, .cells (x.1.2.map eB)]⟩) (fun x => N - x.1.1) ⟨(0, s0), by simp, hs0l, hR⟩ ?_ ?_)
  ·refine zq rfl ?_ ?_
   simp -dsimp only [simprocAttr, ↓vpre, zp, zc]
   rfl
  rintro ⟨⟨m, s⟩, hm', hsl, hke⟩
  simp only at hm' hsl hke
  refine zh1 (za0 ?_)
  apply zk1 rfl <;> intro h
  ·refine zb0 ?_
   have hlt : m < N := by simpa using h
   rw [show N - m = (N - (m + 1)) + 1 by omega] at hke
   simp only [rchN] at hke
   obtain ⟨L, hL⟩ : ∃ L, L = rchL f.blocks 0 s := ⟨_, rfl⟩
   have hLl : L.length = N := by rw [hL, rchL_len, hsl]
   rw [← hL] at hke
   refine awp_seq (awp_block ?_)
   refine zg1 ?_
   simp -dsimp only [simprocAttr, ↓vpre, zp, ← hN]
   refine za0 ?_
   refine awp_block (awp_loop (ι := {x : Nat × List Bool // x.1 ≤ N ∧ x.2.length = N ∧ L = rchL (f.blocks.drop x.1) x.1 x.2}) (fun x => ⟨73, [(1, aI (-1)), (2, .ip none [aI f.name, eBlocks f.blocks]), (5, .ms 1 0 N N), (27, aI N), (28, aI m), (31, eBlocks f.blocks), (32, aI N), (33, aI x.1.1)], [.gone, .cells (x.1.2.map eB)]⟩) (fun x => N - x.1.1) ⟨(0, s), by simp, hsl, hL⟩ ?_ ?_)
   ·refine zq rfl ?_ ?_
    simp -dsimp only [simprocAttr, ↓vpre, zp, zc]
    rfl
   rintro ⟨⟨k, s⟩, hk, hsl, hke2⟩
   simp only at hk hsl hke2
   refine zh1 (za0 ?_)
   apply zk1 rfl <;> intro h
   ·refine zb0 ?_
    have hlk : k < N := by simpa using h
    obtain ⟨b, hb⟩ : ∃ b, f.blocks[k]? = some b := ⟨f.blocks[k]'(by omega), List.getElem?_eq_getElem _⟩
    rw [drop_at hb] at hke2
    simp only [rchL] at hke2
    obtain ⟨B, hB⟩ : ∃ B, B = rchB k s b := ⟨_, rfl⟩
    have hBl : B.length = N := by rw [hB, rchB_len, hsl]
    rw [← hB] at hke2
    unfold rchB at hB
    refine awp_seq (awp_block ?_)
    refine zg1 ?_
    simp -dsimp only [simprocAttr, ↓vpre, zp, hb]
    refine za0 ?_
    refine awp_freeze1 7 2 (.ip none [eIs b.params, eInss b.ins, aI b.term.kind, aI b.term.arg, aI b.term.n, eIs b.term.cases, eEdges b.term.to]) rfl (by simp [AObj.isSpare]) trivial rfl ?_ ?_
    rotate_left
    simp -dsimp only [simprocAttr, ↓vpre, zp]
    ·refine awp_trunc' 2 [(1, aI (-1)), (2, .ip none [aI f.name, eBlocks f.blocks]), (5, .ms 1 0 N N), (27, aI N), (28, aI m), (31, eBlocks f.blocks), (32, aI N), (33, aI k), (6, aI k), (7, .ip none [eIs b.params, eInss b.ins, aI b.term.kind, aI b.term.arg, aI b.term.n, eIs b.term.cases, eEdges b.term.to])] (by simp) (by omega) [.gone, .cells (s.map eB)] ?_ ?_ ?_ ?_ ?_
     ·rfl
     ·simp [AObj.upto, eB_upto]
     ·simp [Says, St.get, putS, dropS, Go.Av.look, Sub.refl]
     ·simp [AObj.upto, uptoL, AVal.upto, aI_upto, Func.map_upto, Block.map_upto, Edge.map_upto, Ins.map_upto]
     refine zh1 (za0 ?_)
     refine awp_len 40 rfl (fun hte => ?_)
     simp only [List.length_map] at hte
     refine awp_block (awp_loop (ι := {x : Nat × List Bool // x.1 ≤ b.term.to.length ∧ x.2.length = N ∧ B = (b.term.to.drop x.1).foldl (rchE k) x.2}) (fun x => ⟨73, [(1, aI (-1)), (2, .ip none [aI f.name, eBlocks f.blocks]), (5, .ms 1 0 N N), (27, aI N), (28, aI m), (31, eBlocks f.blocks), (32, aI N), (33, aI k), (6, aI k), (40, eEdges b.term.to), (41, aI b.term.to.length), (42, aI x.1.1)], [.gone, .cells (x.1.2.map eB)]⟩) (fun x => b.term.to.length - x.1.1) ⟨(0, s), by simp, hsl, hB⟩ ?_ ?_)
     ·refine zq rfl ?_ ?_
      simp -dsimp only [simprocAttr, ↓vpre, zp, zc]
      rfl
     rintro ⟨⟨z, s⟩, hz, hsl, hke3⟩
     simp only at hz hsl hke3
     refine zh1 (za0 ?_)
     apply zk1 rfl <;> intro h
     ·refine zb0 ?_
      have hlz : z < b.term.to.length := by simpa using h
      obtain ⟨e, he⟩ : ∃ e, b.term.to[z]? = some e := ⟨b.term.to[z], by simp [hlz]⟩
      obtain ⟨he1, he2⟩ := hv.edges b (List.mem_of_getElem? hb) e (List.mem_of_getElem? he)
      rw [drop_at he, List.foldl_cons] at hke3
      obtain ⟨j, hj⟩ : ∃ j : Nat, e.block = (j : Int) := ⟨e.block.toNat, by omega⟩
      obtain ⟨a, ha⟩ : ∃ a, s[k]? = some a := ⟨s[k]'(by omega), List.getElem?_eq_getElem _⟩
      have hak : (s.map eB)[k]? = some (eB a) := by rw [List.getElem?_map, ha]; rfl
      have hrE : rchE k s e = if a = true then s.set j true else s := by simp [rchE, ha, hj]
      rw [hrE] at hke3
      have hne : decide (e.block = -1) = false := decide_eq_false (by omega)
      have hwi := withinR_spec e.block ((N : Int) - 1) (by omega) (by omega)
      have hsp := eB_put (l := s) (j := j) (by omega) true
      refine awp_seq (awp_block ?_)
      refine zg1 ?_
      simp -dsimp only [simprocAttr, ↓vpre, zp, he]
      refine za0 ?_
      refine awp_freeze1 9 2 (.ip none [aI e.block, eIs e.args]) rfl (by simp [AObj.isSpare]) trivial rfl ?_ ?_
      rotate_left
      simp -dsimp only [simprocAttr, ↓vpre, zp]
      ·refine awp_trunc' 2 [(1, aI (-1)), (2, .ip none [aI f.name, eBlocks f.blocks]), (5, .ms 1 0 N N), (27, aI N), (28, aI m), (31, eBlocks f.blocks), (32, aI N), (33, aI k), (6, aI k), (40, eEdges b.term.to), (41, aI b.term.to.length), (42, aI z), (9, .ip none [aI e.block, eIs e.args])] (by simp) (by omega) [.gone, .cells (s.map eB)] ?_ ?_ ?_ ?_ ?_
       ·rfl
       ·simp [AObj.upto, eB_upto]
       ·simp [Says, St.get, putS, dropS, Go.Av.look, Sub.refl]
       ·simp [AObj.upto, uptoL, AVal.upto, aI_upto, Func.map_upto, Block.map_upto, Edge.map_upto, Ins.map_upto]
       cases a with
       | true =>
        simp only [if_true] at hke3
        refine zg1 ?_
        simp -dsimp only [simprocAttr, ↓vpre, zp, hak, eB, hne, ← hN, Int.toNat_natCast, Nat.mul_one]
        repeat (refine ⟨by omega, ?_⟩)
        refine .inl ⟨_, hwi, by simp only [uptoL, AVal.upto, zt, zu, aI_upto, eB_upto], later_intro ?_⟩
        simp -dsimp only [simprocAttr, ↓vpre, zp]
        refine za0 ?_
        refine zw0 rfl ?_
        refine zg0 ?_
        simp -dsimp only [simprocAttr, ↓vpre, zp, hj, hsp, hsl, Int.toNat_natCast, Nat.mul_one]
        repeat (refine ⟨by omega, ?_⟩)
        refine za0 ?_
        refine zh0 ?_
        repeat (refine ⟨by omega, ?_⟩)
        refine zl0 ?_
        refine ⟨⟨(z + 1, s.set j true), hlz, by simp [hsl], hke3⟩, by simp; omega, ?_⟩
        refine zq rfl ?_ ?_
        simp -dsimp only [simprocAttr, ↓vpre, zp, zc]
        ·exact Sub.int (by simp)
        rfl
       | false =>
        simp only [Bool.false_eq_true, if_false] at hke3
        refine zg1 ?_
        simp -dsimp only [simprocAttr, ↓vpre, zp, hak, eB, hne, ← hN, Int.toNat_natCast, Nat.mul_one]
        repeat (refine ⟨by omega, ?_⟩)
        refine za0 ?_
        refine zu0 rfl ?_
        refine zb1 ?_
        refine zh0 ?_
        repeat (refine ⟨by omega, ?_⟩)
        refine zl0 ?_
        refine ⟨⟨(z + 1, s), hlz, hsl, hke3⟩, by simp; omega, ?_⟩
        refine zq rfl ?_ ?_
        simp -dsimp only [simprocAttr, ↓vpre, zp, zc]
        ·exact Sub.int (by simp)
        rfl
      exact FSub.mp rfl rfl
     refine awp_exit ?_
     simp -dsimp only [vend, ne_eq, Nat.reduceEqDiff, reduceCtorEq]
     have hzz : z = b.term.to.length := by simp at h; omega
     subst hzz
     rw [List.drop_length, List.foldl_nil] at hke3
     subst hke3
     refine zh0 ?_
     repeat (refine ⟨by omega, ?_⟩)
     refine zl0 ?_
     refine ⟨⟨(k + 1, B), hlk, hBl, hke2⟩, by simp; omega, ?_⟩
     refine zq rfl ?_ ?_
     simp -dsimp only [simprocAttr, ↓vpre, zp, zc]
     ·exact Sub.int (by simp)
     rfl
    exact FSub.mp rfl rfl
   refine awp_exit ?_
   simp -dsimp only [vend, ne_eq, Nat.reduceEqDiff, reduceCtorEq]
   have hkk : k = N := by simp at h; omega
   subst hkk
   rw [List.drop_of_length_le (by omega)] at hke2
   simp only [rchL] at hke2
   subst hke2
   refine zh0 ?_
   repeat (refine ⟨by omega, ?_⟩)
   refine zl0 ?_
   refine ⟨⟨(m + 1, L), hlt, hLl, hke⟩, by simp; omega, ?_⟩
   refine zq rfl ?_ ?_
   simp -dsimp only [simprocAttr, ↓vpre, zp, zc]
   ·exact Sub.int (by simp)
   rfl
  refine awp_exit ?_
  simp -dsimp only [vend, ne_eq, Nat.reduceEqDiff, reduceCtorEq]
  have hmm : m = N := by simp at h; omega
  subst hmm
  rw [Nat.sub_self] at hke
  simp only [rchN] at hke
  subst hke
  refine awp_freeze1 5 1 (o := .cells (R.map eB)) (.lst 1 (R.map eB) .nn) rfl (by simp [AObj.isSpare]) trivial rfl (eB_freeze rfl hRl) ?_
  simp -dsimp only [simprocAttr, ↓vpre, zp]
  refine zh1 (za0 ?_)
  refine awp_ret ?_
  simp -dsimp only [simprocAttr, ↓vpre, zp, zr, Try.results20]
  exact eB_upto _ _
 exact FSub.mp rfl rfl
end Go.Proofs.Ytlclgfgmhnmnaaa
end

section
set_option linter.unusedSimpArgs false
set_option maxRecDepth 100000
set_option maxHeartbeats 4000000
namespace Go.Proofs.Ytlclgfgmhnmnaaa
open Go.Av
def eRs (l : List Rng) : AVal := .lst 4 (l.map Rng.enc) .sh
theorem Rng.map_upto (n : Nat) (l : List Rng) : uptoL n (l.map Rng.enc) := by
 rw [uptoL_iff]
 intro c hc
 obtain ⟨r, _, rfl⟩ := List.mem_map.1 hc
 exact ⟨trivial, trivial, trivial, trivial, trivial⟩
theorem eRs_map_upto (n : Nat) (l : List (List Rng)) : uptoL n (l.map eRs) := by
 rw [uptoL_iff]
 intro c hc
 obtain ⟨r, _, rfl⟩ := List.mem_map.1 hc
 exact ⟨Rng.map_upto _ _, trivial⟩
theorem keep_upto {O : List AObj} (hO : ∀ o ∈ O, o.upto (O.length + 1)) (m : Nat) : ∀ o ∈ O ++ [AObj.spare m], o.upto (O.length + 1) := fun o ho => by
 rcases List.mem_append.1 ho with ho | ho
 ·exact hO o ho
 rw [List.mem_singleton.1 ho]
 trivial
theorem take_snoc (O : List AObj) (x : AObj) : (O ++ [x]).take (O.length + 1) = O ++ [x] := List.take_of_length_le (by simp)
theorem growR_spec (O : List AObj) (hO : ∀ o ∈ O, o.upto (O.length + 1)) (n : Nat) (hb : n ≤ 2 ^ 40) : ECall Try.prog 74 O [.v (.slice none 0 0), .v (.int .i64 n)] fun r O' => r = .lst 4 [] (.tok O.length) ∧ O' = O ++ [.spare 0] := by
 refine zf false (O.length+1) Try.func74 Try.ntmps74 ?_
 dsimp only [Tmp, TypeId, slotsOf]
 refine AWP.cover (τ := ⟨27, [(0, .lst 4 [] .ex), (1, .v (.int .i64 n))], O⟩) ?_ ⟨rfl, rfl, ⟨_, rfl, Sub.nil rfl (by simp) (by simp)⟩, ⟨_, rfl, Sub.refl _⟩, trivial⟩
 refine zh1 (za0 ?_)
 refine zh2 (za0 ?_)
 apply zk0 rfl <;> intro h
 ·simp at h
  omega
 refine zb0 ?_
 refine zh2 ?_
 refine ⟨by omega, by omega, ?_⟩
 refine za0 ?_
 refine zh1 (za0 ?_)
 apply zk0 rfl <;> intro h
 ·have hn : 0 < n := by
   simp at h
   omega
  refine zm0 ?_
  simp -dsimp only [simprocAttr, ↓vpre, zp]
  refine ⟨Try.underlying3, by omega, by omega, by omega, hn, ?_⟩
  refine za0 ?_
  refine zh1 (za0 ?_)
  refine awp_ret ?_
  simp -dsimp only [simprocAttr, ↓vpre, zp, zr, Try.results74, take_snoc]
  exact ⟨keep_upto hO _, by simp [uptoL], by omega⟩
 have hn : n = 0 := by
  simp at h
  omega
 refine zb0 ?_
 refine awp_own 0 rfl ?_
 simp -dsimp only [simprocAttr, ↓vpre, zp]
 refine zh1 (za0 ?_)
 refine awp_ret ?_
 simp -dsimp only [simprocAttr, ↓vpre, zp, zr, Try.results74, take_snoc]
 exact ⟨keep_upto hO _, by simp [uptoL], by omega⟩
theorem tot_next {α : Type} {rows : List (List α)} {k : Nat} {r : List α} (h : rows[k]? = some r) : (rows.take (k + 1)).flatten = (rows.take k).flatten ++ r := by
 rw [List.take_add_one, h]
 simp
theorem tot_le {α : Type} (rows : List (List α)) (k : Nat) : (rows.take k).flatten.length ≤ rows.flatten.length := by
 have : rows.flatten = (rows.take k).flatten ++ (rows.drop k).flatten := by rw [← List.flatten_append, List.take_append_drop]
 rw [this]
 simp
theorem concatR_spec (rows : List (List Rng)) (hb : rows.length ≤ 2 ^ 30) (ht : rows.flatten.length ≤ 2 ^ 30) (O : List AObj) (hO : ∀ o ∈ O, o.upto (O.length + 1)) :
  ECall Try.prog 47 O [.lst 1 (rows.map eRs) .sh] fun r O' => r = .lst 4 (rows.flatten.map Rng.enc) (.tok O.length) ∧ O' = O ++ [.spare rows.flatten.length] := by
 refine zf false (O.length+1) Try.func47 Try.ntmps47 ?_
 dsimp only [Tmp, TypeId, slotsOf]
 refine zh1 (za0 ?_)
 refine zh1 (za0 ?_)
 refine zh2 (za0 ?_)
 refine awp_block (awp_loop (ι := {k : Nat // k ≤ rows.length}) (fun k => ⟨36, [(0, .lst 1 (rows.map eRs) .sh), (9, .lst 1 (rows.map eRs) .sh), (10, .v (.int .i64 rows.length)), (11, .v (.int .i64 k.1)), (3, .v (.int .i64 (rows.take k.1).flatten.length))], O⟩) (fun k => rows.length - k.1) ⟨0, by omega⟩ ?_ ?_)
 ·refine zq rfl ?_ ?_
  simp -dsimp only [simprocAttr, ↓vpre, zp, zc, List.flatten_nil]
  rfl
 rintro ⟨k, hk⟩
 refine zh1 (za0 ?_)
 apply zk1 rfl <;> intro h
 ·refine zb0 ?_
  have hlt : k < rows.length := by simpa using h
  obtain ⟨r, hr⟩ : ∃ r, rows[k]? = some r := ⟨rows[k], by simp [hlt]⟩
  have h1 := congrArg List.length (tot_next hr)
  have h2 := tot_le rows (k + 1)
  rw [List.length_append] at h1
  refine awp_seq (awp_block ?_)
  refine zg1 ?_
  simp -dsimp only [simprocAttr, ↓vpre, zp, hr, eRs]
  refine za0 ?_
  refine zh1 ?_
  refine ⟨by omega, by omega, ?_⟩
  refine za0 ?_
  refine zh1 (za0 ?_)
  apply zk0 rfl <;> intro h
  ·simp at h
   omega
  refine zb1 ?_
  refine zh0 ?_
  refine ⟨by omega, by omega, ?_⟩
  refine zl0 ?_
  refine ⟨⟨k + 1, hlt⟩, by simp; omega, ?_⟩
  refine zq rfl ?_ ?_
  simp -dsimp only [simprocAttr, ↓vpre, zp, zc]
  ·exact ⟨Sub.int (by simp), Sub.int (by simp only [h1]; omega)⟩
  rfl
 refine awp_exit ?_
 simp -dsimp only [vend, ne_eq, Nat.reduceEqDiff, reduceCtorEq]
 have hlt : k = rows.length := by simp at h; omega
 subst hlt
 simp only [List.take_length]
 refine zh1 ?_
 refine .inr (.inl ⟨_, _, (growR_spec O hO rows.flatten.length (by omega)), .inl (later_intro (zj ?_))⟩)
 refine za0 ?_
 refine zh2 (za0 ?_)
 refine awp_block (awp_loop (ι := {k : Nat // k ≤ rows.length}) (fun k => ⟨36, [(25, .lst 1 (rows.map eRs) .sh), (26, .v (.int .i64 rows.length)), (27, .v (.int .i64 k.1)), (6, .lst 4 ((rows.take k.1).flatten.map Rng.enc) (.tok O.length))], O ++ [.spare (rows.take k.1).flatten.length]⟩) (fun k => rows.length - k.1) ⟨0, by omega⟩ ?_ ?_)
 ·refine zq rfl ?_ ?_
  simp -dsimp only [simprocAttr, ↓vpre, zp, zc, List.flatten_nil]
  rfl
 rintro ⟨k, hk⟩
 refine zh1 (za0 ?_)
 apply zk1 rfl <;> intro h
 ·refine zb0 ?_
  have hlt : k < rows.length := by simpa using h
  obtain ⟨r, hr⟩ : ∃ r, rows[k]? = some r := ⟨rows[k], by simp [hlt]⟩
  have h1 := congrArg List.length (tot_next hr)
  have h2 := tot_le rows (k + 1)
  rw [List.length_append] at h1
  refine awp_seq (awp_block ?_)
  refine zg1 ?_
  simp -dsimp only [simprocAttr, ↓vpre, zp, hr, eRs]
  refine za0 ?_
  refine zh0 ?_
  refine ⟨by omega, by omega, ?_⟩
  refine za0 ?_
  refine zh0 ?_
  refine ⟨by omega, by omega, ?_⟩
  refine zl0 ?_
  refine ⟨⟨k + 1, hlt⟩, by simp; omega, ?_⟩
  have e := tot_next hr
  refine zq rfl ?_ ?_
  simp -dsimp only [simprocAttr, ↓vpre, zp, zc]
  ·exact ⟨Sub.int (by simp), Sub.lst (by simp [e, Rng.enc_share])⟩
  simp [e]
 refine awp_exit ?_
 simp -dsimp only [vend, ne_eq, Nat.reduceEqDiff, reduceCtorEq]
 have hlt : k = rows.length := by simp at h; omega
 subst hlt
 refine zg1 ?_
 simp -dsimp only [simprocAttr, ↓vpre, zp, List.take_length]
 refine za0 ?_
 refine awp_ret ?_
 simp -dsimp only [simprocAttr, ↓vpre, zp, zr, Try.results47, List.take_length, take_snoc]
 exact ⟨keep_upto hO _, Rng.map_upto _ _, by omega⟩
end Go.Proofs.Ytlclgfgmhnmnaaa
end

section
set_option linter.unusedSimpArgs false
set_option maxRecDepth 100000
set_option maxHeartbeats 4000000
namespace Go.Proofs.Ytlclgfgmhnmnaaa
open Go.Av
theorem rBack_spec {f : Func} {many N c k : Nat} {X : Rx} (hX : RxOK many [] X) (hc : RxB c k X) (hcc : c ≤ 2 ^ 30) (hmy : many ≤ 2 ^ 20) {behind : List (List Bool)} (hA : X.O[3]? = some (.cells (lifeC f many 2 N))) (hB : X.O[2]? = some (.cells (behind.map eH))) (hbN : behind.length = N)
  {b : Block} (hb : f.blocks[k]? = some b) {s0 : List Bool} (hs0 : behind[k]? = some s0) (hne : s0 ≠ []) (hsl : s0.length = many) (hil : b.ins.length ≤ 2 ^ 47) (hin : ∀ i ∈ b.ins, InR many i.to ∧ ∀ a ∈ i.args, InR many a) :
  ECall Try.prog 44 (X.O ++ [.cells [aI k]]) [.mp 3 0, aI k, .fn (.func 45) [] [.mp 6 0, .mp X.O.length 0]] (fun r O' => r = .lst 1 ((backM b.ins s0).map eB) .nn ∧ O' = (rxBlock f k X s0).O) := by
 have h6 := lt_of_getElem? hX.var
 have hbk : (blkOf f k).ins = b.ins := by simp [blkOf, hb]
 obtain ⟨B, hBe⟩ : ∃ B, B = X.O.length := ⟨_, rfl⟩
 have hm := hX.more (x := .cells [aI k]) (y := .cells []) ⟨trivial, trivial⟩ trivial
 rw [← hBe] at hm
 have hOl : (X.O ++ [AObj.cells [aI k]]).length = B + 1 := by simp [hBe]
 obtain ⟨x0, hx0⟩ : ∃ x0 : Rx, x0 = ⟨X.parts, X.ids, X.O ++ [.cells [aI k], .cells []]⟩ := ⟨_, rfl⟩
 rw [← hx0] at hm
 have hx0l : x0.O.length = B + 2 := by rw [hx0]; simp [hBe]
 have hx0O : x0.O = X.O ++ [.cells [aI k]] ++ [.cells []] := by rw [hx0]; simp
 have hnowB : ∀ (x : Rx), RxOK many [B, B + 1] x → B + 1 < x.O.length := fun x hx => (hx.prot (B + 1) (by simp)).2
 have hls : ∀ s : List Bool, s.length = many → ∀ v ∈ listM 0 s, 0 ≤ v ∧ v < many := fun s hs v hv => by
  have := listM_lt s 0 hv
  omega
 obtain ⟨Y, hY⟩ : ∃ Y, Y = backRun (rxStep k) b.ins b.ins.length x0 s0 := ⟨_, rfl⟩
 have hres : (rxBlock f k X s0).O = Y.O.set (B + 1) .gone := by
  unfold rxBlock
  rw [hbk, ← hx0, ← hY, ← hBe]
  rfl
 have hst : ∀ (x : Rx) (n : Nat) (s : List Bool), s.length = many → (RxOK many [B, B + 1] x ∧ RxB c k x ∧ x.O[B]? = some (.cells [aI k])) → RxOK many [B, B + 1] (rxStep k x n s) ∧ RxB c k (rxStep k x n s) ∧ (rxStep k x n s).O[B]? = some (.cells [aI k]) := fun x n s hs ⟨a, b, d⟩ =>
  ⟨rxAll_ok _ a (hls s hs), rxAll_b _ _ b, (rxAll_get (.inl (by simp)) _ a (hls s hs)).trans d⟩
 have h0 : RxOK many [B, B + 1] x0 ∧ RxB c k x0 ∧ x0.O[B]? = some (.cells [aI k]) := ⟨hm, by rw [hx0]; exact hc, by
  rw [hx0O, hBe]
  exact at_left (snoc_get _ _)⟩
 rw [hres]
 have hfin := back_spec (X := Rx) (enc := fun x s => (x.put (B + 1) (.cells (s.map eB))).O) (Inv := fun x => RxOK many [B, B + 1] x ∧ RxB c k x ∧ x.O[B]? = some (.cells [aI k])) (step := rxStep k) (x0 := x0) (O0 := X.O ++ [.cells [aI k]]) (K := Y.O.length) h0 (fun o ho => by
   rcases List.mem_append.1 ho with q | q
   ·exact AObj.upto_mono (by simp) (hX.up o q)
   rw [List.mem_singleton.1 q]
   exact ⟨trivial, trivial⟩)
  (fun s => by
   simp only [Rx.put, hx0O]
   rw [← hOl, List.set_append_right _ _ (Nat.le_refl _)]
   simp)
  (fun x s hx => by
   simp only [Rx.put, hOl]
   rw [List.getElem?_set_self (hnowB x hx.1)])
  (fun x s t hx => by
   simp only [Rx.put, hOl, List.set_set])
  (fun x s hx => by
   simp only [Rx.put, List.length_set]
   exact uptoO_set hx.1.up (eB_upto _ _))
  (f := f) (many := many) (N := N) (A := 3) (B := 2) (behind := behind) (at_left hA) (at_left hB) hbN hmy hb hs0 hne hsl hil hin (.fn (.func 45) [] [.mp 6 0, .mp B 0])
  (fun x n s hx _ hs => hst x n s hs hx)
  (.inr ⟨45, _, rfl, ⟨by rw [hOl]; show 6 < B + 1; omega, by rw [hOl]; show B < B + 1; omega, trivial⟩, fun x n s hx _ hs => by
   have hl := hnowB x hx.1
   have hput := rxAll_put (k := k) (p := n) (L := B + 1) (by simp) (.cells (s.map eB)) (listM 0 s) hx.1 (hls s hs)
   have := ranges1_spec (X := x.put (B + 1) (.cells (s.map eB))) (hx.1.put (by simp) (eB_upto _ _)) (c := c) (k := k) hx.2.1 hcc (by omega) (L := B + 1) (B := B) (by simp) (by simp) (s := s) (by simp only [Rx.put]; rw [List.getElem?_set_self hl]) hs (by simp only [Rx.put]; rw [List.getElem?_set_ne (by omega)]; exact hx.2.2) n
   rw [hput] at this
   rw [hOl]
   exact this⟩)
  (by
   rw [hOl, hY]
   have hi : B + 1 < (backRun (rxStep k) b.ins b.ins.length x0 s0).O.length := by
    obtain ⟨x', s', ⟨j1, j2⟩, he⟩ := backRun_ind (step := rxStep k) (l := b.ins) (J := fun n x s => s.length = many ∧ RxOK many [B, B + 1] x ∧ RxB c k x ∧ x.O[B]? = some (.cells [aI k])) (fun n x s i hi ⟨j1, j2⟩ => ⟨by rw [backI_len, j1], hst x (n + 1) s j1 j2⟩) b.ins.length x0 s0 (Nat.le_refl _) ⟨hsl, h0⟩
    rw [he]
    exact hnowB _ (hst x' 0 s' j1 j2).1
   omega)
  (fun x s hx he => by
   rw [← hY] at he
   subst he
   refine ⟨by simp [Rx.put], fun o ho => ?_⟩
   simp only [Rx.put, hOl, List.set_set] at ho
   exact uptoO_set (x := .gone) hx.1.up trivial o (List.mem_of_mem_take ho))
 rw [← hY] at hfin
 simp only [Rx.put, hOl, List.set_set] at hfin
 rw [List.take_of_length_le (by simp)] at hfin
 rw [← hBe]
 exact hfin
def partR (l : List Rng) : AVal := if l = [] then .lst 4 [] .ex else eRs l
theorem partR_upto (n : Nat) (l : List Rng) : (partR l).upto n := by
 unfold partR
 split
 ·exact ⟨trivial, trivial⟩
 exact ⟨Rng.map_upto _ _, trivial⟩
theorem partR_scalar (l : List Rng) : (partR l).scalar := by
 unfold partR
 split <;> trivial
theorem partV_scalar (id : Nat) (l : List Rng) : (partV id l).scalar := by
 unfold partV
 split <;> trivial
theorem partR_share (l : List Rng) : (partR l).shareCell = eRs l := by
 unfold partR
 split
 ·rename_i h
  subst h
  rfl
 rfl
theorem rngC_share : ∀ l : List Rng, (rngC l).map AVal.shareCell = rngC l
 | [] => rfl
 | r :: l => by
  rw [show rngC (r :: l) = r.enc.cells ++ rngC l from rfl, List.map_append, rngC_share l]
  rfl
theorem awp_parts {P : Program} {kb : Nat} {c : Code} {Q : AEx → St → Prop} {n : Nat} {slots : List (Nat × AVal)} {ls : List (List Rng)} {ids : List Nat} {many : Nat} (h1 : ls.length = many) (h2 : ids.length = many)
  (hap : ∀ (v w : Nat) l m id, ls[v]? = some l → ls[w]? = some m → l ≠ [] → m ≠ [] → ids[v]? = some id → ids[w]? = some id → v = w) :
  ∀ (j m : Nat) (O : List AObj) (cs : List AVal), m + j = many → O[5]? = some (.cells cs) → cs.length = many → (∀ o ∈ O, o.upto O.length) →
   (∀ (v : Nat) l id, ls[v]? = some l → ids[v]? = some id → cs[v]? = some (if v < m then partR l else partV id l)) →
   (∀ (v : Nat) l id, m ≤ v → ls[v]? = some l → ids[v]? = some id → l ≠ [] → O[id]? = some (.cells (rngC l)) ∧ 7 ≤ id) →
   (∀ O', O'.length = O.length → (∀ o ∈ O', o.upto O'.length) → O'[5]? = some (.cells (ls.map partR)) → O'[6]? = O[6]? → AWP P kb c Q ⟨n, slots, O'⟩) → AWP P kb c Q ⟨n, slots, O⟩
 | 0, m, O, cs, hm, hO, hcs, hup, hg, _, h => by
  refine h O rfl hup ?_ rfl
  rw [hO]
  congr 2
  refine List.ext_getElem? fun v => ?_
  by_cases hv : v < many
  ·rw [hg v _ _ (List.getElem?_eq_getElem (by omega)) (List.getElem?_eq_getElem (by omega)), if_pos (by omega), List.getElem?_map, List.getElem?_eq_getElem (by omega)]
   rfl
  rw [List.getElem?_eq_none (by omega), List.getElem?_eq_none (by simp; omega)]
 | j + 1, m, O, cs, hm, hO, hcs, hup, hg, hown, h => by
  obtain ⟨l, hl⟩ : ∃ l, ls[m]? = some l := ⟨ls[m], List.getElem?_eq_getElem _⟩
  obtain ⟨id, hid⟩ : ∃ id, ids[m]? = some id := ⟨ids[m], List.getElem?_eq_getElem _⟩
  have h5 := lt_of_getElem? hO
  by_cases hl0 : l = []
  ·refine awp_parts h1 h2 hap j (m + 1) O cs (by omega) hO hcs hup (fun v l' id' a b => ?_) (fun v l' id' a b c d => hown v l' id' (by omega) b c d) h
   rw [hg v l' id' a b]
   by_cases e : v = m
   ·subst e
    rw [hl] at a
    simp only [Option.some.injEq] at a
    subst a
    subst hl0
    rw [if_neg (by omega), if_pos (by omega)]
    rfl
   by_cases e2 : v < m
   ·rw [if_pos e2, if_pos (by omega)]
   rw [if_neg e2, if_neg (by omega)]
  obtain ⟨o1, o2⟩ := hown m l id (Nat.le_refl _) hl hid hl0
  have hcm := hg m l id hl hid
  rw [if_neg (by omega)] at hcm
  have hidl := lt_of_getElem? o1
  refine awp_freeze_in id o1 (by simp [AObj.isSpare]) trivial slots (fun s y q => ⟨y, q, FSub.refl _⟩) 5 (by omega) cs (cs.set m (partR l)) hO (by simp) (fun d hd => ?_) (fun v x d a b => ?_) ?_
  ·rcases List.mem_or_eq_of_mem_set hd with q | q
   ·obtain ⟨v, hv⟩ := List.getElem?_of_mem q
    have hvl := lt_of_getElem? hv
    rw [hg v _ _ (List.getElem?_eq_getElem (by omega)) (List.getElem?_eq_getElem (by omega))] at hv
    simp only [Option.some.injEq] at hv
    subst hv
    split
    ·exact partR_scalar _
    exact partV_scalar _ _
   subst q
   exact partR_scalar _
  ·rcases set_cases b with ⟨rfl, rfl⟩ | ⟨_, q⟩
   ·rw [hcm] at a
    simp only [Option.some.injEq] at a
    subst a
    rw [partV_ne hl0, partR, if_neg hl0]
    refine FSub.os o1 (fun x hx => ?_) (by simp) ?_
    ·obtain ⟨r, _, rfl⟩ := List.mem_map.1 hx
     rfl
    rw [List.drop_zero, List.take_of_length_le (Nat.le_of_eq (rngC_len l)), rngC_share]
    rfl
   rw [a] at q
   simp only [Option.some.injEq] at q
   exact FSub.of_eq q
  refine awp_parts h1 h2 hap j (m + 1) _ (cs.set m (partR l)) (by omega) (by rw [List.getElem?_set_self (by simpa using h5)]) (by simp [hcs]) ?_ (fun v l' id' a b => ?_) (fun v l' id' a b c d => ?_) (fun O' a b c d => h O' (by simpa using a) b c ?_)
  ·simp only [List.length_set]
   refine uptoO_set (uptoO_set hup trivial) ?_
   show uptoL _ _
   have hcu : uptoL O.length cs := hup _ (List.mem_of_getElem? hO)
   rw [uptoL_iff] at hcu ⊢
   intro x hx
   rcases List.mem_or_eq_of_mem_set hx with q | q
   ·exact hcu x q
   subst q
   exact partR_upto _ _
  ·by_cases e : v = m
   ·subst e
    rw [hl] at a
    simp only [Option.some.injEq] at a
    subst a
    rw [List.getElem?_set_self (by omega), if_pos (by omega)]
   rw [List.getElem?_set_ne (fun q => e q.symm), hg v l' id' a b]
   by_cases e2 : v < m
   ·rw [if_pos e2, if_pos (by omega)]
   rw [if_neg e2, if_neg (by omega)]
  ·obtain ⟨p1, p2⟩ := hown v l' id' (by omega) b c d
   have hne : id ≠ id' := fun e => by
    have := hap m v l l' id hl b hl0 d hid (e ▸ c)
    omega
   exact ⟨by rw [List.getElem?_set_ne (by omega), List.getElem?_set_ne hne]; exact p1, p2⟩
  rw [d, List.getElem?_set_ne (by omega), List.getElem?_set_ne (by omega)]
end Go.Proofs.Ytlclgfgmhnmnaaa
end

section
set_option linter.unusedSimpArgs false
set_option maxRecDepth 100000
set_option maxHeartbeats 4000000
namespace Go.Proofs.Ytlclgfgmhnmnaaa
open Go.Av
def rx0 (f : Func) : Rx := ⟨List.replicate (manyM f) [], List.replicate (manyM f) 0, lvO f (liveM f) ++ [.cells (List.replicate (manyM f) (.lst 4 [] .ex)), .cells [.ms 5 0 (manyM f) (manyM f)]]⟩
def rngsM (f : Func) : List (List Rng) := (rxFrom f (liveM f).behind 0 (rx0 f)).parts
def rangesR (f : Func) : AVal := if checkFuncM f = 0 then .tup [eRs (rngsM f).flatten, aI 0] else .tup [.lst 4 [] .sh, aI (checkFuncM f)]
theorem partC_rep (n : Nat) : partC (List.replicate n []) (List.replicate n 0) = List.replicate n (.lst 4 [] .ex) := by
 induction n with
 | zero => rfl
 | succ n ih =>
  simp only [List.replicate_succ, partC, ih]
  rfl
theorem reps_flat {α : Type} (n : Nat) (x : α) : (List.replicate n [x]).flatten = List.replicate n x := by
 induction n with
 | zero => rfl
 | succ n ih => rw [List.replicate_succ, List.flatten_cons, ih]; rfl
theorem flatten_bound {α : Type} {c : Nat} : ∀ {l : List (List α)}, (∀ x ∈ l, x.length ≤ c) → l.flatten.length ≤ l.length * c
 | [], _ => by simp
 | x :: r, h => by
  have h1 := h x (by simp)
  have h2 := flatten_bound (l := r) fun y hy => h y (by simp [hy])
  simp only [List.flatten_cons, List.length_append, List.length_cons, Nat.add_mul]
  omega
theorem ranges_spec (f : Func) (hfit : f.fit) : PCall Try.prog 18 [f.enc] (rangesR f) := by
 unfold rangesR
 by_cases hc : checkFuncM f = 0
 ·rw [if_pos hc]
  have hv := checkFunc_v hfit hc
  have hn : f.blocks.length ≤ 128 := hv.fn.few
  have hmy := hv.many hv.fresh
  have hb := build_spec f hfit hc
  obtain ⟨hok, hfix⟩ := live_fix hn hv.fresh
  obtain ⟨R, hR⟩ : ∃ R, R = rngsM f := ⟨_, rfl⟩
  rw [← hR]
  unfold rngsM rx0 at hR
  have hlu := lvO_upto f (liveM f)
  generalize liveM f = S at *
  obtain ⟨N, hN⟩ : ∃ N, N = f.blocks.length := ⟨_, rfl⟩
  obtain ⟨many, hM⟩ : ∃ many, many = manyM f := ⟨_, rfl⟩
  rw [← hM] at hmy hR
  have hl1 := hok.len1
  have hl2 := hok.len2
  unfold lvO at hb hR hlu
  rw [← hN, ← hM] at hb hR hlu
  rw [← hN] at hl1 hl2 hn
  rw [← hN] at hfix
  obtain ⟨X0, hX0⟩ : ∃ X0 : Rx, X0 = ⟨List.replicate many [], List.replicate many 0, [.gone, .gone, .cells (S.behind.map eH), .cells (lifeC f many 2 N), .cells (S.first.map eF)] ++ [.cells (List.replicate many (.lst 4 [] .ex)), .cells [.ms 5 0 many many]]⟩ := ⟨_, rfl⟩
  rw [← hX0] at hR
  have hO0 : X0.O = [.gone, .gone, .cells (S.behind.map eH), .cells (lifeC f many 2 N), .cells (S.first.map eF), .cells (List.replicate many (.lst 4 [] .ex)), .cells [.ms 5 0 many many]] := by rw [hX0]; rfl
  have hxok : RxOK many [] X0 ∧ RxB 0 (0 : Nat) X0 := by
   subst hX0
   refine ⟨⟨by simp, by simp, ?_, ?_, rfl, fun v l id a b c => ?_, fun v w l m id a b c => ?_, by simp⟩, fun l hl => ?_⟩
   ·intro o ho
    rcases List.mem_append.1 ho with q | q
    ·exact AObj.upto_mono (by simp) (hlu o q)
    simp only [List.mem_cons, List.not_mem_nil, or_false] at q
    rcases q with rfl | rfl
    ·show uptoL _ _
     rw [uptoL_iff]
     intro x hx
     rw [(List.mem_replicate.1 hx).2]
     exact ⟨trivial, trivial⟩
    exact ⟨by show 5 < _; simp, trivial⟩
   ·simp only [partC_rep]
    rfl
   ·exact absurd (List.mem_replicate.1 (List.mem_of_getElem? a)).2 c
   ·exact absurd (List.mem_replicate.1 (List.mem_of_getElem? a)).2 c
   rw [(List.mem_replicate.1 hl).2]
   exact .inl (Nat.le_refl _)
  refine zf true 0 Try.func18 Try.ntmps18 ?_
  dsimp only [Tmp, TypeId, slotsOf]
  refine zh1 (za0 ?_)
  refine awp_freeze1 1 0 (.ip none [aI f.name, eBlocks f.blocks]) rfl (by simp [AObj.isSpare]) trivial rfl ?_ ?_
  rotate_left
  simp -dsimp only [simprocAttr, ↓vpre, zp]
  ·refine zh1 ?_
   refine .inr (.inl ⟨_, _, hb, .inl (later_intro (zj ?_))⟩)
   refine za0 ?_
   refine zh2 (za0 ?_)
   apply zk0 rfl <;> intro h
   ·cases h
   refine zb0 ?_
   refine zg1 ?_
   simp -dsimp only [simprocAttr, ↓vpre, zp, lifeC, reps_flat]
   repeat (refine ⟨by omega, ?_⟩)
   refine za0 ?_
   show AWP Try.prog _ _ _ ⟨_, _, [.gone, .gone, .cells (S.behind.map eH), .cells (lifeC f many 2 N), .cells (S.first.map eF), .cells (List.replicate many (.lst 4 [] .ex)), .cells [.ms 5 0 many many]]⟩
   rw [← hO0]
   refine zg2 ?_
   simp -dsimp only [simprocAttr, ↓vpre, zp, ← hN]
   refine za0 ?_
   refine awp_block (awp_loop (ι := {x : Nat × Rx // x.1 ≤ N ∧ RxOK many [] x.2 ∧ RxB x.1 x.1 x.2 ∧ x.2.O[2]? = some (.cells (S.behind.map eH)) ∧ x.2.O[3]? = some (.cells (lifeC f many 2 N)) ∧ R = (rxFrom f (S.behind.drop x.1) x.1 x.2).parts}) (fun x => ⟨36, [(4, .mp 3 0), (7, .mp 6 0), (25, aI N), (26, aI x.1.1)], x.1.2.O⟩) (fun x => N - x.1.1) ⟨(0, X0), by simp, hxok.1, hxok.2, by rw [hO0]; rfl, by rw [hO0]; rfl, hR⟩ ?_ ?_)
   ·refine zq rfl ?_ ?_
    simp -dsimp only [simprocAttr, ↓vpre, zp, zc]
    rfl
   rintro ⟨⟨k, X⟩, hk, hX, hXb, hX2, hX3, hke⟩
   simp only at hk hX hXb hX2 hX3 hke
   have hup := hX.up
   refine zh1 (za0 ?_)
   apply zk1 rfl <;> intro h
   ·refine zb0 ?_
    have hlt : k < N := by simpa using h
    obtain ⟨b, hbk⟩ : ∃ b, f.blocks[k]? = some b := ⟨f.blocks[k]'(by omega), List.getElem?_eq_getElem _⟩
    obtain ⟨s0, hs0, hne, hsl, _, _⟩ := hfix k hlt
    have hbr := rBack_spec hX hXb (by omega) (by omega) hX3 hX2 hl2 hbk hs0 hne (by rw [hsl, hM]) ((hfit.2.2 b (List.mem_of_getElem? hbk)).2.2.1) (by rw [hM]; exact hv.ins hbk)
    obtain ⟨n1, n2, n3⟩ := rxBlock_ok (f := f) (s0 := s0) hX hXb (by rw [hsl, hM])
    rw [drop_at hs0] at hke
    simp only [rxFrom] at hke
    obtain ⟨X1, hX1⟩ : ∃ X1, X1 = rxBlock f k X s0 := ⟨_, rfl⟩
    rw [← hX1] at hke n1 n2 n3 hbr
    refine awp_seq (awp_block ?_)
    refine zh1 (za0 ?_)
    refine zh0 ?_
    refine .inr (.inl ⟨_, _, hbr, .inl (later_intro (zj ?_))⟩)
    refine za0 ?_
    refine zh0 ?_
    repeat (refine ⟨by omega, ?_⟩)
    refine zl0 ?_
    refine ⟨⟨(k + 1, X1), hlt, n1, n2, (n3 2 (by omega)).trans hX2, (n3 3 (by omega)).trans hX3, hke⟩, by simp; omega, ?_⟩
    refine zq rfl ?_ ?_
    simp -dsimp only [simprocAttr, ↓vpre, zp, zc]
    ·exact Sub.int (by simp)
    rfl
   refine awp_exit ?_
   simp -dsimp only [vend, ne_eq, Nat.reduceEqDiff, reduceCtorEq]
   have hkk : k = N := by simp at h; omega
   subst hkk
   rw [List.drop_of_length_le (by omega)] at hke
   simp only [rxFrom] at hke
   have hRl : R.length = many := by rw [hke, hX.len1]
   have hRb : ∀ l ∈ R, l.length ≤ 129 := fun l hl => by
    rw [hke] at hl
    rcases hXb l hl with q | ⟨q, _⟩ <;> omega
   have hfl := flatten_bound hRb
   have harr := hX.arr
   have hvar := hX.var
   refine awp_parts hX.len1 hX.len2 hX.apart many 0 X.O _ (by omega) harr (partC_len _ _ (by rw [hX.len1, hX.len2]) |>.trans hX.len1) hup (fun v l id a b => by rw [if_neg (by omega)]; exact partC_get a b) (fun v l id _ b c d => ⟨(hX.own v l id b c d).1, (hX.own v l id b c d).2.1⟩) fun O hOl hOu h5 h6 => ?_
   rw [hvar] at h6
   rw [← hke] at h5
   refine awp_freeze_in 5 h5 (by simp [AObj.isSpare]) trivial _ (fun s y q => ⟨y, q, FSub.refl _⟩) 6 (by omega) _ [.lst 1 (R.map eRs) .sh] h6 rfl (by simp [AVal.scalar]) (fun j x d a b => ?_) ?_
   ·cases j with
    | zero =>
     simp only [List.getElem?_cons_zero, Option.some.injEq] at a b
     subst a
     subst b
     have hcs : cellsAll (R.map eRs) = R.map eRs := by
      clear hke hRl hRb hfl h5 hR
      induction R with
      | nil => rfl
      | cons l r ih => rw [List.map_cons, show cellsAll (eRs l :: r.map eRs) = eRs l :: cellsAll (r.map eRs) from rfl, ih]
     refine FSub.ms h5 (fun x hx => ?_) (by simp [hRl]) ?_
     ·obtain ⟨l, _, rfl⟩ := List.mem_map.1 hx
      rfl
     rw [List.drop_zero, List.take_of_length_le (by simp [hRl]), hcs, List.map_map]
     exact List.map_congr_left fun l _ => partR_share l
    | succ j => simp at a
   have hcat := concatR_spec R (by omega) (by omega) ((O.set 5 .gone).set 6 (.cells [.lst 1 (R.map eRs) .sh])) (fun o ho => by
    refine AObj.upto_mono (n := O.length) (by simp) ?_
    exact uptoO_set (x := .cells [.lst 1 (R.map eRs) .sh]) (uptoO_set (x := .gone) hOu trivial) ⟨⟨eRs_map_upto _ _, trivial⟩, trivial⟩ o ho)
   have hg6 : ((O.set 5 AObj.gone).set 6 (.cells [.lst 1 (R.map eRs) .sh]))[6]? = some (.cells [.lst 1 (R.map eRs) .sh]) := List.getElem?_set_self (by have := lt_of_getElem? h6; simp; omega)
   generalize (O.set 5 AObj.gone).set 6 (.cells [.lst 1 (R.map eRs) .sh]) = O1 at *
   refine zg1 ?_
   simp -dsimp only [simprocAttr, ↓vpre, zp, hg6]
   refine .inr (.inl ⟨_, _, hcat, .inl (later_intro (zj ?_))⟩)
   refine za0 ?_
   refine awp_ret ?_
   simp -dsimp only [simprocAttr, ↓vpre, zp, zr, Try.results18]
   exact ⟨⟨⟨Rng.map_upto _ _, trivial⟩, trivial, trivial⟩, rfl⟩
  exact FSub.mp rfl rfl
 rw [if_neg hc]
 have hb := build_bad f hfit hc
 obtain ⟨e, he⟩ : ∃ e, e = checkFuncM f := ⟨_, rfl⟩
 rw [← he] at hc hb ⊢
 have hde : decide (e = 0) = false := decide_eq_false hc
 refine zf true 0 Try.func18 Try.ntmps18 ?_
 dsimp only [Tmp, TypeId, slotsOf]
 refine zh1 (za0 ?_)
 refine awp_freeze1 1 0 (.ip none [aI f.name, eBlocks f.blocks]) rfl (by simp [AObj.isSpare]) trivial rfl ?_ ?_
 rotate_left
 simp -dsimp only [simprocAttr, ↓vpre, zp]
 ·refine zh1 ?_
  refine .inl ⟨_, hb, by simp only [uptoL, AVal.upto, zt, zu, aI_upto, eB_upto, Rng.map_upto, eRs_map_upto], later_intro ?_⟩
  simp -dsimp only [simprocAttr, ↓vpre, zp]
  refine za0 ?_
  refine zg2 ?_
  simp -dsimp only [simprocAttr, ↓vpre, zp, hde]
  refine za0 ?_
  refine zw0 rfl ?_
  refine zh1 (za0 ?_)
  refine awp_ret ?_
  simp -dsimp only [simprocAttr, ↓vpre, zp, zr, Try.results18]
  simp [uptoL, AVal.upto]
 exact FSub.mp rfl rfl
end Go.Proofs.Ytlclgfgmhnmnaaa
end

section
set_option linter.unusedSimpArgs false
set_option maxRecDepth 100000
set_option maxHeartbeats 4000000
namespace Go.Proofs.Ytlclgfgmhnmnaaa
open Go.Av
theorem live_w {f : Func} (hfit : f.fit) (hc : checkFuncM f = 0) (hr : ∀ b ∈ reachM f, b = true) : LiveW f (liveM f).behind (manyM f) (rngsM f) := by
 have hv := checkFunc_v hfit hc
 obtain ⟨hok, hfix⟩ := live_fix hv.fn.few hv.fresh
 have hbeh : ∀ k, k < f.blocks.length → ∃ s, (liveM f).behind[k]? = some s ∧ s.length = manyM f := fun k hk => by
  obtain ⟨l, h1, _, h3, _⟩ := hfix k hk
  exact ⟨l, h1, h3⟩
 have h0 : All f (liveM f).behind (manyM f) 0 (rx0 f).parts := by
  have hnil : ∀ (v : Nat) l, (rx0 f).parts[v]? = some l → l = [] := fun v l h => (List.mem_replicate.1 (List.mem_of_getElem? h)).2
  refine ⟨by simp [rx0], fun n v l r a b => ?_, fun v l a => ?_, fun v l r a b => ?_, fun k' hk' => by omega⟩
  ·rw [hnil v l a] at b
   cases b
  ·rw [hnil v l a]
   simp
  rw [hnil v l a] at b
  cases b
 have := rxFrom_all (liveM f).behind 0 h0 (by rw [hok.len2]; omega) fun j s hj => by
  obtain ⟨s', h1, h2⟩ := hbeh j (by rw [← hok.len2]; exact lt_of_getElem? hj)
  rw [Nat.zero_add]
  rw [hj] at h1
  simp only [Option.some.injEq] at h1
  subst h1
  exact ⟨hj, h2⟩
 rw [hok.len2, Nat.zero_add] at this
 refine ⟨this, fun k hk => ?_, fun b hb i hi => ?_, hbeh⟩
 ·have hl := reachM_len f
  obtain ⟨a, ha⟩ : ∃ a, (reachM f)[k]? = some a := ⟨_, List.getElem?_eq_getElem (by omega)⟩
  have hat := hr a (List.mem_of_getElem? ha)
  subst hat
  exact reach_mrk hv k ha
 obtain ⟨k, hk⟩ := List.getElem?_of_mem hb
 obtain ⟨h1, h2⟩ := hv.ins hk i hi
 exact ⟨h1.1, fun a ha => (h2 a ha).1⟩
theorem high_eq {f : Func} (hfit : f.fit) (hc : checkFuncM f = 0) (hr : ∀ b ∈ reachM f, b = true) : highM (rngsM f).flatten = prFrom f (liveM f).behind 0 0 ∧ ∀ v w : Nat, bothM (rngsM f).flatten v w = inFrom f v w (liveM f).behind 0 false := by
 have hv := checkFunc_v hfit hc
 obtain ⟨hok, _⟩ := live_fix hv.fn.few hv.fresh
 have hw := live_w hfit hc hr
 exact ⟨high_most hv hw hok.len2, fun v w => both_in hv hw hok.len2 v w⟩
end Go.Proofs.Ytlclgfgmhnmnaaa
end
