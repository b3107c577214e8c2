/-
  Texts bound together by a program of mine: YtlclgfgmhnmnaaaT122, YtlclgfgmhnmnaaaPud, YtlclgfgmhnmnaaaPde, YtlclgfgmhnmnaaaT59, YtlclgfgmhnmnaaaT53, YtlclgfgmhnmnaaaPdf, YtlclgfgmhnmnaaaPdg, YtlclgfgmhnmnaaaPdh, YtlclgfgmhnmnaaaT101, YtlclgfgmhnmnaaaT102, YtlclgfgmhnmnaaaT103, YtlclgfgmhnmnaaaT107, YtlclgfgmhnmnaaaT55, YtakdmelemfnmdaaAvv, YtlclgfgmhnmnaaaT56, YtlclgfgmhnmnaaaT123, YtlclgfgmhnmnaaaT125.
-/
import Derived.Test.YtlclgfgmhnmnaaaF1
import Derived.Test.YtlclgfgmhnmnaaaChecked
import Derived.KernelRfl
import Derived.Shelf.Slices.In.SortNone
import Derived.Shelf.Sort.Plain
set_option linter.all false
set_option maxRecDepth 100000
set_option maxHeartbeats 4000000

namespace Go.Proofs.Ytlclgfgmhnmnaaa
open Go.Av
structure Cx where
 k : Nat
 bid : Nat
 ids : List Nat
 O : List AObj
structure Ci where
 j : Nat
 O : List AObj
structure Ce where
 z : Nat
 tid : Nat
 O : List AObj
theorem ins_take {l : List Ins} {j : Nat} {i : Ins} (h : l[j]? = some i) : (l.take (j + 1)).map Ins.enc = (l.take j).map Ins.enc ++ [i.enc] := by
 rw [List.take_add_one, h, List.map_append]
 rfl
theorem own_norm (O : List AObj) (C0 : List AVal) : (O ++ [AObj.cells C0] ++ [AObj.spare 0]).set O.length (.cells (C0.set 1 (.lst 4 [] (.tok (O ++ [AObj.cells C0]).length)))) = O ++ [.cells (C0.set 1 (.lst 4 [] (.tok (O.length + 1)))), .spare 0] := by simp
abbrev bcC0 (id : Nat) (b : Block) (l : List AVal) (t : AVal) : List AVal := [eIs b.params, .lst 4 l (.tok id), aI b.term.kind, aI b.term.arg, aI b.term.n, eIs b.term.cases, t]
abbrev bcC (id : Nat) (b : Block) (l : List Ins) (t : AVal) : List AVal := [eIs b.params, .lst 4 (l.map Ins.enc) (.tok id), aI b.term.kind, aI b.term.arg, aI b.term.n, eIs b.term.cases, t]
theorem bcC_upto {n id : Nat} (b : Block) (l : List Ins) {t : AVal} (h : id < n) (ht : t.upto n) : uptoL n (bcC id b l t) := ⟨⟨aI_upto _ _, trivial⟩, ⟨Ins.map_upto _ _, h⟩, trivial, trivial, trivial, ⟨aI_upto _ _, trivial⟩, ht, trivial⟩
theorem copy_spec (f : Func) (hs : SmW f) (hne : f.blocks ≠ []) : ECall Try.prog 39 [.gone, .cells [aI 0, .lst 7 [] .ex]] [f.enc] (CpR f) := by
 have hcl := fun (l : List Int) (h : l.length ≤ 4096) => clone_spec l (by omega)
 have hS0 := copy_start f
 have hn := hs.few
 obtain ⟨N, hN⟩ : ∃ N, N = f.blocks.length := ⟨_, rfl⟩
 rw [← hN] at hn
 refine ecall_all hT Try.func39 rfl (by kernel_rfl) (by simp [Try.ntmps39]) ?_
 show AWP Try.prog _ _ _ ⟨83, _, _⟩
 dsimp only [Tmp, TypeId, slotsOf]
 refine zh1 (za0 ?_)
 refine awp_freeze1 1 2 (.ip none [aI f.name, eBlocks f.blocks]) rfl (by simp [AObj.isSpare]) trivial rfl ?_ ?_
 rotate_left
 simp -dsimp only [simprocAttr, ↓vpre, zp]
 ·refine zh1 (za0 ?_)
  refine zg2 ?_
  simp -dsimp only [simprocAttr, ↓vpre, zp, ← hN]
  refine za0 ?_
  show AWP Try.prog _ _ _ ⟨_, _, [.gone, .cells [aI 0, .lst 7 [] .ex], .gone, .cells [aI 0, .lst 7 [] .ex], .cells [aI f.name, .lst 7 [] .ex]]⟩
  generalize [AObj.gone, .cells [aI 0, .lst 7 [] .ex], .gone, .cells [aI 0, .lst 7 [] .ex], .cells [aI f.name, .lst 7 [] .ex]] = O0 at *
  refine awp_block (awp_loop (ι := {X : Cx // X.k ≤ N ∧ CpS f (f.blocks.take X.k) X.bid X.ids X.O}) (fun X => ⟨83, [(1, .ip none [aI f.name, eBlocks f.blocks]), (2, .mp 3 0), (3, .mp 4 0), (15, eBlocks f.blocks), (16, aI N), (17, aI X.1.k)], X.1.O⟩) (fun X => N - X.1.k) ⟨⟨0, 0, [], O0⟩, by simp, hS0⟩ ?_ ?_)
  ·refine zq rfl ?_ ?_
   simp -dsimp only [simprocAttr, ↓vpre, zp, zc]
   all_goals rfl
  rintro ⟨⟨k, bid, ids, O⟩, hk, hS⟩
  simp only at hk hS
  refine zh1 (za0 ?_)
  apply zk1 rfl <;> intro h
  ·refine zb0 ?_
   have hlt : k < N := by simpa using h
   obtain ⟨b, hb⟩ : ∃ b, f.blocks[k]? = some b := ⟨f.blocks[k]'(by omega), List.getElem?_eq_getElem _⟩
   have hbm := List.mem_of_getElem? hb
   have htk : f.blocks.take (k + 1) = f.blocks.take k ++ [b] := by rw [List.take_add_one, hb]; rfl
   have hbp := hs.params b hbm
   have hbi := hs.ins b hbm
   have hba := hs.iargs b hbm
   have hbc := hs.cases b hbm
   have hbt := hs.to b hbm
   have hbe := hs.eargs b hbm
   have hcp := hcl b.params (by omega)
   have hcc := hcl b.term.cases (by omega)
   have h3l := lt_of_getElem? hS.r3
   have h4l := lt_of_getElem? hS.out
   refine awp_seq (awp_block ?_)
   refine zg1 ?_
   simp -dsimp only [simprocAttr, ↓vpre, zp, hb]
   refine za0 ?_
   refine awp_local 5 ([eIs b.params, eInss b.ins, aI b.term.kind, aI b.term.arg, aI b.term.n, eIs b.term.cases, eEdges b.term.to]) [(1, .ip none [aI f.name, eBlocks f.blocks]), (2, .mp 3 0), (3, .mp 4 0), (15, eBlocks f.blocks), (16, aI N), (17, aI k), (5, .ip none [eIs b.params, eInss b.ins, aI b.term.kind, aI b.term.arg, aI b.term.n, eIs b.term.cases, eEdges b.term.to])] (by simp [putS, dropS, Go.Av.look]) (by rfl) (by omega) (by simp [putS, dropS, Go.Av.look]) ?_ ?_ ?_
   ·exact hS.up
   ·simp [AVal.upto, uptoL, aI_upto, Edge.map_upto, Ins.map_upto, Block.map_upto, h3l, h4l]
   refine zh1 ?_
   refine zi hcp ?_
   refine ⟨ob (by kernel_rfl), ?_⟩
   refine za0 ?_
   refine awp_ownCell O.length 1 (sz := 4) (xs := []) (snoc_get _ _) rfl ?_
   show AWP Try.prog _ _ _ ⟨_, _, (O ++ [AObj.cells [eIs b.params, .lst 4 [] .ex, aI b.term.kind, aI b.term.arg, aI b.term.n, eIs b.term.cases, eEdges b.term.to]] ++ [AObj.spare 0]).set O.length (.cells ([eIs b.params, .lst 4 [] .ex, aI b.term.kind, aI b.term.arg, aI b.term.n, eIs b.term.cases, eEdges b.term.to].set 1 (.lst 4 [] (.tok (O ++ [AObj.cells [eIs b.params, .lst 4 [] .ex, aI b.term.kind, aI b.term.arg, aI b.term.n, eIs b.term.cases, eEdges b.term.to]]).length))))⟩
   rw [own_norm]
   have hI := CpI.start hS.up (cs := bcC (O.length + 1) b [] (eEdges b.term.to)) (bcC_upto b [] (by omega) ⟨Edge.map_upto _ _, trivial⟩)
   show AWP Try.prog _ _ _ ⟨_, _, O ++ [AObj.cells (bcC (O.length + 1) b [] (eEdges b.term.to)), .spare 0]⟩
   generalize O ++ [AObj.cells (bcC (O.length + 1) b [] (eEdges b.term.to)), .spare 0] = O2 at *
   refine zh2 (za0 ?_)
   refine awp_block (awp_loop (ι := {X : Ci // X.j ≤ b.ins.length ∧ CpI O (bcC (O.length + 1) b (b.ins.take X.j) (eEdges b.term.to)) X.j X.O}) (fun X => ⟨83, [(1, .ip none [aI f.name, eBlocks f.blocks]), (2, .mp 3 0), (3, .mp 4 0), (15, eBlocks f.blocks), (16, aI N), (17, aI k), (5, .ip none [eIs b.params, eInss b.ins, aI b.term.kind, aI b.term.arg, aI b.term.n, eIs b.term.cases, eEdges b.term.to]), (6, .mp O.length 0), (28, eInss b.ins), (29, aI b.ins.length), (30, aI X.1.j)], X.1.O⟩) (fun X => b.ins.length - X.1.j) ⟨⟨0, O2⟩, by simp, hI⟩ ?_ ?_)
   ·refine zq rfl ?_ ?_
    simp -dsimp only [simprocAttr, ↓vpre, zp, zc]
    all_goals rfl
   rintro ⟨⟨j, O2⟩, hj, hI⟩
   simp only at hj hI
   have hI2 := hI.len
   refine zh1 (za0 ?_)
   apply zk1 rfl <;> intro h
   ·refine zb0 ?_
    have hlj : j < b.ins.length := by simpa using h
    obtain ⟨i, hi⟩ : ∃ i, b.ins[j]? = some i := ⟨b.ins[j], by simp [hlj]⟩
    have hci := hcl i.args (by have := hba i (List.mem_of_getElem? hi); omega)
    have hcell := hI.cell
    have hsp := hI.sp
    have htl : (b.ins.take j).length = j := by rw [List.length_take]; omega
    refine awp_seq (awp_block ?_)
    refine zg1 ?_
    simp -dsimp only [simprocAttr, ↓vpre, zp, hi]
    refine za0 ?_
    refine zh1 ?_
    refine zi hci ?_
    refine za0 ?_
    refine awp_local 8 ([aI i.to, aI i.op, aI i.n, eIs i.args]) [(1, .ip none [aI f.name, eBlocks f.blocks]), (2, .mp 3 0), (3, .mp 4 0), (15, eBlocks f.blocks), (16, aI N), (17, aI k), (5, .ip none [eIs b.params, eInss b.ins, aI b.term.kind, aI b.term.arg, aI b.term.n, eIs b.term.cases, eEdges b.term.to]), (6, .mp O.length 0), (28, eInss b.ins), (29, aI b.ins.length), (30, aI j), (8, .ip none [aI i.to, aI i.op, aI i.n, eIs i.args])] (by simp [putS, dropS, Go.Av.look]) (by rfl) (by omega) (by simp [putS, dropS, Go.Av.look]) ?_ ?_ ?_
    ·exact hI.up
    ·have h6l := lt_of_getElem? hcell
     simp [AVal.upto, uptoL, aI_upto, Edge.map_upto, Ins.map_upto, Block.map_upto, h6l, show 3 < O2.length by omega, show 4 < O2.length by omega]
    have hcell' : ∀ y, (O2.set (O.length + 1) y)[O.length]? = some (.cells (bcC (O.length + 1) b (b.ins.take j) (eEdges b.term.to))) := fun y => by rw [List.getElem?_set_ne (by omega)]; exact hcell
    refine zg0 ?_
    simp -dsimp only [simprocAttr, ↓vpre, zp, hcell, hcell', hsp, bcC, List.length_map, htl]
    repeat (refine ⟨by omega, ?_⟩)
    refine za0 ?_
    have hIn := (hI.room (j + 1)).one (cs' := bcC (O.length + 1) b (b.ins.take (j + 1)) (eEdges b.term.to)) (bcC_upto b _ (by omega) ⟨Edge.map_upto _ _, trivial⟩)
    show AWP Try.prog _ _ _ ⟨_, _, (O2.set (O.length + 1) (AObj.spare (j + 1))).set O.length (.cells (bcC0 (O.length + 1) b ((b.ins.take j).map Ins.enc ++ [i.enc]) (eEdges b.term.to)))⟩
    rw [← ins_take hi]
    have hIn : CpI O _ _ ((O2.set (O.length + 1) (AObj.spare (j + 1))).set O.length (.cells (bcC0 (O.length + 1) b ((b.ins.take (j + 1)).map Ins.enc) (eEdges b.term.to)))) := hIn
    generalize (O2.set (O.length + 1) (AObj.spare (j + 1))).set O.length (.cells (bcC0 (O.length + 1) b ((b.ins.take (j + 1)).map Ins.enc) (eEdges b.term.to))) = O5 at *
    refine zh0 ?_
    repeat (refine ⟨by omega, ?_⟩)
    refine zl0 ?_
    refine ⟨⟨⟨j + 1, O5⟩, hlj, hIn⟩, by simp; omega, ?_⟩
    refine zq rfl ?_ ?_
    simp -dsimp only [simprocAttr, ↓vpre, zp, zc]
    ·exact Sub.int (by simp)
    rfl
   refine awp_exit ?_
   simp -dsimp only [vend, ne_eq, Nat.reduceEqDiff, reduceCtorEq]
   have hjl : b.ins.length ≤ j := by
    have := of_decide_eq_false h
    omega
   rw [List.take_of_length_le hjl] at hI
   have hcell := hI.cell
   refine zg1 ?_
   simp -dsimp only [simprocAttr, ↓vpre, zp, hcell]
   refine .inl ⟨_, hcc, by simp only [uptoL, AVal.upto, zt, zu, aI_upto], later_intro ?_⟩
   simp -dsimp only [simprocAttr, ↓vpre, zp, hcell]
   refine za0 ?_
   have hIn := hI.one (cs' := bcC (O.length + 1) b b.ins (eEdges b.term.to)) (bcC_upto b _ (by omega) ⟨Edge.map_upto _ _, trivial⟩)
   show AWP Try.prog _ _ _ ⟨_, _, O2.set O.length (.cells (bcC (O.length + 1) b b.ins (eEdges b.term.to)))⟩
   generalize O2.set O.length (.cells (bcC (O.length + 1) b b.ins (eEdges b.term.to))) = O5 at *
   have hcell := hIn.cell
   refine zg1 ?_
   simp -dsimp only [simprocAttr, ↓vpre, zp, hcell]
   refine za0 ?_
   have h2l := hIn.len
   have hnil : bcC (O.length + 1) b b.ins (.lst 2 [] .ex) = [eIs b.params, .lst 4 (b.ins.map Ins.enc) (.tok (O.length + 1)), aI b.term.kind, aI b.term.arg, aI b.term.n, eIs b.term.cases, .lst 2 [] .ex] := rfl
   refine awp_retell2 O.length (bcC (O.length + 1) b b.ins (.lst 2 [] .ex)) (List.getElem?_set_self (by omega)) rfl (fun d hd => ?_) (fun j c d hc hd => ?_) ?_
   ·simp only [bcC, bcC0, List.mem_cons, List.not_mem_nil, or_false] at hd
    rcases hd with rfl | rfl | rfl | rfl | rfl | rfl | rfl <;> trivial
   ·match j, hc, hd with
    | 0, hc, hd => exact Sub.of_eq (by simpa [bcC, bcC0] using hc.symm.trans hd)
    | 1, hc, hd => exact Sub.of_eq (by simpa [bcC, bcC0] using hc.symm.trans hd)
    | 2, hc, hd => exact Sub.of_eq (by simpa [bcC, bcC0] using hc.symm.trans hd)
    | 3, hc, hd => exact Sub.of_eq (by simpa [bcC, bcC0] using hc.symm.trans hd)
    | 4, hc, hd => exact Sub.of_eq (by simpa [bcC, bcC0] using hc.symm.trans hd)
    | 5, hc, hd => exact Sub.of_eq (by simpa [bcC, bcC0] using hc.symm.trans hd)
    | 6, hc, hd =>
     simp only [bcC, bcC0, List.getElem?_cons_succ, List.getElem?_cons_zero, Option.some.injEq] at hc hd
     subst hc
     subst hd
     exact Sub.nil_lst 2
    | j + 7, hc, hd => simp at hc
   rw [List.set_set]
   have hE := CpE.start (cs := bcC (O.length + 1) b b.ins) (hIn.one (cs' := bcC (O.length + 1) b b.ins (.lst 2 [] .ex)) (bcC_upto b _ (by omega) ⟨trivial, trivial⟩))
   generalize O5.set O.length (.cells (bcC (O.length + 1) b b.ins (.lst 2 [] .ex))) = O6 at *
   refine zh2 (za0 ?_)
   refine awp_block (awp_loop (ι := {X : Ce // X.z ≤ b.term.to.length ∧ CpE O (bcC (O.length + 1) b b.ins) X.tid (b.term.to.take X.z) X.O}) (fun X => ⟨83, [(1, .ip none [aI f.name, eBlocks f.blocks]), (2, .mp 3 0), (3, .mp 4 0), (15, eBlocks f.blocks), (16, aI N), (17, aI k), (5, .ip none [eIs b.params, eInss b.ins, aI b.term.kind, aI b.term.arg, aI b.term.n, eIs b.term.cases, eEdges b.term.to]), (6, .mp O.length 0), (55, eEdges b.term.to), (56, aI b.term.to.length), (57, aI X.1.z)], X.1.O⟩) (fun X => b.term.to.length - X.1.z) ⟨⟨0, 0, O6⟩, by simp, hE⟩ ?_ ?_)
   ·refine zq rfl ?_ ?_
    simp -dsimp only [simprocAttr, ↓vpre, zp, zc]
    all_goals rfl
   rintro ⟨⟨z, tid, O3⟩, hz, hE⟩
   simp only at hz hE
   have hE2 := hE.len
   refine zh1 (za0 ?_)
   apply zk1 rfl <;> intro h
   ·refine zb0 ?_
    have hlz : z < b.term.to.length := by simpa using h
    obtain ⟨e, he⟩ : ∃ e, b.term.to[z]? = some e := ⟨b.term.to[z], by simp [hlz]⟩
    have hce := hcl e.args (hbe e (List.mem_of_getElem? he))
    have hcell := hE.cell
    have hti : b.term.to.take (z + 1) = b.term.to.take z ++ [e] := by rw [List.take_add_one, he]; rfl
    have htl : (b.term.to.take z).length = z := by rw [List.length_take]; omega
    have h6l := lt_of_getElem? hcell
    refine awp_seq (awp_block ?_)
    refine zg1 ?_
    simp -dsimp only [simprocAttr, ↓vpre, zp, he]
    refine za0 ?_
    refine awp_local 10 ([aI e.block, eIs e.args]) [(1, .ip none [aI f.name, eBlocks f.blocks]), (2, .mp 3 0), (3, .mp 4 0), (15, eBlocks f.blocks), (16, aI N), (17, aI k), (5, .ip none [eIs b.params, eInss b.ins, aI b.term.kind, aI b.term.arg, aI b.term.n, eIs b.term.cases, eEdges b.term.to]), (6, .mp O.length 0), (55, eEdges b.term.to), (56, aI b.term.to.length), (57, aI z), (10, .ip none [aI e.block, eIs e.args])] (by simp [putS, dropS, Go.Av.look]) (by rfl) (by omega) (by simp [putS, dropS, Go.Av.look]) ?_ ?_ ?_
    ·exact hE.up
    ·simp [AVal.upto, uptoL, aI_upto, Edge.map_upto, Ins.map_upto, Block.map_upto, h6l, show 3 < O3.length by omega, show 4 < O3.length by omega]
    by_cases hzn : b.term.to.take z = []
    ·have hox : outX tid (b.term.to.take z) = .lst 2 [] .ex := if_pos hzn
     rw [hox] at hcell
     have hcell' : ∀ X, (O3 ++ X)[O.length]? = some (.cells (bcC (O.length + 1) b b.ins (.lst 2 [] .ex))) := fun X => at_left hcell
     refine zs0 ?_
     simp -dsimp only [simprocAttr, ↓vpre, zp, hcell, hcell', bcC, cellsAll_v, cells_os']
     repeat (refine ⟨by omega, ?_⟩)
     refine .inl ⟨_, hce, by simp only [uptoL, AVal.upto, zt, zu, aI_upto], later_intro ?_⟩
     simp -dsimp only [simprocAttr, ↓vpre, zp, hcell, hcell', bcC, cellsAll_v, cells_os']
     repeat (refine ⟨by omega, ?_⟩)
     refine ⟨trivial, ?_⟩
     refine ⟨ob (by kernel_rfl), ?_⟩
     refine za0 ?_
     have hput : CpE O (bcC (O.length + 1) b b.ins) O3.length (b.term.to.take z ++ [e]) ((O3 ++ [AObj.cells [aI e.block, eIs e.args]]).set O.length (.cells (bcC (O.length + 1) b b.ins (.os O3.length 1 2)))) := hE.push e (fun v n hv hn => bcC_upto b _ (by omega) hv) rfl hE.up (fun _ _ => rfl) (by rw [hzn]; rfl) (by rw [hzn]; rfl)
     show AWP Try.prog _ _ _ ⟨_, _, (O3 ++ [AObj.cells [aI e.block, eIs e.args]]).set O.length (.cells (bcC (O.length + 1) b b.ins (.os O3.length 1 2)))⟩
     generalize (O3 ++ [AObj.cells [aI e.block, eIs e.args]]).set O.length (.cells (bcC (O.length + 1) b b.ins (.os O3.length 1 2))) = O7 at *
     refine zh0 ?_
     repeat (refine ⟨by omega, ?_⟩)
     refine zl0 ?_
     refine ⟨⟨⟨z + 1, O3.length, O7⟩, hlz, by rw [hti]; exact hput⟩, by simp; omega, ?_⟩
     refine zq rfl ?_ ?_
     simp -dsimp only [simprocAttr, ↓vpre, zp, zc]
     ·exact Sub.int (by simp)
     rfl
    obtain ⟨o1, o2⟩ := hE.own hzn
    have hox : outX tid (b.term.to.take z) = .os tid z 2 := by
     unfold outX
     rw [if_neg hzn, htl]
    rw [hox] at hcell
    have hcell' : ∀ X, (O3.set tid .gone ++ X)[O.length]? = some (.cells (bcC (O.length + 1) b b.ins (.os tid z 2))) := fun X => at_left (at_set_ne hcell (by omega))
    have hTT : (edC (b.term.to.take z)).take (z * 2) = edC (b.term.to.take z) := List.take_of_length_le (by rw [edC_len]; omega)
    have hel := edC_len (b.term.to.take z)
    rw [htl] at hel
    refine zg0 ?_
    simp -dsimp only [simprocAttr, ↓vpre, zp, hcell, hcell', bcC, o2, hTT, hel, cellsAll_v, cells_os']
    repeat (refine ⟨by omega, ?_⟩)
    refine .inl ⟨_, hce, by simp only [uptoL, AVal.upto, zt, zu, aI_upto], later_intro ?_⟩
    simp -dsimp only [simprocAttr, ↓vpre, zp, hcell, hcell', bcC, o2, hTT, hel, cellsAll_v, cells_os']
    repeat (refine ⟨by omega, ?_⟩)
    refine ⟨trivial, ?_⟩
    refine ⟨ob (by kernel_rfl), ?_⟩
    refine za0 ?_
    have hput : CpE O (bcC (O.length + 1) b b.ins) O3.length (b.term.to.take z ++ [e]) ((O3.set tid .gone ++ [AObj.cells (edC (b.term.to.take z) ++ [aI e.block, eIs e.args])]).set O.length (.cells (bcC (O.length + 1) b b.ins (.os O3.length (z + 1) 2)))) := hE.push (O4 := O3.set tid .gone) e (fun v n hv hn => bcC_upto b _ (by omega) hv) (List.length_set) (uptoO_set hE.up trivial) (fun k hk => by rw [List.getElem?_set_ne (Ne.symm (hk hzn))]) (by rw [edC_snoc]) (by rw [htl])
    show AWP Try.prog _ _ _ ⟨_, _, (O3.set tid .gone ++ [AObj.cells (edC (b.term.to.take z) ++ [aI e.block, eIs e.args])]).set O.length (.cells (bcC (O.length + 1) b b.ins (.os O3.length (z + 1) 2)))⟩
    generalize (O3.set tid .gone ++ [AObj.cells (edC (b.term.to.take z) ++ [aI e.block, eIs e.args])]).set O.length (.cells (bcC (O.length + 1) b b.ins (.os O3.length (z + 1) 2))) = O7 at *
    refine zh0 ?_
    repeat (refine ⟨by omega, ?_⟩)
    refine zl0 ?_
    refine ⟨⟨⟨z + 1, O3.length, O7⟩, hlz, by rw [hti]; exact hput⟩, by simp; omega, ?_⟩
    refine zq rfl ?_ ?_
    simp -dsimp only [simprocAttr, ↓vpre, zp, zc]
    ·exact Sub.int (by simp)
    rfl
   refine awp_exit ?_
   simp -dsimp only [vend, ne_eq, Nat.reduceEqDiff, reduceCtorEq]
   have hzl : b.term.to.length ≤ z := by
    have := of_decide_eq_false h
    omega
   rw [List.take_of_length_le hzl] at hE
   have hcell := hE.cell
   have hout := hS.out
   have ho4 := hE.keep 4 (by omega)
   rw [hout] at ho4
   have htkl : (f.blocks.take k).length = k := by rw [List.length_take]; omega
   have hown := hE.own
   have h6l := lt_of_getElem? hcell
   by_cases hdn : f.blocks.take k = []
   ·have hob : outBl bid (f.blocks.take k) = .lst 7 [] .ex := if_pos hdn
    rw [hob] at ho4
    have ho4' : ∀ X, (O3 ++ X)[4]? = some (.cells [aI f.name, .lst 7 [] .ex]) := fun X => at_left ho4
    refine zs0 ?_
    simp -dsimp only [simprocAttr, ↓vpre, zp, hcell, bcC, ho4, ho4', cellsAll_v, cells_os', outX_share, outE_share]
    repeat (refine ⟨by omega, ?_⟩)
    refine ⟨trivial, ?_⟩
    refine za0 ?_
    have hput : CpS f (f.blocks.take k ++ [b]) O3.length (ids ++ [tid]) ((O3 ++ [AObj.cells (blC tid b)]).set 4 (.cells [aI f.name, .os O3.length 1 7])) := hS.snoc (by omega) hE.up (fun k hk _ => hE.keep k hk) (fun q => ⟨by have := (hown q).1; omega, (hown q).2⟩) (by rw [blsC_snoc hS.cp.li, hdn]; simp [blsC]) (by rw [hdn]; rfl)
    show AWP Try.prog _ _ _ ⟨_, _, (O3 ++ [AObj.cells (blC tid b)]).set 4 (.cells [aI f.name, .os O3.length 1 7])⟩
    generalize (O3 ++ [AObj.cells (blC tid b)]).set 4 (.cells [aI f.name, .os O3.length 1 7]) = O7 at *
    refine zh0 ?_
    repeat (refine ⟨by omega, ?_⟩)
    refine zl0 ?_
    refine ⟨⟨⟨k + 1, O3.length, ids ++ [tid], O7⟩, hlt, by rw [htk]; exact hput⟩, by simp; omega, ?_⟩
    refine zq rfl ?_ ?_
    simp -dsimp only [simprocAttr, ↓vpre, zp, zc]
    ·exact Sub.int (by simp)
    rfl
   obtain ⟨b1, b2⟩ := hS.blk hdn
   have hbl := lt_of_getElem? b2
   have b3 := hE.keep bid hbl
   rw [b2] at b3
   have hob : outBl bid (f.blocks.take k) = .os bid k 7 := by
    unfold outBl
    rw [if_neg hdn, htkl]
   rw [hob] at ho4
   have ho4' : ∀ X, (O3.set bid .gone ++ X)[4]? = some (.cells [aI f.name, .os bid k 7]) := fun X => at_left (at_set_ne ho4 (by omega))
   have hbll := blsC_len hS.cp.li
   rw [htkl] at hbll
   have hTT : (blsC ids (f.blocks.take k)).take (k * 7) = blsC ids (f.blocks.take k) := List.take_of_length_le (by omega)
   refine zg0 ?_
   simp -dsimp only [simprocAttr, ↓vpre, zp, hcell, bcC, ho4, ho4', b3, hTT, hbll, cellsAll_v, cells_os', outX_share, outE_share]
   repeat (refine ⟨by omega, ?_⟩)
   refine ⟨trivial, ?_⟩
   refine za0 ?_
   have hput : CpS f (f.blocks.take k ++ [b]) O3.length (ids ++ [tid]) ((O3.set bid .gone ++ [AObj.cells (blsC ids (f.blocks.take k) ++ blC tid b)]).set 4 (.cells [aI f.name, .os O3.length (k + 1) 7])) := by
    have := hS.snoc (O1 := O3.set bid .gone) (b := b) (tid := tid) (by rw [List.length_set]; omega) (by rw [List.length_set]; exact uptoO_set hE.up trivial) (fun k hk hkb => by rw [List.getElem?_set_ne (Ne.symm (hkb hdn))]; exact hE.keep k hk) (fun q => ⟨by have := (hown q).1; omega, by rw [List.getElem?_set_ne (by have := (hown q).1; omega)]; exact (hown q).2⟩) (blsC_snoc hS.cp.li tid b).symm rfl
    rw [List.length_set, htkl] at this
    exact this
   show AWP Try.prog _ _ _ ⟨_, _, (O3.set bid .gone ++ [AObj.cells (blsC ids (f.blocks.take k) ++ blC tid b)]).set 4 (.cells [aI f.name, .os O3.length (k + 1) 7])⟩
   generalize (O3.set bid .gone ++ [AObj.cells (blsC ids (f.blocks.take k) ++ blC tid b)]).set 4 (.cells [aI f.name, .os O3.length (k + 1) 7]) = O7 at *
   refine zh0 ?_
   repeat (refine ⟨by omega, ?_⟩)
   refine zl0 ?_
   refine ⟨⟨⟨k + 1, O3.length, ids ++ [tid], O7⟩, hlt, by rw [htk]; exact hput⟩, by simp; omega, ?_⟩
   refine zq rfl ?_ ?_
   simp -dsimp only [simprocAttr, ↓vpre, zp, zc]
   ·exact Sub.int (by simp)
   rfl
  refine awp_exit ?_
  simp -dsimp only [vend, ne_eq, Nat.reduceEqDiff, reduceCtorEq]
  have hkN : k = N := by
   have := of_decide_eq_false h
   omega
  subst hkN
  rw [List.take_of_length_le (by omega)] at hS
  have hout := hS.out
  have hr3 := hS.r3
  have hob : outBl bid f.blocks = .os bid f.blocks.length 7 := if_neg hne
  rw [hob] at hout
  have hbl := lt_of_getElem? (hS.blk hne).2
  have hR := hS.done hne (cs := [aI f.name, .os bid f.blocks.length 7]) ⟨trivial, hbl, trivial⟩
  have h3l := lt_of_getElem? hr3
  have hr3' : (O.set 3 (.cells [aI f.name, .os bid f.blocks.length 7]))[3]? = some (.cells [aI f.name, .os bid f.blocks.length 7]) := List.getElem?_set_self h3l
  refine zg1 ?_
  simp -dsimp only [simprocAttr, ↓vpre, zp, hout, hr3]
  refine za0 ?_
  refine awp_ret ?_
  simp -dsimp only [simprocAttr, ↓vpre, zp, RetAll, Try.results39, retVals, retVal, mkRet, seqPost_ret, blockPost_ret, loopPost_ret, hr3']
  exact hR
 exact FSub.mp rfl rfl
end Go.Proofs.Ytlclgfgmhnmnaaa
namespace Go.Proofs.Ytlclgfgmhnmnaaa
open Go.Av Go.Sort
def lays189_ren : Go.Shelf.Ren := ⟨fun | 125 => 87 | 128 => 115 | 129 => 116 | 189 => 57 | 215 => 123 | 216 => 96 | 257 => 86 | 294 => 107 | 295 => 108 | 296 => 109 | 297 => 110 | 298 => 111 | 299 => 112 | 300 => 113 | 301 => 114 | 328 => 133 | 329 => 134 | 330 => 135 | 331 => 136 | 332 => 137 | 343 => 145 | n => n, fun | 0 => 0 | 3 => 3 | 4 => 4 | 5 => 5 | 9 => 9 | 28 => 45 | 46 => 144 | 51 => 186 | 53 => 151 | 131 => 115 | 182 => 180 | 183 => 181 | 218 => 198 | 222 => 202 | 228 => 207 | 229 => 208 | n => n, fun n => n⟩
theorem lays189 : Go.Proofs.Lays.n189 Try.prog lays189_ren := {
  mixed := by kernel_rfl,
  f125 := Try.func87.trans (congrArg some (by kernel_rfl)),
  f128 := Try.func115.trans (congrArg some (by kernel_rfl)),
  f129 := Try.func116.trans (congrArg some (by kernel_rfl)),
  f189 := Try.func57.trans (congrArg some (by kernel_rfl)),
  f215 := Try.func123.trans (congrArg some (by kernel_rfl)),
  f216 := Try.func96.trans (congrArg some (by kernel_rfl)),
  f257 := Try.func86.trans (congrArg some (by kernel_rfl)),
  f294 := Try.func107.trans (congrArg some (by kernel_rfl)),
  f295 := Try.func108.trans (congrArg some (by kernel_rfl)),
  f296 := Try.func109.trans (congrArg some (by kernel_rfl)),
  f297 := Try.func110.trans (congrArg some (by kernel_rfl)),
  f298 := Try.func111.trans (congrArg some (by kernel_rfl)),
  f299 := Try.func112.trans (congrArg some (by kernel_rfl)),
  f300 := Try.func113.trans (congrArg some (by kernel_rfl)),
  f301 := Try.func114.trans (congrArg some (by kernel_rfl)),
  f328 := Try.func133.trans (congrArg some (by kernel_rfl)),
  f329 := Try.func134.trans (congrArg some (by kernel_rfl)),
  f330 := Try.func135.trans (congrArg some (by kernel_rfl)),
  f331 := Try.func136.trans (congrArg some (by kernel_rfl)),
  f332 := Try.func137.trans (congrArg some (by kernel_rfl)),
  f343 := Try.func145.trans (congrArg some (by kernel_rfl)),
  t0 := Try.underlying0,
  a0 := Try.isAgg0,
  z0 := Try.sizeOf0,
  v0 := Try.zeroValue0,
  t3 := Try.underlying3,
  a3 := Try.isAgg3,
  z3 := Try.sizeOf3,
  v3 := Try.zeroValue3,
  t4 := Try.underlying4,
  a4 := Try.isAgg4,
  z4 := Try.sizeOf4,
  v4 := Try.zeroValue4,
  t5 := Try.underlying5,
  a5 := Try.isAgg5,
  z5 := Try.sizeOf5,
  v5 := Try.zeroValue5,
  t9 := Try.underlying9,
  a9 := Try.isAgg9,
  z9 := Try.sizeOf9,
  v9 := Try.zeroValue9,
  t28 := Try.underlying45,
  a28 := Try.isAgg45,
  z28 := Try.sizeOf45,
  v28 := Try.zeroValue45,
  t46 := Try.underlying144,
  a46 := Try.isAgg144,
  z46 := Try.sizeOf144,
  v46 := Try.zeroValue144,
  t51 := Try.underlying186,
  a51 := Try.isAgg186,
  z51 := Try.sizeOf186,
  v51 := Try.zeroValue186,
  t53 := Try.underlying151,
  a53 := Try.isAgg151,
  z53 := Try.sizeOf151,
  v53 := Try.zeroValue151,
  t131 := Try.underlying115,
  a131 := Try.isAgg115,
  z131 := Try.sizeOf115,
  v131 := Try.zeroValue115,
  t182 := Try.underlying180,
  a182 := Try.isAgg180,
  z182 := Try.sizeOf180,
  v182 := Try.zeroValue180,
  t183 := Try.underlying181,
  a183 := Try.isAgg181,
  z183 := Try.sizeOf181,
  v183 := Try.zeroValue181,
  t218 := Try.underlying198,
  a218 := Try.isAgg198,
  z218 := Try.sizeOf198,
  v218 := Try.zeroValue198,
  t222 := Try.underlying202,
  a222 := Try.isAgg202,
  z222 := Try.sizeOf202,
  v222 := Try.zeroValue202,
  t228 := Try.underlying207,
  a228 := Try.isAgg207,
  z228 := Try.sizeOf207,
  v228 := Try.zeroValue207,
  t229 := Try.underlying208,
  a229 := Try.isAgg208,
  z229 := Try.sizeOf208,
  v229 := Try.zeroValue208 }
theorem sort_calls : SortCalls Try.prog 57 := fun blk off cap zs w h1 h2 h3 => Any.slices_Sort_int lays189 blk off cap zs w h1 h2 h3
theorem sort_enters : Go.Av.Enters Try.prog 57 := ⟨_, Try.func57, by kernel_rfl, by kernel_rfl⟩
theorem sort_spec {O : List AObj} {id : Nat} {zs : List Int} (ho : O[id]? = some (.cells (zs.map aI))) (hl : zs.length ≤ 1000) :
    ECall Try.prog 57 O [.os id zs.length 1] (fun r O' => r = .tup [] ∧ O' = O.set id (.cells ((sortI zs).map aI))) := sort_bridge sort_enters sort_calls ho hl
theorem sort_nil_calls (p : Option Addr) (cap : Nat) (w : World) : Calls Try.prog 57 #[.slice p 0 cap] w fun e w' => e = .returned (.tuple #[]) ∧ w' = w := Any.slices_Sort_int_none lays189 p cap w
theorem sort_nil (O : List AObj) : ECall Try.prog 57 O [.lst 1 [] .sh] (fun r O' => r = .tup [] ∧ O' = O) := by
  refine ⟨sort_enters, fun g vs hg hgo hvs => ?_⟩
  obtain ⟨h1, h2⟩ := hvs
  simp only [List.length_singleton] at h1
  have hv0 : vs[0]? = some (vs[0]'(by omega)) := Array.getElem?_eq_getElem _
  have hr := h2 0 _ _ rfl hv0
  have hv : ∃ p cap, vs = #[.slice p 0 cap] := by
    have : ∃ p cap, vs[0]'(by omega) = .slice p 0 cap := by
      generalize vs[0]'(by omega) = u at hr
      cases hr with
      | nil => exact ⟨_, _, rfl⟩
      | lst => exact ⟨_, _, rfl⟩
    obtain ⟨p, cap, e⟩ := this
    refine ⟨p, cap, ?_⟩
    apply Array.ext
    · simpa using h1
    intro i hi1 hi2
    have : i = 0 := by omega
    subst this
    exact e
  obtain ⟨p, cap, rfl⟩ := hv
  refine (sort_nil_calls p cap g.w).mono ?_
  rintro e w' ⟨rfl, rfl⟩
  exact ⟨g, _, .tup [], rfl, rfl, Le.refl g, hg, .tup rfl (by simp), rfl, hgo⟩
end Go.Proofs.Ytlclgfgmhnmnaaa
namespace Go.Proofs.Ytlclgfgmhnmnaaa
open Go.Av


theorem build_bad (f : Func) (hfit : f.fit) (hc : checkFuncM f ≠ 0) : PCall Try.prog 43 [f.enc] (.tup [.v (.pointer none), .lst 1 [] .sh, aI (checkFuncM f)]) := by
 have hck := checkFunc_spec f hfit
 obtain ⟨e, he⟩ : ∃ e, e = checkFuncM f := ⟨_, rfl⟩
 rw [← he] at hc hck ⊢
 have hde : decide (e = 0) = false := decide_eq_false hc
 refine zf true 0 Try.func43 Try.ntmps43 ?_
 dsimp only [Tmp, TypeId, slotsOf]
 refine zh1 (za0 ?_)
 refine awp_freeze1 1 0 (.ip none [aI f.name, eBlocks f.blocks]) rfl (by simp [AObj.isSpare]) trivial rfl ?_ ?_
 rotate_left
 simp -dsimp only [simprocAttr, ↓vpre, zp]
 ·refine zh2 ?_
  refine .inl ⟨_, hck, by simp only [uptoL, AVal.upto, zt, zu, aI_upto, eB_upto], later_intro ?_⟩
  simp -dsimp only [simprocAttr, ↓vpre, zp]
  refine za0 ?_
  refine zg1 ?_
  simp -dsimp only [simprocAttr, ↓vpre, zp, hde]
  refine za0 ?_
  refine zw0 rfl ?_
  refine zh1 (za0 ?_)
  refine awp_ret ?_
  simp -dsimp only [simprocAttr, ↓vpre, zp, zr, Try.results43]
  simp [uptoL, AVal.upto]
 exact FSub.mp rfl rfl
def liveR (f : Func) : AVal := if checkFuncM f = 0 then .tup [.lst 1 (((liveM f).first.map (listM 0)).map eIs) .sh, .lst 1 (((liveM f).behind.map (listM 0)).map eIs) .sh, aI 0] else .tup [.lst 1 [] .sh, .lst 1 [] .sh, aI (checkFuncM f)]
theorem take_map_snoc {α β : Type} {l : List α} {k : Nat} {x : α} (h : l[k]? = some x) (g : α → β) : (l.take (k + 1)).map g = (l.take k).map g ++ [g x] := by
 rw [List.take_add_one, h]
 simp
theorem live_spec (f : Func) (hfit : f.fit) : PCall Try.prog 34 [f.enc] (liveR f) := by
 unfold liveR
 by_cases hc : checkFuncM f = 0
 ·rw [if_pos hc]
  have hv := checkFunc_v hfit hc
  have hn : f.blocks.length ≤ 128 := hv.fn.few
  have hmy := hv.many hv.fresh
  have hb := build_spec f hfit hc
  obtain ⟨hok, hfix⟩ := live_fix hn hv.fresh
  generalize liveM f = S at *
  obtain ⟨N, hN⟩ : ∃ N, N = f.blocks.length := ⟨_, rfl⟩
  have hl1 := hok.len1
  have hl2 := hok.len2
  unfold lvO lifeC at hb
  rw [← hN] at hb hfix hl1 hl2 hn
  obtain ⟨g, hg⟩ : ∃ g : List Bool → AVal, g = fun l => eIs (listM 0 l) := ⟨_, rfl⟩
  have hr1 : (S.first.map (listM 0)).map eIs = S.first.map g := by rw [List.map_map, hg]; rfl
  have hr2 : (S.behind.map (listM 0)).map eIs = S.behind.map g := by rw [List.map_map, hg]; rfl
  rw [hr1, hr2]
  refine zf true 0 Try.func34 Try.ntmps34 ?_
  dsimp only [Tmp, TypeId, slotsOf]
  refine zh1 (za0 ?_)
  refine awp_freeze1 1 0 (.ip none [aI f.name, eBlocks f.blocks]) rfl (by simp [AObj.isSpare]) trivial rfl ?_ ?_
  rotate_left
  simp -dsimp only [simprocAttr, ↓vpre, zp]
  ·refine zh1 ?_
   refine .inr (.inl ⟨_, _, hb, .inl (later_intro (zj ?_))⟩)
   refine za0 ?_
   refine zh2 (za0 ?_)
   apply zk0 rfl <;> intro h
   ·cases h
   refine zb0 ?_
   refine zh1 (za0 ?_)
   refine awp_own 8 rfl ?_
   simp -dsimp only [simprocAttr, ↓vpre, zp]
   refine awp_own 9 rfl ?_
   simp -dsimp only [simprocAttr, ↓vpre, zp]
   refine zg2 ?_
   simp -dsimp only [simprocAttr, ↓vpre, zp, ← hN]
   refine za0 ?_
   refine awp_block (awp_loop (ι := {k : Nat // k ≤ N}) (fun k => ⟨48, [(1, .ip none [aI f.name, eBlocks f.blocks]), (5, .mp 3 0), (6, .ms 4 0 N N), (8, .lst 1 ((S.first.take k.1).map g) (.tok 5)), (9, .lst 1 ((S.behind.take k.1).map g) (.tok 6)), (22, aI N), (23, aI k.1)], [.gone, .gone, .cells (S.behind.map eH), .cells [aI f.name, eBlocks f.blocks, aI (manyM f), .ms 2 0 N N], .cells (S.first.map eF), .spare k.1, .spare k.1]⟩) (fun k => N - k.1) ⟨0, by omega⟩ ?_ ?_)
   ·refine zq rfl ?_ ?_
    simp -dsimp only [simprocAttr, ↓vpre, zp, zc]
    all_goals rfl
   rintro ⟨k, hk⟩
   refine zh1 (za0 ?_)
   apply zk1 rfl <;> intro h
   ·refine zb0 ?_
    have hlt : k < N := by simpa using h
    obtain ⟨l, hl, hne, hlm, _, hf⟩ := hfix k hlt
    obtain ⟨m, hm'⟩ : ∃ m, m = backM (blkOf f k).ins l := ⟨_, rfl⟩
    have hml : m.length = manyM f := by rw [hm', backM_len, hlm]
    rw [← hm'] at hf
    have hfg := eF_get hf
    have hbg : (S.behind.map eH)[k]? = some (.lst 1 (l.map eB) .nn) := by rw [List.getElem?_map, hl, Option.map_some, eH_ne hne]
    have hls1 := list_spec m (by omega)
    have hls2 := list_spec l (by omega)
    have ht1 : (S.first.take k).map g ++ [eIs (listM 0 m)] = (S.first.take (k + 1)).map g := by rw [take_map_snoc hf, hg]
    have ht2 : (S.behind.take k).map g ++ [eIs (listM 0 l)] = (S.behind.take (k + 1)).map g := by rw [take_map_snoc hl, hg]
    have htl1 : (S.first.take k).length = k := by rw [List.length_take]; omega
    have htl2 : (S.behind.take k).length = k := by rw [List.length_take]; omega
    refine awp_seq (awp_block ?_)
    refine zh1 (za0 ?_)
    refine zg0 ?_
    simp -dsimp only [simprocAttr, ↓vpre, zp, hfg, hbg, Int.toNat_natCast, Nat.mul_one]
    repeat (refine ⟨by omega, ?_⟩)
    refine .inl ⟨_, hls1, by simp only [uptoL, AVal.upto, zt, zu, aI_upto, eB_upto], later_intro ?_⟩
    simp -dsimp only [simprocAttr, ↓vpre, zp, hbg, htl1, htl2, Int.toNat_natCast, Nat.mul_one]
    repeat (refine ⟨by omega, ?_⟩)
    refine .inl ⟨_, hls2, by simp only [uptoL, AVal.upto, zt, zu, aI_upto, eB_upto], later_intro ?_⟩
    simp -dsimp only [simprocAttr, ↓vpre, zp, hbg, htl1, htl2, Int.toNat_natCast, Nat.mul_one]
    repeat (refine ⟨by omega, ?_⟩)
    refine ⟨ob (by kernel_rfl), ?_⟩
    refine za0 ?_
    refine zh0 ?_
    repeat (refine ⟨by omega, ?_⟩)
    refine zl0 ?_
    refine ⟨⟨k + 1, hlt⟩, by simp; omega, ?_⟩
    refine zq rfl ?_ ?_
    simp -dsimp only [simprocAttr, ↓vpre, zp, zc, ht1, ht2]
    ·exact Sub.int (by simp)
    rfl
   refine awp_exit ?_
   simp -dsimp only [vend, ne_eq, Nat.reduceEqDiff, reduceCtorEq]
   have hkk : k = N := by simp at h; omega
   subst hkk
   have ht1 : S.first.take k = S.first := List.take_of_length_le (by omega)
   have ht2 : S.behind.take k = S.behind := List.take_of_length_le (by omega)
   refine zg1 ?_
   simp -dsimp only [simprocAttr, ↓vpre, zp, ht1, ht2]
   refine za0 ?_
   have hgu : ∀ l : List (List Bool), uptoL 0 (l.map g) := fun l => by
    rw [uptoL_iff]
    intro x hx
    obtain ⟨y, _, rfl⟩ := List.mem_map.1 hx
    rw [hg]
    exact ⟨aI_upto _ _, trivial⟩
   refine awp_ret ?_
   simp -dsimp only [simprocAttr, ↓vpre, zp, zr, Try.results34]
   exact ⟨⟨hgu _, trivial⟩, ⟨hgu _, trivial⟩, trivial, trivial⟩
  exact FSub.mp rfl rfl
 rw [if_neg hc]
 have hb := build_bad f hfit hc
 obtain ⟨e, he⟩ : ∃ e, e = checkFuncM f := ⟨_, rfl⟩
 rw [← he] at hc hb ⊢
 have hde : decide (e = 0) = false := decide_eq_false hc
 refine zf true 0 Try.func34 Try.ntmps34 ?_
 dsimp only [Tmp, TypeId, slotsOf]
 refine zh1 (za0 ?_)
 refine awp_freeze1 1 0 (.ip none [aI f.name, eBlocks f.blocks]) rfl (by simp [AObj.isSpare]) trivial rfl ?_ ?_
 rotate_left
 simp -dsimp only [simprocAttr, ↓vpre, zp]
 ·refine zh1 ?_
  refine .inl ⟨_, hb, by simp only [uptoL, AVal.upto, zt, zu, aI_upto, eB_upto], later_intro ?_⟩
  simp -dsimp only [simprocAttr, ↓vpre, zp]
  refine za0 ?_
  refine zg2 ?_
  simp -dsimp only [simprocAttr, ↓vpre, zp, hde]
  refine za0 ?_
  refine zw0 rfl ?_
  refine zh1 (za0 ?_)
  refine awp_ret ?_
  simp -dsimp only [simprocAttr, ↓vpre, zp, zr, Try.results34]
  simp [uptoL, AVal.upto]
 exact FSub.mp rfl rfl
theorem backRun_ind {X : Type} {step : X → Nat → List Bool → X} {l : List Ins} {J : Nat → X → List Bool → Prop} (hs : ∀ n x s i, l[n]? = some i → J (n + 1) x s → J n (step x (n + 1) s) (backI i s)) : ∀ n x s, n ≤ l.length → J n x s → ∃ x' s', J 0 x' s' ∧ backRun step l n x s = step x' 0 s'
  | 0, x, s, _, h => ⟨x, s, h, rfl⟩
  | n + 1, x, s, hn, h => by
    obtain ⟨i, hi⟩ : ∃ i, l[n]? = some i := ⟨l[n], List.getElem?_eq_getElem _⟩
    obtain ⟨x', s', h1, h2⟩ := backRun_ind hs n _ _ (by omega) (hs n x s i hi h)
    refine ⟨x', s', h1, ?_⟩
    simp only [backRun, hi]
    exact h2
def setAt (f : Func) (S : List (List Bool)) (k n : Nat) : List Bool := backM ((blkOf f k).ins.drop n) (S[k]?.getD [])
theorem setAt_step {f : Func} {S : List (List Bool)} {k n : Nat} {i : Ins} (h : (blkOf f k).ins[n]? = some i) : setAt f S k n = backI i (setAt f S k (n + 1)) := by
  unfold setAt
  rw [drop_at h]
  rfl
def twoIn (v w : Nat) (s : List Bool) : Bool := s[v]?.getD false && s[w]?.getD false
def inStep (v w : Nat) (x : Bool) (_ : Nat) (s : List Bool) : Bool := x || twoIn v w s
theorem inBlock {f : Func} {S : List (List Bool)} {k v w : Nat} {s0 : List Bool} (hs0 : S[k]? = some s0) (x0 : Bool) :
    backRun (inStep v w) (blkOf f k).ins (blkOf f k).ins.length x0 s0 = true ↔ x0 = true ∨ ∃ n, n ≤ (blkOf f k).ins.length ∧ twoIn v w (setAt f S k n) = true := by
  obtain ⟨x', s', ⟨j1, j2, j3⟩, he⟩ := backRun_ind (step := inStep v w) (l := (blkOf f k).ins) (J := fun n x s => s = setAt f S k n ∧ n ≤ (blkOf f k).ins.length ∧ (x = true ↔ x0 = true ∨ ∃ m, n < m ∧ m ≤ (blkOf f k).ins.length ∧ twoIn v w (setAt f S k m) = true)) (fun n x s i hi ⟨j1, j2, j3⟩ => by
      subst j1
      refine ⟨(setAt_step hi).symm, by omega, ?_⟩
      rw [inStep, Bool.or_eq_true, j3]
      constructor
      · rintro ((q | ⟨m, q1, q2, q3⟩) | q)
        · exact .inl q
        · exact .inr ⟨m, by omega, q2, q3⟩
        exact .inr ⟨n + 1, by omega, j2, q⟩
      rintro (q | ⟨m, q1, q2, q3⟩)
      · exact .inl (.inl q)
      by_cases e : m = n + 1
      · subst e
        exact .inr q3
      exact .inl (.inr ⟨m, by omega, q2, q3⟩))
    (blkOf f k).ins.length x0 s0 (Nat.le_refl _) ⟨by simp [setAt, hs0, backM], Nat.le_refl _, ⟨fun q => .inl q, fun q => by
      rcases q with q | ⟨m, q1, q2, _⟩
      · exact q
      omega⟩⟩
  subst j1
  rw [he, inStep, Bool.or_eq_true, j3]
  constructor
  · rintro ((q | ⟨m, q1, q2, q3⟩) | q)
    · exact .inl q
    · exact .inr ⟨m, q2, q3⟩
    exact .inr ⟨0, by omega, q⟩
  rintro (q | ⟨m, q2, q3⟩)
  · exact .inl (.inl q)
  by_cases e : m = 0
  · subst e
    exact .inr q3
  exact .inl (.inr ⟨m, by omega, q2, q3⟩)



theorem order_own (f : Func) (hfit : f.fit) (hc : checkFuncM f = 0) : ∃ (O : List AObj) (oid : Nat), O[oid]? = some (.cells ((orderM f).map aI)) ∧ (∀ o ∈ O, o.upto O.length) ∧
  ECall Try.prog 56 [] [f.enc] (fun r O' => r = .tup [.os oid (orderM f).length 1, aI 0] ∧ O' = O) := by
 have hck := checkFunc_spec f hfit
 rw [hc] at hck
 have hg := (checkFunc_ok hfit hc).gr
 have hsr := search_spec f hg
 obtain ⟨f1, f2, _⟩ := searchM_few hg
 have hXS : (soRun f 100000 (soStart f)).S = srRun f 100000 (srStart f) := soRun_S f 100000 (soStart f)
 have hX := soRun_ok (f := f) 100000 _ (soStart_ok f)
 obtain ⟨X, hXe⟩ : ∃ X, X = soRun f 100000 (soStart f) := ⟨_, rfl⟩
 rw [← hXe] at hsr hX hXS
 have hout : X.S.out = searchM f := by rw [hXS]; rfl
 unfold orderM
 obtain ⟨l, hl⟩ : ∃ l, l = searchM f := ⟨_, rfl⟩
 rw [← hl] at f1 f2 hout ⊢
 have h1 := hX.out
 rw [hout, outV, if_neg f1] at h1
 obtain ⟨h2, h3, h4⟩ := hX.outs (by rw [hout]; exact f1)
 rw [hout] at h2
 have hup := hX.up
 obtain ⟨S, sid, oid, O⟩ := X
 simp only at h1 h2 h3 h4 hup hsr
 have hol := lt_of_getElem? h2
 have hrev := reverse_spec hup h2 (by omega)
 have h1' : (O.set oid (.cells (l.reverse.map aI)))[1]? = some (.cells [.os oid l.length 1]) := at_set_ne h1 (by omega)
 have h2' : (O.set oid (.cells (l.reverse.map aI)))[oid]? = some (.cells (l.reverse.map aI)) := at_set h2
 have hup2 : ∀ o ∈ O.set oid (.cells (l.reverse.map aI)), o.upto O.length := uptoO_set hup (aI_upto _ _)
 have hll : (O.set oid (.cells (l.reverse.map aI))).length = O.length := by simp
 have htk : (O.set oid (.cells (l.reverse.map aI))).take O.length = O.set oid (.cells (l.reverse.map aI)) := take_set_len
 refine ⟨O.set oid (.cells (l.reverse.map aI)), oid, h2', by rw [hll]; exact hup2, ?_⟩
 rw [List.length_reverse]
 generalize O.set oid (.cells (l.reverse.map aI)) = O2 at *
 have hkk : ([] : List AObj).length ≤ O.length := Nat.zero_le _
 refine ecall_of hT true (O.length) Try.func56 rfl (by kernel_rfl) (by simp [Try.ntmps56]) (by assumption) ?_
 show AWP Try.prog _ _ _ ⟨17, _, _⟩
 dsimp only [Tmp, TypeId, slotsOf]
 refine zh1 (za0 ?_)
 refine awp_freeze1 1 0 (.ip none [aI f.name, eBlocks f.blocks]) rfl (by simp [AObj.isSpare]) trivial rfl ?_ ?_
 rotate_left
 simp -dsimp only [simprocAttr, ↓vpre, zp]
 ·refine zh2 ?_
  refine zi hck ?_
  refine za0 ?_
  refine zh1 (za0 ?_)
  refine zu0 rfl ?_
  refine zb0 ?_
  refine zh1 (za0 ?_)
  refine zh1 ?_
  refine .inr (.inl ⟨_, _, hsr, .inl (later_intro (zj ?_))⟩)
  refine za0 ?_
  refine zg1 ?_
  simp -dsimp only [simprocAttr, ↓vpre, zp, h1]
  refine .inr (.inl ⟨_, _, hrev, .inl (later_intro (zj ?_))⟩)
  refine za0 ?_
  refine zg1 ?_
  simp -dsimp only [simprocAttr, ↓vpre, zp, h1']
  refine za0 ?_
  refine awp_ret ?_
  simp -dsimp only [simprocAttr, ↓vpre, zp, zr, Try.results56, htk, hll]
  exact ⟨hup2, ⟨hol, trivial, trivial⟩, rfl⟩
 exact FSub.mp rfl rfl
def rchR (f : Func) : AVal := if checkFuncM f = 0 then .tup [eIs (rchS f), aI 0] else .tup [eIs [], aI (checkFuncM f)]
theorem reachable_spec (f : Func) (hfit : f.fit) : PCall Try.prog 24 [f.enc] (rchR f) := by
 unfold rchR
 by_cases hc : checkFuncM f = 0
 ·rw [if_pos hc]
  obtain ⟨O, oid, h1, h2, hor⟩ := order_own f hfit hc
  have hfew := (ord_w (checkFunc_ok hfit hc).gr).few
  have hso := sort_spec (O := O) (id := oid) (zs := orderM f) h1 (by omega)
  have h3 : (O.set oid (.cells ((sortI (orderM f)).map aI)))[oid]? = some (.cells ((sortI (orderM f)).map aI)) := at_set h1
  have hsl := (sortI_perm (orderM f)).length_eq
  unfold rchS
  generalize O.set oid (.cells ((sortI (orderM f)).map aI)) = O2 at *
  obtain ⟨l, hl⟩ : ∃ l, l = sortI (orderM f) := ⟨_, rfl⟩
  rw [← hl] at h3 hsl ⊢
  rw [← hsl] at hso hor
  refine zf true 0 Try.func24 Try.ntmps24 ?_
  dsimp only [Tmp, TypeId, slotsOf]
  refine zh1 (za0 ?_)
  refine awp_freeze1 1 0 (.ip none [aI f.name, eBlocks f.blocks]) rfl (by simp [AObj.isSpare]) trivial rfl ?_ ?_
  rotate_left
  simp -dsimp only [simprocAttr, ↓vpre, zp]
  ·refine awp_trunc' 0 [(1, .ip none [aI f.name, eBlocks f.blocks])] (by omega) (by omega) [] ?_ ?_ ?_ ?_ ?_
   ·rfl
   ·simp [AObj.upto]
   ·simp [Says, St.get, putS, dropS, Go.Av.look, Sub.refl]
   ·simp [AObj.upto, uptoL, AVal.upto, aI_upto, Func.map_upto, Block.map_upto, Edge.map_upto, Ins.map_upto]
   refine zh1 ?_
   refine .inr (.inl ⟨_, _, hor, .inl (later_intro (zj ?_))⟩)
   refine za0 ?_
   refine zh1 ?_
   refine .inr (.inl ⟨_, _, hso, .inl (later_intro (zj ?_))⟩)
   refine za0 ?_
   refine zh1 (za0 ?_)
   refine awp_freeze1 2 oid (o := .cells (l.map aI)) (eIs l) h3 (by simp [AObj.isSpare]) trivial rfl (FSub.os (cs := l.map aI) h3 ?_ ?_ ?_) ?_
   ·intro x hx
    obtain ⟨c, _, rfl⟩ := List.mem_map.1 hx
    rfl
   ·simp
   ·rw [List.drop_zero, List.take_of_length_le (by simp)]
    exact aI_cellsAll _
   simp -dsimp only [simprocAttr, ↓vpre, zp]
   refine awp_ret ?_
   simp -dsimp only [simprocAttr, ↓vpre, zp, zr, Try.results24]
   exact ⟨⟨aI_upto _ _, trivial⟩, trivial, trivial⟩
  exact FSub.mp rfl rfl
 rw [if_neg hc]
 have hor := order_spec f hfit
 unfold orderR at hor
 rw [if_neg hc] at hor
 generalize checkFuncM f = e at *
 refine zf true 0 Try.func24 Try.ntmps24 ?_
 dsimp only [Tmp, TypeId, slotsOf]
 refine zh1 (za0 ?_)
 refine awp_freeze1 1 0 (.ip none [aI f.name, eBlocks f.blocks]) rfl (by simp [AObj.isSpare]) trivial rfl ?_ ?_
 rotate_left
 simp -dsimp only [simprocAttr, ↓vpre, zp]
 ·refine zh1 ?_
  refine zi hor ?_
  refine za0 ?_
  refine zh1 ?_
  refine .inr (.inl ⟨_, _, (sort_nil _), .inl (later_intro (zj ?_))⟩)
  refine za0 ?_
  refine zh1 (za0 ?_)
  refine awp_ret ?_
  simp -dsimp only [simprocAttr, ↓vpre, zp, zr, Try.results24]
  simp [uptoL, AVal.upto]
 exact FSub.mp rfl rfl

end Go.Proofs.Ytlclgfgmhnmnaaa
namespace Go.Av

end Go.Av
namespace Go.Proofs.Ytlclgfgmhnmnaaa
open Go.Av
theorem zerosI_flat (n : Nat) : (List.replicate n [AVal.v (.int .i64 0)]).flatten = (List.replicate n 0).map aI := by
 induction n with
 | zero => rfl
 | succ n ih => rw [List.replicate_succ, List.flatten_cons, ih, List.replicate_succ]; rfl
theorem aI_put {l : List Int} {j : Nat} (h : j < l.length) (b : Int) : splice (l.map aI) j [.v (.int .i64 b)] = (l.set j b).map aI := by
 rw [splice_one _ (by simpa using h), List.map_set]
theorem fill_set {k n : Nat} {l : List Int} {x y : Int} (hl : l.length = k) (hk : k < n) : (l ++ List.replicate (n - k) x).set k y = (l ++ [y]) ++ List.replicate (n - (k + 1)) x := by
 rw [List.set_append_right _ _ (by omega), hl, Nat.sub_self, show n - k = (n - (k + 1)) + 1 by omega, List.replicate_succ, List.set_cons_zero, List.append_assoc]
 rfl
theorem sm_w {f : Func} (hfit : f.fit) (hc : checkFuncM f = 0) : SmW f := by
 have hw := checkFunc_ok hfit hc
 have hg := hw.gr
 have hpar : ∀ b ∈ f.blocks, b.params.length ≤ 4096 := fun b hb => by
  have := (hw.blk b hb).few
  omega
 exact {
  few := hw.few
  params := hpar
  ins := hw.ins
  iargs := fun b hb i hi => (form_ok ((hw.blk b hb).forms i hi)).len
  cases := fun b hb => (end_ok (hw.blk b hb).fin).cases
  to := fun b hb => hg.to b hb
  eargs := fun b hb e he => by
   have h1 := (end_ok (hw.blk b hb).fin).edges e he
   rw [h1.2]
   have hr := hg.edges b hb e he
   have hx : f.blocks[e.block.toNat]? = some (f.blocks[e.block.toNat]'(by omega)) := List.getElem?_eq_getElem _
   have : blkOf f e.block = f.blocks[e.block.toNat]'(by omega) := by simp [blkOf, hx]
   rw [this]
   exact hpar _ (List.getElem_mem _) }
def pruneR (f : Func) : AVal := if checkFuncM f = 0 then .tup [(pruneM f).enc, eIs (atM f), aI 0] else .tup [.agg [aI 0, .lst 7 [] .sh], .lst 1 [] .sh, aI (checkFuncM f)]
structure Px where
 i : Nat
 oid : Nat
 O : List AObj
theorem prune_spec (f : Func) (hfit : f.fit) : PCall Try.prog 23 [f.enc] (pruneR f) := by
 have hrr := reachable_spec f hfit
 unfold rchR at hrr
 unfold pruneR
 by_cases hc : checkFuncM f = 0
 ·rw [if_pos hc] at hrr ⊢
  have hg := (checkFunc_ok hfit hc).gr
  have hw := ord_w hg
  have hsm := sm_w hfit hc
  have hn : f.blocks.length ≤ 128 := hg.few
  have hcp := copy_spec f hsm hg.ne
  have hLl : (rchS f).length ≤ 128 := by rw [rchS_len]; exact hw.few
  have hLn := rchS_nodup hw
  have hL0 : rchS f ≠ [] := List.ne_nil_of_mem (mem_rchS.2 (by rw [hw.zero]; omega : 0 ≤ plF f 0))
  have hLr : ∀ k ∈ rchS f, 0 ≤ k ∧ k < f.blocks.length := fun k hk => hw.range k (mem_rchS.1 hk)
  obtain ⟨N, hN⟩ : ∃ N, N = f.blocks.length := ⟨_, rfl⟩
  obtain ⟨L, hL⟩ : ∃ L, L = rchS f := ⟨_, rfl⟩
  obtain ⟨A, hA⟩ : ∃ A, A = atM f := ⟨_, rfl⟩
  have hpm : (pruneM f).enc = .agg [aI f.name, eBlocks (prB f A L)] := by rw [hA, hL]; rfl
  rw [hpm, ← hA]
  unfold atM at hA
  rw [← hL] at hrr hLl hLn hL0 hLr hA
  rw [← hN] at hn hA hLr
  have hAl : A.length = N := by rw [hA]; simp
  refine zf true 0 Try.func23 Try.ntmps23 ?_
  dsimp only [Tmp, TypeId, slotsOf]
  refine zh1 (za0 ?_)
  refine awp_freeze1 1 0 (.ip none [aI f.name, eBlocks f.blocks]) rfl (by simp [AObj.isSpare]) trivial rfl ?_ ?_
  rotate_left
  simp -dsimp only [simprocAttr, ↓vpre, zp]
  ·refine zh1 ?_
   refine zi hrr ?_
   refine za0 ?_
   refine zh2 (za0 ?_)
   apply zk0 rfl <;> intro h
   ·cases h
   refine zb0 ?_
   refine zg1 ?_
   simp -dsimp only [simprocAttr, ↓vpre, zp, zerosI_flat, ← hN]
   repeat (refine ⟨by omega, ?_⟩)
   refine za0 ?_
   refine zh2 (za0 ?_)
   refine awp_block (awp_loop (ι := {k : Nat // k ≤ N}) (fun k => ⟨89, [(1, .ip none [aI f.name, eBlocks f.blocks]), (2, .mp 1 0), (5, eIs L), (7, .ms 2 0 N N), (29, aI N), (30, aI k.1)], [.gone, .cells [aI 0, .lst 7 [] .ex], .cells ((A.take k.1 ++ List.replicate (N - k.1) 0).map aI)]⟩) (fun k => N - k.1) ⟨0, by omega⟩ ?_ ?_)
   ·refine zq rfl ?_ ?_
    simp -dsimp only [simprocAttr, ↓vpre, zp, zc]
    all_goals rfl
   rintro ⟨k, hk⟩
   refine zh1 (za0 ?_)
   apply zk1 rfl <;> intro h
   ·refine zb0 ?_
    have hlt : k < N := by simpa using h
    have hix := index_spec L (k : Int)
    have hAk : A[k]? = some (idxI L (k : Int)) := by
     rw [hA, List.getElem?_map, List.getElem?_range hlt]
     rfl
    have htl : (A.take k).length = k := by rw [List.length_take]; omega
    have hput : splice ((A.take k ++ List.replicate (N - k) 0).map aI) k [.v (.int .i64 (idxI L (k : Int)))] = (A.take (k + 1) ++ List.replicate (N - (k + 1)) 0).map aI := by
     rw [aI_put (by rw [List.length_append, htl, List.length_replicate]; omega), fill_set htl hlt, List.take_add_one, hAk]
     rfl
    refine awp_seq (awp_block ?_)
    refine zh1 (za0 ?_)
    refine zh0 ?_
    refine .inl ⟨_, hix, by simp only [uptoL, AVal.upto, zt, zu, aI_upto], later_intro ?_⟩
    simp -dsimp only [simprocAttr, ↓vpre, zp, hput, Int.toNat_natCast, Nat.mul_one]
    repeat (refine ⟨by omega, ?_⟩)
    refine ⟨by rw [htl, List.length_replicate]; omega, ?_⟩
    refine za0 ?_
    refine zh0 ?_
    repeat (refine ⟨by omega, ?_⟩)
    refine zl0 ?_
    refine ⟨⟨k + 1, hlt⟩, by simp; omega, ?_⟩
    refine zq rfl ?_ ?_
    simp -dsimp only [simprocAttr, ↓vpre, zp, zc]
    ·exact Sub.int (by simp)
    rfl
   refine awp_exit ?_
   simp -dsimp only [vend, ne_eq, Nat.reduceEqDiff, reduceCtorEq]
   have hkN : N = k := by
    have := of_decide_eq_false h
    omega
   subst hkN
   rw [Nat.sub_self, List.replicate_zero, List.append_nil, List.take_of_length_le (by omega)]
   refine awp_freeze1 7 2 (o := .cells (A.map aI)) (eIs A) rfl (by simp [AObj.isSpare]) trivial rfl (FSub.ms (cs := A.map aI) rfl (fun x hx => by obtain ⟨v, _, rfl⟩ := List.mem_map.1 hx; rfl) (by simpa using hAl) (by rw [List.drop_zero, List.take_of_length_le (by simp; omega), aI_cellsAll])) ?_
   simp -dsimp only [simprocAttr, ↓vpre, zp]
   refine awp_trunc' 2 [(1, .ip none [aI f.name, eBlocks f.blocks]), (2, .mp 1 0), (5, eIs L), (7, eIs A)] (by simp) (by omega) [.gone, .cells [aI 0, .lst 7 [] .ex]] ?_ ?_ ?_ ?_ ?_
   ·rfl
   ·simp [AObj.upto, uptoL, AVal.upto]
   ·simp [Says, St.get, putS, dropS, Go.Av.look, Sub.refl]
   ·simp [AObj.upto, uptoL, AVal.upto, aI_upto, Block.map_upto]
   refine awp_seq (awp_call_ex ⟨false, false⟩ hT 1 rfl rfl rfl (by simp) ?_)
   simp -dsimp only [simprocAttr, ↓vpre, zp]
   refine ⟨CpR f, cert_ecallE rfl (by simp) rfl rfl hcp, fun r O' hR => ?_⟩
   obtain ⟨ids, bid, hr, hup, hg0, hg1, ⟨hb5, hbO⟩, hco, hne⟩ := hR
   subst hr
   simp -dsimp only [simprocAttr, ↓vpre, zp]
   refine za0 ?_
   rw [← hN]
   have hbl := lt_of_getElem? hbO
   refine awp_local 9 ([aI f.name, .os bid N 7]) [(1, .ip none [aI f.name, eBlocks f.blocks]), (2, .mp 1 0), (5, eIs L), (7, eIs A), (9, .ip none [aI f.name, .os bid N 7])] (by simp [putS, dropS, Go.Av.look]) (by rfl) (by omega) (by simp [putS, dropS, Go.Av.look]) ?_ ?_ ?_
   ·exact hup
   ·simp [AVal.upto, uptoL, aI_upto, Edge.map_upto, Ins.map_upto, Block.map_upto, hbl, lt_of_getElem? hg1]
   have hP0 := PrS.start A hup hg1 ⟨hb5, hbO⟩ hco hne
   refine zh1 (za0 ?_)
   generalize O' ++ [AObj.cells [aI f.name, .lst 7 [] .ex]] = O0 at *
   generalize O'.length = X0 at *
   refine zh2 (za0 ?_)
   refine awp_block (awp_loop (ι := {X : Px // X.i ≤ L.length ∧ PrS f A ids bid X0 (L.take X.i) X.oid X.O}) (fun X => ⟨89, [(1, .ip none [aI f.name, eBlocks f.blocks]), (2, .mp 1 0), (5, eIs L), (7, eIs A), (9, .ip none [aI f.name, .os bid N 7]), (10, .mp X0 0), (45, eIs L), (46, aI L.length), (47, aI X.1.i)], X.1.O⟩) (fun X => L.length - X.1.i) ⟨⟨0, 0, O0⟩, by simp, hP0⟩ ?_ ?_)
   ·refine zq rfl ?_ ?_
    simp -dsimp only [simprocAttr, ↓vpre, zp, zc]
    all_goals rfl
   rintro ⟨⟨i, oid, O⟩, hi, hP⟩
   simp only at hi hP
   refine zh1 (za0 ?_)
   apply zk1 rfl <;> intro h
   ·refine zb0 ?_
    have hlt : i < L.length := by simpa using h
    obtain ⟨kk, hkk⟩ : ∃ kk, L[i]? = some kk := ⟨L[i], by simp [hlt]⟩
    have hkr := hLr kk (List.mem_of_getElem? hkk)
    obtain ⟨k, hk⟩ : ∃ k : Nat, kk = (k : Int) := ⟨kk.toNat, by omega⟩
    subst hk
    have htk : L.take (i + 1) = L.take i ++ [(k : Int)] := by rw [List.take_add_one, hkk]; rfl
    have htkl : (L.take i).length = i := by rw [List.length_take]; omega
    have hkn : (k : Int) ∉ L.take i := fun q => by
     have h1 : (L.take i ++ [(k : Int)]).Nodup := by
      rw [← htk]
      exact (List.take_sublist _ _).nodup hLn
     rw [List.nodup_append] at h1
     exact h1.2.2 _ q _ (by simp) rfl
    obtain ⟨b, hb⟩ : ∃ b, f.blocks[k]? = some b := ⟨f.blocks[k]'(by omega), List.getElem?_eq_getElem _⟩
    obtain ⟨id, hid⟩ : ∃ id, ids[k]? = some id := ⟨ids[k]'(by rw [hP.li]; omega), List.getElem?_eq_getElem _⟩
    have hbt := hg.to b (List.mem_of_getElem? hb)
    have hbe := hg.edges b (List.mem_of_getElem? hb)
    have hbl := hP.bl.2
    have hat := blsC_at hid hb
    have hbsl := blsC_len hP.li
    have hXl := lt_of_getElem? hP.out
    have hBl := lt_of_getElem? hbl
    have h1l := lt_of_getElem? hP.r1
    refine awp_seq (awp_block ?_)
    refine zg1 ?_
    simp -dsimp only [simprocAttr, ↓vpre, zp, hkk]
    refine za0 ?_
    by_cases hto : b.term.to = []
    ·have hblc : blC id b = [eIs b.params, eInss b.ins, aI b.term.kind, aI b.term.arg, aI b.term.n, eIs b.term.cases, .lst 2 [] .sh] := by
      unfold blC outE
      rw [if_pos hto]
     rw [hblc] at hat
     refine zg1 ?_
     simp -dsimp only [simprocAttr, ↓vpre, zp, hbl, hat, Int.toNat_natCast]
     repeat (refine ⟨by omega, ?_⟩)
     refine za0 ?_
     refine awp_local 13 ([eIs b.params, eInss b.ins, aI b.term.kind, aI b.term.arg, aI b.term.n, eIs b.term.cases, .lst 2 [] .sh]) [(1, .ip none [aI f.name, eBlocks f.blocks]), (2, .mp 1 0), (5, eIs L), (7, eIs A), (9, .ip none [aI f.name, .os bid N 7]), (10, .mp X0 0), (45, eIs L), (46, aI L.length), (47, aI i), (12, aI k), (13, .ip none [eIs b.params, eInss b.ins, aI b.term.kind, aI b.term.arg, aI b.term.n, eIs b.term.cases, .lst 2 [] .sh])] (by simp [putS, dropS, Go.Av.look]) (by rfl) (by omega) (by simp [putS, dropS, Go.Av.look]) ?_ ?_ ?_
     ·exact hP.up
     ·simp [AVal.upto, uptoL, aI_upto, Edge.map_upto, Ins.map_upto, Block.map_upto, hXl, hBl, h1l]
     refine zh2 (za0 ?_)
     refine awp_block (awp_loop (ι := Unit) (fun _ => ⟨89, [(1, .ip none [aI f.name, eBlocks f.blocks]), (2, .mp 1 0), (5, eIs L), (7, eIs A), (9, .ip none [aI f.name, .os bid N 7]), (10, .mp X0 0), (45, eIs L), (46, aI L.length), (47, aI i), (13, .ip none [eIs b.params, eInss b.ins, aI b.term.kind, aI b.term.arg, aI b.term.n, eIs b.term.cases, .lst 2 [] .sh]), (59, aI 0), (60, aI 0)], O⟩) (fun _ => 0) () ?_ ?_)
     ·refine zq rfl ?_ ?_
      simp -dsimp only [simprocAttr, ↓vpre, zp, zc]
      all_goals rfl
     rintro ⟨⟩
     refine zh1 (za0 ?_)
     refine zu1 rfl ?_
     refine awp_exit ?_
     simp -dsimp only [vend, ne_eq, Nat.reduceEqDiff, reduceCtorEq]
     by_cases hdn : L.take i = []
     ·have hob : outBl oid (prB f A (L.take i)) = .lst 7 [] .ex := by
       rw [hdn]
       rfl
      have hout := hP.out
      rw [hob] at hout
      have ho1 : (O)[X0]? = some (.cells [aI f.name, .lst 7 [] .ex]) := hout
      have ho1' : ∀ Y, (O ++ Y)[X0]? = some (.cells [aI f.name, .lst 7 [] .ex]) := fun Y => at_left ho1
      have hO1l : (O).length = O.length := rfl
      refine zs0 ?_
      simp -dsimp only [simprocAttr, ↓vpre, zp, ho1, ho1', cellsAll_v, cells_os', hblc]
      repeat (refine ⟨by omega, ?_⟩)
      refine ⟨trivial, ?_⟩
      refine za0 ?_
      have hput : PrS f A ids bid X0 (L.take i ++ [(k : Int)]) O.length ((O ++ [AObj.cells ([eIs b.params, eInss b.ins, aI b.term.kind, aI b.term.arg, aI b.term.n, eIs b.term.cases, .lst 2 [] .sh])]).set X0 (.cells [aI f.name, .os O.length 1 7])) := hP.snoc hb hid hkn hO1l (hP.up) (fun _ _ _ => rfl) (fun q => absurd hto q) (by rw [prC_snoc hid hb, hdn, ← hblc]; rfl) (by rw [hdn]; rfl)
      show AWP Try.prog _ _ _ ⟨_, _, (O ++ [AObj.cells ([eIs b.params, eInss b.ins, aI b.term.kind, aI b.term.arg, aI b.term.n, eIs b.term.cases, .lst 2 [] .sh])]).set X0 (.cells [aI f.name, .os (O).length 1 7])⟩
      rw [hO1l]
      generalize (O ++ [AObj.cells ([eIs b.params, eInss b.ins, aI b.term.kind, aI b.term.arg, aI b.term.n, eIs b.term.cases, .lst 2 [] .sh])]).set X0 (.cells [aI f.name, .os O.length 1 7]) = O7 at *
      refine zh0 ?_
      repeat (refine ⟨by omega, ?_⟩)
      refine zl0 ?_
      refine ⟨⟨⟨i + 1, O.length, O7⟩, hlt, by rw [htk]; exact hput⟩, by simp; omega, ?_⟩
      refine zq rfl ?_ ?_
      simp -dsimp only [simprocAttr, ↓vpre, zp, zc]
      ·exact Sub.int (by simp)
      rfl
     obtain ⟨l1, l2, l3, l4⟩ := hP.lst hdn
     have hob : outBl oid (prB f A (L.take i)) = .os oid i 7 := by
      unfold outBl
      rw [if_neg (by simpa [prB] using hdn), prB_len, htkl]
     have hout := hP.out
     rw [hob] at hout
     have ho1 : (O)[X0]? = some (.cells [aI f.name, .os oid i 7]) := hout
     have l5 : (O)[oid]? = some (.cells (blsC (prI ids (L.take i)) (prB f A (L.take i)))) := l4
     have ho1' : ∀ Y, ((O).set oid .gone ++ Y)[X0]? = some (.cells [aI f.name, .os oid i 7]) := fun Y => at_left (at_set_ne ho1 (by omega))
     have hO1l : ((O).set oid .gone).length = O.length := List.length_set
     have hO1l' : (O).length = O.length := rfl
     have hbll := blsC_len (ids := prI ids (L.take i)) (bs := prB f A (L.take i)) (by rw [prI_len, prB_len])
     rw [prB_len, htkl] at hbll
     have hTT : (blsC (prI ids (L.take i)) (prB f A (L.take i))).take (i * 7) = blsC (prI ids (L.take i)) (prB f A (L.take i)) := List.take_of_length_le (by omega)
     refine zg0 ?_
     simp -dsimp only [simprocAttr, ↓vpre, zp, ho1, ho1', l5, hTT, hbll, cellsAll_v, cells_os', hblc]
     repeat (refine ⟨by omega, ?_⟩)
     refine ⟨trivial, ?_⟩
     refine za0 ?_
     have hput : PrS f A ids bid X0 (L.take i ++ [(k : Int)]) O.length (((O).set oid .gone ++ [AObj.cells (blsC (prI ids (L.take i)) (prB f A (L.take i)) ++ ([eIs b.params, eInss b.ins, aI b.term.kind, aI b.term.arg, aI b.term.n, eIs b.term.cases, .lst 2 [] .sh]))]).set X0 (.cells [aI f.name, .os O.length (i + 1) 7])) := hP.snoc hb hid hkn hO1l (uptoO_set (hP.up) trivial) (fun j h1 h2 => by rw [List.getElem?_set_ne (Ne.symm (h2 hdn))]; skip) (fun q => absurd hto q) (by rw [prC_snoc hid hb, hblc]) (by rw [htkl])
     show AWP Try.prog _ _ _ ⟨_, _, ((O).set oid .gone ++ [AObj.cells (blsC (prI ids (L.take i)) (prB f A (L.take i)) ++ ([eIs b.params, eInss b.ins, aI b.term.kind, aI b.term.arg, aI b.term.n, eIs b.term.cases, .lst 2 [] .sh]))]).set X0 (.cells [aI f.name, .os (O).length (i + 1) 7])⟩
     rw [hO1l']
     generalize ((O).set oid .gone ++ [AObj.cells (blsC (prI ids (L.take i)) (prB f A (L.take i)) ++ ([eIs b.params, eInss b.ins, aI b.term.kind, aI b.term.arg, aI b.term.n, eIs b.term.cases, .lst 2 [] .sh]))]).set X0 (.cells [aI f.name, .os O.length (i + 1) 7]) = O7 at *
     refine zh0 ?_
     repeat (refine ⟨by omega, ?_⟩)
     refine zl0 ?_
     refine ⟨⟨⟨i + 1, O.length, O7⟩, hlt, by rw [htk]; exact hput⟩, by simp; omega, ?_⟩
     refine zq rfl ?_ ?_
     simp -dsimp only [simprocAttr, ↓vpre, zp, zc]
     ·exact Sub.int (by simp)
     rfl
    obtain ⟨o1, o2, o3, o4, o5⟩ := hP.own k id b hid hb hto
    rw [if_neg hkn] at o5
    have hblc : blC id b = [eIs b.params, eInss b.ins, aI b.term.kind, aI b.term.arg, aI b.term.n, eIs b.term.cases, .os id b.term.to.length 2] := by
     unfold blC outE
     rw [if_neg hto]
    rw [hblc] at hat
    have hil := lt_of_getElem? o5
    refine zg1 ?_
    simp -dsimp only [simprocAttr, ↓vpre, zp, hbl, hat, Int.toNat_natCast]
    repeat (refine ⟨by omega, ?_⟩)
    refine za0 ?_
    refine awp_local 13 ([eIs b.params, eInss b.ins, aI b.term.kind, aI b.term.arg, aI b.term.n, eIs b.term.cases, .os id b.term.to.length 2]) [(1, .ip none [aI f.name, eBlocks f.blocks]), (2, .mp 1 0), (5, eIs L), (7, eIs A), (9, .ip none [aI f.name, .os bid N 7]), (10, .mp X0 0), (45, eIs L), (46, aI L.length), (47, aI i), (12, aI k), (13, .ip none [eIs b.params, eInss b.ins, aI b.term.kind, aI b.term.arg, aI b.term.n, eIs b.term.cases, .os id b.term.to.length 2])] (by simp [putS, dropS, Go.Av.look]) (by rfl) (by omega) (by simp [putS, dropS, Go.Av.look]) ?_ ?_ ?_
    ·exact hP.up
    ·simp [AVal.upto, uptoL, aI_upto, Edge.map_upto, Ins.map_upto, Block.map_upto, hXl, hBl, h1l, hil]
    have hO0 : O.set id (.cells (edC (mixE A b.term.to 0))) = O := by
     rw [mixE_zero]
     apply List.ext_getElem?
     intro j
     rw [List.getElem?_set]
     split
     ·rename_i e
      rw [← e, o5]
     rfl
    refine zh2 (za0 ?_)
    refine awp_block (awp_loop (ι := {n : Nat // n ≤ b.term.to.length}) (fun n => ⟨89, [(1, .ip none [aI f.name, eBlocks f.blocks]), (2, .mp 1 0), (5, eIs L), (7, eIs A), (9, .ip none [aI f.name, .os bid N 7]), (10, .mp X0 0), (45, eIs L), (46, aI L.length), (47, aI i), (13, .ip none [eIs b.params, eInss b.ins, aI b.term.kind, aI b.term.arg, aI b.term.n, eIs b.term.cases, .os id b.term.to.length 2]), (59, aI b.term.to.length), (60, aI n.1)], O.set id (.cells (edC (mixE A b.term.to n.1)))⟩) (fun n => b.term.to.length - n.1) ⟨0, by omega⟩ ?_ ?_)
    ·refine zq rfl ?_ ?_
     simp -dsimp only [simprocAttr, ↓vpre, zp, zc]
     all_goals exact hO0.symm
    rintro ⟨z, hz⟩
    refine zh1 (za0 ?_)
    apply zk1 rfl <;> intro h
    ·refine zb0 ?_
     have hlz : z < b.term.to.length := by simpa using h
     obtain ⟨e, he⟩ : ∃ e, b.term.to[z]? = some e := ⟨b.term.to[z], by simp [hlz]⟩
     have her := hbe e (List.mem_of_getElem? he)
     have hge : (O.set id (.cells (edC (mixE A b.term.to z))))[id]? = some (.cells (edC (mixE A b.term.to z))) := List.getElem?_set_self hil
     obtain ⟨c1, c2⟩ := edC_at (mixE_at A he)
     have hmst := mixE_step A he
     have hmel : (edC (mixE A b.term.to z)).length = b.term.to.length * 2 := by rw [edC_len, mixE_len]
     obtain ⟨x, hx⟩ : ∃ x : Nat, e.block = (x : Int) := ⟨e.block.toNat, by omega⟩
     have hAx : A[x]? = some (atI A e.block) := by
      unfold atI
      rw [hx, Int.toNat_natCast, List.getElem?_eq_getElem (by omega)]
      rfl
     refine awp_seq (awp_block ?_)
     refine zh1 (za0 ?_)
     refine zg0 ?_
     simp -dsimp only [simprocAttr, ↓vpre, zp, hge, c1, hx, hAx, hmel, Int.toNat_natCast]
     repeat (refine ⟨by omega, ?_⟩)
     refine ⟨ob (by kernel_rfl), ?_⟩
     refine za0 ?_
     rw [← hx, hmst, List.set_set]
     refine zh0 ?_
     repeat (refine ⟨by omega, ?_⟩)
     refine zl0 ?_
     refine ⟨⟨z + 1, hlz⟩, by simp; omega, ?_⟩
     refine zq rfl ?_ ?_
     simp -dsimp only [simprocAttr, ↓vpre, zp, zc]
     ·exact Sub.int (by simp)
     rfl
    refine awp_exit ?_
    simp -dsimp only [vend, ne_eq, Nat.reduceEqDiff, reduceCtorEq]
    have hzl : b.term.to.length ≤ z := by
     have := of_decide_eq_false h
     omega
    rw [mixE_all A hzl]
    by_cases hdn : L.take i = []
    ·have hob : outBl oid (prB f A (L.take i)) = .lst 7 [] .ex := by
      rw [hdn]
      rfl
     have hout := hP.out
     rw [hob] at hout
     have ho1 : (O.set id (.cells (edC (b.term.to.map (renE A)))))[X0]? = some (.cells [aI f.name, .lst 7 [] .ex]) := at_set_ne hout o3
     have ho1' : ∀ Y, (O.set id (.cells (edC (b.term.to.map (renE A)))) ++ Y)[X0]? = some (.cells [aI f.name, .lst 7 [] .ex]) := fun Y => at_left ho1
     have hO1l : (O.set id (.cells (edC (b.term.to.map (renE A))))).length = O.length := List.length_set
     refine zs0 ?_
     simp -dsimp only [simprocAttr, ↓vpre, zp, ho1, ho1', cellsAll_v, cells_os', hblc]
     repeat (refine ⟨by omega, ?_⟩)
     refine ⟨trivial, ?_⟩
     refine za0 ?_
     have hput : PrS f A ids bid X0 (L.take i ++ [(k : Int)]) O.length ((O.set id (.cells (edC (b.term.to.map (renE A)))) ++ [AObj.cells ([eIs b.params, eInss b.ins, aI b.term.kind, aI b.term.arg, aI b.term.n, eIs b.term.cases, .os id b.term.to.length 2])]).set X0 (.cells [aI f.name, .os O.length 1 7])) := hP.snoc hb hid hkn hO1l (uptoO_set hP.up (show AObj.upto O.length (.cells (edC (b.term.to.map (renE A)))) from edC_upto _ _)) (fun j h1 _ => by rw [List.getElem?_set_ne (Ne.symm (h1 hto))]) (fun _ => List.getElem?_set_self (lt_of_getElem? o5)) (by rw [prC_snoc hid hb, hdn, ← hblc]; rfl) (by rw [hdn]; rfl)
     show AWP Try.prog _ _ _ ⟨_, _, (O.set id (.cells (edC (b.term.to.map (renE A)))) ++ [AObj.cells ([eIs b.params, eInss b.ins, aI b.term.kind, aI b.term.arg, aI b.term.n, eIs b.term.cases, .os id b.term.to.length 2])]).set X0 (.cells [aI f.name, .os (O.set id (.cells (edC (b.term.to.map (renE A))))).length 1 7])⟩
     rw [hO1l]
     generalize (O.set id (.cells (edC (b.term.to.map (renE A)))) ++ [AObj.cells ([eIs b.params, eInss b.ins, aI b.term.kind, aI b.term.arg, aI b.term.n, eIs b.term.cases, .os id b.term.to.length 2])]).set X0 (.cells [aI f.name, .os O.length 1 7]) = O7 at *
     refine zh0 ?_
     repeat (refine ⟨by omega, ?_⟩)
     refine zl0 ?_
     refine ⟨⟨⟨i + 1, O.length, O7⟩, hlt, by rw [htk]; exact hput⟩, by simp; omega, ?_⟩
     refine zq rfl ?_ ?_
     simp -dsimp only [simprocAttr, ↓vpre, zp, zc]
     ·exact Sub.int (by simp)
     rfl
    obtain ⟨l1, l2, l3, l4⟩ := hP.lst hdn
    have hob : outBl oid (prB f A (L.take i)) = .os oid i 7 := by
     unfold outBl
     rw [if_neg (by simpa [prB] using hdn), prB_len, htkl]
    have hout := hP.out
    rw [hob] at hout
    have ho1 : (O.set id (.cells (edC (b.term.to.map (renE A)))))[X0]? = some (.cells [aI f.name, .os oid i 7]) := at_set_ne hout o3
    have l5 : (O.set id (.cells (edC (b.term.to.map (renE A)))))[oid]? = some (.cells (blsC (prI ids (L.take i)) (prB f A (L.take i)))) := at_set_ne l4 (o4 hdn)
    have ho1' : ∀ Y, ((O.set id (.cells (edC (b.term.to.map (renE A))))).set oid .gone ++ Y)[X0]? = some (.cells [aI f.name, .os oid i 7]) := fun Y => at_left (at_set_ne ho1 (by omega))
    have hO1l : ((O.set id (.cells (edC (b.term.to.map (renE A))))).set oid .gone).length = O.length := by rw [List.length_set]; exact List.length_set
    have hO1l' : (O.set id (.cells (edC (b.term.to.map (renE A))))).length = O.length := List.length_set
    have hbll := blsC_len (ids := prI ids (L.take i)) (bs := prB f A (L.take i)) (by rw [prI_len, prB_len])
    rw [prB_len, htkl] at hbll
    have hTT : (blsC (prI ids (L.take i)) (prB f A (L.take i))).take (i * 7) = blsC (prI ids (L.take i)) (prB f A (L.take i)) := List.take_of_length_le (by omega)
    refine zg0 ?_
    simp -dsimp only [simprocAttr, ↓vpre, zp, ho1, ho1', l5, hTT, hbll, cellsAll_v, cells_os', hblc]
    repeat (refine ⟨by omega, ?_⟩)
    refine ⟨trivial, ?_⟩
    refine za0 ?_
    have hput : PrS f A ids bid X0 (L.take i ++ [(k : Int)]) O.length (((O.set id (.cells (edC (b.term.to.map (renE A))))).set oid .gone ++ [AObj.cells (blsC (prI ids (L.take i)) (prB f A (L.take i)) ++ ([eIs b.params, eInss b.ins, aI b.term.kind, aI b.term.arg, aI b.term.n, eIs b.term.cases, .os id b.term.to.length 2]))]).set X0 (.cells [aI f.name, .os O.length (i + 1) 7])) := hP.snoc hb hid hkn hO1l (uptoO_set (uptoO_set hP.up (show AObj.upto O.length (.cells (edC (b.term.to.map (renE A)))) from edC_upto _ _)) trivial) (fun j h1 h2 => by rw [List.getElem?_set_ne (Ne.symm (h2 hdn))]; exact (fun j h1 _ => by rw [List.getElem?_set_ne (Ne.symm (h1 hto))]) j h1 h2) (fun q => by rw [List.getElem?_set_ne (Ne.symm (o4 hdn))]; exact (fun _ => List.getElem?_set_self (lt_of_getElem? o5)) q) (by rw [prC_snoc hid hb, hblc]) (by rw [htkl])
    show AWP Try.prog _ _ _ ⟨_, _, ((O.set id (.cells (edC (b.term.to.map (renE A))))).set oid .gone ++ [AObj.cells (blsC (prI ids (L.take i)) (prB f A (L.take i)) ++ ([eIs b.params, eInss b.ins, aI b.term.kind, aI b.term.arg, aI b.term.n, eIs b.term.cases, .os id b.term.to.length 2]))]).set X0 (.cells [aI f.name, .os (O.set id (.cells (edC (b.term.to.map (renE A))))).length (i + 1) 7])⟩
    rw [hO1l']
    generalize ((O.set id (.cells (edC (b.term.to.map (renE A))))).set oid .gone ++ [AObj.cells (blsC (prI ids (L.take i)) (prB f A (L.take i)) ++ ([eIs b.params, eInss b.ins, aI b.term.kind, aI b.term.arg, aI b.term.n, eIs b.term.cases, .os id b.term.to.length 2]))]).set X0 (.cells [aI f.name, .os O.length (i + 1) 7]) = O7 at *
    refine zh0 ?_
    repeat (refine ⟨by omega, ?_⟩)
    refine zl0 ?_
    refine ⟨⟨⟨i + 1, O.length, O7⟩, hlt, by rw [htk]; exact hput⟩, by simp; omega, ?_⟩
    refine zq rfl ?_ ?_
    simp -dsimp only [simprocAttr, ↓vpre, zp, zc]
    ·exact Sub.int (by simp)
    rfl
   refine awp_exit ?_
   simp -dsimp only [vend, ne_eq, Nat.reduceEqDiff, reduceCtorEq]
   have hiL : L.length ≤ i := by
    have := of_decide_eq_false h
    omega
   rw [List.take_of_length_le hiL] at hP
   obtain ⟨l1, l2, l3, l4⟩ := hP.lst hL0
   have hob : outBl oid (prB f A L) = .os oid L.length 7 := by
    unfold outBl
    rw [if_neg (by simpa [prB] using hL0), prB_len]
   have hout := hP.out
   have hr1 := hP.r1
   have h1l := lt_of_getElem? hr1
   have hx5 := hP.x5
   rw [hob] at hout
   refine zg1 ?_
   simp -dsimp only [simprocAttr, ↓vpre, zp, hout, hr1]
   refine za0 ?_
   have hlen : (prI ids L).length = (prB f A L).length := by rw [prI_len, prB_len]
   have hel : ∀ (j id : Nat) (c : Block), (prI ids L)[j]? = some id → (prB f A L)[j]? = some c → c.term.to ≠ [] → ∃ (k : Nat) (b : Block), L[j]? = some (k : Int) ∧ f.blocks[k]? = some b ∧ ids[k]? = some id ∧ c = renB A b ∧ b.term.to ≠ [] := fun j id c h1 h2 h3 => by
    unfold prI at h1
    unfold prB at h2
    rw [List.getElem?_map, Option.map_eq_some_iff] at h1 h2
    obtain ⟨kk, e1, e2⟩ := h1
    obtain ⟨k2, e3, e4⟩ := h2
    rw [e1] at e3
    simp only [Option.some.injEq] at e3
    subst e3
    have hkr := hLr kk (List.mem_of_getElem? e1)
    have hbk : f.blocks[kk.toNat]? = some (f.blocks[kk.toNat]'(by omega)) := List.getElem?_eq_getElem _
    have hbo : blkOf f kk = f.blocks[kk.toNat]'(by omega) := by
     unfold blkOf
     rw [hbk]
     rfl
    have hik : ids[kk.toNat]? = some id := by
     rw [List.getElem?_eq_getElem (by rw [hP.li]; omega)] at e2 ⊢
     exact congrArg some e2
    refine ⟨kk.toNat, blkOf f kk, by rw [e1]; congr 1; omega, by rw [hbo]; exact hbk, hik, e4.symm, fun q => h3 ?_⟩
    rw [← e4, renB_to, q]
    rfl
   refine awp_blocks (ids := prI ids L) (bs := prB f A L) (X := 1) (oid := oid) (name := f.name) hlen (by omega) (by rw [prB_len]; exact List.getElem?_set_self h1l) (by rw [List.getElem?_set_ne (by omega)]; exact l4) (fun j id c h1 h2 h3 => ?_) (fun i j id c d h1 h2 h3 h4 h5 h6 => ?_) fun O1 hO1 hO11 => ?_
   ·obtain ⟨k, b, q1, q2, q3, q4, q5⟩ := hel j id c h1 h2 h3
    obtain ⟨o1, o2, o3, o4, o5⟩ := hP.own k id b q3 q2 q5
    rw [if_pos (List.mem_of_getElem? q1)] at o5
    exact ⟨o4 hL0, by omega, by rw [List.getElem?_set_ne (by omega), q4]; exact o5⟩
   ·obtain ⟨k, b, q1, q2, q3, q4, q5⟩ := hel i id c h1 h3 h5
    obtain ⟨k', b', r1, r2, r3, r4, r5⟩ := hel j id d h2 h4 h6
    have hkk := hP.inj k k' id b b' q3 r3 q2 r2 q5 r5
    subst hkk
    have hij := List.pairwise_iff_getElem.1 hLn
    have e1 := List.getElem?_eq_some_iff.1 q1
    have e2 := List.getElem?_eq_some_iff.1 r1
    obtain ⟨p1, p2⟩ := e1
    obtain ⟨p3, p4⟩ := e2
    refine Classical.byContradiction fun q => ?_
    rcases Nat.lt_or_gt_of_ne q with q | q
    ·exact hij i j p1 p3 q (p2.trans p4.symm)
    exact hij j i p3 p1 q (p4.trans p2.symm)
   refine awp_ret ?_
   simp -dsimp only [simprocAttr, ↓vpre, zp, zr, Try.results23, hO11]
   simp [uptoL, AVal.upto, aI_upto, Block.map_upto]
  exact FSub.mp rfl rfl
 rw [if_neg hc] at hrr ⊢
 obtain ⟨e, he⟩ : ∃ e, e = checkFuncM f := ⟨_, rfl⟩
 rw [← he] at hc hrr ⊢
 have hde : decide (e = 0) = false := decide_eq_false hc
 refine zf true 0 Try.func23 Try.ntmps23 ?_
 dsimp only [Tmp, TypeId, slotsOf]
 refine zh1 (za0 ?_)
 refine awp_freeze1 1 0 (.ip none [aI f.name, eBlocks f.blocks]) rfl (by simp [AObj.isSpare]) trivial rfl ?_ ?_
 rotate_left
 simp -dsimp only [simprocAttr, ↓vpre, zp]
 ·refine zh1 ?_
  refine zi hrr ?_
  refine za0 ?_
  refine zg2 ?_
  simp -dsimp only [simprocAttr, ↓vpre, zp, hde]
  refine za0 ?_
  refine zw0 rfl ?_
  refine zh1 (za0 ?_)
  refine awp_ret ?_
  simp -dsimp only [simprocAttr, ↓vpre, zp, zr, Try.results23]
  simp [uptoL, AVal.upto]
 exact FSub.mp rfl rfl
theorem livePrunes_law (f : Func) (hfit : f.fit) : PCall Try.prog 10 [f.enc] (.v (.bool true)) := by
 have hwk := works_spec
 have hpr := prune_spec f hfit
 unfold pruneR at hpr
 by_cases hc : checkFuncM f = 0
 ·rw [if_pos hc] at hpr
  have hv := checkFunc_v hfit hc
  have hg := hv.fn.gr
  have hw := ord_w hg
  have hn : f.blocks.length ≤ 128 := hg.few
  have hc' := prune_check hfit hc
  have hfit' := prune_fit hfit hg
  have hv' := checkFunc_v hfit' hc'
  have hlf := live_spec f hfit
  have hlg := live_spec (pruneM f) hfit'
  unfold liveR at hlf hlg
  rw [if_pos hc] at hlf
  rw [if_pos hc'] at hlg
  have hLl : (rchS f).length ≤ 128 := by rw [rchS_len]; exact hw.few
  have hAl : (atM f).length = f.blocks.length := by simp [atM]
  have hAt : ∀ k : Nat, k < f.blocks.length → (atM f)[k]? = some (posM f k) := fun k hk => by
   unfold atM
   rw [List.getElem?_map, List.getElem?_range hk]
   rfl
  obtain ⟨hok, _⟩ := live_fix hv.fn.few hv.fresh
  obtain ⟨hok', _⟩ := live_fix hv'.fn.few hv'.fresh
  have hgl := prune_len (f := f)
  have la1 : ((liveM f).first.map (listM 0)).length = f.blocks.length := by rw [List.length_map, hok.len1]
  have lb1 : ((liveM f).behind.map (listM 0)).length = f.blocks.length := by rw [List.length_map, hok.len2]
  have lc1 : ((liveM (pruneM f)).first.map (listM 0)).length = (rchS f).length := by rw [List.length_map, hok'.len1, prune_len]
  have ld1 : ((liveM (pruneM f)).behind.map (listM 0)).length = (rchS f).length := by rw [List.length_map, hok'.len2, prune_len]
  have hpos : ∀ k : Nat, k < f.blocks.length → 0 ≤ posM f k → (posM f k).toNat < (rchS f).length ∧ ∃ x y, ((liveM f).first.map (listM 0))[k]? = some x ∧ ((liveM (pruneM f)).first.map (listM 0))[(posM f k).toNat]? = some x ∧ ((liveM f).behind.map (listM 0))[k]? = some y ∧ ((liveM (pruneM f)).behind.map (listM 0))[(posM f k).toNat]? = some y := fun k hkl hk => by
   have h1 := (idxI_mem (l := rchS f) (n := (k : Int))).1.1 hk
   have h2 := lt_of_getElem? ((idxI_mem (l := rchS f) (n := (k : Int))).2 hk)
   have h2' : (posM f (k : Int)).toNat < (rchS f).length := h2
   obtain ⟨e1, e2⟩ := live_prune hv hv' (mem_rchS.1 h1)
   rw [Int.toNat_natCast] at e1 e2
   have q1 : (liveM f).first[k]? = some ((liveM f).first[k]'(by rw [hok.len1]; exact hkl)) := List.getElem?_eq_getElem _
   have q2 : (liveM (pruneM f)).first[(posM f (k : Int)).toNat]? = some ((liveM (pruneM f)).first[(posM f (k : Int)).toNat]'(by rw [hok'.len1, prune_len]; exact h2')) := List.getElem?_eq_getElem _
   have q3 : (liveM f).behind[k]? = some ((liveM f).behind[k]'(by rw [hok.len2]; exact hkl)) := List.getElem?_eq_getElem _
   have q4 : (liveM (pruneM f)).behind[(posM f (k : Int)).toNat]? = some ((liveM (pruneM f)).behind[(posM f (k : Int)).toNat]'(by rw [hok'.len2, prune_len]; exact h2')) := List.getElem?_eq_getElem _
   rw [q1, q2, Option.getD_some, Option.getD_some] at e1
   rw [q3, q4, Option.getD_some, Option.getD_some] at e2
   refine ⟨h2', _, _, by rw [List.getElem?_map, q1]; rfl, ?_, by rw [List.getElem?_map, q3]; rfl, ?_⟩
   ·rw [List.getElem?_map, q2, Option.map_some, ← listM_eq _ _ 0 e1]
   rw [List.getElem?_map, q4, Option.map_some, ← listM_eq _ _ 0 e2]
  generalize (liveM f).first.map (listM 0) = LA at *
  generalize (liveM f).behind.map (listM 0) = LB at *
  generalize (liveM (pruneM f)).first.map (listM 0) = LC at *
  generalize (liveM (pruneM f)).behind.map (listM 0) = LD at *
  clear hok hok'
  obtain ⟨g, hge⟩ : ∃ g, g = pruneM f := ⟨_, rfl⟩
  rw [← hge] at hpr hlg hgl
  obtain ⟨N, hN⟩ : ∃ N, N = f.blocks.length := ⟨_, rfl⟩
  obtain ⟨M, hM⟩ : ∃ M, M = (rchS f).length := ⟨_, rfl⟩
  rw [← hN] at hn hAl hAt la1 lb1 hpos
  rw [← hM] at hLl hpos lc1 ld1 hgl
  generalize atM f = A at *
  obtain ⟨P, hP⟩ : ∃ P : Int → Int, P = posM f := ⟨_, rfl⟩
  rw [← hP] at hAt hpos
  have hge2 : g.enc = .agg [aI g.name, eBlocks g.blocks] := rfl
  rw [hge2] at hpr
  clear hge hM hP
  refine zf true 0 Try.func10 Try.ntmps10 ?_
  dsimp only [Tmp, TypeId, slotsOf]
  refine zh1 (za0 ?_)
  refine awp_freeze1 1 0 (.ip none [aI f.name, eBlocks f.blocks]) rfl (by simp [AObj.isSpare]) trivial rfl ?_ ?_
  rotate_left
  simp -dsimp only [simprocAttr, ↓vpre, zp]
  ·refine zh2 ?_
   refine zi hwk ?_
   refine za0 ?_
   apply zk0 rfl <;> intro h
   ·cases h
   refine zb0 ?_
   refine zh1 ?_
   refine zi hpr ?_
   refine za0 ?_
   refine awp_freeze1 3 1 (.ip none [aI g.name, eBlocks g.blocks]) rfl (by simp [AObj.isSpare]) trivial rfl ?_ ?_
   rotate_left
   simp -dsimp only [simprocAttr, ↓vpre, zp]
   ·refine zh2 (za0 ?_)
    apply zk0 rfl <;> intro h
    ·cases h
    refine zb0 ?_
    refine zh1 ?_
    refine zi hlf ?_
    refine za0 ?_
    refine zh1 ?_
    refine zi hlg ?_
    refine za0 ?_
    refine zg2 ?_
    simp -dsimp only [simprocAttr, ↓vpre, zp, la1, lb1, lc1, ld1, hAl, hgl]
    refine za0 ?_
    apply zk0 rfl <;> intro h
    ·cases h
    refine zb0 ?_
    refine zg2 ?_
    simp -dsimp only [simprocAttr, ↓vpre, zp, hAl]
    refine za0 ?_
    refine awp_block (awp_loop (ι := {k : Nat // k ≤ N}) (fun k => ⟨115, [(4, eIs A), (6, .lst 1 (LA.map eIs) .sh), (7, .lst 1 (LB.map eIs) .sh), (9, .lst 1 (LC.map eIs) .sh), (10, .lst 1 (LD.map eIs) .sh), (75, eIs A), (76, aI N), (77, aI k.1)], [.gone, .gone]⟩) (fun k => N - k.1) ⟨0, by omega⟩ ?_ ?_)
    ·refine zq rfl ?_ ?_
     simp -dsimp only [simprocAttr, ↓vpre, zp, zc]
     all_goals rfl
    rintro ⟨k, hk⟩
    refine zh1 (za0 ?_)
    apply zk1 rfl <;> intro h
    ·refine zb0 ?_
     have hlt : k < N := by simpa using h
     have hAk := hAt k hlt
     have hpk := hpos k hlt
     obtain ⟨n, hne⟩ : ∃ n, n = P k := ⟨_, rfl⟩
     rw [← hne] at hAk hpk
     refine awp_seq (awp_block ?_)
     refine zg1 ?_
     simp -dsimp only [simprocAttr, ↓vpre, zp, hAk]
     refine za0 ?_
     by_cases hn0 : 0 ≤ n
     ·have g2 : decide (0 ≤ n) = true := decide_eq_true hn0
      obtain ⟨q1, x, y, q2, q3, q4, q5⟩ := hpk hn0
      have g3 : decide ((M : Int) ≤ n) = false := decide_eq_false (by omega)
      obtain ⟨m, hmn⟩ : ∃ m : Nat, n = (m : Int) := ⟨n.toNat, by omega⟩
      rw [hmn] at g2 g3 q3 q5
      rw [Int.toNat_natCast] at q3 q5
      have hsx := sameInts_spec x x
      have hsy := sameInts_spec y y
      refine zg1 ?_
      simp -dsimp only [simprocAttr, ↓vpre, zp, hmn, lc1, g3, g2, q2, q3, Int.toNat_natCast]
      repeat (refine ⟨by omega, ?_⟩)
      refine .inl ⟨_, hsx, by simp only [uptoL, AVal.upto, zt, zu, aI_upto], later_intro ?_⟩
      simp -dsimp only [simprocAttr, ↓vpre, zp, hmn, q4, q5, Int.toNat_natCast]
      repeat (refine ⟨by omega, ?_⟩)
      refine zi hsy ?_
      refine ⟨ob (by kernel_rfl), ?_⟩
      refine za0 ?_
      refine zu0 rfl ?_
      refine zb1 ?_
      refine zh0 ?_
      repeat (refine ⟨by omega, ?_⟩)
      refine zl0 ?_
      refine ⟨⟨k + 1, hlt⟩, by simp; omega, ?_⟩
      refine zq rfl ?_ ?_
      simp -dsimp only [simprocAttr, ↓vpre, zp, zc]
      ·exact Sub.int (by simp)
      rfl
     have g2 : decide (0 ≤ n) = false := decide_eq_false hn0
     have g3 : decide ((M : Int) ≤ n) = false := decide_eq_false (by omega)
     refine zg1 ?_
     simp -dsimp only [simprocAttr, ↓vpre, zp, lc1, g3, g2]
     refine ⟨ob (by kernel_rfl), ?_⟩
     refine za0 ?_
     refine zu0 rfl ?_
     refine zb1 ?_
     refine zh0 ?_
     repeat (refine ⟨by omega, ?_⟩)
     refine zl0 ?_
     refine ⟨⟨k + 1, hlt⟩, by simp; omega, ?_⟩
     refine zq rfl ?_ ?_
     simp -dsimp only [simprocAttr, ↓vpre, zp, zc]
     ·exact Sub.int (by simp)
     rfl
    refine awp_exit ?_
    simp -dsimp only [vend, ne_eq, Nat.reduceEqDiff, reduceCtorEq]
    refine zh1 (za0 ?_)
    refine awp_ret ?_
    simp -dsimp only [simprocAttr, ↓vpre, zp, zr, Try.results10]
   exact FSub.mp rfl rfl
  exact FSub.mp rfl rfl
 rw [if_neg hc] at hpr
 obtain ⟨e, he⟩ : ∃ e, e = checkFuncM f := ⟨_, rfl⟩
 rw [← he] at hc hpr
 have hde : decide (e = 0) = false := decide_eq_false hc
 refine zf true 0 Try.func10 Try.ntmps10 ?_
 dsimp only [Tmp, TypeId, slotsOf]
 refine zh1 (za0 ?_)
 refine awp_freeze1 1 0 (.ip none [aI f.name, eBlocks f.blocks]) rfl (by simp [AObj.isSpare]) trivial rfl ?_ ?_
 rotate_left
 simp -dsimp only [simprocAttr, ↓vpre, zp]
 ·refine zh2 ?_
  refine zi hwk ?_
  refine za0 ?_
  refine zu0 rfl ?_
  refine zb0 ?_
  refine zh1 ?_
  refine zi hpr ?_
  refine za0 ?_
  refine zg2 ?_
  simp -dsimp only [simprocAttr, ↓vpre, zp, hde]
  refine za0 ?_
  refine zw0 rfl ?_
  refine zh1 (za0 ?_)
  refine awp_ret ?_
  simp -dsimp only [simprocAttr, ↓vpre, zp, zr, Try.results10]
 exact FSub.mp rfl rfl
end Go.Proofs.Ytlclgfgmhnmnaaa
