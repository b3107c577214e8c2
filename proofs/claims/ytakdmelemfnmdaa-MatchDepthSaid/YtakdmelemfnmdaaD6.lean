/-
  Texts bound together by a program of mine: T45, T46.
-/
import Derived.Test.YtakdmelemfnmdaaD5
set_option linter.all false

section
set_option linter.unusedSimpArgs false
set_option linter.unusedVariables false
set_option maxRecDepth 100000
set_option maxHeartbeats 2000000
-- !tab vtab vmat cmT_flat cmT_cells cmT_share cmT_shareCell
-- !upto Pat.enc_upto Pat.map_upto MRow.enc_upto MRow.map_upto aI_upto eI_upto nS_upto MTree.enc_upto MTree.map_upto rows_upto Con.map_upto Data.map_upto
namespace Go.Proofs.Ytakdmelemfnmdaa
open Go.Av

theorem cmT_cells (t : Tbl) : (cmT t).cells = [cmT t] := rfl
theorem cmT_flat (t : Tbl) : (cmT t).flat := trivial
theorem cmT_share (t : Tbl) : (cmT t).share = cmT t := rfl
theorem cmT_shareCell (t : Tbl) : (cmT t).shareCell = cmT t := rfl

theorem splice_same {cs : List AVal} {off : Nat} {x : AVal} (h : cs[off]? = some x) : splice cs off [x] = cs := by
 unfold splice
 obtain ⟨hlt, e⟩ := List.getElem?_eq_some_iff.1 h
 conv => rhs; rw [← List.take_append_drop off cs, List.drop_eq_getElem_cons hlt, e]
 simp

theorem tcell {l : List MTree} {k : Nat} {t : MTree} (h : l[k]? = some t) : (cellsAll (l.map MTree.enc))[k * 6 + 2]? = some (.lst 1 (t.path.map aI) .sh) := by
 refine cellsAll_getElem? (sz := 6) (xs := l.map MTree.enc) (x := t.enc) (fun x hx => ?_) (by simp [h]) rfl
 obtain ⟨y, _, rfl⟩ := List.mem_map.1 hx
 rfl

theorem compile_ok {datas : List Data} {rows : List (List Pat)} (h0 : check datas rows = 0) : PCall Try.prog 18 [eD datas, eRR rows] (.tup [eT (compileE datas rows).1, aI (compileE datas rows).2]) := by
 have hcheck := Check_spec datas rows
 rw [h0] at hcheck
 have hsm := check_small h0
 obtain ⟨t, hb, hdat, hall, h16, tys, hty, hst⟩ := check_zero h0
 have hix := index_spec datas
 rw [hb] at hix
 simp only [ixRes] at hix
 have hcm : AVal.im KT.str (t.cons.map (ixEntry datas)) = cmT t := by rw [cmT, hdat]
 rw [hcm] at hix
 have hlook := look_small (t := t) (rows := rows) (by rw [hdat]; exact hsm)
 have h64 := hst.len
 obtain ⟨hmv, hrep⟩ := tree_rep hst (by omega) hty.symm (by rw [hdat]; exact hsm)
 have hcnt : cntM (mrows 0 rows) < 1000 := by
  have := mrows_cnt 0 rows
  have := hst.nodes
  omega
 have hbuild := build_ok' hlook 1000 (Nat.le_refl _) _ _ _ _ (start_pre hst (by omega)) start_room hcnt
 have htree : treeM t rows = buildM (lookT t) 1000 (mrows 0 rows) (pathsOf tys.length) ⟨[], 0, false⟩ := by
  unfold treeM
  rw [hty]
 rw [← htree] at hbuild
 have hE : compileE datas rows = if (treeM t rows).2.full then ([], 2) else ((treeM t rows).2.outs.take ((treeM t rows).1.toNat + 1), 0) := by
  unfold compileE
  rw [if_neg (by simp [h0]), hb]
 rw [hE]
 have htys : ∀ r ∈ rows, r.length = tys.length := fun r hr => by rw [hall r hr, hty]
 have hpn : rows = [] → tys.length = 0 := fun e => by rw [hty, e]; rfl
 have hcmu := cmT_upto t
 generalize treeM t rows = Z at hmv hrep hbuild
 have hroom := (hmv.room 0 start_room.room).1
 have hfull := hmv.full
 have hobj := objs_upto t ⟨[], 0, false⟩
 have hobj' := objs_upto t Z.2
 simp only [BS.objs, List.map_nil, List.length_nil] at hbuild hobj hobj'
 refine ecall_of hT true 0 Try.func18 rfl (by kernel_rfl) (by simp [Try.ntmps18]) (by simp) ?_
 show AWP Try.prog _ _ _ ⟨92, _, _⟩
 dsimp only [Tmp, TypeId, slotsOf]
 first | refine zg1 ?_ | refine zg0 ?_ | refine zg2 ?_ | refine zg3 ?_
 simp -dsimp only [simprocAttr, ↓vpre, vpos, ne_eq, implies_true, vtab, vmat, cmT_flat, cmT_cells, cmT_share, cmT_shareCell]
 refine at_intro ?_
 simp -dsimp only [vend, ne_eq, Nat.reduceEqDiff, reduceCtorEq]
 first | refine zg1 ?_ | refine zg0 ?_ | refine zg2 ?_ | refine zg3 ?_
 simp -dsimp only [simprocAttr, ↓vpre, vpos, ne_eq, implies_true, vtab, vmat, cmT_flat, cmT_cells, cmT_share, cmT_shareCell]
 refine .inl ⟨_, hcheck, by first | (simp only [uptoL, AVal.upto, and_true, true_and, and_self, Pat.enc_upto, Pat.map_upto, MRow.enc_upto, MRow.map_upto, aI_upto, eI_upto, nS_upto, MTree.enc_upto, MTree.map_upto, rows_upto, Con.map_upto, Data.map_upto]; done) | (simp [uptoL, AVal.upto, Pat.enc_upto, Pat.map_upto, MRow.enc_upto, MRow.map_upto, aI_upto, eI_upto, nS_upto, MTree.enc_upto, MTree.map_upto, rows_upto, Con.map_upto, Data.map_upto]; done), later_intro ?_⟩
 simp -dsimp only [simprocAttr, ↓vpre, vpos, ne_eq, implies_true, vtab, vmat, cmT_flat, cmT_cells, cmT_share, cmT_shareCell]
 refine at_intro ?_
 simp -dsimp only [vend, ne_eq, Nat.reduceEqDiff, reduceCtorEq]
 first | refine zg1 ?_ | refine zg0 ?_ | refine zg2 ?_ | refine zg3 ?_
 simp -dsimp only [simprocAttr, ↓vpre, vpos, ne_eq, implies_true, vtab, vmat, cmT_flat, cmT_cells, cmT_share, cmT_shareCell]
 refine at_intro ?_
 simp -dsimp only [vend, ne_eq, Nat.reduceEqDiff, reduceCtorEq]
 first | refine zk1 rfl (fun h => ?_) (fun h => ?_) | refine zk0 rfl (fun h => ?_) (fun h => ?_) | refine zk2 rfl (fun h => ?_) (fun h => ?_)
 ·cases h
 ·refine awp_skip ?_
  simp -dsimp only [vend, ne_eq, Nat.reduceEqDiff, reduceCtorEq]
  first | refine zg1 ?_ | refine zg0 ?_ | refine zg2 ?_ | refine zg3 ?_
  simp -dsimp only [simprocAttr, ↓vpre, vpos, ne_eq, implies_true, vtab, vmat, cmT_flat, cmT_cells, cmT_share, cmT_shareCell]
  refine .inl ⟨_, hix, by first | (simp only [uptoL, AVal.upto, and_true, true_and, and_self, Pat.enc_upto, Pat.map_upto, MRow.enc_upto, MRow.map_upto, aI_upto, eI_upto, nS_upto, MTree.enc_upto, MTree.map_upto, rows_upto, Con.map_upto, Data.map_upto]; done) | (simp [uptoL, AVal.upto, Pat.enc_upto, Pat.map_upto, MRow.enc_upto, MRow.map_upto, aI_upto, eI_upto, nS_upto, MTree.enc_upto, MTree.map_upto, rows_upto, Con.map_upto, Data.map_upto]; done), later_intro ?_⟩
  simp -dsimp only [simprocAttr, ↓vpre, vpos, ne_eq, implies_true, vtab, vmat, cmT_flat, cmT_cells, cmT_share, cmT_shareCell]
  refine at_intro ?_
  simp -dsimp only [vend, ne_eq, Nat.reduceEqDiff, reduceCtorEq]
  first | refine zg1 ?_ | refine zg0 ?_ | refine zg2 ?_ | refine zg3 ?_
  simp -dsimp only [simprocAttr, ↓vpre, vpos, ne_eq, implies_true, vtab, vmat, cmT_flat, cmT_cells, cmT_share, cmT_shareCell]
  refine at_intro ?_
  simp -dsimp only [vend, ne_eq, Nat.reduceEqDiff, reduceCtorEq]
  refine awp_ownCell 0 1 rfl rfl ?_
  simp -dsimp only [simprocAttr, ↓vpre, vpos, ne_eq, implies_true, vtab, vmat, cmT_flat, cmT_cells, cmT_share, cmT_shareCell]
  first | refine zg1 ?_ | refine zg0 ?_ | refine zg2 ?_ | refine zg3 ?_
  simp -dsimp only [simprocAttr, ↓vpre, vpos, ne_eq, implies_true, vtab, vmat, cmT_flat, cmT_cells, cmT_share, cmT_shareCell]
  refine at_intro ?_
  simp -dsimp only [vend, ne_eq, Nat.reduceEqDiff, reduceCtorEq]
  refine awp_own 10 rfl ?_
  simp -dsimp only [simprocAttr, ↓vpre, vpos, ne_eq, implies_true, vtab, vmat, cmT_flat, cmT_cells, cmT_share, cmT_shareCell]
  first | refine zg1 ?_ | refine zg0 ?_ | refine zg2 ?_ | refine zg3 ?_
  simp -dsimp only [simprocAttr, ↓vpre, vpos, ne_eq, implies_true, vtab, vmat, cmT_flat, cmT_cells, cmT_share, cmT_shareCell]
  refine at_intro ?_
  simp -dsimp only [vend, ne_eq, Nat.reduceEqDiff, reduceCtorEq]
  refine awp_own 11 rfl ?_
  simp -dsimp only [simprocAttr, ↓vpre, vpos, ne_eq, implies_true, vtab, vmat, cmT_flat, cmT_cells, cmT_share, cmT_shareCell]
  first | refine zg1 ?_ | refine zg0 ?_ | refine zg2 ?_ | refine zg3 ?_
  simp -dsimp only [simprocAttr, ↓vpre, vpos, ne_eq, implies_true, vtab, vmat, cmT_flat, cmT_cells, cmT_share, cmT_shareCell]
  refine at_intro ?_
  simp -dsimp only [vend, ne_eq, Nat.reduceEqDiff, reduceCtorEq]
  first | refine awp_block (awp_loop (ι := {k : Nat // k ≤ rows.length}) (fun k => ⟨92, [(0, eD datas), (1, eRR rows), (9, .mp 0 0), (10, .lst 2 ((mrows 0 (rows.take k.1)).map MRow.enc) (.tok 2)), (11, .lst 1 ((pathsOf (if k.1 = 0 then 0 else tys.length)).map eI) (.tok 3)), (32, eRR rows), (33, aI rows.length), (34, aI k.1)], [.cells [cmT t, .lst 6 [] (.tok 1), aI 0, .v (.bool false)], .spare 0, .spare k.1, .spare (if k.1 = 0 then 0 else tys.length)]⟩) (fun k => rows.length - k.1) ⟨0, by omega⟩ ?_ ?_) | refine awp_seq (awp_block (awp_loop (ι := {k : Nat // k ≤ rows.length}) (fun k => ⟨92, [(0, eD datas), (1, eRR rows), (9, .mp 0 0), (10, .lst 2 ((mrows 0 (rows.take k.1)).map MRow.enc) (.tok 2)), (11, .lst 1 ((pathsOf (if k.1 = 0 then 0 else tys.length)).map eI) (.tok 3)), (32, eRR rows), (33, aI rows.length), (34, aI k.1)], [.cells [cmT t, .lst 6 [] (.tok 1), aI 0, .v (.bool false)], .spare 0, .spare k.1, .spare (if k.1 = 0 then 0 else tys.length)]⟩) (fun k => rows.length - k.1) ⟨0, by omega⟩ ?_ ?_))
  ·refine ⟨rfl, ?_, ?_⟩
   rotate_left
   simp -dsimp only [simprocAttr, ↓vpre, vpos, ne_eq, implies_true, vtab, vmat, cmT_flat, cmT_cells, cmT_share, cmT_shareCell, Says, exists_eq_left', Option.some.injEq, sub_self, and_assoc, true_and, and_true]
   ·exact ⟨Sub.lst (by simp [mrows]), Sub.lst (by simp [pathsOf])⟩
   ·simp
  ·rintro ⟨k, hk⟩
   have hml : (mrows 0 (rows.take k)).length = k := by
    rw [mrows_len, List.length_take]
    omega
   first | refine zg1 ?_ | refine zg0 ?_ | refine zg2 ?_ | refine zg3 ?_
   simp -dsimp only [simprocAttr, ↓vpre, vpos, ne_eq, implies_true, vtab, vmat, cmT_flat, cmT_cells, cmT_share, cmT_shareCell]
   refine at_intro ?_
   simp -dsimp only [vend, ne_eq, Nat.reduceEqDiff, reduceCtorEq]
   first | refine zk1 rfl (fun h => ?_) (fun h => ?_) | refine zk0 rfl (fun h => ?_) (fun h => ?_) | refine zk2 rfl (fun h => ?_) (fun h => ?_)
   ·refine awp_skip ?_
    simp -dsimp only [vend, ne_eq, Nat.reduceEqDiff, reduceCtorEq]
    have hlt : k < rows.length := by simpa using h
    obtain ⟨r, hr⟩ : ∃ r, rows[k]? = some r := ⟨rows[k], by simp [hlt]⟩
    have hrl := htys r (List.mem_of_getElem? hr)
    have hnext : mrows 0 (rows.take (k + 1)) = mrows 0 (rows.take k) ++ [⟨(k : Int), r⟩] := by
     rw [take_next hr, mrows_snoc, List.length_take, show 0 + min k rows.length = k by omega]
    first | refine awp_seq (awp_block ?_) | refine awp_block ?_
    first | refine zg1 ?_ | refine zg0 ?_ | refine zg2 ?_ | refine zg3 ?_
    simp -dsimp only [simprocAttr, ↓vpre, vpos, ne_eq, implies_true, vtab, vmat, cmT_flat, cmT_cells, cmT_share, cmT_shareCell, hr]
    refine at_intro ?_
    simp -dsimp only [vend, ne_eq, Nat.reduceEqDiff, reduceCtorEq]
    first | refine zg1 ?_ | refine zg0 ?_ | refine zg2 ?_ | refine zg3 ?_
    simp -dsimp only [simprocAttr, ↓vpre, vpos, ne_eq, implies_true, vtab, vmat, cmT_flat, cmT_cells, cmT_share, cmT_shareCell, hml]
    repeat (refine ⟨by omega, ?_⟩)
    refine at_intro ?_
    simp -dsimp only [vend, ne_eq, Nat.reduceEqDiff, reduceCtorEq]
    by_cases hk0 : k = 0
    ·subst hk0
     first | refine zg1 ?_ | refine zg0 ?_ | refine zg2 ?_ | refine zg3 ?_
     simp -dsimp only [simprocAttr, ↓vpre, vpos, ne_eq, implies_true, vtab, vmat, cmT_flat, cmT_cells, cmT_share, cmT_shareCell]
     refine at_intro ?_
     simp -dsimp only [vend, ne_eq, Nat.reduceEqDiff, reduceCtorEq]
     first | refine zk1 rfl (fun h => ?_) (fun h => ?_) | refine zk0 rfl (fun h => ?_) (fun h => ?_) | refine zk2 rfl (fun h => ?_) (fun h => ?_)
     ·first | refine zg1 ?_ | refine zg0 ?_ | refine zg2 ?_ | refine zg3 ?_
      simp -dsimp only [simprocAttr, ↓vpre, vpos, ne_eq, implies_true, vtab, vmat, cmT_flat, cmT_cells, cmT_share, cmT_shareCell]
      refine at_intro ?_
      simp -dsimp only [vend, ne_eq, Nat.reduceEqDiff, reduceCtorEq]
      first | refine awp_block (awp_loop (ι := {j : Nat // j ≤ tys.length}) (fun j => ⟨92, [(0, eD datas), (1, eRR rows), (9, .mp 0 0), (10, .lst 2 ((mrows 0 (rows.take 1)).map MRow.enc) (.tok 2)), (11, .lst 1 ((pathsOf j.1).map eI) (.tok 3)), (32, eRR rows), (33, aI rows.length), (34, aI 0), (48, aI tys.length), (49, aI j.1)], [.cells [cmT t, .lst 6 [] (.tok 1), aI 0, .v (.bool false)], .spare 0, .spare 1, .spare j.1]⟩) (fun j => tys.length - j.1) ⟨0, by omega⟩ ?_ ?_) | refine awp_seq (awp_block (awp_loop (ι := {j : Nat // j ≤ tys.length}) (fun j => ⟨92, [(0, eD datas), (1, eRR rows), (9, .mp 0 0), (10, .lst 2 ((mrows 0 (rows.take 1)).map MRow.enc) (.tok 2)), (11, .lst 1 ((pathsOf j.1).map eI) (.tok 3)), (32, eRR rows), (33, aI rows.length), (34, aI 0), (48, aI tys.length), (49, aI j.1)], [.cells [cmT t, .lst 6 [] (.tok 1), aI 0, .v (.bool false)], .spare 0, .spare 1, .spare j.1]⟩) (fun j => tys.length - j.1) ⟨0, by omega⟩ ?_ ?_))
      ·refine ⟨rfl, ?_, ?_⟩
       rotate_left
       simp -dsimp only [simprocAttr, ↓vpre, vpos, ne_eq, implies_true, vtab, vmat, cmT_flat, cmT_cells, cmT_share, cmT_shareCell, Says, exists_eq_left', Option.some.injEq, sub_self, and_assoc, true_and, and_true]
       ·refine ⟨Sub.lst ?_, Sub.int (by rw [hrl])⟩
        have e : mrows 0 (rows.take 1) = mrows 0 [] ++ [⟨((0 : Nat) : Int), r⟩] := hnext
        rw [e]
        simp [MRow.enc]
       ·rfl
      ·rintro ⟨j, hj⟩
       first | refine zg1 ?_ | refine zg0 ?_ | refine zg2 ?_ | refine zg3 ?_
       simp -dsimp only [simprocAttr, ↓vpre, vpos, ne_eq, implies_true, vtab, vmat, cmT_flat, cmT_cells, cmT_share, cmT_shareCell]
       refine at_intro ?_
       simp -dsimp only [vend, ne_eq, Nat.reduceEqDiff, reduceCtorEq]
       first | refine zk1 rfl (fun h => ?_) (fun h => ?_) | refine zk0 rfl (fun h => ?_) (fun h => ?_) | refine zk2 rfl (fun h => ?_) (fun h => ?_)
       ·refine awp_skip ?_
        simp -dsimp only [vend, ne_eq, Nat.reduceEqDiff, reduceCtorEq]
        have hltj : j < tys.length := by simpa using h
        first | refine awp_seq (awp_block ?_) | refine awp_block ?_
        first | refine zg1 ?_ | refine zg0 ?_ | refine zg2 ?_ | refine zg3 ?_
        simp -dsimp only [simprocAttr, ↓vpre, vpos, ne_eq, implies_true, vtab, vmat, cmT_flat, cmT_cells, cmT_share, cmT_shareCell]
        refine at_intro ?_
        simp -dsimp only [vend, ne_eq, Nat.reduceEqDiff, reduceCtorEq]
        first | refine zg1 ?_ | refine zg0 ?_ | refine zg2 ?_ | refine zg3 ?_
        simp -dsimp only [simprocAttr, ↓vpre, vpos, ne_eq, implies_true, vtab, vmat, cmT_flat, cmT_cells, cmT_share, cmT_shareCell, pathsOf_len]
        repeat (refine ⟨by omega, ?_⟩)
        refine at_intro ?_
        simp -dsimp only [vend, ne_eq, Nat.reduceEqDiff, reduceCtorEq]
        first | refine zg1 ?_ | refine zg0 ?_ | refine zg2 ?_ | refine zg3 ?_
        simp -dsimp only [simprocAttr, ↓vpre, vpos, ne_eq, implies_true, vtab, vmat, cmT_flat, cmT_cells, cmT_share, cmT_shareCell]
        repeat (refine ⟨by omega, ?_⟩)
        refine at_intro ?_
        simp -dsimp only [vend, ne_eq, Nat.reduceEqDiff, reduceCtorEq]
        refine ⟨⟨j + 1, hltj⟩, by simp; omega, ?_⟩
        refine ⟨rfl, ?_, ?_⟩
        rotate_left
        simp -dsimp only [simprocAttr, ↓vpre, vpos, ne_eq, implies_true, vtab, vmat, cmT_flat, cmT_cells, cmT_share, cmT_shareCell, Says, exists_eq_left', Option.some.injEq, sub_self, and_assoc, true_and, and_true]
        ·exact ⟨Sub.lst (by rw [pathsOf_succ]; simp), Sub.int (by simp)⟩
        ·rfl
       ·refine awp_exit ?_
        simp -dsimp only [vend, ne_eq, Nat.reduceEqDiff, reduceCtorEq]
        have hjj : j = tys.length := by simp at h; omega
        subst hjj
        first | refine zg1 ?_ | refine zg0 ?_ | refine zg2 ?_ | refine zg3 ?_
        simp -dsimp only [simprocAttr, ↓vpre, vpos, ne_eq, implies_true, vtab, vmat, cmT_flat, cmT_cells, cmT_share, cmT_shareCell]
        repeat (refine ⟨by omega, ?_⟩)
        refine at_intro ?_
        simp -dsimp only [vend, ne_eq, Nat.reduceEqDiff, reduceCtorEq]
        refine ⟨⟨1, hlt⟩, by simp; omega, ?_⟩
        refine ⟨rfl, ?_, ?_⟩
        rotate_left
        simp -dsimp only [simprocAttr, ↓vpre, vpos, ne_eq, implies_true, vtab, vmat, cmT_flat, cmT_cells, cmT_share, cmT_shareCell, Says, exists_eq_left', Option.some.injEq, sub_self, and_assoc, true_and, and_true]
        rfl
     ·simp at h
    ·have hkd : decide ((k : Int) = 0) = false := decide_eq_false (by omega)
     first | refine zg1 ?_ | refine zg0 ?_ | refine zg2 ?_ | refine zg3 ?_
     simp -dsimp only [simprocAttr, ↓vpre, vpos, ne_eq, implies_true, vtab, vmat, cmT_flat, cmT_cells, cmT_share, cmT_shareCell, hkd]
     refine at_intro ?_
     simp -dsimp only [vend, ne_eq, Nat.reduceEqDiff, reduceCtorEq]
     first | refine zk1 rfl (fun h => ?_) (fun h => ?_) | refine zk0 rfl (fun h => ?_) (fun h => ?_) | refine zk2 rfl (fun h => ?_) (fun h => ?_)
     ·cases h
     ·refine awp_skip ?_
      simp -dsimp only [vend, ne_eq, Nat.reduceEqDiff, reduceCtorEq]
      first | refine zg1 ?_ | refine zg0 ?_ | refine zg2 ?_ | refine zg3 ?_
      simp -dsimp only [simprocAttr, ↓vpre, vpos, ne_eq, implies_true, vtab, vmat, cmT_flat, cmT_cells, cmT_share, cmT_shareCell]
      repeat (refine ⟨by omega, ?_⟩)
      refine at_intro ?_
      simp -dsimp only [vend, ne_eq, Nat.reduceEqDiff, reduceCtorEq]
      refine ⟨⟨k + 1, hlt⟩, by simp; omega, ?_⟩
      refine ⟨rfl, ?_, ?_⟩
      rotate_left
      simp -dsimp only [simprocAttr, ↓vpre, vpos, ne_eq, implies_true, vtab, vmat, cmT_flat, cmT_cells, cmT_share, cmT_shareCell, Says, exists_eq_left', Option.some.injEq, sub_self, and_assoc, true_and, and_true]
      ·refine ⟨Sub.lst ?_, ?_, Sub.int (by simp)⟩
       ·rw [hnext]
        simp [MRow.enc]
       ·rw [if_neg hk0]
        exact Sub.refl _
      ·simp [hk0]
   ·refine awp_exit ?_
    simp -dsimp only [vend, ne_eq, Nat.reduceEqDiff, reduceCtorEq]
    have hkk : k = rows.length := by simp at h; omega
    subst hkk
    have hpp : (if rows.length = 0 then 0 else tys.length) = tys.length := by
     split
     ·rename_i e
      exact (hpn (List.length_eq_zero_iff.1 e)).symm
     ·rfl
    simp only [List.take_length, hpp]
    have hb' := ECall.of_share (args := [.mp 0 0, .lst 2 ((mrows 0 rows).map MRow.enc) (.tok 2), .lst 1 ((pathsOf tys.length).map eI) (.tok 3)]) (ECall.frame hbuild rfl (by simp [uptoL, AVal.upto, MRow.map_upto, eI_upto]) hobj [.spare rows.length, .spare tys.length])
    first | refine zg1 ?_ | refine zg0 ?_ | refine zg2 ?_ | refine zg3 ?_
    simp -dsimp only [simprocAttr, ↓vpre, vpos, ne_eq, implies_true, vtab, vmat, cmT_flat, cmT_cells, cmT_share, cmT_shareCell]
    refine .inr (.inl ⟨_, _, hb', .inl (later_intro ?_)⟩)
    simp -dsimp only [simprocAttr, ↓vpre, vpos, ne_eq, implies_true, vtab, vmat, cmT_flat, cmT_cells, cmT_share, cmT_shareCell]
    refine at_intro ?_
    simp -dsimp only [vend, ne_eq, Nat.reduceEqDiff, reduceCtorEq]
    cases hf : Z.2.full with
    | true =>
     simp only [if_true]
     first | refine zg1 ?_ | refine zg0 ?_ | refine zg2 ?_ | refine zg3 ?_
     simp -dsimp only [simprocAttr, ↓vpre, vpos, ne_eq, implies_true, vtab, vmat, cmT_flat, cmT_cells, cmT_share, cmT_shareCell, hf]
     refine at_intro ?_
     simp -dsimp only [vend, ne_eq, Nat.reduceEqDiff, reduceCtorEq]
     first | refine zk1 rfl (fun h => ?_) (fun h => ?_) | refine zk0 rfl (fun h => ?_) (fun h => ?_) | refine zk2 rfl (fun h => ?_) (fun h => ?_)
     ·first | refine zg1 ?_ | refine zg0 ?_ | refine zg2 ?_ | refine zg3 ?_
      simp -dsimp only [simprocAttr, ↓vpre, vpos, ne_eq, implies_true, vtab, vmat, cmT_flat, cmT_cells, cmT_share, cmT_shareCell]
      refine at_intro ?_
      simp -dsimp only [vend, ne_eq, Nat.reduceEqDiff, reduceCtorEq]
      refine awp_ret ?_
      simp -dsimp only [simprocAttr, ↓vpre, vpos, ne_eq, implies_true, vtab, vmat, cmT_flat, cmT_cells, cmT_share, cmT_shareCell, RetTo, Try.results18, retVals, retVal, mkRet, AVal.upto, Nat.zero_le, Nat.le_refl, seqPost_ret, blockPost_ret, loopPost_ret]
      exact ⟨by simp [uptoL, AVal.upto], rfl⟩
     ·cases h
    | false =>
     obtain ⟨hv, hrp⟩ := hrep hf
     have hlt := hrp.lt
     simp only [Bool.false_eq_true, if_false]
     first | refine zg1 ?_ | refine zg0 ?_ | refine zg2 ?_ | refine zg3 ?_
     simp -dsimp only [simprocAttr, ↓vpre, vpos, ne_eq, implies_true, vtab, vmat, cmT_flat, cmT_cells, cmT_share, cmT_shareCell, hf]
     refine at_intro ?_
     simp -dsimp only [vend, ne_eq, Nat.reduceEqDiff, reduceCtorEq]
     first | refine zk1 rfl (fun h => ?_) (fun h => ?_) | refine zk0 rfl (fun h => ?_) (fun h => ?_) | refine zk2 rfl (fun h => ?_) (fun h => ?_)
     ·cases h
     ·have hz : (Z.1 + 1).toNat = Z.1.toNat + 1 := by omega
      have hNl : (Z.2.outs.take (Z.1.toNat + 1)).length = Z.1.toNat + 1 := by
       rw [List.length_take]
       omega
      have hpl : ∀ u ∈ Z.2.outs.take (Z.1.toNat + 1), u.path.length ≤ 2 ^ 30 := fun u hu => by
       obtain ⟨i, hi⟩ := List.mem_iff_getElem?.1 (List.mem_of_mem_take hu)
       have := (hv i u hi).2
       omega
      generalize hN : Z.2.outs.take (Z.1.toNat + 1) = N at hNl hpl
      have hNe : N ≠ [] := fun e => by
       rw [e] at hNl
       simp at hNl
      have hclone := cloneM_spec N hNe (by omega) [.cells [cmT t, .lst 6 (Z.2.outs.map MTree.enc) (.tok 1), .v (.int .i64 Z.2.many), .v (.bool false)], .spare Z.2.outs.length, .spare rows.length, .spare tys.length] (by simp [AObj.upto, uptoL, AVal.upto, MTree.map_upto, hcmu])
      refine awp_skip ?_
      simp -dsimp only [vend, ne_eq, Nat.reduceEqDiff, reduceCtorEq]
      first | refine zg1 ?_ | refine zg0 ?_ | refine zg2 ?_ | refine zg3 ?_
      simp -dsimp only [simprocAttr, ↓vpre, vpos, ne_eq, implies_true, vtab, vmat, cmT_flat, cmT_cells, cmT_share, cmT_shareCell, hz, ← List.map_take, hN]
      repeat (refine ⟨by omega, ?_⟩)
      refine .inr (.inl ⟨_, _, hclone, .inl (later_intro ?_)⟩)
      simp -dsimp only [simprocAttr, ↓vpre, vpos, ne_eq, implies_true, vtab, vmat, cmT_flat, cmT_cells, cmT_share, cmT_shareCell]
      refine at_intro ?_
      simp -dsimp only [vend, ne_eq, Nat.reduceEqDiff, reduceCtorEq]
      first | refine zg1 ?_ | refine zg0 ?_ | refine zg2 ?_ | refine zg3 ?_
      simp -dsimp only [simprocAttr, ↓vpre, vpos, ne_eq, implies_true, vtab, vmat, cmT_flat, cmT_cells, cmT_share, cmT_shareCell]
      refine at_intro ?_
      simp -dsimp only [vend, ne_eq, Nat.reduceEqDiff, reduceCtorEq]
      first | refine awp_block (awp_loop (ι := {k : Nat // k ≤ N.length}) (fun k => ⟨92, [(16, .ms 4 0 N.length N.length), (75, .ms 4 0 N.length N.length), (76, aI N.length), (77, aI k.1)], [.cells [cmT t, .lst 6 (Z.2.outs.map MTree.enc) (.tok 1), .v (.int .i64 Z.2.many), .v (.bool false)], .spare Z.2.outs.length, .spare rows.length, .spare tys.length, .cells (cellsAll (N.map MTree.enc))]⟩) (fun k => N.length - k.1) ⟨0, by omega⟩ ?_ ?_) | refine awp_seq (awp_block (awp_loop (ι := {k : Nat // k ≤ N.length}) (fun k => ⟨92, [(16, .ms 4 0 N.length N.length), (75, .ms 4 0 N.length N.length), (76, aI N.length), (77, aI k.1)], [.cells [cmT t, .lst 6 (Z.2.outs.map MTree.enc) (.tok 1), .v (.int .i64 Z.2.many), .v (.bool false)], .spare Z.2.outs.length, .spare rows.length, .spare tys.length, .cells (cellsAll (N.map MTree.enc))]⟩) (fun k => N.length - k.1) ⟨0, by omega⟩ ?_ ?_))
      ·refine ⟨rfl, ?_, ?_⟩
       rotate_left
       simp -dsimp only [simprocAttr, ↓vpre, vpos, ne_eq, implies_true, vtab, vmat, cmT_flat, cmT_cells, cmT_share, cmT_shareCell, Says, exists_eq_left', Option.some.injEq, sub_self, and_assoc, true_and, and_true]
       rfl
      ·rintro ⟨k, hk⟩
       first | refine zg1 ?_ | refine zg0 ?_ | refine zg2 ?_ | refine zg3 ?_
       simp -dsimp only [simprocAttr, ↓vpre, vpos, ne_eq, implies_true, vtab, vmat, cmT_flat, cmT_cells, cmT_share, cmT_shareCell]
       refine at_intro ?_
       simp -dsimp only [vend, ne_eq, Nat.reduceEqDiff, reduceCtorEq]
       first | refine zk1 rfl (fun h => ?_) (fun h => ?_) | refine zk0 rfl (fun h => ?_) (fun h => ?_) | refine zk2 rfl (fun h => ?_) (fun h => ?_)
       ·refine awp_skip ?_
        simp -dsimp only [vend, ne_eq, Nat.reduceEqDiff, reduceCtorEq]
        have hltk : k < N.length := by simpa using h
        obtain ⟨u, hu⟩ : ∃ u, N[k]? = some u := ⟨N[k], by simp [hltk]⟩
        have hcell := tcell hu
        first | refine awp_seq (awp_block ?_) | refine awp_block ?_
        first | refine zg1 ?_ | refine zg0 ?_ | refine zg2 ?_ | refine zg3 ?_
        simp -dsimp only [simprocAttr, ↓vpre, vpos, ne_eq, implies_true, vtab, vmat, cmT_flat, cmT_cells, cmT_share, cmT_shareCell]
        refine at_intro ?_
        simp -dsimp only [vend, ne_eq, Nat.reduceEqDiff, reduceCtorEq]
        have hlen6 : k * 6 + 2 + 1 ≤ (cellsAll (N.map MTree.enc)).length := by
         have := (List.getElem?_eq_some_iff.1 hcell).1
         omega
        first | refine zg1 ?_ | refine zg0 ?_ | refine zg2 ?_ | refine zg3 ?_
        simp -dsimp only [simprocAttr, ↓vpre, vpos, ne_eq, implies_true, vtab, vmat, cmT_flat, cmT_cells, cmT_share, cmT_shareCell, hcell]
        refine ⟨by omega, ?_⟩
        refine .inl ⟨_, cloneI_pure u.path (hpl u (List.mem_of_getElem? hu)), by first | (simp only [uptoL, AVal.upto, and_true, true_and, and_self, Pat.enc_upto, Pat.map_upto, MRow.enc_upto, MRow.map_upto, aI_upto, eI_upto, nS_upto, MTree.enc_upto, MTree.map_upto, rows_upto, Con.map_upto, Data.map_upto]; done) | (simp [uptoL, AVal.upto, Pat.enc_upto, Pat.map_upto, MRow.enc_upto, MRow.map_upto, aI_upto, eI_upto, nS_upto, MTree.enc_upto, MTree.map_upto, rows_upto, Con.map_upto, Data.map_upto]; done), later_intro ?_⟩
        simp -dsimp only [simprocAttr, ↓vpre, vpos, ne_eq, implies_true, vtab, vmat, cmT_flat, cmT_cells, cmT_share, cmT_shareCell, splice_same hcell]
        refine ⟨by omega, hlen6, ?_⟩
        refine at_intro ?_
        simp -dsimp only [vend, ne_eq, Nat.reduceEqDiff, reduceCtorEq]
        first | refine zg1 ?_ | refine zg0 ?_ | refine zg2 ?_ | refine zg3 ?_
        simp -dsimp only [simprocAttr, ↓vpre, vpos, ne_eq, implies_true, vtab, vmat, cmT_flat, cmT_cells, cmT_share, cmT_shareCell]
        repeat (refine ⟨by omega, ?_⟩)
        refine at_intro ?_
        simp -dsimp only [vend, ne_eq, Nat.reduceEqDiff, reduceCtorEq]
        refine ⟨⟨k + 1, hltk⟩, by simp; omega, ?_⟩
        refine ⟨rfl, ?_, ?_⟩
        rotate_left
        simp -dsimp only [simprocAttr, ↓vpre, vpos, ne_eq, implies_true, vtab, vmat, cmT_flat, cmT_cells, cmT_share, cmT_shareCell, Says, exists_eq_left', Option.some.injEq, sub_self, and_assoc, true_and, and_true]
        ·exact Sub.int (by simp)
        ·rfl
       ·refine awp_exit ?_
        simp -dsimp only [vend, ne_eq, Nat.reduceEqDiff, reduceCtorEq]
        have hkk : k = N.length := by simp at h; omega
        subst hkk
        refine awp_freeze1 16 4 (.lst 6 (N.map MTree.enc) .sh) rfl (by simp [AObj.isSpare]) trivial rfl ?_ ?_
        rotate_left
        simp -dsimp only [simprocAttr, ↓vpre, vpos, ne_eq, implies_true, vtab, vmat, cmT_flat, cmT_cells, cmT_share, cmT_shareCell]
        ·first | refine zg1 ?_ | refine zg0 ?_ | refine zg2 ?_ | refine zg3 ?_
         simp -dsimp only [simprocAttr, ↓vpre, vpos, ne_eq, implies_true, vtab, vmat, cmT_flat, cmT_cells, cmT_share, cmT_shareCell]
         refine at_intro ?_
         simp -dsimp only [vend, ne_eq, Nat.reduceEqDiff, reduceCtorEq]
         refine awp_ret ?_
         simp -dsimp only [simprocAttr, ↓vpre, vpos, ne_eq, implies_true, vtab, vmat, cmT_flat, cmT_cells, cmT_share, cmT_shareCell, RetTo, Try.results18, retVals, retVal, mkRet, AVal.upto, Nat.zero_le, Nat.le_refl, seqPost_ret, blockPost_ret, loopPost_ret]
         simp [uptoL, AVal.upto, MTree.map_upto]
        ·refine FSub.ms rfl ?_ (by simp) ?_
         ·intro x hx
          obtain ⟨y, _, rfl⟩ := List.mem_map.1 hx
          rfl
         ·have hsix : ∀ x ∈ N.map MTree.enc, x.cells.length = 6 := fun x hx => by
           obtain ⟨y, _, rfl⟩ := List.mem_map.1 hx
           rfl
          rw [List.drop_zero, List.take_of_length_le (by rw [cellsAll_length hsix, List.length_map]; exact Nat.le_refl _), ← cellsAll_share, MTree.map_share]

theorem compile_bad {datas : List Data} {rows : List (List Pat)} (h0 : check datas rows ≠ 0) : PCall Try.prog 18 [eD datas, eRR rows] (.tup [eT (compileE datas rows).1, aI (compileE datas rows).2]) := by
 have hcheck := Check_spec datas rows
 have hE : compileE datas rows = ([], check datas rows) := by
  unfold compileE
  rw [if_pos h0]
 have hd : (!decide (check datas rows = 0)) = true := by simpa using h0
 rw [hE]
 generalize check datas rows = e at hcheck hd
 refine ecall_of hT true 0 Try.func18 rfl (by kernel_rfl) (by simp [Try.ntmps18]) (by simp) ?_
 show AWP Try.prog _ _ _ ⟨92, _, _⟩
 dsimp only [Tmp, TypeId, slotsOf]
 first | refine zg1 ?_ | refine zg0 ?_ | refine zg2 ?_ | refine zg3 ?_
 simp -dsimp only [simprocAttr, ↓vpre, vpos, ne_eq, implies_true, vtab, vmat, cmT_flat, cmT_cells, cmT_share, cmT_shareCell]
 refine at_intro ?_
 simp -dsimp only [vend, ne_eq, Nat.reduceEqDiff, reduceCtorEq]
 first | refine zg1 ?_ | refine zg0 ?_ | refine zg2 ?_ | refine zg3 ?_
 simp -dsimp only [simprocAttr, ↓vpre, vpos, ne_eq, implies_true, vtab, vmat, cmT_flat, cmT_cells, cmT_share, cmT_shareCell]
 refine .inl ⟨_, hcheck, by first | (simp only [uptoL, AVal.upto, and_true, true_and, and_self, Pat.enc_upto, Pat.map_upto, MRow.enc_upto, MRow.map_upto, aI_upto, eI_upto, nS_upto, MTree.enc_upto, MTree.map_upto, rows_upto, Con.map_upto, Data.map_upto]; done) | (simp [uptoL, AVal.upto, Pat.enc_upto, Pat.map_upto, MRow.enc_upto, MRow.map_upto, aI_upto, eI_upto, nS_upto, MTree.enc_upto, MTree.map_upto, rows_upto, Con.map_upto, Data.map_upto]; done), later_intro ?_⟩
 simp -dsimp only [simprocAttr, ↓vpre, vpos, ne_eq, implies_true, vtab, vmat, cmT_flat, cmT_cells, cmT_share, cmT_shareCell]
 refine at_intro ?_
 simp -dsimp only [vend, ne_eq, Nat.reduceEqDiff, reduceCtorEq]
 first | refine zg1 ?_ | refine zg0 ?_ | refine zg2 ?_ | refine zg3 ?_
 simp -dsimp only [simprocAttr, ↓vpre, vpos, ne_eq, implies_true, vtab, vmat, cmT_flat, cmT_cells, cmT_share, cmT_shareCell, hd]
 refine at_intro ?_
 simp -dsimp only [vend, ne_eq, Nat.reduceEqDiff, reduceCtorEq]
 first | refine zk1 rfl (fun h => ?_) (fun h => ?_) | refine zk0 rfl (fun h => ?_) (fun h => ?_) | refine zk2 rfl (fun h => ?_) (fun h => ?_)
 ·first | refine zg1 ?_ | refine zg0 ?_ | refine zg2 ?_ | refine zg3 ?_
  simp -dsimp only [simprocAttr, ↓vpre, vpos, ne_eq, implies_true, vtab, vmat, cmT_flat, cmT_cells, cmT_share, cmT_shareCell]
  refine at_intro ?_
  simp -dsimp only [vend, ne_eq, Nat.reduceEqDiff, reduceCtorEq]
  refine awp_ret ?_
  simp -dsimp only [simprocAttr, ↓vpre, vpos, ne_eq, implies_true, vtab, vmat, cmT_flat, cmT_cells, cmT_share, cmT_shareCell, RetTo, Try.results18, retVals, retVal, mkRet, AVal.upto, Nat.zero_le, Nat.le_refl, seqPost_ret, blockPost_ret, loopPost_ret]
  exact ⟨by simp [uptoL, AVal.upto], rfl⟩
 ·cases h

theorem compile_spec (datas : List Data) (rows : List (List Pat)) : PCall Try.prog 18 [eD datas, eRR rows] (.tup [eT (compileE datas rows).1, aI (compileE datas rows).2]) := by
 by_cases h0 : check datas rows = 0
 ·exact compile_ok h0
 ·exact compile_bad h0

end Go.Proofs.Ytakdmelemfnmdaa
end

section
set_option linter.unusedSimpArgs false
set_option linter.unusedVariables false
set_option maxRecDepth 100000
set_option maxHeartbeats 2000000
-- !tab vtab vmat
-- !upto Pat.enc_upto Pat.map_upto MRow.enc_upto MRow.map_upto aI_upto eI_upto nS_upto MTree.enc_upto MTree.map_upto rows_upto Con.map_upto Data.map_upto
namespace Go.Proofs.Ytakdmelemfnmdaa
open Go.Av

theorem nodesR_snoc (a : List (List Pat)) (r : List Pat) : nodesR (a ++ [r]) = nodesR a + nodesL r := by
 rw [nodesR_append]
 simp [nodesR]

theorem depth_small {datas : List Data} {rows : List (List Pat)} (h : (compileE datas rows).2 = 0) : 0 < (compileE datas rows).1.length ∧ (compileE datas rows).1.length ≤ 4096 ∧ depthF (compileE datas rows).1 ≤ nodesR rows ∧ nodesR rows ≤ 400 ∧ rows.length ≤ 64 := by
 obtain ⟨t, hb, hdat, hc, hsm, tys, hh, h16, hall, hst, hne, hl, hv, hr⟩ := compile_zero h
 have hd := rep_depth hv 1000 _ _ tys _ (start_pre hst h16) hr
 have hcnt := mrows_cnt 0 rows
 have hpos : 0 < (compileE datas rows).1.length := List.length_pos_iff.2 hne
 refine ⟨hpos, hl, ?_, hst.nodes, hst.len⟩
 unfold depthF
 rw [show (((compileE datas rows).1.length : Int) - 1).toNat = (compileE datas rows).1.length - 1 by omega] at hd
 omega

theorem matchDepth_law (datas : List Data) (hF : FitD datas) (rows : List (List Pat)) : PCall Try.prog 7 [eD datas, eRR rows] (.v (.bool true)) := by
 have hcomp := compile_spec datas rows
 have herr := compile_err (datas := datas) (rows := rows)
 have hds := depth_small (datas := datas) (rows := rows)
 obtain ⟨⟨N, e⟩, hq⟩ : ∃ q, q = compileE datas rows := ⟨_, rfl⟩
 rw [← hq] at hcomp herr hds
 simp only at hcomp herr hds
 clear hq
 refine ecall_of hT true 0 Try.func7 rfl (by kernel_rfl) (by simp [Try.ntmps7]) (by simp) ?_
 show AWP Try.prog _ _ _ ⟨43, _, _⟩
 dsimp only [Tmp, TypeId, slotsOf]
 first | refine zg1 ?_ | refine zg0 ?_ | refine zg2 ?_ | refine zg3 ?_
 simp -dsimp only [simprocAttr, ↓vpre, vpos, ne_eq, implies_true, vtab, vmat]
 refine at_intro ?_
 simp -dsimp only [vend, ne_eq, Nat.reduceEqDiff, reduceCtorEq]
 first | refine zg1 ?_ | refine zg0 ?_ | refine zg2 ?_ | refine zg3 ?_
 simp -dsimp only [simprocAttr, ↓vpre, vpos, ne_eq, implies_true, vtab, vmat]
 refine .inl ⟨_, patternsWork_spec, by first | (simp only [uptoL, AVal.upto, and_true, true_and, and_self, Pat.enc_upto, Pat.map_upto, MRow.enc_upto, MRow.map_upto, aI_upto, eI_upto, nS_upto, MTree.enc_upto, MTree.map_upto, rows_upto, Con.map_upto, Data.map_upto]; done) | (simp [uptoL, AVal.upto, Pat.enc_upto, Pat.map_upto, MRow.enc_upto, MRow.map_upto, aI_upto, eI_upto, nS_upto, MTree.enc_upto, MTree.map_upto, rows_upto, Con.map_upto, Data.map_upto]; done), later_intro ?_⟩
 simp -dsimp only [simprocAttr, ↓vpre, vpos, ne_eq, implies_true, vtab, vmat]
 refine at_intro ?_
 simp -dsimp only [vend, ne_eq, Nat.reduceEqDiff, reduceCtorEq]
 first | refine zk1 rfl (fun h => ?_) (fun h => ?_) | refine zk0 rfl (fun h => ?_) (fun h => ?_) | refine zk2 rfl (fun h => ?_) (fun h => ?_)
 ·cases h
 ·refine awp_skip ?_
  simp -dsimp only [vend, ne_eq, Nat.reduceEqDiff, reduceCtorEq]
  first | refine zg1 ?_ | refine zg0 ?_ | refine zg2 ?_ | refine zg3 ?_
  simp -dsimp only [simprocAttr, ↓vpre, vpos, ne_eq, implies_true, vtab, vmat]
  refine .inl ⟨_, hcomp, by first | (simp only [uptoL, AVal.upto, and_true, true_and, and_self, Pat.enc_upto, Pat.map_upto, MRow.enc_upto, MRow.map_upto, aI_upto, eI_upto, nS_upto, MTree.enc_upto, MTree.map_upto, rows_upto, Con.map_upto, Data.map_upto]; done) | (simp [uptoL, AVal.upto, Pat.enc_upto, Pat.map_upto, MRow.enc_upto, MRow.map_upto, aI_upto, eI_upto, nS_upto, MTree.enc_upto, MTree.map_upto, rows_upto, Con.map_upto, Data.map_upto]; done), later_intro ?_⟩
  simp -dsimp only [simprocAttr, ↓vpre, vpos, ne_eq, implies_true, vtab, vmat]
  refine at_intro ?_
  simp -dsimp only [vend, ne_eq, Nat.reduceEqDiff, reduceCtorEq]
  by_cases he : e = 0
  ·subst he
   obtain ⟨hpos, hl, hdep, hn, h64⟩ := hds rfl
   first | refine zg1 ?_ | refine zg0 ?_ | refine zg2 ?_ | refine zg3 ?_
   simp -dsimp only [simprocAttr, ↓vpre, vpos, ne_eq, implies_true, vtab, vmat, eq_self]
   refine at_intro ?_
   simp -dsimp only [vend, ne_eq, Nat.reduceEqDiff, reduceCtorEq]
   first | refine zk1 rfl (fun h => ?_) (fun h => ?_) | refine zk0 rfl (fun h => ?_) (fun h => ?_) | refine zk2 rfl (fun h => ?_) (fun h => ?_)
   ·cases h
   ·refine awp_skip ?_
    simp -dsimp only [vend, ne_eq, Nat.reduceEqDiff, reduceCtorEq]
    first | refine zg1 ?_ | refine zg0 ?_ | refine zg2 ?_ | refine zg3 ?_
    simp -dsimp only [simprocAttr, ↓vpre, vpos, ne_eq, implies_true, vtab, vmat]
    refine at_intro ?_
    simp -dsimp only [vend, ne_eq, Nat.reduceEqDiff, reduceCtorEq]
    first | refine zg1 ?_ | refine zg0 ?_ | refine zg2 ?_ | refine zg3 ?_
    simp -dsimp only [simprocAttr, ↓vpre, vpos, ne_eq, implies_true, vtab, vmat]
    refine at_intro ?_
    simp -dsimp only [vend, ne_eq, Nat.reduceEqDiff, reduceCtorEq]
    first | refine awp_block (awp_loop (ι := {k : Nat // k ≤ rows.length}) (fun k => ⟨43, [(5, eT N), (7, aI (nodesR (rows.take k.1))), (23, eRR rows), (24, aI rows.length), (25, aI k.1)], []⟩) (fun k => rows.length - k.1) ⟨0, by omega⟩ ?_ ?_) | refine awp_seq (awp_block (awp_loop (ι := {k : Nat // k ≤ rows.length}) (fun k => ⟨43, [(5, eT N), (7, aI (nodesR (rows.take k.1))), (23, eRR rows), (24, aI rows.length), (25, aI k.1)], []⟩) (fun k => rows.length - k.1) ⟨0, by omega⟩ ?_ ?_))
    ·refine ⟨rfl, ?_, ?_⟩
     rotate_left
     simp -dsimp only [simprocAttr, ↓vpre, vpos, ne_eq, implies_true, vtab, vmat, Says, exists_eq_left', Option.some.injEq, sub_self, and_assoc, true_and, and_true]
     ·exact Sub.int (by simp [nodesR])
     ·rfl
    ·rintro ⟨k, hk⟩
     first | refine zg1 ?_ | refine zg0 ?_ | refine zg2 ?_ | refine zg3 ?_
     simp -dsimp only [simprocAttr, ↓vpre, vpos, ne_eq, implies_true, vtab, vmat]
     refine at_intro ?_
     simp -dsimp only [vend, ne_eq, Nat.reduceEqDiff, reduceCtorEq]
     first | refine zk1 rfl (fun h => ?_) (fun h => ?_) | refine zk0 rfl (fun h => ?_) (fun h => ?_) | refine zk2 rfl (fun h => ?_) (fun h => ?_)
     ·refine awp_skip ?_
      simp -dsimp only [vend, ne_eq, Nat.reduceEqDiff, reduceCtorEq]
      have hlt : k < rows.length := by simpa using h
      obtain ⟨r, hr⟩ : ∃ r, rows[k]? = some r := ⟨rows[k], by simp [hlt]⟩
      have hn1 := nodesR_sub (List.take_sublist k rows)
      have hn2 := nodesR_mem (List.mem_of_getElem? hr)
      have hnext : nodesR (rows.take (k + 1)) = nodesR (rows.take k) + nodesL r := by
       rw [take_next hr, nodesR_snoc]
      first | refine awp_seq (awp_block ?_) | refine awp_block ?_
      first | refine zg1 ?_ | refine zg0 ?_ | refine zg2 ?_ | refine zg3 ?_
      simp -dsimp only [simprocAttr, ↓vpre, vpos, ne_eq, implies_true, vtab, vmat, hr]
      refine at_intro ?_
      simp -dsimp only [vend, ne_eq, Nat.reduceEqDiff, reduceCtorEq]
      first | refine zg1 ?_ | refine zg0 ?_ | refine zg2 ?_ | refine zg3 ?_
      simp -dsimp only [simprocAttr, ↓vpre, vpos, ne_eq, implies_true, vtab, vmat]
      refine .inl ⟨_, nodes_spec r (by omega), by first | (simp only [uptoL, AVal.upto, and_true, true_and, and_self, Pat.enc_upto, Pat.map_upto, MRow.enc_upto, MRow.map_upto, aI_upto, eI_upto, nS_upto, MTree.enc_upto, MTree.map_upto, rows_upto, Con.map_upto, Data.map_upto]; done) | (simp [uptoL, AVal.upto, Pat.enc_upto, Pat.map_upto, MRow.enc_upto, MRow.map_upto, aI_upto, eI_upto, nS_upto, MTree.enc_upto, MTree.map_upto, rows_upto, Con.map_upto, Data.map_upto]; done), later_intro ?_⟩
      simp -dsimp only [simprocAttr, ↓vpre, vpos, ne_eq, implies_true, vtab, vmat]
      repeat (refine ⟨by omega, ?_⟩)
      refine at_intro ?_
      simp -dsimp only [vend, ne_eq, Nat.reduceEqDiff, reduceCtorEq]
      first | refine zg1 ?_ | refine zg0 ?_ | refine zg2 ?_ | refine zg3 ?_
      simp -dsimp only [simprocAttr, ↓vpre, vpos, ne_eq, implies_true, vtab, vmat]
      repeat (refine ⟨by omega, ?_⟩)
      refine at_intro ?_
      simp -dsimp only [vend, ne_eq, Nat.reduceEqDiff, reduceCtorEq]
      refine ⟨⟨k + 1, hlt⟩, by simp; omega, ?_⟩
      refine ⟨rfl, ?_, ?_⟩
      rotate_left
      simp -dsimp only [simprocAttr, ↓vpre, vpos, ne_eq, implies_true, vtab, vmat, Says, exists_eq_left', Option.some.injEq, sub_self, and_assoc, true_and, and_true]
      ·exact ⟨Sub.int (by rw [hnext]; omega), Sub.int (by simp)⟩
      ·rfl
     ·refine awp_exit ?_
      simp -dsimp only [vend, ne_eq, Nat.reduceEqDiff, reduceCtorEq]
      have hkk : k = rows.length := by simp at h; omega
      subst hkk
      have hp1 : decide ((0 : Int) < N.length) = true := decide_eq_true (by omega)
      first | refine zg1 ?_ | refine zg0 ?_ | refine zg2 ?_ | refine zg3 ?_
      simp -dsimp only [simprocAttr, ↓vpre, vpos, ne_eq, implies_true, vtab, vmat, List.take_length, hp1]
      refine .inl ⟨_, depth_spec N (by omega), by first | (simp only [uptoL, AVal.upto, and_true, true_and, and_self, Pat.enc_upto, Pat.map_upto, MRow.enc_upto, MRow.map_upto, aI_upto, eI_upto, nS_upto, MTree.enc_upto, MTree.map_upto, rows_upto, Con.map_upto, Data.map_upto]; done) | (simp [uptoL, AVal.upto, Pat.enc_upto, Pat.map_upto, MRow.enc_upto, MRow.map_upto, aI_upto, eI_upto, nS_upto, MTree.enc_upto, MTree.map_upto, rows_upto, Con.map_upto, Data.map_upto]; done), later_intro ?_⟩
      simp -dsimp only [simprocAttr, ↓vpre, vpos, ne_eq, implies_true, vtab, vmat]
      refine at_intro ?_
      simp -dsimp only [vend, ne_eq, Nat.reduceEqDiff, reduceCtorEq]
      refine awp_ret ?_
      simp -dsimp only [simprocAttr, ↓vpre, vpos, ne_eq, implies_true, vtab, vmat, RetTo, Try.results7, retVals, retVal, mkRet, AVal.upto, Nat.zero_le, Nat.le_refl, seqPost_ret, blockPost_ret, loopPost_ret]
      simp
      exact hdep
  ·have hN := herr he
   subst hN
   have hd : (!decide (e = 0)) = true := by simpa using he
   first | refine zg1 ?_ | refine zg0 ?_ | refine zg2 ?_ | refine zg3 ?_
   simp -dsimp only [simprocAttr, ↓vpre, vpos, ne_eq, implies_true, vtab, vmat, hd]
   refine at_intro ?_
   simp -dsimp only [vend, ne_eq, Nat.reduceEqDiff, reduceCtorEq]
   first | refine zk1 rfl (fun h => ?_) (fun h => ?_) | refine zk0 rfl (fun h => ?_) (fun h => ?_) | refine zk2 rfl (fun h => ?_) (fun h => ?_)
   ·first | refine zg1 ?_ | refine zg0 ?_ | refine zg2 ?_ | refine zg3 ?_
    simp -dsimp only [simprocAttr, ↓vpre, vpos, ne_eq, implies_true, vtab, vmat]
    refine at_intro ?_
    simp -dsimp only [vend, ne_eq, Nat.reduceEqDiff, reduceCtorEq]
    refine awp_ret ?_
    simp -dsimp only [simprocAttr, ↓vpre, vpos, ne_eq, implies_true, vtab, vmat, RetTo, Try.results7, retVals, retVal, mkRet, AVal.upto, Nat.zero_le, Nat.le_refl, seqPost_ret, blockPost_ret, loopPost_ret]
   ·cases h

end Go.Proofs.Ytakdmelemfnmdaa
end
