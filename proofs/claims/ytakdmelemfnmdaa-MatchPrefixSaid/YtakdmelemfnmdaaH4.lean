/-
  Texts bound together by a program of mine: T20, T21, M4, M5, T22, T23, Pf, T28, T29, T30, T31, T32, T33, T34, T35, T36, T37, M8, M9, Ma.
-/
import Derived.Test.YtakdmelemfnmdaaH3
set_option linter.all false

section
set_option linter.unusedSimpArgs false
set_option linter.unusedVariables false
set_option maxHeartbeats 1000000
set_option maxRecDepth 100000
-- !tab vtab
-- !upto Pat.enc_upto Pat.map_upto any_upto rows_upto Con.enc_upto Con.map_upto Data.enc_upto Data.map_upto Tbl.enc_upto entry_upto
namespace Go.Proofs.Ytakdmelemfnmdaa
open Go.Av

/-- The n-th fields of the patterns of a constructor. -/
def below (l : List Pat) (s : ByteArray) (n : Nat) : List Pat := (l.filter fun q => decide (q.name = s)).map fun q => q.args.getD n Pat.any

def bare (l : List Pat) : List Pat := l.filter fun p => !p.free

def Tbl.agreeF (t : Tbl) : Nat → List Pat → Bool
 | 0, _ => false
 | f + 1, l0 => ((bare l0).all fun p => decide (t.kind p = t.kind ((bare l0).headD Pat.any))) &&
   (List.range (bare l0).length).all fun k => match (bare l0)[k]? with
    | none => true
    | some p => ((bare l0).take k).any (fun q => decide (q.name = p.name)) || decide (p.kind ≠ 3) || (List.range p.args.length).all fun n => t.agreeF f (below (bare l0) p.name n)

theorem row_share (l : List Pat) : (cellsAll (l.map Pat.enc)).map AVal.shareCell = cellsAll (l.map Pat.enc) := by
 induction l with
 | nil => rfl
 | cons p l ih =>
  simp only [List.map_cons, cellsAll, List.flatMap_cons, List.map_append] at ih ⊢
  rw [ih, Pat.enc_cells]
  rfl

theorem patternL_zero (t : Tbl) : ∀ {l : List Pat}, t.patternL l = 0 ↔ ∀ a ∈ l, t.pattern a = 0
 | [] => by simp [Tbl.patternL]
 | p :: r => by
  rw [Tbl.patternL]
  have ih := patternL_zero t (l := r)
  by_cases h : t.pattern p = 0
  ·rw [if_pos h, ih]
   simp [h]
  ·rw [if_neg h]
   simp [h]

theorem pat_con {t : Tbl} {p : Pat} (h : t.pattern p = 0) (h3 : p.kind = 3) : ∃ k0, find t.cons p.name = some k0 ∧ p.args.length = k0.many ∧ ∀ a ∈ p.args, t.pattern a = 0 := by
 rw [Tbl.pattern_eq, if_neg (by omega), if_neg (by omega), if_neg (by omega), if_pos h3] at h
 cases hf : find t.cons p.name with
 | none =>
  rw [hf] at h
  simp at h
 | some k0 =>
  rw [hf] at h
  simp only at h
  by_cases hl : p.args.length = k0.many
  ·rw [if_pos hl, patternL_zero] at h
   exact ⟨k0, rfl, hl, h⟩
  ·rw [if_neg hl] at h
   simp at h

theorem kind3 {t : Tbl} {p q : Pat} (h : t.kind q = t.kind p) (h3 : p.kind = 3) : q.kind = 3 := by
 unfold Tbl.kind at h
 rw [if_neg (show ¬ p.kind = 2 by omega), if_pos h3] at h
 split at h
 ·omega
 ·split at h
  ·assumption
  ·omega

theorem nodes_below {l : List Pat} {s : ByteArray} {n : Nat} (h : ∀ q ∈ l, q.name = s → n < q.args.length) : nodesL (below l s n) + (below l s n).length ≤ nodesL l := by
 induction l with
 | nil => simp [below, nodesL]
 | cons q r ih =>
  have ih := ih fun x hx => h x (by simp [hx])
  simp only [below] at ih ⊢
  rw [List.filter_cons]
  by_cases hq : q.name = s
  ·rw [if_pos (by simpa using hq)]
   have hn := h q (by simp) hq
   have hm : q.args.getD n Pat.any ∈ q.args := by
    rw [List.getD_eq_getElem?_getD, List.getElem?_eq_getElem hn]
    exact List.getElem_mem hn
   have h1 := nodesL_mem hm
   have h2 := q.nodes_eq
   simp only [List.map_cons, nodesL, List.length_cons]
   omega
  ·rw [if_neg (by simpa using hq)]
   simp only [nodesL]
   omega

theorem bare_nodes : ∀ l : List Pat, nodesL (bare l) ≤ nodesL l
 | [] => Nat.le_refl _
 | p :: r => by
  have ih := bare_nodes r
  simp only [bare] at ih ⊢
  rw [List.filter_cons]
  split
  ·simp only [nodesL]
   omega
  ·simp only [nodesL]
   omega

theorem below_take {l : List Pat} {j : Nat} {q : Pat} (h : l[j]? = some q) (s : ByteArray) (n : Nat) : below (l.take (j + 1)) s n = if q.name = s then below (l.take j) s n ++ [q.args.getD n Pat.any] else below (l.take j) s n := by
 rw [take_next h, below, List.filter_append, List.map_append]
 by_cases hq : q.name = s
 ·rw [if_pos hq]
  simp [below, hq]
 ·rw [if_neg hq]
  simp [below, hq]

/-- What the second loop asks of a place. -/
def Tbl.agreeAt (t : Tbl) (f : Nat) (l : List Pat) (k : Nat) : Bool := match l[k]? with
 | none => true
 | some p => (l.take k).any (fun q => decide (q.name = p.name)) || decide (p.kind ≠ 3) || (List.range p.args.length).all fun n => t.agreeF f (below l p.name n)

def AgreeOK (t : Tbl) (fu : Nat) : Prop := ∀ l : List Pat, nodesL l < fu → l ≠ [] → l.length ≤ 2 ^ 30 → (∀ p ∈ l, t.pattern p = 0) → PCall Try.prog 41 [t.enc, eR l] (.v (.bool (t.agreeF fu l)))

theorem agree_step (t : Tbl) (fu : Nat) (ih : AgreeOK t fu) (l0 : List Pat) (hfu : nodesL l0 < fu + 1) (hne : l0 ≠ []) (hb : l0.length ≤ 2 ^ 30) (hok : ∀ p ∈ l0, t.pattern p = 0) : PCall Try.prog 41 [t.enc, eR l0] (.v (.bool (t.agreeF (fu + 1) l0))) := by
  obtain ⟨l, hl⟩ : ∃ l, l = bare l0 := ⟨_, rfl⟩
  rw [Tbl.agreeF, ← hl]
  refine ecall_of hT true 0 Try.func41 rfl (by kernel_rfl) (by simp [Try.ntmps41]) (by simp) ?_
  show AWP Try.prog _ _ _ ⟨79, _, _⟩
  dsimp only [Tmp, TypeId, slotsOf]
  first | refine zg1 ?_ | refine zg0 ?_ | refine zg2 ?_ | refine zg3 ?_
  simp -dsimp only [simprocAttr, ↓vpre, zp]
  refine at_intro ?_
  simp -dsimp only [vend, ne_eq, Nat.reduceEqDiff, reduceCtorEq]
  first | refine zg1 ?_ | refine zg0 ?_ | refine zg2 ?_ | refine zg3 ?_
  simp -dsimp only [simprocAttr, ↓vpre, zp]
  refine .inr (.inl ⟨_, _, (clone_spec l0 hne hb [.cells [.lst 3 (t.datas.map Data.enc) .sh, .im .str (t.cons.map entry)]] (by simp [AObj.upto, uptoL, AVal.upto, Data.map_upto, entry_upto])), .inl (later_intro ?_)⟩)
  simp -dsimp only [simprocAttr, ↓vpre, zp]
  refine .inr (.inl ⟨_, _, (deleteFunc_spec Pat.free 48 free_spec [.cells [.lst 3 (t.datas.map Data.enc) .sh, .im .str (t.cons.map entry)], .cells (cellsAll (l0.map Pat.enc))] (by simp [AObj.upto, uptoL, AVal.upto, Data.map_upto, entry_upto, Pat.cells_upto]) 1 l0 hb rfl), .inl (later_intro ?_)⟩)
  simp -dsimp only [simprocAttr, ↓vpre, zp]
  refine at_intro ?_
  simp -dsimp only [vend, ne_eq, Nat.reduceEqDiff, reduceCtorEq]
  refine awp_freeze 1 rfl (by simp [AObj.isSpare]) trivial [(1, eR l), (2, .mp 0 0)] ?_ ?_
  ·intro s y hy
   simp only [Go.Av.look] at hy
   split at hy
   ·cases hy
    rename_i e
    subst e
    refine ⟨_, rfl, FSub.ms (sz := 4) rfl ?_ ?_ ?_⟩
    ·simp [Pat.enc_cells]
    ·rw [hl, List.length_map]
     rfl
    ·rw [List.drop_zero, delCells, List.take_append_of_le_length (by rw [Pat.row_len]; exact Nat.le_refl _), List.take_of_length_le (by rw [Pat.row_len]; exact Nat.le_refl _), row_share, hl]
     rfl
   ·split at hy
    ·cases hy
     rename_i e
     subst e
     exact ⟨_, rfl, .refl _⟩
    ·cases hy
  ·refine awp_trunc' 1 [(1, eR l), (2, .mp 0 0)] (by first | omega | (simp; done) | (simp; omega)) (by first | omega | (simp; done) | (simp; omega)) [.cells [.lst 3 (t.datas.map Data.enc) .sh, .im .str (t.cons.map entry)]] ?_ ?_ ?_ ?_ ?_
   ·rfl
   ·simp [AObj.upto, uptoL, AVal.upto, Data.map_upto, entry_upto]
   ·simp -dsimp only [simprocAttr, ↓vpre, zp, Says, exists_eq_left', Option.some.injEq, sub_self, and_true]
   ·simp [AVal.upto, uptoL, Pat.map_upto]
   ·refine awp_len 1 rfl (fun hlen => ?_)
    simp only [List.length_map] at hlen
    first | refine zg1 ?_ | refine zg0 ?_ | refine zg2 ?_ | refine zg3 ?_
    simp -dsimp only [simprocAttr, ↓vpre, zp]
    refine at_intro ?_
    simp -dsimp only [vend, ne_eq, Nat.reduceEqDiff, reduceCtorEq]
    obtain ⟨B2, hB2⟩ : ∃ B2, B2 = (List.range l.length).all (t.agreeAt fu l) := ⟨_, rfl⟩
    have hB2' : ((List.range l.length).all fun k => match l[k]? with
     | none => true
     | some p => (l.take k).any (fun q => decide (q.name = p.name)) || decide (p.kind ≠ 3) || (List.range p.args.length).all fun n => t.agreeF fu (below l p.name n)) = B2 := by
     rw [hB2]
     rfl
    rw [hB2']
    clear hB2'
    first | refine awp_block (awp_loop (ι := {k : Nat // k ≤ l.length ∧ (l.all fun p => decide (t.kind p = t.kind (l.headD Pat.any))) = ((l.drop k).all fun p => decide (t.kind p = t.kind (l.headD Pat.any)))}) (fun k => ⟨79, [(1, eR l), (2, .mp 0 0), (16, eR l), (17, aI l.length), (18, aI k.1)], [.cells [.lst 3 (t.datas.map Data.enc) .sh, .im .str (t.cons.map entry)]]⟩) (fun k => l.length - k.1) ⟨0, by omega, rfl⟩ ?_ ?_) | refine awp_seq (awp_block (awp_loop (ι := {k : Nat // k ≤ l.length ∧ (l.all fun p => decide (t.kind p = t.kind (l.headD Pat.any))) = ((l.drop k).all fun p => decide (t.kind p = t.kind (l.headD Pat.any)))}) (fun k => ⟨79, [(1, eR l), (2, .mp 0 0), (16, eR l), (17, aI l.length), (18, aI k.1)], [.cells [.lst 3 (t.datas.map Data.enc) .sh, .im .str (t.cons.map entry)]]⟩) (fun k => l.length - k.1) ⟨0, by omega, rfl⟩ ?_ ?_))
    ·refine ⟨rfl, ?_, ?_⟩
     rotate_left
     simp -dsimp only [simprocAttr, ↓vpre, zp, Says, exists_eq_left', Option.some.injEq, sub_self, and_assoc, true_and, and_true]
     rfl
    ·rintro ⟨k, hk, he⟩
     first | refine zg1 ?_ | refine zg0 ?_ | refine zg2 ?_ | refine zg3 ?_
     simp -dsimp only [simprocAttr, ↓vpre, zp]
     refine at_intro ?_
     simp -dsimp only [vend, ne_eq, Nat.reduceEqDiff, reduceCtorEq]
     first | refine zk1 rfl (fun h => ?_) (fun h => ?_) | refine zk0 rfl (fun h => ?_) (fun h => ?_) | refine zk2 rfl (fun h => ?_) (fun h => ?_)
     ·refine awp_skip ?_
      simp -dsimp only [vend, ne_eq, Nat.reduceEqDiff, reduceCtorEq]
      have hlt : k < l.length := by simpa using h
      obtain ⟨p, hp⟩ : ∃ p, l[k]? = some p := ⟨l[k], by simp [hlt]⟩
      obtain ⟨p0, hp0⟩ : ∃ p, l[0]? = some p := ⟨l[0], by simp [show 0 < l.length by omega]⟩
      have hdrop : l.drop k = p :: l.drop (k + 1) := by
       rw [List.drop_eq_getElem_cons hlt]
       rw [List.getElem?_eq_getElem hlt] at hp
       simp only [Option.some.injEq] at hp
       rw [hp]
      have hhead : l.headD Pat.any = p0 := by
       cases hle : l with
       | nil => rw [hle] at hp0; cases hp0
       | cons q r => rw [hle] at hp0; cases hp0; rfl
      rw [hdrop, List.all_cons, hhead] at he
      first | refine awp_seq (awp_block ?_) | refine awp_block ?_
      first | refine zg1 ?_ | refine zg0 ?_ | refine zg2 ?_ | refine zg3 ?_
      simp -dsimp only [simprocAttr, ↓vpre, zp, hp]
      refine at_intro ?_
      simp -dsimp only [vend, ne_eq, Nat.reduceEqDiff, reduceCtorEq]
      first | refine zg1 ?_ | refine zg0 ?_ | refine zg2 ?_ | refine zg3 ?_
      simp -dsimp only [simprocAttr, ↓vpre, zp, hp0]
      refine .inl ⟨_, (kind_spec t p), by first | (simp only [uptoL, AVal.upto, zt, zu, any_upto, rows_upto]; done) | (simp [uptoL, AVal.upto, zu, any_upto, rows_upto]; done), later_intro ?_⟩
      simp -dsimp only [simprocAttr, ↓vpre, zp, hp0]
      refine .inl ⟨_, (kind_spec t p0), by first | (simp only [uptoL, AVal.upto, zt, zu, any_upto, rows_upto]; done) | (simp [uptoL, AVal.upto, zu, any_upto, rows_upto]; done), later_intro ?_⟩
      simp -dsimp only [simprocAttr, ↓vpre, zp]
      refine ⟨by (show orderB _ _ = true); kernel_rfl, at_intro ?_⟩
      simp -dsimp only [vend, ne_eq, Nat.reduceEqDiff, reduceCtorEq]
      first | refine zk1 rfl (fun h => ?_) (fun h => ?_) | refine zk0 rfl (fun h => ?_) (fun h => ?_) | refine zk2 rfl (fun h => ?_) (fun h => ?_)
      ·have hkk : ¬ t.kind p = t.kind p0 := by simpa using h
       simp only [hkk, decide_false, Bool.false_and] at he
       first | refine zg1 ?_ | refine zg0 ?_ | refine zg2 ?_ | refine zg3 ?_
       simp -dsimp only [simprocAttr, ↓vpre, zp]
       refine at_intro ?_
       simp -dsimp only [vend, ne_eq, Nat.reduceEqDiff, reduceCtorEq]
       refine awp_ret ?_
       simp -dsimp only [simprocAttr, ↓vpre, zp, RetTo, Try.results41, retVals, retVal, mkRet, AVal.upto, Nat.zero_le, Nat.le_refl, seqPost_ret, blockPost_ret, loopPost_ret]
       rw [hhead, he]
       simp
      ·have hkk : t.kind p = t.kind p0 := by simpa using h
       simp only [hkk, decide_true, Bool.true_and] at he
       refine awp_skip ?_
       simp -dsimp only [vend, ne_eq, Nat.reduceEqDiff, reduceCtorEq]
       refine awp_trunc' 1 [(1, eR l), (2, .mp 0 0), (16, eR l), (17, aI l.length), (18, aI k)] (by first | omega | (simp; done) | (simp; omega)) (by first | omega | (simp; done) | (simp; omega)) [.cells [.lst 3 (t.datas.map Data.enc) .sh, .im .str (t.cons.map entry)]] ?_ ?_ ?_ ?_ ?_
       ·rfl
       ·simp [AObj.upto, uptoL, AVal.upto, Data.map_upto, entry_upto]
       ·simp -dsimp only [simprocAttr, ↓vpre, zp, Says, exists_eq_left', Option.some.injEq, sub_self, and_true]
       ·simp [AVal.upto, uptoL, Pat.map_upto]
       ·first | refine zg1 ?_ | refine zg0 ?_ | refine zg2 ?_ | refine zg3 ?_
        simp -dsimp only [simprocAttr, ↓vpre, zp]
        repeat (refine ⟨by omega, ?_⟩)
        refine at_intro ?_
        simp -dsimp only [vend, ne_eq, Nat.reduceEqDiff, reduceCtorEq]
        refine ⟨⟨k + 1, hlt, ?_⟩, by simp; omega, ?_⟩
        ·rw [hhead]
         exact he
        refine ⟨rfl, ?_, ?_⟩
        rotate_left
        simp -dsimp only [simprocAttr, ↓vpre, zp, Says, exists_eq_left', Option.some.injEq, sub_self, and_assoc, true_and, and_true]
        ·exact Sub.int (by simp)
        ·rfl
     ·refine awp_exit ?_
      simp -dsimp only [vend, ne_eq, Nat.reduceEqDiff, reduceCtorEq]
      have hkk : k = l.length := by simp at h; omega
      subst hkk
      rw [List.drop_length, List.all_nil] at he
      rw [he, Bool.true_and]
      first | refine zg1 ?_ | refine zg0 ?_ | refine zg2 ?_ | refine zg3 ?_
      simp -dsimp only [simprocAttr, ↓vpre, zp]
      refine at_intro ?_
      simp -dsimp only [vend, ne_eq, Nat.reduceEqDiff, reduceCtorEq]
      have hnod : nodesL l ≤ nodesL l0 := by
       rw [hl]
       exact bare_nodes l0
      have hmem0 : ∀ q ∈ l, q ∈ l0 := fun q hq => by
       rw [hl] at hq
       exact (List.mem_filter.1 hq).1
      have hkinds : ∀ p ∈ l, t.kind p = t.kind (l.headD Pat.any) := fun p hp => by
       have := List.all_eq_true.1 he p hp
       simpa using this
      have hll := nodesL_len l
      first | refine awp_block (awp_loop (ι := {k : Nat // k ≤ l.length ∧ ∀ j, j < k → t.agreeAt fu l j = true}) (fun k => ⟨79, [(1, eR l), (2, .mp 0 0), (32, eR l), (33, aI l.length), (34, aI k.1)], [.cells [.lst 3 (t.datas.map Data.enc) .sh, .im .str (t.cons.map entry)]]⟩) (fun k => l.length - k.1) ⟨0, by omega, fun j hj => by omega⟩ ?_ ?_) | refine awp_seq (awp_block (awp_loop (ι := {k : Nat // k ≤ l.length ∧ ∀ j, j < k → t.agreeAt fu l j = true}) (fun k => ⟨79, [(1, eR l), (2, .mp 0 0), (32, eR l), (33, aI l.length), (34, aI k.1)], [.cells [.lst 3 (t.datas.map Data.enc) .sh, .im .str (t.cons.map entry)]]⟩) (fun k => l.length - k.1) ⟨0, by omega, fun j hj => by omega⟩ ?_ ?_))
      ·refine ⟨rfl, ?_, ?_⟩
       rotate_left
       simp -dsimp only [simprocAttr, ↓vpre, zp, Says, exists_eq_left', Option.some.injEq, sub_self, and_assoc, true_and, and_true]
       rfl
      ·rintro ⟨k, hk, hall⟩
       first | refine zg1 ?_ | refine zg0 ?_ | refine zg2 ?_ | refine zg3 ?_
       simp -dsimp only [simprocAttr, ↓vpre, zp]
       refine at_intro ?_
       simp -dsimp only [vend, ne_eq, Nat.reduceEqDiff, reduceCtorEq]
       first | refine zk1 rfl (fun h => ?_) (fun h => ?_) | refine zk0 rfl (fun h => ?_) (fun h => ?_) | refine zk2 rfl (fun h => ?_) (fun h => ?_)
       ·refine awp_skip ?_
        simp -dsimp only [vend, ne_eq, Nat.reduceEqDiff, reduceCtorEq]
        have hlt : k < l.length := by simpa using h
        obtain ⟨p, hp⟩ : ∃ p, l[k]? = some p := ⟨l[k], by simp [hlt]⟩
        have hpl := List.mem_of_getElem? hp
        first | refine awp_seq (awp_block ?_) | refine awp_block ?_
        first | refine zg1 ?_ | refine zg0 ?_ | refine zg2 ?_ | refine zg3 ?_
        simp -dsimp only [simprocAttr, ↓vpre, zp, hp]
        refine at_intro ?_
        simp -dsimp only [vend, ne_eq, Nat.reduceEqDiff, reduceCtorEq]
        first | refine zg1 ?_ | refine zg0 ?_ | refine zg2 ?_ | refine zg3 ?_
        simp -dsimp only [simprocAttr, ↓vpre, zp]
        simp -dsimp only [← List.map_take]
        repeat (refine ⟨by omega, ?_⟩)
        refine .inr (.inr ⟨_, (containsFunc_spec (fun q => decide (q.name = p.name)) 76 [] [.mp 1 0] [.cells [.lst 3 (t.datas.map Data.enc) .sh, .im .str (t.cons.map entry)], .cells [.v (.int .i64 p.kind), .v (.string p.name), .v (.int .i64 p.n), .lst 4 (p.args.map Pat.enc) .sh]] (by simp [AObj.upto, uptoL, AVal.upto, Data.map_upto, entry_upto, Pat.map_upto]) (l.take k) (fun q _ => agree1_spec _ (by simp [AObj.upto, uptoL, AVal.upto, Data.map_upto, entry_upto, Pat.map_upto]) 1 p rfl q)), later_intro ?_⟩)
        simp -dsimp only [simprocAttr, ↓vpre, zp]
        refine at_intro ?_
        simp -dsimp only [vend, ne_eq, Nat.reduceEqDiff, reduceCtorEq]
        first | refine zk1 rfl (fun h => ?_) (fun h => ?_) | refine zk0 rfl (fun h => ?_) (fun h => ?_) | refine zk2 rfl (fun h => ?_) (fun h => ?_)
        ·have hany : (l.take k).any (fun q => decide (q.name = p.name)) = true := h
         refine awp_exit ?_
         simp -dsimp only [vend, ne_eq, Nat.reduceEqDiff, reduceCtorEq]
         have hat : t.agreeAt fu l k = true := by
          rw [Tbl.agreeAt, hp]
          simp [hany]
         refine awp_trunc' 1 [(1, eR l), (2, .mp 0 0), (32, eR l), (33, aI l.length), (34, aI k)] (by first | omega | (simp; done) | (simp; omega)) (by first | omega | (simp; done) | (simp; omega)) [.cells [.lst 3 (t.datas.map Data.enc) .sh, .im .str (t.cons.map entry)]] ?_ ?_ ?_ ?_ ?_
         ·rfl
         ·simp [AObj.upto, uptoL, AVal.upto, Data.map_upto, entry_upto]
         ·simp -dsimp only [simprocAttr, ↓vpre, zp, Says, exists_eq_left', Option.some.injEq, sub_self, and_true]
         ·simp [AVal.upto, uptoL, Pat.map_upto]
         ·first | refine zg1 ?_ | refine zg0 ?_ | refine zg2 ?_ | refine zg3 ?_
          simp -dsimp only [simprocAttr, ↓vpre, zp]
          repeat (refine ⟨by omega, ?_⟩)
          refine at_intro ?_
          simp -dsimp only [vend, ne_eq, Nat.reduceEqDiff, reduceCtorEq]
          refine ⟨⟨k + 1, hlt, ?_⟩, by simp; omega, ?_⟩
          ·intro j hj
           rcases Nat.lt_succ_iff_lt_or_eq.1 hj with hj | hj
           ·exact hall j hj
           ·rw [hj]
            exact hat
          refine ⟨rfl, ?_, ?_⟩
          rotate_left
          simp -dsimp only [simprocAttr, ↓vpre, zp, Says, exists_eq_left', Option.some.injEq, sub_self, and_assoc, true_and, and_true]
          ·exact Sub.int (by simp)
          ·rfl
        ·have hany : (l.take k).any (fun q => decide (q.name = p.name)) = false := h
         refine awp_skip ?_
         simp -dsimp only [vend, ne_eq, Nat.reduceEqDiff, reduceCtorEq]
         first | refine zg1 ?_ | refine zg0 ?_ | refine zg2 ?_ | refine zg3 ?_
         simp -dsimp only [simprocAttr, ↓vpre, zp]
         refine at_intro ?_
         simp -dsimp only [vend, ne_eq, Nat.reduceEqDiff, reduceCtorEq]
         first | refine zk1 rfl (fun h => ?_) (fun h => ?_) | refine zk0 rfl (fun h => ?_) (fun h => ?_) | refine zk2 rfl (fun h => ?_) (fun h => ?_)
         ·have hk3 : ¬ p.kind = 3 := by simpa using h
          refine awp_exit ?_
          simp -dsimp only [vend, ne_eq, Nat.reduceEqDiff, reduceCtorEq]
          have hat : t.agreeAt fu l k = true := by
           rw [Tbl.agreeAt, hp]
           simp [hk3]
          refine awp_trunc' 1 [(1, eR l), (2, .mp 0 0), (32, eR l), (33, aI l.length), (34, aI k)] (by first | omega | (simp; done) | (simp; omega)) (by first | omega | (simp; done) | (simp; omega)) [.cells [.lst 3 (t.datas.map Data.enc) .sh, .im .str (t.cons.map entry)]] ?_ ?_ ?_ ?_ ?_
          ·rfl
          ·simp [AObj.upto, uptoL, AVal.upto, Data.map_upto, entry_upto]
          ·simp -dsimp only [simprocAttr, ↓vpre, zp, Says, exists_eq_left', Option.some.injEq, sub_self, and_true]
          ·simp [AVal.upto, uptoL, Pat.map_upto]
          ·first | refine zg1 ?_ | refine zg0 ?_ | refine zg2 ?_ | refine zg3 ?_
           simp -dsimp only [simprocAttr, ↓vpre, zp]
           repeat (refine ⟨by omega, ?_⟩)
           refine at_intro ?_
           simp -dsimp only [vend, ne_eq, Nat.reduceEqDiff, reduceCtorEq]
           refine ⟨⟨k + 1, hlt, ?_⟩, by simp; omega, ?_⟩
           ·intro j hj
            rcases Nat.lt_succ_iff_lt_or_eq.1 hj with hj | hj
            ·exact hall j hj
            ·rw [hj]
             exact hat
           refine ⟨rfl, ?_, ?_⟩
           rotate_left
           simp -dsimp only [simprocAttr, ↓vpre, zp, Says, exists_eq_left', Option.some.injEq, sub_self, and_assoc, true_and, and_true]
           ·exact Sub.int (by simp)
           ·rfl
         ·have hk3 : p.kind = 3 := by simpa using h
          refine awp_skip ?_
          simp -dsimp only [vend, ne_eq, Nat.reduceEqDiff, reduceCtorEq]
          obtain ⟨k0, hf0, hm0, hargs0⟩ := pat_con (hok p (hmem0 p hpl)) hk3
          have hsame : ∀ q ∈ l, q.name = p.name → q.args.length = p.args.length ∧ ∀ a ∈ q.args, t.pattern a = 0 := fun q hq hn => by
           obtain ⟨k1, hf1, hm1, hargs1⟩ := pat_con (hok q (hmem0 q hq)) (kind3 ((hkinds q hq).trans (hkinds p hpl).symm) hk3)
           rw [hn, hf0] at hf1
           cases hf1
           exact ⟨by rw [hm1, hm0], hargs1⟩
          first | refine zg1 ?_ | refine zg0 ?_ | refine zg2 ?_ | refine zg3 ?_
          simp -dsimp only [simprocAttr, ↓vpre, zp]
          refine at_intro ?_
          simp -dsimp only [vend, ne_eq, Nat.reduceEqDiff, reduceCtorEq]
          refine awp_len 48 rfl (fun hpn => ?_)
          simp only [List.length_map] at hpn
          first | refine awp_block (awp_loop (ι := {n : Nat // n ≤ p.args.length ∧ ∀ j, j < n → t.agreeF fu (below l p.name j) = true}) (fun n => ⟨79, [(1, eR l), (2, .mp 0 0), (8, .mp 1 0), (32, eR l), (33, aI l.length), (34, aI k), (48, eR p.args), (49, aI p.args.length), (50, aI n.1)], [.cells [.lst 3 (t.datas.map Data.enc) .sh, .im .str (t.cons.map entry)], .cells [.v (.int .i64 p.kind), .v (.string p.name), .v (.int .i64 p.n), .lst 4 (p.args.map Pat.enc) .sh]]⟩) (fun n => p.args.length - n.1) ⟨0, by omega, fun j hj => by omega⟩ ?_ ?_) | refine awp_seq (awp_block (awp_loop (ι := {n : Nat // n ≤ p.args.length ∧ ∀ j, j < n → t.agreeF fu (below l p.name j) = true}) (fun n => ⟨79, [(1, eR l), (2, .mp 0 0), (8, .mp 1 0), (32, eR l), (33, aI l.length), (34, aI k), (48, eR p.args), (49, aI p.args.length), (50, aI n.1)], [.cells [.lst 3 (t.datas.map Data.enc) .sh, .im .str (t.cons.map entry)], .cells [.v (.int .i64 p.kind), .v (.string p.name), .v (.int .i64 p.n), .lst 4 (p.args.map Pat.enc) .sh]]⟩) (fun n => p.args.length - n.1) ⟨0, by omega, fun j hj => by omega⟩ ?_ ?_))
          ·refine ⟨rfl, ?_, ?_⟩
           rotate_left
           simp -dsimp only [simprocAttr, ↓vpre, zp, Says, exists_eq_left', Option.some.injEq, sub_self, and_assoc, true_and, and_true]
           rfl
          ·rintro ⟨n, hn, halln⟩
           first | refine zg1 ?_ | refine zg0 ?_ | refine zg2 ?_ | refine zg3 ?_
           simp -dsimp only [simprocAttr, ↓vpre, zp]
           refine at_intro ?_
           simp -dsimp only [vend, ne_eq, Nat.reduceEqDiff, reduceCtorEq]
           first | refine zk1 rfl (fun h => ?_) (fun h => ?_) | refine zk0 rfl (fun h => ?_) (fun h => ?_) | refine zk2 rfl (fun h => ?_) (fun h => ?_)
           ·refine awp_skip ?_
            simp -dsimp only [vend, ne_eq, Nat.reduceEqDiff, reduceCtorEq]
            have hltn : n < p.args.length := by simpa using h
            have hb6 := nodes_below (l := l) (s := p.name) (n := n) (fun q hq e => by rw [(hsame q hq e).1]; exact hltn)
            have hpb : p.args.getD n Pat.any ∈ below l p.name n := List.mem_map.2 ⟨p, List.mem_filter.2 ⟨hpl, by simp⟩, rfl⟩
            have hbne : below l p.name n ≠ [] := fun e => by rw [e] at hpb; cases hpb
            have hblen : ∀ x : List Pat, (below x p.name n).length ≤ x.length := fun x => by
             rw [below, List.length_map]
             exact List.length_filter_le _ _
            have hbpos : 0 < (below l p.name n).length := List.length_pos_iff.2 hbne
            have hl0 : l.length ≤ l0.length := by
             rw [hl]
             exact List.length_filter_le _ _
            have hcall := ih (below l p.name n) (by omega) hbne (by have := hblen l; omega) (fun a ha => by
             obtain ⟨q, hq, rfl⟩ := List.mem_map.1 ha
             obtain ⟨hq1, hq2⟩ := List.mem_filter.1 hq
             obtain ⟨e1, e2⟩ := hsame q hq1 (by simpa using hq2)
             refine e2 _ ?_
             rw [List.getD_eq_getElem?_getD, List.getElem?_eq_getElem (by omega)]
             exact List.getElem_mem _)
            first | refine awp_seq (awp_block ?_) | refine awp_block ?_
            first | refine zg1 ?_ | refine zg0 ?_ | refine zg2 ?_ | refine zg3 ?_
            simp -dsimp only [simprocAttr, ↓vpre, zp]
            refine at_intro ?_
            simp -dsimp only [vend, ne_eq, Nat.reduceEqDiff, reduceCtorEq]
            first | refine zg1 ?_ | refine zg0 ?_ | refine zg2 ?_ | refine zg3 ?_
            simp -dsimp only [simprocAttr, ↓vpre, zp]
            refine at_intro ?_
            simp -dsimp only [vend, ne_eq, Nat.reduceEqDiff, reduceCtorEq]
            refine awp_own 10 rfl ?_
            simp -dsimp only [simprocAttr, ↓vpre, zp]
            first | refine zg1 ?_ | refine zg0 ?_ | refine zg2 ?_ | refine zg3 ?_
            simp -dsimp only [simprocAttr, ↓vpre, zp]
            refine at_intro ?_
            simp -dsimp only [vend, ne_eq, Nat.reduceEqDiff, reduceCtorEq]
            first | refine awp_block (awp_loop (ι := {j : Nat // j ≤ l.length}) (fun j => ⟨79, [(1, eR l), (2, .mp 0 0), (8, .mp 1 0), (9, aI n), (32, eR l), (33, aI l.length), (34, aI k), (48, eR p.args), (49, aI p.args.length), (50, aI n), (53, eR l), (54, aI l.length), (55, aI j.1), (10, .lst 4 ((below (l.take j.1) p.name n).map Pat.enc) (.tok 2))], [.cells [.lst 3 (t.datas.map Data.enc) .sh, .im .str (t.cons.map entry)], .cells [.v (.int .i64 p.kind), .v (.string p.name), .v (.int .i64 p.n), .lst 4 (p.args.map Pat.enc) .sh], .spare (below (l.take j.1) p.name n).length]⟩) (fun j => l.length - j.1) ⟨0, by omega⟩ ?_ ?_) | refine awp_seq (awp_block (awp_loop (ι := {j : Nat // j ≤ l.length}) (fun j => ⟨79, [(1, eR l), (2, .mp 0 0), (8, .mp 1 0), (9, aI n), (32, eR l), (33, aI l.length), (34, aI k), (48, eR p.args), (49, aI p.args.length), (50, aI n), (53, eR l), (54, aI l.length), (55, aI j.1), (10, .lst 4 ((below (l.take j.1) p.name n).map Pat.enc) (.tok 2))], [.cells [.lst 3 (t.datas.map Data.enc) .sh, .im .str (t.cons.map entry)], .cells [.v (.int .i64 p.kind), .v (.string p.name), .v (.int .i64 p.n), .lst 4 (p.args.map Pat.enc) .sh], .spare (below (l.take j.1) p.name n).length]⟩) (fun j => l.length - j.1) ⟨0, by omega⟩ ?_ ?_))
            ·refine ⟨rfl, ?_, ?_⟩
             rotate_left
             simp -dsimp only [simprocAttr, ↓vpre, zp, Says, exists_eq_left', Option.some.injEq, sub_self, and_assoc, true_and, and_true]
             ·exact Sub.lst (by simp [below])
             ·simp [below]
            ·rintro ⟨j, hj⟩
             first | refine zg1 ?_ | refine zg0 ?_ | refine zg2 ?_ | refine zg3 ?_
             simp -dsimp only [simprocAttr, ↓vpre, zp]
             refine at_intro ?_
             simp -dsimp only [vend, ne_eq, Nat.reduceEqDiff, reduceCtorEq]
             first | refine zk1 rfl (fun h => ?_) (fun h => ?_) | refine zk0 rfl (fun h => ?_) (fun h => ?_) | refine zk2 rfl (fun h => ?_) (fun h => ?_)
             ·refine awp_skip ?_
              simp -dsimp only [vend, ne_eq, Nat.reduceEqDiff, reduceCtorEq]
              have hltj : j < l.length := by simpa using h
              obtain ⟨q, hq⟩ : ∃ q, l[j]? = some q := ⟨l[j], by simp [hltj]⟩
              have hbj := below_take hq p.name n
              have hbl := hblen (l.take j)
              simp only [List.length_take] at hbl
              first | refine awp_seq (awp_block ?_) | refine awp_block ?_
              first | refine zg1 ?_ | refine zg0 ?_ | refine zg2 ?_ | refine zg3 ?_
              simp -dsimp only [simprocAttr, ↓vpre, zp, hq]
              refine at_intro ?_
              simp -dsimp only [vend, ne_eq, Nat.reduceEqDiff, reduceCtorEq]
              first | refine zg1 ?_ | refine zg0 ?_ | refine zg2 ?_ | refine zg3 ?_
              simp -dsimp only [simprocAttr, ↓vpre, zp]
              refine at_intro ?_
              simp -dsimp only [vend, ne_eq, Nat.reduceEqDiff, reduceCtorEq]
              first | refine zk1 rfl (fun h => ?_) (fun h => ?_) | refine zk0 rfl (fun h => ?_) (fun h => ?_) | refine zk2 rfl (fun h => ?_) (fun h => ?_)
              ·have hqn : q.name = p.name := by simpa using h
               obtain ⟨hql, _⟩ := hsame q (List.mem_of_getElem? hq) hqn
               have hqa : q.args[n]? = some (q.args.getD n Pat.any) := by
                rw [List.getD_eq_getElem?_getD, List.getElem?_eq_getElem (by omega)]
                rfl
               first | refine zg1 ?_ | refine zg0 ?_ | refine zg2 ?_ | refine zg3 ?_
               simp -dsimp only [simprocAttr, ↓vpre, zp, hqa]
               repeat (refine ⟨by omega, ?_⟩)
               refine at_intro ?_
               simp -dsimp only [vend, ne_eq, Nat.reduceEqDiff, reduceCtorEq]
               refine awp_trunc' 3 [(1, eR l), (2, .mp 0 0), (8, .mp 1 0), (9, aI n), (32, eR l), (33, aI l.length), (34, aI k), (48, eR p.args), (49, aI p.args.length), (50, aI n), (53, eR l), (54, aI l.length), (55, aI j), (10, .lst 4 ((below (l.take j) p.name n ++ [q.args.getD n Pat.any]).map Pat.enc) (.tok 2))] (by first | omega | (simp; done) | (simp; omega)) (by first | omega | (simp; done) | (simp; omega)) [.cells [.lst 3 (t.datas.map Data.enc) .sh, .im .str (t.cons.map entry)], .cells [.v (.int .i64 p.kind), .v (.string p.name), .v (.int .i64 p.n), .lst 4 (p.args.map Pat.enc) .sh], .spare (below (l.take j) p.name n ++ [q.args.getD n Pat.any]).length] ?_ ?_ ?_ ?_ ?_
               ·simp
               ·simp [AObj.upto, uptoL, AVal.upto, Data.map_upto, entry_upto, Pat.map_upto]
               ·simp -dsimp only [simprocAttr, ↓vpre, zp, Says, exists_eq_left', Option.some.injEq, sub_self, and_true, true_and]
                exact Sub.lst (by simp)
               ·simp only [List.mem_cons, List.not_mem_nil, or_false, forall_eq_or_imp, forall_eq, AVal.upto, Pat.map_upto, and_true, true_and]
                omega
               ·first | refine zg1 ?_ | refine zg0 ?_ | refine zg2 ?_ | refine zg3 ?_
                simp -dsimp only [simprocAttr, ↓vpre, zp]
                repeat (refine ⟨by omega, ?_⟩)
                refine at_intro ?_
                simp -dsimp only [vend, ne_eq, Nat.reduceEqDiff, reduceCtorEq]
                refine ⟨⟨j + 1, hltj⟩, by simp; omega, ?_⟩
                refine ⟨rfl, ?_, ?_⟩
                rotate_left
                simp -dsimp only [simprocAttr, ↓vpre, zp, Says, exists_eq_left', Option.some.injEq, sub_self, and_assoc, true_and, and_true]
                ·exact ⟨Sub.int (by simp), Sub.lst (by simp [hbj, hqn])⟩
                ·simp [hbj, hqn]

              ·have hqn : ¬ q.name = p.name := by simpa using h
               refine awp_skip ?_
               simp -dsimp only [vend, ne_eq, Nat.reduceEqDiff, reduceCtorEq]
               refine awp_trunc' 3 [(1, eR l), (2, .mp 0 0), (8, .mp 1 0), (9, aI n), (32, eR l), (33, aI l.length), (34, aI k), (48, eR p.args), (49, aI p.args.length), (50, aI n), (53, eR l), (54, aI l.length), (55, aI j), (10, .lst 4 ((below (l.take j) p.name n).map Pat.enc) (.tok 2))] (by first | omega | (simp; done) | (simp; omega)) (by first | omega | (simp; done) | (simp; omega)) [.cells [.lst 3 (t.datas.map Data.enc) .sh, .im .str (t.cons.map entry)], .cells [.v (.int .i64 p.kind), .v (.string p.name), .v (.int .i64 p.n), .lst 4 (p.args.map Pat.enc) .sh], .spare (below (l.take j) p.name n).length] ?_ ?_ ?_ ?_ ?_
               ·rfl
               ·simp [AObj.upto, uptoL, AVal.upto, Data.map_upto, entry_upto, Pat.map_upto]
               ·simp -dsimp only [simprocAttr, ↓vpre, zp, Says, exists_eq_left', Option.some.injEq, sub_self, and_true, true_and]
               ·simp only [List.mem_cons, List.not_mem_nil, or_false, forall_eq_or_imp, forall_eq, AVal.upto, Pat.map_upto, and_true, true_and]
                omega
               ·first | refine zg1 ?_ | refine zg0 ?_ | refine zg2 ?_ | refine zg3 ?_
                simp -dsimp only [simprocAttr, ↓vpre, zp]
                repeat (refine ⟨by omega, ?_⟩)
                refine at_intro ?_
                simp -dsimp only [vend, ne_eq, Nat.reduceEqDiff, reduceCtorEq]
                refine ⟨⟨j + 1, hltj⟩, by simp; omega, ?_⟩
                refine ⟨rfl, ?_, ?_⟩
                rotate_left
                simp -dsimp only [simprocAttr, ↓vpre, zp, Says, exists_eq_left', Option.some.injEq, sub_self, and_assoc, true_and, and_true]
                ·exact ⟨Sub.int (by simp), Sub.lst (by simp [hbj, hqn])⟩
                ·simp [hbj, hqn]

             ·refine awp_exit ?_
              simp -dsimp only [vend, ne_eq, Nat.reduceEqDiff, reduceCtorEq]
              have hjl : j = l.length := by simp at h; omega
              subst hjl
              first | refine zg1 ?_ | refine zg0 ?_ | refine zg2 ?_ | refine zg3 ?_
              simp -dsimp only [simprocAttr, ↓vpre, zp, List.take_length]
              refine .inl ⟨_, hcall, by first | (simp only [uptoL, AVal.upto, zt, zu, any_upto, rows_upto]; done) | (simp [uptoL, AVal.upto, zu, any_upto, rows_upto]; done), later_intro ?_⟩
              simp -dsimp only [simprocAttr, ↓vpre, zp]
              refine at_intro ?_
              simp -dsimp only [vend, ne_eq, Nat.reduceEqDiff, reduceCtorEq]
              first | refine zk1 rfl (fun h => ?_) (fun h => ?_) | refine zk0 rfl (fun h => ?_) (fun h => ?_) | refine zk2 rfl (fun h => ?_) (fun h => ?_)
              ·have hag : t.agreeF fu (below l p.name n) = false := by simpa using h
               have hat : t.agreeAt fu l k = false := by
                rw [Tbl.agreeAt, hp]
                simp only [hany, hk3, Bool.false_or, ne_eq, not_true_eq_false, decide_false]
                cases hc : (List.range p.args.length).all fun n => t.agreeF fu (below l p.name n) with
                | false => rfl
                | true =>
                 have := List.all_eq_true.1 hc n (List.mem_range.2 hltn)
                 rw [hag] at this
                 cases this
               have hB : B2 = false := by
                cases hc : B2 with
                | false => rfl
                | true =>
                 rw [hB2] at hc
                 have := List.all_eq_true.1 hc k (List.mem_range.2 hlt)
                 rw [hat] at this
                 cases this
               first | refine zg1 ?_ | refine zg0 ?_ | refine zg2 ?_ | refine zg3 ?_
               simp -dsimp only [simprocAttr, ↓vpre, zp]
               refine at_intro ?_
               simp -dsimp only [vend, ne_eq, Nat.reduceEqDiff, reduceCtorEq]
               refine awp_ret ?_
               simp -dsimp only [simprocAttr, ↓vpre, zp, RetTo, Try.results41, retVals, retVal, mkRet, AVal.upto, Nat.zero_le, Nat.le_refl, seqPost_ret, blockPost_ret, loopPost_ret]
               rw [hB]
              ·have hag : t.agreeF fu (below l p.name n) = true := by simpa using h
               refine awp_skip ?_
               simp -dsimp only [vend, ne_eq, Nat.reduceEqDiff, reduceCtorEq]
               refine awp_trunc' 2 [(1, eR l), (2, .mp 0 0), (8, .mp 1 0), (32, eR l), (33, aI l.length), (34, aI k), (48, eR p.args), (49, aI p.args.length), (50, aI n)] (by first | omega | (simp; done) | (simp; omega)) (by first | omega | (simp; done) | (simp; omega)) [.cells [.lst 3 (t.datas.map Data.enc) .sh, .im .str (t.cons.map entry)], .cells [.v (.int .i64 p.kind), .v (.string p.name), .v (.int .i64 p.n), .lst 4 (p.args.map Pat.enc) .sh]] ?_ ?_ ?_ ?_ ?_
               ·rfl
               ·simp [AObj.upto, uptoL, AVal.upto, Data.map_upto, entry_upto, Pat.map_upto]
               ·simp -dsimp only [simprocAttr, ↓vpre, zp, Says, exists_eq_left', Option.some.injEq, sub_self, and_true, true_and]
               ·simp [AVal.upto, uptoL, Pat.map_upto]
               ·first | refine zg1 ?_ | refine zg0 ?_ | refine zg2 ?_ | refine zg3 ?_
                simp -dsimp only [simprocAttr, ↓vpre, zp]
                repeat (refine ⟨by omega, ?_⟩)
                refine at_intro ?_
                simp -dsimp only [vend, ne_eq, Nat.reduceEqDiff, reduceCtorEq]
                refine ⟨⟨n + 1, hltn, ?_⟩, by simp; omega, ?_⟩
                ·intro j hj
                 rcases Nat.lt_succ_iff_lt_or_eq.1 hj with hj | hj
                 ·exact halln j hj
                 ·rw [hj]
                  exact hag
                refine ⟨rfl, ?_, ?_⟩
                rotate_left
                simp -dsimp only [simprocAttr, ↓vpre, zp, Says, exists_eq_left', Option.some.injEq, sub_self, and_assoc, true_and, and_true]
                ·exact Sub.int (by simp)
                ·rfl
           ·refine awp_exit ?_
            simp -dsimp only [vend, ne_eq, Nat.reduceEqDiff, reduceCtorEq]
            have hkn : n = p.args.length := by simp at h; omega
            subst hkn
            have hat : t.agreeAt fu l k = true := by
             rw [Tbl.agreeAt, hp]
             simp only [Bool.or_eq_true, List.all_eq_true, List.mem_range]; exact .inr fun j hj => halln j hj
            refine awp_trunc' 1 [(1, eR l), (2, .mp 0 0), (32, eR l), (33, aI l.length), (34, aI k)] (by first | omega | (simp; done) | (simp; omega)) (by first | omega | (simp; done) | (simp; omega)) [.cells [.lst 3 (t.datas.map Data.enc) .sh, .im .str (t.cons.map entry)]] ?_ ?_ ?_ ?_ ?_
            ·rfl
            ·simp [AObj.upto, uptoL, AVal.upto, Data.map_upto, entry_upto]
            ·simp -dsimp only [simprocAttr, ↓vpre, zp, Says, exists_eq_left', Option.some.injEq, sub_self, and_true]
            ·simp [AVal.upto, uptoL, Pat.map_upto]
            ·first | refine zg1 ?_ | refine zg0 ?_ | refine zg2 ?_ | refine zg3 ?_
             simp -dsimp only [simprocAttr, ↓vpre, zp]
             repeat (refine ⟨by omega, ?_⟩)
             refine at_intro ?_
             simp -dsimp only [vend, ne_eq, Nat.reduceEqDiff, reduceCtorEq]
             refine ⟨⟨k + 1, hlt, ?_⟩, by simp; omega, ?_⟩
             ·intro j hj
              rcases Nat.lt_succ_iff_lt_or_eq.1 hj with hj | hj
              ·exact hall j hj
              ·rw [hj]
               exact hat
             refine ⟨rfl, ?_, ?_⟩
             rotate_left
             simp -dsimp only [simprocAttr, ↓vpre, zp, Says, exists_eq_left', Option.some.injEq, sub_self, and_assoc, true_and, and_true]
             ·exact Sub.int (by simp)
             ·rfl
       ·refine awp_exit ?_
        simp -dsimp only [vend, ne_eq, Nat.reduceEqDiff, reduceCtorEq]
        have hkk : k = l.length := by simp at h; omega
        subst hkk
        have hB : B2 = true := by
         rw [hB2]
         exact List.all_eq_true.2 fun j hj => hall j (List.mem_range.1 hj)
        first | refine zg1 ?_ | refine zg0 ?_ | refine zg2 ?_ | refine zg3 ?_
        simp -dsimp only [simprocAttr, ↓vpre, zp]
        refine at_intro ?_
        simp -dsimp only [vend, ne_eq, Nat.reduceEqDiff, reduceCtorEq]
        refine awp_ret ?_
        simp -dsimp only [simprocAttr, ↓vpre, zp, RetTo, Try.results41, retVals, retVal, mkRet, AVal.upto, Nat.zero_le, Nat.le_refl, seqPost_ret, blockPost_ret, loopPost_ret]
        rw [hB]

theorem agree_spec (t : Tbl) : ∀ fu : Nat, AgreeOK t fu
 | 0, l, h, _, _, _ => by omega
 | fu + 1, l, h1, h2, h3, h4 => agree_step t fu (agree_spec t fu) l h1 h2 h3 h4

end Go.Proofs.Ytakdmelemfnmdaa
end

section
set_option linter.unusedSimpArgs false
set_option linter.unusedVariables false
set_option maxHeartbeats 1000000
set_option maxRecDepth 100000
-- !tab vtab
-- !upto Pat.enc_upto Pat.map_upto any_upto rows_upto Con.enc_upto Con.map_upto Data.enc_upto Data.map_upto Tbl.enc_upto entry_upto
namespace Go.Proofs.Ytakdmelemfnmdaa
open Go.Av

def column (rows : List (List Pat)) (n : Nat) : List Pat := rows.map fun r => r.getD n Pat.any

def Tbl.agreeCol (t : Tbl) (rows : List (List Pat)) (n : Nat) : Bool := t.agreeF (nodesL (column rows n) + 1) (column rows n)

/-- What check answers, behind the table. -/
def Tbl.checkT (t : Tbl) (rows : List (List Pat)) : Int :=
 if (rows.all fun r => decide (r.length = (rows.headD []).length)) = false then 3
 else if t.patternL rows.flatten ≠ 0 then t.patternL rows.flatten
 else if (List.range (rows.headD []).length).all (t.agreeCol rows) then 0 else 10

def check (datas : List Data) (rows : List (List Pat)) : Int :=
 if small datas rows = false then 2 else match build datas with
  | none => 7
  | some t => t.checkT rows

def checkRes (datas : List Data) (rows : List (List Pat)) : AVal :=
 if check datas rows = 0 then (match build datas with
  | some t => .tup [t.enc, aI 0]
  | none => .tup [zeroTbl, aI 0]) else .tup [zeroTbl, aI (check datas rows)]

theorem checkRes_bad {datas : List Data} {rows : List (List Pat)} {e : Int} (h : check datas rows = e) (he : e ≠ 0) : .tup [.agg [.lst 3 [] .sh, .v (.map none)], aI e] = checkRes datas rows := by
 rw [checkRes, h, if_neg he]
 rfl

theorem sizeGo_nodes {f : List Pat → Nat → Bool × Nat} (hf : ∀ l m m2, f l m = (true, m2) → m2 = m + nodesL l) : ∀ (l : List Pat) (m m2 : Nat), sizeGo f l m = (true, m2) → m2 = m + nodesL l
 | [], m, m2, h => by
  simp only [sizeGo, Prod.mk.injEq] at h
  simp [nodesL, h.2]
 | p :: r, m, m2, h => by
  rw [sizeGo] at h
  split at h
  ·simp at h
  ·cases hq : f p.args (m + 1) with
   | mk b m3 =>
    rw [hq] at h
    cases b with
    | false => simp at h
    | true =>
     have h1 := hf _ _ _ hq
     have h2 := sizeGo_nodes hf r m3 m2 h
     rw [nodesL, Pat.nodes_eq]
     omega

theorem sizeL_nodes : ∀ (d : Nat) (l : List Pat) (m m2 : Nat), sizeL d l m = (true, m2) → m2 = m + nodesL l
 | 0, l, m, m2, h => by
  simp only [sizeL, Prod.mk.injEq, List.isEmpty_iff] at h
  rw [h.1]
  simp [nodesL, h.2]
 | d + 1, l, m, m2, h => sizeGo_nodes (sizeL_nodes d) l m m2 h

def nodesR : List (List Pat) → Nat
 | [] => 0
 | r :: rs => nodesL r + nodesR rs

theorem smallRows_nodes : ∀ (rows : List (List Pat)) (m : Nat), m ≤ 400 → smallRows rows m = true → m + nodesR rows ≤ 400 ∧ ∀ r ∈ rows, r.length ≤ 16
 | [], m, hm, _ => ⟨by simpa [nodesR] using hm, by simp⟩
 | r :: rows, m, hm, h => by
  rw [smallRows] at h
  split at h
  ·cases h
  ·rename_i h16
   cases hq : sizeL 20 r m with
   | mk b m2 =>
    rw [hq] at h
    cases b with
    | false => cases h
    | true =>
     have h1 := sizeL_nodes _ _ _ _ hq
     have h2 := sizeL_le 20 r m hm
     rw [hq] at h2
     obtain ⟨h3, h4⟩ := smallRows_nodes rows m2 (h2 rfl) h
     refine ⟨by rw [nodesR]; omega, fun x hx => ?_⟩
     rcases List.mem_cons.1 hx with rfl | hx
     ·omega
     ·exact h4 x hx

theorem nodesR_mem : ∀ {rows : List (List Pat)} {r : List Pat}, r ∈ rows → nodesL r ≤ nodesR rows
 | q :: rows, r, h => by
  rw [nodesR]
  rcases List.mem_cons.1 h with rfl | h
  ·omega
  ·have := nodesR_mem h
   omega

theorem small_facts {datas : List Data} {rows : List (List Pat)} (h : small datas rows = true) : rows.length ≤ 64 ∧ nodesR rows ≤ 400 ∧ ∀ r ∈ rows, r.length ≤ 16 := by
 simp only [small, Bool.and_eq_true, decide_eq_true_eq] at h
 obtain ⟨h1, h2⟩ := smallRows_nodes rows 0 (by omega) h.1
 exact ⟨h.2.1, by omega, h2⟩

theorem head_len {rows : List (List Pat)} (h : ∀ r ∈ rows, r.length ≤ 16) : (rows.headD []).length ≤ 16 := by
 cases rows with
 | nil => simp
 | cons r rows => exact h r (by simp)

theorem checkRes_ok {datas : List Data} {rows : List (List Pat)} {t : Tbl} (h : check datas rows = 0) (hb : build datas = some t) : .tup [t.enc, aI 0] = checkRes datas rows := by
 rw [checkRes, h, if_pos rfl, hb]

theorem column_take {rows : List (List Pat)} {k : Nat} {r : List Pat} (h : rows[k]? = some r) (n : Nat) : column (rows.take (k + 1)) n = column (rows.take k) n ++ [r.getD n Pat.any] := by
 rw [take_next h]
 simp [column]

theorem check_spec (datas : List Data) (rows : List (List Pat)) : PCall Try.prog 27 [eD datas, eRR rows] (checkRes datas rows) := by
 refine ecall_of hT true 0 Try.func27 rfl (by kernel_rfl) (by simp [Try.ntmps27]) (by simp) ?_
 show AWP Try.prog _ _ _ ⟨102, _, _⟩
 dsimp only [Tmp, TypeId, slotsOf]
 first | refine zg1 ?_ | refine zg0 ?_ | refine zg2 ?_ | refine zg3 ?_
 simp -dsimp only [simprocAttr, ↓vpre, zp]
 refine at_intro ?_
 simp -dsimp only [vend, ne_eq, Nat.reduceEqDiff, reduceCtorEq]
 first | refine zg1 ?_ | refine zg0 ?_ | refine zg2 ?_ | refine zg3 ?_
 simp -dsimp only [simprocAttr, ↓vpre, zp]
 refine .inl ⟨_, (small_spec datas rows), by first | (simp only [uptoL, AVal.upto, zt, zu, any_upto, rows_upto]; done) | (simp [uptoL, AVal.upto, zu, any_upto, rows_upto]; done), later_intro ?_⟩
 simp -dsimp only [simprocAttr, ↓vpre, zp]
 refine at_intro ?_
 simp -dsimp only [vend, ne_eq, Nat.reduceEqDiff, reduceCtorEq]
 first | refine zk1 rfl (fun h => ?_) (fun h => ?_) | refine zk0 rfl (fun h => ?_) (fun h => ?_) | refine zk2 rfl (fun h => ?_) (fun h => ?_)
 ·have hs : small datas rows = false := by simpa using h
  first | refine zg1 ?_ | refine zg0 ?_ | refine zg2 ?_ | refine zg3 ?_
  simp -dsimp only [simprocAttr, ↓vpre, zp]
  refine at_intro ?_
  simp -dsimp only [vend, ne_eq, Nat.reduceEqDiff, reduceCtorEq]
  refine awp_ret ?_
  simp -dsimp only [simprocAttr, ↓vpre, zp, RetTo, Try.results27, retVals, retVal, mkRet, AVal.upto, Nat.zero_le, Nat.le_refl, seqPost_ret, blockPost_ret, loopPost_ret]
  exact ⟨by simp [uptoL, AVal.upto], checkRes_bad (by rw [check, if_pos hs]) (by decide)⟩
 ·have hs : small datas rows = true := by simpa using h
  refine awp_skip ?_
  simp -dsimp only [vend, ne_eq, Nat.reduceEqDiff, reduceCtorEq]
  have hbd := build_spec datas
  cases hbt : build datas with
  | none =>
   rw [hbt] at hbd
   first | refine zg1 ?_ | refine zg0 ?_ | refine zg2 ?_ | refine zg3 ?_
   simp -dsimp only [simprocAttr, ↓vpre, zp]
   refine .inl ⟨_, hbd, by first | (simp only [uptoL, AVal.upto, zt, zu, any_upto, rows_upto]; done) | (simp [uptoL, AVal.upto, zu, any_upto, rows_upto]; done), later_intro ?_⟩
   simp -dsimp only [simprocAttr, ↓vpre, zp, buildRes, zeroTbl]
   refine at_intro ?_
   simp -dsimp only [vend, ne_eq, Nat.reduceEqDiff, reduceCtorEq]
   first | refine zg1 ?_ | refine zg0 ?_ | refine zg2 ?_ | refine zg3 ?_
   simp -dsimp only [simprocAttr, ↓vpre, zp]
   refine at_intro ?_
   simp -dsimp only [vend, ne_eq, Nat.reduceEqDiff, reduceCtorEq]
   first | refine zk1 rfl (fun h => ?_) (fun h => ?_) | refine zk0 rfl (fun h => ?_) (fun h => ?_) | refine zk2 rfl (fun h => ?_) (fun h => ?_)
   ·first | refine zg1 ?_ | refine zg0 ?_ | refine zg2 ?_ | refine zg3 ?_
    simp -dsimp only [simprocAttr, ↓vpre, zp]
    refine at_intro ?_
    simp -dsimp only [vend, ne_eq, Nat.reduceEqDiff, reduceCtorEq]
    refine awp_ret ?_
    simp -dsimp only [simprocAttr, ↓vpre, zp, RetTo, Try.results27, retVals, retVal, mkRet, AVal.upto, Nat.zero_le, Nat.le_refl, seqPost_ret, blockPost_ret, loopPost_ret]
    exact ⟨by simp [uptoL, AVal.upto], checkRes_bad (by rw [check, if_neg (by simp [hs]), hbt]) (by decide)⟩
   ·cases h
  | some t =>
   rw [hbt] at hbd
   have hck : check datas rows = t.checkT rows := by rw [check, if_neg (by simp [hs]), hbt]
   first | refine zg1 ?_ | refine zg0 ?_ | refine zg2 ?_ | refine zg3 ?_
   simp -dsimp only [simprocAttr, ↓vpre, zp]
   refine .inl ⟨_, hbd, by first | (simp only [uptoL, AVal.upto, zt, zu, any_upto, rows_upto]; done) | (simp [uptoL, AVal.upto, zu, any_upto, rows_upto]; done), later_intro ?_⟩
   simp -dsimp only [simprocAttr, ↓vpre, zp, buildRes]
   refine at_intro ?_
   simp -dsimp only [vend, ne_eq, Nat.reduceEqDiff, reduceCtorEq]
   first | refine zg1 ?_ | refine zg0 ?_ | refine zg2 ?_ | refine zg3 ?_
   simp -dsimp only [simprocAttr, ↓vpre, zp]
   refine at_intro ?_
   simp -dsimp only [vend, ne_eq, Nat.reduceEqDiff, reduceCtorEq]
   first | refine zk1 rfl (fun h => ?_) (fun h => ?_) | refine zk0 rfl (fun h => ?_) (fun h => ?_) | refine zk2 rfl (fun h => ?_) (fun h => ?_)
   ·cases h
   ·refine awp_skip ?_
    simp -dsimp only [vend, ne_eq, Nat.reduceEqDiff, reduceCtorEq]
    first | refine zg1 ?_ | refine zg0 ?_ | refine zg2 ?_ | refine zg3 ?_
    simp -dsimp only [simprocAttr, ↓vpre, zp]
    refine at_intro ?_
    simp -dsimp only [vend, ne_eq, Nat.reduceEqDiff, reduceCtorEq]
    obtain ⟨hs1, hs2, hs3⟩ := small_facts hs
    have hs4 := head_len hs3
    first | refine awp_block (awp_loop (ι := {k : Nat // k ≤ rows.length ∧ (rows.all fun r => decide (r.length = (rows.headD []).length)) = ((rows.drop k).all fun r => decide (r.length = (rows.headD []).length))}) (fun k => ⟨102, [(1, eRR rows), (4, .mp 0 0), (6, .mp 1 0), (33, eRR rows), (34, aI rows.length), (35, aI k.1)], [.cells [.lst 3 [] .ex, .v (.map none)], .cells [.lst 3 (t.datas.map Data.enc) .sh, .im .str (t.cons.map entry)]]⟩) (fun k => rows.length - k.1) ⟨0, by omega, rfl⟩ ?_ ?_) | refine awp_seq (awp_block (awp_loop (ι := {k : Nat // k ≤ rows.length ∧ (rows.all fun r => decide (r.length = (rows.headD []).length)) = ((rows.drop k).all fun r => decide (r.length = (rows.headD []).length))}) (fun k => ⟨102, [(1, eRR rows), (4, .mp 0 0), (6, .mp 1 0), (33, eRR rows), (34, aI rows.length), (35, aI k.1)], [.cells [.lst 3 [] .ex, .v (.map none)], .cells [.lst 3 (t.datas.map Data.enc) .sh, .im .str (t.cons.map entry)]]⟩) (fun k => rows.length - k.1) ⟨0, by omega, rfl⟩ ?_ ?_))
    ·refine ⟨rfl, ?_, ?_⟩
     rotate_left
     simp -dsimp only [simprocAttr, ↓vpre, zp, Says, exists_eq_left', Option.some.injEq, sub_self, and_assoc, true_and, and_true]
     rfl
    ·rintro ⟨k, hk, he⟩
     first | refine zg1 ?_ | refine zg0 ?_ | refine zg2 ?_ | refine zg3 ?_
     simp -dsimp only [simprocAttr, ↓vpre, zp]
     refine at_intro ?_
     simp -dsimp only [vend, ne_eq, Nat.reduceEqDiff, reduceCtorEq]
     first | refine zk1 rfl (fun h => ?_) (fun h => ?_) | refine zk0 rfl (fun h => ?_) (fun h => ?_) | refine zk2 rfl (fun h => ?_) (fun h => ?_)
     ·refine awp_skip ?_
      simp -dsimp only [vend, ne_eq, Nat.reduceEqDiff, reduceCtorEq]
      have hlt : k < rows.length := by simpa using h
      obtain ⟨r, hr⟩ : ∃ r, rows[k]? = some r := ⟨rows[k], by simp [hlt]⟩
      obtain ⟨r0, hr0⟩ : ∃ r, rows[0]? = some r := ⟨rows[0], by simp [show 0 < rows.length by omega]⟩
      have hdrop : rows.drop k = r :: rows.drop (k + 1) := by
       rw [List.drop_eq_getElem_cons hlt]
       rw [List.getElem?_eq_getElem hlt] at hr
       simp only [Option.some.injEq] at hr
       rw [hr]
      have hhead : rows.headD [] = r0 := by
       cases hle : rows with
       | nil => rw [hle] at hr0; cases hr0
       | cons q r => rw [hle] at hr0; cases hr0; rfl
      rw [hdrop, List.all_cons, hhead] at he
      first | refine awp_seq (awp_block ?_) | refine awp_block ?_
      first | refine zg1 ?_ | refine zg0 ?_ | refine zg2 ?_ | refine zg3 ?_
      simp -dsimp only [simprocAttr, ↓vpre, zp, hr]
      refine at_intro ?_
      simp -dsimp only [vend, ne_eq, Nat.reduceEqDiff, reduceCtorEq]
      first | refine zg1 ?_ | refine zg0 ?_ | refine zg2 ?_ | refine zg3 ?_
      simp -dsimp only [simprocAttr, ↓vpre, zp, hr0]
      refine at_intro ?_
      simp -dsimp only [vend, ne_eq, Nat.reduceEqDiff, reduceCtorEq]
      first | refine zk1 rfl (fun h => ?_) (fun h => ?_) | refine zk0 rfl (fun h => ?_) (fun h => ?_) | refine zk2 rfl (fun h => ?_) (fun h => ?_)
      ·have hne : ¬ r.length = r0.length := by
        simp at h
        omega
       simp only [hne, decide_false, Bool.false_and] at he
       first | refine zg1 ?_ | refine zg0 ?_ | refine zg2 ?_ | refine zg3 ?_
       simp -dsimp only [simprocAttr, ↓vpre, zp]
       refine at_intro ?_
       simp -dsimp only [vend, ne_eq, Nat.reduceEqDiff, reduceCtorEq]
       refine awp_ret ?_
       simp -dsimp only [simprocAttr, ↓vpre, zp, RetTo, Try.results27, retVals, retVal, mkRet, AVal.upto, Nat.zero_le, Nat.le_refl, seqPost_ret, blockPost_ret, loopPost_ret]
       exact ⟨by simp [uptoL, AVal.upto], checkRes_bad (by rw [hck, Tbl.checkT, hhead, if_pos he]) (by decide)⟩
      ·have hne : r.length = r0.length := by
        simp at h
        omega
       simp only [hne, decide_true, Bool.true_and] at he
       refine awp_skip ?_
       simp -dsimp only [vend, ne_eq, Nat.reduceEqDiff, reduceCtorEq]
       first | refine zg1 ?_ | refine zg0 ?_ | refine zg2 ?_ | refine zg3 ?_
       simp -dsimp only [simprocAttr, ↓vpre, zp]
       repeat (refine ⟨by omega, ?_⟩)
       refine at_intro ?_
       simp -dsimp only [vend, ne_eq, Nat.reduceEqDiff, reduceCtorEq]
       refine ⟨⟨k + 1, hlt, ?_⟩, by simp; omega, ?_⟩
       ·rw [hhead]
        exact he
       refine ⟨rfl, ?_, ?_⟩
       rotate_left
       simp -dsimp only [simprocAttr, ↓vpre, zp, Says, exists_eq_left', Option.some.injEq, sub_self, and_assoc, true_and, and_true]
       ·exact Sub.int (by simp)
       ·rfl
     ·refine awp_exit ?_
      simp -dsimp only [vend, ne_eq, Nat.reduceEqDiff, reduceCtorEq]
      have hkk : k = rows.length := by simp at h; omega
      subst hkk
      rw [List.drop_length, List.all_nil] at he
      have hlens : ∀ r ∈ rows, r.length = (rows.headD []).length := fun r hr => by
       have := List.all_eq_true.1 he r hr
       simpa using this
      first | refine zg1 ?_ | refine zg0 ?_ | refine zg2 ?_ | refine zg3 ?_
      simp -dsimp only [simprocAttr, ↓vpre, zp]
      refine at_intro ?_
      simp -dsimp only [vend, ne_eq, Nat.reduceEqDiff, reduceCtorEq]
      first | refine awp_block (awp_loop (ι := {k : Nat // k ≤ rows.length ∧ t.patternL rows.flatten = t.patternL (rows.drop k).flatten}) (fun k => ⟨102, [(1, eRR rows), (4, .mp 0 0), (6, .mp 1 0), (48, eRR rows), (49, aI rows.length), (50, aI k.1)], [.cells [.lst 3 [] .ex, .v (.map none)], .cells [.lst 3 (t.datas.map Data.enc) .sh, .im .str (t.cons.map entry)]]⟩) (fun k => rows.length - k.1) ⟨0, by omega, rfl⟩ ?_ ?_) | refine awp_seq (awp_block (awp_loop (ι := {k : Nat // k ≤ rows.length ∧ t.patternL rows.flatten = t.patternL (rows.drop k).flatten}) (fun k => ⟨102, [(1, eRR rows), (4, .mp 0 0), (6, .mp 1 0), (48, eRR rows), (49, aI rows.length), (50, aI k.1)], [.cells [.lst 3 [] .ex, .v (.map none)], .cells [.lst 3 (t.datas.map Data.enc) .sh, .im .str (t.cons.map entry)]]⟩) (fun k => rows.length - k.1) ⟨0, by omega, rfl⟩ ?_ ?_))
      ·refine ⟨rfl, ?_, ?_⟩
       rotate_left
       simp -dsimp only [simprocAttr, ↓vpre, zp, Says, exists_eq_left', Option.some.injEq, sub_self, and_assoc, true_and, and_true]
       rfl
      ·rintro ⟨k, hk, hpe⟩
       first | refine zg1 ?_ | refine zg0 ?_ | refine zg2 ?_ | refine zg3 ?_
       simp -dsimp only [simprocAttr, ↓vpre, zp]
       refine at_intro ?_
       simp -dsimp only [vend, ne_eq, Nat.reduceEqDiff, reduceCtorEq]
       first | refine zk1 rfl (fun h => ?_) (fun h => ?_) | refine zk0 rfl (fun h => ?_) (fun h => ?_) | refine zk2 rfl (fun h => ?_) (fun h => ?_)
       ·refine awp_skip ?_
        simp -dsimp only [vend, ne_eq, Nat.reduceEqDiff, reduceCtorEq]
        have hlt : k < rows.length := by simpa using h
        obtain ⟨r, hr⟩ : ∃ r, rows[k]? = some r := ⟨rows[k], by simp [hlt]⟩
        have hdrop : rows.drop k = r :: rows.drop (k + 1) := by
         rw [List.drop_eq_getElem_cons hlt]
         rw [List.getElem?_eq_getElem hlt] at hr
         simp only [Option.some.injEq] at hr
         rw [hr]
        rw [hdrop, List.flatten_cons] at hpe
        first | refine awp_seq (awp_block ?_) | refine awp_block ?_
        first | refine zg1 ?_ | refine zg0 ?_ | refine zg2 ?_ | refine zg3 ?_
        simp -dsimp only [simprocAttr, ↓vpre, zp, hr]
        refine at_intro ?_
        simp -dsimp only [vend, ne_eq, Nat.reduceEqDiff, reduceCtorEq]
        refine awp_len 11 rfl (fun hrl => ?_)
        simp only [List.length_map] at hrl
        first | refine zg1 ?_ | refine zg0 ?_ | refine zg2 ?_ | refine zg3 ?_
        simp -dsimp only [simprocAttr, ↓vpre, zp]
        refine at_intro ?_
        simp -dsimp only [vend, ne_eq, Nat.reduceEqDiff, reduceCtorEq]
        first | refine awp_block (awp_loop (ι := {n : Nat // n ≤ r.length ∧ t.patternL rows.flatten = t.patternL (r.drop n ++ (rows.drop (k + 1)).flatten)}) (fun n => ⟨102, [(1, eRR rows), (4, .mp 0 0), (6, .mp 1 0), (48, eRR rows), (49, aI rows.length), (50, aI k), (54, eR r), (55, aI r.length), (56, aI n.1)], [.cells [.lst 3 [] .ex, .v (.map none)], .cells [.lst 3 (t.datas.map Data.enc) .sh, .im .str (t.cons.map entry)]]⟩) (fun n => r.length - n.1) ⟨0, by omega, hpe⟩ ?_ ?_) | refine awp_seq (awp_block (awp_loop (ι := {n : Nat // n ≤ r.length ∧ t.patternL rows.flatten = t.patternL (r.drop n ++ (rows.drop (k + 1)).flatten)}) (fun n => ⟨102, [(1, eRR rows), (4, .mp 0 0), (6, .mp 1 0), (48, eRR rows), (49, aI rows.length), (50, aI k), (54, eR r), (55, aI r.length), (56, aI n.1)], [.cells [.lst 3 [] .ex, .v (.map none)], .cells [.lst 3 (t.datas.map Data.enc) .sh, .im .str (t.cons.map entry)]]⟩) (fun n => r.length - n.1) ⟨0, by omega, hpe⟩ ?_ ?_))
        ·refine ⟨rfl, ?_, ?_⟩
         rotate_left
         simp -dsimp only [simprocAttr, ↓vpre, zp, Says, exists_eq_left', Option.some.injEq, sub_self, and_assoc, true_and, and_true]
         rfl
        ·rintro ⟨n, hn, hpn⟩
         first | refine zg1 ?_ | refine zg0 ?_ | refine zg2 ?_ | refine zg3 ?_
         simp -dsimp only [simprocAttr, ↓vpre, zp]
         refine at_intro ?_
         simp -dsimp only [vend, ne_eq, Nat.reduceEqDiff, reduceCtorEq]
         first | refine zk1 rfl (fun h => ?_) (fun h => ?_) | refine zk0 rfl (fun h => ?_) (fun h => ?_) | refine zk2 rfl (fun h => ?_) (fun h => ?_)
         ·refine awp_skip ?_
          simp -dsimp only [vend, ne_eq, Nat.reduceEqDiff, reduceCtorEq]
          have hltn : n < r.length := by simpa using h
          obtain ⟨p, hp⟩ : ∃ p, r[n]? = some p := ⟨r[n], by simp [hltn]⟩
          have hdropn : r.drop n = p :: r.drop (n + 1) := by
           rw [List.drop_eq_getElem_cons hltn]
           rw [List.getElem?_eq_getElem hltn] at hp
           simp only [Option.some.injEq] at hp
           rw [hp]
          rw [hdropn, List.cons_append, Tbl.patternL] at hpn
          first | refine awp_seq (awp_block ?_) | refine awp_block ?_
          first | refine zg1 ?_ | refine zg0 ?_ | refine zg2 ?_ | refine zg3 ?_
          simp -dsimp only [simprocAttr, ↓vpre, zp, hp]
          refine at_intro ?_
          simp -dsimp only [vend, ne_eq, Nat.reduceEqDiff, reduceCtorEq]
          first | refine zg1 ?_ | refine zg0 ?_ | refine zg2 ?_ | refine zg3 ?_
          simp -dsimp only [simprocAttr, ↓vpre, zp]
          refine .inl ⟨_, (pattern_spec t p), by first | (simp only [uptoL, AVal.upto, zt, zu, any_upto, rows_upto]; done) | (simp [uptoL, AVal.upto, zu, any_upto, rows_upto]; done), later_intro ?_⟩
          simp -dsimp only [simprocAttr, ↓vpre, zp]
          refine at_intro ?_
          simp -dsimp only [vend, ne_eq, Nat.reduceEqDiff, reduceCtorEq]
          first | refine zg1 ?_ | refine zg0 ?_ | refine zg2 ?_ | refine zg3 ?_
          simp -dsimp only [simprocAttr, ↓vpre, zp]
          refine at_intro ?_
          simp -dsimp only [vend, ne_eq, Nat.reduceEqDiff, reduceCtorEq]
          first | refine zk1 rfl (fun h => ?_) (fun h => ?_) | refine zk0 rfl (fun h => ?_) (fun h => ?_) | refine zk2 rfl (fun h => ?_) (fun h => ?_)
          ·have hne : ¬ t.pattern p = 0 := by simpa using h
           rw [if_neg hne] at hpn
           first | refine zg1 ?_ | refine zg0 ?_ | refine zg2 ?_ | refine zg3 ?_
           simp -dsimp only [simprocAttr, ↓vpre, zp]
           refine at_intro ?_
           simp -dsimp only [vend, ne_eq, Nat.reduceEqDiff, reduceCtorEq]
           refine awp_ret ?_
           simp -dsimp only [simprocAttr, ↓vpre, zp, RetTo, Try.results27, retVals, retVal, mkRet, AVal.upto, Nat.zero_le, Nat.le_refl, seqPost_ret, blockPost_ret, loopPost_ret]
           exact ⟨by simp [uptoL, AVal.upto], checkRes_bad (by rw [hck, Tbl.checkT, if_neg (by rw [he]; simp), if_pos (by rw [hpn]; exact hne), hpn]) hne⟩
          ·have hne : t.pattern p = 0 := by simpa using h
           rw [if_pos hne] at hpn
           refine awp_skip ?_
           simp -dsimp only [vend, ne_eq, Nat.reduceEqDiff, reduceCtorEq]
           refine awp_trunc' 2 [(1, eRR rows), (4, .mp 0 0), (6, .mp 1 0), (48, eRR rows), (49, aI rows.length), (50, aI k), (54, eR r), (55, aI r.length), (56, aI n)] (by first | omega | (simp; done) | (simp; omega)) (by first | omega | (simp; done) | (simp; omega)) [.cells [.lst 3 [] .ex, .v (.map none)], .cells [.lst 3 (t.datas.map Data.enc) .sh, .im .str (t.cons.map entry)]] ?_ ?_ ?_ ?_ ?_
           ·rfl
           ·simp [AObj.upto, uptoL, AVal.upto, Data.map_upto, entry_upto]
           ·simp -dsimp only [simprocAttr, ↓vpre, zp, Says, exists_eq_left', Option.some.injEq, sub_self, and_true]
           ·simp [AVal.upto, uptoL, rows_upto, Pat.map_upto]
           ·first | refine zg1 ?_ | refine zg0 ?_ | refine zg2 ?_ | refine zg3 ?_
            simp -dsimp only [simprocAttr, ↓vpre, zp]
            repeat (refine ⟨by omega, ?_⟩)
            refine at_intro ?_
            simp -dsimp only [vend, ne_eq, Nat.reduceEqDiff, reduceCtorEq]
            refine ⟨⟨n + 1, hltn, hpn⟩, by simp; omega, ?_⟩
            refine ⟨rfl, ?_, ?_⟩
            rotate_left
            simp -dsimp only [simprocAttr, ↓vpre, zp, Says, exists_eq_left', Option.some.injEq, sub_self, and_assoc, true_and, and_true]
            ·exact Sub.int (by simp)
            ·rfl
         ·refine awp_exit ?_
          simp -dsimp only [vend, ne_eq, Nat.reduceEqDiff, reduceCtorEq]
          have hnn : n = r.length := by simp at h; omega
          subst hnn
          rw [List.drop_length, List.nil_append] at hpn
          first | refine zg1 ?_ | refine zg0 ?_ | refine zg2 ?_ | refine zg3 ?_
          simp -dsimp only [simprocAttr, ↓vpre, zp]
          repeat (refine ⟨by omega, ?_⟩)
          refine at_intro ?_
          simp -dsimp only [vend, ne_eq, Nat.reduceEqDiff, reduceCtorEq]
          refine ⟨⟨k + 1, hlt, hpn⟩, by simp; omega, ?_⟩
          refine ⟨rfl, ?_, ?_⟩
          rotate_left
          simp -dsimp only [simprocAttr, ↓vpre, zp, Says, exists_eq_left', Option.some.injEq, sub_self, and_assoc, true_and, and_true]
          ·exact Sub.int (by simp)
          ·rfl
       ·refine awp_exit ?_
        simp -dsimp only [vend, ne_eq, Nat.reduceEqDiff, reduceCtorEq]
        have hkk : k = rows.length := by simp at h; omega
        subst hkk
        rw [List.drop_length, List.flatten_nil, Tbl.patternL] at hpe
        have hpok : ∀ r ∈ rows, ∀ p ∈ r, t.pattern p = 0 := fun r hr p hp => (patternL_zero t).1 hpe p (List.mem_flatten.2 ⟨r, hr, hp⟩)
        have hct : t.checkT rows = if (List.range (rows.headD []).length).all (t.agreeCol rows) then 0 else 10 := by
         rw [Tbl.checkT, if_neg (by rw [he]; simp), if_neg (by rw [hpe]; simp)]
        first | refine zg1 ?_ | refine zg0 ?_ | refine zg2 ?_ | refine zg3 ?_
        simp -dsimp only [simprocAttr, ↓vpre, zp]
        refine at_intro ?_
        simp -dsimp only [vend, ne_eq, Nat.reduceEqDiff, reduceCtorEq]
        first | refine awp_block (awp_loop (ι := {n : Nat // n ≤ (rows.headD []).length ∧ ∀ j, j < n → t.agreeCol rows j = true}) (fun n => ⟨102, [(1, eRR rows), (4, .mp 0 0), (6, .mp 1 0), (15, aI n.1)], [.cells [.lst 3 [] .ex, .v (.map none)], .cells [.lst 3 (t.datas.map Data.enc) .sh, .im .str (t.cons.map entry)]]⟩) (fun n => (rows.headD []).length - n.1) ⟨0, by omega, fun j hj => by omega⟩ ?_ ?_) | refine awp_seq (awp_block (awp_loop (ι := {n : Nat // n ≤ (rows.headD []).length ∧ ∀ j, j < n → t.agreeCol rows j = true}) (fun n => ⟨102, [(1, eRR rows), (4, .mp 0 0), (6, .mp 1 0), (15, aI n.1)], [.cells [.lst 3 [] .ex, .v (.map none)], .cells [.lst 3 (t.datas.map Data.enc) .sh, .im .str (t.cons.map entry)]]⟩) (fun n => (rows.headD []).length - n.1) ⟨0, by omega, fun j hj => by omega⟩ ?_ ?_))
        ·refine ⟨rfl, ?_, ?_⟩
         rotate_left
         simp -dsimp only [simprocAttr, ↓vpre, zp, Says, exists_eq_left', Option.some.injEq, sub_self, and_assoc, true_and, and_true]
         rfl
        ·rintro ⟨n, hn, hall⟩
         first | refine zg1 ?_ | refine zg0 ?_ | refine zg2 ?_ | refine zg3 ?_
         simp -dsimp only [simprocAttr, ↓vpre, zp]
         refine vcIf_split (fun h => ?_) (fun h => ?_)
         ·have hpos : 0 < rows.length := by
           simp at h
           omega
          obtain ⟨r0, hr0⟩ : ∃ r, rows[0]? = some r := ⟨rows[0], by simp [hpos]⟩
          have hhead : rows.headD [] = r0 := by
           cases hle : rows with
           | nil => rw [hle] at hr0; cases hr0
           | cons q r => rw [hle] at hr0; cases hr0; rfl
          simp -dsimp only [simprocAttr, ↓vpre, zp, h, hr0]
          refine at_intro ?_
          simp -dsimp only [vend, ne_eq, Nat.reduceEqDiff, reduceCtorEq]
          first | refine zk1 rfl (fun h => ?_) (fun h => ?_) | refine zk0 rfl (fun h => ?_) (fun h => ?_) | refine zk2 rfl (fun h => ?_) (fun h => ?_)
          ·have hltn : n < (rows.headD []).length := by
            rw [hhead]
            simpa using h
           refine awp_skip ?_
           simp -dsimp only [vend, ne_eq, Nat.reduceEqDiff, reduceCtorEq]
           first | refine awp_seq (awp_block ?_) | refine awp_block ?_
           first | refine zg1 ?_ | refine zg0 ?_ | refine zg2 ?_ | refine zg3 ?_
           simp -dsimp only [simprocAttr, ↓vpre, zp]
           refine at_intro ?_
           simp -dsimp only [vend, ne_eq, Nat.reduceEqDiff, reduceCtorEq]
           refine awp_own 16 rfl ?_
           simp -dsimp only [simprocAttr, ↓vpre, zp]
           first | refine zg1 ?_ | refine zg0 ?_ | refine zg2 ?_ | refine zg3 ?_
           simp -dsimp only [simprocAttr, ↓vpre, zp]
           refine at_intro ?_
           simp -dsimp only [vend, ne_eq, Nat.reduceEqDiff, reduceCtorEq]
           first | refine awp_block (awp_loop (ι := {k : Nat // k ≤ rows.length}) (fun k => ⟨102, [(1, eRR rows), (4, .mp 0 0), (6, .mp 1 0), (15, aI n), (82, eRR rows), (83, aI rows.length), (84, aI k.1), (16, .lst 4 ((column (rows.take k.1) n).map Pat.enc) (.tok 2))], [.cells [.lst 3 [] .ex, .v (.map none)], .cells [.lst 3 (t.datas.map Data.enc) .sh, .im .str (t.cons.map entry)], .spare (column (rows.take k.1) n).length]⟩) (fun k => rows.length - k.1) ⟨0, by omega⟩ ?_ ?_) | refine awp_seq (awp_block (awp_loop (ι := {k : Nat // k ≤ rows.length}) (fun k => ⟨102, [(1, eRR rows), (4, .mp 0 0), (6, .mp 1 0), (15, aI n), (82, eRR rows), (83, aI rows.length), (84, aI k.1), (16, .lst 4 ((column (rows.take k.1) n).map Pat.enc) (.tok 2))], [.cells [.lst 3 [] .ex, .v (.map none)], .cells [.lst 3 (t.datas.map Data.enc) .sh, .im .str (t.cons.map entry)], .spare (column (rows.take k.1) n).length]⟩) (fun k => rows.length - k.1) ⟨0, by omega⟩ ?_ ?_))
           ·refine ⟨rfl, ?_, ?_⟩
            rotate_left
            simp -dsimp only [simprocAttr, ↓vpre, zp, Says, exists_eq_left', Option.some.injEq, sub_self, and_assoc, true_and, and_true]
            ·exact Sub.lst (by simp [column])
            ·simp [column]
           ·rintro ⟨k, hk⟩
            first | refine zg1 ?_ | refine zg0 ?_ | refine zg2 ?_ | refine zg3 ?_
            simp -dsimp only [simprocAttr, ↓vpre, zp]
            refine at_intro ?_
            simp -dsimp only [vend, ne_eq, Nat.reduceEqDiff, reduceCtorEq]
            first | refine zk1 rfl (fun h => ?_) (fun h => ?_) | refine zk0 rfl (fun h => ?_) (fun h => ?_) | refine zk2 rfl (fun h => ?_) (fun h => ?_)
            ·refine awp_skip ?_
             simp -dsimp only [vend, ne_eq, Nat.reduceEqDiff, reduceCtorEq]
             have hlt : k < rows.length := by simpa using h
             obtain ⟨r, hr⟩ : ∃ r, rows[k]? = some r := ⟨rows[k], by simp [hlt]⟩
             have hrn : r[n]? = some (r.getD n Pat.any) := by
              have := hlens r (List.mem_of_getElem? hr)
              rw [List.getD_eq_getElem?_getD, List.getElem?_eq_getElem (by omega)]
              rfl
             have hcl : (column (rows.take k) n).length ≤ rows.length := by
              rw [column, List.length_map, List.length_take]
              omega
             have e := column_take hr n
             first | refine awp_seq (awp_block ?_) | refine awp_block ?_
             first | refine zg1 ?_ | refine zg0 ?_ | refine zg2 ?_ | refine zg3 ?_
             simp -dsimp only [simprocAttr, ↓vpre, zp, hr]
             refine at_intro ?_
             simp -dsimp only [vend, ne_eq, Nat.reduceEqDiff, reduceCtorEq]
             first | refine zg1 ?_ | refine zg0 ?_ | refine zg2 ?_ | refine zg3 ?_
             simp -dsimp only [simprocAttr, ↓vpre, zp, hrn]
             repeat (refine ⟨by omega, ?_⟩)
             refine at_intro ?_
             simp -dsimp only [vend, ne_eq, Nat.reduceEqDiff, reduceCtorEq]
             first | refine zg1 ?_ | refine zg0 ?_ | refine zg2 ?_ | refine zg3 ?_
             simp -dsimp only [simprocAttr, ↓vpre, zp]
             repeat (refine ⟨by omega, ?_⟩)
             refine at_intro ?_
             simp -dsimp only [vend, ne_eq, Nat.reduceEqDiff, reduceCtorEq]
             refine ⟨⟨k + 1, hlt⟩, by simp; omega, ?_⟩
             refine ⟨rfl, ?_, ?_⟩
             rotate_left
             simp -dsimp only [simprocAttr, ↓vpre, zp, Says, exists_eq_left', Option.some.injEq, sub_self, and_assoc, true_and, and_true]
             ·exact ⟨Sub.int (by simp), Sub.lst (by simp [e])⟩
             ·simp [e]
            ·refine awp_exit ?_
             simp -dsimp only [vend, ne_eq, Nat.reduceEqDiff, reduceCtorEq]
             have hkk : k = rows.length := by simp at h; omega
             subst hkk
             have hcne : column rows n ≠ [] := fun e => by
              have := congrArg List.length e
              rw [column, List.length_map] at this
              simp at this
              rw [this] at hpos
              simp at hpos
             have hcall := agree_spec t (nodesL (column rows n) + 1) (column rows n) (by omega) hcne (by rw [column, List.length_map]; omega) (fun p hp => by
              obtain ⟨r, hr, rfl⟩ := List.mem_map.1 hp
              have := hlens r hr
              refine hpok r hr _ ?_
              rw [List.getD_eq_getElem?_getD, List.getElem?_eq_getElem (by omega)]
              exact List.getElem_mem _)
             first | refine zg1 ?_ | refine zg0 ?_ | refine zg2 ?_ | refine zg3 ?_
             simp -dsimp only [simprocAttr, ↓vpre, zp, List.take_length]
             refine .inl ⟨_, hcall, by first | (simp only [uptoL, AVal.upto, zt, zu, any_upto, rows_upto]; done) | (simp [uptoL, AVal.upto, zu, any_upto, rows_upto]; done), later_intro ?_⟩
             simp -dsimp only [simprocAttr, ↓vpre, zp]
             refine at_intro ?_
             simp -dsimp only [vend, ne_eq, Nat.reduceEqDiff, reduceCtorEq]
             first | refine zk1 rfl (fun h => ?_) (fun h => ?_) | refine zk0 rfl (fun h => ?_) (fun h => ?_) | refine zk2 rfl (fun h => ?_) (fun h => ?_)
             ·have hag : t.agreeCol rows n = false := by simpa [Tbl.agreeCol] using h
              have h10 : t.checkT rows = 10 := by
               rw [hct, if_neg]
               intro hc
               have := List.all_eq_true.1 hc n (List.mem_range.2 hltn)
               rw [hag] at this
               cases this
              first | refine zg1 ?_ | refine zg0 ?_ | refine zg2 ?_ | refine zg3 ?_
              simp -dsimp only [simprocAttr, ↓vpre, zp]
              refine at_intro ?_
              simp -dsimp only [vend, ne_eq, Nat.reduceEqDiff, reduceCtorEq]
              refine awp_ret ?_
              simp -dsimp only [simprocAttr, ↓vpre, zp, RetTo, Try.results27, retVals, retVal, mkRet, AVal.upto, Nat.zero_le, Nat.le_refl, seqPost_ret, blockPost_ret, loopPost_ret]
              exact ⟨by simp [uptoL, AVal.upto], checkRes_bad (hck.trans h10) (by decide)⟩
             ·have hag : t.agreeCol rows n = true := by simpa [Tbl.agreeCol] using h
              refine awp_skip ?_
              simp -dsimp only [vend, ne_eq, Nat.reduceEqDiff, reduceCtorEq]
              refine awp_trunc' 2 [(1, eRR rows), (4, .mp 0 0), (6, .mp 1 0), (15, aI n)] (by first | omega | (simp; done) | (simp; omega)) (by first | omega | (simp; done) | (simp; omega)) [.cells [.lst 3 [] .ex, .v (.map none)], .cells [.lst 3 (t.datas.map Data.enc) .sh, .im .str (t.cons.map entry)]] ?_ ?_ ?_ ?_ ?_
              ·rfl
              ·simp [AObj.upto, uptoL, AVal.upto, Data.map_upto, entry_upto]
              ·simp -dsimp only [simprocAttr, ↓vpre, zp, Says, exists_eq_left', Option.some.injEq, sub_self, and_true]
              ·simp [AVal.upto, uptoL, rows_upto]
              ·first | refine zg1 ?_ | refine zg0 ?_ | refine zg2 ?_ | refine zg3 ?_
               simp -dsimp only [simprocAttr, ↓vpre, zp]
               repeat (refine ⟨by omega, ?_⟩)
               refine at_intro ?_
               simp -dsimp only [vend, ne_eq, Nat.reduceEqDiff, reduceCtorEq]
               refine ⟨⟨n + 1, hltn, ?_⟩, by show (rows.headD []).length - (n + 1) < (rows.headD []).length - n; omega, ?_⟩
               ·intro j hj
                rcases Nat.lt_succ_iff_lt_or_eq.1 hj with hj | hj
                ·exact hall j hj
                ·rw [hj]
                 exact hag
               refine ⟨rfl, ?_, ?_⟩
               rotate_left
               simp -dsimp only [simprocAttr, ↓vpre, zp, Says, exists_eq_left', Option.some.injEq, sub_self, and_assoc, true_and, and_true]
               ·exact Sub.int (by simp)
               ·rfl
          ·have hnn : n = (rows.headD []).length := by
            rw [hhead] at hn ⊢
            simp at h
            omega
           have h0 : t.checkT rows = 0 := by
            rw [hct, if_pos]
            exact List.all_eq_true.2 fun j hj => hall j (by have := List.mem_range.1 hj; omega)
           refine awp_exit ?_
           simp -dsimp only [vend, ne_eq, Nat.reduceEqDiff, reduceCtorEq]
           first | refine zg1 ?_ | refine zg0 ?_ | refine zg2 ?_ | refine zg3 ?_
           simp -dsimp only [simprocAttr, ↓vpre, zp]
           refine at_intro ?_
           simp -dsimp only [vend, ne_eq, Nat.reduceEqDiff, reduceCtorEq]
           refine awp_ret ?_
           simp -dsimp only [simprocAttr, ↓vpre, zp, RetTo, Try.results27, retVals, retVal, mkRet, AVal.upto, Nat.zero_le, Nat.le_refl, seqPost_ret, blockPost_ret, loopPost_ret]
           exact ⟨by simp [uptoL, AVal.upto, Tbl.enc_upto], checkRes_ok (hck.trans h0) hbt⟩
         ·have hz : rows = [] := by
           cases rows with
           | nil => rfl
           | cons r x => simp at h
          have h0 : t.checkT rows = 0 := by
           rw [hct, if_pos]
           rw [hz]
           rfl
          simp -dsimp only [simprocAttr, ↓vpre, zp, h]
          refine at_intro ?_
          simp -dsimp only [vend, ne_eq, Nat.reduceEqDiff, reduceCtorEq]
          first | refine zk1 rfl (fun h => ?_) (fun h => ?_) | refine zk0 rfl (fun h => ?_) (fun h => ?_) | refine zk2 rfl (fun h => ?_) (fun h => ?_)
          ·cases h
          ·refine awp_exit ?_
           simp -dsimp only [vend, ne_eq, Nat.reduceEqDiff, reduceCtorEq]
           first | refine zg1 ?_ | refine zg0 ?_ | refine zg2 ?_ | refine zg3 ?_
           simp -dsimp only [simprocAttr, ↓vpre, zp]
           refine at_intro ?_
           simp -dsimp only [vend, ne_eq, Nat.reduceEqDiff, reduceCtorEq]
           refine awp_ret ?_
           simp -dsimp only [simprocAttr, ↓vpre, zp, RetTo, Try.results27, retVals, retVal, mkRet, AVal.upto, Nat.zero_le, Nat.le_refl, seqPost_ret, blockPost_ret, loopPost_ret]
           exact ⟨by simp [uptoL, AVal.upto, Tbl.enc_upto], checkRes_ok (hck.trans h0) hbt⟩

end Go.Proofs.Ytakdmelemfnmdaa
end

section
/-
  What a check that passes tells: a table of constructors, and types of the columns.
-/
set_option linter.unusedVariables false
namespace Go.Proofs.Ytakdmelemfnmdaa

theorem find_snoc : ∀ (l : List (ByteArray × K)) (s : ByteArray) (k : K) (x : ByteArray), find (l ++ [(s, k)]) x = match find l x with
    | some y => some y
    | none => if s = x then some k else none
  | [], s, k, x => by simp [find]
  | (n, k') :: r, s, k, x => by
    simp only [List.cons_append, find]
    by_cases h : n = x
    · simp [h]
    · simp only [h, if_false]
      exact find_snoc r s k x

theorem addCons_ok (k : Nat) : ∀ (cs : List Con) (n : Nat) (acc acc' : List (ByteArray × K)), addCons k n cs acc = some acc' →
    (∀ x y, find acc x = some y → find acc' x = some y) ∧
    (∀ x y, find acc' x = some y → find acc x = some y ∨ ∃ c ∈ cs, c.name = x ∧ y.data = k ∧ y.many = c.args.length) ∧
    (∀ c ∈ cs, ∃ y, find acc' c.name = some y ∧ y.data = k ∧ y.many = c.args.length)
  | [], n, acc, acc', h => by
    simp only [addCons, Option.some.injEq] at h
    subst h
    exact ⟨fun x y h => h, fun x y h => .inl h, by simp⟩
  | c :: r, n, acc, acc', h => by
    rw [addCons] at h
    cases hf : find acc c.name with
    | some z =>
      rw [hf] at h
      cases h
    | none =>
      rw [hf] at h
      obtain ⟨h1, h2, h3⟩ := addCons_ok k r (n + 1) _ acc' h
      have hnew : find (acc ++ [(c.name, (⟨k, n, c.args.length⟩ : K))]) c.name = some ⟨k, n, c.args.length⟩ := by
        rw [find_snoc, hf]
        simp
      refine ⟨fun x y hx => h1 x y (by rw [find_snoc, hx]), fun x y hx => ?_, fun c' hc' => ?_⟩
      · rcases h2 x y hx with h4 | ⟨c', h4, h5⟩
        · rw [find_snoc] at h4
          cases hq : find acc x with
          | some z =>
            rw [hq] at h4
            exact .inl h4
          | none =>
            rw [hq] at h4
            simp only at h4
            split at h4
            · rename_i e
              cases h4
              exact .inr ⟨c, by simp, e, rfl, rfl⟩
            · cases h4
        · exact .inr ⟨c', by simp [h4], h5⟩
      · rcases List.mem_cons.1 hc' with rfl | hc'
        · exact ⟨_, h1 _ _ hnew, rfl, rfl⟩
        · exact h3 c' hc'

theorem addDatas_ok : ∀ (ds : List Data) (k : Nat) (acc acc' : List (ByteArray × K)), addDatas k ds acc = some acc' →
    (∀ x y, find acc x = some y → find acc' x = some y) ∧
    (∀ x y, find acc' x = some y → find acc x = some y ∨ ∃ j d c, ds[j]? = some d ∧ c ∈ d.cons ∧ c.name = x ∧ y.data = k + j ∧ y.many = c.args.length) ∧
    (∀ j d c, ds[j]? = some d → c ∈ d.cons → ∃ y, find acc' c.name = some y ∧ y.data = k + j ∧ y.many = c.args.length)
  | [], k, acc, acc', h => by
    simp only [addDatas, Option.some.injEq] at h
    subst h
    exact ⟨fun x y h => h, fun x y h => .inl h, fun j d c hj => by simp at hj⟩
  | d :: r, k, acc, acc', h => by
    rw [addDatas] at h
    obtain ⟨acc1, h0, h⟩ := Option.bind_eq_some_iff.1 h
    obtain ⟨a1, a2, a3⟩ := addCons_ok k d.cons 0 acc acc1 h0
    obtain ⟨b1, b2, b3⟩ := addDatas_ok r (k + 1) acc1 acc' h
    refine ⟨fun x y hx => b1 x y (a1 x y hx), fun x y hx => ?_, fun j d' c hj hc => ?_⟩
    · rcases b2 x y hx with h1 | ⟨j, d', c, h1, h2, h3, h4, h5⟩
      · rcases a2 x y h1 with h2 | ⟨c, h2, h3, h4, h5⟩
        · exact .inl h2
        · exact .inr ⟨0, d, c, rfl, h2, h3, by omega, h5⟩
      · exact .inr ⟨j + 1, d', c, by simpa using h1, h2, h3, by omega, h5⟩
    · cases j with
      | zero =>
        simp only [List.getElem?_cons_zero, Option.some.injEq] at hj
        subst hj
        obtain ⟨y, h1, h2, h3⟩ := a3 c hc
        exact ⟨y, b1 _ _ h1, by omega, h3⟩
      | succ j =>
        obtain ⟨y, h1, h2, h3⟩ := b3 j d' c (by simpa using hj) hc
        exact ⟨y, h1, by omega, h3⟩

theorem build_ok {datas : List Data} {t : Tbl} (h : build datas = some t) : TblOK t ∧ t.datas = datas := by
  unfold build at h
  obtain ⟨l, hl, rfl⟩ := Option.map_eq_some_iff.1 h
  obtain ⟨_, h2, h3⟩ := addDatas_ok datas 0 [] l hl
  refine ⟨⟨fun s y hs => ?_, fun i d c hi hc => ?_⟩, rfl⟩
  · rcases h2 s y hs with h4 | ⟨j, d, c, k1, k2, k3, k4, k5⟩
    · simp [find] at h4
    · exact ⟨d, c, by rw [k4, Nat.zero_add]; exact k1, k2, k3, k5.symm⟩
  · obtain ⟨y, k1, k2, k3⟩ := h3 i d c hi hc
    exact ⟨y, k1, by omega, k3⟩

/-! Columns that agree have a type. -/

theorem HasTyL.of_get {t : Tbl} : ∀ {l : List Pat} {tys : List Ty}, l.length = tys.length → (∀ (n : Nat) ty, tys[n]? = some ty → HasTy t (l.getD n Pat.any) ty) → HasTyL t l tys
  | [], [], _, _ => by simp [HasTyL]
  | [], _ :: _, h, _ => by simp at h
  | _ :: _, [], h, _ => by simp at h
  | p :: l, ty :: tys, h, k => by
    simp only [HasTyL]
    refine ⟨ty, tys, rfl, by simpa using k 0 ty rfl, HasTyL.of_get (by simpa using h) fun n ty' hn => ?_⟩
    have := k (n + 1) ty' (by simpa using hn)
    simpa using this

theorem HasTyL.get {t : Tbl} : ∀ {l : List Pat} {tys : List Ty}, HasTyL t l tys → ∀ (n : Nat) p ty, l[n]? = some p → tys[n]? = some ty → HasTy t p ty
  | p :: l, tys, h, n, q, ty, hq, ht => by
    simp only [HasTyL] at h
    obtain ⟨ty', tys', rfl, h1, h2⟩ := h
    cases n with
    | zero =>
      simp only [List.getElem?_cons_zero, Option.some.injEq] at hq ht
      subst hq
      subst ht
      exact h1
    | succ n => exact h2.get n q ty (by simpa using hq) (by simpa using ht)
  | [], _, _, n, q, ty, hq, _ => by simp at hq

theorem mem_bare {l : List Pat} {p : Pat} : p ∈ bare l ↔ p ∈ l ∧ p.free = false := by
  rw [bare, List.mem_filter]
  simp

theorem free_ty {t : Tbl} {p : Pat} {ty : Ty} (h : p.free = true) : HasTy t p ty := by
  rw [HasTy_eq, if_pos h]
  trivial

theorem kind_bare {t : Tbl} {p : Pat} (hf : p.free = false) (hok : t.pattern p = 0) : p.kind = 2 ∨ p.kind = 3 := by
  have h1 : ¬ (p.kind = 0 ∨ p.kind = 1) := fun h => by
    rw [← Pat.free_iff, hf] at h
    cases h
  rw [Tbl.pattern_eq, if_neg (fun e => h1 (.inl e)), if_neg (fun e => h1 (.inr e))] at hok
  by_cases h2 : p.kind = 2
  · exact .inl h2
  · rw [if_neg h2] at hok
    by_cases h3 : p.kind = 3
    · exact .inr h3
    · rw [if_neg h3] at hok
      cases hok

theorem WfL.anys {t : Tbl} (n : Nat) : WfL t (List.replicate n .any) := fun ty hty => by
  rw [(List.mem_replicate.1 hty).2]
  exact .any

theorem first_name {s : ByteArray} : ∀ {l : List Pat}, (∃ p ∈ l, p.name = s) → ∃ (k : Nat) (q : Pat), l[k]? = some q ∧ q.name = s ∧ (l.take k).any (fun q => decide (q.name = s)) = false
  | [], h => by
    obtain ⟨p, hp, _⟩ := h
    cases hp
  | q :: l, h => by
    by_cases hq : q.name = s
    · exact ⟨0, q, rfl, hq, rfl⟩
    · obtain ⟨p, hp, e⟩ := h
      rcases List.mem_cons.1 hp with rfl | hp
      · exact absurd e hq
      · obtain ⟨k, r, h1, h2, h3⟩ := first_name (l := l) ⟨p, hp, e⟩
        exact ⟨k + 1, r, by simpa using h1, h2, by simp [hq] at h3 ⊢; exact h3⟩

theorem agreeF_parts {t : Tbl} {fu : Nat} {l0 : List Pat} (hok : ∀ p ∈ l0, t.pattern p = 0) (h : t.agreeF (fu + 1) l0 = true) : (∀ p ∈ bare l0, t.kind p = t.kind ((bare l0).headD Pat.any)) ∧ ∀ p ∈ bare l0, p.kind = 3 → ∀ n, n < p.args.length → t.agreeF fu (below (bare l0) p.name n) = true := by
  rw [Tbl.agreeF, Bool.and_eq_true] at h
  obtain ⟨h1, h2⟩ := h
  have hk : ∀ p ∈ bare l0, t.kind p = t.kind ((bare l0).headD Pat.any) := fun p hp => by simpa using List.all_eq_true.1 h1 p hp
  refine ⟨hk, fun p hp h3 n hn => ?_⟩
  obtain ⟨k, q, k1, k2, k3⟩ := first_name (l := bare l0) ⟨p, hp, rfl⟩
  have hlt : k < (bare l0).length := Go.Av.lt_of_getElem? k1
  have hq := List.mem_of_getElem? k1
  have := List.all_eq_true.1 h2 k (List.mem_range.2 hlt)
  rw [k1] at this
  have hq3 := kind3 ((hk q hq).trans (hk p hp).symm) h3
  obtain ⟨ka, f1, m1, _⟩ := pat_con (hok q (mem_bare.1 hq).1) hq3
  obtain ⟨kb, f2, m2, _⟩ := pat_con (hok p (mem_bare.1 hp).1) h3
  rw [k2, f2] at f1
  cases f1
  simp only [k2, k3, hq3, Bool.false_or, ne_eq, not_true_eq_false, decide_false] at this
  exact List.all_eq_true.1 this n (List.mem_range.2 (by omega))

theorem mem_below {l : List Pat} {s : ByteArray} {n : Nat} {a : Pat} : a ∈ below l s n ↔ ∃ q ∈ l, q.name = s ∧ a = q.args.getD n Pat.any := by
  rw [below, List.mem_map]
  constructor
  · rintro ⟨q, hq, rfl⟩
    obtain ⟨h1, h2⟩ := List.mem_filter.1 hq
    exact ⟨q, h1, by simpa using h2, rfl⟩
  · rintro ⟨q, h1, h2, rfl⟩
    exact ⟨q, List.mem_filter.2 ⟨h1, by simpa using h2⟩, rfl⟩

theorem getD_mem {l : List Pat} {n : Nat} (h : n < l.length) : l.getD n Pat.any ∈ l := by
  rw [List.getD_eq_getElem?_getD, List.getElem?_eq_getElem h]
  exact List.getElem_mem h

/-- A column that agrees has a type. -/
theorem agree_ty {t : Tbl} (hT : TblOK t) : ∀ (fu : Nat) (l : List Pat), (∀ p ∈ l, t.pattern p = 0) → t.agreeF fu l = true → ∃ ty, WfTy t ty ∧ ∀ p ∈ l, HasTy t p ty
  | 0, l, _, h => by cases h
  | fu + 1, l0, hok, h => by
    obtain ⟨hk, hb⟩ := agreeF_parts hok h
    have lift : ∀ ty, (∀ p ∈ bare l0, HasTy t p ty) → ∀ p ∈ l0, HasTy t p ty := fun ty hty p hp => by
      by_cases hf : p.free = true
      · exact free_ty hf
      · exact hty p (mem_bare.2 ⟨hp, by simpa using hf⟩)
    cases hl : bare l0 with
    | nil => exact ⟨.any, .any, lift _ (by rw [hl]; simp)⟩
    | cons p0 r =>
      have hp0 : p0 ∈ bare l0 := by rw [hl]; simp
      have hk' : ∀ p ∈ bare l0, t.kind p = t.kind p0 := fun p hp => by
        have := hk p hp
        rw [hl] at this
        exact this
      have hok' : ∀ p ∈ bare l0, t.pattern p = 0 := fun p hp => hok p (mem_bare.1 hp).1
      rcases kind_bare (mem_bare.1 hp0).2 (hok' p0 hp0) with h2 | h3
      · refine ⟨.int, .int, lift _ fun p hp => ?_⟩
        have hp2 : p.kind = 2 := by
          rcases kind_bare (mem_bare.1 hp).2 (hok' p hp) with e | e
          · exact e
          · have := kind3 (hk' p hp).symm e
            omega
        rw [HasTy_eq, if_neg (by simp [(mem_bare.1 hp).2]), if_pos hp2]
      · have h3a : ∀ p ∈ bare l0, p.kind = 3 := fun p hp => kind3 (hk' p hp) h3
        have hdata : ∀ p ∈ bare l0, (t.con p.name).data = (t.con p0.name).data := fun p hp => by
          have := hk' p hp
          rw [Tbl.kind, Tbl.kind, if_neg (by have := h3a p hp; omega), if_pos (h3a p hp), if_neg (by omega), if_pos h3] at this
          omega
        -- the types of the fields of a constructor
        have hf : ∀ s : ByteArray, ∃ tys : List Ty, tys.length = (t.con s).many ∧ (∀ ty ∈ tys, WfTy t ty) ∧ ∀ q ∈ bare l0, q.name = s → HasTyL t q.args tys := fun s => by
          by_cases hs : ∃ q ∈ bare l0, q.name = s
          · obtain ⟨q0, hq0, hn0⟩ := hs
            obtain ⟨k0, f0, m0, _⟩ := pat_con (hok' q0 hq0) (h3a q0 hq0)
            have hcon : t.con s = k0 := by rw [Tbl.con, ← hn0, f0]; rfl
            have hlen : ∀ q ∈ bare l0, q.name = s → q.args.length = k0.many ∧ ∀ a ∈ q.args, t.pattern a = 0 := fun q hq hn => by
              obtain ⟨k1, f1, m1, a1⟩ := pat_con (hok' q hq) (h3a q hq)
              rw [hn, ← hn0, f0] at f1
              cases f1
              exact ⟨m1, a1⟩
            have each : ∀ n, n < k0.many → ∃ ty, WfTy t ty ∧ ∀ a ∈ below (bare l0) s n, HasTy t a ty := fun n hn => by
              refine agree_ty hT fu (below (bare l0) s n) (fun a ha => ?_) ?_
              · obtain ⟨q, hq, hqn, rfl⟩ := mem_below.1 ha
                obtain ⟨e1, e2⟩ := hlen q hq hqn
                exact e2 _ (getD_mem (by omega))
              · have := hb q0 hq0 (h3a q0 hq0) n (by omega)
                rw [hn0] at this
                exact this
            obtain ⟨tys, ht1, ht2⟩ := Go.Av.list_choose (p := fun (n : Nat) (ty : Ty) => WfTy t ty ∧ ∀ a ∈ below (bare l0) s n, HasTy t a ty) k0.many id each
            refine ⟨tys, by rw [hcon, ht1], fun ty hty => ?_, fun q hq hqn => ?_⟩
            · obtain ⟨i, hi⟩ := List.mem_iff_getElem?.1 hty
              exact (ht2 i ty hi).1
            · obtain ⟨e1, _⟩ := hlen q hq hqn
              exact HasTyL.of_get (by omega) fun n ty hn => (ht2 n ty hn).2 _ (mem_below.2 ⟨q, hq, hqn, rfl⟩)
          · exact ⟨List.replicate (t.con s).many .any, by simp, WfL.anys _, fun q hq hn => absurd ⟨q, hq, hn⟩ hs⟩
        obtain ⟨k0, f0, m0, _⟩ := pat_con (hok' p0 hp0) h3
        obtain ⟨d, c0, hd, hc0, _, _⟩ := hT.back _ _ f0
        have hcon : t.con p0.name = k0 := by rw [Tbl.con, f0]; rfl
        refine ⟨.data k0.data (fun s => Classical.choose (hf s)), .data hd (fun e => by rw [e] at hc0; cases hc0) (fun c hc => ?_) (fun c hc => (Classical.choose_spec (hf c.name)).2.1), lift _ fun p hp => ?_⟩
        · rw [(Classical.choose_spec (hf c.name)).1]
          obtain ⟨y, f1, _, m1⟩ := hT.uniq _ _ _ hd hc
          rw [Tbl.con, f1]
          exact m1
        · obtain ⟨k1, f1, m1, _⟩ := pat_con (hok' p hp) (h3a p hp)
          have hcp : t.con p.name = k1 := by rw [Tbl.con, f1]; rfl
          have hdd := hdata p hp
          rw [hcp, hcon] at hdd
          rw [HasTy_eq, if_neg (by simp [(mem_bare.1 hp).2]), if_neg (by have := h3a p hp; omega)]
          exact ⟨h3a p hp, k0.data, _, k1, rfl, f1, hdd, (Classical.choose_spec (hf p.name)).2.2 p hp rfl⟩

/-- A column that has a type agrees. -/
theorem ty_agree {t : Tbl} : ∀ (fu : Nat) (l : List Pat) (ty : Ty), nodesL l < fu → (∀ p ∈ l, t.pattern p = 0) → (∀ p ∈ l, HasTy t p ty) → t.agreeF fu l = true
  | 0, l, ty, h, _, _ => by omega
  | fu + 1, l0, ty, hfu, hok, hty => by
    have hk : ∀ p ∈ bare l0, ∀ q ∈ bare l0, t.kind p = t.kind q := fun p hp q hq => by
      obtain ⟨hp1, hp2⟩ := mem_bare.1 hp
      obtain ⟨hq1, hq2⟩ := mem_bare.1 hq
      by_cases h2 : p.kind = 2
      · have e := (hty p hp1).int hp2 h2
        subst e
        have hq2 : q.kind = 2 := by
          by_cases e : q.kind = 2
          · exact e
          · obtain ⟨_, i, f, k0, e, _⟩ := (hty q hq1).con hq2 e
            cases e
        rw [Tbl.kind, Tbl.kind, if_pos h2, if_pos hq2]
      · obtain ⟨h3, i, f, k0, rfl, f0, d0, _⟩ := (hty p hp1).con hp2 h2
        have hq2' : ¬ q.kind = 2 := fun e => by
          have := (hty q hq1).int hq2 e
          cases this
        obtain ⟨h3', i', f', k0', e, f0', d0', _⟩ := (hty q hq1).con hq2 hq2'
        cases e
        rw [Tbl.kind, Tbl.kind, if_neg h2, if_pos h3, if_neg hq2', if_pos h3', Tbl.con, Tbl.con, f0, f0']
        simp [d0, d0']
    rw [Tbl.agreeF, Bool.and_eq_true]
    refine ⟨List.all_eq_true.2 fun p hp => ?_, List.all_eq_true.2 fun k hk' => ?_⟩
    · have : (bare l0).headD Pat.any ∈ bare l0 := by
        cases hl : bare l0 with
        | nil => rw [hl] at hp; cases hp
        | cons q r => simp
      simpa using hk p hp _ this
    · have hlt := List.mem_range.1 hk'
      have hpk : (bare l0)[k]? = some (bare l0)[k] := List.getElem?_eq_getElem hlt
      rw [hpk]
      generalize hpe : (bare l0)[k] = p at hpk
      have hp := List.mem_of_getElem? hpk
      obtain ⟨hp1, hp2⟩ := mem_bare.1 hp
      simp only [Bool.or_eq_true, List.all_eq_true, List.mem_range]
      by_cases h3 : p.kind = 3
      · refine .inr fun n hn => ?_
        have hsame : ∀ q ∈ bare l0, q.name = p.name → n < q.args.length ∧ ∀ a ∈ q.args, t.pattern a = 0 := fun q hq hqn => by
          obtain ⟨ka, f1, m1, a1⟩ := pat_con (hok q (mem_bare.1 hq).1) (kind3 (hk q hq p hp) h3)
          obtain ⟨kb, f2, m2, _⟩ := pat_con (hok p hp1) h3
          rw [hqn, f2] at f1
          cases f1
          exact ⟨by omega, a1⟩
        have h1 := nodes_below (l := bare l0) (s := p.name) (n := n) fun q hq e => (hsame q hq e).1
        have h2 := bare_nodes l0
        have hmem : p.args.getD n Pat.any ∈ below (bare l0) p.name n := mem_below.2 ⟨p, hp, rfl, rfl⟩
        have hpos : 0 < (below (bare l0) p.name n).length := List.length_pos_iff.2 fun e => by rw [e] at hmem; cases hmem
        obtain ⟨_, i, f, k0, hty0, f0, d0, hargs⟩ := (hty p hp1).con hp2 (by omega)
        have hfl := hargs.len
        have hget : (f p.name)[n]? = some ((f p.name)[n]'(by omega)) := List.getElem?_eq_getElem (by omega)
        refine ty_agree fu (below (bare l0) p.name n) ((f p.name)[n]'(by omega)) (by omega) (fun a ha => ?_) (fun a ha => ?_)
        · obtain ⟨q, hq, hqn, rfl⟩ := mem_below.1 ha
          obtain ⟨e1, e2⟩ := hsame q hq hqn
          exact e2 _ (getD_mem e1)
        · obtain ⟨q, hq, hqn, rfl⟩ := mem_below.1 ha
          obtain ⟨e1, e2⟩ := hsame q hq hqn
          have hq3 := kind3 (hk q hq p hp) h3
          obtain ⟨_, i', f', k1, e, f1, d1, hargs'⟩ := (hty q (mem_bare.1 hq).1).con (mem_bare.1 hq).2 (by omega)
          rw [hty0] at e
          cases e
          rw [hqn] at hargs'
          exact hargs'.get n _ _ (by rw [List.getD_eq_getElem?_getD, List.getElem?_eq_getElem e1]; rfl) hget
      · exact .inl (.inr (by simpa using h3))

end Go.Proofs.Ytakdmelemfnmdaa
end

section
/-
  A check that passes, and what Missing and Redundant then answer.
-/
set_option linter.unusedVariables false
namespace Go.Proofs.Ytakdmelemfnmdaa

/-- Rows that stand over a table, with types. -/
structure Stands (t : Tbl) (rows : List (List Pat)) (tys : List Ty) : Prop where
  tbl : TblOK t
  len : rows.length ≤ 64
  nodes : nodesR rows ≤ 400
  wf : WfL t tys
  typed : TypedR t rows tys
  ok : ∀ r ∈ rows, ∀ p ∈ r, t.pattern p = 0

theorem check_zero {datas : List Data} {rows : List (List Pat)} (h : check datas rows = 0) : ∃ t, build datas = some t ∧ t.datas = datas ∧ (∀ r ∈ rows, r.length = (rows.headD []).length) ∧ (rows.headD []).length ≤ 16 ∧ ∃ tys, tys.length = (rows.headD []).length ∧ Stands t rows tys := by
  unfold check at h
  by_cases hs : small datas rows = true
  · rw [if_neg (by simp [hs])] at h
    obtain ⟨hs1, hs2, hs3⟩ := small_facts hs
    cases hb : build datas with
    | none =>
      rw [hb] at h
      cases h
    | some t =>
      rw [hb] at h
      simp only at h
      obtain ⟨hT, hdat⟩ := build_ok hb
      unfold Tbl.checkT at h
      by_cases h1 : (rows.all fun r => decide (r.length = (rows.headD []).length)) = true
      · rw [if_neg (by rw [h1]; simp)] at h
        have hl : ∀ r ∈ rows, r.length = (rows.headD []).length := fun r hr => by simpa using List.all_eq_true.1 h1 r hr
        by_cases h2 : t.patternL rows.flatten = 0
        · rw [if_neg (by simp [h2])] at h
          have hpok : ∀ r ∈ rows, ∀ p ∈ r, t.pattern p = 0 := fun r hr p hp => (patternL_zero t).1 h2 p (List.mem_flatten.2 ⟨r, hr, hp⟩)
          by_cases h3 : (List.range (rows.headD []).length).all (t.agreeCol rows) = true
          · have each : ∀ n, n < (rows.headD []).length → ∃ ty, WfTy t ty ∧ ∀ p ∈ column rows n, HasTy t p ty := fun n hn => by
              have := List.all_eq_true.1 h3 n (List.mem_range.2 hn)
              refine agree_ty hT _ _ (fun p hp => ?_) this
              obtain ⟨r, hr, rfl⟩ := List.mem_map.1 hp
              exact hpok r hr _ (getD_mem (by rw [hl r hr]; exact hn))
            obtain ⟨tys, ht1, ht2⟩ := Go.Av.list_choose (p := fun (n : Nat) (ty : Ty) => WfTy t ty ∧ ∀ p ∈ column rows n, HasTy t p ty) _ id each
            refine ⟨t, rfl, hdat, hl, head_len hs3, tys, ht1, hT, hs1, hs2, fun ty hty => ?_, fun r hr => ?_, hpok⟩
            · obtain ⟨i, hi⟩ := List.mem_iff_getElem?.1 hty
              exact (ht2 i ty hi).1
            · exact HasTyL.of_get (by rw [ht1, hl r hr]) fun n ty hn => (ht2 n ty hn).2 _ (List.mem_map.2 ⟨r, hr, rfl⟩)
          · rw [if_neg h3] at h
            cases h
        · rw [if_pos (by simpa using h2)] at h
          exact absurd h h2
      · rw [if_pos (by simpa using h1)] at h
        cases h
  · rw [if_pos (by simpa using hs)] at h
    cases h

/-- Rows that stand pass the check, if they are small. -/
theorem check_of {datas : List Data} {rows : List (List Pat)} {t : Tbl} {tys : List Ty} (hb : build datas = some t) (hs : small datas rows = true) (hty : TypedR t rows tys) (hok : ∀ r ∈ rows, ∀ p ∈ r, t.pattern p = 0) : check datas rows = 0 := by
  unfold check
  rw [if_neg (by simp [hs]), hb]
  have hl : ∀ r ∈ rows, r.length = (rows.headD []).length := fun r hr => by
    cases rows with
    | nil => cases hr
    | cons q rows =>
      rw [(hty r hr).len]
      exact ((hty q (by simp)).len).symm
  have h1 : (rows.all fun r => decide (r.length = (rows.headD []).length)) = true := List.all_eq_true.2 fun r hr => by simpa using hl r hr
  have h2 : t.patternL rows.flatten = 0 := (patternL_zero t).2 fun p hp => by
    obtain ⟨r, hr, hp⟩ := List.mem_flatten.1 hp
    exact hok r hr p hp
  show t.checkT rows = 0
  unfold Tbl.checkT
  rw [if_neg (by rw [h1]; simp), if_neg (by simp [h2]), if_pos]
  refine List.all_eq_true.2 fun n hn => ?_
  have hn := List.mem_range.1 hn
  have hlen : ∀ r ∈ rows, n < r.length := fun r hr => by rw [hl r hr]; exact hn
  cases rows with
  | nil => simp at hn
  | cons q rows =>
    have htl : n < tys.length := by
      have := (hty q (by simp)).len
      simp at hn
      omega
    refine ty_agree _ _ (tys[n]) (by omega) (fun p hp => ?_) (fun p hp => ?_)
    · obtain ⟨r, hr, rfl⟩ := List.mem_map.1 hp
      exact hok r hr _ (getD_mem (hlen r hr))
    · obtain ⟨r, hr, rfl⟩ := List.mem_map.1 hp
      exact (hty r hr).get n _ _ (by rw [List.getD_eq_getElem?_getD, List.getElem?_eq_getElem (hlen r hr)]; rfl) (List.getElem?_eq_getElem htl)

mutual
theorem Pat.wt_nodes : ∀ p : Pat, p.wt + 1 ≤ 2 * p.nodes
  | .mk k s n l => by
    have := wtL_nodes' l
    rw [Pat.wt, Pat.nodes]
    split <;> omega
theorem wtL_nodes' : ∀ l : List Pat, wtL l + l.length ≤ 2 * nodesL l
  | [] => by simp [wtL, nodesL]
  | p :: r => by
    have h1 := p.wt_nodes
    have h2 := wtL_nodes' r
    simp only [wtL, nodesL, List.length_cons]
    omega
end

theorem wtL_nodes (l : List Pat) : wtL l ≤ 2 * nodesL l := by
  have := wtL_nodes' l
  omega

theorem wtR_nodes : ∀ rows : List (List Pat), wtR rows ≤ 2 * nodesR rows
  | [] => by simp [wtR]
  | r :: rows => by
    have h1 := wtL_nodes r
    have h2 := wtR_nodes rows
    simp only [wtR, nodesR]
    omega

theorem Stands.small {t : Tbl} {rows : List (List Pat)} {tys : List Ty} (h : Stands t rows tys) : SmallR rows := by
  refine ⟨h.len, fun r hr p hp => ?_⟩
  have h1 := nodesL_mem hp
  have h2 := nodesR_mem hr
  have := h.nodes
  omega

theorem Stands.wt {t : Tbl} {rows : List (List Pat)} {tys : List Ty} (h : Stands t rows tys) : wtR rows ≤ 800 := by
  have := wtR_nodes rows
  have := h.nodes
  omega

/-- Fewer rows stand, too. -/
theorem nodesR_sub : ∀ {a b : List (List Pat)}, a.Sublist b → nodesR a ≤ nodesR b
  | _, _, .slnil => Nat.le_refl _
  | _, _, .cons r h => by
    have := nodesR_sub h
    rw [nodesR]
    omega
  | _, _, .cons_cons r h => by
    have := nodesR_sub h
    rw [nodesR, nodesR]
    omega

theorem Stands.sub {t : Tbl} {rows less : List (List Pat)} {tys : List Ty} (h : Stands t rows tys) (hs : less.Sublist rows) : Stands t less tys where
  tbl := h.tbl
  len := Nat.le_trans hs.length_le h.len
  nodes := Nat.le_trans (nodesR_sub hs) h.nodes
  wf := h.wf
  typed := fun r hr => h.typed r (hs.subset hr)
  ok := fun r hr => h.ok r (hs.subset hr)

/-! What Missing and Redundant answer. -/

@[irreducible] def Tbl.missing (t : Tbl) (rows : List (List Pat)) (m : Nat) : List Pat × Bool := t.missingF 5000 rows m
@[irreducible] def Tbl.useful (t : Tbl) (rows : List (List Pat)) (row : List Pat) : Bool := t.usefulF 5000 rows row

def missingE (datas : List Data) (rows : List (List Pat)) (columns : Int) : List Pat × Int :=
  if check datas rows ≠ 0 then ([], check datas rows)
  else if columns < 0 ∨ 16 < columns ∨ (0 < rows.length ∧ columns ≠ (rows.headD []).length) then ([], 1)
  else match build datas with
    | none => ([], 0)
    | some t => if (t.missing rows columns.toNat).2 then ((t.missing rows columns.toNat).1, 0) else ([], 0)

def Tbl.redundant (t : Tbl) (rows : List (List Pat)) : List Int := ((List.range rows.length).filter fun k => !t.useful (rows.take k) (rows.getD k [])).map fun k : Nat => (k : Int)

def redundantE (datas : List Data) (rows : List (List Pat)) : List Int × Int :=
  if check datas rows ≠ 0 then ([], check datas rows)
  else match build datas with
    | none => ([], 0)
    | some t => (t.redundant rows, 0)

/-- There are values that no row matches. -/
def Miss (t : Tbl) (rows : List (List Pat)) (tys : List Ty) : Prop := ∃ vs, InhL t vs tys ∧ Disj rows vs

theorem missing_iff {t : Tbl} {rows : List (List Pat)} {tys : List Ty} (h : Stands t rows tys) (hl : tys.length ≤ 16) : ((t.missing rows tys.length).2 = true ↔ Miss t rows tys) ∧ ((t.missing rows tys.length).2 = true → (t.missing rows tys.length).1.length = tys.length ∧ ∀ vs, matL (t.missing rows tys.length).1 vs → Disj rows vs) := by
  unfold Tbl.missing
  exact missing_main h.tbl 5000 rows tys (by have := h.wt; omega) h.typed h.wf

theorem useful_iff {t : Tbl} {rows : List (List Pat)} {row : List Pat} {tys : List Ty} (h : Stands t rows tys) (hl : tys.length ≤ 16) (hr : HasTyL t row tys) (hn : nodesL row ≤ 400) : t.useful rows row = true ↔ ∃ vs, InhL t vs tys ∧ matL row vs ∧ Disj rows vs := by
  unfold Tbl.useful
  exact useful_main h.tbl 5000 rows row tys (by
    have := h.wt
    have := wtL_nodes row
    have := hr.len
    omega) h.typed hr h.wf

end Go.Proofs.Ytakdmelemfnmdaa
end

section
set_option linter.unusedSimpArgs false
set_option linter.unusedVariables false
set_option maxHeartbeats 1000000
set_option maxRecDepth 100000
-- !tab vtab
-- !upto Pat.enc_upto Pat.map_upto any_upto rows_upto Con.enc_upto Con.map_upto Data.enc_upto Data.map_upto Tbl.enc_upto entry_upto
namespace Go.Proofs.Ytakdmelemfnmdaa
open Go.Av

theorem checkRes_zero {datas : List Data} {rows : List (List Pat)} {t : Tbl} (h : check datas rows = 0) (hb : build datas = some t) : checkRes datas rows = .tup [t.enc, aI 0] := (checkRes_ok h hb).symm

theorem checkRes_err {datas : List Data} {rows : List (List Pat)} (h : check datas rows ≠ 0) : checkRes datas rows = .tup [zeroTbl, aI (check datas rows)] := by
 rw [checkRes, if_neg h]

theorem Check_spec (datas : List Data) (rows : List (List Pat)) : PCall Try.prog 24 [eD datas, eRR rows] (aI (check datas rows)) := by
 have hc := check_spec datas rows
 by_cases h0 : check datas rows = 0
 ·obtain ⟨t, hb, _⟩ := check_zero h0
  rw [checkRes_zero h0 hb] at hc
  rw [h0]
  refine ecall_of hT true 0 Try.func24 rfl (by kernel_rfl) (by simp [Try.ntmps24]) (by simp) ?_
  show AWP Try.prog _ _ _ ⟨14, _, _⟩
  dsimp only [Tmp, TypeId, slotsOf]
  first | refine zg1 ?_ | refine zg0 ?_ | refine zg2 ?_ | refine zg3 ?_
  simp -dsimp only [simprocAttr, ↓vpre, zp]
  refine at_intro ?_
  simp -dsimp only [vend, ne_eq, Nat.reduceEqDiff, reduceCtorEq]
  first | refine zg1 ?_ | refine zg0 ?_ | refine zg2 ?_ | refine zg3 ?_
  simp -dsimp only [simprocAttr, ↓vpre, zp]
  refine .inl ⟨_, hc, by first | (simp only [uptoL, AVal.upto, zt, zu, any_upto, rows_upto]; done) | (simp [uptoL, AVal.upto, zu, any_upto, rows_upto]; done), later_intro ?_⟩
  simp -dsimp only [simprocAttr, ↓vpre, zp]
  refine at_intro ?_
  simp -dsimp only [vend, ne_eq, Nat.reduceEqDiff, reduceCtorEq]
  first | refine zg1 ?_ | refine zg0 ?_ | refine zg2 ?_ | refine zg3 ?_
  simp -dsimp only [simprocAttr, ↓vpre, zp]
  refine at_intro ?_
  simp -dsimp only [vend, ne_eq, Nat.reduceEqDiff, reduceCtorEq]
  refine awp_ret ?_
  simp -dsimp only [simprocAttr, ↓vpre, zp, RetTo, Try.results24, retVals, retVal, mkRet, AVal.upto, Nat.zero_le, Nat.le_refl, seqPost_ret, blockPost_ret, loopPost_ret]
 ·rw [checkRes_err h0] at hc
  refine ecall_of hT true 0 Try.func24 rfl (by kernel_rfl) (by simp [Try.ntmps24]) (by simp) ?_
  show AWP Try.prog _ _ _ ⟨14, _, _⟩
  dsimp only [Tmp, TypeId, slotsOf]
  first | refine zg1 ?_ | refine zg0 ?_ | refine zg2 ?_ | refine zg3 ?_
  simp -dsimp only [simprocAttr, ↓vpre, zp]
  refine at_intro ?_
  simp -dsimp only [vend, ne_eq, Nat.reduceEqDiff, reduceCtorEq]
  first | refine zg1 ?_ | refine zg0 ?_ | refine zg2 ?_ | refine zg3 ?_
  simp -dsimp only [simprocAttr, ↓vpre, zp]
  refine .inl ⟨_, hc, by first | (simp only [uptoL, AVal.upto, zt, zu, any_upto, rows_upto]; done) | (simp [uptoL, AVal.upto, zu, any_upto, rows_upto]; done), later_intro ?_⟩
  simp -dsimp only [simprocAttr, ↓vpre, zp, zeroTbl]
  refine at_intro ?_
  simp -dsimp only [vend, ne_eq, Nat.reduceEqDiff, reduceCtorEq]
  first | refine zg1 ?_ | refine zg0 ?_ | refine zg2 ?_ | refine zg3 ?_
  simp -dsimp only [simprocAttr, ↓vpre, zp]
  refine at_intro ?_
  simp -dsimp only [vend, ne_eq, Nat.reduceEqDiff, reduceCtorEq]
  refine awp_ret ?_
  simp -dsimp only [simprocAttr, ↓vpre, zp, RetTo, Try.results24, retVals, retVal, mkRet, AVal.upto, Nat.zero_le, Nat.le_refl, seqPost_ret, blockPost_ret, loopPost_ret]

theorem missing_call {t : Tbl} {rows : List (List Pat)} {tys : List Ty} (hst : Stands t rows tys) (hF : FitD t.datas) (hl : tys.length ≤ 16) {columns : Int} (hc : columns = (tys.length : Nat)) : PCall Try.prog 28 [t.enc, eRR rows, aI columns] (missRes (t.missing rows columns.toNat)) := by
 have := missing_spec hst.tbl hF 5000 rows tys (by have := hst.wt; omega) hst.typed hst.wf hst.small (by omega)
 rw [hc, Int.toNat_natCast, Tbl.missing]
 exact this

theorem useful_call {t : Tbl} {rows : List (List Pat)} {row : List Pat} {tys : List Ty} (hst : Stands t rows tys) (hF : FitD t.datas) (hl : tys.length ≤ 16) (hr : HasTyL t row tys) (hn : nodesL row ≤ 400) : PCall Try.prog 29 [t.enc, eRR rows, eR row] (.v (.bool (t.useful rows row))) := by
 have := useful_spec hst.tbl hF 5000 rows row tys (by
  have := hst.wt
  have := wtL_nodes row
  have := hr.len
  omega) hst.typed hr hst.wf hst.small (fun p hp => Nat.le_trans (nodesL_mem hp) hn) (by omega)
 rw [Tbl.useful]
 exact this

theorem head_get (rows : List (List Pat)) (h : 0 < rows.length) : rows[0]? = some (rows.headD []) := by
 cases rows with
 | nil => simp at h
 | cons r x => rfl

theorem Missing_spec {datas : List Data} (hF : FitD datas) (rows : List (List Pat)) (columns : Int) : PCall Try.prog 12 [eD datas, eRR rows, aI columns] (.tup [eR (missingE datas rows columns).1, aI (missingE datas rows columns).2]) := by
 have hc := check_spec datas rows
 rw [missingE]
 by_cases h0 : check datas rows = 0
 ·obtain ⟨t, hb, hdat, hl, h16, tys, hty, hst⟩ := check_zero h0
  rw [checkRes_zero h0 hb] at hc
  rw [if_neg (by simp [h0]), hb]
  simp only
  have hl64 := hst.len
  have hhead := head_get rows
  generalize hR : (if columns < 0 ∨ 16 < columns ∨ (0 < rows.length ∧ columns ≠ (rows.headD []).length) then (([] : List Pat), (1 : Int)) else if (t.missing rows columns.toNat).2 = true then ((t.missing rows columns.toNat).1, 0) else ([], 0)) = R
  refine ecall_of hT true 0 Try.func12 rfl (by kernel_rfl) (by simp [Try.ntmps12]) (by simp) ?_
  show AWP Try.prog _ _ _ ⟨52, _, _⟩
  dsimp only [Tmp, TypeId, slotsOf]
  first | refine zg1 ?_ | refine zg0 ?_ | refine zg2 ?_ | refine zg3 ?_
  simp -dsimp only [simprocAttr, ↓vpre, zp]
  refine at_intro ?_
  simp -dsimp only [vend, ne_eq, Nat.reduceEqDiff, reduceCtorEq]
  first | refine zg1 ?_ | refine zg0 ?_ | refine zg2 ?_ | refine zg3 ?_
  simp -dsimp only [simprocAttr, ↓vpre, zp]
  refine .inl ⟨_, hc, by first | (simp only [uptoL, AVal.upto, zt, zu, any_upto, rows_upto]; done) | (simp [uptoL, AVal.upto, zu, any_upto, rows_upto]; done), later_intro ?_⟩
  simp -dsimp only [simprocAttr, ↓vpre, zp]
  refine at_intro ?_
  simp -dsimp only [vend, ne_eq, Nat.reduceEqDiff, reduceCtorEq]
  first | refine awp_seq (awp_block ?_) | refine awp_block ?_
  first | refine zg1 ?_ | refine zg0 ?_ | refine zg2 ?_ | refine zg3 ?_
  simp -dsimp only [simprocAttr, ↓vpre, zp]
  refine at_intro ?_
  simp -dsimp only [vend, ne_eq, Nat.reduceEqDiff, reduceCtorEq]
  first | refine zk1 rfl (fun h => ?_) (fun h => ?_) | refine zk0 rfl (fun h => ?_) (fun h => ?_) | refine zk2 rfl (fun h => ?_) (fun h => ?_)
  ·cases h
  ·first | refine zg1 ?_ | refine zg0 ?_ | refine zg2 ?_ | refine zg3 ?_
   simp -dsimp only [simprocAttr, ↓vpre, zp]
   refine vcIf_split (fun h1 => ?_) (fun h1 => ?_)
   ·have hc1 : decide (columns < 0) = false := by simpa using h1
    have hc1' : ¬ columns < 0 := by simpa using hc1
    simp -dsimp only [simprocAttr, ↓vpre, zp, hc1]
    refine vcIf_split (fun h2 => ?_) (fun h2 => ?_)
    ·have hc2 : decide (16 < columns) = false := by simpa using h2
     have hc2' : ¬ 16 < columns := by simpa using hc2
     simp -dsimp only [simprocAttr, ↓vpre, zp, hc1, hc2]
     refine vcIf_split (fun h3 => ?_) (fun h3 => ?_)
     ·have hpos : 0 < rows.length := by
       have h4 : (0 : Int) < rows.length := of_decide_eq_true h3
       omega
      have hr0 := hhead hpos
      simp -dsimp only [simprocAttr, ↓vpre, zp, hc1, hc2, h3, hr0]
      refine at_intro ?_
      simp -dsimp only [vend, ne_eq, Nat.reduceEqDiff, reduceCtorEq]
      first | refine zk1 rfl (fun h => ?_) (fun h => ?_) | refine zk0 rfl (fun h => ?_) (fun h => ?_) | refine zk2 rfl (fun h => ?_) (fun h => ?_)
      ·have hne : ¬ columns = (rows.headD []).length := by simpa using h
       have hbt : columns < 0 ∨ 16 < columns ∨ (0 < rows.length ∧ columns ≠ (rows.headD []).length) := by exact .inr (.inr ⟨hpos, hne⟩)
       rw [if_pos hbt] at hR
       first | refine zg1 ?_ | refine zg0 ?_ | refine zg2 ?_ | refine zg3 ?_
       simp -dsimp only [simprocAttr, ↓vpre, zp]
       refine at_intro ?_
       simp -dsimp only [vend, ne_eq, Nat.reduceEqDiff, reduceCtorEq]
       refine awp_ret ?_
       simp -dsimp only [simprocAttr, ↓vpre, zp, RetTo, Try.results12, retVals, retVal, mkRet, AVal.upto, Nat.zero_le, Nat.le_refl, seqPost_ret, blockPost_ret, loopPost_ret]
       rw [← hR]
       exact ⟨by simp [uptoL, AVal.upto], rfl⟩
      ·have hne : columns = (rows.headD []).length := by simpa using h
       have hct : columns.toNat = tys.length := by rw [hty]; omega
       have hbt : ¬ (columns < 0 ∨ 16 < columns ∨ (0 < rows.length ∧ columns ≠ (rows.headD []).length)) := by rintro (e | e | ⟨_, e⟩); exact hc1' e; exact hc2' e; exact e hne
       have hmc := missing_call hst (hdat.symm ▸ hF) (by omega) (show columns = (tys.length : Nat) by omega)
       rw [if_neg hbt] at hR
       obtain ⟨⟨out, is⟩, hq⟩ : ∃ q, q = t.missing rows columns.toNat := ⟨_, rfl⟩
       rw [← hq] at hmc hR
       refine awp_skip ?_
       simp -dsimp only [vend, ne_eq, Nat.reduceEqDiff, reduceCtorEq]
       first | refine zg1 ?_ | refine zg0 ?_ | refine zg2 ?_ | refine zg3 ?_
       simp -dsimp only [simprocAttr, ↓vpre, zp]
       refine .inl ⟨_, hmc, by first | (simp only [uptoL, AVal.upto, zt, zu, any_upto, rows_upto]; done) | (simp [uptoL, AVal.upto, zu, any_upto, rows_upto]; done), later_intro ?_⟩
       simp -dsimp only [simprocAttr, ↓vpre, zp, missRes]
       refine at_intro ?_
       simp -dsimp only [vend, ne_eq, Nat.reduceEqDiff, reduceCtorEq]
       first | refine zg1 ?_ | refine zg0 ?_ | refine zg2 ?_ | refine zg3 ?_
       simp -dsimp only [simprocAttr, ↓vpre, zp]
       refine at_intro ?_
       simp -dsimp only [vend, ne_eq, Nat.reduceEqDiff, reduceCtorEq]
       first | refine zk1 rfl (fun h => ?_) (fun h => ?_) | refine zk0 rfl (fun h => ?_) (fun h => ?_) | refine zk2 rfl (fun h => ?_) (fun h => ?_)
       ·have his : is = false := by simpa using h
        subst his
        first | refine zg1 ?_ | refine zg0 ?_ | refine zg2 ?_ | refine zg3 ?_
        simp -dsimp only [simprocAttr, ↓vpre, zp]
        refine at_intro ?_
        simp -dsimp only [vend, ne_eq, Nat.reduceEqDiff, reduceCtorEq]
        refine awp_ret ?_
        simp -dsimp only [simprocAttr, ↓vpre, zp, RetTo, Try.results12, retVals, retVal, mkRet, AVal.upto, Nat.zero_le, Nat.le_refl, seqPost_ret, blockPost_ret, loopPost_ret]
        rw [← hR]
        exact ⟨by simp [uptoL, AVal.upto], rfl⟩
       ·have his : is = true := by simpa using h
        subst his
        refine awp_skip ?_
        simp -dsimp only [vend, ne_eq, Nat.reduceEqDiff, reduceCtorEq]
        first | refine zg1 ?_ | refine zg0 ?_ | refine zg2 ?_ | refine zg3 ?_
        simp -dsimp only [simprocAttr, ↓vpre, zp]
        refine at_intro ?_
        simp -dsimp only [vend, ne_eq, Nat.reduceEqDiff, reduceCtorEq]
        refine awp_ret ?_
        simp -dsimp only [simprocAttr, ↓vpre, zp, RetTo, Try.results12, retVals, retVal, mkRet, AVal.upto, Nat.zero_le, Nat.le_refl, seqPost_ret, blockPost_ret, loopPost_ret]
        rw [← hR]
        exact ⟨by simp [uptoL, AVal.upto, Pat.map_upto], rfl⟩
     ·have hz : rows = [] := by
       cases rows with
       | nil => rfl
       | cons r x => simp at h3
      simp -dsimp only [simprocAttr, ↓vpre, zp, hc1, hc2, h3]
      refine at_intro ?_
      simp -dsimp only [vend, ne_eq, Nat.reduceEqDiff, reduceCtorEq]
      first | refine zk1 rfl (fun h => ?_) (fun h => ?_) | refine zk0 rfl (fun h => ?_) (fun h => ?_) | refine zk2 rfl (fun h => ?_) (fun h => ?_)
      ·cases h
      ·have hct : columns.toNat = (List.replicate columns.toNat Ty.any).length := by simp
       have hbt : ¬ (columns < 0 ∨ 16 < columns ∨ (0 < rows.length ∧ columns ≠ (rows.headD []).length)) := by rintro (e | e | ⟨e, _⟩); exact hc1' e; exact hc2' e; rw [hz] at e; simp at e
       have hst2 : Stands t rows (List.replicate columns.toNat Ty.any) := ⟨hst.tbl, hst.len, hst.nodes, WfL.anys _, (by rw [hz]; intro r hr; cases hr), hst.ok⟩
       have hmc := missing_call hst2 (hdat.symm ▸ hF) (by rw [List.length_replicate]; omega) (show columns = ((List.replicate columns.toNat Ty.any).length : Nat) by rw [List.length_replicate]; omega)
       rw [if_neg hbt] at hR
       obtain ⟨⟨out, is⟩, hq⟩ : ∃ q, q = t.missing rows columns.toNat := ⟨_, rfl⟩
       rw [← hq] at hmc hR
       refine awp_skip ?_
       simp -dsimp only [vend, ne_eq, Nat.reduceEqDiff, reduceCtorEq]
       first | refine zg1 ?_ | refine zg0 ?_ | refine zg2 ?_ | refine zg3 ?_
       simp -dsimp only [simprocAttr, ↓vpre, zp]
       refine .inl ⟨_, hmc, by first | (simp only [uptoL, AVal.upto, zt, zu, any_upto, rows_upto]; done) | (simp [uptoL, AVal.upto, zu, any_upto, rows_upto]; done), later_intro ?_⟩
       simp -dsimp only [simprocAttr, ↓vpre, zp, missRes]
       refine at_intro ?_
       simp -dsimp only [vend, ne_eq, Nat.reduceEqDiff, reduceCtorEq]
       first | refine zg1 ?_ | refine zg0 ?_ | refine zg2 ?_ | refine zg3 ?_
       simp -dsimp only [simprocAttr, ↓vpre, zp]
       refine at_intro ?_
       simp -dsimp only [vend, ne_eq, Nat.reduceEqDiff, reduceCtorEq]
       first | refine zk1 rfl (fun h => ?_) (fun h => ?_) | refine zk0 rfl (fun h => ?_) (fun h => ?_) | refine zk2 rfl (fun h => ?_) (fun h => ?_)
       ·have his : is = false := by simpa using h
        subst his
        first | refine zg1 ?_ | refine zg0 ?_ | refine zg2 ?_ | refine zg3 ?_
        simp -dsimp only [simprocAttr, ↓vpre, zp]
        refine at_intro ?_
        simp -dsimp only [vend, ne_eq, Nat.reduceEqDiff, reduceCtorEq]
        refine awp_ret ?_
        simp -dsimp only [simprocAttr, ↓vpre, zp, RetTo, Try.results12, retVals, retVal, mkRet, AVal.upto, Nat.zero_le, Nat.le_refl, seqPost_ret, blockPost_ret, loopPost_ret]
        rw [← hR]
        exact ⟨by simp [uptoL, AVal.upto], rfl⟩
       ·have his : is = true := by simpa using h
        subst his
        refine awp_skip ?_
        simp -dsimp only [vend, ne_eq, Nat.reduceEqDiff, reduceCtorEq]
        first | refine zg1 ?_ | refine zg0 ?_ | refine zg2 ?_ | refine zg3 ?_
        simp -dsimp only [simprocAttr, ↓vpre, zp]
        refine at_intro ?_
        simp -dsimp only [vend, ne_eq, Nat.reduceEqDiff, reduceCtorEq]
        refine awp_ret ?_
        simp -dsimp only [simprocAttr, ↓vpre, zp, RetTo, Try.results12, retVals, retVal, mkRet, AVal.upto, Nat.zero_le, Nat.le_refl, seqPost_ret, blockPost_ret, loopPost_ret]
        rw [← hR]
        exact ⟨by simp [uptoL, AVal.upto, Pat.map_upto], rfl⟩
    ·have hc2 : decide (16 < columns) = true := by simpa using h2
     have hc2' : 16 < columns := by simpa using hc2
     simp -dsimp only [simprocAttr, ↓vpre, zp, hc1, hc2]
     refine at_intro ?_
     simp -dsimp only [vend, ne_eq, Nat.reduceEqDiff, reduceCtorEq]
     first | refine zk1 rfl (fun h => ?_) (fun h => ?_) | refine zk0 rfl (fun h => ?_) (fun h => ?_) | refine zk2 rfl (fun h => ?_) (fun h => ?_)
     ·skip
      have hbt : columns < 0 ∨ 16 < columns ∨ (0 < rows.length ∧ columns ≠ (rows.headD []).length) := .inr (.inl hc2')
      rw [if_pos hbt] at hR
      first | refine zg1 ?_ | refine zg0 ?_ | refine zg2 ?_ | refine zg3 ?_
      simp -dsimp only [simprocAttr, ↓vpre, zp]
      refine at_intro ?_
      simp -dsimp only [vend, ne_eq, Nat.reduceEqDiff, reduceCtorEq]
      refine awp_ret ?_
      simp -dsimp only [simprocAttr, ↓vpre, zp, RetTo, Try.results12, retVals, retVal, mkRet, AVal.upto, Nat.zero_le, Nat.le_refl, seqPost_ret, blockPost_ret, loopPost_ret]
      rw [← hR]
      exact ⟨by simp [uptoL, AVal.upto], rfl⟩
     ·cases h
   ·have hc1 : decide (columns < 0) = true := by simpa using h1
    have hc1' : columns < 0 := by simpa using hc1
    simp -dsimp only [simprocAttr, ↓vpre, zp, hc1]
    refine at_intro ?_
    simp -dsimp only [vend, ne_eq, Nat.reduceEqDiff, reduceCtorEq]
    first | refine zk1 rfl (fun h => ?_) (fun h => ?_) | refine zk0 rfl (fun h => ?_) (fun h => ?_) | refine zk2 rfl (fun h => ?_) (fun h => ?_)
    ·skip
     have hbt : columns < 0 ∨ 16 < columns ∨ (0 < rows.length ∧ columns ≠ (rows.headD []).length) := .inl hc1'
     rw [if_pos hbt] at hR
     first | refine zg1 ?_ | refine zg0 ?_ | refine zg2 ?_ | refine zg3 ?_
     simp -dsimp only [simprocAttr, ↓vpre, zp]
     refine at_intro ?_
     simp -dsimp only [vend, ne_eq, Nat.reduceEqDiff, reduceCtorEq]
     refine awp_ret ?_
     simp -dsimp only [simprocAttr, ↓vpre, zp, RetTo, Try.results12, retVals, retVal, mkRet, AVal.upto, Nat.zero_le, Nat.le_refl, seqPost_ret, blockPost_ret, loopPost_ret]
     rw [← hR]
     exact ⟨by simp [uptoL, AVal.upto], rfl⟩
    ·cases h
 ·rw [checkRes_err h0] at hc
  rw [if_pos h0]
  refine ecall_of hT true 0 Try.func12 rfl (by kernel_rfl) (by simp [Try.ntmps12]) (by simp) ?_
  show AWP Try.prog _ _ _ ⟨52, _, _⟩
  dsimp only [Tmp, TypeId, slotsOf]
  first | refine zg1 ?_ | refine zg0 ?_ | refine zg2 ?_ | refine zg3 ?_
  simp -dsimp only [simprocAttr, ↓vpre, zp]
  refine at_intro ?_
  simp -dsimp only [vend, ne_eq, Nat.reduceEqDiff, reduceCtorEq]
  first | refine zg1 ?_ | refine zg0 ?_ | refine zg2 ?_ | refine zg3 ?_
  simp -dsimp only [simprocAttr, ↓vpre, zp]
  refine .inl ⟨_, hc, by first | (simp only [uptoL, AVal.upto, zt, zu, any_upto, rows_upto]; done) | (simp [uptoL, AVal.upto, zu, any_upto, rows_upto]; done), later_intro ?_⟩
  simp -dsimp only [simprocAttr, ↓vpre, zp, zeroTbl]
  refine at_intro ?_
  simp -dsimp only [vend, ne_eq, Nat.reduceEqDiff, reduceCtorEq]
  first | refine awp_seq (awp_block ?_) | refine awp_block ?_
  first | refine zg1 ?_ | refine zg0 ?_ | refine zg2 ?_ | refine zg3 ?_
  simp -dsimp only [simprocAttr, ↓vpre, zp]
  refine at_intro ?_
  simp -dsimp only [vend, ne_eq, Nat.reduceEqDiff, reduceCtorEq]
  first | refine zk1 rfl (fun h => ?_) (fun h => ?_) | refine zk0 rfl (fun h => ?_) (fun h => ?_) | refine zk2 rfl (fun h => ?_) (fun h => ?_)
  ·first | refine zg1 ?_ | refine zg0 ?_ | refine zg2 ?_ | refine zg3 ?_
   simp -dsimp only [simprocAttr, ↓vpre, zp]
   refine at_intro ?_
   simp -dsimp only [vend, ne_eq, Nat.reduceEqDiff, reduceCtorEq]
   refine awp_ret ?_
   simp -dsimp only [simprocAttr, ↓vpre, zp, RetTo, Try.results12, retVals, retVal, mkRet, AVal.upto, Nat.zero_le, Nat.le_refl, seqPost_ret, blockPost_ret, loopPost_ret]
   simp [uptoL, AVal.upto]
  ·have : check datas rows = 0 := by simpa using h
   exact absurd this h0

def Tbl.redTo (t : Tbl) (rows : List (List Pat)) (k : Nat) : List Int := ((List.range k).filter fun k => !t.useful (rows.take k) (rows.getD k [])).map fun k : Nat => (k : Int)

theorem redTo_succ (t : Tbl) (rows : List (List Pat)) (k : Nat) : t.redTo rows (k + 1) = if t.useful (rows.take k) (rows.getD k []) then t.redTo rows k else t.redTo rows k ++ [(k : Int)] := by
 unfold Tbl.redTo
 rw [List.range_succ, List.filter_append, List.map_append]
 cases h : t.useful (rows.take k) (rows.getD k []) with
 | false =>
  simp only [List.filter, h]
  rfl
 | true =>
  simp only [List.filter, h]
  simp

theorem redTo_len (t : Tbl) (rows : List (List Pat)) (k : Nat) : (t.redTo rows k).length ≤ k := by
 unfold Tbl.redTo
 rw [List.length_map]
 have := List.length_filter_le (fun k => !t.useful (rows.take k) (rows.getD k [])) (List.range k)
 rw [List.length_range] at this
 exact this

theorem Redundant_spec {datas : List Data} (hF : FitD datas) (rows : List (List Pat)) : PCall Try.prog 13 [eD datas, eRR rows] (.tup [eI (redundantE datas rows).1, aI (redundantE datas rows).2]) := by
 have hc := check_spec datas rows
 rw [redundantE]
 by_cases h0 : check datas rows = 0
 ·obtain ⟨t, hb, hdat, hl, h16, tys, hty, hst⟩ := check_zero h0
  rw [checkRes_zero h0 hb] at hc
  rw [if_neg (by simp [h0]), hb]
  simp only
  have hl64 := hst.len
  have hred : t.redundant rows = t.redTo rows rows.length := rfl
  rw [hred]
  refine ecall_of hT true 0 Try.func13 rfl (by kernel_rfl) (by simp [Try.ntmps13]) (by simp) ?_
  show AWP Try.prog _ _ _ ⟨40, _, _⟩
  dsimp only [Tmp, TypeId, slotsOf]
  first | refine zg1 ?_ | refine zg0 ?_ | refine zg2 ?_ | refine zg3 ?_
  simp -dsimp only [simprocAttr, ↓vpre, zp]
  refine at_intro ?_
  simp -dsimp only [vend, ne_eq, Nat.reduceEqDiff, reduceCtorEq]
  first | refine zg1 ?_ | refine zg0 ?_ | refine zg2 ?_ | refine zg3 ?_
  simp -dsimp only [simprocAttr, ↓vpre, zp]
  refine .inl ⟨_, hc, by first | (simp only [uptoL, AVal.upto, zt, zu, any_upto, rows_upto]; done) | (simp [uptoL, AVal.upto, zu, any_upto, rows_upto]; done), later_intro ?_⟩
  simp -dsimp only [simprocAttr, ↓vpre, zp]
  refine at_intro ?_
  simp -dsimp only [vend, ne_eq, Nat.reduceEqDiff, reduceCtorEq]
  first | refine zg1 ?_ | refine zg0 ?_ | refine zg2 ?_ | refine zg3 ?_
  simp -dsimp only [simprocAttr, ↓vpre, zp]
  refine at_intro ?_
  simp -dsimp only [vend, ne_eq, Nat.reduceEqDiff, reduceCtorEq]
  first | refine zk1 rfl (fun h => ?_) (fun h => ?_) | refine zk0 rfl (fun h => ?_) (fun h => ?_) | refine zk2 rfl (fun h => ?_) (fun h => ?_)
  ·cases h
  ·refine awp_skip ?_
   simp -dsimp only [vend, ne_eq, Nat.reduceEqDiff, reduceCtorEq]
   first | refine zg1 ?_ | refine zg0 ?_ | refine zg2 ?_ | refine zg3 ?_
   simp -dsimp only [simprocAttr, ↓vpre, zp]
   refine at_intro ?_
   simp -dsimp only [vend, ne_eq, Nat.reduceEqDiff, reduceCtorEq]
   refine awp_own 8 rfl ?_
   simp -dsimp only [simprocAttr, ↓vpre, zp]
   first | refine zg1 ?_ | refine zg0 ?_ | refine zg2 ?_ | refine zg3 ?_
   simp -dsimp only [simprocAttr, ↓vpre, zp]
   refine at_intro ?_
   simp -dsimp only [vend, ne_eq, Nat.reduceEqDiff, reduceCtorEq]
   first | refine awp_block (awp_loop (ι := {k : Nat // k ≤ rows.length}) (fun k => ⟨40, [(1, eRR rows), (6, .mp 0 0), (20, eRR rows), (21, aI rows.length), (22, aI k.1), (8, .lst 1 ((t.redTo rows k.1).map aI) (.tok 1))], [.cells [.lst 3 (t.datas.map Data.enc) .sh, .im .str (t.cons.map entry)], .spare (t.redTo rows k.1).length]⟩) (fun k => rows.length - k.1) ⟨0, by omega⟩ ?_ ?_) | refine awp_seq (awp_block (awp_loop (ι := {k : Nat // k ≤ rows.length}) (fun k => ⟨40, [(1, eRR rows), (6, .mp 0 0), (20, eRR rows), (21, aI rows.length), (22, aI k.1), (8, .lst 1 ((t.redTo rows k.1).map aI) (.tok 1))], [.cells [.lst 3 (t.datas.map Data.enc) .sh, .im .str (t.cons.map entry)], .spare (t.redTo rows k.1).length]⟩) (fun k => rows.length - k.1) ⟨0, by omega⟩ ?_ ?_))
   ·refine ⟨rfl, ?_, ?_⟩
    rotate_left
    simp -dsimp only [simprocAttr, ↓vpre, zp, Says, exists_eq_left', Option.some.injEq, sub_self, and_assoc, true_and, and_true]
    ·exact Sub.lst (by simp [Tbl.redTo])
    ·simp [Tbl.redTo]
   ·rintro ⟨k, hk⟩
    first | refine zg1 ?_ | refine zg0 ?_ | refine zg2 ?_ | refine zg3 ?_
    simp -dsimp only [simprocAttr, ↓vpre, zp]
    refine at_intro ?_
    simp -dsimp only [vend, ne_eq, Nat.reduceEqDiff, reduceCtorEq]
    first | refine zk1 rfl (fun h => ?_) (fun h => ?_) | refine zk0 rfl (fun h => ?_) (fun h => ?_) | refine zk2 rfl (fun h => ?_) (fun h => ?_)
    ·refine awp_skip ?_
     simp -dsimp only [vend, ne_eq, Nat.reduceEqDiff, reduceCtorEq]
     have hlt : k < rows.length := by simpa using h
     have hr : rows[k]? = some (rows.getD k []) := by
      rw [List.getD_eq_getElem?_getD, List.getElem?_eq_getElem hlt]
      rfl
     have hmem := List.mem_of_getElem? hr
     have hrl := redTo_len t rows k
     have e := redTo_succ t rows k
     have hcall := useful_call (hst.sub (List.take_sublist k rows)) (hdat.symm ▸ hF) (by omega) (hst.typed _ hmem) (Nat.le_trans (nodesR_mem hmem) hst.nodes)
     first | refine awp_seq (awp_block ?_) | refine awp_block ?_
     first | refine zg1 ?_ | refine zg0 ?_ | refine zg2 ?_ | refine zg3 ?_
     simp -dsimp only [simprocAttr, ↓vpre, zp, hr]
     refine at_intro ?_
     simp -dsimp only [vend, ne_eq, Nat.reduceEqDiff, reduceCtorEq]
     first | refine zg1 ?_ | refine zg0 ?_ | refine zg2 ?_ | refine zg3 ?_
     simp -dsimp only [simprocAttr, ↓vpre, zp]
     repeat (refine ⟨by omega, ?_⟩)
     simp -dsimp only [← List.map_take]
     refine .inl ⟨_, hcall, by first | (simp only [uptoL, AVal.upto, zt, zu, any_upto, rows_upto]; done) | (simp [uptoL, AVal.upto, zu, any_upto, rows_upto]; done), later_intro ?_⟩
     simp -dsimp only [simprocAttr, ↓vpre, zp]
     refine ⟨by (show orderB _ _ = true); kernel_rfl, at_intro ?_⟩
     simp -dsimp only [vend, ne_eq, Nat.reduceEqDiff, reduceCtorEq]
     first | refine zk1 rfl (fun h => ?_) (fun h => ?_) | refine zk0 rfl (fun h => ?_) (fun h => ?_) | refine zk2 rfl (fun h => ?_) (fun h => ?_)
     ·have hu : t.useful (rows.take k) (rows.getD k []) = false := by simpa using h
      rw [hu] at e
      simp only [Bool.false_eq_true, if_false] at e
      first | refine zg1 ?_ | refine zg0 ?_ | refine zg2 ?_ | refine zg3 ?_
      simp -dsimp only [simprocAttr, ↓vpre, zp]
      repeat (refine ⟨by omega, ?_⟩)
      refine at_intro ?_
      simp -dsimp only [vend, ne_eq, Nat.reduceEqDiff, reduceCtorEq]
      first | refine zg1 ?_ | refine zg0 ?_ | refine zg2 ?_ | refine zg3 ?_
      simp -dsimp only [simprocAttr, ↓vpre, zp]
      repeat (refine ⟨by omega, ?_⟩)
      refine at_intro ?_
      simp -dsimp only [vend, ne_eq, Nat.reduceEqDiff, reduceCtorEq]
      refine ⟨⟨k + 1, hlt⟩, by simp; omega, ?_⟩
      refine ⟨rfl, ?_, ?_⟩
      rotate_left
      simp -dsimp only [simprocAttr, ↓vpre, zp, Says, exists_eq_left', Option.some.injEq, sub_self, and_assoc, true_and, and_true]
      ·exact ⟨Sub.int (by simp), Sub.lst (by simp [e])⟩
      ·simp [e]
     ·have hu : t.useful (rows.take k) (rows.getD k []) = true := by simpa using h
      rw [hu] at e
      simp only [if_true] at e
      refine awp_skip ?_
      simp -dsimp only [vend, ne_eq, Nat.reduceEqDiff, reduceCtorEq]
      first | refine zg1 ?_ | refine zg0 ?_ | refine zg2 ?_ | refine zg3 ?_
      simp -dsimp only [simprocAttr, ↓vpre, zp]
      repeat (refine ⟨by omega, ?_⟩)
      refine at_intro ?_
      simp -dsimp only [vend, ne_eq, Nat.reduceEqDiff, reduceCtorEq]
      refine ⟨⟨k + 1, hlt⟩, by simp; omega, ?_⟩
      refine ⟨rfl, ?_, ?_⟩
      rotate_left
      simp -dsimp only [simprocAttr, ↓vpre, zp, Says, exists_eq_left', Option.some.injEq, sub_self, and_assoc, true_and, and_true]
      ·exact ⟨Sub.int (by simp), Sub.lst (by rw [e])⟩
      ·simp [e]
    ·refine awp_exit ?_
     simp -dsimp only [vend, ne_eq, Nat.reduceEqDiff, reduceCtorEq]
     have hkk : k = rows.length := by simp at h; omega
     subst hkk
     first | refine zg1 ?_ | refine zg0 ?_ | refine zg2 ?_ | refine zg3 ?_
     simp -dsimp only [simprocAttr, ↓vpre, zp]
     refine at_intro ?_
     simp -dsimp only [vend, ne_eq, Nat.reduceEqDiff, reduceCtorEq]
     refine awp_ret ?_
     simp -dsimp only [simprocAttr, ↓vpre, zp, RetTo, Try.results13, retVals, retVal, mkRet, AVal.upto, Nat.zero_le, Nat.le_refl, seqPost_ret, blockPost_ret, loopPost_ret]
     simp [uptoL, AVal.upto, int_upto]
 ·rw [checkRes_err h0] at hc
  rw [if_pos h0]
  refine ecall_of hT true 0 Try.func13 rfl (by kernel_rfl) (by simp [Try.ntmps13]) (by simp) ?_
  show AWP Try.prog _ _ _ ⟨40, _, _⟩
  dsimp only [Tmp, TypeId, slotsOf]
  first | refine zg1 ?_ | refine zg0 ?_ | refine zg2 ?_ | refine zg3 ?_
  simp -dsimp only [simprocAttr, ↓vpre, zp]
  refine at_intro ?_
  simp -dsimp only [vend, ne_eq, Nat.reduceEqDiff, reduceCtorEq]
  first | refine zg1 ?_ | refine zg0 ?_ | refine zg2 ?_ | refine zg3 ?_
  simp -dsimp only [simprocAttr, ↓vpre, zp]
  refine .inl ⟨_, hc, by first | (simp only [uptoL, AVal.upto, zt, zu, any_upto, rows_upto]; done) | (simp [uptoL, AVal.upto, zu, any_upto, rows_upto]; done), later_intro ?_⟩
  simp -dsimp only [simprocAttr, ↓vpre, zp, zeroTbl]
  refine at_intro ?_
  simp -dsimp only [vend, ne_eq, Nat.reduceEqDiff, reduceCtorEq]
  first | refine zg1 ?_ | refine zg0 ?_ | refine zg2 ?_ | refine zg3 ?_
  simp -dsimp only [simprocAttr, ↓vpre, zp]
  refine at_intro ?_
  simp -dsimp only [vend, ne_eq, Nat.reduceEqDiff, reduceCtorEq]
  first | refine zk1 rfl (fun h => ?_) (fun h => ?_) | refine zk0 rfl (fun h => ?_) (fun h => ?_) | refine zk2 rfl (fun h => ?_) (fun h => ?_)
  ·first | refine zg1 ?_ | refine zg0 ?_ | refine zg2 ?_ | refine zg3 ?_
   simp -dsimp only [simprocAttr, ↓vpre, zp]
   refine at_intro ?_
   simp -dsimp only [vend, ne_eq, Nat.reduceEqDiff, reduceCtorEq]
   refine awp_ret ?_
   simp -dsimp only [simprocAttr, ↓vpre, zp, RetTo, Try.results13, retVals, retVal, mkRet, AVal.upto, Nat.zero_le, Nat.le_refl, seqPost_ret, blockPost_ret, loopPost_ret]
   exact ⟨by simp [uptoL, AVal.upto], rfl⟩
  ·have : check datas rows = 0 := by simpa using h
   exact absurd this h0

end Go.Proofs.Ytakdmelemfnmdaa
end

section
set_option linter.unusedSimpArgs false
set_option linter.unusedVariables false
set_option maxHeartbeats 1000000
set_option maxRecDepth 100000
-- !tab vtab
-- !upto Pat.enc_upto Pat.map_upto any_upto rows_upto Con.enc_upto Con.map_upto Data.enc_upto Data.map_upto Tbl.enc_upto entry_upto
namespace Go.Av

theorem FSub.lst {O : List AObj} {id sz : Nat} {xs ys : List AVal} {o : Own} (hl : ys.length = xs.length) (hsz : ∀ y ∈ ys, y.cells.length = sz) (hsc : ∀ y ∈ ys, ∀ c ∈ y.cells, c.scalar)
  (hc : (cellsAll ys).length = (cellsAll xs).length) (h : ∀ (j : Nat) (c d : AVal), (cellsAll xs)[j]? = some c → (cellsAll ys)[j]? = some d → FSub O id c d) : FSub O id (.lst sz xs o) (.lst sz ys .sh) := fun g u l' hg hO he hle k => by
 have key : ∀ (j : Nat) (d : AVal), (cellsAll ys)[j]? = some d → ∃ c, (cellsAll xs)[j]? = some c := fun j d hd => by
  have := lt_of_getElem? hd
  exact ⟨_, List.getElem?_eq_getElem (by omega)⟩
 cases k with
 | nil ho hn =>
  have : ys = [] := List.length_eq_zero_iff.1 (by simpa using hl)
  subst this
  exact .nil (fun id e => by cases e) (by simp)
 | lst hsz' hsc' hcap hmax hs f hm hr ho =>
  rw [← hl] at hcap hmax ⊢
  refine .lst hsz hsc hcap hmax (fun hne => hs fun e => hne ?_) f (fun j d hd => ?_) (fun j d hd => ?_) trivial
  ·rw [e] at hl
   exact List.length_eq_zero_iff.1 (by simpa using hl)
  ·obtain ⟨c, hc'⟩ := key j d hd
   exact hle.ownC (hm j c hc').1 (hm j c hc').2
  ·obtain ⟨c, hc'⟩ := key j d hd
   exact h j c d hc' hd g (f j) l' hg hO he hle (hr j c hc')

end Go.Av

namespace Go.Proofs.Ytakdmelemfnmdaa
open Go.Av

def sNil : ByteArray := ⟨#[78, 105, 108]⟩
def sCons : ByteArray := ⟨#[67, 111, 110, 115]⟩
def sList : ByteArray := ⟨#[76, 105, 115, 116]⟩

def workDatas : List Data := [⟨sList, 0, [⟨sNil, []⟩, ⟨sCons, [Pat.any, Pat.any]⟩]⟩]
def workRows : List (List Pat) := [[.mk 3 sNil 0 []]]

theorem work_fit : FitD workDatas := fun d hd c hc => by
 simp only [workDatas, List.mem_singleton] at hd
 subst hd
 simp only [List.mem_cons, List.not_mem_nil, or_false] at hc
 rcases hc with rfl | rfl <;> simp

theorem work_check : check workDatas [[.mk 9 ByteArray.empty 0 []]] = 3 := by kernel_rfl
theorem work_ok : check workDatas workRows = 0 := by kernel_rfl
theorem work_missing : missingE workDatas workRows 1 = ([.mk 3 sCons 0 [Pat.any, Pat.any]], 0) := by kernel_rfl

theorem zero2 : FSub [.cells (List.replicate 2 [AVal.v (.int .i64 0), .v (.string ByteArray.empty), .v (.int .i64 0), .lst 4 [] .ex]).flatten] 0 (.ms 0 0 2 2) (.lst 4 ([Pat.any, Pat.any].map Pat.enc) .sh) := by
 refine FSub.ms (sz := 4) rfl ?_ rfl ?_
 ·simp [Pat.enc_cells]
 ·rfl

theorem work_sub : FSub [.cells (List.replicate 2 [AVal.v (.int .i64 0), .v (.string ByteArray.empty), .v (.int .i64 0), .lst 4 [] .ex]).flatten] 0
  (.lst 3 [.agg [.v (.string ⟨#[76, 105, 115, 116]⟩), .v (.int .i64 0), .lst 2 [.agg [.v (.string ⟨#[78, 105, 108]⟩), .lst 4 [] .sh], .agg [.v (.string ⟨#[67, 111, 110, 115]⟩), .ms 0 0 2 2]] .sh]] .ex) (eD workDatas) := by
 refine FSub.lst rfl ?_ ?_ rfl ?_
 ·intro y hy
  simp only [workDatas, List.map_cons, List.map_nil, List.mem_singleton] at hy
  subst hy
  rfl
 ·intro y hy
  simp only [workDatas, List.map_cons, List.map_nil, List.mem_singleton] at hy
  subst hy
  simp [Data.enc, AVal.cells, AVal.scalar]
 ·intro j c d hc hd
  match j, hc, hd with
  | 0, hc, hd =>
   cases hc
   cases hd
   exact .refl _
  | 1, hc, hd =>
   cases hc
   cases hd
   exact .refl _
  | 2, hc, hd =>
   cases hc
   cases hd
   refine FSub.lst rfl ?_ ?_ rfl ?_
   ·intro y hy
    simp only [List.map_cons, List.map_nil, List.mem_cons, List.not_mem_nil, or_false] at hy
    rcases hy with rfl | rfl <;> rfl
   ·intro y hy
    simp only [List.map_cons, List.map_nil, List.mem_cons, List.not_mem_nil, or_false] at hy
    rcases hy with rfl | rfl <;> simp [Con.enc, AVal.cells, AVal.scalar]
   ·intro j c d hc hd
    match j, hc, hd with
    | 0, hc, hd =>
     cases hc
     cases hd
     exact .refl _
    | 1, hc, hd =>
     cases hc
     cases hd
     exact .refl _
    | 2, hc, hd =>
     cases hc
     cases hd
     exact .refl _
    | 3, hc, hd =>
     cases hc
     cases hd
     exact zero2
    | j + 4, hc, hd => cases hc
  | j + 3, hc, hd => cases hc

theorem patternsWork_spec : PCall Try.prog 11 [] (.v (.bool true)) := by
 have hm0 := Missing_spec work_fit workRows 1
 rw [work_missing] at hm0
 have hm1 : PCall Try.prog 12 [eD workDatas, .lst 1 [.lst 4 [.agg [.v (.int .i64 3), .v (.string ⟨#[78, 105, 108]⟩), .v (.int .i64 0), .lst 4 [] .sh]] .sh] .sh, aI 1]
   (.tup [.lst 4 [.agg [.v (.int .i64 3), .v (.string ⟨#[67, 111, 110, 115]⟩), .v (.int .i64 0), .lst 4 [Pat.any.enc, Pat.any.enc] .sh]] .sh, aI 0]) := hm0
 have hck := Check_spec workDatas [[.mk 9 ByteArray.empty 0 []]]
 rw [work_check] at hck
 have hck1 : PCall Try.prog 24 [eD workDatas, .lst 1 [.lst 4 [.agg [.v (.int .i64 9), .v (.string ByteArray.empty), .v (.int .i64 0), .lst 4 [] .sh]] .sh] .sh] (aI 3) := hck
 refine ecall_of hT true 0 Try.func11 rfl (by kernel_rfl) (by simp [Try.ntmps11]) (by simp) ?_
 show AWP Try.prog _ _ _ ⟨50, _, _⟩
 dsimp only [Tmp, TypeId, slotsOf]
 first | refine zg1 ?_ | refine zg0 ?_ | refine zg2 ?_ | refine zg3 ?_
 simp -dsimp only [simprocAttr, ↓vpre, zp]
 refine at_intro ?_
 simp -dsimp only [vend, ne_eq, Nat.reduceEqDiff, reduceCtorEq]
 first | refine zg1 ?_ | refine zg0 ?_ | refine zg2 ?_ | refine zg3 ?_
 simp -dsimp only [simprocAttr, ↓vpre, zp]
 refine at_intro ?_
 simp -dsimp only [vend, ne_eq, Nat.reduceEqDiff, reduceCtorEq]
 refine awp_freeze 0 rfl (by simp [AObj.isSpare]) trivial [(1, eD workDatas), (0, .v (.bool false))] ?_ ?_
 ·intro s y hy
  simp only [Go.Av.look] at hy
  split at hy
  ·cases hy
   rename_i e
   subst e
   exact ⟨_, rfl, work_sub⟩
  ·split at hy
   ·cases hy
    rename_i e
    subst e
    exact ⟨_, rfl, .refl _⟩
   ·cases hy
 ·refine awp_trunc' 0 [(1, eD workDatas), (0, .v (.bool false))] (by first | omega | (simp; done) | (simp; omega)) (by first | omega | (simp; done) | (simp; omega)) [] ?_ ?_ ?_ ?_ ?_
  ·rfl
  ·simp
  ·simp -dsimp only [simprocAttr, ↓vpre, zp, Says, exists_eq_left', Option.some.injEq, sub_self, and_true]
  ·simp [AVal.upto, uptoL, Data.map_upto]
  ·first | refine zg1 ?_ | refine zg0 ?_ | refine zg2 ?_ | refine zg3 ?_
   simp -dsimp only [simprocAttr, ↓vpre, zp]
   refine at_intro ?_
   simp -dsimp only [vend, ne_eq, Nat.reduceEqDiff, reduceCtorEq]
   first | refine zg1 ?_ | refine zg0 ?_ | refine zg2 ?_ | refine zg3 ?_
   simp -dsimp only [simprocAttr, ↓vpre, zp]
   refine .inl ⟨_, hm1, by first | (simp only [uptoL, AVal.upto, zt, zu, any_upto, rows_upto]; done) | (simp [uptoL, AVal.upto, zu, any_upto, rows_upto]; done), later_intro ?_⟩
   simp -dsimp only [simprocAttr, ↓vpre, zp]
   refine at_intro ?_
   simp -dsimp only [vend, ne_eq, Nat.reduceEqDiff, reduceCtorEq]
   have e1 : ((1 : Nat) : Int) = 1 := rfl
   have e2 : ((2 : Nat) : Int) = 2 := rfl
   first | refine zg1 ?_ | refine zg0 ?_ | refine zg2 ?_ | refine zg3 ?_
   simp -dsimp only [simprocAttr, ↓vpre, zp, e1, e2, eq_self]
   refine .inl ⟨_, hck1, by first | (simp only [uptoL, AVal.upto, zt, zu, any_upto, rows_upto]; done) | (simp [uptoL, AVal.upto, zu, any_upto, rows_upto]; done), later_intro ?_⟩
   simp -dsimp only [simprocAttr, ↓vpre, zp, e1, e2, eq_self]
   refine at_intro ?_
   simp -dsimp only [vend, ne_eq, Nat.reduceEqDiff, reduceCtorEq]
   refine awp_ret ?_
   simp -dsimp only [simprocAttr, ↓vpre, zp, RetTo, Try.results11, retVals, retVal, mkRet, AVal.upto, Nat.zero_le, Nat.le_refl, seqPost_ret, blockPost_ret, loopPost_ret]

end Go.Proofs.Ytakdmelemfnmdaa
end

section
/-
  Rows with their numbers, and the nodes of decision trees: what memory tells of them, and what simp needs to compute with that.
-/
set_option linter.defProp false
namespace Go.Proofs.Ytakdmelemfnmdaa
open Go.Av

/-- A row of patterns with its number. -/
structure MRow where
  ix : Int
  pats : List Pat

/-- A node of a decision tree. -/
structure MTree where
  kind : Int
  row : Int
  path : List Int
  names : List ByteArray
  words : List Int
  kids : List Int
deriving DecidableEq

abbrev nS (s : ByteArray) : AVal := .v (.string s)

def MRow.enc (r : MRow) : AVal := .agg [.v (.int .i64 r.ix), .lst 4 (r.pats.map Pat.enc) .sh]
def MTree.enc (t : MTree) : AVal := .agg [.v (.int .i64 t.kind), .v (.int .i64 t.row), .lst 1 (t.path.map aI) .sh, .lst 1 (t.names.map nS) .sh, .lst 1 (t.words.map aI) .sh, .lst 1 (t.kids.map aI) .sh]

abbrev eM (l : List MRow) : AVal := .lst 2 (l.map MRow.enc) .sh
abbrev eT (l : List MTree) : AVal := .lst 6 (l.map MTree.enc) .sh
abbrev eII (l : List (List Int)) : AVal := .lst 1 (l.map eI) .sh
abbrev eSS (l : List ByteArray) : AVal := .lst 1 (l.map nS) .sh

theorem aI_upto (n : Nat) (l : List Int) : uptoL n (l.map aI) := by
  rw [uptoL_iff]
  intro x hx
  obtain ⟨c, _, rfl⟩ := List.mem_map.1 hx
  trivial
theorem nS_upto (n : Nat) (l : List ByteArray) : uptoL n (l.map nS) := by
  rw [uptoL_iff]
  intro x hx
  obtain ⟨c, _, rfl⟩ := List.mem_map.1 hx
  trivial
theorem aI_share (l : List Int) : (l.map aI).map AVal.share = l.map aI := by
  rw [List.map_map]
  rfl
theorem nS_share (l : List ByteArray) : (l.map nS).map AVal.share = l.map nS := by
  rw [List.map_map]
  rfl
theorem eI_upto (n : Nat) (l : List (List Int)) : uptoL n (l.map eI) := by
  rw [uptoL_iff]
  intro x hx
  obtain ⟨c, _, rfl⟩ := List.mem_map.1 hx
  exact ⟨aI_upto n c, trivial⟩
theorem eI_share (l : List (List Int)) : (l.map eI).map AVal.share = l.map eI := by
  rw [List.map_map]
  rfl

theorem MRow.fold (r : MRow) : AVal.agg [.v (.int .i64 r.ix), .lst 4 (r.pats.map Pat.enc) .sh] = r.enc := rfl
theorem MRow.enc_cells (r : MRow) : r.enc.cells = [.v (.int .i64 r.ix), .lst 4 (r.pats.map Pat.enc) .sh] := rfl
theorem MRow.enc_share (r : MRow) : r.enc.share = r.enc := rfl
theorem MRow.enc_flat (r : MRow) : r.enc.flat := trivial
theorem MRow.enc_upto (n : Nat) (r : MRow) : r.enc.upto n := by
  simp [MRow.enc, AVal.upto, uptoL, Pat.map_upto]
theorem MRow.map_upto (n : Nat) (l : List MRow) : uptoL n (l.map MRow.enc) := by
  rw [uptoL_iff]
  intro x hx
  obtain ⟨c, _, rfl⟩ := List.mem_map.1 hx
  exact c.enc_upto n
theorem MRow.map_share (l : List MRow) : (l.map MRow.enc).map AVal.share = l.map MRow.enc := by
  rw [List.map_map]
  rfl

theorem MTree.fold (t : MTree) : AVal.agg [.v (.int .i64 t.kind), .v (.int .i64 t.row), .lst 1 (t.path.map aI) .sh, .lst 1 (t.names.map nS) .sh, .lst 1 (t.words.map aI) .sh, .lst 1 (t.kids.map aI) .sh] = t.enc := rfl
theorem MTree.enc_cells (t : MTree) : t.enc.cells = [.v (.int .i64 t.kind), .v (.int .i64 t.row), .lst 1 (t.path.map aI) .sh, .lst 1 (t.names.map nS) .sh, .lst 1 (t.words.map aI) .sh, .lst 1 (t.kids.map aI) .sh] := rfl
theorem MTree.enc_share (t : MTree) : t.enc.share = t.enc := rfl
theorem MTree.enc_flat (t : MTree) : t.enc.flat := trivial
theorem MTree.enc_upto (n : Nat) (t : MTree) : t.enc.upto n := by
  simp [MTree.enc, AVal.upto, uptoL, aI_upto, nS_upto]
theorem MTree.map_upto (n : Nat) (l : List MTree) : uptoL n (l.map MTree.enc) := by
  rw [uptoL_iff]
  intro x hx
  obtain ⟨c, _, rfl⟩ := List.mem_map.1 hx
  exact c.enc_upto n
theorem MTree.map_share (l : List MTree) : (l.map MTree.enc).map AVal.share = l.map MTree.enc := by
  rw [List.map_map]
  rfl

/-- What computes with rows and nodes. -/
def vmat := And.intro @aI_upto <|
  And.intro @nS_upto <|
  And.intro @aI_share <|
  And.intro @nS_share <|
  And.intro @eI_upto <|
  And.intro @eI_share <|
  And.intro @MRow.fold <|
  And.intro @MRow.enc_cells <|
  And.intro @MRow.enc_share <|
  And.intro @MRow.enc_flat <|
  And.intro @MRow.enc_upto <|
  And.intro @MRow.map_upto <|
  And.intro @MRow.map_share <|
  And.intro @MTree.fold <|
  And.intro @MTree.enc_cells <|
  And.intro @MTree.enc_share <|
  And.intro @MTree.enc_flat <|
  And.intro @MTree.enc_upto <|
  And.intro @MTree.map_upto <|
  @MTree.map_share

abbrev aB (b : Bool) : AVal := .v (.bool b)
abbrev eB (l : List Bool) : AVal := .lst 1 (l.map aB) .sh

theorem aB_upto (n : Nat) (l : List Bool) : uptoL n (l.map aB) := by
  rw [uptoL_iff]
  intro x hx
  obtain ⟨c, _, rfl⟩ := List.mem_map.1 hx
  trivial

def zpm := And.intro zp vmat
def zum := And.intro zu <| And.intro @MRow.enc_upto <| And.intro @MRow.map_upto <| And.intro @aI_upto <| And.intro @eI_upto <| And.intro @nS_upto <| And.intro @MTree.enc_upto <| And.intro @MTree.map_upto <| And.intro @any_upto @rows_upto

end Go.Proofs.Ytakdmelemfnmdaa
end

section
set_option linter.unusedSimpArgs false
-- !tab vtab vmat
-- !upto Pat.enc_upto Pat.map_upto MRow.enc_upto MRow.map_upto aI_upto eI_upto
namespace Go.Proofs.Ytakdmelemfnmdaa
open Go.Av

theorem mfree_spec (p : Pat) : PCall Try.prog 53 [p.enc] (.v (.bool p.free)) := by
 refine ecall_of hT true 0 Try.func53 rfl (by kernel_rfl) (by simp [Try.ntmps53]) (by simp) ?_
 show AWP Try.prog _ _ _ ⟨11, _, _⟩
 dsimp only [Tmp, TypeId, slotsOf]
 first | refine zg1 ?_ | refine zg0 ?_ | refine zg2 ?_ | refine zg3 ?_
 simp -dsimp only [simprocAttr, ↓vpre, zpm]
 refine at_intro ?_
 simp -dsimp only [vend, ne_eq, Nat.reduceEqDiff, reduceCtorEq]
 first | refine zg1 ?_ | refine zg0 ?_ | refine zg2 ?_ | refine zg3 ?_
 simp -dsimp only [simprocAttr, ↓vpre, zpm]
 refine vcIf_split (fun h => ?_) (fun h => ?_)
 ·simp -dsimp only [simprocAttr, ↓vpre, zpm, h]
  refine at_intro ?_
  simp -dsimp only [vend, ne_eq, Nat.reduceEqDiff, reduceCtorEq]
  refine awp_ret ?_
  simp -dsimp only [simprocAttr, ↓vpre, zpm, RetTo, Try.results53, retVals, retVal, mkRet, AVal.upto, Nat.zero_le, Nat.le_refl, seqPost_ret, blockPost_ret, loopPost_ret]
  simp_all [Pat.free]
 ·simp -dsimp only [simprocAttr, ↓vpre, zpm, h]
  refine at_intro ?_
  simp -dsimp only [vend, ne_eq, Nat.reduceEqDiff, reduceCtorEq]
  refine awp_ret ?_
  simp -dsimp only [simprocAttr, ↓vpre, zpm, RetTo, Try.results53, retVals, retVal, mkRet, AVal.upto, Nat.zero_le, Nat.le_refl, seqPost_ret, blockPost_ret, loopPost_ret]
  simp_all [Pat.free]

theorem build1_spec (p : Pat) : PCall Try.prog 52 [p.enc] (.v (.bool (!p.free))) := by
 refine ecall_of hT true 0 Try.func52 rfl (by kernel_rfl) (by simp [Try.ntmps52]) (by simp) ?_
 show AWP Try.prog _ _ _ ⟨6, _, _⟩
 dsimp only [Tmp, TypeId, slotsOf]
 first | refine zg1 ?_ | refine zg0 ?_ | refine zg2 ?_ | refine zg3 ?_
 simp -dsimp only [simprocAttr, ↓vpre, zpm]
 refine at_intro ?_
 simp -dsimp only [vend, ne_eq, Nat.reduceEqDiff, reduceCtorEq]
 first | refine zg1 ?_ | refine zg0 ?_ | refine zg2 ?_ | refine zg3 ?_
 simp -dsimp only [simprocAttr, ↓vpre, zpm]
 refine .inl ⟨_, mfree_spec p, by first | (simp only [uptoL, AVal.upto, zt, zum]; done) | (simp [uptoL, AVal.upto, zum]; done), later_intro ?_⟩
 simp -dsimp only [simprocAttr, ↓vpre, zpm]
 refine at_intro ?_
 simp -dsimp only [vend, ne_eq, Nat.reduceEqDiff, reduceCtorEq]
 refine awp_ret ?_
 simp -dsimp only [simprocAttr, ↓vpre, zpm, RetTo, Try.results52, retVals, retVal, mkRet, AVal.upto, Nat.zero_le, Nat.le_refl, seqPost_ret, blockPost_ret, loopPost_ret]

/-- Is it of this constructor. -/
theorem build2_spec (p : Pat) (s : ByteArray) (x : AVal) (oa : Option Addr) : PCall Try.prog 55 [p.enc, .ip oa [.v (.string s), x]] (.v (.bool (decide (p.name = s)))) := by
 refine ecall_of hT true 0 Try.func55 rfl (by kernel_rfl) (by simp [Try.ntmps55]) (by simp) ?_
 show AWP Try.prog _ _ _ ⟨9, _, _⟩
 dsimp only [Tmp, TypeId, slotsOf]
 first | refine zg1 ?_ | refine zg0 ?_ | refine zg2 ?_ | refine zg3 ?_
 simp -dsimp only [simprocAttr, ↓vpre, zpm]
 refine at_intro ?_
 simp -dsimp only [vend, ne_eq, Nat.reduceEqDiff, reduceCtorEq]
 first | refine zg1 ?_ | refine zg0 ?_ | refine zg2 ?_ | refine zg3 ?_
 simp -dsimp only [simprocAttr, ↓vpre, zpm]
 refine at_intro ?_
 simp -dsimp only [vend, ne_eq, Nat.reduceEqDiff, reduceCtorEq]
 refine awp_ret ?_
 simp -dsimp only [simprocAttr, ↓vpre, zpm, RetTo, Try.results55, retVals, retVal, mkRet, AVal.upto, Nat.zero_le, Nat.le_refl, seqPost_ret, blockPost_ret, loopPost_ret]

theorem words1_spec (q p : Pat) (oa : Option Addr) : PCall Try.prog 84 [q.enc, .ip oa p.enc.cells] (.v (.bool (decide (q.n = p.n)))) := by
 refine ecall_of hT true 0 Try.func84 rfl (by kernel_rfl) (by simp [Try.ntmps84]) (by simp) ?_
 show AWP Try.prog _ _ _ ⟨9, _, _⟩
 dsimp only [Tmp, TypeId, slotsOf]
 first | refine zg1 ?_ | refine zg0 ?_ | refine zg2 ?_ | refine zg3 ?_
 simp -dsimp only [simprocAttr, ↓vpre, zpm]
 refine at_intro ?_
 simp -dsimp only [vend, ne_eq, Nat.reduceEqDiff, reduceCtorEq]
 first | refine zg1 ?_ | refine zg0 ?_ | refine zg2 ?_ | refine zg3 ?_
 simp -dsimp only [simprocAttr, ↓vpre, zpm]
 refine at_intro ?_
 simp -dsimp only [vend, ne_eq, Nat.reduceEqDiff, reduceCtorEq]
 refine awp_ret ?_
 simp -dsimp only [simprocAttr, ↓vpre, zpm, RetTo, Try.results84, retVals, retVal, mkRet, AVal.upto, Nat.zero_le, Nat.le_refl, seqPost_ret, blockPost_ret, loopPost_ret]

theorem other1_spec (p : Pat) : PCall Try.prog 87 [p.enc] (.v (.bool false)) := by
 refine ecall_of hT true 0 Try.func87 rfl (by kernel_rfl) (by simp [Try.ntmps87]) (by simp) ?_
 show AWP Try.prog _ _ _ ⟨3, _, _⟩
 dsimp only [Tmp, TypeId, slotsOf]
 first | refine zg1 ?_ | refine zg0 ?_ | refine zg2 ?_ | refine zg3 ?_
 simp -dsimp only [simprocAttr, ↓vpre, zpm]
 refine at_intro ?_
 simp -dsimp only [vend, ne_eq, Nat.reduceEqDiff, reduceCtorEq]
 first | refine zg1 ?_ | refine zg0 ?_ | refine zg2 ?_ | refine zg3 ?_
 simp -dsimp only [simprocAttr, ↓vpre, zpm]
 refine at_intro ?_
 simp -dsimp only [vend, ne_eq, Nat.reduceEqDiff, reduceCtorEq]
 refine awp_ret ?_
 simp -dsimp only [simprocAttr, ↓vpre, zpm, RetTo, Try.results87, retVals, retVal, mkRet, AVal.upto, Nat.zero_le, Nat.le_refl, seqPost_ret, blockPost_ret, loopPost_ret]

end Go.Proofs.Ytakdmelemfnmdaa
end

section
set_option linter.unusedSimpArgs false
set_option maxHeartbeats 1000000
set_option maxRecDepth 100000
-- !tab vtab vmat
-- !upto Pat.enc_upto Pat.map_upto MRow.enc_upto MRow.map_upto aI_upto eI_upto hup
namespace Go.Proofs.Ytakdmelemfnmdaa
open Go.Av

/-- What becomes of a row. -/
def MRow.step (c : Nat) (f : Pat → Bool) (many : Nat) (r : MRow) : Option MRow :=
 match r.pats[c]? with
 | none => none
 | some p => if p.free then some ⟨r.ix, r.pats.take c ++ (r.pats.drop (c + 1) ++ List.replicate many Pat.any)⟩
  else if f p then some ⟨r.ix, r.pats.take c ++ (r.pats.drop (c + 1) ++ (if p.kind = 3 then p.args else List.replicate many Pat.any))⟩ else none

def mnarrow (c : Nat) (f : Pat → Bool) (many : Nat) (rows : List MRow) : List MRow := rows.filterMap (MRow.step c f many)

theorem toNat_succ (c : Nat) : ((c : Int) + 1).toNat = c + 1 := by omega

theorem rep_any (n : Nat) : List.replicate n (AVal.agg [.v (.int .i64 0), .v (.string ByteArray.empty), .v (.int .i64 0), .lst 4 [] .sh]) = (List.replicate n Pat.any).map Pat.enc := by
 rw [List.map_replicate]
 rfl

theorem mnarrow_len (c : Nat) (f : Pat → Bool) (many : Nat) (rows : List MRow) : (mnarrow c f many rows).length ≤ rows.length := List.length_filterMap_le _ _

theorem mnarrow_spec (rows : List MRow) (c many : Nat) (f : Pat → Bool) (id : Nat) (cs : List AVal) (hcs : cs.map AVal.share = cs) (hup : ∀ n, uptoL n cs) (hb : rows.length ≤ 2 ^ 30) (hmany : many ≤ 2 ^ 20) (hc : ∀ r ∈ rows, c < r.pats.length) (hr20 : ∀ r ∈ rows, r.pats.length ≤ 2 ^ 20) (hargs : ∀ r ∈ rows, ∀ p ∈ r.pats, p.args.length ≤ 2 ^ 20)
  (hf : ∀ r ∈ rows, ∀ p ∈ r.pats, PCall Try.prog id (p.enc :: cs) (.v (.bool (f p)))) :
  PCall Try.prog 58 [eM rows, .v (.int .i64 c), .fn (.func id) [] cs, .v (.int .i64 many)] (eM (mnarrow c f many rows)) := by
 refine ecall_of hT true 0 Try.func58 rfl (by kernel_rfl) (by simp [Try.ntmps58]) (by simp) ?_
 show AWP Try.prog _ _ _ ⟨66, _, _⟩
 dsimp only [Tmp, TypeId, slotsOf]
 first | refine zg1 ?_ | refine zg0 ?_ | refine zg2 ?_ | refine zg3 ?_
 simp -dsimp only [simprocAttr, ↓vpre, zpm]
 refine at_intro ?_
 simp -dsimp only [vend, ne_eq, Nat.reduceEqDiff, reduceCtorEq]
 first | refine zg1 ?_ | refine zg0 ?_ | refine zg2 ?_ | refine zg3 ?_
 simp -dsimp only [simprocAttr, ↓vpre, zpm]
 refine at_intro ?_
 simp -dsimp only [vend, ne_eq, Nat.reduceEqDiff, reduceCtorEq]
 first | refine zg1 ?_ | refine zg0 ?_ | refine zg2 ?_ | refine zg3 ?_
 simp -dsimp only [simprocAttr, ↓vpre, zpm]
 refine at_intro ?_
 simp -dsimp only [vend, ne_eq, Nat.reduceEqDiff, reduceCtorEq]
 refine awp_own 9 rfl ?_
 simp -dsimp only [simprocAttr, ↓vpre, zpm]
 first | refine awp_block (awp_loop (ι := {k : Nat // k ≤ rows.length}) (fun k => ⟨66, [(1, .v (.int .i64 c)), (2, .fn (.func id) [] cs), (3, .v (.int .i64 many)), (14, eM rows), (15, .v (.int .i64 rows.length)), (16, .v (.int .i64 k)), (9, .lst 2 ((mnarrow c f many (rows.take k)).map MRow.enc) (.tok 0))], [.spare (mnarrow c f many (rows.take k)).length]⟩) (fun k => rows.length - k) ⟨0, by omega⟩ ?_ ?_) | refine awp_seq (awp_block (awp_loop (ι := {k : Nat // k ≤ rows.length}) (fun k => ⟨66, [(1, .v (.int .i64 c)), (2, .fn (.func id) [] cs), (3, .v (.int .i64 many)), (14, eM rows), (15, .v (.int .i64 rows.length)), (16, .v (.int .i64 k)), (9, .lst 2 ((mnarrow c f many (rows.take k)).map MRow.enc) (.tok 0))], [.spare (mnarrow c f many (rows.take k)).length]⟩) (fun k => rows.length - k) ⟨0, by omega⟩ ?_ ?_))
 ·refine ⟨rfl, ?_, ?_⟩
  rotate_left
  simp -dsimp only [simprocAttr, ↓vpre, zpm, Says, exists_eq_left', Option.some.injEq, sub_self, and_assoc, true_and, and_true]
  ·exact Sub.lst (by simp [mnarrow])
  ·simp [mnarrow]
 ·rintro ⟨k, hk⟩
  first | refine zg1 ?_ | refine zg0 ?_ | refine zg2 ?_ | refine zg3 ?_
  simp -dsimp only [simprocAttr, ↓vpre, zpm]
  refine at_intro ?_
  simp -dsimp only [vend, ne_eq, Nat.reduceEqDiff, reduceCtorEq]
  first | refine zk1 rfl (fun h => ?_) (fun h => ?_) | refine zk0 rfl (fun h => ?_) (fun h => ?_) | refine zk2 rfl (fun h => ?_) (fun h => ?_)
  ·refine awp_skip ?_
   simp -dsimp only [vend, ne_eq, Nat.reduceEqDiff, reduceCtorEq]
   have hlt : k < rows.length := by simpa using h
   obtain ⟨r, hr⟩ : ∃ r, rows[k]? = some r := ⟨rows[k], by simp [hlt]⟩
   have hmem := List.mem_of_getElem? hr
   obtain ⟨p, hp⟩ : ∃ p, r.pats[c]? = some p := ⟨r.pats[c]'(hc r hmem), by simp [hc r hmem]⟩
   have hpm := List.mem_of_getElem? hp
   have h1 := hr20 _ hmem
   have h2 := hargs _ hmem p hpm
   have h3 := hc r hmem
   have hlen := mnarrow_len c f many (rows.take k)
   simp only [List.length_take] at hlen
   first | refine awp_seq (awp_block ?_) | refine awp_block ?_
   first | refine zg1 ?_ | refine zg0 ?_ | refine zg2 ?_ | refine zg3 ?_
   simp -dsimp only [simprocAttr, ↓vpre, zpm, hr]
   refine at_intro ?_
   simp -dsimp only [vend, ne_eq, Nat.reduceEqDiff, reduceCtorEq]
   first | refine zg1 ?_ | refine zg0 ?_ | refine zg2 ?_ | refine zg3 ?_
   simp -dsimp only [simprocAttr, ↓vpre, zpm, hp]
   refine at_intro ?_
   simp -dsimp only [vend, ne_eq, Nat.reduceEqDiff, reduceCtorEq]
   first | refine zg1 ?_ | refine zg0 ?_ | refine zg2 ?_ | refine zg3 ?_
   simp -dsimp only [simprocAttr, ↓vpre, zpm]
   refine .inl ⟨_, mfree_spec p, by first | (simp only [uptoL, AVal.upto, zt, zum, hup]; done) | (simp [uptoL, AVal.upto, zum, hup]; done), later_intro ?_⟩
   simp -dsimp only [simprocAttr, ↓vpre, zpm]
   refine vcIf_split (fun hfr => ?_) (fun hfr => ?_)
   ·have hp0 : p.free = false := by simpa using hfr
    simp -dsimp only [simprocAttr, ↓vpre, zpm, hp0, hcs]
    refine .inl ⟨_, (hf r hmem p hpm), by first | (simp only [uptoL, AVal.upto, zt, zum, hup]; done) | (simp [uptoL, AVal.upto, zum, hup]; done), later_intro ?_⟩
    simp -dsimp only [simprocAttr, ↓vpre, zpm, hp0]
    refine at_intro ?_
    simp -dsimp only [vend, ne_eq, Nat.reduceEqDiff, reduceCtorEq]
    first | refine zk1 rfl (fun h => ?_) (fun h => ?_) | refine zk0 rfl (fun h => ?_) (fun h => ?_) | refine zk2 rfl (fun h => ?_) (fun h => ?_)
    ·have hfp : f p = false := by simpa using h
     refine awp_exit ?_
     simp -dsimp only [vend, ne_eq, Nat.reduceEqDiff, reduceCtorEq]
     refine awp_trunc' 1 [(1, .v (.int .i64 c)), (2, .fn (.func id) [] cs), (3, .v (.int .i64 many)), (14, eM rows), (15, .v (.int .i64 rows.length)), (16, .v (.int .i64 k)), (9, .lst 2 ((mnarrow c f many (rows.take k)).map MRow.enc) (.tok 0))] (by first | omega | (simp; done) | (simp; omega)) (by first | omega | (simp; done) | (simp; omega)) [.spare (mnarrow c f many (rows.take k)).length] ?_ ?_ ?_ ?_ ?_
     ·rfl
     ·simp [AObj.upto]
     ·simp -dsimp only [simprocAttr, ↓vpre, zpm, Says, exists_eq_left', Option.some.injEq, sub_self, and_true]
     ·simp [AVal.upto, uptoL, MRow.map_upto, hup]
     ·first | refine zg1 ?_ | refine zg0 ?_ | refine zg2 ?_ | refine zg3 ?_
      simp -dsimp only [simprocAttr, ↓vpre, zpm]
      refine ⟨by omega, by omega, ?_⟩
      refine at_intro ?_
      simp -dsimp only [vend, ne_eq, Nat.reduceEqDiff, reduceCtorEq]
      refine ⟨⟨k + 1, hlt⟩, by simp; omega, ?_⟩
      have e : mnarrow c f many (rows.take (k + 1)) = mnarrow c f many (rows.take k) := by
       simp [take_next hr, mnarrow, MRow.step, hp, hp0, hfp]
      refine ⟨rfl, ?_, ?_⟩
      rotate_left
      simp -dsimp only [simprocAttr, ↓vpre, zpm, Says, exists_eq_left', Option.some.injEq, sub_self, and_assoc, true_and, and_true]
      ·exact ⟨Sub.int (by simp), Sub.lst (by rw [e])⟩
      ·simp [e]
    ·have hfp : f p = true := by simpa using h
     refine awp_skip ?_
     simp -dsimp only [vend, ne_eq, Nat.reduceEqDiff, reduceCtorEq]
     first | refine zv1 ?_ | refine zv0 ?_ | refine zv2 ?_
     simp -dsimp only [simprocAttr, ↓vpre, zpm, rep_any]
     refine ⟨by omega, by omega, ?_⟩
     refine at_intro ?_
     simp -dsimp only [vend, ne_eq, Nat.reduceEqDiff, reduceCtorEq]
     first | refine zg1 ?_ | refine zg0 ?_ | refine zg2 ?_ | refine zg3 ?_
     simp -dsimp only [simprocAttr, ↓vpre, zpm, hp0]
     refine .inl ⟨_, mfree_spec p, by first | (simp only [uptoL, AVal.upto, zt, zum, hup]; done) | (simp [uptoL, AVal.upto, zum, hup]; done), later_intro ?_⟩
     simp -dsimp only [simprocAttr, ↓vpre, zpm, hp0]
     refine at_intro ?_
     simp -dsimp only [vend, ne_eq, Nat.reduceEqDiff, reduceCtorEq]
     first | refine zk1 rfl (fun h => ?_) (fun h => ?_) | refine zk0 rfl (fun h => ?_) (fun h => ?_) | refine zk2 rfl (fun h => ?_) (fun h => ?_)
     ·have hk3 : p.kind = 3 := by simpa using h
      first | refine zg1 ?_ | refine zg0 ?_ | refine zg2 ?_ | refine zg3 ?_
      simp -dsimp only [simprocAttr, ↓vpre, zpm]
      refine at_intro ?_
      simp -dsimp only [vend, ne_eq, Nat.reduceEqDiff, reduceCtorEq]
      have e : mnarrow c f many (rows.take (k + 1)) = mnarrow c f many (rows.take k) ++ [⟨r.ix, r.pats.take c ++ (r.pats.drop (c + 1) ++ p.args)⟩] := by
       simp [take_next hr, mnarrow, MRow.step, hp, hp0, hfp, hk3]
      first | refine zg1 ?_ | refine zg0 ?_ | refine zg2 ?_ | refine zg3 ?_
      simp -dsimp only [simprocAttr, ↓vpre, zpm, ← List.map_take, ← List.map_drop, toNat_succ, List.take_length]
      repeat (refine ⟨by omega, ?_⟩)
      refine .inl ⟨_, (concat_spec [r.pats.take c, r.pats.drop (c + 1), p.args] (by simp) (by simp [total]; omega)), by first | (simp only [uptoL, AVal.upto, zt, zum, hup]; done) | (simp [uptoL, AVal.upto, zum, hup]; done), later_intro ?_⟩
      simp -dsimp only [simprocAttr, ↓vpre, zpm]
      repeat (refine ⟨by omega, ?_⟩)
      refine ⟨?_, ?_⟩
      ·(show orderB _ _ = true); kernel_rfl
      refine at_intro ?_
      simp -dsimp only [vend, ne_eq, Nat.reduceEqDiff, reduceCtorEq]
      refine awp_trunc' 1 [(1, .v (.int .i64 c)), (2, .fn (.func id) [] cs), (3, .v (.int .i64 many)), (14, eM rows), (15, .v (.int .i64 rows.length)), (16, .v (.int .i64 k)), (9, .lst 2 ((mnarrow c f many (rows.take (k + 1))).map MRow.enc) (.tok 0))] (by first | omega | (simp; done) | (simp; omega)) (by first | omega | (simp; done) | (simp; omega)) [.spare ((mnarrow c f many (rows.take k)).length + 1)] ?_ ?_ ?_ ?_ ?_
      ·rfl
      ·simp [AObj.upto]
      ·simp -dsimp only [simprocAttr, ↓vpre, zpm, Says, exists_eq_left', Option.some.injEq, sub_self, and_true]
       exact Sub.lst (by simp [e, MRow.enc])
      ·simp [AVal.upto, uptoL, MRow.map_upto, hup]
      first | refine zg1 ?_ | refine zg0 ?_ | refine zg2 ?_ | refine zg3 ?_
      simp -dsimp only [simprocAttr, ↓vpre, zpm]
      refine ⟨by omega, by omega, ?_⟩
      refine at_intro ?_
      simp -dsimp only [vend, ne_eq, Nat.reduceEqDiff, reduceCtorEq]
      refine ⟨⟨k + 1, hlt⟩, by simp; omega, ?_⟩
      refine ⟨rfl, ?_, ?_⟩
      rotate_left
      simp -dsimp only [simprocAttr, ↓vpre, zpm, Says, exists_eq_left', Option.some.injEq, sub_self, and_assoc, true_and, and_true]
      ·exact Sub.int (by simp)
      ·simp [e]
     ·have hk3 : ¬ p.kind = 3 := by simpa using h
      refine awp_skip ?_
      simp -dsimp only [vend, ne_eq, Nat.reduceEqDiff, reduceCtorEq]
      have e : mnarrow c f many (rows.take (k + 1)) = mnarrow c f many (rows.take k) ++ [⟨r.ix, r.pats.take c ++ (r.pats.drop (c + 1) ++ List.replicate many Pat.any)⟩] := by
       simp [take_next hr, mnarrow, MRow.step, hp, hp0, hfp, hk3]
      first | refine zg1 ?_ | refine zg0 ?_ | refine zg2 ?_ | refine zg3 ?_
      simp -dsimp only [simprocAttr, ↓vpre, zpm, ← List.map_take, ← List.map_drop, toNat_succ, List.take_length]
      repeat (refine ⟨by omega, ?_⟩)
      refine .inl ⟨_, (concat_spec [r.pats.take c, r.pats.drop (c + 1), List.replicate many Pat.any] (by simp) (by simp [total]; omega)), by first | (simp only [uptoL, AVal.upto, zt, zum, hup]; done) | (simp [uptoL, AVal.upto, zum, hup]; done), later_intro ?_⟩
      simp -dsimp only [simprocAttr, ↓vpre, zpm]
      repeat (refine ⟨by omega, ?_⟩)
      refine ⟨?_, ?_⟩
      ·(show orderB _ _ = true); kernel_rfl
      refine at_intro ?_
      simp -dsimp only [vend, ne_eq, Nat.reduceEqDiff, reduceCtorEq]
      refine awp_trunc' 1 [(1, .v (.int .i64 c)), (2, .fn (.func id) [] cs), (3, .v (.int .i64 many)), (14, eM rows), (15, .v (.int .i64 rows.length)), (16, .v (.int .i64 k)), (9, .lst 2 ((mnarrow c f many (rows.take (k + 1))).map MRow.enc) (.tok 0))] (by first | omega | (simp; done) | (simp; omega)) (by first | omega | (simp; done) | (simp; omega)) [.spare ((mnarrow c f many (rows.take k)).length + 1)] ?_ ?_ ?_ ?_ ?_
      ·rfl
      ·simp [AObj.upto]
      ·simp -dsimp only [simprocAttr, ↓vpre, zpm, Says, exists_eq_left', Option.some.injEq, sub_self, and_true]
       exact Sub.lst (by simp [e, MRow.enc])
      ·simp [AVal.upto, uptoL, MRow.map_upto, hup]
      first | refine zg1 ?_ | refine zg0 ?_ | refine zg2 ?_ | refine zg3 ?_
      simp -dsimp only [simprocAttr, ↓vpre, zpm]
      refine ⟨by omega, by omega, ?_⟩
      refine at_intro ?_
      simp -dsimp only [vend, ne_eq, Nat.reduceEqDiff, reduceCtorEq]
      refine ⟨⟨k + 1, hlt⟩, by simp; omega, ?_⟩
      refine ⟨rfl, ?_, ?_⟩
      rotate_left
      simp -dsimp only [simprocAttr, ↓vpre, zpm, Says, exists_eq_left', Option.some.injEq, sub_self, and_assoc, true_and, and_true]
      ·exact Sub.int (by simp)
      ·simp [e]
   ·have hp0 : p.free = true := by simpa using hfr
    simp -dsimp only [simprocAttr, ↓vpre, zpm, hp0]
    refine at_intro ?_
    simp -dsimp only [vend, ne_eq, Nat.reduceEqDiff, reduceCtorEq]
    first | refine zk1 rfl (fun h => ?_) (fun h => ?_) | refine zk0 rfl (fun h => ?_) (fun h => ?_) | refine zk2 rfl (fun h => ?_) (fun h => ?_)
    ·cases h
    ·refine awp_skip ?_
     simp -dsimp only [vend, ne_eq, Nat.reduceEqDiff, reduceCtorEq]
     first | refine zv1 ?_ | refine zv0 ?_ | refine zv2 ?_
     simp -dsimp only [simprocAttr, ↓vpre, zpm, rep_any]
     refine ⟨by omega, by omega, ?_⟩
     refine at_intro ?_
     simp -dsimp only [vend, ne_eq, Nat.reduceEqDiff, reduceCtorEq]
     first | refine zg1 ?_ | refine zg0 ?_ | refine zg2 ?_ | refine zg3 ?_
     simp -dsimp only [simprocAttr, ↓vpre, zpm, hp0]
     refine .inl ⟨_, mfree_spec p, by first | (simp only [uptoL, AVal.upto, zt, zum, hup]; done) | (simp [uptoL, AVal.upto, zum, hup]; done), later_intro ?_⟩
     simp -dsimp only [simprocAttr, ↓vpre, zpm, hp0]
     refine at_intro ?_
     simp -dsimp only [vend, ne_eq, Nat.reduceEqDiff, reduceCtorEq]
     first | refine zk1 rfl (fun h => ?_) (fun h => ?_) | refine zk0 rfl (fun h => ?_) (fun h => ?_) | refine zk2 rfl (fun h => ?_) (fun h => ?_)
     ·cases h
     ·refine awp_skip ?_
      simp -dsimp only [vend, ne_eq, Nat.reduceEqDiff, reduceCtorEq]
      have e : mnarrow c f many (rows.take (k + 1)) = mnarrow c f many (rows.take k) ++ [⟨r.ix, r.pats.take c ++ (r.pats.drop (c + 1) ++ List.replicate many Pat.any)⟩] := by
       simp [take_next hr, mnarrow, MRow.step, hp, hp0]
      first | refine zg1 ?_ | refine zg0 ?_ | refine zg2 ?_ | refine zg3 ?_
      simp -dsimp only [simprocAttr, ↓vpre, zpm, ← List.map_take, ← List.map_drop, toNat_succ, List.take_length]
      repeat (refine ⟨by omega, ?_⟩)
      refine .inl ⟨_, (concat_spec [r.pats.take c, r.pats.drop (c + 1), List.replicate many Pat.any] (by simp) (by simp [total]; omega)), by first | (simp only [uptoL, AVal.upto, zt, zum, hup]; done) | (simp [uptoL, AVal.upto, zum, hup]; done), later_intro ?_⟩
      simp -dsimp only [simprocAttr, ↓vpre, zpm]
      repeat (refine ⟨by omega, ?_⟩)
      refine ⟨?_, ?_⟩
      ·(show orderB _ _ = true); kernel_rfl
      refine at_intro ?_
      simp -dsimp only [vend, ne_eq, Nat.reduceEqDiff, reduceCtorEq]
      refine awp_trunc' 1 [(1, .v (.int .i64 c)), (2, .fn (.func id) [] cs), (3, .v (.int .i64 many)), (14, eM rows), (15, .v (.int .i64 rows.length)), (16, .v (.int .i64 k)), (9, .lst 2 ((mnarrow c f many (rows.take (k + 1))).map MRow.enc) (.tok 0))] (by first | omega | (simp; done) | (simp; omega)) (by first | omega | (simp; done) | (simp; omega)) [.spare ((mnarrow c f many (rows.take k)).length + 1)] ?_ ?_ ?_ ?_ ?_
      ·rfl
      ·simp [AObj.upto]
      ·simp -dsimp only [simprocAttr, ↓vpre, zpm, Says, exists_eq_left', Option.some.injEq, sub_self, and_true]
       exact Sub.lst (by simp [e, MRow.enc])
      ·simp [AVal.upto, uptoL, MRow.map_upto, hup]
      first | refine zg1 ?_ | refine zg0 ?_ | refine zg2 ?_ | refine zg3 ?_
      simp -dsimp only [simprocAttr, ↓vpre, zpm]
      refine ⟨by omega, by omega, ?_⟩
      refine at_intro ?_
      simp -dsimp only [vend, ne_eq, Nat.reduceEqDiff, reduceCtorEq]
      refine ⟨⟨k + 1, hlt⟩, by simp; omega, ?_⟩
      refine ⟨rfl, ?_, ?_⟩
      rotate_left
      simp -dsimp only [simprocAttr, ↓vpre, zpm, Says, exists_eq_left', Option.some.injEq, sub_self, and_assoc, true_and, and_true]
      ·exact Sub.int (by simp)
      ·simp [e]
  ·refine awp_exit ?_
   simp -dsimp only [vend, ne_eq, Nat.reduceEqDiff, reduceCtorEq]
   have hlt : k = rows.length := by simp at h; omega
   subst hlt
   first | refine zg1 ?_ | refine zg0 ?_ | refine zg2 ?_ | refine zg3 ?_
   simp -dsimp only [simprocAttr, ↓vpre, zpm]
   refine at_intro ?_
   simp -dsimp only [vend, ne_eq, Nat.reduceEqDiff, reduceCtorEq]
   refine awp_ret ?_
   simp -dsimp only [simprocAttr, ↓vpre, zpm, RetTo, Try.results58, retVals, retVal, mkRet, AVal.upto, Nat.zero_le, Nat.le_refl, seqPost_ret, blockPost_ret, loopPost_ret, List.take_length]
end Go.Proofs.Ytakdmelemfnmdaa
end

section
set_option linter.unusedSimpArgs false
set_option maxRecDepth 100000
-- !tab vtab vmat
-- !upto Pat.enc_upto Pat.map_upto MRow.enc_upto MRow.map_upto aI_upto eI_upto
namespace Go.Proofs.Ytakdmelemfnmdaa
open Go.Av

theorem keep_upto {O : List AObj} (hO : ∀ o ∈ O, o.upto (O.length + 1)) (m : Nat) : ∀ o ∈ O ++ [AObj.spare m], o.upto (O.length + 1) := fun o ho => by
 rcases List.mem_append.1 ho with ho | ho
 ·exact hO o ho
 ·rw [List.mem_singleton.1 ho]
  trivial

theorem take_snoc (O : List AObj) (x : AObj) : (O ++ [x]).take (O.length + 1) = O ++ [x] := List.take_of_length_le (by simp)

/-- A copy of words that may be appended to. -/
theorem cloneI_spec (l : List Int) (hb : l.length ≤ 2 ^ 30) (hl : l ≠ []) (O : List AObj) (hO : ∀ o ∈ O, o.upto (O.length + 1)) :
  ECall Try.prog 33 O [eI l] fun r O' => r = .lst 1 (l.map aI) (.tok O.length) ∧ O' = O ++ [.spare l.length] := by
 refine ecall_of hT false (O.length+1) Try.func33 rfl (by kernel_rfl) (by simp [Try.ntmps33]) (by simp) ?_
 show AWP Try.prog _ _ _ ⟨8, _, _⟩
 dsimp only [Tmp, TypeId, slotsOf]
 first | refine zg1 ?_ | refine zg0 ?_ | refine zg2 ?_ | refine zg3 ?_
 simp -dsimp only [simprocAttr, ↓vpre, zpm]
 refine at_intro ?_
 simp -dsimp only [vend, ne_eq, Nat.reduceEqDiff, reduceCtorEq]
 refine awp_nilsplit 0 rfl (fun h => ?_) ?_
 ·exact absurd (List.map_eq_nil_iff.1 h) hl
 ·simp -dsimp only [simprocAttr, ↓vpre, zpm]
  first | refine zg1 ?_ | refine zg0 ?_ | refine zg2 ?_ | refine zg3 ?_
  simp -dsimp only [simprocAttr, ↓vpre, zpm]
  refine at_intro ?_
  simp -dsimp only [vend, ne_eq, Nat.reduceEqDiff, reduceCtorEq]
  first | refine zk1 rfl (fun h => ?_) (fun h => ?_) | refine zk0 rfl (fun h => ?_) (fun h => ?_) | refine zk2 rfl (fun h => ?_) (fun h => ?_)
  ·cases h
  ·refine awp_skip ?_
   simp -dsimp only [vend, ne_eq, Nat.reduceEqDiff, reduceCtorEq]
   first | refine zg1 ?_ | refine zg0 ?_ | refine zg2 ?_ | refine zg3 ?_
   simp -dsimp only [simprocAttr, ↓vpre, zpm]
   refine ⟨by omega, by omega, ?_⟩
   refine at_intro ?_
   simp -dsimp only [vend, ne_eq, Nat.reduceEqDiff, reduceCtorEq]
   refine awp_ret ?_
   simp -dsimp only [simprocAttr, ↓vpre, zpm, RetTo, Try.results33, retVals, retVal, mkRet, AVal.upto, Nat.zero_le, Nat.le_refl, seqPost_ret, blockPost_ret, loopPost_ret, take_snoc]
   exact ⟨keep_upto hO _, by omega⟩

theorem growP_spec (O : List AObj) (hO : ∀ o ∈ O, o.upto (O.length + 1)) (n : Nat) (hb : n ≤ 2 ^ 40) : ECall Try.prog 94 O [.v (.slice none 0 0), .v (.int .i64 n)] fun r O' => r = .lst 1 [] (.tok O.length) ∧ O' = O ++ [.spare 0] := by
 refine ecall_of hT false (O.length+1) Try.func94 rfl (by kernel_rfl) (by simp [Try.ntmps94]) (by simp) ?_
 show AWP Try.prog _ _ _ ⟨27, _, _⟩
 dsimp only [Tmp, TypeId, slotsOf]
 refine AWP.cover (τ := ⟨27, [(0, .lst 1 [] .ex), (1, .v (.int .i64 n))], O⟩) ?_ ⟨rfl, rfl, ⟨_, rfl, Sub.nil rfl (by simp) (by simp)⟩, ⟨_, rfl, Sub.refl _⟩, trivial⟩
 first | refine zg1 ?_ | refine zg0 ?_ | refine zg2 ?_ | refine zg3 ?_
 simp -dsimp only [simprocAttr, ↓vpre, zpm]
 refine at_intro ?_
 simp -dsimp only [vend, ne_eq, Nat.reduceEqDiff, reduceCtorEq]
 first | refine zg1 ?_ | refine zg0 ?_ | refine zg2 ?_ | refine zg3 ?_
 simp -dsimp only [simprocAttr, ↓vpre, zpm]
 refine at_intro ?_
 simp -dsimp only [vend, ne_eq, Nat.reduceEqDiff, reduceCtorEq]
 first | refine zk1 rfl (fun h => ?_) (fun h => ?_) | refine zk0 rfl (fun h => ?_) (fun h => ?_) | refine zk2 rfl (fun h => ?_) (fun h => ?_)
 ·simp at h
  omega
 ·refine awp_skip ?_
  simp -dsimp only [vend, ne_eq, Nat.reduceEqDiff, reduceCtorEq]
  first | refine zg1 ?_ | refine zg0 ?_ | refine zg2 ?_ | refine zg3 ?_
  simp -dsimp only [simprocAttr, ↓vpre, zpm]
  refine ⟨by omega, by omega, ?_⟩
  refine at_intro ?_
  simp -dsimp only [vend, ne_eq, Nat.reduceEqDiff, reduceCtorEq]
  first | refine zg1 ?_ | refine zg0 ?_ | refine zg2 ?_ | refine zg3 ?_
  simp -dsimp only [simprocAttr, ↓vpre, zpm]
  refine at_intro ?_
  simp -dsimp only [vend, ne_eq, Nat.reduceEqDiff, reduceCtorEq]
  first | refine zk1 rfl (fun h => ?_) (fun h => ?_) | refine zk0 rfl (fun h => ?_) (fun h => ?_) | refine zk2 rfl (fun h => ?_) (fun h => ?_)
  ·have hn : 0 < n := by
    simp at h
    omega
   first | refine zm1 ?_ | refine zm0 ?_ | refine zm2 ?_
   simp -dsimp only [simprocAttr, ↓vpre, zpm]
   refine ⟨Try.underlying3, by omega, by omega, by omega, hn, ?_⟩
   refine at_intro ?_
   simp -dsimp only [vend, ne_eq, Nat.reduceEqDiff, reduceCtorEq]
   first | refine zg1 ?_ | refine zg0 ?_ | refine zg2 ?_ | refine zg3 ?_
   simp -dsimp only [simprocAttr, ↓vpre, zpm]
   refine at_intro ?_
   simp -dsimp only [vend, ne_eq, Nat.reduceEqDiff, reduceCtorEq]
   refine awp_ret ?_
   simp -dsimp only [simprocAttr, ↓vpre, zpm, RetTo, Try.results94, retVals, retVal, mkRet, AVal.upto, Nat.zero_le, Nat.le_refl, seqPost_ret, blockPost_ret, loopPost_ret, take_snoc]
   exact ⟨keep_upto hO _, by simp [uptoL], by omega⟩
  ·have hn : n = 0 := by
    simp at h
    omega
   refine awp_skip ?_
   simp -dsimp only [vend, ne_eq, Nat.reduceEqDiff, reduceCtorEq]
   refine awp_own 0 rfl ?_
   simp -dsimp only [simprocAttr, ↓vpre, zpm]
   first | refine zg1 ?_ | refine zg0 ?_ | refine zg2 ?_ | refine zg3 ?_
   simp -dsimp only [simprocAttr, ↓vpre, zpm]
   refine at_intro ?_
   simp -dsimp only [vend, ne_eq, Nat.reduceEqDiff, reduceCtorEq]
   refine awp_ret ?_
   simp -dsimp only [simprocAttr, ↓vpre, zpm, RetTo, Try.results94, retVals, retVal, mkRet, AVal.upto, Nat.zero_le, Nat.le_refl, seqPost_ret, blockPost_ret, loopPost_ret, take_snoc]
   exact ⟨keep_upto hO _, by simp [uptoL], by omega⟩

theorem tot_next {α : Type} {rows : List (List α)} {k : Nat} {r : List α} (h : rows[k]? = some r) : (rows.take (k + 1)).flatten = (rows.take k).flatten ++ r := by
 rw [take_next h]
 simp

theorem tot_le {α : Type} (rows : List (List α)) (k : Nat) : (rows.take k).flatten.length ≤ rows.flatten.length := by
 have : rows.flatten = (rows.take k).flatten ++ (rows.drop k).flatten := by rw [← List.flatten_append, List.take_append_drop]
 rw [this]
 simp

theorem concatP_spec (rows : List (List (List Int))) (hb : rows.length ≤ 2 ^ 30) (ht : rows.flatten.length ≤ 2 ^ 30) (O : List AObj) (hO : ∀ o ∈ O, o.upto (O.length + 1)) :
  ECall Try.prog 86 O [.lst 1 (rows.map eII) .ex] fun r O' => r = .lst 1 (rows.flatten.map eI) (.tok O.length) ∧ O' = O ++ [.spare rows.flatten.length] := by
 refine ecall_of hT false (O.length+1) Try.func86 rfl (by kernel_rfl) (by simp [Try.ntmps86]) (by simp) ?_
 show AWP Try.prog _ _ _ ⟨36, _, _⟩
 dsimp only [Tmp, TypeId, slotsOf]
 first | refine zg1 ?_ | refine zg0 ?_ | refine zg2 ?_ | refine zg3 ?_
 simp -dsimp only [simprocAttr, ↓vpre, zpm]
 refine at_intro ?_
 simp -dsimp only [vend, ne_eq, Nat.reduceEqDiff, reduceCtorEq]
 first | refine zg1 ?_ | refine zg0 ?_ | refine zg2 ?_ | refine zg3 ?_
 simp -dsimp only [simprocAttr, ↓vpre, zpm]
 refine at_intro ?_
 simp -dsimp only [vend, ne_eq, Nat.reduceEqDiff, reduceCtorEq]
 first | refine zg1 ?_ | refine zg0 ?_ | refine zg2 ?_ | refine zg3 ?_
 simp -dsimp only [simprocAttr, ↓vpre, zpm]
 refine at_intro ?_
 simp -dsimp only [vend, ne_eq, Nat.reduceEqDiff, reduceCtorEq]
 first | refine awp_block (awp_loop (ι := {k : Nat // k ≤ rows.length}) (fun k => ⟨36, [(0, .lst 1 (rows.map eII) .ex), (9, .lst 1 (rows.map eII) .ex), (10, .v (.int .i64 rows.length)), (11, .v (.int .i64 k.1)), (3, .v (.int .i64 (rows.take k.1).flatten.length))], O⟩) (fun k => rows.length - k.1) ⟨0, by omega⟩ ?_ ?_) | refine awp_seq (awp_block (awp_loop (ι := {k : Nat // k ≤ rows.length}) (fun k => ⟨36, [(0, .lst 1 (rows.map eII) .ex), (9, .lst 1 (rows.map eII) .ex), (10, .v (.int .i64 rows.length)), (11, .v (.int .i64 k.1)), (3, .v (.int .i64 (rows.take k.1).flatten.length))], O⟩) (fun k => rows.length - k.1) ⟨0, by omega⟩ ?_ ?_))
 ·refine ⟨rfl, ?_, ?_⟩
  rotate_left
  simp -dsimp only [simprocAttr, ↓vpre, zpm, Says, exists_eq_left', Option.some.injEq, sub_self, and_assoc, true_and, and_true, List.flatten_nil]
  rfl
 ·rintro ⟨k, hk⟩
  first | refine zg1 ?_ | refine zg0 ?_ | refine zg2 ?_ | refine zg3 ?_
  simp -dsimp only [simprocAttr, ↓vpre, zpm]
  refine at_intro ?_
  simp -dsimp only [vend, ne_eq, Nat.reduceEqDiff, reduceCtorEq]
  first | refine zk1 rfl (fun h => ?_) (fun h => ?_) | refine zk0 rfl (fun h => ?_) (fun h => ?_) | refine zk2 rfl (fun h => ?_) (fun h => ?_)
  ·refine awp_skip ?_
   simp -dsimp only [vend, ne_eq, Nat.reduceEqDiff, reduceCtorEq]
   have hlt : k < rows.length := by simpa using h
   obtain ⟨r, hr⟩ : ∃ r, rows[k]? = some r := ⟨rows[k], by simp [hlt]⟩
   have h1 := congrArg List.length (tot_next hr)
   have h2 := tot_le rows (k + 1)
   rw [List.length_append] at h1
   first | refine awp_seq (awp_block ?_) | refine awp_block ?_
   first | refine zg1 ?_ | refine zg0 ?_ | refine zg2 ?_ | refine zg3 ?_
   simp -dsimp only [simprocAttr, ↓vpre, zpm, hr]
   refine at_intro ?_
   simp -dsimp only [vend, ne_eq, Nat.reduceEqDiff, reduceCtorEq]
   first | refine zg1 ?_ | refine zg0 ?_ | refine zg2 ?_ | refine zg3 ?_
   simp -dsimp only [simprocAttr, ↓vpre, zpm]
   refine ⟨by omega, by omega, ?_⟩
   refine at_intro ?_
   simp -dsimp only [vend, ne_eq, Nat.reduceEqDiff, reduceCtorEq]
   first | refine zg1 ?_ | refine zg0 ?_ | refine zg2 ?_ | refine zg3 ?_
   simp -dsimp only [simprocAttr, ↓vpre, zpm]
   refine at_intro ?_
   simp -dsimp only [vend, ne_eq, Nat.reduceEqDiff, reduceCtorEq]
   first | refine zk1 rfl (fun h => ?_) (fun h => ?_) | refine zk0 rfl (fun h => ?_) (fun h => ?_) | refine zk2 rfl (fun h => ?_) (fun h => ?_)
   ·simp at h
    omega
   ·refine awp_skip ?_
    simp -dsimp only [vend, ne_eq, Nat.reduceEqDiff, reduceCtorEq]
    first | refine zg1 ?_ | refine zg0 ?_ | refine zg2 ?_ | refine zg3 ?_
    simp -dsimp only [simprocAttr, ↓vpre, zpm]
    refine ⟨by omega, by omega, ?_⟩
    refine at_intro ?_
    simp -dsimp only [vend, ne_eq, Nat.reduceEqDiff, reduceCtorEq]
    refine ⟨⟨k + 1, hlt⟩, by simp; omega, ?_⟩
    refine ⟨rfl, ?_, ?_⟩
    rotate_left
    simp -dsimp only [simprocAttr, ↓vpre, zpm, Says, exists_eq_left', Option.some.injEq, sub_self, and_assoc, true_and, and_true]
    ·exact ⟨Sub.int (by simp), Sub.int (by simp only [h1]; omega)⟩
    ·rfl
  ·refine awp_exit ?_
   simp -dsimp only [vend, ne_eq, Nat.reduceEqDiff, reduceCtorEq]
   have hlt : k = rows.length := by simp at h; omega
   subst hlt
   simp only [List.take_length]
   first | refine zg1 ?_ | refine zg0 ?_ | refine zg2 ?_ | refine zg3 ?_
   simp -dsimp only [simprocAttr, ↓vpre, zpm]
   refine .inr (.inl ⟨_, _, (growP_spec O hO rows.flatten.length (by omega)), .inl (later_intro ?_)⟩)
   simp -dsimp only [simprocAttr, ↓vpre, zpm]
   refine at_intro ?_
   simp -dsimp only [vend, ne_eq, Nat.reduceEqDiff, reduceCtorEq]
   first | refine zg1 ?_ | refine zg0 ?_ | refine zg2 ?_ | refine zg3 ?_
   simp -dsimp only [simprocAttr, ↓vpre, zpm]
   refine at_intro ?_
   simp -dsimp only [vend, ne_eq, Nat.reduceEqDiff, reduceCtorEq]
   first | refine awp_block (awp_loop (ι := {k : Nat // k ≤ rows.length}) (fun k => ⟨36, [(25, .lst 1 (rows.map eII) .ex), (26, .v (.int .i64 rows.length)), (27, .v (.int .i64 k.1)), (6, .lst 1 ((rows.take k.1).flatten.map eI) (.tok O.length))], O ++ [.spare (rows.take k.1).flatten.length]⟩) (fun k => rows.length - k.1) ⟨0, by omega⟩ ?_ ?_) | refine awp_seq (awp_block (awp_loop (ι := {k : Nat // k ≤ rows.length}) (fun k => ⟨36, [(25, .lst 1 (rows.map eII) .ex), (26, .v (.int .i64 rows.length)), (27, .v (.int .i64 k.1)), (6, .lst 1 ((rows.take k.1).flatten.map eI) (.tok O.length))], O ++ [.spare (rows.take k.1).flatten.length]⟩) (fun k => rows.length - k.1) ⟨0, by omega⟩ ?_ ?_))
   ·refine ⟨rfl, ?_, ?_⟩
    rotate_left
    simp -dsimp only [simprocAttr, ↓vpre, zpm, Says, exists_eq_left', Option.some.injEq, sub_self, and_assoc, true_and, and_true, List.flatten_nil]
    rfl
   ·rintro ⟨k, hk⟩
    first | refine zg1 ?_ | refine zg0 ?_ | refine zg2 ?_ | refine zg3 ?_
    simp -dsimp only [simprocAttr, ↓vpre, zpm]
    refine at_intro ?_
    simp -dsimp only [vend, ne_eq, Nat.reduceEqDiff, reduceCtorEq]
    first | refine zk1 rfl (fun h => ?_) (fun h => ?_) | refine zk0 rfl (fun h => ?_) (fun h => ?_) | refine zk2 rfl (fun h => ?_) (fun h => ?_)
    ·refine awp_skip ?_
     simp -dsimp only [vend, ne_eq, Nat.reduceEqDiff, reduceCtorEq]
     have hlt : k < rows.length := by simpa using h
     obtain ⟨r, hr⟩ : ∃ r, rows[k]? = some r := ⟨rows[k], by simp [hlt]⟩
     have h1 := congrArg List.length (tot_next hr)
     have h2 := tot_le rows (k + 1)
     rw [List.length_append] at h1
     first | refine awp_seq (awp_block ?_) | refine awp_block ?_
     first | refine zg1 ?_ | refine zg0 ?_ | refine zg2 ?_ | refine zg3 ?_
     simp -dsimp only [simprocAttr, ↓vpre, zpm, hr]
     refine at_intro ?_
     simp -dsimp only [vend, ne_eq, Nat.reduceEqDiff, reduceCtorEq]
     first | refine zg1 ?_ | refine zg0 ?_ | refine zg2 ?_ | refine zg3 ?_
     simp -dsimp only [simprocAttr, ↓vpre, zpm]
     refine ⟨by omega, by omega, ?_⟩
     refine at_intro ?_
     simp -dsimp only [vend, ne_eq, Nat.reduceEqDiff, reduceCtorEq]
     first | refine zg1 ?_ | refine zg0 ?_ | refine zg2 ?_ | refine zg3 ?_
     simp -dsimp only [simprocAttr, ↓vpre, zpm]
     refine ⟨by omega, by omega, ?_⟩
     refine at_intro ?_
     simp -dsimp only [vend, ne_eq, Nat.reduceEqDiff, reduceCtorEq]
     refine ⟨⟨k + 1, hlt⟩, by simp; omega, ?_⟩
     have e := tot_next hr
     refine ⟨rfl, ?_, ?_⟩
     rotate_left
     simp -dsimp only [simprocAttr, ↓vpre, zpm, Says, exists_eq_left', Option.some.injEq, sub_self, and_assoc, true_and, and_true]
     ·exact ⟨Sub.int (by simp), Sub.lst (by simp [e])⟩
     ·simp [e]
    ·refine awp_exit ?_
     simp -dsimp only [vend, ne_eq, Nat.reduceEqDiff, reduceCtorEq]
     have hlt : k = rows.length := by simp at h; omega
     subst hlt
     first | refine zg1 ?_ | refine zg0 ?_ | refine zg2 ?_ | refine zg3 ?_
     simp -dsimp only [simprocAttr, ↓vpre, zpm, List.take_length]
     refine at_intro ?_
     simp -dsimp only [vend, ne_eq, Nat.reduceEqDiff, reduceCtorEq]
     refine awp_ret ?_
     simp -dsimp only [simprocAttr, ↓vpre, zpm, RetTo, Try.results86, retVals, retVal, mkRet, AVal.upto, Nat.zero_le, Nat.le_refl, seqPost_ret, blockPost_ret, loopPost_ret, List.take_length, take_snoc]
     exact ⟨keep_upto hO _, by omega⟩

end Go.Proofs.Ytakdmelemfnmdaa
end

section
set_option linter.unusedSimpArgs false
set_option maxRecDepth 100000
set_option maxHeartbeats 1000000
-- !tab vtab vmat
-- !upto Pat.enc_upto Pat.map_upto MRow.enc_upto MRow.map_upto aI_upto eI_upto nS_upto MTree.enc_upto MTree.map_upto
namespace Go.Proofs.Ytakdmelemfnmdaa
open Go.Av

theorem equalI_spec (a b : List Int) : PCall Try.prog 92 [eI a, eI b] (.v (.bool (decide (a = b)))) := by
 refine ecall_of hT true 0 Try.func92 rfl (by kernel_rfl) (by simp [Try.ntmps92]) (by simp) ?_
 show AWP Try.prog _ _ _ ⟨26, _, _⟩
 dsimp only [Tmp, TypeId, slotsOf]
 first | refine zg1 ?_ | refine zg0 ?_ | refine zg2 ?_ | refine zg3 ?_
 simp -dsimp only [simprocAttr, ↓vpre, zpm]
 refine at_intro ?_
 simp -dsimp only [vend, ne_eq, Nat.reduceEqDiff, reduceCtorEq]
 first | refine zg1 ?_ | refine zg0 ?_ | refine zg2 ?_ | refine zg3 ?_
 simp -dsimp only [simprocAttr, ↓vpre, zpm]
 refine at_intro ?_
 simp -dsimp only [vend, ne_eq, Nat.reduceEqDiff, reduceCtorEq]
 first | refine zk1 rfl (fun h => ?_) (fun h => ?_) | refine zk0 rfl (fun h => ?_) (fun h => ?_) | refine zk2 rfl (fun h => ?_) (fun h => ?_)
 ·have hne : ¬ a.length = b.length := by
   simp at h
   omega
  first | refine zg1 ?_ | refine zg0 ?_ | refine zg2 ?_ | refine zg3 ?_
  simp -dsimp only [simprocAttr, ↓vpre, zpm]
  refine at_intro ?_
  simp -dsimp only [vend, ne_eq, Nat.reduceEqDiff, reduceCtorEq]
  refine awp_ret ?_
  simp -dsimp only [simprocAttr, ↓vpre, zpm, RetTo, Try.results92, retVals, retVal, mkRet, AVal.upto, Nat.zero_le, Nat.le_refl, seqPost_ret, blockPost_ret, loopPost_ret]
  have : ¬ a = b := fun e => hne (by rw [e])
  simp [this]
 ·have hee : a.length = b.length := by
   simp at h
   omega
  refine awp_skip ?_
  simp -dsimp only [vend, ne_eq, Nat.reduceEqDiff, reduceCtorEq]
  refine awp_len 0 rfl (fun hlen => ?_)
  simp only [List.length_map] at hlen
  first | refine zg1 ?_ | refine zg0 ?_ | refine zg2 ?_ | refine zg3 ?_
  simp -dsimp only [simprocAttr, ↓vpre, zpm]
  refine at_intro ?_
  simp -dsimp only [vend, ne_eq, Nat.reduceEqDiff, reduceCtorEq]
  first | refine awp_block (awp_loop (ι := {k : Nat // k ≤ a.length ∧ a.take k = b.take k}) (fun k => ⟨26, [(0, eI a), (1, eI b), (12, aI a.length), (13, aI k.1)], []⟩) (fun k => a.length - k.1) ⟨0, by omega, by simp⟩ ?_ ?_) | refine awp_seq (awp_block (awp_loop (ι := {k : Nat // k ≤ a.length ∧ a.take k = b.take k}) (fun k => ⟨26, [(0, eI a), (1, eI b), (12, aI a.length), (13, aI k.1)], []⟩) (fun k => a.length - k.1) ⟨0, by omega, by simp⟩ ?_ ?_))
  ·refine ⟨rfl, ?_, ?_⟩
   rotate_left
   simp -dsimp only [simprocAttr, ↓vpre, zpm, Says, exists_eq_left', Option.some.injEq, sub_self, and_assoc, true_and, and_true]
   rfl
  ·rintro ⟨k, hk, hs⟩
   first | refine zg1 ?_ | refine zg0 ?_ | refine zg2 ?_ | refine zg3 ?_
   simp -dsimp only [simprocAttr, ↓vpre, zpm]
   refine at_intro ?_
   simp -dsimp only [vend, ne_eq, Nat.reduceEqDiff, reduceCtorEq]
   first | refine zk1 rfl (fun h => ?_) (fun h => ?_) | refine zk0 rfl (fun h => ?_) (fun h => ?_) | refine zk2 rfl (fun h => ?_) (fun h => ?_)
   ·refine awp_skip ?_
    simp -dsimp only [vend, ne_eq, Nat.reduceEqDiff, reduceCtorEq]
    have hlt : k < a.length := by simpa using h
    obtain ⟨y, hy⟩ : ∃ y, a[k]? = some y := ⟨a[k], by simp [hlt]⟩
    obtain ⟨z, hz⟩ : ∃ z, b[k]? = some z := ⟨b[k]'(by omega), by simp [show k < b.length by omega]⟩
    first | refine awp_seq (awp_block ?_) | refine awp_block ?_
    first | refine zg1 ?_ | refine zg0 ?_ | refine zg2 ?_ | refine zg3 ?_
    simp -dsimp only [simprocAttr, ↓vpre, zpm]
    refine at_intro ?_
    simp -dsimp only [vend, ne_eq, Nat.reduceEqDiff, reduceCtorEq]
    first | refine zg1 ?_ | refine zg0 ?_ | refine zg2 ?_ | refine zg3 ?_
    simp -dsimp only [simprocAttr, ↓vpre, zpm, hy, hz]
    refine ⟨by (show orderB _ _ = true); kernel_rfl, at_intro ?_⟩
    simp -dsimp only [vend, ne_eq, Nat.reduceEqDiff, reduceCtorEq]
    first | refine zk1 rfl (fun h => ?_) (fun h => ?_) | refine zk0 rfl (fun h => ?_) (fun h => ?_) | refine zk2 rfl (fun h => ?_) (fun h => ?_)
    ·have hzy : ¬ y = z := by simpa using h
     first | refine zg1 ?_ | refine zg0 ?_ | refine zg2 ?_ | refine zg3 ?_
     simp -dsimp only [simprocAttr, ↓vpre, zpm]
     refine at_intro ?_
     simp -dsimp only [vend, ne_eq, Nat.reduceEqDiff, reduceCtorEq]
     refine awp_ret ?_
     simp -dsimp only [simprocAttr, ↓vpre, zpm, RetTo, Try.results92, retVals, retVal, mkRet, AVal.upto, Nat.zero_le, Nat.le_refl, seqPost_ret, blockPost_ret, loopPost_ret]
     have : ¬ a = b := fun e => by
      subst e
      rw [hy] at hz
      simp only [Option.some.injEq] at hz
      exact hzy hz
     simp [this]
    ·have hzy : y = z := by simpa using h
     refine awp_skip ?_
     simp -dsimp only [vend, ne_eq, Nat.reduceEqDiff, reduceCtorEq]
     first | refine zg1 ?_ | refine zg0 ?_ | refine zg2 ?_ | refine zg3 ?_
     simp -dsimp only [simprocAttr, ↓vpre, zpm]
     refine ⟨by omega, by omega, ?_⟩
     refine at_intro ?_
     simp -dsimp only [vend, ne_eq, Nat.reduceEqDiff, reduceCtorEq]
     refine ⟨⟨k + 1, hlt, by rw [take_next hy, take_next hz, hs, hzy]⟩, by simp; omega, ?_⟩
     refine ⟨rfl, ?_, ?_⟩
     rotate_left
     simp -dsimp only [simprocAttr, ↓vpre, zpm, Says, exists_eq_left', Option.some.injEq, sub_self, and_assoc, true_and, and_true]
     ·exact Sub.int (by simp)
     ·rfl
   ·refine awp_exit ?_
    simp -dsimp only [vend, ne_eq, Nat.reduceEqDiff, reduceCtorEq]
    have hlt : k = a.length := by simp at h; omega
    subst hlt
    rw [List.take_length, hee, List.take_length] at hs
    first | refine zg1 ?_ | refine zg0 ?_ | refine zg2 ?_ | refine zg3 ?_
    simp -dsimp only [simprocAttr, ↓vpre, zpm]
    refine at_intro ?_
    simp -dsimp only [vend, ne_eq, Nat.reduceEqDiff, reduceCtorEq]
    refine awp_ret ?_
    simp -dsimp only [simprocAttr, ↓vpre, zpm, RetTo, Try.results92, retVals, retVal, mkRet, AVal.upto, Nat.zero_le, Nat.le_refl, seqPost_ret, blockPost_ret, loopPost_ret]
    simp [hs]

theorem equalS_spec (a b : List ByteArray) : PCall Try.prog 93 [eSS a, eSS b] (.v (.bool (decide (a = b)))) := by
 refine ecall_of hT true 0 Try.func93 rfl (by kernel_rfl) (by simp [Try.ntmps93]) (by simp) ?_
 show AWP Try.prog _ _ _ ⟨26, _, _⟩
 dsimp only [Tmp, TypeId, slotsOf]
 first | refine zg1 ?_ | refine zg0 ?_ | refine zg2 ?_ | refine zg3 ?_
 simp -dsimp only [simprocAttr, ↓vpre, zpm]
 refine at_intro ?_
 simp -dsimp only [vend, ne_eq, Nat.reduceEqDiff, reduceCtorEq]
 first | refine zg1 ?_ | refine zg0 ?_ | refine zg2 ?_ | refine zg3 ?_
 simp -dsimp only [simprocAttr, ↓vpre, zpm]
 refine at_intro ?_
 simp -dsimp only [vend, ne_eq, Nat.reduceEqDiff, reduceCtorEq]
 first | refine zk1 rfl (fun h => ?_) (fun h => ?_) | refine zk0 rfl (fun h => ?_) (fun h => ?_) | refine zk2 rfl (fun h => ?_) (fun h => ?_)
 ·have hne : ¬ a.length = b.length := by
   simp at h
   omega
  first | refine zg1 ?_ | refine zg0 ?_ | refine zg2 ?_ | refine zg3 ?_
  simp -dsimp only [simprocAttr, ↓vpre, zpm]
  refine at_intro ?_
  simp -dsimp only [vend, ne_eq, Nat.reduceEqDiff, reduceCtorEq]
  refine awp_ret ?_
  simp -dsimp only [simprocAttr, ↓vpre, zpm, RetTo, Try.results93, retVals, retVal, mkRet, AVal.upto, Nat.zero_le, Nat.le_refl, seqPost_ret, blockPost_ret, loopPost_ret]
  have : ¬ a = b := fun e => hne (by rw [e])
  simp [this]
 ·have hee : a.length = b.length := by
   simp at h
   omega
  refine awp_skip ?_
  simp -dsimp only [vend, ne_eq, Nat.reduceEqDiff, reduceCtorEq]
  refine awp_len 0 rfl (fun hlen => ?_)
  simp only [List.length_map] at hlen
  first | refine zg1 ?_ | refine zg0 ?_ | refine zg2 ?_ | refine zg3 ?_
  simp -dsimp only [simprocAttr, ↓vpre, zpm]
  refine at_intro ?_
  simp -dsimp only [vend, ne_eq, Nat.reduceEqDiff, reduceCtorEq]
  first | refine awp_block (awp_loop (ι := {k : Nat // k ≤ a.length ∧ a.take k = b.take k}) (fun k => ⟨26, [(0, eSS a), (1, eSS b), (12, aI a.length), (13, aI k.1)], []⟩) (fun k => a.length - k.1) ⟨0, by omega, by simp⟩ ?_ ?_) | refine awp_seq (awp_block (awp_loop (ι := {k : Nat // k ≤ a.length ∧ a.take k = b.take k}) (fun k => ⟨26, [(0, eSS a), (1, eSS b), (12, aI a.length), (13, aI k.1)], []⟩) (fun k => a.length - k.1) ⟨0, by omega, by simp⟩ ?_ ?_))
  ·refine ⟨rfl, ?_, ?_⟩
   rotate_left
   simp -dsimp only [simprocAttr, ↓vpre, zpm, Says, exists_eq_left', Option.some.injEq, sub_self, and_assoc, true_and, and_true]
   rfl
  ·rintro ⟨k, hk, hs⟩
   first | refine zg1 ?_ | refine zg0 ?_ | refine zg2 ?_ | refine zg3 ?_
   simp -dsimp only [simprocAttr, ↓vpre, zpm]
   refine at_intro ?_
   simp -dsimp only [vend, ne_eq, Nat.reduceEqDiff, reduceCtorEq]
   first | refine zk1 rfl (fun h => ?_) (fun h => ?_) | refine zk0 rfl (fun h => ?_) (fun h => ?_) | refine zk2 rfl (fun h => ?_) (fun h => ?_)
   ·refine awp_skip ?_
    simp -dsimp only [vend, ne_eq, Nat.reduceEqDiff, reduceCtorEq]
    have hlt : k < a.length := by simpa using h
    obtain ⟨y, hy⟩ : ∃ y, a[k]? = some y := ⟨a[k], by simp [hlt]⟩
    obtain ⟨z, hz⟩ : ∃ z, b[k]? = some z := ⟨b[k]'(by omega), by simp [show k < b.length by omega]⟩
    first | refine awp_seq (awp_block ?_) | refine awp_block ?_
    first | refine zg1 ?_ | refine zg0 ?_ | refine zg2 ?_ | refine zg3 ?_
    simp -dsimp only [simprocAttr, ↓vpre, zpm]
    refine at_intro ?_
    simp -dsimp only [vend, ne_eq, Nat.reduceEqDiff, reduceCtorEq]
    first | refine zg1 ?_ | refine zg0 ?_ | refine zg2 ?_ | refine zg3 ?_
    simp -dsimp only [simprocAttr, ↓vpre, zpm, hy, hz]
    refine ⟨by (show orderB _ _ = true); kernel_rfl, at_intro ?_⟩
    simp -dsimp only [vend, ne_eq, Nat.reduceEqDiff, reduceCtorEq]
    first | refine zk1 rfl (fun h => ?_) (fun h => ?_) | refine zk0 rfl (fun h => ?_) (fun h => ?_) | refine zk2 rfl (fun h => ?_) (fun h => ?_)
    ·have hzy : ¬ y = z := by simpa using h
     first | refine zg1 ?_ | refine zg0 ?_ | refine zg2 ?_ | refine zg3 ?_
     simp -dsimp only [simprocAttr, ↓vpre, zpm]
     refine at_intro ?_
     simp -dsimp only [vend, ne_eq, Nat.reduceEqDiff, reduceCtorEq]
     refine awp_ret ?_
     simp -dsimp only [simprocAttr, ↓vpre, zpm, RetTo, Try.results93, retVals, retVal, mkRet, AVal.upto, Nat.zero_le, Nat.le_refl, seqPost_ret, blockPost_ret, loopPost_ret]
     have : ¬ a = b := fun e => by
      subst e
      rw [hy] at hz
      simp only [Option.some.injEq] at hz
      exact hzy hz
     simp [this]
    ·have hzy : y = z := by simpa using h
     refine awp_skip ?_
     simp -dsimp only [vend, ne_eq, Nat.reduceEqDiff, reduceCtorEq]
     first | refine zg1 ?_ | refine zg0 ?_ | refine zg2 ?_ | refine zg3 ?_
     simp -dsimp only [simprocAttr, ↓vpre, zpm]
     refine ⟨by omega, by omega, ?_⟩
     refine at_intro ?_
     simp -dsimp only [vend, ne_eq, Nat.reduceEqDiff, reduceCtorEq]
     refine ⟨⟨k + 1, hlt, by rw [take_next hy, take_next hz, hs, hzy]⟩, by simp; omega, ?_⟩
     refine ⟨rfl, ?_, ?_⟩
     rotate_left
     simp -dsimp only [simprocAttr, ↓vpre, zpm, Says, exists_eq_left', Option.some.injEq, sub_self, and_assoc, true_and, and_true]
     ·exact Sub.int (by simp)
     ·rfl
   ·refine awp_exit ?_
    simp -dsimp only [vend, ne_eq, Nat.reduceEqDiff, reduceCtorEq]
    have hlt : k = a.length := by simp at h; omega
    subst hlt
    rw [List.take_length, hee, List.take_length] at hs
    first | refine zg1 ?_ | refine zg0 ?_ | refine zg2 ?_ | refine zg3 ?_
    simp -dsimp only [simprocAttr, ↓vpre, zpm]
    refine at_intro ?_
    simp -dsimp only [vend, ne_eq, Nat.reduceEqDiff, reduceCtorEq]
    refine awp_ret ?_
    simp -dsimp only [simprocAttr, ↓vpre, zpm, RetTo, Try.results93, retVals, retVal, mkRet, AVal.upto, Nat.zero_le, Nat.le_refl, seqPost_ret, blockPost_ret, loopPost_ret]
    simp [hs]

theorem same_iff (a b : MTree) : a = b ↔ a.kind = b.kind ∧ a.row = b.row ∧ a.path = b.path ∧ a.names = b.names ∧ a.words = b.words ∧ a.kids = b.kids := by
 cases a
 cases b
 simp

theorem same_spec (a b : MTree) : PCall Try.prog 82 [a.enc, b.enc] (.v (.bool (decide (a = b)))) := by
 refine ecall_of hT true 0 Try.func82 rfl (by kernel_rfl) (by simp [Try.ntmps82]) (by simp) ?_
 show AWP Try.prog _ _ _ ⟨45, _, _⟩
 dsimp only [Tmp, TypeId, slotsOf]
 first | refine zg1 ?_ | refine zg0 ?_ | refine zg2 ?_ | refine zg3 ?_
 simp -dsimp only [simprocAttr, ↓vpre, zpm]
 refine at_intro ?_
 simp -dsimp only [vend, ne_eq, Nat.reduceEqDiff, reduceCtorEq]
 first | refine zg1 ?_ | refine zg0 ?_ | refine zg2 ?_ | refine zg3 ?_
 simp -dsimp only [simprocAttr, ↓vpre, zpm]
 refine vcIf_split (fun h0 => ?_) (fun h0 => ?_)
 ·have e0 : a.kind = b.kind := by simpa using h0
  simp -dsimp only [simprocAttr, ↓vpre, zpm, h0]
  refine vcIf_split (fun h1 => ?_) (fun h1 => ?_)
  ·have e1 : a.row = b.row := by simpa using h1
   simp -dsimp only [simprocAttr, ↓vpre, zpm, h1]
   refine .inl ⟨_, equalI_spec a.path b.path, by first | (simp only [uptoL, AVal.upto, zt, zum]; done) | (simp [uptoL, AVal.upto, zum]; done), later_intro ?_⟩
   simp -dsimp only [simprocAttr, ↓vpre, zpm]
   refine vcIf_split (fun h2 => ?_) (fun h2 => ?_)
   ·have e2 : a.path = b.path := by simpa using h2
    simp -dsimp only [simprocAttr, ↓vpre, zpm, h2]
    refine .inl ⟨_, equalS_spec a.names b.names, by first | (simp only [uptoL, AVal.upto, zt, zum]; done) | (simp [uptoL, AVal.upto, zum]; done), later_intro ?_⟩
    simp -dsimp only [simprocAttr, ↓vpre, zpm]
    refine vcIf_split (fun h3 => ?_) (fun h3 => ?_)
    ·have e3 : a.names = b.names := by simpa using h3
     simp -dsimp only [simprocAttr, ↓vpre, zpm, h3]
     refine .inl ⟨_, equalI_spec a.words b.words, by first | (simp only [uptoL, AVal.upto, zt, zum]; done) | (simp [uptoL, AVal.upto, zum]; done), later_intro ?_⟩
     simp -dsimp only [simprocAttr, ↓vpre, zpm]
     refine vcIf_split (fun h4 => ?_) (fun h4 => ?_)
     ·have e4 : a.words = b.words := by simpa using h4
      simp -dsimp only [simprocAttr, ↓vpre, zpm, h4]
      refine .inl ⟨_, equalI_spec a.kids b.kids, by first | (simp only [uptoL, AVal.upto, zt, zum]; done) | (simp [uptoL, AVal.upto, zum]; done), later_intro ?_⟩
      simp -dsimp only [simprocAttr, ↓vpre, zpm]
      refine at_intro ?_
      simp -dsimp only [vend, ne_eq, Nat.reduceEqDiff, reduceCtorEq]
      refine awp_ret ?_
      simp -dsimp only [simprocAttr, ↓vpre, zpm, RetTo, Try.results82, retVals, retVal, mkRet, AVal.upto, Nat.zero_le, Nat.le_refl, seqPost_ret, blockPost_ret, loopPost_ret]
      simp [same_iff, e0, e1, e2, e3, e4]
     ·have hne : ¬ a = b := fun e => by
       subst e
       simp at h4
      simp -dsimp only [simprocAttr, ↓vpre, zpm, h4]
      refine at_intro ?_
      simp -dsimp only [vend, ne_eq, Nat.reduceEqDiff, reduceCtorEq]
      refine awp_ret ?_
      simp -dsimp only [simprocAttr, ↓vpre, zpm, RetTo, Try.results82, retVals, retVal, mkRet, AVal.upto, Nat.zero_le, Nat.le_refl, seqPost_ret, blockPost_ret, loopPost_ret]
      simp [hne]
    ·have hne : ¬ a = b := fun e => by
      subst e
      simp at h3
     simp -dsimp only [simprocAttr, ↓vpre, zpm, h3]
     refine at_intro ?_
     simp -dsimp only [vend, ne_eq, Nat.reduceEqDiff, reduceCtorEq]
     refine awp_ret ?_
     simp -dsimp only [simprocAttr, ↓vpre, zpm, RetTo, Try.results82, retVals, retVal, mkRet, AVal.upto, Nat.zero_le, Nat.le_refl, seqPost_ret, blockPost_ret, loopPost_ret]
     simp [hne]
   ·have hne : ¬ a = b := fun e => by
     subst e
     simp at h2
    simp -dsimp only [simprocAttr, ↓vpre, zpm, h2]
    refine at_intro ?_
    simp -dsimp only [vend, ne_eq, Nat.reduceEqDiff, reduceCtorEq]
    refine awp_ret ?_
    simp -dsimp only [simprocAttr, ↓vpre, zpm, RetTo, Try.results82, retVals, retVal, mkRet, AVal.upto, Nat.zero_le, Nat.le_refl, seqPost_ret, blockPost_ret, loopPost_ret]
    simp [hne]
  ·have hne : ¬ a = b := fun e => by
    subst e
    simp at h1
   simp -dsimp only [simprocAttr, ↓vpre, zpm, h1]
   refine at_intro ?_
   simp -dsimp only [vend, ne_eq, Nat.reduceEqDiff, reduceCtorEq]
   refine awp_ret ?_
   simp -dsimp only [simprocAttr, ↓vpre, zpm, RetTo, Try.results82, retVals, retVal, mkRet, AVal.upto, Nat.zero_le, Nat.le_refl, seqPost_ret, blockPost_ret, loopPost_ret]
   simp [hne]
 ·have hne : ¬ a = b := fun e => by
   subst e
   simp at h0
  simp -dsimp only [simprocAttr, ↓vpre, zpm, h0]
  refine at_intro ?_
  simp -dsimp only [vend, ne_eq, Nat.reduceEqDiff, reduceCtorEq]
  refine awp_ret ?_
  simp -dsimp only [simprocAttr, ↓vpre, zpm, RetTo, Try.results82, retVals, retVal, mkRet, AVal.upto, Nat.zero_le, Nat.le_refl, seqPost_ret, blockPost_ret, loopPost_ret]
  simp [hne]

theorem add1_spec (x t : MTree) (oa : Option Addr) : PCall Try.prog 81 [x.enc, .ip oa t.enc.cells] (.v (.bool (decide (x = t)))) := by
 refine ecall_of hT true 0 Try.func81 rfl (by kernel_rfl) (by simp [Try.ntmps81]) (by simp) ?_
 show AWP Try.prog _ _ _ ⟨7, _, _⟩
 dsimp only [Tmp, TypeId, slotsOf]
 first | refine zg1 ?_ | refine zg0 ?_ | refine zg2 ?_ | refine zg3 ?_
 simp -dsimp only [simprocAttr, ↓vpre, zpm]
 refine at_intro ?_
 simp -dsimp only [vend, ne_eq, Nat.reduceEqDiff, reduceCtorEq]
 first | refine zg1 ?_ | refine zg0 ?_ | refine zg2 ?_ | refine zg3 ?_
 simp -dsimp only [simprocAttr, ↓vpre, zpm]
 refine .inl ⟨_, same_spec x t, by first | (simp only [uptoL, AVal.upto, zt, zum]; done) | (simp [uptoL, AVal.upto, zum]; done), later_intro ?_⟩
 simp -dsimp only [simprocAttr, ↓vpre, zpm]
 refine at_intro ?_
 simp -dsimp only [vend, ne_eq, Nat.reduceEqDiff, reduceCtorEq]
 refine awp_ret ?_
 simp -dsimp only [simprocAttr, ↓vpre, zpm, RetTo, Try.results81, retVals, retVal, mkRet, AVal.upto, Nat.zero_le, Nat.le_refl, seqPost_ret, blockPost_ret, loopPost_ret]

end Go.Proofs.Ytakdmelemfnmdaa
end

section
set_option linter.unusedSimpArgs false
set_option maxRecDepth 100000
set_option maxHeartbeats 1000000
-- !tab vtab vmat
-- !upto Pat.enc_upto Pat.map_upto MRow.enc_upto MRow.map_upto aI_upto eI_upto nS_upto MTree.enc_upto MTree.map_upto
namespace Go.Proofs.Ytakdmelemfnmdaa
open Go.Av

theorem idxT_spec (t : MTree) (oa : Option Addr) (l : List MTree) : PCall Try.prog 80 [eT l, .fn (.func 81) [] [.ip oa t.enc.cells]] (aI (idx (fun x => decide (x = t)) l)) := by
 refine ecall_of hT true 0 Try.func80 rfl (by kernel_rfl) (by simp [Try.ntmps80]) (by simp) ?_
 show AWP Try.prog _ _ _ ⟨19, _, _⟩
 dsimp only [Tmp, TypeId, slotsOf]
 first | refine zg1 ?_ | refine zg0 ?_ | refine zg2 ?_ | refine zg3 ?_
 simp -dsimp only [simprocAttr, ↓vpre, zpm]
 refine at_intro ?_
 simp -dsimp only [vend, ne_eq, Nat.reduceEqDiff, reduceCtorEq]
 refine awp_len 0 rfl (fun hlen => ?_)
 simp only [List.length_map] at hlen
 first | refine zg1 ?_ | refine zg0 ?_ | refine zg2 ?_ | refine zg3 ?_
 simp -dsimp only [simprocAttr, ↓vpre, zpm]
 refine at_intro ?_
 simp -dsimp only [vend, ne_eq, Nat.reduceEqDiff, reduceCtorEq]
 first | refine awp_block (awp_loop (ι := {k : Nat // k ≤ l.length ∧ ∀ j p, j < k → l[j]? = some p → decide (p = t) = false}) (fun k => ⟨19, [(0, eT l), (1, .fn (.func 81) [] [.ip oa t.enc.cells]), (7, .v (.int .i64 l.length)), (8, .v (.int .i64 k.1))], []⟩) (fun k => l.length - k.1) ⟨0, by omega, by intros; omega⟩ ?_ ?_) | refine awp_seq (awp_block (awp_loop (ι := {k : Nat // k ≤ l.length ∧ ∀ j p, j < k → l[j]? = some p → decide (p = t) = false}) (fun k => ⟨19, [(0, eT l), (1, .fn (.func 81) [] [.ip oa t.enc.cells]), (7, .v (.int .i64 l.length)), (8, .v (.int .i64 k.1))], []⟩) (fun k => l.length - k.1) ⟨0, by omega, by intros; omega⟩ ?_ ?_))
 ·refine ⟨rfl, ?_, ?_⟩
  rotate_left
  simp -dsimp only [simprocAttr, ↓vpre, zpm, Says, exists_eq_left', Option.some.injEq, sub_self, and_assoc, true_and, and_true]
  rfl
 ·rintro ⟨k, hk, hall⟩
  first | refine zg1 ?_ | refine zg0 ?_ | refine zg2 ?_ | refine zg3 ?_
  simp -dsimp only [simprocAttr, ↓vpre, zpm]
  refine at_intro ?_
  simp -dsimp only [vend, ne_eq, Nat.reduceEqDiff, reduceCtorEq]
  first | refine zk1 rfl (fun h => ?_) (fun h => ?_) | refine zk0 rfl (fun h => ?_) (fun h => ?_) | refine zk2 rfl (fun h => ?_) (fun h => ?_)
  ·refine awp_skip ?_
   simp -dsimp only [vend, ne_eq, Nat.reduceEqDiff, reduceCtorEq]
   have hlt : k < l.length := by simpa using h
   obtain ⟨p, hp⟩ : ∃ p, l[k]? = some p := ⟨l[k], by simp [hlt]⟩
   first | refine awp_seq (awp_block ?_) | refine awp_block ?_
   first | refine zg1 ?_ | refine zg0 ?_ | refine zg2 ?_ | refine zg3 ?_
   simp -dsimp only [simprocAttr, ↓vpre, zpm]
   refine at_intro ?_
   simp -dsimp only [vend, ne_eq, Nat.reduceEqDiff, reduceCtorEq]
   first | refine zg1 ?_ | refine zg0 ?_ | refine zg2 ?_ | refine zg3 ?_
   simp -dsimp only [simprocAttr, ↓vpre, zpm, hp]
   refine .inl ⟨_, add1_spec p t oa, by first | (simp only [uptoL, AVal.upto, zt, zum]; done) | (simp [uptoL, AVal.upto, zum]; done), later_intro ?_⟩
   simp -dsimp only [simprocAttr, ↓vpre, zpm]
   refine at_intro ?_
   simp -dsimp only [vend, ne_eq, Nat.reduceEqDiff, reduceCtorEq]
   first | refine zk1 rfl (fun h => ?_) (fun h => ?_) | refine zk0 rfl (fun h => ?_) (fun h => ?_) | refine zk2 rfl (fun h => ?_) (fun h => ?_)
   ·first | refine zg1 ?_ | refine zg0 ?_ | refine zg2 ?_ | refine zg3 ?_
    simp -dsimp only [simprocAttr, ↓vpre, zpm]
    refine at_intro ?_
    simp -dsimp only [vend, ne_eq, Nat.reduceEqDiff, reduceCtorEq]
    refine awp_ret ?_
    simp -dsimp only [simprocAttr, ↓vpre, zpm, RetTo, Try.results80, retVals, retVal, mkRet, AVal.upto, Nat.zero_le, Nat.le_refl, seqPost_ret, blockPost_ret, loopPost_ret]
    rw [idx_some hp h hall]
   ·refine awp_skip ?_
    simp -dsimp only [vend, ne_eq, Nat.reduceEqDiff, reduceCtorEq]
    have hb : decide (p = t) = false := by simpa using h
    first | refine zg1 ?_ | refine zg0 ?_ | refine zg2 ?_ | refine zg3 ?_
    simp -dsimp only [simprocAttr, ↓vpre, zpm]
    refine ⟨by omega, by omega, ?_⟩
    refine at_intro ?_
    simp -dsimp only [vend, ne_eq, Nat.reduceEqDiff, reduceCtorEq]
    refine ⟨⟨k + 1, hlt, fun j q hj hq => ?_⟩, by simp; omega, ?_⟩
    ·rcases Nat.lt_succ_iff_lt_or_eq.1 hj with hj | hj
     ·exact hall j q hj hq
     ·subst hj
      rw [hp] at hq
      simp only [Option.some.injEq] at hq
      rw [← hq]
      exact hb
    refine ⟨rfl, ?_, ?_⟩
    rotate_left
    simp -dsimp only [simprocAttr, ↓vpre, zpm, Says, exists_eq_left', Option.some.injEq, sub_self, and_assoc, true_and, and_true]
    ·exact Sub.int (by simp)
    ·rfl
  ·refine awp_exit ?_
   simp -dsimp only [vend, ne_eq, Nat.reduceEqDiff, reduceCtorEq]
   have hlt : k = l.length := by simp at h; omega
   subst hlt
   first | refine zg1 ?_ | refine zg0 ?_ | refine zg2 ?_ | refine zg3 ?_
   simp -dsimp only [simprocAttr, ↓vpre, zpm]
   refine at_intro ?_
   simp -dsimp only [vend, ne_eq, Nat.reduceEqDiff, reduceCtorEq]
   refine awp_ret ?_
   simp -dsimp only [simprocAttr, ↓vpre, zpm, RetTo, Try.results80, retVals, retVal, mkRet, AVal.upto, Nat.zero_le, Nat.le_refl, seqPost_ret, blockPost_ret, loopPost_ret]
   rw [idx_none hall]

end Go.Proofs.Ytakdmelemfnmdaa
end

section
set_option linter.unusedSimpArgs false
set_option maxRecDepth 100000
set_option maxHeartbeats 1000000
-- !tab vtab vmat
-- !upto Pat.enc_upto Pat.map_upto MRow.enc_upto MRow.map_upto aI_upto eI_upto nS_upto MTree.enc_upto MTree.map_upto
namespace Go.Proofs.Ytakdmelemfnmdaa
open Go.Av

/-- A builder's state. -/
structure BS where
 outs : List MTree
 many : Nat
 full : Bool

def BS.add (s : BS) (t : MTree) : Int × BS := if idx (fun x => decide (x = t)) s.outs < 0 then (s.outs.length, { s with outs := s.outs ++ [t] }) else (idx (fun x => decide (x = t)) s.outs, s)

/-- The builder and the room of its list. -/
def BS.objs (cm : AVal) (s : BS) : List AObj := [.cells [cm, .lst 6 (s.outs.map MTree.enc) (.tok 1), .v (.int .i64 s.many), .v (.bool s.full)], .spare s.outs.length]

theorem BS.upto {cm : AVal} (hcm : cm.upto 2) (l : List MTree) (m : Nat) (b : Bool) (n : Nat) : ∀ o ∈ [AObj.cells [cm, .lst 6 (l.map MTree.enc) (.tok 1), .v (.int .i64 m), .v (.bool b)], .spare n], o.upto 2 := by
 simp [AObj.upto, uptoL, AVal.upto, hcm, MTree.map_upto]

theorem madd_spec (cm : AVal) (hcm : cm.upto 2) (s : BS) (t : MTree) (hb : s.outs.length ≤ 2 ^ 20) : ECall Try.prog 50 (s.objs cm) [.mp 0 0, t.enc] fun r O' => r = aI (s.add t).1 ∧ O' = (s.add t).2.objs cm := by
 obtain ⟨z, hz⟩ : ∃ z, z = idx (fun x => decide (x = t)) s.outs := ⟨_, rfl⟩
 unfold BS.add
 rw [← hz]
 simp only [BS.objs]
 refine ecall_of hT true 2 Try.func50 rfl (by kernel_rfl) (by simp [Try.ntmps50]) (by simp) ?_
 show AWP Try.prog _ _ _ ⟨31, _, _⟩
 dsimp only [Tmp, TypeId, slotsOf]
 first | refine zg1 ?_ | refine zg0 ?_ | refine zg2 ?_ | refine zg3 ?_
 simp -dsimp only [simprocAttr, ↓vpre, zpm]
 refine at_intro ?_
 simp -dsimp only [vend, ne_eq, Nat.reduceEqDiff, reduceCtorEq]
 refine awp_freeze1 3 2 (.ip none t.enc.cells) rfl (by simp [AObj.isSpare]) trivial rfl ?_ ?_
 rotate_left
 simp -dsimp only [simprocAttr, ↓vpre, zpm]
 ·first | refine zg1 ?_ | refine zg0 ?_ | refine zg2 ?_ | refine zg3 ?_
  simp -dsimp only [simprocAttr, ↓vpre, zpm]
  refine .inl ⟨_, idxT_spec t none s.outs, by first | (simp only [uptoL, AVal.upto, zt, zum]; done) | (simp [uptoL, AVal.upto, zum]; done), later_intro ?_⟩
  simp -dsimp only [simprocAttr, ↓vpre, zpm]
  refine at_intro ?_
  simp -dsimp only [vend, ne_eq, Nat.reduceEqDiff, reduceCtorEq]
  first | refine zg1 ?_ | refine zg0 ?_ | refine zg2 ?_ | refine zg3 ?_
  simp -dsimp only [simprocAttr, ↓vpre, zpm, ← hz]
  refine at_intro ?_
  simp -dsimp only [vend, ne_eq, Nat.reduceEqDiff, reduceCtorEq]
  first | refine zk1 rfl (fun h => ?_) (fun h => ?_) | refine zk0 rfl (fun h => ?_) (fun h => ?_) | refine zk2 rfl (fun h => ?_) (fun h => ?_)
  ·have h0 : ¬ z < 0 := by
    simp at h
    omega
   rw [if_neg h0]
   first | refine zg1 ?_ | refine zg0 ?_ | refine zg2 ?_ | refine zg3 ?_
   simp -dsimp only [simprocAttr, ↓vpre, zpm]
   refine at_intro ?_
   simp -dsimp only [vend, ne_eq, Nat.reduceEqDiff, reduceCtorEq]
   refine awp_ret ?_
   simp -dsimp only [simprocAttr, ↓vpre, zpm, RetTo, Try.results50, retVals, retVal, mkRet, AVal.upto, Nat.zero_le, Nat.le_refl, seqPost_ret, blockPost_ret, loopPost_ret]
   exact BS.upto hcm _ _ _ _
  ·have h0 : z < 0 := by
    simp at h
    omega
   rw [if_pos h0]
   refine awp_skip ?_
   simp -dsimp only [vend, ne_eq, Nat.reduceEqDiff, reduceCtorEq]
   first | refine zg1 ?_ | refine zg0 ?_ | refine zg2 ?_ | refine zg3 ?_
   simp -dsimp only [simprocAttr, ↓vpre, zpm]
   refine ⟨by omega, by omega, ?_⟩
   refine ⟨by (show orderB _ _ = true); kernel_rfl, at_intro ?_⟩
   simp -dsimp only [vend, ne_eq, Nat.reduceEqDiff, reduceCtorEq]
   first | refine zg1 ?_ | refine zg0 ?_ | refine zg2 ?_ | refine zg3 ?_
   simp -dsimp only [simprocAttr, ↓vpre, zpm]
   refine ⟨by omega, by omega, ?_⟩
   refine at_intro ?_
   simp -dsimp only [vend, ne_eq, Nat.reduceEqDiff, reduceCtorEq]
   refine awp_ret ?_
   simp -dsimp only [simprocAttr, ↓vpre, zpm, RetTo, Try.results50, retVals, retVal, mkRet, AVal.upto, Nat.zero_le, Nat.le_refl, seqPost_ret, blockPost_ret, loopPost_ret]
   refine ⟨?_, by simp, by simp⟩
   have := BS.upto hcm (s.outs ++ [t]) s.many s.full (s.outs.length + 1)
   simpa using this
 ·exact FSub.mp rfl rfl

end Go.Proofs.Ytakdmelemfnmdaa
end

section
set_option linter.unusedSimpArgs false
set_option maxRecDepth 100000
set_option maxHeartbeats 1000000
-- !tab vtab vmat
-- !upto Pat.enc_upto Pat.map_upto MRow.enc_upto MRow.map_upto aI_upto eI_upto nS_upto MTree.enc_upto MTree.map_upto
namespace Go.Proofs.Ytakdmelemfnmdaa
open Go.Av

/-- The places of the fields of a place. -/
def subs (q : List Int) (n : Nat) : List (List Int) := (List.range n).map fun (k : Nat) => q ++ [(k : Int)]

theorem subs_next (q : List Int) (n : Nat) : subs q (n + 1) = subs q n ++ [q ++ [(n : Int)]] := by
 simp [subs, List.range_succ]

theorem subs_len (q : List Int) (n : Nat) : (subs q n).length = n := by simp [subs]

theorem below_spec (paths : List (List Int)) (c many : Nat) (q : List Int) (hq : paths[c]? = some q) (hne : q ≠ []) (hql : q.length ≤ 2 ^ 20) (hb : paths.length ≤ 2 ^ 20) (hm' : many ≤ 2 ^ 20) :
  PCall Try.prog 59 [eII paths, .v (.int .i64 c), .v (.int .i64 many)] (eII (paths.take c ++ paths.drop (c + 1) ++ subs q many)) := by
 have hc := lt_of_getElem? hq
 obtain ⟨A, hA⟩ : ∃ A, A = paths.take c ++ paths.drop (c + 1) := ⟨_, rfl⟩
 have hAl : A.length ≤ 2 ^ 20 := by
  rw [hA]
  simp
  omega
 rw [← hA]
 refine ecall_of hT true 0 Try.func59 rfl (by kernel_rfl) (by simp [Try.ntmps59]) (by simp) ?_
 show AWP Try.prog _ _ _ ⟨35, _, _⟩
 dsimp only [Tmp, TypeId, slotsOf]
 first | refine zg1 ?_ | refine zg0 ?_ | refine zg2 ?_ | refine zg3 ?_
 simp -dsimp only [simprocAttr, ↓vpre, zpm]
 refine at_intro ?_
 simp -dsimp only [vend, ne_eq, Nat.reduceEqDiff, reduceCtorEq]
 first | refine zg1 ?_ | refine zg0 ?_ | refine zg2 ?_ | refine zg3 ?_
 simp -dsimp only [simprocAttr, ↓vpre, zpm, ← List.map_take, ← List.map_drop, toNat_succ, List.take_length]
 repeat (refine ⟨by omega, ?_⟩)
 refine .inr (.inl ⟨_, _, (concatP_spec [paths.take c, paths.drop (c + 1)] (by simp) (by simp; omega) [] (by simp)), .inl (later_intro ?_)⟩)
 simp -dsimp only [simprocAttr, ↓vpre, zpm]
 have hfl : [paths.take c, paths.drop (c + 1)].flatten = A := by
  rw [hA]
  simp
 simp -dsimp only [simprocAttr, ↓vpre, zpm, hfl]
 refine ⟨by (show orderB _ _ = true); kernel_rfl, at_intro ?_⟩
 simp -dsimp only [vend, ne_eq, Nat.reduceEqDiff, reduceCtorEq]
 first | refine zg1 ?_ | refine zg0 ?_ | refine zg2 ?_ | refine zg3 ?_
 simp -dsimp only [simprocAttr, ↓vpre, zpm]
 refine at_intro ?_
 simp -dsimp only [vend, ne_eq, Nat.reduceEqDiff, reduceCtorEq]
 first | refine awp_block (awp_loop (ι := {k : Nat // k ≤ many}) (fun k => ⟨35, [(0, eII paths), (1, .v (.int .i64 c)), (18, .v (.int .i64 many)), (19, .v (.int .i64 k.1)), (7, .lst 1 ((A ++ subs q k.1).map eI) (.tok 0))], [.spare (A.length + k.1)]⟩) (fun k => many - k.1) ⟨0, by omega⟩ ?_ ?_) | refine awp_seq (awp_block (awp_loop (ι := {k : Nat // k ≤ many}) (fun k => ⟨35, [(0, eII paths), (1, .v (.int .i64 c)), (18, .v (.int .i64 many)), (19, .v (.int .i64 k.1)), (7, .lst 1 ((A ++ subs q k.1).map eI) (.tok 0))], [.spare (A.length + k.1)]⟩) (fun k => many - k.1) ⟨0, by omega⟩ ?_ ?_))
 ·refine ⟨rfl, ?_, ?_⟩
  rotate_left
  simp -dsimp only [simprocAttr, ↓vpre, zpm, Says, exists_eq_left', Option.some.injEq, sub_self, and_assoc, true_and, and_true]
  ·exact Sub.lst (by simp [subs])
  ·simp
 ·rintro ⟨k, hk⟩
  first | refine zg1 ?_ | refine zg0 ?_ | refine zg2 ?_ | refine zg3 ?_
  simp -dsimp only [simprocAttr, ↓vpre, zpm]
  refine at_intro ?_
  simp -dsimp only [vend, ne_eq, Nat.reduceEqDiff, reduceCtorEq]
  first | refine zk1 rfl (fun h => ?_) (fun h => ?_) | refine zk0 rfl (fun h => ?_) (fun h => ?_) | refine zk2 rfl (fun h => ?_) (fun h => ?_)
  ·refine awp_skip ?_
   simp -dsimp only [vend, ne_eq, Nat.reduceEqDiff, reduceCtorEq]
   have hlt : k < many := by simpa using h
   have hsl := subs_len q k
   first | refine awp_seq (awp_block ?_) | refine awp_block ?_
   first | refine zg1 ?_ | refine zg0 ?_ | refine zg2 ?_ | refine zg3 ?_
   simp -dsimp only [simprocAttr, ↓vpre, zpm]
   refine at_intro ?_
   simp -dsimp only [vend, ne_eq, Nat.reduceEqDiff, reduceCtorEq]
   first | refine zg1 ?_ | refine zg0 ?_ | refine zg2 ?_ | refine zg3 ?_
   simp -dsimp only [simprocAttr, ↓vpre, zpm, hq]
   refine .inr (.inl ⟨_, _, (cloneI_spec q (by omega) hne [.spare (A.length + k)] (by simp [AObj.upto])), .inl (later_intro ?_)⟩)
   simp -dsimp only [simprocAttr, ↓vpre, zpm, hsl]
   repeat (refine ⟨by omega, ?_⟩)
   refine at_intro ?_
   simp -dsimp only [vend, ne_eq, Nat.reduceEqDiff, reduceCtorEq]
   refine awp_trunc' 1 [(0, eII paths), (1, .v (.int .i64 c)), (18, .v (.int .i64 many)), (19, .v (.int .i64 k)), (7, .lst 1 ((A ++ subs q (k + 1)).map eI) (.tok 0))] (by first | omega | (simp; done) | (simp; omega)) (by first | omega | (simp; done) | (simp; omega)) [.spare (A.length + (k + 1))] ?_ ?_ ?_ ?_ ?_
   ·rfl
   ·simp [AObj.upto]
   ·simp -dsimp only [simprocAttr, ↓vpre, zpm, Says, exists_eq_left', Option.some.injEq, sub_self, and_true]
    exact Sub.lst (by simp [subs_next])
   ·simp [AVal.upto, uptoL, eI_upto, -List.map_append]
   first | refine zg1 ?_ | refine zg0 ?_ | refine zg2 ?_ | refine zg3 ?_
   simp -dsimp only [simprocAttr, ↓vpre, zpm]
   repeat (refine ⟨by omega, ?_⟩)
   refine at_intro ?_
   simp -dsimp only [vend, ne_eq, Nat.reduceEqDiff, reduceCtorEq]
   refine ⟨⟨k + 1, hlt⟩, by simp; omega, ?_⟩
   refine ⟨rfl, ?_, ?_⟩
   rotate_left
   simp -dsimp only [simprocAttr, ↓vpre, zpm, Says, exists_eq_left', Option.some.injEq, sub_self, and_assoc, true_and, and_true]
   ·exact Sub.int (by simp)
   ·rfl
  ·refine awp_exit ?_
   simp -dsimp only [vend, ne_eq, Nat.reduceEqDiff, reduceCtorEq]
   have hlt : k = many := by simp at h; omega
   subst hlt
   first | refine zg1 ?_ | refine zg0 ?_ | refine zg2 ?_ | refine zg3 ?_
   simp -dsimp only [simprocAttr, ↓vpre, zpm]
   refine at_intro ?_
   simp -dsimp only [vend, ne_eq, Nat.reduceEqDiff, reduceCtorEq]
   refine awp_ret ?_
   simp -dsimp only [simprocAttr, ↓vpre, zpm, RetTo, Try.results59, retVals, retVal, mkRet, AVal.upto, Nat.zero_le, Nat.le_refl, seqPost_ret, blockPost_ret, loopPost_ret, List.take_length]

end Go.Proofs.Ytakdmelemfnmdaa
end

section
set_option linter.unusedSimpArgs false
set_option maxRecDepth 100000
set_option maxHeartbeats 1000000
-- !tab vtab vmat
-- !upto Pat.enc_upto Pat.map_upto MRow.enc_upto MRow.map_upto aI_upto eI_upto nS_upto MTree.enc_upto MTree.map_upto hup
namespace Go.Proofs.Ytakdmelemfnmdaa
open Go.Av

/-- Does a row ask for this at a column. -/
def MRow.has (c : Nat) (f : Pat → Bool) (r : MRow) : Bool :=
 match r.pats[c]? with
 | none => false
 | some p => !p.free && f p

theorem build3_spec (r : MRow) (c : Nat) (oa ob : Option Addr) (f : Pat → Bool) (id : Nat) (cs : List AVal) (hcs : cs.map AVal.share = cs) (hup : ∀ n, uptoL n cs) (hc : c < r.pats.length)
  (hf : ∀ p ∈ r.pats, PCall Try.prog id (p.enc :: cs) (.v (.bool (f p)))) :
  PCall Try.prog 57 [r.enc, .ip oa [.v (.int .i64 c)], .ip ob [.fn (.func id) [] cs]] (.v (.bool (r.has c f))) := by
 obtain ⟨p, hp⟩ : ∃ p, r.pats[c]? = some p := ⟨r.pats[c]'hc, by simp [hc]⟩
 have hpm := List.mem_of_getElem? hp
 refine ecall_of hT true 0 Try.func57 rfl (by kernel_rfl) (by simp [Try.ntmps57]) (by simp) ?_
 show AWP Try.prog _ _ _ ⟨21, _, _⟩
 dsimp only [Tmp, TypeId, slotsOf]
 first | refine zg1 ?_ | refine zg0 ?_ | refine zg2 ?_ | refine zg3 ?_
 simp -dsimp only [simprocAttr, ↓vpre, zpm]
 refine at_intro ?_
 simp -dsimp only [vend, ne_eq, Nat.reduceEqDiff, reduceCtorEq]
 first | refine zg1 ?_ | refine zg0 ?_ | refine zg2 ?_ | refine zg3 ?_
 simp -dsimp only [simprocAttr, ↓vpre, zpm, hp]
 refine .inl ⟨_, mfree_spec p, by first | (simp only [uptoL, AVal.upto, zt, zum, hup]; done) | (simp [uptoL, AVal.upto, zum, hup]; done), later_intro ?_⟩
 simp -dsimp only [simprocAttr, ↓vpre, zpm]
 refine vcIf_split (fun h => ?_) (fun h => ?_)
 ·have hp0 : p.free = false := by simpa using h
  simp -dsimp only [simprocAttr, ↓vpre, zpm, hp0, hp, hcs]
  refine .inl ⟨_, (hf p hpm), by first | (simp only [uptoL, AVal.upto, zt, zum, hup]; done) | (simp [uptoL, AVal.upto, zum, hup]; done), later_intro ?_⟩
  simp -dsimp only [simprocAttr, ↓vpre, zpm, hp0]
  refine ⟨by (show orderB _ _ = true); kernel_rfl, at_intro ?_⟩
  simp -dsimp only [vend, ne_eq, Nat.reduceEqDiff, reduceCtorEq]
  refine awp_ret ?_
  simp -dsimp only [simprocAttr, ↓vpre, zpm, RetTo, Try.results57, retVals, retVal, mkRet, AVal.upto, Nat.zero_le, Nat.le_refl, seqPost_ret, blockPost_ret, loopPost_ret]
  simp [MRow.has, hp, hp0]
 ·have hp0 : p.free = true := by simpa using h
  simp -dsimp only [simprocAttr, ↓vpre, zpm, hp0]
  refine ⟨by (show orderB _ _ = true); kernel_rfl, at_intro ?_⟩
  simp -dsimp only [vend, ne_eq, Nat.reduceEqDiff, reduceCtorEq]
  refine awp_ret ?_
  simp -dsimp only [simprocAttr, ↓vpre, zpm, RetTo, Try.results57, retVals, retVal, mkRet, AVal.upto, Nat.zero_le, Nat.le_refl, seqPost_ret, blockPost_ret, loopPost_ret]
  simp [MRow.has, hp, hp0]

theorem idxR_spec (c : Nat) (oa ob : Option Addr) (f : Pat → Bool) (id : Nat) (cs : List AVal) (hcs : cs.map AVal.share = cs) (hup : ∀ n, uptoL n cs) (l : List MRow) (hc : ∀ r ∈ l, c < r.pats.length)
  (hf : ∀ r ∈ l, ∀ p ∈ r.pats, PCall Try.prog id (p.enc :: cs) (.v (.bool (f p)))) :
  PCall Try.prog 85 [eM l, .fn (.func 57) [] [.ip oa [.v (.int .i64 c)], .ip ob [.fn (.func id) [] cs]]] (aI (idx (MRow.has c f) l)) := by
 refine ecall_of hT true 0 Try.func85 rfl (by kernel_rfl) (by simp [Try.ntmps85]) (by simp) ?_
 show AWP Try.prog _ _ _ ⟨19, _, _⟩
 dsimp only [Tmp, TypeId, slotsOf]
 first | refine zg1 ?_ | refine zg0 ?_ | refine zg2 ?_ | refine zg3 ?_
 simp -dsimp only [simprocAttr, ↓vpre, zpm]
 refine at_intro ?_
 simp -dsimp only [vend, ne_eq, Nat.reduceEqDiff, reduceCtorEq]
 refine awp_len 0 rfl (fun hlen => ?_)
 simp only [List.length_map] at hlen
 first | refine zg1 ?_ | refine zg0 ?_ | refine zg2 ?_ | refine zg3 ?_
 simp -dsimp only [simprocAttr, ↓vpre, zpm]
 refine at_intro ?_
 simp -dsimp only [vend, ne_eq, Nat.reduceEqDiff, reduceCtorEq]
 first | refine awp_block (awp_loop (ι := {k : Nat // k ≤ l.length ∧ ∀ j p, j < k → l[j]? = some p → MRow.has c f p = false}) (fun k => ⟨19, [(0, eM l), (1, .fn (.func 57) [] [.ip oa [.v (.int .i64 c)], .ip ob [.fn (.func id) [] cs]]), (7, .v (.int .i64 l.length)), (8, .v (.int .i64 k.1))], []⟩) (fun k => l.length - k.1) ⟨0, by omega, by intros; omega⟩ ?_ ?_) | refine awp_seq (awp_block (awp_loop (ι := {k : Nat // k ≤ l.length ∧ ∀ j p, j < k → l[j]? = some p → MRow.has c f p = false}) (fun k => ⟨19, [(0, eM l), (1, .fn (.func 57) [] [.ip oa [.v (.int .i64 c)], .ip ob [.fn (.func id) [] cs]]), (7, .v (.int .i64 l.length)), (8, .v (.int .i64 k.1))], []⟩) (fun k => l.length - k.1) ⟨0, by omega, by intros; omega⟩ ?_ ?_))
 ·refine ⟨rfl, ?_, ?_⟩
  rotate_left
  simp -dsimp only [simprocAttr, ↓vpre, zpm, Says, exists_eq_left', Option.some.injEq, sub_self, and_assoc, true_and, and_true]
  rfl
 ·rintro ⟨k, hk, hall⟩
  first | refine zg1 ?_ | refine zg0 ?_ | refine zg2 ?_ | refine zg3 ?_
  simp -dsimp only [simprocAttr, ↓vpre, zpm]
  refine at_intro ?_
  simp -dsimp only [vend, ne_eq, Nat.reduceEqDiff, reduceCtorEq]
  first | refine zk1 rfl (fun h => ?_) (fun h => ?_) | refine zk0 rfl (fun h => ?_) (fun h => ?_) | refine zk2 rfl (fun h => ?_) (fun h => ?_)
  ·refine awp_skip ?_
   simp -dsimp only [vend, ne_eq, Nat.reduceEqDiff, reduceCtorEq]
   have hlt : k < l.length := by simpa using h
   obtain ⟨p, hp⟩ : ∃ p, l[k]? = some p := ⟨l[k], by simp [hlt]⟩
   have hmem := List.mem_of_getElem? hp
   first | refine awp_seq (awp_block ?_) | refine awp_block ?_
   first | refine zg1 ?_ | refine zg0 ?_ | refine zg2 ?_ | refine zg3 ?_
   simp -dsimp only [simprocAttr, ↓vpre, zpm]
   refine at_intro ?_
   simp -dsimp only [vend, ne_eq, Nat.reduceEqDiff, reduceCtorEq]
   first | refine zg1 ?_ | refine zg0 ?_ | refine zg2 ?_ | refine zg3 ?_
   simp -dsimp only [simprocAttr, ↓vpre, zpm, hp, hcs]
   refine .inl ⟨_, build3_spec p c oa ob f id cs hcs hup (hc p hmem) (hf p hmem), by first | (simp only [uptoL, AVal.upto, zt, zum, hup]; done) | (simp [uptoL, AVal.upto, zum, hup]; done), later_intro ?_⟩
   simp -dsimp only [simprocAttr, ↓vpre, zpm]
   refine at_intro ?_
   simp -dsimp only [vend, ne_eq, Nat.reduceEqDiff, reduceCtorEq]
   first | refine zk1 rfl (fun h => ?_) (fun h => ?_) | refine zk0 rfl (fun h => ?_) (fun h => ?_) | refine zk2 rfl (fun h => ?_) (fun h => ?_)
   ·first | refine zg1 ?_ | refine zg0 ?_ | refine zg2 ?_ | refine zg3 ?_
    simp -dsimp only [simprocAttr, ↓vpre, zpm]
    refine at_intro ?_
    simp -dsimp only [vend, ne_eq, Nat.reduceEqDiff, reduceCtorEq]
    refine awp_ret ?_
    simp -dsimp only [simprocAttr, ↓vpre, zpm, RetTo, Try.results85, retVals, retVal, mkRet, AVal.upto, Nat.zero_le, Nat.le_refl, seqPost_ret, blockPost_ret, loopPost_ret]
    rw [idx_some hp h hall]
   ·refine awp_skip ?_
    simp -dsimp only [vend, ne_eq, Nat.reduceEqDiff, reduceCtorEq]
    have hb : MRow.has c f p = false := by simpa using h
    first | refine zg1 ?_ | refine zg0 ?_ | refine zg2 ?_ | refine zg3 ?_
    simp -dsimp only [simprocAttr, ↓vpre, zpm]
    refine ⟨by omega, by omega, ?_⟩
    refine at_intro ?_
    simp -dsimp only [vend, ne_eq, Nat.reduceEqDiff, reduceCtorEq]
    refine ⟨⟨k + 1, hlt, fun j q hj hq => ?_⟩, by simp; omega, ?_⟩
    ·rcases Nat.lt_succ_iff_lt_or_eq.1 hj with hj | hj
     ·exact hall j q hj hq
     ·subst hj
      rw [hp] at hq
      simp only [Option.some.injEq] at hq
      rw [← hq]
      exact hb
    refine ⟨rfl, ?_, ?_⟩
    rotate_left
    simp -dsimp only [simprocAttr, ↓vpre, zpm, Says, exists_eq_left', Option.some.injEq, sub_self, and_assoc, true_and, and_true]
    ·exact Sub.int (by simp)
    ·rfl
  ·refine awp_exit ?_
   simp -dsimp only [vend, ne_eq, Nat.reduceEqDiff, reduceCtorEq]
   have hlt : k = l.length := by simp at h; omega
   subst hlt
   first | refine zg1 ?_ | refine zg0 ?_ | refine zg2 ?_ | refine zg3 ?_
   simp -dsimp only [simprocAttr, ↓vpre, zpm]
   refine at_intro ?_
   simp -dsimp only [vend, ne_eq, Nat.reduceEqDiff, reduceCtorEq]
   refine awp_ret ?_
   simp -dsimp only [simprocAttr, ↓vpre, zpm, RetTo, Try.results85, retVals, retVal, mkRet, AVal.upto, Nat.zero_le, Nat.le_refl, seqPost_ret, blockPost_ret, loopPost_ret]
   rw [idx_none hall]

theorem anyR_spec (c : Nat) (oa ob : Option Addr) (f : Pat → Bool) (id : Nat) (cs : List AVal) (hcs : cs.map AVal.share = cs) (hup : ∀ n, uptoL n cs) (l : List MRow) (hc : ∀ r ∈ l, c < r.pats.length)
  (hf : ∀ r ∈ l, ∀ p ∈ r.pats, PCall Try.prog id (p.enc :: cs) (.v (.bool (f p)))) :
  PCall Try.prog 56 [eM l, .fn (.func 57) [] [.ip oa [.v (.int .i64 c)], .ip ob [.fn (.func id) [] cs]]] (.v (.bool (l.any (MRow.has c f)))) := by
 refine ecall_of hT true 0 Try.func56 rfl (by kernel_rfl) (by simp [Try.ntmps56]) (by simp) ?_
 show AWP Try.prog _ _ _ ⟨9, _, _⟩
 dsimp only [Tmp, TypeId, slotsOf]
 first | refine zg1 ?_ | refine zg0 ?_ | refine zg2 ?_ | refine zg3 ?_
 simp -dsimp only [simprocAttr, ↓vpre, zpm]
 refine at_intro ?_
 simp -dsimp only [vend, ne_eq, Nat.reduceEqDiff, reduceCtorEq]
 first | refine zg1 ?_ | refine zg0 ?_ | refine zg2 ?_ | refine zg3 ?_
 simp -dsimp only [simprocAttr, ↓vpre, zpm, hcs]
 refine .inl ⟨_, idxR_spec c oa ob f id cs hcs hup l hc hf, by first | (simp only [uptoL, AVal.upto, zt, zum, hup]; done) | (simp [uptoL, AVal.upto, zum, hup]; done), later_intro ?_⟩
 simp -dsimp only [simprocAttr, ↓vpre, zpm]
 refine at_intro ?_
 simp -dsimp only [vend, ne_eq, Nat.reduceEqDiff, reduceCtorEq]
 refine awp_ret ?_
 simp -dsimp only [simprocAttr, ↓vpre, zpm, RetTo, Try.results56, retVals, retVal, mkRet, AVal.upto, Nat.zero_le, Nat.le_refl, seqPost_ret, blockPost_ret, loopPost_ret]
 rw [idx_any]

end Go.Proofs.Ytakdmelemfnmdaa
end

section
set_option linter.unusedSimpArgs false
set_option maxRecDepth 100000
set_option maxHeartbeats 1000000
-- !tab vtab vmat
-- !upto Pat.enc_upto Pat.map_upto MRow.enc_upto MRow.map_upto aI_upto eI_upto nS_upto MTree.enc_upto MTree.map_upto
namespace Go.Proofs.Ytakdmelemfnmdaa
open Go.Av

/-! What build computes, as plain functions. -/

def BS.count (s : BS) : BS := { s with many := s.many + 1, full := s.full || decide (4096 < s.many + 1) }

def mfail : MTree := ⟨0, 0, [], [], [], []⟩

abbrev MRec := List MRow → List (List Int) → BS → Int × BS

def belowM (paths : List (List Int)) (c many : Nat) : List (List Int) := paths.take c ++ paths.drop (c + 1) ++ subs (paths[c]?.getD []) many

def otherM (f : MRec) (rows : List MRow) (paths : List (List Int)) (c : Nat) (s : BS) : Int × BS := f (mnarrow c (fun _ => false) 0 rows) (belowM paths c 0) s

def conStep (f : MRec) (rows : List MRow) (paths : List (List Int)) (c : Nat) (a : (List ByteArray × List Int) × BS) (k : Con) : (List ByteArray × List Int) × BS :=
 if rows.any (MRow.has c fun p => decide (p.name = k.name)) then
  ((a.1.1 ++ [k.name], a.1.2 ++ [(f (mnarrow c (fun p => decide (p.name = k.name)) k.args.length rows) (belowM paths c k.args.length) a.2).1]), (f (mnarrow c (fun p => decide (p.name = k.name)) k.args.length rows) (belowM paths c k.args.length) a.2).2)
 else a

def wordStep (f : MRec) (rows : List MRow) (paths : List (List Int)) (c : Nat) (a : (List Int × List Int) × BS) (r : MRow) : (List Int × List Int) × BS :=
 match r.pats[c]? with
 | none => a
 | some p => if p.free || decide (p.n ∈ a.1.1) then a
  else ((a.1.1 ++ [p.n], a.1.2 ++ [(f (mnarrow c (fun q => decide (q.n = p.n)) 0 rows) (belowM paths c 0) a.2).1]), (f (mnarrow c (fun q => decide (q.n = p.n)) 0 rows) (belowM paths c 0) a.2).2)

def wordsM (f : MRec) (rows : List MRow) (paths : List (List Int)) (c : Nat) (s : BS) : Int × BS :=
 let a := rows.foldl (wordStep f rows paths c) (([], []), s)
 let o := otherM f rows paths c a.2
 o.2.add ⟨3, 0, paths[c]?.getD [], [], a.1.1, a.1.2 ++ [o.1]⟩

def consM (f : MRec) (d : Data) (rows : List MRow) (paths : List (List Int)) (c : Nat) (s : BS) : Int × BS :=
 let a := d.cons.foldl (conStep f rows paths c) (([], []), s)
 let o := if a.1.1.length < d.cons.length then otherM f rows paths c a.2 else (-1, a.2)
 o.2.add ⟨2, 0, paths[c]?.getD [], a.1.1, [], a.1.2 ++ [o.1]⟩

def buildM (look : ByteArray → Option Data) : Nat → MRec
 | 0 => fun _ _ s => (0, s)
 | fu + 1 => fun rows paths s =>
  match rows with
  | [] => s.count.add mfail
  | r0 :: _ => if s.count.full then s.count.add mfail else
   match r0.pats.findIdx? (fun p => !p.free) with
   | none => s.count.add ⟨1, r0.ix, [], [], [], []⟩
   | some c => match r0.pats[c]? with
    | none => (0, s.count)
    | some p => if p.kind = 2 then wordsM (buildM look fu) rows paths c s.count
     else match look p.name with
      | none => (0, s.count)
      | some d => consM (buildM look fu) d rows paths c s.count

end Go.Proofs.Ytakdmelemfnmdaa
end

section
set_option linter.unusedSimpArgs false
set_option maxRecDepth 100000
set_option maxHeartbeats 1000000
-- !tab vtab vmat
-- !upto Pat.enc_upto Pat.map_upto MRow.enc_upto MRow.map_upto aI_upto eI_upto nS_upto MTree.enc_upto MTree.map_upto Con.map_upto Data.map_upto
namespace Go.Proofs.Ytakdmelemfnmdaa
open Go.Av

/-- The data type at a place; what lies there. -/
def dataAt (datas : List Data) (k : Nat) : Data := (datas[k]?).getD ⟨ByteArray.empty, 0, []⟩

/-- What index keeps of a constructor: the address of its data type. -/
def ixEntry (datas : List Data) (p : ByteArray × K) : Value × AVal := (.string p.1, .ip none (dataAt datas p.2.data).enc.cells)

theorem look_ix (datas : List Data) : ∀ (l : List (ByteArray × K)) (s : ByteArray), lookV (l.map (ixEntry datas)) (.string s) = (find l s).map fun k => AVal.ip none (dataAt datas k.data).enc.cells
 | [], _ => rfl
 | (n, k) :: r, s => by
  simp only [List.map_cons, ixEntry, lookV, find, look_ix datas r s]
  have : eqKey (.string n) (.string s) = decide (n = s) := by
   simp [eqKey]
  rw [this]
  by_cases h : n = s <;> simp [h]

theorem put_ix (datas : List Data) : ∀ (l : List (ByteArray × K)) (s : ByteArray) (k : K), find l s = none → putV (l.map (ixEntry datas)) (.string s) (.ip none (dataAt datas k.data).enc.cells) = (l ++ [(s, k)]).map (ixEntry datas)
 | [], _, _, _ => rfl
 | (n, k') :: r, s, k, h => by
  simp only [find] at h
  split at h
  ·cases h
  ·rename_i hn
   have : eqKey (.string n) (.string s) = decide (n = s) := by
    simp [eqKey]
   simp only [List.map_cons, List.cons_append, ixEntry, putV, this, hn, decide_false, Bool.false_eq_true, if_false]
   have ih := put_ix datas r s k h
   rw [← ih]

theorem ix_upto (datas : List Data) (n : Nat) (l : List (ByteArray × K)) : uptoE n (l.map (ixEntry datas)) := by
 rw [uptoE_iff]
 intro x hx
 obtain ⟨p, _, rfl⟩ := List.mem_map.1 hx
 have := (dataAt datas p.2.data).enc_upto n
 exact this

def ixRes (datas : List Data) : Option Tbl → AVal
 | some t => .tup [.im .str (t.cons.map (ixEntry datas)), aI 0]
 | none => .tup [.v (.map none), aI 7]

theorem index_spec (datas : List Data) : PCall Try.prog 30 [eD datas] (ixRes datas (build datas)) := by
 refine ecall_of hT true 0 Try.func30 rfl (by kernel_rfl) (by simp [Try.ntmps30]) (by simp) ?_
 show AWP Try.prog _ _ _ ⟨38, _, _⟩
 dsimp only [Tmp, TypeId, slotsOf]
 first | refine zg1 ?_ | refine zg0 ?_ | refine zg2 ?_ | refine zg3 ?_
 simp -dsimp only [simprocAttr, ↓vpre, zpm]
 refine at_intro ?_
 simp -dsimp only [vend, ne_eq, Nat.reduceEqDiff, reduceCtorEq]
 first | refine zg1 ?_ | refine zg0 ?_ | refine zg2 ?_ | refine zg3 ?_
 simp -dsimp only [simprocAttr, ↓vpre, zpm]
 refine at_intro ?_
 simp -dsimp only [vend, ne_eq, Nat.reduceEqDiff, reduceCtorEq]
 refine awp_len 0 rfl (fun hlen => ?_)
 simp only [List.length_map] at hlen
 first | refine zg1 ?_ | refine zg0 ?_ | refine zg2 ?_ | refine zg3 ?_
 simp -dsimp only [simprocAttr, ↓vpre, zpm]
 refine at_intro ?_
 simp -dsimp only [vend, ne_eq, Nat.reduceEqDiff, reduceCtorEq]
 first | refine awp_block (awp_loop (ι := {q : Nat × List (ByteArray × K) // q.1 ≤ datas.length ∧ addDatas 0 datas [] = addDatas q.1 (datas.drop q.1) q.2}) (fun q => ⟨38, [(0, eD datas), (4, .mm 0), (10, aI datas.length), (11, aI q.1.1)], [.map .str (q.1.2.map (ixEntry datas))]⟩) (fun q => datas.length - q.1.1) ⟨(0, []), by omega, rfl⟩ ?_ ?_) | refine awp_seq (awp_block (awp_loop (ι := {q : Nat × List (ByteArray × K) // q.1 ≤ datas.length ∧ addDatas 0 datas [] = addDatas q.1 (datas.drop q.1) q.2}) (fun q => ⟨38, [(0, eD datas), (4, .mm 0), (10, aI datas.length), (11, aI q.1.1)], [.map .str (q.1.2.map (ixEntry datas))]⟩) (fun q => datas.length - q.1.1) ⟨(0, []), by omega, rfl⟩ ?_ ?_))
 ·refine ⟨rfl, ?_, ?_⟩
  rotate_left
  simp -dsimp only [simprocAttr, ↓vpre, zpm, Says, exists_eq_left', Option.some.injEq, sub_self, and_assoc, true_and, and_true]
  rfl
 ·rintro ⟨⟨k, acc⟩, hk, he⟩
  simp only at hk he
  first | refine zg1 ?_ | refine zg0 ?_ | refine zg2 ?_ | refine zg3 ?_
  simp -dsimp only [simprocAttr, ↓vpre, zpm]
  refine at_intro ?_
  simp -dsimp only [vend, ne_eq, Nat.reduceEqDiff, reduceCtorEq]
  first | refine zk1 rfl (fun h => ?_) (fun h => ?_) | refine zk0 rfl (fun h => ?_) (fun h => ?_) | refine zk2 rfl (fun h => ?_) (fun h => ?_)
  ·refine awp_skip ?_
   simp -dsimp only [vend, ne_eq, Nat.reduceEqDiff, reduceCtorEq]
   have hlt : k < datas.length := by simpa using h
   obtain ⟨d, hd⟩ : ∃ d : Data, datas[k]? = some d := ⟨datas[k], by simp [hlt]⟩
   have hat : dataAt datas k = d := by simp [dataAt, hd]
   have hdrop : datas.drop k = d :: datas.drop (k + 1) := by
    rw [List.drop_eq_getElem_cons hlt]
    rw [List.getElem?_eq_getElem hlt] at hd
    simp only [Option.some.injEq] at hd
    rw [hd]
   rw [hdrop, addDatas] at he
   first | refine awp_seq (awp_block ?_) | refine awp_block ?_
   first | refine zg1 ?_ | refine zg0 ?_ | refine zg2 ?_ | refine zg3 ?_
   simp -dsimp only [simprocAttr, ↓vpre, zpm]
   refine at_intro ?_
   simp -dsimp only [vend, ne_eq, Nat.reduceEqDiff, reduceCtorEq]
   first | refine zg1 ?_ | refine zg0 ?_ | refine zg2 ?_ | refine zg3 ?_
   simp -dsimp only [simprocAttr, ↓vpre, zpm, hd]
   refine at_intro ?_
   simp -dsimp only [vend, ne_eq, Nat.reduceEqDiff, reduceCtorEq]
   refine awp_len 18 rfl (fun hlc => ?_)
   simp only [List.length_map] at hlc
   first | refine awp_block (awp_loop (ι := {q : Nat × List (ByteArray × K) // q.1 ≤ d.cons.length ∧ addDatas 0 datas [] = (addCons k q.1 (d.cons.drop q.1) q.2).bind (addDatas (k + 1) (datas.drop (k + 1)))}) (fun q => ⟨38, [(18, eC d.cons), (19, aI d.cons.length), (20, aI q.1.1), (5, aI k), (0, eD datas), (4, .mm 0), (10, aI datas.length), (11, aI k)], [.map .str (q.1.2.map (ixEntry datas))]⟩) (fun q => d.cons.length - q.1.1) ⟨(0, acc), by omega, he⟩ ?_ ?_) | refine awp_seq (awp_block (awp_loop (ι := {q : Nat × List (ByteArray × K) // q.1 ≤ d.cons.length ∧ addDatas 0 datas [] = (addCons k q.1 (d.cons.drop q.1) q.2).bind (addDatas (k + 1) (datas.drop (k + 1)))}) (fun q => ⟨38, [(18, eC d.cons), (19, aI d.cons.length), (20, aI q.1.1), (5, aI k), (0, eD datas), (4, .mm 0), (10, aI datas.length), (11, aI k)], [.map .str (q.1.2.map (ixEntry datas))]⟩) (fun q => d.cons.length - q.1.1) ⟨(0, acc), by omega, he⟩ ?_ ?_))
   ·refine ⟨rfl, ?_, ?_⟩
    rotate_left
    simp -dsimp only [simprocAttr, ↓vpre, zpm, Says, exists_eq_left', Option.some.injEq, sub_self, and_assoc, true_and, and_true]
    rfl
   ·rintro ⟨⟨n, acc'⟩, hn, he'⟩
    simp only at hn he'
    first | refine zg1 ?_ | refine zg0 ?_ | refine zg2 ?_ | refine zg3 ?_
    simp -dsimp only [simprocAttr, ↓vpre, zpm]
    refine at_intro ?_
    simp -dsimp only [vend, ne_eq, Nat.reduceEqDiff, reduceCtorEq]
    first | refine zk1 rfl (fun h => ?_) (fun h => ?_) | refine zk0 rfl (fun h => ?_) (fun h => ?_) | refine zk2 rfl (fun h => ?_) (fun h => ?_)
    ·refine awp_skip ?_
     simp -dsimp only [vend, ne_eq, Nat.reduceEqDiff, reduceCtorEq]
     have hlt' : n < d.cons.length := by simpa using h
     obtain ⟨c, hc⟩ : ∃ c, d.cons[n]? = some c := ⟨d.cons[n], by simp [hlt']⟩
     have hdrop' : d.cons.drop n = c :: d.cons.drop (n + 1) := by
      rw [List.drop_eq_getElem_cons hlt']
      rw [List.getElem?_eq_getElem hlt'] at hc
      simp only [Option.some.injEq] at hc
      rw [hc]
     rw [hdrop', addCons] at he'
     first | refine awp_seq (awp_block ?_) | refine awp_block ?_
     first | refine zg1 ?_ | refine zg0 ?_ | refine zg2 ?_ | refine zg3 ?_
     simp -dsimp only [simprocAttr, ↓vpre, zpm, hc]
     refine at_intro ?_
     simp -dsimp only [vend, ne_eq, Nat.reduceEqDiff, reduceCtorEq]
     cases hf : find acc' c.name with
     | some x =>
      rw [hf] at he'
      have hb : build datas = none := by rw [build, he']; rfl
      first | refine zg1 ?_ | refine zg0 ?_ | refine zg2 ?_ | refine zg3 ?_
      simp -dsimp only [simprocAttr, ↓vpre, zpm, look_ix, hf, Option.map_some, Option.getD_some]
      refine ⟨⟨_, Try.underlying100⟩, ?_⟩
      refine at_intro ?_
      simp -dsimp only [vend, ne_eq, Nat.reduceEqDiff, reduceCtorEq]
      first | refine zk1 rfl (fun h => ?_) (fun h => ?_) | refine zk0 rfl (fun h => ?_) (fun h => ?_) | refine zk2 rfl (fun h => ?_) (fun h => ?_)
      ·first | refine zg1 ?_ | refine zg0 ?_ | refine zg2 ?_ | refine zg3 ?_
       simp -dsimp only [simprocAttr, ↓vpre, zpm]
       refine at_intro ?_
       simp -dsimp only [vend, ne_eq, Nat.reduceEqDiff, reduceCtorEq]
       refine awp_ret ?_
       simp -dsimp only [simprocAttr, ↓vpre, zpm, RetTo, Try.results30, retVals, retVal, mkRet, AVal.upto, Nat.zero_le, Nat.le_refl, seqPost_ret, blockPost_ret, loopPost_ret]
       rw [hb]
       exact ⟨by simp [uptoL, AVal.upto], rfl⟩
      ·cases h
     | none =>
      rw [hf] at he'
      have hput : putV (acc'.map (ixEntry datas)) (.string c.name) (.ip none [.v (.string d.name), .v (.int .i64 d.params), .lst 2 (d.cons.map Con.enc) .sh]) = (acc' ++ [(c.name, (⟨k, n, c.args.length⟩ : K))]).map (ixEntry datas) := by
       rw [← put_ix datas acc' c.name ⟨k, n, c.args.length⟩ hf]
       simp only [hat]
       rfl
      first | refine zg1 ?_ | refine zg0 ?_ | refine zg2 ?_ | refine zg3 ?_
      simp -dsimp only [simprocAttr, ↓vpre, zpm, look_ix, hf, Option.map_none, Option.getD_none, List.getD_cons_zero]
      refine ⟨⟨_, Try.underlying100⟩, ?_⟩
      refine at_intro ?_
      simp -dsimp only [vend, ne_eq, Nat.reduceEqDiff, reduceCtorEq]
      first | refine zk1 rfl (fun h => ?_) (fun h => ?_) | refine zk0 rfl (fun h => ?_) (fun h => ?_) | refine zk2 rfl (fun h => ?_) (fun h => ?_)
      ·cases h
      ·refine awp_skip ?_
       simp -dsimp only [vend, ne_eq, Nat.reduceEqDiff, reduceCtorEq]
       first | refine zg1 ?_ | refine zg0 ?_ | refine zg2 ?_ | refine zg3 ?_
       simp -dsimp only [simprocAttr, ↓vpre, zpm, hd, hput]
       refine ⟨by (show orderB _ _ = true); kernel_rfl, at_intro ?_⟩
       simp -dsimp only [vend, ne_eq, Nat.reduceEqDiff, reduceCtorEq]
       refine awp_trunc' 1 [(18, eC d.cons), (19, aI d.cons.length), (20, aI n), (5, aI k), (0, eD datas), (4, .mm 0), (10, aI datas.length), (11, aI k)] (by first | omega | (simp; done) | (simp; omega)) (by first | omega | (simp; done) | (simp; omega)) [.map .str ((acc' ++ [(c.name, (⟨k, n, c.args.length⟩ : K))]).map (ixEntry datas))] ?_ ?_ ?_ ?_ ?_
       ·rfl
       ·simp only [List.mem_singleton, forall_eq, AObj.upto]
        exact ix_upto datas 1 _
       ·simp -dsimp only [simprocAttr, ↓vpre, zpm, Says, exists_eq_left', Option.some.injEq, sub_self, and_true]
       ·simp [AVal.upto, uptoL, Data.map_upto, Con.map_upto]
       ·first | refine zg1 ?_ | refine zg0 ?_ | refine zg2 ?_ | refine zg3 ?_
        simp -dsimp only [simprocAttr, ↓vpre, zpm]
        repeat (refine ⟨by omega, ?_⟩)
        refine at_intro ?_
        simp -dsimp only [vend, ne_eq, Nat.reduceEqDiff, reduceCtorEq]
        refine ⟨⟨(n + 1, acc' ++ [(c.name, (⟨k, n, c.args.length⟩ : K))]), hlt', he'⟩, by simp; omega, ?_⟩
        refine ⟨rfl, ?_, ?_⟩
        rotate_left
        simp -dsimp only [simprocAttr, ↓vpre, zpm, Says, exists_eq_left', Option.some.injEq, sub_self, and_assoc, true_and, and_true]
        ·exact Sub.int (by simp)
        ·rfl
    ·refine awp_exit ?_
     simp -dsimp only [vend, ne_eq, Nat.reduceEqDiff, reduceCtorEq]
     have hnn : n = d.cons.length := by simp at h; omega
     subst hnn
     rw [List.drop_length, addCons] at he'
     first | refine zg1 ?_ | refine zg0 ?_ | refine zg2 ?_ | refine zg3 ?_
     simp -dsimp only [simprocAttr, ↓vpre, zpm]
     repeat (refine ⟨by omega, ?_⟩)
     refine at_intro ?_
     simp -dsimp only [vend, ne_eq, Nat.reduceEqDiff, reduceCtorEq]
     refine ⟨⟨(k + 1, acc'), hlt, he'⟩, by simp; omega, ?_⟩
     refine ⟨rfl, ?_, ?_⟩
     rotate_left
     simp -dsimp only [simprocAttr, ↓vpre, zpm, Says, exists_eq_left', Option.some.injEq, sub_self, and_assoc, true_and, and_true]
     ·exact Sub.int (by simp)
     ·rfl
  ·refine awp_exit ?_
   simp -dsimp only [vend, ne_eq, Nat.reduceEqDiff, reduceCtorEq]
   have hkk : k = datas.length := by simp at h; omega
   subst hkk
   rw [List.drop_length, addDatas] at he
   have hb : build datas = some ⟨datas, acc⟩ := by rw [build, he]; rfl
   refine awp_freeze1 4 0 (.im .str (acc.map (ixEntry datas))) rfl (by simp [AObj.isSpare]) trivial rfl ?_ ?_
   rotate_left
   simp -dsimp only [simprocAttr, ↓vpre, zpm]
   ·first | refine zg1 ?_ | refine zg0 ?_ | refine zg2 ?_ | refine zg3 ?_
    simp -dsimp only [simprocAttr, ↓vpre, zpm]
    refine at_intro ?_
    simp -dsimp only [vend, ne_eq, Nat.reduceEqDiff, reduceCtorEq]
    refine awp_ret ?_
    simp -dsimp only [simprocAttr, ↓vpre, zpm, RetTo, Try.results30, retVals, retVal, mkRet, AVal.upto, Nat.zero_le, Nat.le_refl, seqPost_ret, blockPost_ret, loopPost_ret]
    rw [hb]
    exact ⟨by simp [uptoL, AVal.upto, ix_upto], rfl⟩
   ·exact FSub.mm rfl

end Go.Proofs.Ytakdmelemfnmdaa
end

section
/-
  Rows narrowed at a column: their types, their weights, and what they match.
-/
set_option linter.unusedVariables false
namespace Go.Proofs.Ytakdmelemfnmdaa

theorem split_get {α : Type} {l : List α} {c : Nat} {x : α} (h : l[c]? = some x) : l = l.take c ++ x :: l.drop (c + 1) := by
  obtain ⟨hc, e⟩ := List.getElem?_eq_some_iff.1 h
  rw [← e, ← List.drop_eq_getElem_cons hc, List.take_append_drop]

theorem HasTyL.split {t : Tbl} : ∀ {ta tb : List Ty} {l : List Pat}, HasTyL t l (ta ++ tb) → HasTyL t (l.take ta.length) ta ∧ HasTyL t (l.drop ta.length) tb
  | [], tb, l, h => by simpa [HasTyL] using h
  | ty :: ta, tb, [], h => by simp [HasTyL] at h
  | ty :: ta, tb, p :: r, h => by
    simp only [List.cons_append, HasTyL] at h
    obtain ⟨ty', tys', e, h1, h2⟩ := h
    cases e
    have ih := HasTyL.split h2
    simp only [List.length_cons, List.take_succ_cons, List.drop_succ_cons, HasTyL]
    exact ⟨⟨ty, ta, rfl, h1, ih.1⟩, ih.2⟩

theorem HasTyL.parts {t : Tbl} {l : List Pat} {tys : List Ty} {c : Nat} {ty : Ty} {p : Pat} (h : HasTyL t l tys) (hc : tys[c]? = some ty) (hp : l[c]? = some p) : HasTyL t (l.take c) (tys.take c) ∧ HasTy t p ty ∧ HasTyL t (l.drop (c + 1)) (tys.drop (c + 1)) := by
  have hlt : c < tys.length := (List.getElem?_eq_some_iff.1 hc).1
  have h1 : HasTyL t l (tys.take c ++ ty :: tys.drop (c + 1)) := by
    rw [← split_get hc]
    exact h
  have hl : (tys.take c).length = c := by
    rw [List.length_take]
    omega
  obtain ⟨a, b⟩ := h1.split
  rw [hl] at a b
  have e : l.drop c = p :: l.drop (c + 1) := by
    obtain ⟨hc', e⟩ := List.getElem?_eq_some_iff.1 hp
    rw [← e, ← List.drop_eq_getElem_cons hc']
  rw [e] at b
  simp only [HasTyL] at b
  obtain ⟨_, _, e, h1, h2⟩ := b
  cases e
  exact ⟨a, h1, h2⟩

/-! Counts. -/

mutual
def Pat.cnt : Pat → Nat
  | .mk k _ _ l => if k = 0 ∨ k = 1 then 0 else 1 + cntL l
def cntL : List Pat → Nat
  | [] => 0
  | p :: r => p.cnt + cntL r
end

theorem Pat.cnt_eq (p : Pat) : p.cnt = if p.free then 0 else 1 + cntL p.args := by
  cases p with
  | mk k s n l =>
    have hf : (Pat.mk k s n l).free = true ↔ k = 0 ∨ k = 1 := Pat.free_iff _
    rw [Pat.cnt]
    by_cases h : (Pat.mk k s n l).free = true
    · rw [if_pos h, if_pos (hf.1 h)]
    · rw [if_neg h, if_neg (fun e => h (hf.2 e))]
      rfl

theorem cntL_append : ∀ a b : List Pat, cntL (a ++ b) = cntL a + cntL b
  | [], b => by simp [cntL]
  | p :: a, b => by
    rw [List.cons_append, cntL, cntL, cntL_append a b]
    omega

theorem cntL_any (n : Nat) : cntL (List.replicate n Pat.any) = 0 := by
  induction n with
  | zero => rfl
  | succ n ih =>
    rw [List.replicate_succ, cntL, ih, Pat.cnt_eq]
    rfl

mutual
theorem Pat.cnt_nodes : ∀ p : Pat, p.cnt ≤ p.nodes
  | .mk k s n l => by
    rw [Pat.cnt, Pat.nodes]
    have := cntL_nodes l
    split <;> omega
theorem cntL_nodes : ∀ l : List Pat, cntL l ≤ nodesL l
  | [] => Nat.le_refl _
  | p :: r => by
    rw [cntL, nodesL]
    have := Pat.cnt_nodes p
    have := cntL_nodes r
    omega
end

def cntM : List MRow → Nat
  | [] => 0
  | r :: rs => cntL r.pats + cntM rs

def wtM : List MRow → Nat
  | [] => 0
  | r :: rs => wtL r.pats + wtM rs

theorem wtL_get {l : List Pat} {c : Nat} {p : Pat} (h : l[c]? = some p) : wtL l = wtL (l.take c) + p.wt + wtL (l.drop (c + 1)) := by
  have e := congrArg wtL (split_get h)
  rw [wtL_append, wtL] at e
  omega

theorem cntL_get {l : List Pat} {c : Nat} {p : Pat} (h : l[c]? = some p) : cntL l = cntL (l.take c) + p.cnt + cntL (l.drop (c + 1)) := by
  have e := congrArg cntL (split_get h)
  rw [cntL_append, cntL] at e
  omega

/-- The rest of a row behind a step. -/
def restOf (c many : Nat) (r : MRow) (p : Pat) : List Pat := r.pats.take c ++ (r.pats.drop (c + 1) ++ if p.free = false ∧ p.kind = 3 then p.args else List.replicate many Pat.any)

theorem MRow.step_eq {c many : Nat} {f : Pat → Bool} {r : MRow} {p : Pat} (hp : r.pats[c]? = some p) : r.step c f many = if p.free = true ∨ f p = true then some ⟨r.ix, restOf c many r p⟩ else none := by
  unfold MRow.step restOf
  rw [hp]
  cases h1 : p.free <;> cases h2 : f p <;> simp [h1, h2]

/-- What a step keeps fits. -/
def Fits (f : Pat → Bool) (many : Nat) (p : Pat) : Prop := p.free = false → f p = true → if p.kind = 3 then p.args.length = many else many = 0

theorem restOf_wt {c many : Nat} {f : Pat → Bool} {r : MRow} {p : Pat} (hp : r.pats[c]? = some p) (hf : Fits f many p) (hk : p.free = true ∨ f p = true) : wtL (restOf c many r p) + (if p.free then 0 else 1 + many) ≤ wtL r.pats ∧ cntL (restOf c many r p) + (if p.free then 0 else 1) ≤ cntL r.pats := by
  have h1 := wtL_get hp
  have h2 := cntL_get hp
  have h3 := p.wt_eq
  have h4 := p.cnt_eq
  unfold restOf
  rw [wtL_append, wtL_append, cntL_append, cntL_append]
  cases hfr : p.free with
  | true =>
    simp only [Bool.true_eq_false, false_and, if_false, wtL_any, cntL_any, if_true]
    omega
  | false =>
    rw [hfr] at h3 h4
    simp only [Bool.false_eq_true, if_false] at h3 h4
    have hff := hf hfr (by simpa [hfr] using hk)
    by_cases h3' : p.kind = 3
    · rw [if_pos h3'] at hff
      simp only [h3', and_self, if_true, Bool.false_eq_true, if_false]
      omega
    · rw [if_neg h3'] at hff
      subst hff
      simp only [h3', and_false, if_false, wtL_any, cntL_any, Bool.false_eq_true]
      omega

theorem mnarrow_cons (c : Nat) (f : Pat → Bool) (many : Nat) (r : MRow) (rs : List MRow) : mnarrow c f many (r :: rs) = (match r.step c f many with | some x => [x] | none => []) ++ mnarrow c f many rs := by
  unfold mnarrow
  rw [List.filterMap_cons]
  cases r.step c f many <;> rfl

/-- All rows have a pattern at the column. -/
def Wide (c : Nat) (rows : List MRow) : Prop := ∀ r ∈ rows, c < r.pats.length

theorem Wide.get {c : Nat} {rows : List MRow} (h : Wide c rows) {r : MRow} (hr : r ∈ rows) : ∃ p, r.pats[c]? = some p := ⟨r.pats[c]'(h r hr), by simp [h r hr]⟩

theorem mnarrow_wt {c many : Nat} {f : Pat → Bool} : ∀ (rows : List MRow), Wide c rows → (∀ r ∈ rows, ∀ p, r.pats[c]? = some p → Fits f many p) → wtM (mnarrow c f many rows) ≤ wtM rows ∧ cntM (mnarrow c f many rows) ≤ cntM rows
  | [], _, _ => ⟨Nat.le_refl _, Nat.le_refl _⟩
  | r :: rs, hw, hf => by
    obtain ⟨ih1, ih2⟩ := mnarrow_wt (c := c) (many := many) (f := f) rs (fun x hx => hw x (by simp [hx])) (fun x hx => hf x (by simp [hx]))
    obtain ⟨p, hp⟩ := hw.get (r := r) (by simp)
    rw [mnarrow_cons, MRow.step_eq hp]
    by_cases hk : p.free = true ∨ f p = true
    · have := restOf_wt hp (hf r (by simp) p hp) hk
      rw [if_pos hk]
      simp only [List.singleton_append, wtM, cntM]
      omega
    · rw [if_neg hk]
      simp only [List.nil_append, wtM, cntM]
      omega

theorem mnarrow_wt_lt {c many : Nat} {f : Pat → Bool} : ∀ (rows : List MRow), Wide c rows → (∀ r ∈ rows, ∀ p, r.pats[c]? = some p → Fits f many p) → (∃ r ∈ rows, ∃ p, r.pats[c]? = some p ∧ p.free = false ∧ (f p = true ∨ many = 0)) → wtM (mnarrow c f many rows) + 1 + many ≤ wtM rows
  | [], _, _, h => by
    obtain ⟨r, hr, _⟩ := h
    cases hr
  | r :: rs, hw, hf, h => by
    have hw' : Wide c rs := fun x hx => hw x (by simp [hx])
    have hf' : ∀ r ∈ rs, ∀ p, r.pats[c]? = some p → Fits f many p := fun x hx => hf x (by simp [hx])
    obtain ⟨ih1, ih2⟩ := mnarrow_wt (c := c) (many := many) (f := f) rs hw' hf'
    obtain ⟨p, hp⟩ := hw.get (r := r) (by simp)
    rw [mnarrow_cons, MRow.step_eq hp]
    have hh : (p.free = false ∧ (f p = true ∨ many = 0)) ∨ ∃ r ∈ rs, ∃ p, r.pats[c]? = some p ∧ p.free = false ∧ (f p = true ∨ many = 0) := by
      obtain ⟨r', hr', q, hq, h1, h2⟩ := h
      rcases List.mem_cons.1 hr' with rfl | hr'
      · rw [hp] at hq
        cases hq
        exact .inl ⟨h1, h2⟩
      · exact .inr ⟨r', hr', q, hq, h1, h2⟩
    have hwt := wtL_get hp
    have hpe := p.wt_eq
    by_cases hk : p.free = true ∨ f p = true
    · have hr := restOf_wt hp (hf r (by simp) p hp) hk
      rw [if_pos hk]
      simp only [List.singleton_append, wtM]
      rcases hh with ⟨h1, _⟩ | hh
      · rw [h1] at hr
        simp only [Bool.false_eq_true, if_false] at hr
        omega
      · have := mnarrow_wt_lt rs hw' hf' hh
        omega
    · rw [if_neg hk]
      simp only [List.nil_append, wtM]
      rcases hh with ⟨h1, h2⟩ | hh
      · rw [h1] at hpe
        simp only [Bool.false_eq_true, if_false] at hpe
        rcases h2 with h2 | h2
        · exact absurd (.inr h2) hk
        · omega
      · have := mnarrow_wt_lt rs hw' hf' hh
        omega

theorem mnarrow_cnt_lt {c many : Nat} {f : Pat → Bool} : ∀ (rows : List MRow), Wide c rows → (∀ r ∈ rows, ∀ p, r.pats[c]? = some p → Fits f many p) → (∃ r ∈ rows, ∃ p, r.pats[c]? = some p ∧ p.free = false) → cntM (mnarrow c f many rows) + 1 ≤ cntM rows
  | [], _, _, h => by
    obtain ⟨r, hr, _⟩ := h
    cases hr
  | r :: rs, hw, hf, h => by
    have hw' : Wide c rs := fun x hx => hw x (by simp [hx])
    have hf' : ∀ r ∈ rs, ∀ p, r.pats[c]? = some p → Fits f many p := fun x hx => hf x (by simp [hx])
    obtain ⟨ih1, ih2⟩ := mnarrow_wt (c := c) (many := many) (f := f) rs hw' hf'
    obtain ⟨p, hp⟩ := hw.get (r := r) (by simp)
    rw [mnarrow_cons, MRow.step_eq hp]
    have hh : p.free = false ∨ ∃ r ∈ rs, ∃ p, r.pats[c]? = some p ∧ p.free = false := by
      obtain ⟨r', hr', q, hq, h1⟩ := h
      rcases List.mem_cons.1 hr' with rfl | hr'
      · rw [hp] at hq
        cases hq
        exact .inl h1
      · exact .inr ⟨r', hr', q, hq, h1⟩
    have hwt := cntL_get hp
    have hpe := p.cnt_eq
    by_cases hk : p.free = true ∨ f p = true
    · have hr := restOf_wt hp (hf r (by simp) p hp) hk
      rw [if_pos hk]
      simp only [List.singleton_append, cntM]
      rcases hh with h1 | hh
      · rw [h1] at hr
        simp only [Bool.false_eq_true, if_false] at hr
        omega
      · have := mnarrow_cnt_lt rs hw' hf' hh
        omega
    · rw [if_neg hk]
      simp only [List.nil_append, cntM]
      rcases hh with h1 | hh
      · rw [h1] at hpe
        simp only [Bool.false_eq_true, if_false] at hpe
        omega
      · have := mnarrow_cnt_lt rs hw' hf' hh
        omega

/-! Types. -/

theorem mem_mnarrow {c many : Nat} {f : Pat → Bool} {rows : List MRow} (hw : Wide c rows) {x : MRow} (h : x ∈ mnarrow c f many rows) : ∃ r ∈ rows, ∃ p, r.pats[c]? = some p ∧ (p.free = true ∨ f p = true) ∧ x = ⟨r.ix, restOf c many r p⟩ := by
  obtain ⟨r, hr, e⟩ := List.mem_filterMap.1 h
  obtain ⟨p, hp⟩ := hw.get hr
  rw [MRow.step_eq hp] at e
  split at e
  · rename_i hk
    simp only [Option.some.injEq] at e
    exact ⟨r, hr, p, hp, hk, e.symm⟩
  · cases e

theorem addCons_nodup (k : Nat) : ∀ (cs : List Con) (n : Nat) (acc acc' : List (ByteArray × K)), addCons k n cs acc = some acc' → (cs.map Con.name).Nodup ∧ ∀ c ∈ cs, find acc c.name = none
  | [], n, acc, acc', h => ⟨.nil, fun c hc => by cases hc⟩
  | c :: r, n, acc, acc', h => by
    rw [addCons] at h
    cases hf : find acc c.name with
    | some z =>
      rw [hf] at h
      cases h
    | none =>
      rw [hf] at h
      obtain ⟨h1, h2⟩ := addCons_nodup k r (n + 1) _ acc' h
      have hold : ∀ x ∈ r, find acc x.name = none ∧ x.name ≠ c.name := fun x hx => by
        have := h2 x hx
        rw [find_snoc] at this
        cases hq : find acc x.name with
        | some z =>
          rw [hq] at this
          cases this
        | none =>
          rw [hq] at this
          simp only at this
          split at this
          · cases this
          · rename_i e
            exact ⟨rfl, fun q => e q.symm⟩
      refine ⟨?_, fun x hx => ?_⟩
      · rw [List.map_cons, List.nodup_cons]
        refine ⟨fun hm => ?_, h1⟩
        obtain ⟨x, hx, e⟩ := List.mem_map.1 hm
        exact (hold x hx).2 e
      · rcases List.mem_cons.1 hx with rfl | hx
        · exact hf
        · exact (hold x hx).1

theorem addDatas_nodup : ∀ (ds : List Data) (k : Nat) (acc acc' : List (ByteArray × K)), addDatas k ds acc = some acc' → ∀ d ∈ ds, (d.cons.map Con.name).Nodup
  | [], _, _, _, _, d, hd => by cases hd
  | x :: r, k, acc, acc', h, d, hd => by
    rw [addDatas] at h
    cases hc : addCons k 0 x.cons acc with
    | none =>
      rw [hc] at h
      cases h
    | some acc1 =>
      rw [hc] at h
      rcases List.mem_cons.1 hd with rfl | hd
      · exact (addCons_nodup k _ 0 _ _ hc).1
      · exact addDatas_nodup r (k + 1) acc1 acc' h d hd

theorem build_nodup {datas : List Data} {t : Tbl} (h : build datas = some t) : ∀ d ∈ t.datas, (d.cons.map Con.name).Nodup := by
  have hd := (build_ok h).2
  rw [hd]
  unfold build at h
  cases ha : addDatas 0 datas [] with
  | none =>
    rw [ha] at h
    cases h
  | some l => exact addDatas_nodup datas 0 [] l ha

theorem pattern_args {t : Tbl} {p : Pat} (h : t.pattern p = 0) (h3 : p.kind = 3) : ∀ a ∈ p.args, t.pattern a = 0 := by
  rw [Tbl.pattern_eq, h3, if_neg (by decide), if_neg (by decide), if_neg (by decide), if_pos rfl] at h
  cases hf : find t.cons p.name with
  | none =>
    rw [hf] at h
    cases h
  | some K =>
    rw [hf] at h
    simp only at h
    split at h
    · exact (patternL_zero t).1 h
    · cases h

theorem pattern_int {t : Tbl} {p : Pat} (h : t.pattern p = 0) (h2 : p.kind = 2) : -1073741824 ≤ p.n ∧ p.n ≤ 1073741823 := by
  rw [Tbl.pattern_eq, h2, if_neg (by decide), if_neg (by decide), if_pos rfl] at h
  split at h
  · cases h
  · split at h
    · cases h
    · omega

/-- Rows that may be built from. -/
structure MPre (t : Tbl) (rows : List MRow) (tys : List Ty) : Prop where
  nodup : ∀ d ∈ t.datas, (d.cons.map Con.name).Nodup
  ok : ∀ r ∈ rows, ∀ p ∈ r.pats, t.pattern p = 0
  ix : ∀ r ∈ rows, 0 ≤ r.ix
  tbl : TblOK t
  len : rows.length ≤ 64
  typed : ∀ r ∈ rows, HasTyL t r.pats tys
  wf : WfL t tys
  nodes : ∀ r ∈ rows, ∀ p ∈ r.pats, p.nodes ≤ 400

theorem MPre.wide {t : Tbl} {rows : List MRow} {tys : List Ty} (h : MPre t rows tys) {c : Nat} (hc : c < tys.length) : Wide c rows := fun r hr => by
  rw [(h.typed r hr).len]
  exact hc

theorem WfL.append {t : Tbl} {a b : List Ty} (h : WfL t a) (k : WfL t b) : WfL t (a ++ b) := fun ty hty => by
  rcases List.mem_append.1 hty with q | q
  · exact h ty q
  · exact k ty q

theorem MPre.narrow {t : Tbl} {rows : List MRow} {tys : List Ty} (h : MPre t rows tys) {c many : Nat} {f : Pat → Bool} {ty : Ty} {nt : List Ty} (hc : tys[c]? = some ty) (hn : nt.length = many) (hw : WfL t nt)
    (hf : ∀ p : Pat, p.free = false → f p = true → p.kind = 3 → HasTy t p ty → HasTyL t p.args nt) : MPre t (mnarrow c f many rows) (tys.take c ++ (tys.drop (c + 1) ++ nt)) where
  tbl := h.tbl
  nodup := h.nodup
  ok := fun x hx q hq => by
    obtain ⟨r, hr, p, hp, hk, rfl⟩ := mem_mnarrow (h.wide (List.getElem?_eq_some_iff.1 hc).1) hx
    have hN := h.ok r hr
    simp only [restOf] at hq
    rcases List.mem_append.1 hq with hq | hq
    · exact hN q (List.mem_of_mem_take hq)
    rcases List.mem_append.1 hq with hq | hq
    · exact hN q (List.mem_of_mem_drop hq)
    split at hq
    · rename_i hh
      exact pattern_args (hN p (List.mem_of_getElem? hp)) hh.2 q hq
    · rw [(List.mem_replicate.1 hq).2]
      simp [Tbl.pattern_eq, Pat.any, Pat.kind]
  ix := fun x hx => by
    obtain ⟨r, hr, p, hp, hk, rfl⟩ := mem_mnarrow (h.wide (List.getElem?_eq_some_iff.1 hc).1) hx
    exact h.ix r hr
  len := Nat.le_trans (mnarrow_len _ _ _ _) h.len
  typed := fun x hx => by
    obtain ⟨r, hr, p, hp, hk, rfl⟩ := mem_mnarrow (h.wide (List.getElem?_eq_some_iff.1 hc).1) hx
    obtain ⟨h1, h2, h3⟩ := (h.typed r hr).parts hc hp
    refine h1.append (h3.append ?_)
    split
    · rename_i hh
      exact hf p hh.1 (by simpa [hh.1] using hk) hh.2 h2
    · rw [← hn]
      exact HasTyL.anys
  wf := WfL.append (fun ty hty => h.wf ty (List.mem_of_mem_take hty)) (WfL.append (fun ty hty => h.wf ty (List.mem_of_mem_drop hty)) hw)
  nodes := fun x hx q hq => by
    obtain ⟨r, hr, p, hp, hk, rfl⟩ := mem_mnarrow (h.wide (List.getElem?_eq_some_iff.1 hc).1) hx
    have hN := h.nodes r hr
    simp only [restOf] at hq
    rcases List.mem_append.1 hq with hq | hq
    · exact hN q (List.mem_of_mem_take hq)
    rcases List.mem_append.1 hq with hq | hq
    · exact hN q (List.mem_of_mem_drop hq)
    split at hq
    · have h1 := nodesL_mem hq
      have h2 := hN p (List.mem_of_getElem? hp)
      rw [Pat.nodes_eq] at h2
      omega
    · rw [(List.mem_replicate.1 hq).2]
      simp [Pat.any, Pat.nodes, nodesL]

theorem HasTy.kind {t : Tbl} {p : Pat} {ty : Ty} (h : HasTy t p ty) (hf : p.free = false) : (p.kind = 2 ∧ ty = .int) ∨ (p.kind = 3 ∧ ∃ i f K, ty = .data i f ∧ find t.cons p.name = some K ∧ K.data = i ∧ HasTyL t p.args (f p.name)) := by
  by_cases h2 : p.kind = 2
  · exact .inl ⟨h2, h.int hf h2⟩
  · exact .inr (h.con hf h2)

/-! What rows match. -/

/-- The first row that matches. -/
def firstOf : List MRow → List Val → Option Int → Prop
  | [], _, o => o = none
  | r :: rs, vs, o => (matL r.pats vs ∧ o = some r.ix) ∨ (¬ matL r.pats vs ∧ firstOf rs vs o)

theorem firstOf_ex : ∀ (rows : List MRow) (vs : List Val), ∃ o, firstOf rows vs o
  | [], _ => ⟨none, rfl⟩
  | r :: rs, vs => by
    by_cases h : matL r.pats vs
    · exact ⟨_, .inl ⟨h, rfl⟩⟩
    · obtain ⟨o, ho⟩ := firstOf_ex rs vs
      exact ⟨o, .inr ⟨h, ho⟩⟩

theorem firstOf_uniq : ∀ {rows : List MRow} {vs : List Val} {o o' : Option Int}, firstOf rows vs o → firstOf rows vs o' → o = o'
  | [], _, _, _, h, h' => by
    simp only [firstOf] at h h'
    rw [h, h']
  | r :: rs, vs, o, o', h, h' => by
    rcases h with ⟨h, e⟩ | ⟨h, k⟩ <;> rcases h' with ⟨h', e'⟩ | ⟨h', k'⟩
    · rw [e, e']
    · exact absurd h h'
    · exact absurd h' h
    · exact firstOf_uniq k k'

theorem firstOf_none : ∀ {rows : List MRow} {vs : List Val}, firstOf rows vs none ↔ ∀ r ∈ rows, ¬ matL r.pats vs
  | [], _ => by simp [firstOf]
  | r :: rs, vs => by
    simp [firstOf, firstOf_none (rows := rs)]

theorem firstOf_some : ∀ {rows : List MRow} {vs : List Val} {k : Int}, firstOf rows vs (some k) ↔ ∃ a r b, rows = a ++ r :: b ∧ r.ix = k ∧ matL r.pats vs ∧ ∀ x ∈ a, ¬ matL x.pats vs
  | [], _, _ => by simp [firstOf]
  | r :: rs, vs, k => by
    have ih := firstOf_some (rows := rs) (vs := vs) (k := k)
    simp only [firstOf]
    constructor
    · rintro (⟨h, e⟩ | ⟨h, h2⟩)
      · cases e
        exact ⟨[], r, rs, rfl, rfl, h, by simp⟩
      · obtain ⟨a, x, b, e, h3, h4, h5⟩ := ih.1 h2
        refine ⟨r :: a, x, b, by rw [e]; rfl, h3, h4, fun y hy => ?_⟩
        rcases List.mem_cons.1 hy with rfl | hy
        · exact h
        · exact h5 y hy
    · rintro ⟨a, x, b, e, h3, h4, h5⟩
      cases a with
      | nil =>
        cases e
        exact .inl ⟨h4, by rw [h3]⟩
      | cons y a =>
        cases e
        exact .inr ⟨h5 _ (by simp), ih.2 ⟨a, x, b, rfl, h3, h4, fun z hz => h5 z (by simp [hz])⟩⟩

theorem firstOf_filter {g : MRow → Option MRow} {X Y : List Val} {o : Option Int} : ∀ {rows : List MRow}, (∀ r ∈ rows, match g r with
    | none => ¬ matL r.pats X
    | some r' => r'.ix = r.ix ∧ (matL r'.pats Y ↔ matL r.pats X)) → (firstOf (rows.filterMap g) Y o ↔ firstOf rows X o)
  | [], _ => by simp [firstOf]
  | r :: rs, h => by
    have ih := firstOf_filter (g := g) (X := X) (Y := Y) (o := o) (rows := rs) fun x hx => h x (by simp [hx])
    have hr := h r (by simp)
    rw [List.filterMap_cons]
    cases e : g r with
    | none =>
      rw [e] at hr
      simp only at hr ⊢
      rw [ih]
      simp only [firstOf]
      constructor
      · intro k
        exact .inr ⟨hr, k⟩
      · rintro (⟨k, _⟩ | ⟨_, k⟩)
        · exact absurd k hr
        · exact k
    | some r' =>
      rw [e] at hr
      simp only at hr ⊢
      simp only [firstOf, ih, hr.1, hr.2]

theorem matL_at {l : List Pat} {c : Nat} {p : Pat} (hp : l[c]? = some p) {us ws : List Val} {v : Val} (hu : us.length = c) : matL l (us ++ v :: ws) ↔ matL (l.take c) us ∧ mat p v ∧ matL (l.drop (c + 1)) ws := by
  have hc : c < l.length := (List.getElem?_eq_some_iff.1 hp).1
  have e := split_get hp
  conv => lhs; rw [e]
  rw [matL_append (by rw [List.length_take, hu]; omega)]
  simp only [matL]
  constructor
  · rintro ⟨a, y, ys, e, h1, h2⟩
    cases e
    exact ⟨a, h1, h2⟩
  · rintro ⟨a, h1, h2⟩
    exact ⟨a, v, ws, rfl, h1, h2⟩

theorem matL_rest {r : MRow} {c many : Nat} {p : Pat} (hp : r.pats[c]? = some p) {us ws xs : List Val} (hu : us.length = c) (hw : c + 1 + ws.length = r.pats.length) (hlen : p.free = false → p.kind = 3 → p.args.length = xs.length) (hm : xs.length = many) :
    matL (restOf c many r p) (us ++ (ws ++ xs)) ↔ matL (r.pats.take c) us ∧ matL (r.pats.drop (c + 1)) ws ∧ (if p.free = false ∧ p.kind = 3 then matL p.args xs else True) := by
  unfold restOf
  rw [matL_append (by rw [List.length_take, hu]; omega), matL_append (by rw [List.length_drop]; omega)]
  split
  · rfl
  · have := matL_anys (n := many) (u := xs) hm
    simp [this]

/-- Narrowed to a constructor. -/
theorem first_con {t : Tbl} {rows : List MRow} {tys : List Ty} (h : MPre t rows tys) {c : Nat} {i : Nat} {F : ByteArray → List Ty} (hc : tys[c]? = some (.data i F)) {s : ByteArray} {us xs ws : List Val} (hu : us.length = c) (hw : c + 1 + ws.length = tys.length) (ha : xs.length = (F s).length) (o : Option Int) :
    firstOf (mnarrow c (fun p => decide (p.name = s)) (F s).length rows) (us ++ (ws ++ xs)) o ↔ firstOf rows (us ++ .con s xs :: ws) o := by
  refine firstOf_filter fun r hr => ?_
  obtain ⟨p, hp⟩ := (h.wide (List.getElem?_eq_some_iff.1 hc).1).get hr
  obtain ⟨h1, h2, h3⟩ := (h.typed r hr).parts hc hp
  have hl := (h.typed r hr).len
  rw [MRow.step_eq hp]
  have hk : p.free = false → p.kind = 3 ∧ (p.name = s → p.args.length = xs.length) := fun hfr => by
    rcases h2.kind hfr with ⟨_, e⟩ | ⟨k3, i', f', K, e, _, _, hargs⟩
    · cases e
    · cases e
      refine ⟨k3, fun e => ?_⟩
      rw [← e] at ha
      rw [ha, hargs.len]
  by_cases hcase : p.free = true ∨ decide (p.name = s) = true
  · rw [if_pos hcase]
    refine ⟨rfl, ?_⟩
    rw [matL_rest hp hu (by omega) (fun h1 h2 => (hk h1).2 (by simpa [h1] using hcase)) ha, matL_at hp hu, mat_eq]
    cases hfr : p.free with
    | true => simp
    | false =>
      have hn : p.name = s := by simpa [hfr] using hcase
      have k3 := (hk hfr).1
      simp only [Bool.false_eq_true, if_false, k3, true_and, if_true]
      rw [if_neg (by decide)]
      constructor
      · rintro ⟨a, b, d⟩
        exact ⟨a, ⟨xs, by rw [hn], d⟩, b⟩
      · rintro ⟨a, ⟨vs, e, d⟩, b⟩
        cases e
        exact ⟨a, b, d⟩
  · rw [if_neg hcase]
    intro hm'
    rw [matL_at hp hu, mat_eq] at hm'
    have hfr : p.free = false := by
      cases hq : p.free with
      | true => exact absurd (.inl hq) hcase
      | false => rfl
    rw [hfr] at hm'
    have k3 := (hk hfr).1
    simp only [Bool.false_eq_true, if_false, k3] at hm'
    rw [if_neg (by decide)] at hm'
    obtain ⟨_, ⟨vs, e, _⟩, _⟩ := hm'
    cases e
    exact hcase (.inr (by simp))

/-- Narrowed to a word. -/
theorem first_word {t : Tbl} {rows : List MRow} {tys : List Ty} (h : MPre t rows tys) {c : Nat} (hc : tys[c]? = some .int) {n : Int} {us ws : List Val} (hu : us.length = c) (hw : c + 1 + ws.length = tys.length) (o : Option Int) :
    firstOf (mnarrow c (fun p => decide (p.n = n)) 0 rows) (us ++ (ws ++ [])) o ↔ firstOf rows (us ++ .int n :: ws) o := by
  refine firstOf_filter fun r hr => ?_
  obtain ⟨p, hp⟩ := (h.wide (List.getElem?_eq_some_iff.1 hc).1).get hr
  obtain ⟨h1, h2, h3⟩ := (h.typed r hr).parts hc hp
  have hl := (h.typed r hr).len
  rw [MRow.step_eq hp]
  have hk : p.free = false → p.kind = 2 := fun hfr => by
    rcases h2.kind hfr with ⟨k2, _⟩ | ⟨_, _, _, _, e, _⟩
    · exact k2
    · cases e
  by_cases hcase : p.free = true ∨ decide (p.n = n) = true
  · rw [if_pos hcase]
    refine ⟨rfl, ?_⟩
    rw [matL_rest (xs := []) (many := 0) (ws := ws) hp hu (by omega) (fun h1 h2 => by rw [hk h1] at h2; cases h2) rfl, matL_at hp hu, mat_eq]
    cases hfr : p.free with
    | true => simp
    | false =>
      have hn : p.n = n := by simpa [hfr] using hcase
      simp [hk hfr, hn]
  · rw [if_neg hcase]
    intro hm'
    rw [matL_at hp hu, mat_eq] at hm'
    have hfr : p.free = false := by
      cases hq : p.free with
      | true => exact absurd (.inl hq) hcase
      | false => rfl
    rw [hfr] at hm'
    simp only [Bool.false_eq_true, if_false, hk hfr, if_true] at hm'
    obtain ⟨_, e, _⟩ := hm'
    cases e
    exact hcase (.inr (by simp))

/-- Narrowed to what no pattern of the column asks for. -/
theorem first_other {t : Tbl} {rows : List MRow} {tys : List Ty} (h : MPre t rows tys) {c : Nat} {ty : Ty} (hc : tys[c]? = some ty) {v : Val} {us ws : List Val} (hu : us.length = c) (hw : c + 1 + ws.length = tys.length) (hv : ∀ r ∈ rows, ∀ p, r.pats[c]? = some p → p.free = false → ¬ mat p v) (o : Option Int) :
    firstOf (mnarrow c (fun _ => false) 0 rows) (us ++ (ws ++ [])) o ↔ firstOf rows (us ++ v :: ws) o := by
  refine firstOf_filter fun r hr => ?_
  obtain ⟨p, hp⟩ := (h.wide (List.getElem?_eq_some_iff.1 hc).1).get hr
  have hl := (h.typed r hr).len
  rw [MRow.step_eq hp]
  cases hfr : p.free with
  | true =>
    rw [if_pos (.inl rfl)]
    refine ⟨rfl, ?_⟩
    rw [matL_rest (xs := []) (many := 0) (ws := ws) hp hu (by omega) (fun h1 => by rw [hfr] at h1; cases h1) rfl, matL_at hp hu, mat_eq]
    simp [hfr]
  | false =>
    rw [if_neg (by simp)]
    intro hm'
    rw [matL_at hp hu] at hm'
    exact hv r hr p hp hfr hm'.2.1

end Go.Proofs.Ytakdmelemfnmdaa
end

section
/-
  What building a tree does to the builder: nodes are only added, and not too many.
-/
set_option linter.unusedVariables false
set_option linter.unusedSimpArgs false
namespace Go.Proofs.Ytakdmelemfnmdaa

/-- A node that is there, or is put at the end. -/
theorem BS.add_spec (s : BS) (t : MTree) : (t ∈ s.outs ∧ (s.add t).2 = s ∧ ∃ k : Nat, (s.add t).1 = k ∧ s.outs[k]? = some t) ∨ (t ∉ s.outs ∧ (s.add t).2 = { s with outs := s.outs ++ [t] } ∧ (s.add t).1 = s.outs.length) := by
  unfold BS.add idx
  cases h : s.outs.findIdx? (fun x => decide (x = t)) with
  | none =>
    rw [List.findIdx?_eq_none_iff] at h
    refine .inr ⟨fun hm => ?_, by simp, by simp⟩
    have := h t hm
    simp at this
  | some k =>
    rw [List.findIdx?_eq_some_iff_getElem] at h
    obtain ⟨hlt, e, _⟩ := h
    have e : s.outs[k] = t := by simpa using e
    have hn : ¬ ((k : Int) < 0) := by omega
    simp only [if_neg hn]
    refine .inl ⟨e ▸ List.getElem_mem _, trivial, k, rfl, by rw [List.getElem?_eq_getElem hlt, e]⟩

/-- The failing node is not there yet. -/
def BS.gap (s : BS) : Nat := if mfail ∈ s.outs then 0 else 1

/-- Room for d more nodes. -/
def BS.Room (s : BS) (d : Nat) : Prop := s.outs.length + s.gap + d ≤ 1 + min s.many 4096 ∧ s.outs.length + d ≤ s.many

structure Moves (s s' : BS) (B : Nat) : Prop where
  pre : s.outs <+: s'.outs
  le : s.many ≤ s'.many
  full : s'.full = decide (4096 < s'.many)
  room : ∀ d, s.Room d → s'.Room d
  top : s'.many ≤ max s.many 4096 + B
  one : 4096 < s.many → s'.many ≤ s.many + 1

theorem BS.add_room {s : BS} {t : MTree} {d : Nat} (h : s.Room (d + 1)) : (s.add t).2.Room d := by
  obtain ⟨h1, h2⟩ := h
  rcases s.add_spec t with ⟨_, e, _⟩ | ⟨_, e, _⟩ <;> rw [e]
  · exact ⟨by omega, by omega⟩
  · refine ⟨?_, ?_⟩
    · have hg : BS.gap { s with outs := s.outs ++ [t] } ≤ s.gap := by
        unfold BS.gap
        by_cases hm : mfail ∈ s.outs
        · rw [if_pos hm, if_pos (by simp [hm])]
          exact Nat.le_refl _
        · rw [if_neg hm]
          split <;> omega
      simp only [List.length_append, List.length_singleton]
      omega
    · simp only [List.length_append, List.length_singleton]
      omega

theorem BS.add_fail {s : BS} {d : Nat} (h1 : s.outs.length + s.gap + d ≤ 1 + min s.many 4096) (h2 : s.outs.length + d + 1 ≤ s.many) : (s.add mfail).2.Room d := by
  rcases s.add_spec mfail with ⟨_, e, _⟩ | ⟨hn, e, _⟩ <;> rw [e]
  · exact ⟨by omega, by omega⟩
  · have h0 : s.gap = 1 := if_neg hn
    refine ⟨?_, ?_⟩
    · have hg : BS.gap { s with outs := s.outs ++ [mfail] } = 0 := if_pos (by simp)
      simp only [List.length_append, List.length_singleton, hg]
      omega
    · simp only [List.length_append, List.length_singleton]
      omega

theorem BS.add_pre (s : BS) (t : MTree) : s.outs <+: (s.add t).2.outs := by
  rcases s.add_spec t with ⟨_, e, _⟩ | ⟨_, e, _⟩ <;> rw [e]
  · exact List.prefix_refl _
  · exact List.prefix_append _ _

theorem BS.add_many (s : BS) (t : MTree) : (s.add t).2.many = s.many ∧ (s.add t).2.full = s.full := by
  rcases s.add_spec t with ⟨_, e, _⟩ | ⟨_, e, _⟩ <;> rw [e] <;> exact ⟨rfl, rfl⟩

theorem BS.add_get (s : BS) (t : MTree) : ∃ k : Nat, (s.add t).1 = k ∧ (s.add t).2.outs[k]? = some t := by
  rcases s.add_spec t with ⟨_, e, k, h1, h2⟩ | ⟨_, e, h1⟩
  · exact ⟨k, h1, by rw [e, h2]⟩
  · exact ⟨s.outs.length, h1, by rw [e]; simp⟩

theorem BS.count_full {s : BS} (h : s.full = decide (4096 < s.many)) : s.count.full = decide (4096 < s.count.many) := by
  simp only [BS.count, h]
  by_cases h1 : 4096 < s.many
  · simp [h1]
    omega
  · simp [h1]

theorem BS.count_gap (s : BS) : s.count.gap = s.gap := rfl
theorem BS.count_outs (s : BS) : s.count.outs = s.outs := rfl
theorem BS.count_many (s : BS) : s.count.many = s.many + 1 := rfl
theorem BS.count_room {s : BS} (h : s.full = decide (4096 < s.many)) (hn : s.count.full = false) : s.many + 1 ≤ 4096 := by
  rw [BS.count_full h, BS.count_many] at hn
  simpa using hn

theorem Moves.rfl' {s : BS} (h : s.full = decide (4096 < s.many)) : Moves s s 0 where
  pre := List.prefix_refl _
  le := Nat.le_refl _
  full := h
  room := fun _ h => h
  top := by omega
  one := fun _ => by omega

/-- Failing: one node more at most. -/
theorem moves_fail {s : BS} (h : s.full = decide (4096 < s.many)) (B : Nat) : Moves s (s.count.add mfail).2 (B + 1) where
  pre := s.count.add_pre mfail
  le := by
    rw [(s.count.add_many _).1]
    simp [BS.count]
  full := by
    rw [(s.count.add_many _).1, (s.count.add_many _).2]
    exact BS.count_full h
  room := fun d hd => BS.add_fail (by
    have h1 := hd.1
    simp only [BS.count_gap, BS.count_outs, BS.count_many]
    omega) (by
    have h2 := hd.2
    simp only [BS.count_gap, BS.count_outs, BS.count_many]
    omega)
  top := by
    rw [(s.count.add_many _).1]
    simp only [BS.count_gap, BS.count_outs, BS.count_many]
    omega
  one := fun _ => by
    rw [(s.count.add_many _).1]
    exact Nat.le_refl _

/-- A node built when there is room. -/
theorem moves_node {s s1 : BS} (h : s.full = decide (4096 < s.many)) (hf : s.count.full = false) {B : Nat} (hm : Moves s.count s1 B) (t : MTree) : Moves s (s1.add t).2 B where
  pre := (show s.outs <+: s1.outs from hm.pre).trans (s1.add_pre t)
  le := by
    rw [(s1.add_many _).1]
    have := hm.le
    simp only [BS.count_gap, BS.count_outs, BS.count_many] at this
    omega
  full := by
    rw [(s1.add_many _).1, (s1.add_many _).2]
    exact hm.full
  room := fun d hd => by
    have hf := BS.count_room h hf
    refine BS.add_room (hm.room _ ⟨?_, ?_⟩)
    · have := hd.1
      simp only [BS.count_gap, BS.count_outs, BS.count_many]
      omega
    · have := hd.2
      simp only [BS.count_gap, BS.count_outs, BS.count_many]
      omega
  top := by
    rw [(s1.add_many _).1]
    have hf := BS.count_room h hf
    have := hm.top
    simp only [BS.count_gap, BS.count_outs, BS.count_many] at this
    omega
  one := fun hh => by
    have hf := BS.count_room h hf
    omega

/-- One child after others. -/
structure MovesK (s s' : BS) (B n : Nat) : Prop where
  pre : s.outs <+: s'.outs
  le : s.many ≤ s'.many
  full : s'.full = decide (4096 < s'.many)
  room : ∀ d, s.Room d → s'.Room d
  top : s'.many ≤ max s.many 4096 + B + n

theorem MovesK.start {s : BS} (h : s.full = decide (4096 < s.many)) (B : Nat) : MovesK s s B 0 where
  pre := List.prefix_refl _
  le := Nat.le_refl _
  full := h
  room := fun _ h => h
  top := by omega

theorem MovesK.step {s s1 s2 : BS} {B n : Nat} (h : MovesK s s1 B n) (k : Moves s1 s2 B) : MovesK s s2 B (n + 1) where
  pre := h.pre.trans k.pre
  le := Nat.le_trans h.le k.le
  full := k.full
  room := fun d hd => k.room d (h.room d hd)
  top := by
    have h1 := h.top
    have h2 := k.top
    have h3 := k.one
    have h4 := h.le
    omega

theorem MovesK.more {s s1 : BS} {B n m : Nat} (h : MovesK s s1 B n) (hm : n ≤ m) : MovesK s s1 B m where
  pre := h.pre
  le := h.le
  full := h.full
  room := h.room
  top := by
    have h1 := h.top
    omega

theorem MovesK.node {s s1 : BS} (h : s.full = decide (4096 < s.many)) (hf : s.count.full = false) {B n : Nat} (hm : MovesK s.count s1 B n) (t : MTree) : Moves s (s1.add t).2 (B + n) :=
  moves_node h hf ⟨hm.pre, hm.le, hm.full, hm.room, by have := hm.top; omega, fun hh => by
    have hf := BS.count_room h hf
    simp only [BS.count_many] at hh
    omega⟩ t

/-- What a recursive call does. -/
def RecMoves (f : MRec) (B : Nat) : Prop := ∀ rows paths s, rows.length ≤ 64 → s.full = decide (4096 < s.many) → Moves s (f rows paths s).2 B

theorem cons_moves {f : MRec} {B : Nat} (hf : RecMoves f B) {rows : List MRow} (hr : rows.length ≤ 64) {paths : List (List Int)} {c : Nat} : ∀ (l : List Con) (a : (List ByteArray × List Int) × BS) (s : BS) (n : Nat), MovesK s a.2 B n → MovesK s (l.foldl (conStep f rows paths c) a).2 B (n + l.length)
  | [], a, s, n, h => h
  | k :: l, a, s, n, h => by
    rw [List.foldl_cons]
    have h' : MovesK s (conStep f rows paths c a k).2 B (n + 1) := by
      unfold conStep
      split
      · exact h.step (hf _ _ _ (Nat.le_trans (mnarrow_len _ _ _ _) hr) h.full)
      · exact h.more (by omega)
    exact (cons_moves hf hr l _ s (n + 1) h').more (by simp only [List.length_cons]; omega)

theorem words_moves {f : MRec} {B : Nat} (hf : RecMoves f B) {rows : List MRow} (hr : rows.length ≤ 64) {paths : List (List Int)} {c : Nat} : ∀ (l : List MRow) (a : (List Int × List Int) × BS) (s : BS) (n : Nat), MovesK s a.2 B n → MovesK s (l.foldl (wordStep f rows paths c) a).2 B (n + l.length)
  | [], a, s, n, h => h
  | k :: l, a, s, n, h => by
    rw [List.foldl_cons]
    have h' : MovesK s (wordStep f rows paths c a k).2 B (n + 1) := by
      unfold wordStep
      split
      · exact h.more (by omega)
      · split
        · exact h.more (by omega)
        · exact h.step (hf _ _ _ (Nat.le_trans (mnarrow_len _ _ _ _) hr) h.full)
    exact (words_moves hf hr l _ s (n + 1) h').more (by simp only [List.length_cons]; omega)

theorem other_moves {f : MRec} {B : Nat} (hf : RecMoves f B) {rows : List MRow} (hr : rows.length ≤ 64) {paths : List (List Int)} {c : Nat} {s s1 : BS} {n : Nat} (h : MovesK s s1 B n) : MovesK s (otherM f rows paths c s1).2 B (n + 1) :=
  h.step (hf _ _ _ (Nat.le_trans (mnarrow_len _ _ _ _) hr) h.full)

theorem wordsM_moves {f : MRec} {B : Nat} (hf : RecMoves f B) {rows : List MRow} (hr : rows.length ≤ 64) {paths : List (List Int)} {c : Nat} {s : BS} (h : s.full = decide (4096 < s.many)) (hn : s.count.full = false) : Moves s (wordsM f rows paths c s.count).2 (B + 65) := by
  unfold wordsM
  have h1 := words_moves hf hr (paths := paths) (c := c) rows (([], []), s.count) s.count 0 (MovesK.start (BS.count_full h) B)
  exact ((other_moves hf hr h1).more (by omega)).node h hn _

theorem consM_moves {f : MRec} {B : Nat} (hf : RecMoves f B) {d : Data} (hd : d.cons.length ≤ 256) {rows : List MRow} (hr : rows.length ≤ 64) {paths : List (List Int)} {c : Nat} {s : BS} (h : s.full = decide (4096 < s.many)) (hn : s.count.full = false) : Moves s (consM f d rows paths c s.count).2 (B + 257) := by
  unfold consM
  have h1 := cons_moves hf hr (paths := paths) (c := c) d.cons (([], []), s.count) s.count 0 (MovesK.start (BS.count_full h) B)
  simp only
  refine MovesK.node h hn ?_ _
  split
  · exact (other_moves hf hr h1).more (by omega)
  · exact h1.more (by omega)

theorem Moves.more {s s' : BS} {B B' : Nat} (h : Moves s s' B) (hb : B ≤ B') : Moves s s' B' := ⟨h.pre, h.le, h.full, h.room, by have := h.top; omega, h.one⟩

theorem moves_count {s : BS} (h : s.full = decide (4096 < s.many)) (B : Nat) : Moves s s.count (B + 1) where
  pre := List.prefix_refl _
  le := by simp [BS.count]
  full := BS.count_full h
  room := fun d hd => ⟨by
    have := hd.1
    simp only [BS.count_gap, BS.count_outs, BS.count_many]
    omega, by
    have := hd.2
    simp only [BS.count_gap, BS.count_outs, BS.count_many]
    omega⟩
  top := by
    simp only [BS.count_gap, BS.count_outs, BS.count_many]
    omega
  one := fun _ => by simp [BS.count]

theorem buildM_moves {look : ByteArray → Option Data} (hl : ∀ s d, look s = some d → d.cons.length ≤ 256) : ∀ fu : Nat, RecMoves (buildM look fu) (300 * fu)
  | 0 => fun rows paths s _ h => Moves.rfl' h
  | fu + 1 => fun rows paths s hr h => by
    have ih := buildM_moves hl fu
    have hend : Moves s s.count (300 * (fu + 1)) := (moves_count h 0).more (by omega)
    unfold buildM
    split
    · exact (moves_fail h 0).more (by omega)
    · split
      · exact (moves_fail h 0).more (by omega)
      · rename_i hn
        have hn : s.count.full = false := by simpa using hn
        split
        · exact (moves_node h hn (Moves.rfl' (BS.count_full h)) _).more (by omega)
        · split
          · exact hend
          · split
            · exact (wordsM_moves ih hr h hn).more (by omega)
            · split
              · exact hend
              · rename_i d hd
                exact (consM_moves ih (hl _ _ hd) hr h hn).more (by omega)

end Go.Proofs.Ytakdmelemfnmdaa
end

section
/-
  What is known of rows, places and builder when build is called, and that it is known again when build calls itself.
-/
set_option linter.unusedVariables false
namespace Go.Proofs.Ytakdmelemfnmdaa

/-- The data type of a constructor. -/
def lookT (t : Tbl) (s : ByteArray) : Option Data := (find t.cons s).map fun k => dataAt t.datas k.data

structure Pre (t : Tbl) (rows : List MRow) (paths : List (List Int)) (tys : List Ty) : Prop where
  m : MPre t rows tys
  len : paths.length = tys.length
  wide : paths.length + wtM rows ≤ 2 ^ 19
  places : ∀ q ∈ paths, q ≠ [] ∧ q.length + wtM rows ≤ 2 ^ 19
  pos : ∀ q ∈ paths, ∀ x ∈ q, 0 ≤ x

structure PreS (s : BS) : Prop where
  full : s.full = decide (4096 < s.many)
  room : s.Room 0
  many : s.many ≤ 2 ^ 40

theorem PreS.outs {s : BS} (h : PreS s) : s.outs.length ≤ 2 ^ 20 := by
  have := h.room.1
  omega

theorem PreS.count {s : BS} (h : PreS s) (hn : s.count.full = false) : PreS s.count where
  full := BS.count_full h.full
  room := (moves_count h.full 0).room 0 h.room
  many := by
    have := BS.count_room h.full hn
    rw [BS.count_many]
    omega

theorem PreS.movesK {s s' : BS} (h : PreS s) {B n : Nat} (hm : MovesK s s' B n) (hs : s.many ≤ 4096) (hb : B + n ≤ 2 ^ 39) : PreS s' where
  full := hm.full
  room := hm.room 0 h.room
  many := by
    have := hm.top
    omega

/-- Some pattern of the column asks for something. -/
def Asks (rows : List MRow) (c : Nat) : Prop := ∃ r ∈ rows, ∃ p, r.pats[c]? = some p ∧ p.free = false

theorem Pre.child {t : Tbl} {rows : List MRow} {paths : List (List Int)} {tys : List Ty} (h : Pre t rows paths tys) {c many : Nat} {f : Pat → Bool} {ty : Ty} {nt : List Ty} (hc : tys[c]? = some ty) (hn : nt.length = many) (hw : WfL t nt)
    (hf : ∀ p : Pat, p.free = false → f p = true → p.kind = 3 → HasTy t p ty → HasTyL t p.args nt) (hwt : wtM (mnarrow c f many rows) + 1 + many ≤ wtM rows) :
    Pre t (mnarrow c f many rows) (belowM paths c many) (tys.take c ++ (tys.drop (c + 1) ++ nt)) := by
  have hlt : c < paths.length := by
    rw [h.len]
    exact (List.getElem?_eq_some_iff.1 hc).1
  have hl : (belowM paths c many).length + 1 = paths.length + many := by
    unfold belowM
    rw [List.length_append, List.length_append, List.length_take, List.length_drop, subs_len]
    omega
  have hm : paths[c]?.getD [] ∈ paths := by
    rw [List.getElem?_eq_getElem hlt]
    exact List.getElem_mem _
  refine ⟨h.m.narrow hc hn hw hf, ?_, ?_, fun q hq => ?_, fun q hq x hx => ?_⟩
  · have := h.len
    rw [List.length_append, List.length_append, List.length_take, List.length_drop, hn]
    omega
  · have := h.wide
    omega
  · unfold belowM at hq
    rcases List.mem_append.1 hq with hq | hq
    · have hq' : q ∈ paths := by
        rcases List.mem_append.1 hq with hq | hq
        · exact List.mem_of_mem_take hq
        · exact List.mem_of_mem_drop hq
      have := h.places q hq'
      exact ⟨this.1, by have := this.2; omega⟩
    · obtain ⟨k, _, rfl⟩ := List.mem_map.1 hq
      have := (h.places _ hm).2
      refine ⟨by simp, ?_⟩
      rw [List.length_append, List.length_singleton]
      omega
  · unfold belowM at hq
    rcases List.mem_append.1 hq with hq | hq
    · rcases List.mem_append.1 hq with hq | hq
      · exact h.pos q (List.mem_of_mem_take hq) x hx
      · exact h.pos q (List.mem_of_mem_drop hq) x hx
    · obtain ⟨k, _, rfl⟩ := List.mem_map.1 hq
      rcases List.mem_append.1 hx with hx | hx
      · exact h.pos _ hm x hx
      · rw [List.mem_singleton.1 hx]
        omega

theorem Pre.other {t : Tbl} {rows : List MRow} {paths : List (List Int)} {tys : List Ty} (h : Pre t rows paths tys) {c : Nat} {ty : Ty} (hc : tys[c]? = some ty) (ha : Asks rows c) :
    Pre t (mnarrow c (fun _ => false) 0 rows) (belowM paths c 0) (tys.take c ++ (tys.drop (c + 1) ++ [])) ∧ cntM (mnarrow c (fun _ => false) 0 rows) + 1 ≤ cntM rows := by
  have hw := h.m.wide (List.getElem?_eq_some_iff.1 hc).1
  have hfit : ∀ r ∈ rows, ∀ p, r.pats[c]? = some p → Fits (fun _ => false) 0 p := fun _ _ _ _ _ e => by cases e
  refine ⟨h.child hc rfl (fun ty hty => by cases hty) (fun _ _ e => by cases e) (mnarrow_wt_lt rows hw hfit ?_), mnarrow_cnt_lt rows hw hfit ha⟩
  obtain ⟨r, hr, p, hp, hfr⟩ := ha
  exact ⟨r, hr, p, hp, hfr, .inr rfl⟩

theorem Pre.word {t : Tbl} {rows : List MRow} {paths : List (List Int)} {tys : List Ty} (h : Pre t rows paths tys) {c : Nat} (hc : tys[c]? = some .int) (ha : Asks rows c) (n : Int) :
    Pre t (mnarrow c (fun q => decide (q.n = n)) 0 rows) (belowM paths c 0) (tys.take c ++ (tys.drop (c + 1) ++ [])) ∧ cntM (mnarrow c (fun q => decide (q.n = n)) 0 rows) + 1 ≤ cntM rows := by
  have hw := h.m.wide (List.getElem?_eq_some_iff.1 hc).1
  have hfit : ∀ r ∈ rows, ∀ p, r.pats[c]? = some p → Fits (fun q => decide (q.n = n)) 0 p := fun r hr p hp hfr _ => by
    rcases ((h.m.typed r hr).parts hc hp).2.1.kind hfr with ⟨k2, _⟩ | ⟨_, _, _, _, e, _⟩
    · rw [k2, if_neg (by decide)]
    · cases e
  refine ⟨h.child hc rfl (fun ty hty => by cases hty) (fun p hfr _ h3 hty => ?_) (mnarrow_wt_lt rows hw hfit ?_), mnarrow_cnt_lt rows hw hfit ha⟩
  · rcases hty.kind hfr with ⟨k2, _⟩ | ⟨_, _, _, _, e, _⟩
    · rw [k2] at h3
      cases h3
    · cases e
  obtain ⟨r, hr, p, hp, hfr⟩ := ha
  exact ⟨r, hr, p, hp, hfr, .inr rfl⟩

theorem has_iff {r : MRow} {c : Nat} {f : Pat → Bool} : r.has c f = true ↔ ∃ p, r.pats[c]? = some p ∧ p.free = false ∧ f p = true := by
  unfold MRow.has
  cases h : r.pats[c]? with
  | none => simp
  | some p => simp

theorem Pre.con {t : Tbl} {rows : List MRow} {paths : List (List Int)} {tys : List Ty} (h : Pre t rows paths tys) {c i : Nat} {F : ByteArray → List Ty} (hc : tys[c]? = some (.data i F)) {d : Data} (hd : t.datas[i]? = some d) {k : Con} (hk : k ∈ d.cons) (ha : rows.any (MRow.has c fun p => decide (p.name = k.name)) = true) :
    (F k.name).length = k.args.length ∧ k.args.length ≤ 400 ∧ Pre t (mnarrow c (fun p => decide (p.name = k.name)) k.args.length rows) (belowM paths c k.args.length) (tys.take c ++ (tys.drop (c + 1) ++ F k.name)) ∧ cntM (mnarrow c (fun p => decide (p.name = k.name)) k.args.length rows) + 1 ≤ cntM rows := by
  have hw := h.m.wide (List.getElem?_eq_some_iff.1 hc).1
  have hwf := h.m.wf _ (List.mem_of_getElem? hc)
  have hwf' : (F k.name).length = k.args.length ∧ WfL t (F k.name) := by
    cases hwf with
    | data hd' hne hl hw =>
      rw [hd] at hd'
      cases hd'
      exact ⟨hl k hk, hw k hk⟩
  have hargs : ∀ p : Pat, p.free = false → decide (p.name = k.name) = true → HasTy t p (.data i F) → p.kind = 3 ∧ HasTyL t p.args (F k.name) := fun p hfr hn hty => by
    rcases hty.kind hfr with ⟨_, e⟩ | ⟨k3, i', F', K, e, _, _, ha⟩
    · cases e
    · cases e
      have hn : p.name = k.name := by simpa using hn
      rw [hn] at ha
      exact ⟨k3, ha⟩
  have hfit : ∀ r ∈ rows, ∀ p, r.pats[c]? = some p → Fits (fun p => decide (p.name = k.name)) k.args.length p := fun r hr p hp hfr hn => by
    obtain ⟨k3, ha⟩ := hargs p hfr hn ((h.m.typed r hr).parts hc hp).2.1
    rw [if_pos k3, ha.len, hwf'.1]
  obtain ⟨r, hr, hh⟩ := List.any_eq_true.1 ha
  obtain ⟨p, hp, hfr, hn⟩ := has_iff.1 hh
  have h400 : k.args.length ≤ 400 := by
    obtain ⟨k3, ha⟩ := hargs p hfr hn ((h.m.typed r hr).parts hc hp).2.1
    have h1 := h.m.nodes r hr p (List.mem_of_getElem? hp)
    have h2 := nodesL_len p.args
    rw [Pat.nodes_eq] at h1
    have := ha.len
    omega
  refine ⟨hwf'.1, h400, h.child hc hwf'.1 hwf'.2 (fun p hfr hn h3 hty => (hargs p hfr hn hty).2) (mnarrow_wt_lt rows hw hfit ⟨r, hr, p, hp, hfr, .inl hn⟩), mnarrow_cnt_lt rows hw hfit ⟨r, hr, p, hp, hfr⟩⟩

/-- What the first pattern that asks for something tells of its column. -/
theorem Pre.column {t : Tbl} {rows : List MRow} {paths : List (List Int)} {tys : List Ty} (h : Pre t rows paths tys) {r : MRow} (hr : r ∈ rows) {c : Nat} {p : Pat} (hp : r.pats[c]? = some p) (hfr : p.free = false) :
    ∃ ty, tys[c]? = some ty ∧ Asks rows c ∧ ((p.kind = 2 ∧ ty = .int) ∨ (p.kind = 3 ∧ ∃ i F d K, ty = .data i F ∧ find t.cons p.name = some K ∧ K.data = i ∧ t.datas[i]? = some d ∧ lookT t p.name = some d)) := by
  have hlt : c < tys.length := by
    rw [← (h.m.typed r hr).len]
    exact (List.getElem?_eq_some_iff.1 hp).1
  refine ⟨tys[c], by simp [hlt], ⟨r, hr, p, hp, hfr⟩, ?_⟩
  rcases ((h.m.typed r hr).parts (ty := tys[c]) (by simp [hlt]) hp).2.1.kind hfr with ⟨k2, e⟩ | ⟨k3, i, F, K, e, hf, hK, _⟩
  · exact .inl ⟨k2, e⟩
  · obtain ⟨d, _, hd, _, _, _⟩ := h.m.tbl.back _ _ hf
    rw [hK] at hd
    refine .inr ⟨k3, i, F, d, K, e, hf, hK, hd, ?_⟩
    unfold lookT dataAt
    rw [hf, Option.map_some, hK, hd]
    rfl

end Go.Proofs.Ytakdmelemfnmdaa
end
