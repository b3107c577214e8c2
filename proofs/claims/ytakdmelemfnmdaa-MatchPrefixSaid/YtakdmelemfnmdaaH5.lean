/-
  Texts bound together by a program of mine: T38, Avs, T39, T40, T41, Mb, Mc, M6, Md, T44, T45, T49, T50, T51, T52, T53, T54, Me.
-/
import Derived.Test.YtakdmelemfnmdaaH4
set_option linter.all false

section
set_option linter.unusedSimpArgs false
set_option maxRecDepth 100000
set_option maxHeartbeats 1000000
-- !tab vtab vmat
-- !upto Pat.enc_upto Pat.map_upto MRow.enc_upto MRow.map_upto aI_upto eI_upto nS_upto MTree.enc_upto MTree.map_upto
namespace Go.Proofs.Ytakdmelemfnmdaa
open Go.Av

theorem indexI_spec (l : List Int) (x : Int) : PCall Try.prog 36 [eI l, aI x] (aI (idx (fun y => decide (x = y)) l)) := by
 refine ecall_of hT true 0 Try.func36 rfl (by kernel_rfl) (by simp [Try.ntmps36]) (by simp) ?_
 show AWP Try.prog _ _ _ ⟨19, _, _⟩
 dsimp only [Tmp, TypeId, slotsOf]
 first | refine zg1 ?_ | refine zg0 ?_ | refine zg2 ?_ | refine zg3 ?_
 simp -dsimp only [simprocAttr, ↓vpre, zpm]
 refine at_intro ?_
 simp -dsimp only [vend, ne_eq, Nat.reduceEqDiff, reduceCtorEq]
 refine awp_len 0 rfl (fun hlen => ?_)
 simp only [List.length_map] at hlen
 first | refine zg1 ?_ | refine zg0 ?_ | refine zg2 ?_ | refine zg3 ?_
 simp -dsimp only [simprocAttr, ↓vpre, zpm]
 refine at_intro ?_
 simp -dsimp only [vend, ne_eq, Nat.reduceEqDiff, reduceCtorEq]
 first | refine awp_block (awp_loop (ι := {k : Nat // k ≤ l.length ∧ ∀ j p, j < k → l[j]? = some p → decide (x = p) = false}) (fun k => ⟨19, [(0, eI l), (1, aI x), (7, .v (.int .i64 l.length)), (8, .v (.int .i64 k.1))], []⟩) (fun k => l.length - k.1) ⟨0, by omega, by intros; omega⟩ ?_ ?_) | refine awp_seq (awp_block (awp_loop (ι := {k : Nat // k ≤ l.length ∧ ∀ j p, j < k → l[j]? = some p → decide (x = p) = false}) (fun k => ⟨19, [(0, eI l), (1, aI x), (7, .v (.int .i64 l.length)), (8, .v (.int .i64 k.1))], []⟩) (fun k => l.length - k.1) ⟨0, by omega, by intros; omega⟩ ?_ ?_))
 ·refine ⟨rfl, ?_, ?_⟩
  rotate_left
  simp -dsimp only [simprocAttr, ↓vpre, zpm, Says, exists_eq_left', Option.some.injEq, sub_self, and_assoc, true_and, and_true]
  rfl
 ·rintro ⟨k, hk, hall⟩
  first | refine zg1 ?_ | refine zg0 ?_ | refine zg2 ?_ | refine zg3 ?_
  simp -dsimp only [simprocAttr, ↓vpre, zpm]
  refine at_intro ?_
  simp -dsimp only [vend, ne_eq, Nat.reduceEqDiff, reduceCtorEq]
  first | refine zk1 rfl (fun h => ?_) (fun h => ?_) | refine zk0 rfl (fun h => ?_) (fun h => ?_) | refine zk2 rfl (fun h => ?_) (fun h => ?_)
  ·refine awp_skip ?_
   simp -dsimp only [vend, ne_eq, Nat.reduceEqDiff, reduceCtorEq]
   have hlt : k < l.length := by simpa using h
   obtain ⟨p, hp⟩ : ∃ p, l[k]? = some p := ⟨l[k], by simp [hlt]⟩
   first | refine awp_seq (awp_block ?_) | refine awp_block ?_
   first | refine zg1 ?_ | refine zg0 ?_ | refine zg2 ?_ | refine zg3 ?_
   simp -dsimp only [simprocAttr, ↓vpre, zpm]
   refine at_intro ?_
   simp -dsimp only [vend, ne_eq, Nat.reduceEqDiff, reduceCtorEq]
   first | refine zg1 ?_ | refine zg0 ?_ | refine zg2 ?_ | refine zg3 ?_
   simp -dsimp only [simprocAttr, ↓vpre, zpm, hp]
   refine at_intro ?_
   simp -dsimp only [vend, ne_eq, Nat.reduceEqDiff, reduceCtorEq]
   first | refine zk1 rfl (fun h => ?_) (fun h => ?_) | refine zk0 rfl (fun h => ?_) (fun h => ?_) | refine zk2 rfl (fun h => ?_) (fun h => ?_)
   ·first | refine zg1 ?_ | refine zg0 ?_ | refine zg2 ?_ | refine zg3 ?_
    simp -dsimp only [simprocAttr, ↓vpre, zpm]
    refine at_intro ?_
    simp -dsimp only [vend, ne_eq, Nat.reduceEqDiff, reduceCtorEq]
    refine awp_ret ?_
    simp -dsimp only [simprocAttr, ↓vpre, zpm, RetTo, Try.results36, retVals, retVal, mkRet, AVal.upto, Nat.zero_le, Nat.le_refl, seqPost_ret, blockPost_ret, loopPost_ret]
    rw [idx_some hp h hall]
   ·refine awp_skip ?_
    simp -dsimp only [vend, ne_eq, Nat.reduceEqDiff, reduceCtorEq]
    have hb : decide (x = p) = false := by simpa using h
    first | refine zg1 ?_ | refine zg0 ?_ | refine zg2 ?_ | refine zg3 ?_
    simp -dsimp only [simprocAttr, ↓vpre, zpm]
    refine ⟨by omega, by omega, ?_⟩
    refine at_intro ?_
    simp -dsimp only [vend, ne_eq, Nat.reduceEqDiff, reduceCtorEq]
    refine ⟨⟨k + 1, hlt, fun j q hj hq => ?_⟩, by simp; omega, ?_⟩
    ·rcases Nat.lt_succ_iff_lt_or_eq.1 hj with hj | hj
     ·exact hall j q hj hq
     ·subst hj
      rw [hp] at hq
      simp only [Option.some.injEq] at hq
      rw [← hq]
      exact hb
    refine ⟨rfl, ?_, ?_⟩
    rotate_left
    simp -dsimp only [simprocAttr, ↓vpre, zpm, Says, exists_eq_left', Option.some.injEq, sub_self, and_assoc, true_and, and_true]
    ·exact Sub.int (by simp)
    ·rfl
  ·refine awp_exit ?_
   simp -dsimp only [vend, ne_eq, Nat.reduceEqDiff, reduceCtorEq]
   have hlt : k = l.length := by simp at h; omega
   subst hlt
   first | refine zg1 ?_ | refine zg0 ?_ | refine zg2 ?_ | refine zg3 ?_
   simp -dsimp only [simprocAttr, ↓vpre, zpm]
   refine at_intro ?_
   simp -dsimp only [vend, ne_eq, Nat.reduceEqDiff, reduceCtorEq]
   refine awp_ret ?_
   simp -dsimp only [simprocAttr, ↓vpre, zpm, RetTo, Try.results36, retVals, retVal, mkRet, AVal.upto, Nat.zero_le, Nat.le_refl, seqPost_ret, blockPost_ret, loopPost_ret]
   rw [idx_none hall]

theorem containsI_spec (l : List Int) (x : Int) : PCall Try.prog 83 [eI l, aI x] (.v (.bool (decide (x ∈ l)))) := by
 refine ecall_of hT true 0 Try.func83 rfl (by kernel_rfl) (by simp [Try.ntmps83]) (by simp) ?_
 show AWP Try.prog _ _ _ ⟨9, _, _⟩
 dsimp only [Tmp, TypeId, slotsOf]
 first | refine zg1 ?_ | refine zg0 ?_ | refine zg2 ?_ | refine zg3 ?_
 simp -dsimp only [simprocAttr, ↓vpre, zpm]
 refine at_intro ?_
 simp -dsimp only [vend, ne_eq, Nat.reduceEqDiff, reduceCtorEq]
 first | refine zg1 ?_ | refine zg0 ?_ | refine zg2 ?_ | refine zg3 ?_
 simp -dsimp only [simprocAttr, ↓vpre, zpm]
 refine .inl ⟨_, indexI_spec l x, by first | (simp only [uptoL, AVal.upto, zt, zum]; done) | (simp [uptoL, AVal.upto, zum]; done), later_intro ?_⟩
 simp -dsimp only [simprocAttr, ↓vpre, zpm]
 refine at_intro ?_
 simp -dsimp only [vend, ne_eq, Nat.reduceEqDiff, reduceCtorEq]
 refine awp_ret ?_
 simp -dsimp only [simprocAttr, ↓vpre, zpm, RetTo, Try.results83, retVals, retVal, mkRet, AVal.upto, Nat.zero_le, Nat.le_refl, seqPost_ret, blockPost_ret, loopPost_ret]
 rw [idx_any]
 have : l.any (fun y => decide (x = y)) = decide (x ∈ l) := by
  rw [Bool.eq_iff_iff]
  simp [List.any_eq_true]
 rw [this]

def cmT (t : Tbl) : AVal := .im .str (t.cons.map (ixEntry t.datas))

theorem cmT_upto (t : Tbl) (n : Nat) : (cmT t).upto n := ix_upto _ _ _

/-- build does what the plain model says. -/
def BuildOK (t : Tbl) (fu : Nat) : Prop := ∀ rows paths tys s, Pre t rows paths tys → PreS s → cntM rows < fu → ECall Try.prog 31 (s.objs (cmT t)) [.mp 0 0, eM rows, eII paths] fun r O' => r = aI (buildM (lookT t) fu rows paths s).1 ∧ O' = (buildM (lookT t) fu rows paths s).2.objs (cmT t)

theorem objs_upto (t : Tbl) (s : BS) : ∀ o ∈ s.objs (cmT t), o.upto 2 := BS.upto (cmT_upto t 2) _ _ _ _

theorem other_spec {t : Tbl} {fu : Nat} (ih : BuildOK t fu) {rows : List MRow} {paths : List (List Int)} {tys : List Ty} {c : Nat} {ty : Ty} {s : BS} (h : Pre t rows paths tys) (hc : tys[c]? = some ty) (ha : Asks rows c) (hs : PreS s) (hfu : cntM rows ≤ fu) :
  ECall Try.prog 60 (s.objs (cmT t)) [.mp 0 0, eM rows, eII paths, aI c] fun r O' => r = aI (otherM (buildM (lookT t) fu) rows paths c s).1 ∧ O' = (otherM (buildM (lookT t) fu) rows paths c s).2.objs (cmT t) := by
 obtain ⟨hp, hlt⟩ := h.other hc ha
 have hct := (List.getElem?_eq_some_iff.1 hc).1
 have hlen := h.len
 have hwide := h.wide
 have hb := ih _ _ _ s hp hs (by omega)
 obtain ⟨q, hq⟩ : ∃ q, paths[c]? = some q := ⟨paths[c]'(by omega), by simp⟩
 have hqp := h.places q (List.mem_of_getElem? hq)
 have hN := h.m.nodes
 have hbel : belowM paths c 0 = paths.take c ++ paths.drop (c + 1) ++ subs q 0 := by
  unfold belowM
  rw [hq]
  rfl
 have h64 := h.m.len
 unfold otherM
 generalize hR : buildM (lookT t) fu (mnarrow c (fun _ => false) 0 rows) (belowM paths c 0) s = R at hb ⊢
 have hobj := objs_upto t s
 have hobj' := objs_upto t R.2
 simp only [BS.objs] at hb hobj hobj' ⊢
 refine ecall_of hT true 2 Try.func60 rfl (by kernel_rfl) (by simp [Try.ntmps60]) (by simp) ?_
 show AWP Try.prog _ _ _ ⟨17, _, _⟩
 dsimp only [Tmp, TypeId, slotsOf]
 first | refine zg1 ?_ | refine zg0 ?_ | refine zg2 ?_ | refine zg3 ?_
 simp -dsimp only [simprocAttr, ↓vpre, zpm]
 refine at_intro ?_
 simp -dsimp only [vend, ne_eq, Nat.reduceEqDiff, reduceCtorEq]
 first | refine zg1 ?_ | refine zg0 ?_ | refine zg2 ?_ | refine zg3 ?_
 simp -dsimp only [simprocAttr, ↓vpre, zpm]
 refine .inl ⟨_, mnarrow_spec rows c 0 (fun _ => false) 87 [] rfl (fun _ => trivial) (by omega) (by omega) (h.m.wide hct) (fun r hr => by have := (h.m.typed r hr).len; omega) (fun r hr p hp => by have := hN r hr p hp; rw [Pat.nodes_eq] at this; have := nodesL_len p.args; omega) (fun r hr p hp => other1_spec p), by first | (simp only [uptoL, AVal.upto, zt, zum]; done) | (simp [uptoL, AVal.upto, zum]; done), later_intro ?_⟩
 simp -dsimp only [simprocAttr, ↓vpre, zpm]
 refine .inl ⟨_, below_spec paths c 0 q hq hqp.1 (by omega) (by omega) (by omega), by first | (simp only [uptoL, AVal.upto, zt, zum]; done) | (simp [uptoL, AVal.upto, zum]; done), later_intro ?_⟩
 simp -dsimp only [simprocAttr, ↓vpre, zpm, ← hbel]
 refine .inr (.inl ⟨_, _, hb, .inl (later_intro ?_)⟩)
 simp -dsimp only [simprocAttr, ↓vpre, zpm]
 refine at_intro ?_
 simp -dsimp only [vend, ne_eq, Nat.reduceEqDiff, reduceCtorEq]
 refine awp_ret ?_
 simp -dsimp only [simprocAttr, ↓vpre, zpm, RetTo, Try.results60, retVals, retVal, mkRet, AVal.upto, Nat.zero_le, Nat.le_refl, seqPost_ret, blockPost_ret, loopPost_ret]
 exact hobj'

end Go.Proofs.Ytakdmelemfnmdaa
end

section
/-
  The library of abstract values, part nineteen: a list without room, in an object, may be told as one that owns what is appended.
-/
namespace Go.Av

theorem awp_ownCell {P : Program} {kb : Nat} {c : Code} {Q : AEx → St → Prop} {n : Nat} {slots : List (Nat × AVal)} {O : List AObj} (k off : Nat) {sz : Nat} {cs xs : List AVal} (hok : O[k]? = some (.cells cs)) (hnil : cs[off]? = some (.lst sz xs .ex))
    (h : AWP P kb c Q ⟨n, slots, (O ++ [AObj.spare xs.length]).set k (.cells (cs.set off (.lst sz xs (.tok O.length))))⟩) : AWP P kb c Q ⟨n, slots, O⟩ :=
  h.weaken fun base a g hb hr => by
    have hO : g.objs = O := hr.objs
    have hlek := Le.mark hr.good (AObj.spare xs.length)
    have hgk := Good.mark hr.good xs.length
    have hkO : g.objs[k]? = some (.cells cs) := by rw [hO]; exact hok
    have hok1 : (g.mark (AObj.spare xs.length)).objs[k]? = some (.cells cs) := getElem?_snoc_lt hkO
    obtain ⟨l, arr, t, e1, e2, e3, e4, e5, e6⟩ := hgk.cells k cs hok1
    have ht2 : Turns (g.mark (AObj.spare xs.length)) k (.cells cs) (some l) (.cells (cs.set off (.lst sz xs (.tok O.length)))) g.w := {
      obj := hok1
      os := rfl
      tape := rfl
      output := rfl
      size := Nat.le_refl _
      block := fun _ _ _ => rfl
      cell := fun b off x hx _ => hx
      place := fun l1 h1 _ => by
        simp only [Option.some.injEq] at h1
        subst h1
        exact .inr ⟨l, e1, trivial, rfl, Nat.le_refl _⟩
      spare := fun m h => by cases h
      plain := fun _ => ⟨by simp [AObj.isSpare], e1⟩
      gone := by simp }
    have hle2 := Le.turn hgk ht2
    have hgood2 := Good.turn hgk ht2 ⟨l, arr, t, rfl, e2, e3, by simpa using e4, fun j d u hd hu => by
      rw [List.getElem?_set] at hd
      split at hd
      · rename_i hj
        subst hj
        split at hd
        · simp only [Option.some.injEq] at hd
          subst hd
          have hv := (e5 off _ u hnil hu).mono hle2
          cases hv with
          | nil => exact .nil (fun id e => by
            simp only [Own.tok.injEq] at e
            subst e
            simp [G.turn, G.mark, hO]) (by simp)
          | lst hsz hsc hcap hmax hs f hm hr ho =>
            refine .lst hsz hsc hcap hmax hs f hm hr ⟨by simp [G.turn, G.mark, hO], fun m hm' => ?_⟩
            have hne : k ≠ O.length := by
              have := lt_of_getElem? hok
              omega
            have : ((g.mark (AObj.spare xs.length)).turn k (some l) (.cells (cs.set off (.lst sz xs (.tok O.length)))) g.w).objs[O.length]? = some (.spare xs.length) := by
              simp only [G.turn]
              rw [List.getElem?_set_ne hne, ← hO]
              exact objs_new
            rw [this] at hm'
            simp only [Option.some.injEq, AObj.spare.injEq] at hm'
            exact ⟨by omega, fun _ => .inl ho⟩
        · cases hd
      · exact (e5 j d u hd hu).mono hle2, fun d hd => by
      rcases List.mem_or_eq_of_mem_set hd with q | q
      · exact e6 d q
      · subst q
        trivial⟩ (fun l1 h1 _ => by
        simp only [Option.some.injEq] at h1
        subst h1
        exact lt_of_getElem?' e3)
    exact ⟨(g.mark (AObj.spare xs.length)).turn k (some l) (.cells (cs.set off (.lst sz xs (.tok O.length)))) g.w, rfl, { le := (hr.le.trans hlek).trans hle2, good := hgood2, objs := by simp [G.mark, G.turn, hO], size := hr.size, defers := hr.defers, slot := fun s y hy => (hr.slot s y hy).imp fun u hu => ⟨hu.1, (hu.2.mono hlek).mono hle2⟩ }⟩


/-- Where a list lies has a name. -/
theorem awp_name {P : Program} {kb : Nat} {c : Code} {Q : AEx → St → Prop} {n : Nat} {slots : List (Nat × AVal)} {O : List AObj} (s : Nat) {sz : Nat} {xs : List AVal} {o : Own} (hs : look slots s = some (.lst sz xs o))
    (h : ∀ ad : Addr, AWP P kb c Q ⟨n, putS s (.lst sz xs (.loc ad)) slots, O⟩) : AWP P kb c Q ⟨n, slots, O⟩ := by
  intro base a g hb hr
  obtain ⟨u, e1, e2⟩ := hr.slot s _ hs
  have key : ∀ y, RV g y u → Rel base ⟨n, putS s y slots, O⟩ a g := fun y hy =>
    { le := hr.le, good := hr.good, objs := hr.objs, size := hr.size, defers := hr.defers, slot := fun k x hx => by
        simp only [St.get, look_putS] at hx
        split at hx
        · rename_i e
          subst e
          simp only [Option.some.injEq] at hx
          subst hx
          exact ⟨u, e1, hy⟩
        · exact hr.slot k x hx }
  cases e2 with
  | nil ho hn => exact h ⟨0, 0, none⟩ base a g hb (key _ (.nil (fun id e => by cases e) (by simp)))
  | lst hsz hsc hcap hmax hs f hm hr ho =>
    rename_i ad cap
    exact h ad base a g hb (key _ (.lst hsz hsc hcap hmax hs f hm hr rfl))

/-- Ways that come together: what is left of them is told once. -/
def midPost (τ : St) (Q : AEx → St → Prop) : AEx → St → Prop
  | .norm, σ => Covers σ τ
  | e, σ => Q e σ

theorem midPost_ret (τ : St) (Q : AEx → St → Prop) (σ : St) : midPost τ Q .ret σ = Q .ret σ := rfl
theorem midPost_exit (τ : St) (Q : AEx → St → Prop) (σ : St) (id : Nat) : midPost τ Q (.exit id) σ = Q (.exit id) σ := rfl

theorem awp_mid {P : Program} {kb : Nat} {x y : Code} {Q : AEx → St → Prop} {σ : St} (τ : St) (h1 : AWP P kb x (midPost τ Q) σ) (h2 : AWP P kb y Q τ) : AWP P kb (.seq x y) Q σ :=
  awp_seq (h1.mono fun e σ' h => by cases e <;> first | exact h2.cover h | exact h)

theorem awp_mid2 {P : Program} {kb : Nat} {x y z : Code} {Q : AEx → St → Prop} {σ : St} (τ : St) (h1 : AWP P kb x (midPost τ (seqPost P kb z Q)) σ) (h2 : AWP P kb y (seqPost P kb z Q) τ) : AWP P kb (.seq (.seq x y) z) Q σ :=
  awp_seq (awp_mid τ h1 h2)

end Go.Av
end

section
set_option linter.unusedSimpArgs false
set_option maxRecDepth 100000
set_option maxHeartbeats 1000000
-- !tab vtab vmat
-- !upto Pat.enc_upto Pat.map_upto MRow.enc_upto MRow.map_upto aI_upto eI_upto nS_upto MTree.enc_upto MTree.map_upto
namespace Go.Proofs.Ytakdmelemfnmdaa
open Go.Av

theorem words_len {f : MRec} {rows : List MRow} {paths : List (List Int)} {c : Nat} : ∀ (l : List MRow) (a : (List Int × List Int) × BS), (l.foldl (wordStep f rows paths c) a).1.1.length ≤ a.1.1.length + l.length ∧ (l.foldl (wordStep f rows paths c) a).1.2.length ≤ a.1.2.length + l.length
 | [], a => ⟨Nat.le_refl _, Nat.le_refl _⟩
 | r :: l, a => by
  rw [List.foldl_cons]
  have ih := words_len (f := f) (rows := rows) (paths := paths) (c := c) l (wordStep f rows paths c a r)
  have hs : (wordStep f rows paths c a r).1.1.length ≤ a.1.1.length + 1 ∧ (wordStep f rows paths c a r).1.2.length ≤ a.1.2.length + 1 := by
   unfold wordStep
   split
   ·exact ⟨by omega, by omega⟩
   ·split
    ·exact ⟨by omega, by omega⟩
    ·simp
  simp only [List.length_cons]
  exact ⟨by omega, by omega⟩

/-- The objects of words in its loop. -/
def wObjs (cm : AVal) (q : List Int) (A : (List Int × List Int) × BS) : List AObj :=
 [.cells [cm, .lst 6 (A.2.outs.map MTree.enc) (.tok 1), .v (.int .i64 A.2.many), .v (.bool A.2.full)], .spare A.2.outs.length, .cells [aI 3, aI 0, .lst 1 (q.map aI) .sh, .lst 1 [] .ex, .lst 1 (A.1.1.map aI) (.tok 3), .lst 1 (A.1.2.map aI) (.tok 4)], .spare A.1.1.length, .spare A.1.2.length]

theorem words_spec {t : Tbl} {fu : Nat} (ih : BuildOK t fu) {rows : List MRow} {paths : List (List Int)} {tys : List Ty} {c : Nat} {s : BS} (hpre : Pre t rows paths tys) (hc : tys[c]? = some .int) (ha : Asks rows c) (hs : PreS s) (hfull : s.many ≤ 4096) (hfu : cntM rows ≤ fu) (hfu' : fu ≤ 1000) (hl : ∀ s d, lookT t s = some d → d.cons.length ≤ 256) :
  ECall Try.prog 54 (s.objs (cmT t)) [.mp 0 0, eM rows, eII paths, aI c] fun r O' => r = aI (wordsM (buildM (lookT t) fu) rows paths c s).1 ∧ O' = (wordsM (buildM (lookT t) fu) rows paths c s).2.objs (cmT t) := by
 have hct := (List.getElem?_eq_some_iff.1 hc).1
 have hlen := hpre.len
 have hwide := hpre.wide
 obtain ⟨q, hq⟩ : ∃ q, paths[c]? = some q := ⟨paths[c]'(by omega), by simp⟩
 have hqp := hpre.places q (List.mem_of_getElem? hq)
 have hN := hpre.m.nodes
 have h64 := hpre.m.len
 have hstate : ∀ k, PreS ((rows.take k).foldl (wordStep (buildM (lookT t) fu) rows paths c) (([], []), s)).2 := fun k => by
  refine hs.movesK (words_moves (buildM_moves hl fu) h64 (rows.take k) (([], []), s) s 0 (MovesK.start hs.full _)) hfull ?_
  simp only [List.length_take]
  omega
 have hlens : ∀ k, ((rows.take k).foldl (wordStep (buildM (lookT t) fu) rows paths c) (([], []), s)).1.1.length ≤ 64 ∧ ((rows.take k).foldl (wordStep (buildM (lookT t) fu) rows paths c) (([], []), s)).1.2.length ≤ 64 := fun k => by
  have := words_len (f := buildM (lookT t) fu) (rows := rows) (paths := paths) (c := c) (rows.take k) (([], []), s)
  simp only [List.length_take, List.length_nil] at this
  exact ⟨by omega, by omega⟩
 unfold wordsM
 simp only [BS.objs, hq, Option.getD_some]
 refine ecall_of hT true 2 Try.func54 rfl (by kernel_rfl) (by simp [Try.ntmps54]) (by simp) ?_
 show AWP Try.prog _ _ _ ⟨75, _, _⟩
 dsimp only [Tmp, TypeId, slotsOf]
 first | refine zg1 ?_ | refine zg0 ?_ | refine zg2 ?_ | refine zg3 ?_
 simp -dsimp only [simprocAttr, ↓vpre, zpm]
 refine at_intro ?_
 simp -dsimp only [vend, ne_eq, Nat.reduceEqDiff, reduceCtorEq]
 first | refine zg1 ?_ | refine zg0 ?_ | refine zg2 ?_ | refine zg3 ?_
 simp -dsimp only [simprocAttr, ↓vpre, zpm, hq]
 refine at_intro ?_
 simp -dsimp only [vend, ne_eq, Nat.reduceEqDiff, reduceCtorEq]
 refine awp_ownCell 2 4 rfl rfl ?_
 simp -dsimp only [simprocAttr, ↓vpre, zpm]
 refine awp_ownCell 2 5 rfl rfl ?_
 simp -dsimp only [simprocAttr, ↓vpre, zpm]
 first | refine zg1 ?_ | refine zg0 ?_ | refine zg2 ?_ | refine zg3 ?_
 simp -dsimp only [simprocAttr, ↓vpre, zpm]
 refine at_intro ?_
 simp -dsimp only [vend, ne_eq, Nat.reduceEqDiff, reduceCtorEq]
 first | refine awp_block (awp_loop (ι := {k : Nat // k ≤ rows.length}) (fun k => ⟨75, [(9, .mp 2 0), (0, .mp 0 0), (1, eM rows), (2, eII paths), (3, aI c), (19, eM rows), (20, aI rows.length), (21, aI k.1)], wObjs (cmT t) q ((rows.take k.1).foldl (wordStep (buildM (lookT t) fu) rows paths c) (([], []), s))⟩) (fun k => rows.length - k.1) ⟨0, by omega⟩ ?_ ?_) | refine awp_seq (awp_block (awp_loop (ι := {k : Nat // k ≤ rows.length}) (fun k => ⟨75, [(9, .mp 2 0), (0, .mp 0 0), (1, eM rows), (2, eII paths), (3, aI c), (19, eM rows), (20, aI rows.length), (21, aI k.1)], wObjs (cmT t) q ((rows.take k.1).foldl (wordStep (buildM (lookT t) fu) rows paths c) (([], []), s))⟩) (fun k => rows.length - k.1) ⟨0, by omega⟩ ?_ ?_))
 ·refine ⟨rfl, ?_, ?_⟩
  rotate_left
  simp -dsimp only [simprocAttr, ↓vpre, zpm, Says, exists_eq_left', Option.some.injEq, sub_self, and_assoc, true_and, and_true]
  rfl
 ·rintro ⟨k, hk⟩
  have hst := hstate k
  have hle := hlens k
  simp only [wObjs]
  generalize hA : (rows.take k).foldl (wordStep (buildM (lookT t) fu) rows paths c) (([], []), s) = A at hst hle
  first | refine zg1 ?_ | refine zg0 ?_ | refine zg2 ?_ | refine zg3 ?_
  simp -dsimp only [simprocAttr, ↓vpre, zpm]
  refine at_intro ?_
  simp -dsimp only [vend, ne_eq, Nat.reduceEqDiff, reduceCtorEq]
  first | refine zk1 rfl (fun h => ?_) (fun h => ?_) | refine zk0 rfl (fun h => ?_) (fun h => ?_) | refine zk2 rfl (fun h => ?_) (fun h => ?_)
  ·refine awp_skip ?_
   simp -dsimp only [vend, ne_eq, Nat.reduceEqDiff, reduceCtorEq]
   have hlt : k < rows.length := by simpa using h
   obtain ⟨r, hr⟩ : ∃ r, rows[k]? = some r := ⟨rows[k], by simp [hlt]⟩
   have hmem := List.mem_of_getElem? hr
   obtain ⟨p, hp⟩ := (hpre.m.wide hct).get hmem
   have hnext : (rows.take (k + 1)).foldl (wordStep (buildM (lookT t) fu) rows paths c) (([], []), s) = wordStep (buildM (lookT t) fu) rows paths c A r := by
    rw [take_next hr, List.foldl_append, hA]
    rfl
   first | refine awp_seq (awp_block ?_) | refine awp_block ?_
   first | refine zg1 ?_ | refine zg0 ?_ | refine zg2 ?_ | refine zg3 ?_
   simp -dsimp only [simprocAttr, ↓vpre, zpm, hr]
   refine at_intro ?_
   simp -dsimp only [vend, ne_eq, Nat.reduceEqDiff, reduceCtorEq]
   first | refine zg1 ?_ | refine zg0 ?_ | refine zg2 ?_ | refine zg3 ?_
   simp -dsimp only [simprocAttr, ↓vpre, zpm, hp]
   refine at_intro ?_
   simp -dsimp only [vend, ne_eq, Nat.reduceEqDiff, reduceCtorEq]
   refine awp_freeze1 12 6 (.ip none p.enc.cells) rfl (by simp [AObj.isSpare]) trivial rfl ?_ ?_
   rotate_left
   simp -dsimp only [simprocAttr, ↓vpre, zpm]
   ·first | refine zg1 ?_ | refine zg0 ?_ | refine zg2 ?_ | refine zg3 ?_
    simp -dsimp only [simprocAttr, ↓vpre, zpm]
    refine .inl ⟨_, mfree_spec p, by first | (simp only [uptoL, AVal.upto, zt, zum]; done) | (simp [uptoL, AVal.upto, zum]; done), later_intro ?_⟩
    simp -dsimp only [simprocAttr, ↓vpre, zpm]
    refine vcIf_split (fun hfr => ?_) (fun hfr => ?_)
    ·have hp0 : p.free = false := by simpa using hfr
     simp -dsimp only [simprocAttr, ↓vpre, zpm, hp0]
     refine .inl ⟨_, containsI_spec A.1.1 p.n, by first | (simp only [uptoL, AVal.upto, zt, zum]; done) | (simp [uptoL, AVal.upto, zum]; done), later_intro ?_⟩
     simp -dsimp only [simprocAttr, ↓vpre, zpm]
     refine at_intro ?_
     simp -dsimp only [vend, ne_eq, Nat.reduceEqDiff, reduceCtorEq]
     first | refine zk1 rfl (fun h => ?_) (fun h => ?_) | refine zk0 rfl (fun h => ?_) (fun h => ?_) | refine zk2 rfl (fun h => ?_) (fun h => ?_)
     ·have hin : p.n ∈ A.1.1 := by simpa using h
      have he : wordStep (buildM (lookT t) fu) rows paths c A r = A := by
       unfold wordStep
       rw [hp]
       simp [hin]
      refine awp_exit ?_
      simp -dsimp only [vend, ne_eq, Nat.reduceEqDiff, reduceCtorEq]
      refine awp_trunc' 5 [(9, .mp 2 0), (0, .mp 0 0), (1, eM rows), (2, eII paths), (3, aI c), (19, eM rows), (20, aI rows.length), (21, aI k)] (by first | omega | (simp; done) | (simp; omega)) (by first | omega | (simp; done) | (simp; omega)) (wObjs (cmT t) q A) ?_ ?_ ?_ ?_ ?_
      ·rfl
      ·simp [wObjs, AObj.upto, uptoL, AVal.upto, cmT_upto, MTree.map_upto, aI_upto]
      ·simp -dsimp only [simprocAttr, ↓vpre, zpm, Says, exists_eq_left', Option.some.injEq, sub_self, and_true]
      ·simp [AVal.upto, uptoL, MRow.map_upto, eI_upto]
      first | refine zg1 ?_ | refine zg0 ?_ | refine zg2 ?_ | refine zg3 ?_
      simp -dsimp only [simprocAttr, ↓vpre, zpm]
      repeat (refine ⟨by omega, ?_⟩)
      refine at_intro ?_
      simp -dsimp only [vend, ne_eq, Nat.reduceEqDiff, reduceCtorEq]
      refine ⟨⟨k + 1, hlt⟩, by simp; omega, ?_⟩
      refine ⟨rfl, ?_, ?_⟩
      rotate_left
      simp -dsimp only [simprocAttr, ↓vpre, zpm, Says, exists_eq_left', Option.some.injEq, sub_self, and_assoc, true_and, and_true]
      ·exact Sub.int (by simp)
      ·rw [hnext, he]
       rfl
     ·have hin : p.n ∉ A.1.1 := by simpa using h
      have hnar := mnarrow_spec rows c 0 (fun q' => decide (q'.n = p.n)) 84 [.ip none [.v (.int .i64 p.kind), .v (.string p.name), .v (.int .i64 p.n), .lst 4 (p.args.map Pat.enc) .sh]] rfl (fun n => by simp [uptoL, AVal.upto, Pat.map_upto]) (by omega) (by omega) (hpre.m.wide hct) (fun r hr => by have := (hpre.m.typed r hr).len; omega) (fun r hr p hp => by have := hN r hr p hp; rw [Pat.nodes_eq] at this; have := nodesL_len p.args; omega) (fun r' hr' p' hp' => by have := words1_spec p' p none; rw [Pat.enc_cells p] at this; exact this)
      obtain ⟨hch, hcn⟩ := hpre.word hc ha p.n
      have hb := ih _ _ _ A.2 hch hst (by omega)
      have hbel : belowM paths c 0 = paths.take c ++ paths.drop (c + 1) ++ subs q 0 := by
       unfold belowM
       rw [hq]
       rfl
      have he : wordStep (buildM (lookT t) fu) rows paths c A r = ((A.1.1 ++ [p.n], A.1.2 ++ [(buildM (lookT t) fu (mnarrow c (fun q => decide (q.n = p.n)) 0 rows) (belowM paths c 0) A.2).1]), (buildM (lookT t) fu (mnarrow c (fun q => decide (q.n = p.n)) 0 rows) (belowM paths c 0) A.2).2) := by
       unfold wordStep
       rw [hp]
       simp [hp0, hin]
      have hst' := hstate (k + 1)
      rw [hnext, he] at hst'
      generalize hR : buildM (lookT t) fu (mnarrow c (fun q => decide (q.n = p.n)) 0 rows) (belowM paths c 0) A.2 = R at hb he hst'
      have hobj := objs_upto t A.2
      have hobj' := objs_upto t R.2
      simp only [BS.objs] at hb hobj hobj'
      refine awp_skip ?_
      simp -dsimp only [vend, ne_eq, Nat.reduceEqDiff, reduceCtorEq]
      first | refine zg1 ?_ | refine zg0 ?_ | refine zg2 ?_ | refine zg3 ?_
      simp -dsimp only [simprocAttr, ↓vpre, zpm]
      refine ⟨by omega, by omega, ?_⟩
      refine at_intro ?_
      simp -dsimp only [vend, ne_eq, Nat.reduceEqDiff, reduceCtorEq]
      first | refine zg1 ?_ | refine zg0 ?_ | refine zg2 ?_ | refine zg3 ?_
      simp -dsimp only [simprocAttr, ↓vpre, zpm]
      refine at_intro ?_
      simp -dsimp only [vend, ne_eq, Nat.reduceEqDiff, reduceCtorEq]
      first | refine zg1 ?_ | refine zg0 ?_ | refine zg2 ?_ | refine zg3 ?_
      simp -dsimp only [simprocAttr, ↓vpre, zpm]
      refine .inl ⟨_, hnar, by first | (simp only [uptoL, AVal.upto, zt, zum]; done) | (simp [uptoL, AVal.upto, zum]; done), later_intro ?_⟩
      simp -dsimp only [simprocAttr, ↓vpre, zpm]
      refine .inl ⟨_, below_spec paths c 0 q hq hqp.1 (by omega) (by omega) (by omega), by first | (simp only [uptoL, AVal.upto, zt, zum]; done) | (simp [uptoL, AVal.upto, zum]; done), later_intro ?_⟩
      simp -dsimp only [simprocAttr, ↓vpre, zpm, ← hbel]
      refine .inr (.inl ⟨_, _, ECall.frame hb rfl (by simp [uptoL, AVal.upto, MRow.map_upto, eI_upto]) hobj [.cells [aI 3, aI 0, .lst 1 (q.map aI) .sh, .lst 1 [] .ex, .lst 1 (A.1.1.map aI ++ [aI p.n]) (.tok 3), .lst 1 (A.1.2.map aI) (.tok 4)], .spare (A.1.1.length + 1), .spare A.1.2.length, .cells [.v (.int .i64 r.ix), .lst 4 (r.pats.map Pat.enc) .sh], .gone], .inr ⟨_, _, keep_frame (O := [_, _]) (O' := [_, _]) (X := [.cells [aI 3, aI 0, .lst 1 (q.map aI) .sh, .lst 1 [] .ex, .lst 1 (A.1.1.map aI ++ [aI p.n]) (.tok 3), .lst 1 (A.1.2.map aI) (.tok 4)], .spare (A.1.1.length + 1), .spare A.1.2.length, .cells [.v (.int .i64 r.ix), .lst 4 (r.pats.map Pat.enc) .sh], .gone]) rfl, later_intro ?_⟩⟩)
      simp -dsimp only [simprocAttr, ↓vpre, zpm]
      refine ⟨by omega, by omega, ?_⟩
      refine ⟨by (show orderB _ _ = true); kernel_rfl, at_intro ?_⟩
      simp -dsimp only [vend, ne_eq, Nat.reduceEqDiff, reduceCtorEq]
      refine awp_trunc' 5 [(9, .mp 2 0), (0, .mp 0 0), (1, eM rows), (2, eII paths), (3, aI c), (19, eM rows), (20, aI rows.length), (21, aI k)] (by first | omega | (simp; done) | (simp; omega)) (by first | omega | (simp; done) | (simp; omega)) (wObjs (cmT t) q ((A.1.1 ++ [p.n], A.1.2 ++ [R.1]), R.2)) ?_ ?_ ?_ ?_ ?_
      ·simp [wObjs]
      ·simp [wObjs, AObj.upto, uptoL, AVal.upto, cmT_upto, MTree.map_upto, aI_upto, -List.map_append]
      ·simp -dsimp only [simprocAttr, ↓vpre, zpm, Says, exists_eq_left', Option.some.injEq, sub_self, and_true]
      ·simp [AVal.upto, uptoL, MRow.map_upto, eI_upto]
      first | refine zg1 ?_ | refine zg0 ?_ | refine zg2 ?_ | refine zg3 ?_
      simp -dsimp only [simprocAttr, ↓vpre, zpm]
      repeat (refine ⟨by omega, ?_⟩)
      refine at_intro ?_
      simp -dsimp only [vend, ne_eq, Nat.reduceEqDiff, reduceCtorEq]
      refine ⟨⟨k + 1, hlt⟩, by simp; omega, ?_⟩
      refine ⟨rfl, ?_, ?_⟩
      rotate_left
      simp -dsimp only [simprocAttr, ↓vpre, zpm, Says, exists_eq_left', Option.some.injEq, sub_self, and_assoc, true_and, and_true]
      ·exact Sub.int (by simp)
      ·rw [hnext, he]
       rfl
    ·have hp0 : p.free = true := by simpa using hfr
     have he : wordStep (buildM (lookT t) fu) rows paths c A r = A := by
      unfold wordStep
      rw [hp]
      simp [hp0]
     simp -dsimp only [simprocAttr, ↓vpre, zpm, hp0]
     refine at_intro ?_
     simp -dsimp only [vend, ne_eq, Nat.reduceEqDiff, reduceCtorEq]
     first | refine zk1 rfl (fun h => ?_) (fun h => ?_) | refine zk0 rfl (fun h => ?_) (fun h => ?_) | refine zk2 rfl (fun h => ?_) (fun h => ?_)
     ·refine awp_exit ?_
      simp -dsimp only [vend, ne_eq, Nat.reduceEqDiff, reduceCtorEq]
      refine awp_trunc' 5 [(9, .mp 2 0), (0, .mp 0 0), (1, eM rows), (2, eII paths), (3, aI c), (19, eM rows), (20, aI rows.length), (21, aI k)] (by first | omega | (simp; done) | (simp; omega)) (by first | omega | (simp; done) | (simp; omega)) (wObjs (cmT t) q A) ?_ ?_ ?_ ?_ ?_
      ·rfl
      ·simp [wObjs, AObj.upto, uptoL, AVal.upto, cmT_upto, MTree.map_upto, aI_upto]
      ·simp -dsimp only [simprocAttr, ↓vpre, zpm, Says, exists_eq_left', Option.some.injEq, sub_self, and_true]
      ·simp [AVal.upto, uptoL, MRow.map_upto, eI_upto]
      first | refine zg1 ?_ | refine zg0 ?_ | refine zg2 ?_ | refine zg3 ?_
      simp -dsimp only [simprocAttr, ↓vpre, zpm]
      repeat (refine ⟨by omega, ?_⟩)
      refine at_intro ?_
      simp -dsimp only [vend, ne_eq, Nat.reduceEqDiff, reduceCtorEq]
      refine ⟨⟨k + 1, hlt⟩, by simp; omega, ?_⟩
      refine ⟨rfl, ?_, ?_⟩
      rotate_left
      simp -dsimp only [simprocAttr, ↓vpre, zpm, Says, exists_eq_left', Option.some.injEq, sub_self, and_assoc, true_and, and_true]
      ·exact Sub.int (by simp)
      ·rw [hnext, he]
       rfl
     ·cases h
   ·exact FSub.mp rfl (by rw [Pat.enc_cells]; rfl)
  ·refine awp_exit ?_
   simp -dsimp only [vend, ne_eq, Nat.reduceEqDiff, reduceCtorEq]
   have hkk : k = rows.length := by simp at h; omega
   subst hkk
   rw [List.take_length] at hA
   rw [hA]
   obtain ⟨hch, hcn⟩ := hpre.other hc ha
   have hb := other_spec ih hpre hc ha hst hfu
   have hm := other_moves (paths := paths) (c := c) (buildM_moves hl fu) h64 (words_moves (buildM_moves hl fu) h64 (paths := paths) (c := c) rows (([], []), s) s 0 (MovesK.start hs.full _))
   rw [hA] at hm
   have hst' := hs.movesK hm hfull (by omega)
   generalize hR : otherM (buildM (lookT t) fu) rows paths c A.2 = R at hb hst' ⊢
   have hobj := objs_upto t A.2
   have hobj' := objs_upto t R.2
   simp only [BS.objs] at hb hobj hobj'
   first | refine zg1 ?_ | refine zg0 ?_ | refine zg2 ?_ | refine zg3 ?_
   simp -dsimp only [simprocAttr, ↓vpre, zpm]
   refine .inr (.inl ⟨_, _, ECall.frame hb rfl (by simp [uptoL, AVal.upto, MRow.map_upto, eI_upto]) hobj [.cells [aI 3, aI 0, .lst 1 (q.map aI) .sh, .lst 1 [] .ex, .lst 1 (A.1.1.map aI) (.tok 3), .lst 1 (A.1.2.map aI) (.tok 4)], .spare A.1.1.length, .spare A.1.2.length], .inr ⟨_, _, keep_frame (O := [_, _]) (O' := [_, _]) (X := [.cells [aI 3, aI 0, .lst 1 (q.map aI) .sh, .lst 1 [] .ex, .lst 1 (A.1.1.map aI) (.tok 3), .lst 1 (A.1.2.map aI) (.tok 4)], .spare A.1.1.length, .spare A.1.2.length]) rfl, later_intro ?_⟩⟩)
   simp -dsimp only [simprocAttr, ↓vpre, zpm]
   refine ⟨by omega, by omega, ?_⟩
   refine ⟨by (show orderB _ _ = true); kernel_rfl, at_intro ?_⟩
   simp -dsimp only [vend, ne_eq, Nat.reduceEqDiff, reduceCtorEq]
   refine awp_freeze1 9 2 (.ip none (MTree.enc ⟨3, 0, q, [], A.1.1, A.1.2 ++ [R.1]⟩).cells) rfl (by simp [AObj.isSpare]) trivial rfl ?_ ?_
   rotate_left
   simp -dsimp only [simprocAttr, ↓vpre, zpm]
   ·have hadd := madd_spec (cmT t) (cmT_upto t 2) R.2 ⟨3, 0, q, [], A.1.1, A.1.2 ++ [R.1]⟩ hst'.outs
    have hret := objs_upto t (R.2.add ⟨3, 0, q, [], A.1.1, A.1.2 ++ [R.1]⟩).2
    generalize hZ : R.2.add ⟨3, 0, q, [], A.1.1, A.1.2 ++ [R.1]⟩ = Z at hadd hret
    simp only [BS.objs] at hadd hret
    first | refine zg1 ?_ | refine zg0 ?_ | refine zg2 ?_ | refine zg3 ?_
    simp -dsimp only [simprocAttr, ↓vpre, zpm]
    refine .inr (.inl ⟨_, _, ECall.frame hadd rfl (by simp [uptoL, AVal.upto, MTree.enc_upto]) hobj' [.gone, .spare A.1.1.length, .spare (A.1.2.length + 1)], .inr ⟨_, _, keep_frame (O := [_, _]) (O' := [_, _]) (X := [.gone, .spare A.1.1.length, .spare (A.1.2.length + 1)]) rfl, later_intro ?_⟩⟩)
    simp -dsimp only [simprocAttr, ↓vpre, zpm]
    refine at_intro ?_
    simp -dsimp only [vend, ne_eq, Nat.reduceEqDiff, reduceCtorEq]
    refine awp_ret ?_
    simp -dsimp only [simprocAttr, ↓vpre, zpm, RetTo, Try.results54, retVals, retVal, mkRet, AVal.upto, Nat.zero_le, Nat.le_refl, seqPost_ret, blockPost_ret, loopPost_ret, hZ]
    exact hret
   ·exact FSub.mp rfl (by rw [List.drop_zero]; simp only [MTree.enc_cells, List.map_append]; rfl)

end Go.Proofs.Ytakdmelemfnmdaa
end

section
set_option linter.unusedSimpArgs false
set_option maxRecDepth 100000
set_option maxHeartbeats 1000000
-- !tab vtab vmat
-- !upto Pat.enc_upto Pat.map_upto MRow.enc_upto MRow.map_upto aI_upto eI_upto nS_upto MTree.enc_upto MTree.map_upto
namespace Go.Proofs.Ytakdmelemfnmdaa
open Go.Av

theorem _root_.Go.Av.ECall.of_share {P : Program} {f : FuncId} {O : List AObj} {args : List AVal} {R : AVal → List AObj → Prop} (h : ECall P f O (args.map AVal.share) R) : ECall P f O args R := ⟨h.1, fun g vs hg ho ha => h.2 g vs hg ho ha.share⟩

theorem build_fail {t : Tbl} {rows : List MRow} {paths : List (List Int)} {s : BS} (hs : PreS s) (hc : rows = [] ∨ s.count.full = true) :
  ECall Try.prog 31 (s.objs (cmT t)) [.mp 0 0, eM rows, eII paths] fun r O' => r = aI (s.count.add mfail).1 ∧ O' = (s.count.add mfail).2.objs (cmT t) := by
 have hmany := hs.many
 have hfull := hs.full
 have hadd := ECall.of_share (args := [.mp 0 0, .agg [aI 0, aI 0, .lst 1 [] .ex, .lst 1 [] .ex, .lst 1 [] .ex, .lst 1 [] .ex]]) (madd_spec (cmT t) (cmT_upto t 2) s.count mfail (by have := hs.outs; exact this))
 have hcf : s.count.full = decide (4096 < s.many + 1) := BS.count_full hfull
 have hret := objs_upto t (s.count.add mfail).2
 generalize hZ : s.count.add mfail = Z at hadd hret
 have hcm : ((s.many + 1 : Nat) : Int) = (s.many : Int) + 1 := by omega
 have hdec : decide ((4096 : Int) < (s.many : Int) + 1) = decide (4096 < s.many + 1) := by
  rw [Bool.eq_iff_iff]
  simp only [decide_eq_true_eq]
  omega
 simp only [BS.objs, BS.count_outs, BS.count_many, hcf, hcm] at hadd hret ⊢
 have hb : (decide ((rows.length : Int) = 0) = true) ∨ (decide ((rows.length : Int) = 0) = false ∧ decide (4096 < s.many + 1) = true) := by
  rcases hc with e | e
  ·exact .inl (by simp [e])
  ·by_cases hn : rows = []
   ·exact .inl (by simp [hn])
   ·exact .inr ⟨by simp [hn], by rw [← hcf]; exact e⟩
 refine ecall_of hT true 2 Try.func31 rfl (by kernel_rfl) (by simp [Try.ntmps31]) (by simp) ?_
 show AWP Try.prog _ _ _ ⟨157, _, _⟩
 dsimp only [Tmp, TypeId, slotsOf]
 first | refine zg1 ?_ | refine zg0 ?_ | refine zg2 ?_ | refine zg3 ?_
 simp -dsimp only [simprocAttr, ↓vpre, zpm]
 refine at_intro ?_
 simp -dsimp only [vend, ne_eq, Nat.reduceEqDiff, reduceCtorEq]
 first | refine zg1 ?_ | refine zg0 ?_ | refine zg2 ?_ | refine zg3 ?_
 simp -dsimp only [simprocAttr, ↓vpre, zpm]
 refine ⟨by omega, by omega, ?_⟩
 refine at_intro ?_
 simp -dsimp only [vend, ne_eq, Nat.reduceEqDiff, reduceCtorEq]
 cases hf : s.full with
 | false =>
  first | refine zg1 ?_ | refine zg0 ?_ | refine zg2 ?_ | refine zg3 ?_
  simp -dsimp only [simprocAttr, ↓vpre, zpm, hf, hdec]
  refine at_intro ?_
  simp -dsimp only [vend, ne_eq, Nat.reduceEqDiff, reduceCtorEq]
  rcases hb with hb | ⟨hb, hd⟩
  ·first | refine zg1 ?_ | refine zg0 ?_ | refine zg2 ?_ | refine zg3 ?_
   simp -dsimp only [simprocAttr, ↓vpre, zpm, hb]
   refine at_intro ?_
   simp -dsimp only [vend, ne_eq, Nat.reduceEqDiff, reduceCtorEq]
   first | refine zk1 rfl (fun h => ?_) (fun h => ?_) | refine zk0 rfl (fun h => ?_) (fun h => ?_) | refine zk2 rfl (fun h => ?_) (fun h => ?_)
   ·first | refine zg1 ?_ | refine zg0 ?_ | refine zg2 ?_ | refine zg3 ?_
    simp -dsimp only [simprocAttr, ↓vpre, zpm]
    refine .inr (.inl ⟨_, _, hadd, .inl (later_intro ?_)⟩)
    simp -dsimp only [simprocAttr, ↓vpre, zpm]
    refine at_intro ?_
    simp -dsimp only [vend, ne_eq, Nat.reduceEqDiff, reduceCtorEq]
    refine awp_ret ?_
    simp -dsimp only [simprocAttr, ↓vpre, zpm, RetTo, Try.results31, retVals, retVal, mkRet, AVal.upto, Nat.zero_le, Nat.le_refl, seqPost_ret, blockPost_ret, loopPost_ret]
    exact hret
   ·cases h
  ·rw [hd] at hadd
   first | refine zg1 ?_ | refine zg0 ?_ | refine zg2 ?_ | refine zg3 ?_
   simp -dsimp only [simprocAttr, ↓vpre, zpm, hb, hd]
   refine at_intro ?_
   simp -dsimp only [vend, ne_eq, Nat.reduceEqDiff, reduceCtorEq]
   first | refine zk1 rfl (fun h => ?_) (fun h => ?_) | refine zk0 rfl (fun h => ?_) (fun h => ?_) | refine zk2 rfl (fun h => ?_) (fun h => ?_)
   ·first | refine zg1 ?_ | refine zg0 ?_ | refine zg2 ?_ | refine zg3 ?_
    simp -dsimp only [simprocAttr, ↓vpre, zpm]
    refine .inr (.inl ⟨_, _, hadd, .inl (later_intro ?_)⟩)
    simp -dsimp only [simprocAttr, ↓vpre, zpm]
    refine at_intro ?_
    simp -dsimp only [vend, ne_eq, Nat.reduceEqDiff, reduceCtorEq]
    refine awp_ret ?_
    simp -dsimp only [simprocAttr, ↓vpre, zpm, RetTo, Try.results31, retVals, retVal, mkRet, AVal.upto, Nat.zero_le, Nat.le_refl, seqPost_ret, blockPost_ret, loopPost_ret]
    exact hret
   ·cases h
 | true =>
  have hd : decide (4096 < s.many + 1) = true := by
   rw [hf] at hfull
   have := of_decide_eq_true hfull.symm
   simp
   omega
  rw [hd] at hadd
  first | refine zg1 ?_ | refine zg0 ?_ | refine zg2 ?_ | refine zg3 ?_
  simp -dsimp only [simprocAttr, ↓vpre, zpm, hf, hdec]
  refine at_intro ?_
  simp -dsimp only [vend, ne_eq, Nat.reduceEqDiff, reduceCtorEq]
  rcases hb with hb | ⟨hb, _⟩
  ·first | refine zg1 ?_ | refine zg0 ?_ | refine zg2 ?_ | refine zg3 ?_
   simp -dsimp only [simprocAttr, ↓vpre, zpm, hb]
   refine at_intro ?_
   simp -dsimp only [vend, ne_eq, Nat.reduceEqDiff, reduceCtorEq]
   first | refine zk1 rfl (fun h => ?_) (fun h => ?_) | refine zk0 rfl (fun h => ?_) (fun h => ?_) | refine zk2 rfl (fun h => ?_) (fun h => ?_)
   ·first | refine zg1 ?_ | refine zg0 ?_ | refine zg2 ?_ | refine zg3 ?_
    simp -dsimp only [simprocAttr, ↓vpre, zpm]
    refine .inr (.inl ⟨_, _, hadd, .inl (later_intro ?_)⟩)
    simp -dsimp only [simprocAttr, ↓vpre, zpm]
    refine at_intro ?_
    simp -dsimp only [vend, ne_eq, Nat.reduceEqDiff, reduceCtorEq]
    refine awp_ret ?_
    simp -dsimp only [simprocAttr, ↓vpre, zpm, RetTo, Try.results31, retVals, retVal, mkRet, AVal.upto, Nat.zero_le, Nat.le_refl, seqPost_ret, blockPost_ret, loopPost_ret]
    exact hret
   ·cases h
  ·first | refine zg1 ?_ | refine zg0 ?_ | refine zg2 ?_ | refine zg3 ?_
   simp -dsimp only [simprocAttr, ↓vpre, zpm, hb]
   refine at_intro ?_
   simp -dsimp only [vend, ne_eq, Nat.reduceEqDiff, reduceCtorEq]
   first | refine zk1 rfl (fun h => ?_) (fun h => ?_) | refine zk0 rfl (fun h => ?_) (fun h => ?_) | refine zk2 rfl (fun h => ?_) (fun h => ?_)
   ·first | refine zg1 ?_ | refine zg0 ?_ | refine zg2 ?_ | refine zg3 ?_
    simp -dsimp only [simprocAttr, ↓vpre, zpm]
    refine .inr (.inl ⟨_, _, hadd, .inl (later_intro ?_)⟩)
    simp -dsimp only [simprocAttr, ↓vpre, zpm]
    refine at_intro ?_
    simp -dsimp only [vend, ne_eq, Nat.reduceEqDiff, reduceCtorEq]
    refine awp_ret ?_
    simp -dsimp only [simprocAttr, ↓vpre, zpm, RetTo, Try.results31, retVals, retVal, mkRet, AVal.upto, Nat.zero_le, Nat.le_refl, seqPost_ret, blockPost_ret, loopPost_ret]
    exact hret
   ·cases h

/-- What holds when build goes on. -/
theorem goes_on {rows : List MRow} {r0 : MRow} {s : BS} (hr0 : rows[0]? = some r0) (hs : PreS s) (hn : s.count.full = false) : s.full = false ∧ decide (4096 < s.many + 1) = false ∧ decide ((4096 : Int) < (s.many : Int) + 1) = false ∧ decide ((rows.length : Int) = 0) = false := by
 have h1 := BS.count_room hs.full hn
 have h2 := hs.full
 have h3 := lt_of_getElem? hr0
 exact ⟨by rw [h2]; exact decide_eq_false (by omega), decide_eq_false (by omega), decide_eq_false (by omega), decide_eq_false (by omega)⟩

theorem build_row {t : Tbl} {rows : List MRow} {r0 : MRow} {paths : List (List Int)} {s : BS} (hs : PreS s) (hr0 : rows[0]? = some r0) (hn : s.count.full = false) (hi : r0.pats.findIdx? (fun p => !p.free) = none) :
  ECall Try.prog 31 (s.objs (cmT t)) [.mp 0 0, eM rows, eII paths] fun r O' => r = aI (s.count.add ⟨1, r0.ix, [], [], [], []⟩).1 ∧ O' = (s.count.add ⟨1, r0.ix, [], [], [], []⟩).2.objs (cmT t) := by
 have hmany := hs.many
 have hadd := ECall.of_share (args := [.mp 0 0, .agg [aI 1, aI r0.ix, .lst 1 [] .ex, .lst 1 [] .ex, .lst 1 [] .ex, .lst 1 [] .ex]]) (madd_spec (cmT t) (cmT_upto t 2) s.count ⟨1, r0.ix, [], [], [], []⟩ (by have := hs.outs; exact this))
 have hret := objs_upto t (s.count.add ⟨1, r0.ix, [], [], [], []⟩).2
 have hcm : ((s.many + 1 : Nat) : Int) = (s.many : Int) + 1 := by omega
 obtain ⟨g1, g2, g3, g4⟩ := goes_on hr0 hs hn
 have hidx : idx (fun p : Pat => !p.free) r0.pats = -1 := by
  unfold idx
  rw [hi]
 generalize hZ : s.count.add ⟨1, r0.ix, [], [], [], []⟩ = Z at hadd hret
 simp only [BS.objs, BS.count_outs, BS.count_many, hn, hcm, g1] at hadd hret ⊢
 refine ecall_of hT true 2 Try.func31 rfl (by kernel_rfl) (by simp [Try.ntmps31]) (by simp) ?_
 show AWP Try.prog _ _ _ ⟨157, _, _⟩
 dsimp only [Tmp, TypeId, slotsOf]
 first | refine zg1 ?_ | refine zg0 ?_ | refine zg2 ?_ | refine zg3 ?_
 simp -dsimp only [simprocAttr, ↓vpre, zpm]
 refine at_intro ?_
 simp -dsimp only [vend, ne_eq, Nat.reduceEqDiff, reduceCtorEq]
 first | refine zg1 ?_ | refine zg0 ?_ | refine zg2 ?_ | refine zg3 ?_
 simp -dsimp only [simprocAttr, ↓vpre, zpm]
 refine ⟨by omega, by omega, ?_⟩
 refine at_intro ?_
 simp -dsimp only [vend, ne_eq, Nat.reduceEqDiff, reduceCtorEq]
 first | refine zg1 ?_ | refine zg0 ?_ | refine zg2 ?_ | refine zg3 ?_
 simp -dsimp only [simprocAttr, ↓vpre, zpm, g3]
 refine at_intro ?_
 simp -dsimp only [vend, ne_eq, Nat.reduceEqDiff, reduceCtorEq]
 first | refine zg1 ?_ | refine zg0 ?_ | refine zg2 ?_ | refine zg3 ?_
 simp -dsimp only [simprocAttr, ↓vpre, zpm, g4]
 refine at_intro ?_
 simp -dsimp only [vend, ne_eq, Nat.reduceEqDiff, reduceCtorEq]
 first | refine zk1 rfl (fun h => ?_) (fun h => ?_) | refine zk0 rfl (fun h => ?_) (fun h => ?_) | refine zk2 rfl (fun h => ?_) (fun h => ?_)
 ·cases h
 ·refine awp_skip ?_
  simp -dsimp only [vend, ne_eq, Nat.reduceEqDiff, reduceCtorEq]
  first | refine zg1 ?_ | refine zg0 ?_ | refine zg2 ?_ | refine zg3 ?_
  simp -dsimp only [simprocAttr, ↓vpre, zpm, hr0]
  refine .inl ⟨_, (indexFunc_spec (fun p => !p.free) 52 [] [] [] (by simp) r0.pats (fun p _ => build1_spec p)), by first | (simp only [uptoL, AVal.upto, zt, zum]; done) | (simp [uptoL, AVal.upto, zum]; done), later_intro ?_⟩
  simp -dsimp only [simprocAttr, ↓vpre, zpm, hidx]
  refine at_intro ?_
  simp -dsimp only [vend, ne_eq, Nat.reduceEqDiff, reduceCtorEq]
  first | refine zg1 ?_ | refine zg0 ?_ | refine zg2 ?_ | refine zg3 ?_
  simp -dsimp only [simprocAttr, ↓vpre, zpm]
  refine at_intro ?_
  simp -dsimp only [vend, ne_eq, Nat.reduceEqDiff, reduceCtorEq]
  first | refine zk1 rfl (fun h => ?_) (fun h => ?_) | refine zk0 rfl (fun h => ?_) (fun h => ?_) | refine zk2 rfl (fun h => ?_) (fun h => ?_)
  ·first | refine zg1 ?_ | refine zg0 ?_ | refine zg2 ?_ | refine zg3 ?_
   simp -dsimp only [simprocAttr, ↓vpre, zpm, hr0]
   refine .inr (.inl ⟨_, _, ECall.frame hadd rfl (by simp [uptoL, AVal.upto]) (BS.upto (cmT_upto t 2) s.outs (s.many + 1) false s.outs.length) [.cells [aI (-1)]], .inr ⟨_, _, keep_frame (O := [_, _]) (O' := [_, _]) (X := [.cells [aI (-1)]]) rfl, later_intro ?_⟩⟩)
   simp -dsimp only [simprocAttr, ↓vpre, zpm]
   refine at_intro ?_
   simp -dsimp only [vend, ne_eq, Nat.reduceEqDiff, reduceCtorEq]
   refine awp_ret ?_
   simp -dsimp only [simprocAttr, ↓vpre, zpm, RetTo, Try.results31, retVals, retVal, mkRet, AVal.upto, Nat.zero_le, Nat.le_refl, seqPost_ret, blockPost_ret, loopPost_ret]
   exact hret
  ·cases h

theorem build_words {t : Tbl} {fu : Nat} (ih : BuildOK t fu) {rows : List MRow} {r0 : MRow} {p : Pat} {paths : List (List Int)} {tys : List Ty} {c : Nat} {s : BS} (hpre : Pre t rows paths tys) (hs : PreS s) (hfu : cntM rows ≤ fu) (hfu' : fu ≤ 1000) (hl : ∀ s d, lookT t s = some d → d.cons.length ≤ 256) (hr0 : rows[0]? = some r0) (hn : s.count.full = false) (hi : r0.pats.findIdx? (fun p => !p.free) = some c) (hp : r0.pats[c]? = some p) (hk : p.kind = 2) (hfr : p.free = false) :
  ECall Try.prog 31 (s.objs (cmT t)) [.mp 0 0, eM rows, eII paths] fun r O' => r = aI (wordsM (buildM (lookT t) fu) rows paths c s.count).1 ∧ O' = (wordsM (buildM (lookT t) fu) rows paths c s.count).2.objs (cmT t) := by
 have hmany := hs.many
 have hcm : ((s.many + 1 : Nat) : Int) = (s.many : Int) + 1 := by omega
 obtain ⟨g1, g2, g3, g4⟩ := goes_on hr0 hs hn
 have hroom := BS.count_room hs.full hn
 have hidx : idx (fun p : Pat => !p.free) r0.pats = c := by
  unfold idx
  rw [hi]
 have hty : tys[c]? = some .int ∧ Asks rows c := by
  obtain ⟨ty, h1, h2, h3⟩ := hpre.column (List.mem_of_getElem? hr0) hp hfr
  rcases h3 with ⟨_, e⟩ | ⟨k3, _⟩
  ·rw [e] at h1
   exact ⟨h1, h2⟩
  ·rw [hk] at k3
   cases k3
 have hw := words_spec ih hpre hty.1 hty.2 (hs.count hn) (by rw [BS.count_many]; omega) hfu hfu' hl
 have hret := objs_upto t (wordsM (buildM (lookT t) fu) rows paths c s.count).2
 generalize hZ : wordsM (buildM (lookT t) fu) rows paths c s.count = Z at hw hret
 have h0 : ¬ ((c : Int) < 0) := by omega
 simp only [BS.objs, BS.count_outs, BS.count_many, hn, hcm, g1] at hw hret ⊢
 refine ecall_of hT true 2 Try.func31 rfl (by kernel_rfl) (by simp [Try.ntmps31]) (by simp) ?_
 show AWP Try.prog _ _ _ ⟨157, _, _⟩
 dsimp only [Tmp, TypeId, slotsOf]
 first | refine zg1 ?_ | refine zg0 ?_ | refine zg2 ?_ | refine zg3 ?_
 simp -dsimp only [simprocAttr, ↓vpre, zpm]
 refine at_intro ?_
 simp -dsimp only [vend, ne_eq, Nat.reduceEqDiff, reduceCtorEq]
 first | refine zg1 ?_ | refine zg0 ?_ | refine zg2 ?_ | refine zg3 ?_
 simp -dsimp only [simprocAttr, ↓vpre, zpm]
 refine ⟨by omega, by omega, ?_⟩
 refine at_intro ?_
 simp -dsimp only [vend, ne_eq, Nat.reduceEqDiff, reduceCtorEq]
 first | refine zg1 ?_ | refine zg0 ?_ | refine zg2 ?_ | refine zg3 ?_
 simp -dsimp only [simprocAttr, ↓vpre, zpm, g3]
 refine at_intro ?_
 simp -dsimp only [vend, ne_eq, Nat.reduceEqDiff, reduceCtorEq]
 first | refine zg1 ?_ | refine zg0 ?_ | refine zg2 ?_ | refine zg3 ?_
 simp -dsimp only [simprocAttr, ↓vpre, zpm, g4]
 refine at_intro ?_
 simp -dsimp only [vend, ne_eq, Nat.reduceEqDiff, reduceCtorEq]
 first | refine zk1 rfl (fun h => ?_) (fun h => ?_) | refine zk0 rfl (fun h => ?_) (fun h => ?_) | refine zk2 rfl (fun h => ?_) (fun h => ?_)
 ·cases h
 ·refine awp_skip ?_
  simp -dsimp only [vend, ne_eq, Nat.reduceEqDiff, reduceCtorEq]
  first | refine zg1 ?_ | refine zg0 ?_ | refine zg2 ?_ | refine zg3 ?_
  simp -dsimp only [simprocAttr, ↓vpre, zpm, hr0]
  refine .inl ⟨_, (indexFunc_spec (fun p => !p.free) 52 [] [] [] (by simp) r0.pats (fun p _ => build1_spec p)), by first | (simp only [uptoL, AVal.upto, zt, zum]; done) | (simp [uptoL, AVal.upto, zum]; done), later_intro ?_⟩
  simp -dsimp only [simprocAttr, ↓vpre, zpm, hidx]
  refine at_intro ?_
  simp -dsimp only [vend, ne_eq, Nat.reduceEqDiff, reduceCtorEq]
  first | refine zg1 ?_ | refine zg0 ?_ | refine zg2 ?_ | refine zg3 ?_
  simp -dsimp only [simprocAttr, ↓vpre, zpm]
  refine at_intro ?_
  simp -dsimp only [vend, ne_eq, Nat.reduceEqDiff, reduceCtorEq]
  first | refine zk1 rfl (fun h => ?_) (fun h => ?_) | refine zk0 rfl (fun h => ?_) (fun h => ?_) | refine zk2 rfl (fun h => ?_) (fun h => ?_)
  ·simp at h
   omega
  ·refine awp_skip ?_
   simp -dsimp only [vend, ne_eq, Nat.reduceEqDiff, reduceCtorEq]
   first | refine zg1 ?_ | refine zg0 ?_ | refine zg2 ?_ | refine zg3 ?_
   simp -dsimp only [simprocAttr, ↓vpre, zpm, hr0, hp, hk]
   refine ⟨by (show orderB _ _ = true); kernel_rfl, at_intro ?_⟩
   simp -dsimp only [vend, ne_eq, Nat.reduceEqDiff, reduceCtorEq]
   first | refine zk1 rfl (fun h => ?_) (fun h => ?_) | refine zk0 rfl (fun h => ?_) (fun h => ?_) | refine zk2 rfl (fun h => ?_) (fun h => ?_)
   ·first | refine zg1 ?_ | refine zg0 ?_ | refine zg2 ?_ | refine zg3 ?_
    simp -dsimp only [simprocAttr, ↓vpre, zpm]
    refine .inr (.inl ⟨_, _, ECall.frame hw rfl (by simp [uptoL, AVal.upto, MRow.map_upto, eI_upto]) (BS.upto (cmT_upto t 2) s.outs (s.many + 1) false s.outs.length) [.cells [aI c]], .inr ⟨_, _, keep_frame (O := [_, _]) (O' := [_, _]) (X := [.cells [aI c]]) rfl, later_intro ?_⟩⟩)
    simp -dsimp only [simprocAttr, ↓vpre, zpm]
    refine at_intro ?_
    simp -dsimp only [vend, ne_eq, Nat.reduceEqDiff, reduceCtorEq]
    refine awp_ret ?_
    simp -dsimp only [simprocAttr, ↓vpre, zpm, RetTo, Try.results31, retVals, retVal, mkRet, AVal.upto, Nat.zero_le, Nat.le_refl, seqPost_ret, blockPost_ret, loopPost_ret]
    exact hret
   ·cases h

end Go.Proofs.Ytakdmelemfnmdaa
end

section
set_option linter.unusedSimpArgs false
set_option maxRecDepth 100000
set_option maxHeartbeats 2000000
-- !tab vtab vmat
-- !upto Pat.enc_upto Pat.map_upto MRow.enc_upto MRow.map_upto aI_upto eI_upto nS_upto MTree.enc_upto MTree.map_upto
namespace Go.Proofs.Ytakdmelemfnmdaa
open Go.Av

theorem cons_len {f : MRec} {rows : List MRow} {paths : List (List Int)} {c : Nat} : ∀ (l : List Con) (a : (List ByteArray × List Int) × BS), (l.foldl (conStep f rows paths c) a).1.1.length ≤ a.1.1.length + l.length ∧ (l.foldl (conStep f rows paths c) a).1.2.length ≤ a.1.2.length + l.length
 | [], a => ⟨Nat.le_refl _, Nat.le_refl _⟩
 | r :: l, a => by
  rw [List.foldl_cons]
  have ih := cons_len (f := f) (rows := rows) (paths := paths) (c := c) l (conStep f rows paths c a r)
  have hs : (conStep f rows paths c a r).1.1.length ≤ a.1.1.length + 1 ∧ (conStep f rows paths c a r).1.2.length ≤ a.1.2.length + 1 := by
   unfold conStep
   split
   ·simp
   ·exact ⟨by omega, by omega⟩
  simp only [List.length_cons]
  exact ⟨by omega, by omega⟩

/-- The objects of build in its loop. -/
def cObjs (cm : AVal) (q : List Int) (A : (List ByteArray × List Int) × BS) : List AObj :=
 [.cells [cm, .lst 6 (A.2.outs.map MTree.enc) (.tok 1), .v (.int .i64 A.2.many), .v (.bool A.2.full)], .spare A.2.outs.length, .gone, .cells [aI 2, aI 0, .lst 1 (q.map aI) .sh, .lst 1 (A.1.1.map nS) (.tok 4), .lst 1 [] .ex, .lst 1 (A.1.2.map aI) (.tok 5)], .spare A.1.1.length, .spare A.1.2.length]

abbrev cSlots (rows : List MRow) (paths : List (List Int)) (c : Nat) (d : Data) (k : Nat) : List (Nat × AVal) := [(0, .mp 0 0), (1, eM rows), (2, eII paths), (7, .ip none [aI c]), (8, .mp 3 0), (9, .ip none [.v (.string d.name), .v (.int .i64 d.params), .lst 2 (d.cons.map Con.enc) .sh]), (96, .lst 2 (d.cons.map Con.enc) .sh), (97, aI d.cons.length), (98, aI k)]

theorem build_cons {t : Tbl} {fu : Nat} (ih : BuildOK t fu) {rows : List MRow} {r0 : MRow} {p : Pat} {paths : List (List Int)} {tys : List Ty} {c : Nat} {s : BS} (hpre : Pre t rows paths tys) (hs : PreS s) (hfu : cntM rows ≤ fu) (hfu' : fu ≤ 1000) (hl : ∀ s d, lookT t s = some d → d.cons.length ≤ 256) (hr0 : rows[0]? = some r0) (hn : s.count.full = false) (hi : r0.pats.findIdx? (fun p => !p.free) = some c) (hp : r0.pats[c]? = some p) (hk : p.kind ≠ 2) (hfr : p.free = false) {d : Data} (hd : lookT t p.name = some d) :
  ECall Try.prog 31 (s.objs (cmT t)) [.mp 0 0, eM rows, eII paths] fun r O' => r = aI (consM (buildM (lookT t) fu) d rows paths c s.count).1 ∧ O' = (consM (buildM (lookT t) fu) d rows paths c s.count).2.objs (cmT t) := by
 have hmany := hs.many
 have hcm : ((s.many + 1 : Nat) : Int) = (s.many : Int) + 1 := by omega
 obtain ⟨g1, g2, g3, g4⟩ := goes_on hr0 hs hn
 have hroom := BS.count_room hs.full hn
 have hidx : idx (fun p : Pat => !p.free) r0.pats = c := by
  unfold idx
  rw [hi]
 obtain ⟨i, F, hc, ha, hdi, K, hf, hKd⟩ : ∃ i F, tys[c]? = some (.data i F) ∧ Asks rows c ∧ t.datas[i]? = some d ∧ ∃ K, find t.cons p.name = some K ∧ dataAt t.datas K.data = d := by
  obtain ⟨ty, h1, h2, h3⟩ := hpre.column (List.mem_of_getElem? hr0) hp hfr
  rcases h3 with ⟨k2, _⟩ | ⟨_, i, F, d', K, e, hf, hK, hd', hl'⟩
  ·exact absurd k2 hk
  ·rw [hd] at hl'
   cases hl'
   rw [e] at h1
   refine ⟨i, F, h1, h2, hd', K, hf, ?_⟩
   unfold dataAt
   rw [hK, hd']
   rfl
 have hct := (List.getElem?_eq_some_iff.1 hc).1
 have hlen := hpre.len
 have hwide := hpre.wide
 obtain ⟨q, hq⟩ : ∃ q, paths[c]? = some q := ⟨paths[c]'(by omega), by simp⟩
 have hqp := hpre.places q (List.mem_of_getElem? hq)
 have hN := hpre.m.nodes
 have h64 := hpre.m.len
 have hd256 := hl _ _ hd
 have hs1 := hs.count hn
 have hfull1 : s.count.many ≤ 4096 := by rw [BS.count_many]; omega
 have hstate : ∀ k, PreS ((d.cons.take k).foldl (conStep (buildM (lookT t) fu) rows paths c) (([], []), s.count)).2 := fun k => by
  refine hs1.movesK (cons_moves (buildM_moves hl fu) h64 (d.cons.take k) (([], []), s.count) s.count 0 (MovesK.start hs1.full _)) hfull1 ?_
  simp only [List.length_take]
  omega
 have hlens : ∀ k, ((d.cons.take k).foldl (conStep (buildM (lookT t) fu) rows paths c) (([], []), s.count)).1.1.length ≤ 256 ∧ ((d.cons.take k).foldl (conStep (buildM (lookT t) fu) rows paths c) (([], []), s.count)).1.2.length ≤ 256 := fun k => by
  have := cons_len (f := buildM (lookT t) fu) (rows := rows) (paths := paths) (c := c) (d.cons.take k) (([], []), s.count)
  simp only [List.length_take, List.length_nil] at this
  exact ⟨by omega, by omega⟩
 have h0 : ¬ ((c : Int) < 0) := by omega
 unfold consM
 simp only [BS.objs, hq, Option.getD_some]
 have hstart : cObjs (cmT t) q ((d.cons.take 0).foldl (conStep (buildM (lookT t) fu) rows paths c) (([], []), s.count)) = [.cells [cmT t, .lst 6 (s.outs.map MTree.enc) (.tok 1), .v (.int .i64 ((s.many : Int) + 1)), .v (.bool false)], .spare s.outs.length, .gone, .cells [aI 2, aI 0, .lst 1 (q.map aI) .sh, .lst 1 [] (.tok 4), .lst 1 [] .ex, .lst 1 [] (.tok 5)], .spare 0, .spare 0] := by
  simp only [List.take_zero, List.foldl_nil, cObjs, BS.count_outs, BS.count_many, hn, hcm]
  rfl
 refine ecall_of hT true 2 Try.func31 rfl (by kernel_rfl) (by simp [Try.ntmps31]) (by simp) ?_
 show AWP Try.prog _ _ _ ⟨157, _, _⟩
 dsimp only [Tmp, TypeId, slotsOf]
 first | refine zg1 ?_ | refine zg0 ?_ | refine zg2 ?_ | refine zg3 ?_
 simp -dsimp only [simprocAttr, ↓vpre, zpm]
 refine at_intro ?_
 simp -dsimp only [vend, ne_eq, Nat.reduceEqDiff, reduceCtorEq]
 first | refine zg1 ?_ | refine zg0 ?_ | refine zg2 ?_ | refine zg3 ?_
 simp -dsimp only [simprocAttr, ↓vpre, zpm]
 refine ⟨by omega, by omega, ?_⟩
 refine at_intro ?_
 simp -dsimp only [vend, ne_eq, Nat.reduceEqDiff, reduceCtorEq]
 first | refine zg1 ?_ | refine zg0 ?_ | refine zg2 ?_ | refine zg3 ?_
 simp -dsimp only [simprocAttr, ↓vpre, zpm, g1, g3]
 refine at_intro ?_
 simp -dsimp only [vend, ne_eq, Nat.reduceEqDiff, reduceCtorEq]
 first | refine zg1 ?_ | refine zg0 ?_ | refine zg2 ?_ | refine zg3 ?_
 simp -dsimp only [simprocAttr, ↓vpre, zpm, g4]
 refine at_intro ?_
 simp -dsimp only [vend, ne_eq, Nat.reduceEqDiff, reduceCtorEq]
 first | refine zk1 rfl (fun h => ?_) (fun h => ?_) | refine zk0 rfl (fun h => ?_) (fun h => ?_) | refine zk2 rfl (fun h => ?_) (fun h => ?_)
 ·cases h
 ·refine awp_skip ?_
  simp -dsimp only [vend, ne_eq, Nat.reduceEqDiff, reduceCtorEq]
  first | refine zg1 ?_ | refine zg0 ?_ | refine zg2 ?_ | refine zg3 ?_
  simp -dsimp only [simprocAttr, ↓vpre, zpm, hr0]
  refine .inl ⟨_, (indexFunc_spec (fun p => !p.free) 52 [] [] [] (by simp) r0.pats (fun p _ => build1_spec p)), by first | (simp only [uptoL, AVal.upto, zt, zum]; done) | (simp [uptoL, AVal.upto, zum]; done), later_intro ?_⟩
  simp -dsimp only [simprocAttr, ↓vpre, zpm, hidx]
  refine at_intro ?_
  simp -dsimp only [vend, ne_eq, Nat.reduceEqDiff, reduceCtorEq]
  refine awp_freeze1 7 2 (.ip none [aI c]) rfl (by simp [AObj.isSpare]) trivial rfl ?_ ?_
  rotate_left
  simp -dsimp only [simprocAttr, ↓vpre, zpm]
  ·first | refine zg1 ?_ | refine zg0 ?_ | refine zg2 ?_ | refine zg3 ?_
   simp -dsimp only [simprocAttr, ↓vpre, zpm]
   refine at_intro ?_
   simp -dsimp only [vend, ne_eq, Nat.reduceEqDiff, reduceCtorEq]
   first | refine zk1 rfl (fun h => ?_) (fun h => ?_) | refine zk0 rfl (fun h => ?_) (fun h => ?_) | refine zk2 rfl (fun h => ?_) (fun h => ?_)
   ·simp at h
    omega
   ·refine awp_skip ?_
    simp -dsimp only [vend, ne_eq, Nat.reduceEqDiff, reduceCtorEq]
    first | refine zg1 ?_ | refine zg0 ?_ | refine zg2 ?_ | refine zg3 ?_
    simp -dsimp only [simprocAttr, ↓vpre, zpm, hr0, hp]
    refine ⟨by (show orderB _ _ = true); kernel_rfl, at_intro ?_⟩
    simp -dsimp only [vend, ne_eq, Nat.reduceEqDiff, reduceCtorEq]
    first | refine zk1 rfl (fun h => ?_) (fun h => ?_) | refine zk0 rfl (fun h => ?_) (fun h => ?_) | refine zk2 rfl (fun h => ?_) (fun h => ?_)
    ·simp [hk] at h
    ·refine awp_skip ?_
     simp -dsimp only [vend, ne_eq, Nat.reduceEqDiff, reduceCtorEq]
     first | refine zg1 ?_ | refine zg0 ?_ | refine zg2 ?_ | refine zg3 ?_
     simp -dsimp only [simprocAttr, ↓vpre, zpm, hq]
     refine at_intro ?_
     simp -dsimp only [vend, ne_eq, Nat.reduceEqDiff, reduceCtorEq]
     refine awp_ownCell 3 3 rfl rfl ?_
     simp -dsimp only [simprocAttr, ↓vpre, zpm]
     refine awp_ownCell 3 5 rfl rfl ?_
     simp -dsimp only [simprocAttr, ↓vpre, zpm]
     have hcmT : cmT t = .im .str (t.cons.map (ixEntry t.datas)) := rfl
     first | refine zg1 ?_ | refine zg0 ?_ | refine zg2 ?_ | refine zg3 ?_
     simp -dsimp only [simprocAttr, ↓vpre, zpm, hr0, hp, hcmT, look_ix, hf, Option.map_some, Option.getD_some, hKd]
     refine ⟨by (show orderB _ _ = true); kernel_rfl, at_intro ?_⟩
     simp -dsimp only [vend, ne_eq, Nat.reduceEqDiff, reduceCtorEq]
     first | refine zg1 ?_ | refine zg0 ?_ | refine zg2 ?_ | refine zg3 ?_
     simp -dsimp only [simprocAttr, ↓vpre, zpm]
     refine at_intro ?_
     simp -dsimp only [vend, ne_eq, Nat.reduceEqDiff, reduceCtorEq]
     first | refine awp_block (awp_loop (ι := {k : Nat // k ≤ d.cons.length}) (fun k => ⟨157, cSlots rows paths c d k.1, cObjs (cmT t) q ((d.cons.take k.1).foldl (conStep (buildM (lookT t) fu) rows paths c) (([], []), s.count))⟩) (fun k => d.cons.length - k.1) ⟨0, by omega⟩ ?_ ?_) | refine awp_seq (awp_block (awp_loop (ι := {k : Nat // k ≤ d.cons.length}) (fun k => ⟨157, cSlots rows paths c d k.1, cObjs (cmT t) q ((d.cons.take k.1).foldl (conStep (buildM (lookT t) fu) rows paths c) (([], []), s.count))⟩) (fun k => d.cons.length - k.1) ⟨0, by omega⟩ ?_ ?_))
     ·refine ⟨rfl, ?_, ?_⟩
      rotate_left
      simp -dsimp only [simprocAttr, ↓vpre, zpm, Says, exists_eq_left', Option.some.injEq, sub_self, and_assoc, true_and, and_true]
      exact hstart.symm
     ·rintro ⟨k, hk⟩
      have hst := hstate k
      have hle := hlens k
      simp only [cObjs, cSlots]
      generalize hA : (d.cons.take k).foldl (conStep (buildM (lookT t) fu) rows paths c) (([], []), s.count) = A at hst hle
      first | refine zg1 ?_ | refine zg0 ?_ | refine zg2 ?_ | refine zg3 ?_
      simp -dsimp only [simprocAttr, ↓vpre, zpm]
      refine at_intro ?_
      simp -dsimp only [vend, ne_eq, Nat.reduceEqDiff, reduceCtorEq]
      first | refine zk1 rfl (fun h => ?_) (fun h => ?_) | refine zk0 rfl (fun h => ?_) (fun h => ?_) | refine zk2 rfl (fun h => ?_) (fun h => ?_)
      ·refine awp_skip ?_
       simp -dsimp only [vend, ne_eq, Nat.reduceEqDiff, reduceCtorEq]
       have hlt : k < d.cons.length := by simpa using h
       obtain ⟨x, hx⟩ : ∃ x, d.cons[k]? = some x := ⟨d.cons[k], by simp [hlt]⟩
       have hmem := List.mem_of_getElem? hx
       have hnext : (d.cons.take (k + 1)).foldl (conStep (buildM (lookT t) fu) rows paths c) (([], []), s.count) = conStep (buildM (lookT t) fu) rows paths c A x := by
        rw [take_next hx, List.foldl_append, hA]
        rfl
       first | refine awp_seq (awp_block ?_) | refine awp_block ?_
       first | refine zg1 ?_ | refine zg0 ?_ | refine zg2 ?_ | refine zg3 ?_
       simp -dsimp only [simprocAttr, ↓vpre, zpm, hx]
       refine at_intro ?_
       simp -dsimp only [vend, ne_eq, Nat.reduceEqDiff, reduceCtorEq]
       refine awp_freeze1 11 6 (.ip none x.enc.cells) rfl (by simp [AObj.isSpare]) trivial rfl ?_ ?_
       rotate_left
       simp -dsimp only [simprocAttr, ↓vpre, zpm]
       ·first | refine zg1 ?_ | refine zg0 ?_ | refine zg2 ?_ | refine zg3 ?_
        simp -dsimp only [simprocAttr, ↓vpre, zpm]
        refine at_intro ?_
        simp -dsimp only [vend, ne_eq, Nat.reduceEqDiff, reduceCtorEq]
        refine awp_freeze1 12 7 (.ip none [.fn (.func 55) [] [.ip none x.enc.cells]]) rfl (by simp [AObj.isSpare]) trivial rfl ?_ ?_
        rotate_left
        simp -dsimp only [simprocAttr, ↓vpre, zpm]
        ·have hany := anyR_spec c none none (fun p => decide (p.name = x.name)) 55 [.ip none [.v (.string x.name), .lst 4 (x.args.map Pat.enc) .sh]] rfl (fun n => by simp [uptoL, AVal.upto, Pat.map_upto]) rows (hpre.m.wide hct) (fun r _ p _ => build2_spec p x.name _ none)
         first | refine zg1 ?_ | refine zg0 ?_ | refine zg2 ?_ | refine zg3 ?_
         simp -dsimp only [simprocAttr, ↓vpre, zpm]
         refine .inl ⟨_, hany, by first | (simp only [uptoL, AVal.upto, zt, zum]; done) | (simp [uptoL, AVal.upto, zum]; done), later_intro ?_⟩
         simp -dsimp only [simprocAttr, ↓vpre, zpm]
         refine at_intro ?_
         simp -dsimp only [vend, ne_eq, Nat.reduceEqDiff, reduceCtorEq]
         first | refine zk1 rfl (fun h => ?_) (fun h => ?_) | refine zk0 rfl (fun h => ?_) (fun h => ?_) | refine zk2 rfl (fun h => ?_) (fun h => ?_)
         ·have hnar := mnarrow_spec rows c x.args.length (fun p => decide (p.name = x.name)) 55 [.ip none [.v (.string x.name), .lst 4 (x.args.map Pat.enc) .sh]] rfl (fun n => by simp [uptoL, AVal.upto, Pat.map_upto]) (by omega) (by have := (hpre.con hc hdi hmem h).2.1; omega) (hpre.m.wide hct) (fun r hr => by have := (hpre.m.typed r hr).len; omega) (fun r hr p hp => by have := hN r hr p hp; rw [Pat.nodes_eq] at this; have := nodesL_len p.args; omega) (fun r _ p _ => build2_spec p x.name _ none)
          obtain ⟨_, h400, hch, hcn⟩ := hpre.con hc hdi hmem h
          have hb := ih _ _ _ A.2 hch hst (by omega)
          have hbel : belowM paths c x.args.length = paths.take c ++ paths.drop (c + 1) ++ subs q x.args.length := by
           unfold belowM
           rw [hq]
           rfl
          have he : conStep (buildM (lookT t) fu) rows paths c A x = ((A.1.1 ++ [x.name], A.1.2 ++ [(buildM (lookT t) fu (mnarrow c (fun p => decide (p.name = x.name)) x.args.length rows) (belowM paths c x.args.length) A.2).1]), (buildM (lookT t) fu (mnarrow c (fun p => decide (p.name = x.name)) x.args.length rows) (belowM paths c x.args.length) A.2).2) := by
           unfold conStep
           rw [if_pos h]
          have hst' := hstate (k + 1)
          rw [hnext, he] at hst'
          generalize hR : buildM (lookT t) fu (mnarrow c (fun p => decide (p.name = x.name)) x.args.length rows) (belowM paths c x.args.length) A.2 = R at hb he hst'
          have hobj := objs_upto t A.2
          have hobj' := objs_upto t R.2
          simp only [BS.objs] at hb hobj hobj'
          first | refine zg1 ?_ | refine zg0 ?_ | refine zg2 ?_ | refine zg3 ?_
          simp -dsimp only [simprocAttr, ↓vpre, zpm]
          refine ⟨by omega, by omega, ?_⟩
          refine at_intro ?_
          simp -dsimp only [vend, ne_eq, Nat.reduceEqDiff, reduceCtorEq]
          first | refine zg1 ?_ | refine zg0 ?_ | refine zg2 ?_ | refine zg3 ?_
          simp -dsimp only [simprocAttr, ↓vpre, zpm]
          refine .inl ⟨_, hnar, by first | (simp only [uptoL, AVal.upto, zt, zum]; done) | (simp [uptoL, AVal.upto, zum]; done), later_intro ?_⟩
          simp -dsimp only [simprocAttr, ↓vpre, zpm]
          refine .inl ⟨_, below_spec paths c x.args.length q hq hqp.1 (by omega) (by omega) (by omega), by first | (simp only [uptoL, AVal.upto, zt, zum]; done) | (simp [uptoL, AVal.upto, zum]; done), later_intro ?_⟩
          simp -dsimp only [simprocAttr, ↓vpre, zpm, ← hbel]
          refine .inr (.inl ⟨_, _, ECall.frame hb rfl (by simp [uptoL, AVal.upto, MRow.map_upto, eI_upto]) hobj [.gone, .cells [aI 2, aI 0, .lst 1 (q.map aI) .sh, .lst 1 (A.1.1.map nS ++ [nS x.name]) (.tok 4), .lst 1 [] .ex, .lst 1 (A.1.2.map aI) (.tok 5)], .spare (A.1.1.length + 1), .spare A.1.2.length, .gone, .gone], .inr ⟨_, _, keep_frame (O := [_, _]) (O' := [_, _]) (X := [.gone, .cells [aI 2, aI 0, .lst 1 (q.map aI) .sh, .lst 1 (A.1.1.map nS ++ [nS x.name]) (.tok 4), .lst 1 [] .ex, .lst 1 (A.1.2.map aI) (.tok 5)], .spare (A.1.1.length + 1), .spare A.1.2.length, .gone, .gone]) rfl, later_intro ?_⟩⟩)
          simp -dsimp only [simprocAttr, ↓vpre, zpm]
          refine ⟨by omega, by omega, ?_⟩
          refine ⟨by (show orderB _ _ = true); kernel_rfl, at_intro ?_⟩
          simp -dsimp only [vend, ne_eq, Nat.reduceEqDiff, reduceCtorEq]
          refine awp_trunc' 6 (cSlots rows paths c d k) (by first | omega | (simp; done) | (simp; omega)) (by first | omega | (simp; done) | (simp; omega)) (cObjs (cmT t) q ((A.1.1 ++ [x.name], A.1.2 ++ [R.1]), R.2)) ?_ ?_ ?_ ?_ ?_
          ·simp [cObjs]
          ·simp [cObjs, AObj.upto, uptoL, AVal.upto, cmT_upto, MTree.map_upto, aI_upto, nS_upto, -List.map_append]
          ·simp -dsimp only [simprocAttr, ↓vpre, zpm, cSlots, Says, exists_eq_left', Option.some.injEq, sub_self, and_true]
          ·simp [cSlots, AVal.upto, uptoL, MRow.map_upto, eI_upto, Con.map_upto]
          first | refine zg1 ?_ | refine zg0 ?_ | refine zg2 ?_ | refine zg3 ?_
          simp -dsimp only [simprocAttr, ↓vpre, zpm]
          repeat (refine ⟨by omega, ?_⟩)
          refine at_intro ?_
          simp -dsimp only [vend, ne_eq, Nat.reduceEqDiff, reduceCtorEq]
          refine ⟨⟨k + 1, hlt⟩, by simp; omega, ?_⟩
          refine ⟨rfl, ?_, ?_⟩
          rotate_left
          simp -dsimp only [simprocAttr, ↓vpre, zpm, Says, exists_eq_left', Option.some.injEq, sub_self, and_assoc, true_and, and_true]
          ·exact Sub.int (by simp)
          ·rw [hnext, he]
           rfl
         ·have he : conStep (buildM (lookT t) fu) rows paths c A x = A := by
           unfold conStep
           rw [if_neg (by rw [h]; simp)]
          refine awp_skip ?_
          simp -dsimp only [vend, ne_eq, Nat.reduceEqDiff, reduceCtorEq]
          refine awp_trunc' 6 (cSlots rows paths c d k) (by first | omega | (simp; done) | (simp; omega)) (by first | omega | (simp; done) | (simp; omega)) (cObjs (cmT t) q A) ?_ ?_ ?_ ?_ ?_
          ·rfl
          ·simp [cObjs, AObj.upto, uptoL, AVal.upto, cmT_upto, MTree.map_upto, aI_upto, nS_upto]
          ·simp -dsimp only [simprocAttr, ↓vpre, zpm, cSlots, Says, exists_eq_left', Option.some.injEq, sub_self, and_true]
          ·simp [cSlots, AVal.upto, uptoL, MRow.map_upto, eI_upto, Con.map_upto]
          first | refine zg1 ?_ | refine zg0 ?_ | refine zg2 ?_ | refine zg3 ?_
          simp -dsimp only [simprocAttr, ↓vpre, zpm]
          repeat (refine ⟨by omega, ?_⟩)
          refine at_intro ?_
          simp -dsimp only [vend, ne_eq, Nat.reduceEqDiff, reduceCtorEq]
          refine ⟨⟨k + 1, hlt⟩, by simp; omega, ?_⟩
          refine ⟨rfl, ?_, ?_⟩
          rotate_left
          simp -dsimp only [simprocAttr, ↓vpre, zpm, Says, exists_eq_left', Option.some.injEq, sub_self, and_assoc, true_and, and_true]
          ·exact Sub.int (by simp)
          ·rw [hnext, he]
           rfl
        ·exact FSub.mp rfl rfl
       ·exact FSub.mp rfl rfl
      ·refine awp_exit ?_
       simp -dsimp only [vend, ne_eq, Nat.reduceEqDiff, reduceCtorEq]
       have hkk : k = d.cons.length := by simp at h; omega
       subst hkk
       rw [List.take_length] at hA
       rw [hA]
       first | refine zg1 ?_ | refine zg0 ?_ | refine zg2 ?_ | refine zg3 ?_
       simp -dsimp only [simprocAttr, ↓vpre, zpm]
       refine at_intro ?_
       simp -dsimp only [vend, ne_eq, Nat.reduceEqDiff, reduceCtorEq]
       first | refine zg1 ?_ | refine zg0 ?_ | refine zg2 ?_ | refine zg3 ?_
       simp -dsimp only [simprocAttr, ↓vpre, zpm]
       refine ⟨by (show orderB _ _ = true); kernel_rfl, at_intro ?_⟩
       simp -dsimp only [vend, ne_eq, Nat.reduceEqDiff, reduceCtorEq]
       first | refine zk1 rfl (fun h => ?_) (fun h => ?_) | refine zk0 rfl (fun h => ?_) (fun h => ?_) | refine zk2 rfl (fun h => ?_) (fun h => ?_)
       ·have hlt : A.1.1.length < d.cons.length := by simpa using h
        rw [if_pos hlt]
        have hb := other_spec ih hpre hc ha hst hfu
        have hm := other_moves (paths := paths) (c := c) (buildM_moves hl fu) h64 (cons_moves (buildM_moves hl fu) h64 (paths := paths) (c := c) d.cons (([], []), s.count) s.count 0 (MovesK.start hs1.full _))
        rw [hA] at hm
        have hst' := hs1.movesK hm hfull1 (by omega)
        generalize hR : otherM (buildM (lookT t) fu) rows paths c A.2 = R at hb hst' ⊢
        have hobj := objs_upto t A.2
        have hobj' := objs_upto t R.2
        simp only [BS.objs] at hb hobj hobj'
        first | refine zg1 ?_ | refine zg0 ?_ | refine zg2 ?_ | refine zg3 ?_
        simp -dsimp only [simprocAttr, ↓vpre, zpm]
        refine .inr (.inl ⟨_, _, ECall.frame hb rfl (by simp [uptoL, AVal.upto, MRow.map_upto, eI_upto]) hobj [.gone, .cells [aI 2, aI 0, .lst 1 (q.map aI) .sh, .lst 1 (A.1.1.map nS) (.tok 4), .lst 1 [] .ex, .lst 1 (A.1.2.map aI) (.tok 5)], .spare A.1.1.length, .spare A.1.2.length], .inr ⟨_, _, keep_frame (O := [_, _]) (O' := [_, _]) (X := [.gone, .cells [aI 2, aI 0, .lst 1 (q.map aI) .sh, .lst 1 (A.1.1.map nS) (.tok 4), .lst 1 [] .ex, .lst 1 (A.1.2.map aI) (.tok 5)], .spare A.1.1.length, .spare A.1.2.length]) rfl, later_intro ?_⟩⟩)
        simp -dsimp only [simprocAttr, ↓vpre, zpm]
        refine at_intro ?_
        simp -dsimp only [vend, ne_eq, Nat.reduceEqDiff, reduceCtorEq]
        first | refine zg1 ?_ | refine zg0 ?_ | refine zg2 ?_ | refine zg3 ?_
        simp -dsimp only [simprocAttr, ↓vpre, zpm]
        refine ⟨by omega, by omega, ?_⟩
        refine at_intro ?_
        simp -dsimp only [vend, ne_eq, Nat.reduceEqDiff, reduceCtorEq]
        refine awp_freeze1 8 3 (.ip none (MTree.enc ⟨2, 0, q, A.1.1, [], A.1.2 ++ [R.1]⟩).cells) rfl (by simp [AObj.isSpare]) trivial rfl ?_ ?_
        rotate_left
        simp -dsimp only [simprocAttr, ↓vpre, zpm]
        ·have hadd := madd_spec (cmT t) (cmT_upto t 2) R.2 ⟨2, 0, q, A.1.1, [], A.1.2 ++ [R.1]⟩ (PreS.outs hst')
         have hret := objs_upto t ((R.2).add ⟨2, 0, q, A.1.1, [], A.1.2 ++ [R.1]⟩).2
         generalize hZ : BS.add R.2 ⟨2, 0, q, A.1.1, [], A.1.2 ++ [R.1]⟩ = Z at hadd hret
         simp only [BS.objs] at hadd hret
         first | refine zg1 ?_ | refine zg0 ?_ | refine zg2 ?_ | refine zg3 ?_
         simp -dsimp only [simprocAttr, ↓vpre, zpm]
         refine .inr (.inl ⟨_, _, ECall.frame hadd rfl (by simp [uptoL, AVal.upto, MTree.enc_upto]) hobj' [.gone, .gone, .spare A.1.1.length, .spare (A.1.2.length + 1)], .inr ⟨_, _, keep_frame (O := [_, _]) (O' := [_, _]) (X := [.gone, .gone, .spare A.1.1.length, .spare (A.1.2.length + 1)]) rfl, later_intro ?_⟩⟩)
         simp -dsimp only [simprocAttr, ↓vpre, zpm]
         refine at_intro ?_
         simp -dsimp only [vend, ne_eq, Nat.reduceEqDiff, reduceCtorEq]
         refine awp_ret ?_
         simp -dsimp only [simprocAttr, ↓vpre, zpm, RetTo, Try.results31, retVals, retVal, mkRet, AVal.upto, Nat.zero_le, Nat.le_refl, seqPost_ret, blockPost_ret, loopPost_ret, hZ]
         exact hret
        ·exact FSub.mp rfl (by rw [List.drop_zero]; simp only [MTree.enc_cells, List.map_append]; rfl)
       ·have hlt : ¬ A.1.1.length < d.cons.length := by simpa using h
        rw [if_neg hlt]
        have hobj' := objs_upto t A.2
        simp only [BS.objs] at hobj'
        refine awp_skip ?_
        simp -dsimp only [vend, ne_eq, Nat.reduceEqDiff, reduceCtorEq]
        first | refine zg1 ?_ | refine zg0 ?_ | refine zg2 ?_ | refine zg3 ?_
        simp -dsimp only [simprocAttr, ↓vpre, zpm]
        refine ⟨by omega, by omega, ?_⟩
        refine at_intro ?_
        simp -dsimp only [vend, ne_eq, Nat.reduceEqDiff, reduceCtorEq]
        refine awp_freeze1 8 3 (.ip none (MTree.enc ⟨2, 0, q, A.1.1, [], A.1.2 ++ [-1]⟩).cells) rfl (by simp [AObj.isSpare]) trivial rfl ?_ ?_
        rotate_left
        simp -dsimp only [simprocAttr, ↓vpre, zpm]
        ·have hadd := madd_spec (cmT t) (cmT_upto t 2) A.2 ⟨2, 0, q, A.1.1, [], A.1.2 ++ [-1]⟩ (PreS.outs hst)
         have hret := objs_upto t ((A.2).add ⟨2, 0, q, A.1.1, [], A.1.2 ++ [-1]⟩).2
         generalize hZ : BS.add A.2 ⟨2, 0, q, A.1.1, [], A.1.2 ++ [-1]⟩ = Z at hadd hret
         simp only [BS.objs] at hadd hret
         first | refine zg1 ?_ | refine zg0 ?_ | refine zg2 ?_ | refine zg3 ?_
         simp -dsimp only [simprocAttr, ↓vpre, zpm]
         refine .inr (.inl ⟨_, _, ECall.frame hadd rfl (by simp [uptoL, AVal.upto, MTree.enc_upto]) hobj' [.gone, .gone, .spare A.1.1.length, .spare (A.1.2.length + 1)], .inr ⟨_, _, keep_frame (O := [_, _]) (O' := [_, _]) (X := [.gone, .gone, .spare A.1.1.length, .spare (A.1.2.length + 1)]) rfl, later_intro ?_⟩⟩)
         simp -dsimp only [simprocAttr, ↓vpre, zpm]
         refine at_intro ?_
         simp -dsimp only [vend, ne_eq, Nat.reduceEqDiff, reduceCtorEq]
         refine awp_ret ?_
         simp -dsimp only [simprocAttr, ↓vpre, zpm, RetTo, Try.results31, retVals, retVal, mkRet, AVal.upto, Nat.zero_le, Nat.le_refl, seqPost_ret, blockPost_ret, loopPost_ret, hZ]
         exact hret
        ·exact FSub.mp rfl (by rw [List.drop_zero]; simp only [MTree.enc_cells, List.map_append]; rfl)
  ·exact FSub.mp rfl rfl

end Go.Proofs.Ytakdmelemfnmdaa
end

section
/-
  What the nodes that were built stand for.
-/
set_option linter.unusedVariables false
namespace Go.Proofs.Ytakdmelemfnmdaa

inductive All2 {α β : Type} (R : α → β → Prop) : List α → List β → Prop
  | nil : All2 R [] []
  | cons {a : α} {b : β} {l : List α} {m : List β} (h : R a b) (k : All2 R l m) : All2 R (a :: l) (b :: m)

def nodeAt (L : List MTree) (i : Int) : Option MTree := if 0 ≤ i then L[i.toNat]? else none

theorem nodeAt_nat (L : List MTree) (k : Nat) : nodeAt L k = L[k]? := by
  simp [nodeAt]

theorem nodeAt_mono {L L' : List MTree} (h : L <+: L') {i : Int} {t : MTree} (k : nodeAt L i = some t) : nodeAt L' i = some t := by
  unfold nodeAt at k ⊢
  split at k
  · rename_i h0
    rw [if_pos h0]
    obtain ⟨X, rfl⟩ := h
    rw [List.getElem?_append_left (List.getElem?_eq_some_iff.1 k).1]
    exact k
  · cases k

theorem nodeAt_lt {L : List MTree} {i : Int} {t : MTree} (k : nodeAt L i = some t) : 0 ≤ i ∧ i < L.length := by
  unfold nodeAt at k
  split at k
  · rename_i h0
    have := (List.getElem?_eq_some_iff.1 k).1
    exact ⟨h0, by omega⟩
  · cases k

/-- A node is of a form that Check accepts. -/
def NodeOK (t : Tbl) (u : MTree) : Prop := u.kids.length ≤ 1000 ∧ (∀ x ∈ u.path, 0 ≤ x) ∧
  ((u.kind = 0 ∧ u.row = 0 ∧ u.path = [] ∧ u.names = [] ∧ u.words = [] ∧ u.kids = []) ∨
  (u.kind = 1 ∧ 0 ≤ u.row ∧ u.path = [] ∧ u.names = [] ∧ u.words = [] ∧ u.kids = []) ∨
  (u.kind = 2 ∧ u.row = 0 ∧ u.words = [] ∧ u.path ≠ [] ∧ u.kids.length = u.names.length + 1 ∧ u.names ≠ [] ∧ u.names.Nodup ∧ ∃ i d, t.datas[i]? = some d ∧ (∀ s ∈ u.names, ∃ K, find t.cons s = some K ∧ K.data = i) ∧ ∀ (n : Nat) x, u.kids[n]? = some x → -1 ≤ x ∧ (x = -1 ↔ n = u.names.length ∧ u.names.length = d.cons.length)) ∨
  (u.kind = 3 ∧ u.row = 0 ∧ u.names = [] ∧ u.path ≠ [] ∧ u.kids.length = u.words.length + 1 ∧ u.words.Nodup ∧ (∀ w ∈ u.words, -1073741824 ≤ w ∧ w ≤ 1073741823) ∧ ∀ x ∈ u.kids, 0 ≤ x))

/-- Children precede their parents; no path is long; all nodes are of a good form. -/
def ValidL (t : Tbl) (L : List MTree) : Prop := ∀ (i : Nat) u, L[i]? = some u → (∀ y ∈ u.kids, y < i) ∧ u.path.length ≤ 2 ^ 19 ∧ NodeOK t u

theorem ValidL.add {tb : Tbl} {s : BS} {t : MTree} (h : ValidL tb s.outs) (ht : ∀ y ∈ t.kids, y < s.outs.length) (hpl : t.path.length ≤ 2 ^ 19 ∧ NodeOK tb t) : ValidL tb (s.add t).2.outs := by
  rcases s.add_spec t with ⟨_, e, _⟩ | ⟨_, e, _⟩
  · rw [e]
    exact h
  · rw [e]
    intro i u hu
    simp only at hu
    rw [List.getElem?_append] at hu
    split at hu
    · exact h i u hu
    · rename_i hi
      have hz : i - s.outs.length = 0 := by
        have := (List.getElem?_eq_some_iff.1 hu).1
        simp at this
        omega
      rw [hz] at hu
      simp only [List.getElem?_cons_zero, Option.some.injEq] at hu
      subst hu
      refine ⟨fun y hy => ?_, hpl⟩
      have := ht y hy
      omega

/-- The words of a column, each once. -/
def wordsOf (c : Nat) : List Int → List MRow → List Int
  | acc, [] => acc
  | acc, r :: rs => match r.pats[c]? with
    | none => wordsOf c acc rs
    | some p => if p.free || decide (p.n ∈ acc) then wordsOf c acc rs else wordsOf c (acc ++ [p.n]) rs

/-- The constructors that a column asks for. -/
def consOf (c : Nat) (rows : List MRow) (l : List Con) : List Con := l.filter fun k => rows.any (MRow.has c fun p => decide (p.name = k.name))

abbrev MRep := List MRow → List (List Int) → List MTree → Int → Prop

def RepW (f : MRep) (rows : List MRow) (paths : List (List Int)) (c : Nat) (L : List MTree) (i : Int) : Prop :=
  ∃ ks o, nodeAt L i = some ⟨3, 0, paths[c]?.getD [], [], wordsOf c [] rows, ks ++ [o]⟩ ∧ All2 (fun w k => f (mnarrow c (fun q => decide (q.n = w)) 0 rows) (belowM paths c 0) L k) (wordsOf c [] rows) ks ∧ f (mnarrow c (fun _ => false) 0 rows) (belowM paths c 0) L o

def RepC (f : MRep) (d : Data) (rows : List MRow) (paths : List (List Int)) (c : Nat) (L : List MTree) (i : Int) : Prop :=
  ∃ ks o, nodeAt L i = some ⟨2, 0, paths[c]?.getD [], (consOf c rows d.cons).map Con.name, [], ks ++ [o]⟩ ∧ All2 (fun (x : Con) k => f (mnarrow c (fun p => decide (p.name = x.name)) x.args.length rows) (belowM paths c x.args.length) L k) (consOf c rows d.cons) ks ∧
    if (consOf c rows d.cons).length < d.cons.length then f (mnarrow c (fun _ => false) 0 rows) (belowM paths c 0) L o else o = -1

/-- A node stands for rows at places. -/
def RepM (look : ByteArray → Option Data) : Nat → MRep
  | 0 => fun _ _ _ _ => False
  | fu + 1 => fun rows paths L i =>
    match rows with
    | [] => nodeAt L i = some mfail
    | r0 :: _ => match r0.pats.findIdx? (fun p => !p.free) with
      | none => nodeAt L i = some ⟨1, r0.ix, [], [], [], []⟩
      | some c => match r0.pats[c]? with
        | none => False
        | some p => if p.kind = 2 then RepW (RepM look fu) rows paths c L i
          else match look p.name with
            | none => False
            | some d => RepC (RepM look fu) d rows paths c L i

def MRep.Mono (f : MRep) : Prop := ∀ rows paths L L' i, L <+: L' → f rows paths L i → f rows paths L' i

theorem forall2_imp {α β : Type} {R S : α → β → Prop} (h : ∀ a b, R a b → S a b) : ∀ {l : List α} {m : List β}, All2 R l m → All2 S l m
  | _, _, .nil => .nil
  | _, _, .cons a b => .cons (h _ _ a) (forall2_imp h b)

theorem forall2_append {α β : Type} {R : α → β → Prop} : ∀ {l l' : List α} {m m' : List β}, All2 R l m → All2 R l' m' → All2 R (l ++ l') (m ++ m')
  | _, _, _, _, .nil, k => k
  | _, _, _, _, .cons a b, k => .cons a (forall2_append b k)

theorem forall2_len {α β : Type} {R : α → β → Prop} : ∀ {l : List α} {m : List β}, All2 R l m → l.length = m.length
  | _, _, .nil => rfl
  | _, _, .cons _ b => by simp [forall2_len b]

theorem forall2_right {α β : Type} {R : α → β → Prop} : ∀ {l : List α} {m : List β}, All2 R l m → ∀ y ∈ m, ∃ x ∈ l, R x y
  | _, _, .nil, y, hy => by cases hy
  | _, _, .cons a b, y, hy => by
    rcases List.mem_cons.1 hy with rfl | hy
    · exact ⟨_, by simp, a⟩
    · obtain ⟨x, hx, r⟩ := forall2_right b y hy
      exact ⟨x, by simp [hx], r⟩

theorem forall2_left {α β : Type} {R : α → β → Prop} : ∀ {l : List α} {m : List β}, All2 R l m → ∀ x ∈ l, ∃ y ∈ m, R x y
  | _, _, .nil, y, hy => by cases hy
  | _, _, .cons a b, y, hy => by
    rcases List.mem_cons.1 hy with rfl | hy
    · exact ⟨_, by simp, a⟩
    · obtain ⟨x, hx, r⟩ := forall2_left b y hy
      exact ⟨x, by simp [hx], r⟩

theorem RepM.mono (look : ByteArray → Option Data) : ∀ fu, (RepM look fu).Mono
  | 0 => fun _ _ _ _ _ _ h => h
  | fu + 1 => fun rows paths L L' i hp h => by
    have ih := RepM.mono look fu
    unfold RepM at h ⊢
    split at h
    · exact nodeAt_mono hp h
    · split at h
      · exact nodeAt_mono hp h
      · split at h
        · exact h
        · split at h
          · rename_i h2
            rw [if_pos h2]
            obtain ⟨ks, o, h1, h2, h3⟩ := h
            exact ⟨ks, o, nodeAt_mono hp h1, forall2_imp (fun _ _ q => ih _ _ _ _ _ hp q) h2, ih _ _ _ _ _ hp h3⟩
          · rename_i h2
            rw [if_neg h2]
            split at h
            · exact h
            · obtain ⟨ks, o, h1, h2, h3⟩ := h
              refine ⟨ks, o, nodeAt_mono hp h1, forall2_imp (fun _ _ q => ih _ _ _ _ _ hp q) h2, ?_⟩
              split
              · rename_i h4
                rw [if_pos h4] at h3
                exact ih _ _ _ _ _ hp h3
              · rename_i h4
                rw [if_neg h4] at h3
                exact h3

/-- A node that stands for something is there. -/
theorem RepM.lt {look : ByteArray → Option Data} {fu : Nat} {rows : List MRow} {paths : List (List Int)} {L : List MTree} {i : Int} (h : RepM look fu rows paths L i) : 0 ≤ i ∧ i < L.length := by
  cases fu with
  | zero => exact h.elim
  | succ fu =>
    unfold RepM at h
    split at h
    · exact nodeAt_lt h
    · split at h
      · exact nodeAt_lt h
      · split at h
        · exact h.elim
        · split at h
          · obtain ⟨_, _, h, _⟩ := h
            exact nodeAt_lt h
          · split at h
            · exact h.elim
            · obtain ⟨_, _, h, _⟩ := h
              exact nodeAt_lt h

theorem not_full {s s' : BS} (h : s.full = decide (4096 < s.many)) (h' : s'.full = decide (4096 < s'.many)) (hle : s.many ≤ s'.many) (hf : s'.full = false) : s.full = false := by
  rw [h'] at hf
  rw [h]
  have := of_decide_eq_false hf
  exact decide_eq_false (by omega)

/-- What a call builds. -/
def Builds (t : Tbl) (f : MRec) (G : List MTree → Int → Prop) (rows : List MRow) (paths : List (List Int)) : Prop := ∀ s : BS, s.full = decide (4096 < s.many) → (f rows paths s).2.full = false → ValidL t s.outs → ValidL t (f rows paths s).2.outs ∧ G (f rows paths s).2.outs (f rows paths s).1

theorem words_rep {t : Tbl} {f : MRec} {B : Nat} (hf : RecMoves f B) {rows : List MRow} (h64 : rows.length ≤ 64) {paths : List (List Int)} {c : Nat} {G : Int → List MTree → Int → Prop} (hG : ∀ n L L' i, L <+: L' → G n L i → G n L' i) (hb : ∀ n, Builds t f (G n) (mnarrow c (fun q => decide (q.n = n)) 0 rows) (belowM paths c 0)) :
    ∀ (l : List MRow) (a : (List Int × List Int) × BS), a.2.full = decide (4096 < a.2.many) → (l.foldl (wordStep f rows paths c) a).2.full = false → ValidL t a.2.outs → All2 (fun w k => G w a.2.outs k) a.1.1 a.1.2 →
    (l.foldl (wordStep f rows paths c) a).1.1 = wordsOf c a.1.1 l ∧ All2 (fun w k => G w (l.foldl (wordStep f rows paths c) a).2.outs k) (l.foldl (wordStep f rows paths c) a).1.1 (l.foldl (wordStep f rows paths c) a).1.2 ∧ ValidL t (l.foldl (wordStep f rows paths c) a).2.outs
  | [], a, _, _, hv, hg => ⟨rfl, hg, hv⟩
  | r :: l, a, hfl, hnf, hv, hg => by
    rw [List.foldl_cons] at hnf ⊢
    have key : wordStep f rows paths c a r = a ∧ wordsOf c a.1.1 (r :: l) = wordsOf c a.1.1 l ∨ ∃ n, wordStep f rows paths c a r = ((a.1.1 ++ [n], a.1.2 ++ [(f (mnarrow c (fun q => decide (q.n = n)) 0 rows) (belowM paths c 0) a.2).1]), (f (mnarrow c (fun q => decide (q.n = n)) 0 rows) (belowM paths c 0) a.2).2) ∧ wordsOf c a.1.1 (r :: l) = wordsOf c (a.1.1 ++ [n]) l := by
      unfold wordStep
      rw [wordsOf]
      cases hp : r.pats[c]? with
      | none => exact .inl ⟨rfl, rfl⟩
      | some p =>
        simp only
        by_cases hc : (p.free || decide (p.n ∈ a.1.1)) = true
        · rw [if_pos hc, if_pos hc]
          exact .inl ⟨rfl, rfl⟩
        · rw [if_neg hc, if_neg hc]
          exact .inr ⟨p.n, rfl, rfl⟩
    rcases key with ⟨e1, e2⟩ | ⟨n, e1, e2⟩
    · rw [e1] at hnf ⊢
      rw [e2]
      exact words_rep hf h64 hG hb l a hfl hnf hv hg
    · have hm := hf (mnarrow c (fun q => decide (q.n = n)) 0 rows) (belowM paths c 0) a.2 (Nat.le_trans (mnarrow_len _ _ _ _) h64) hfl
      rw [e1] at hnf ⊢
      rw [e2]
      have hk := words_moves hf h64 (paths := paths) (c := c) l ((a.1.1 ++ [n], a.1.2 ++ [(f (mnarrow c (fun q => decide (q.n = n)) 0 rows) (belowM paths c 0) a.2).1]), (f (mnarrow c (fun q => decide (q.n = n)) 0 rows) (belowM paths c 0) a.2).2) _ 0 (MovesK.start hm.full B)
      obtain ⟨hv', hg'⟩ := hb n a.2 hfl (not_full hm.full hk.full hk.le hnf) hv
      refine words_rep hf h64 hG hb l _ hm.full hnf hv' (forall2_append (forall2_imp (fun w k q => hG _ _ _ _ hm.pre q) hg) (.cons hg' .nil))

theorem cons_rep {t : Tbl} {f : MRec} {B : Nat} (hf : RecMoves f B) {rows : List MRow} (h64 : rows.length ≤ 64) {paths : List (List Int)} {c : Nat} {G : Con → List MTree → Int → Prop} (hG : ∀ n L L' i, L <+: L' → G n L i → G n L' i) :
    ∀ (l : List Con) (a : (List ByteArray × List Int) × BS), (∀ k ∈ l, rows.any (MRow.has c fun p => decide (p.name = k.name)) = true → Builds t f (G k) (mnarrow c (fun p => decide (p.name = k.name)) k.args.length rows) (belowM paths c k.args.length)) →
    a.2.full = decide (4096 < a.2.many) → (l.foldl (conStep f rows paths c) a).2.full = false → ValidL t a.2.outs →
    (l.foldl (conStep f rows paths c) a).1.1 = a.1.1 ++ (consOf c rows l).map Con.name ∧ ValidL t (l.foldl (conStep f rows paths c) a).2.outs ∧ ∃ ks, (l.foldl (conStep f rows paths c) a).1.2 = a.1.2 ++ ks ∧ All2 (fun x k => G x (l.foldl (conStep f rows paths c) a).2.outs k) (consOf c rows l) ks
  | [], a, _, _, _, hv => ⟨by simp [consOf], hv, [], by simp, .nil⟩
  | x :: l, a, hb, hfl, hnf, hv => by
    rw [List.foldl_cons] at hnf ⊢
    by_cases hany : rows.any (MRow.has c fun p => decide (p.name = x.name)) = true
    · have e1 : conStep f rows paths c a x = ((a.1.1 ++ [x.name], a.1.2 ++ [(f (mnarrow c (fun p => decide (p.name = x.name)) x.args.length rows) (belowM paths c x.args.length) a.2).1]), (f (mnarrow c (fun p => decide (p.name = x.name)) x.args.length rows) (belowM paths c x.args.length) a.2).2) := by
        unfold conStep
        rw [if_pos hany]
      have e2 : consOf c rows (x :: l) = x :: consOf c rows l := by
        unfold consOf
        rw [List.filter_cons, if_pos hany]
      have hm := hf (mnarrow c (fun p => decide (p.name = x.name)) x.args.length rows) (belowM paths c x.args.length) a.2 (Nat.le_trans (mnarrow_len _ _ _ _) h64) hfl
      rw [e1] at hnf ⊢
      rw [e2]
      have hk := cons_moves hf h64 (paths := paths) (c := c) l ((a.1.1 ++ [x.name], a.1.2 ++ [(f (mnarrow c (fun p => decide (p.name = x.name)) x.args.length rows) (belowM paths c x.args.length) a.2).1]), (f (mnarrow c (fun p => decide (p.name = x.name)) x.args.length rows) (belowM paths c x.args.length) a.2).2) _ 0 (MovesK.start hm.full B)
      obtain ⟨hv', hg'⟩ := hb x (by simp) hany a.2 hfl (not_full hm.full hk.full hk.le hnf) hv
      obtain ⟨i1, i2, ks, i3, i4⟩ := cons_rep hf h64 hG l _ (fun k hk => hb k (by simp [hk])) hm.full hnf hv'
      refine ⟨by rw [i1]; simp, i2, _ :: ks, by rw [i3]; simp, .cons (hG _ _ _ _ hk.pre hg') i4⟩
    · have e1 : conStep f rows paths c a x = a := by
        unfold conStep
        rw [if_neg hany]
      have e2 : consOf c rows (x :: l) = consOf c rows l := by
        unfold consOf
        rw [List.filter_cons, if_neg hany]
      rw [e1] at hnf ⊢
      rw [e2]
      exact cons_rep hf h64 hG l a (fun k hk => hb k (by simp [hk])) hfl hnf hv

theorem add_rep {tb : Tbl} {s : BS} (hv : ValidL tb s.outs) {t : MTree} (ht : ∀ y ∈ t.kids, y < s.outs.length) (hpl : t.path.length ≤ 2 ^ 19 ∧ NodeOK tb t) : ValidL tb (s.add t).2.outs ∧ nodeAt (s.add t).2.outs (s.add t).1 = some t := by
  refine ⟨hv.add ht hpl, ?_⟩
  obtain ⟨k, h1, h2⟩ := s.add_get t
  rw [h1, nodeAt_nat]
  exact h2

theorem findIdx_some {α : Type} {f : α → Bool} {l : List α} {c : Nat} (h : l.findIdx? f = some c) : ∃ p, l[c]? = some p ∧ f p = true ∧ ∀ j q, j < c → l[j]? = some q → f q = false := by
  rw [List.findIdx?_eq_some_iff_getElem] at h
  obtain ⟨hlt, h1, h2⟩ := h
  refine ⟨l[c], by simp [hlt], h1, fun j q hj hq => ?_⟩
  obtain ⟨hlt', e⟩ := List.getElem?_eq_some_iff.1 hq
  have := h2 j hj
  rw [e] at this
  simpa using this

theorem wordsOf_mem {c : Nat} : ∀ {rows : List MRow} {acc : List Int} {n : Int}, n ∈ wordsOf c acc rows ↔ n ∈ acc ∨ ∃ r ∈ rows, ∃ p, r.pats[c]? = some p ∧ p.free = false ∧ p.n = n
  | [], acc, n => by simp [wordsOf]
  | r :: rs, acc, n => by
    rw [wordsOf]
    cases hp : r.pats[c]? with
    | none =>
      simp only
      rw [wordsOf_mem]
      simp [hp]
    | some p =>
      simp only
      split
      · rename_i h
        rw [wordsOf_mem]
        constructor
        · rintro (h | ⟨x, hx, q⟩)
          · exact .inl h
          · exact .inr ⟨x, by simp [hx], q⟩
        · rintro (h' | ⟨x, hx, q, h1, h2, h3⟩)
          · exact .inl h'
          · rcases List.mem_cons.1 hx with rfl | hx
            · rw [hp] at h1
              cases h1
              simp only [Bool.or_eq_true, h2, decide_eq_true_eq, Bool.false_eq_true, false_or] at h
              exact .inl (h3 ▸ h)
            · exact .inr ⟨x, hx, q, h1, h2, h3⟩
      · rename_i h
        simp only [Bool.or_eq_true, not_or, Bool.not_eq_true] at h
        rw [wordsOf_mem]
        constructor
        · rintro (h' | ⟨x, hx, q⟩)
          · rcases List.mem_append.1 h' with h' | h'
            · exact .inl h'
            · exact .inr ⟨r, by simp, p, hp, h.1, (List.mem_singleton.1 h').symm⟩
          · exact .inr ⟨x, by simp [hx], q⟩
        · rintro (h' | ⟨x, hx, q, h1, h2, h3⟩)
          · exact .inl (by simp [h'])
          · rcases List.mem_cons.1 hx with rfl | hx
            · rw [hp] at h1
              cases h1
              exact .inl (by simp [h3])
            · exact .inr ⟨x, hx, q, h1, h2, h3⟩

theorem wordsOf_nodup {c : Nat} : ∀ (rows : List MRow) (acc : List Int), acc.Nodup → (wordsOf c acc rows).Nodup
  | [], acc, h => h
  | r :: rs, acc, h => by
    rw [wordsOf]
    split
    · exact wordsOf_nodup rs acc h
    · split
      · exact wordsOf_nodup rs acc h
      · rename_i p _ hc
        simp only [Bool.or_eq_true, not_or, Bool.not_eq_true, decide_eq_true_eq] at hc
        refine wordsOf_nodup rs _ ?_
        rw [List.nodup_append]
        refine ⟨h, by simp, fun x hx y hy e => ?_⟩
        rw [List.mem_singleton.1 hy] at e
        exact hc.2 (e ▸ hx)

theorem fail_ok (t : Tbl) : NodeOK t mfail := ⟨by simp [mfail], by simp [mfail], .inl ⟨rfl, rfl, rfl, rfl, rfl, rfl⟩⟩

theorem row_ok (t : Tbl) {z : Int} (h : 0 ≤ z) : NodeOK t ⟨1, z, [], [], [], []⟩ := ⟨by simp, by simp, .inr (.inl ⟨rfl, h, rfl, rfl, rfl, rfl⟩)⟩

theorem wordsOf_len {c : Nat} : ∀ (rows : List MRow) (acc : List Int), (wordsOf c acc rows).length ≤ acc.length + rows.length
  | [], acc => Nat.le_refl _
  | r :: rs, acc => by
    have h1 := wordsOf_len (c := c) rs acc
    rw [wordsOf, List.length_cons]
    split
    · omega
    · split
      · omega
      · rename_i p _ _
        have h2 := wordsOf_len (c := c) rs (acc ++ [p.n])
        simp only [List.length_append, List.length_singleton] at h2
        omega

theorem words_ok {t : Tbl} {rows : List MRow} {paths : List (List Int)} {tys : List Ty} (hpre : Pre t rows paths tys) {c : Nat} (hc : tys[c]? = some .int) {q : List Int} (hq : paths[c]? = some q) {ks : List Int} (hl : ks.length = (wordsOf c [] rows).length) (hks : ∀ y ∈ ks, 0 ≤ y) {o : Int} (ho : 0 ≤ o) : NodeOK t ⟨3, 0, q, [], wordsOf c [] rows, ks ++ [o]⟩ := by
  have hm := List.mem_of_getElem? hq
  have hwl := wordsOf_len (c := c) rows []
  have h64 := hpre.m.len
  refine ⟨by simp only [List.length_append, List.length_singleton, List.length_nil] at hwl ⊢; omega, hpre.pos q hm, .inr (.inr (.inr ⟨rfl, rfl, rfl, (hpre.places q hm).1, by simp [hl], wordsOf_nodup _ _ .nil, fun w hw => ?_, fun x hx => ?_⟩))⟩
  · rcases wordsOf_mem.1 hw with h | ⟨r, hr, p, hp, hfr, rfl⟩
    · cases h
    · refine pattern_int (hpre.m.ok r hr p (List.mem_of_getElem? hp)) ?_
      rcases ((hpre.m.typed r hr).parts hc hp).2.1.kind hfr with ⟨k2, _⟩ | ⟨_, _, _, _, e, _⟩
      · exact k2
      · cases e
  · rcases List.mem_append.1 hx with hx | hx
    · exact hks x hx
    · rw [List.mem_singleton.1 hx]
      exact ho

theorem cons_ok {t : Tbl} {rows : List MRow} {paths : List (List Int)} {tys : List Ty} (hpre : Pre t rows paths tys) {c i : Nat} {d : Data} (hd : t.datas[i]? = some d) (hne : consOf c rows d.cons ≠ []) {q : List Int} (hq : paths[c]? = some q) {ks : List Int} (hl : ks.length = (consOf c rows d.cons).length) (hks : ∀ y ∈ ks, 0 ≤ y) {o : Int}
    (h256 : d.cons.length ≤ 256) (ho : ((consOf c rows d.cons).length < d.cons.length ∧ 0 ≤ o) ∨ (¬ (consOf c rows d.cons).length < d.cons.length ∧ o = -1)) : NodeOK t ⟨2, 0, q, (consOf c rows d.cons).map Con.name, [], ks ++ [o]⟩ := by
  have hm := List.mem_of_getElem? hq
  have hle : (consOf c rows d.cons).length ≤ d.cons.length := List.length_filter_le _ _
  refine ⟨by simp only [List.length_append, List.length_singleton]; omega, hpre.pos q hm, .inr (.inr (.inl ⟨rfl, rfl, rfl, (hpre.places q hm).1, by simp [hl], by simpa using hne, ?_, i, d, hd, fun s hs => ?_, fun n x hx => ?_⟩))⟩
  · have hsub : ((consOf c rows d.cons).map Con.name).Sublist (d.cons.map Con.name) := List.Sublist.map _ (List.filter_sublist)
    exact hsub.nodup (hpre.m.nodup d (List.mem_of_getElem? hd))
  · obtain ⟨x, hx, rfl⟩ := List.mem_map.1 hs
    obtain ⟨K, h1, h2, _⟩ := hpre.m.tbl.uniq i d x hd (List.mem_filter.1 hx).1
    exact ⟨K, h1, h2⟩
  · simp only [List.length_map]
    rw [List.getElem?_append] at hx
    split at hx
    · rename_i hlt
      have := hks x (List.mem_of_getElem? hx)
      exact ⟨by omega, fun e => by omega, fun e => by omega⟩
    · rename_i hlt
      have hn0 : n - ks.length = 0 := by
        have := (List.getElem?_eq_some_iff.1 hx).1
        simp at this
        omega
      rw [hn0] at hx
      simp only [List.getElem?_cons_zero, Option.some.injEq] at hx
      subst hx
      rcases ho with ⟨h1, h2⟩ | ⟨h1, h2⟩
      · exact ⟨by omega, fun e => by omega, fun e => by omega⟩
      · exact ⟨by omega, fun _ => by omega, fun _ => h2⟩

theorem buildM_rep {t : Tbl} (hl : ∀ s d, lookT t s = some d → d.cons.length ≤ 256) : ∀ (fu : Nat) (rows : List MRow) (paths : List (List Int)) (tys : List Ty), Pre t rows paths tys → cntM rows < fu → Builds t (buildM (lookT t) fu) (fun L i => RepM (lookT t) fu rows paths L i) rows paths
  | 0, _, _, _, _, h => by omega
  | fu + 1, rows, paths, tys, hpre, hcnt => fun s hfl hnf hv => by
    have ih := buildM_rep hl fu
    have hmono := RepM.mono (lookT t) fu
    have hmv := buildM_moves hl fu
    cases rows with
    | nil =>
      have e : buildM (lookT t) (fu + 1) [] paths s = s.count.add mfail := by
        unfold buildM
        rfl
      rw [e]
      have := add_rep (s := s.count) (t := mfail) hv (fun y hy => by cases hy) ⟨by simp [mfail], fail_ok t⟩
      exact ⟨this.1, by unfold RepM; exact this.2⟩
    | cons r0 rs =>
      have hmvs := buildM_moves hl (fu + 1) (r0 :: rs) paths s hpre.m.len hfl
      have hnc : s.count.full = false := by
        by_cases hq : s.count.full = true
        · have e : buildM (lookT t) (fu + 1) (r0 :: rs) paths s = s.count.add mfail := by
            unfold buildM
            simp only [hq, if_true]
          rw [e, (s.count.add_many _).2, hq] at hnf
          cases hnf
        · simpa using hq
      cases hi : r0.pats.findIdx? (fun p => !p.free) with
      | none =>
        have e : buildM (lookT t) (fu + 1) (r0 :: rs) paths s = s.count.add ⟨1, r0.ix, [], [], [], []⟩ := by
          unfold buildM
          simp only [hnc, hi, Bool.false_eq_true, if_false]
        rw [e]
        have := add_rep (s := s.count) (t := ⟨1, r0.ix, [], [], [], []⟩) hv (fun y hy => by cases hy) ⟨by simp, row_ok t (hpre.m.ix r0 (by simp))⟩
        refine ⟨this.1, ?_⟩
        unfold RepM
        simp only [hi]
        exact this.2
      | some c =>
        obtain ⟨p, hp, hfr, _⟩ := findIdx_some hi
        have hfr : p.free = false := by simpa using hfr
        obtain ⟨ty, hc, ha, hk⟩ := hpre.column (r := r0) (by simp) hp hfr
        have h64 := hpre.m.len
        have hpath : (paths[c]?.getD []).length ≤ 2 ^ 19 := by
          cases hq : paths[c]? with
          | none => simp
          | some q =>
            have := (hpre.places q (List.mem_of_getElem? hq)).2
            rw [Option.getD_some]
            omega
        have hoth := hpre.other hc ha
        obtain ⟨q0, hq0⟩ : ∃ q, paths[c]? = some q := ⟨paths[c]'(by rw [hpre.len]; exact (List.getElem?_eq_some_iff.1 hc).1), by simp⟩
        have hother := ih _ _ _ hoth.1 (by have := hoth.2; omega)
        rcases hk with ⟨k2, e2⟩ | ⟨k3, i, F, d, K, e3, hf, hK, hd, hlook⟩
        · subst e2
          have e : buildM (lookT t) (fu + 1) (r0 :: rs) paths s = wordsM (buildM (lookT t) fu) (r0 :: rs) paths c s.count := by
            conv => lhs; unfold buildM
            simp only [hnc, hi, hp, k2, Bool.false_eq_true, if_false, if_true]
          rw [e] at hnf ⊢
          have e' : ∀ L i, RepM (lookT t) (fu + 1) (r0 :: rs) paths L i = RepW (RepM (lookT t) fu) (r0 :: rs) paths c L i := fun L i => by
            conv => lhs; unfold RepM
            simp only [hi, hp, k2, if_true]
          simp only [e']
          unfold wordsM at hnf ⊢
          simp only at hnf ⊢
          have hm1 := words_moves hmv h64 (paths := paths) (c := c) (r0 :: rs) (([], []), s.count) s.count 0 (MovesK.start (BS.count_full hfl) _)
          have hw := words_rep hmv h64 (paths := paths) (c := c) (G := fun n L k => RepM (lookT t) fu (mnarrow c (fun q => decide (q.n = n)) 0 (r0 :: rs)) (belowM paths c 0) L k) (fun n L L' i => hmono _ _ L L' i) (fun n => by
            have := hpre.word hc ha n
            exact ih _ _ _ this.1 (by have := this.2; omega)) (r0 :: rs) (([], []), s.count) (BS.count_full hfl)
          generalize hA : List.foldl (wordStep (buildM (lookT t) fu) (r0 :: rs) paths c) (([], []), s.count) (r0 :: rs) = A at hnf hm1 hw ⊢
          have hm2 := hmv (mnarrow c (fun _ => false) 0 (r0 :: rs)) (belowM paths c 0) A.2 (Nat.le_trans (mnarrow_len _ _ _ _) h64) hm1.full
          rw [(BS.add_many _ _).2] at hnf
          unfold otherM at hnf ⊢
          obtain ⟨w1, w2, w3⟩ := hw (not_full hm1.full hm2.full hm2.le hnf) hv .nil
          obtain ⟨o1, o2⟩ := hother A.2 hm1.full hnf w3
          generalize hO : buildM (lookT t) fu (mnarrow c (fun _ => false) 0 (r0 :: rs)) (belowM paths c 0) A.2 = O at hnf hm2 o1 o2 ⊢
          have w2' := forall2_imp (S := fun w k => RepM (lookT t) fu (mnarrow c (fun q => decide (q.n = w)) 0 (r0 :: rs)) (belowM paths c 0) O.2.outs k) (fun w k q => hmono _ _ _ _ _ hm2.pre q) w2
          have hkids : ∀ y ∈ A.1.2 ++ [O.1], y < O.2.outs.length := fun y hy => by
            rcases List.mem_append.1 hy with hy | hy
            · obtain ⟨w, _, q⟩ := forall2_right w2' y hy
              exact q.lt.2
            · rw [List.mem_singleton.1 hy]
              exact o2.lt.2
          have hnode : NodeOK t ⟨3, 0, paths[c]?.getD [], [], A.1.1, A.1.2 ++ [O.1]⟩ := by
            have hw1 : A.1.1 = wordsOf c [] (r0 :: rs) := w1
            have hl2 := forall2_len w2
            rw [hq0, Option.getD_some, hw1]
            refine words_ok hpre hc hq0 (by rw [← hl2, hw1]) (fun y hy => ?_) o2.lt.1
            obtain ⟨w, _, q⟩ := forall2_right w2' y hy
            exact q.lt.1
          have hadd := add_rep (s := O.2) (t := ⟨3, 0, paths[c]?.getD [], [], A.1.1, A.1.2 ++ [O.1]⟩) o1 hkids ⟨hpath, hnode⟩
          refine ⟨hadd.1, A.1.2, O.1, ?_, ?_, hmono _ _ _ _ _ (BS.add_pre _ _) o2⟩
          · rw [← w1]
            exact hadd.2
          · rw [← w1]
            exact forall2_imp (fun w k q => hmono _ _ _ _ _ (BS.add_pre _ _) q) w2'
        · subst e3
          have k2 : ¬ p.kind = 2 := by omega
          have e : buildM (lookT t) (fu + 1) (r0 :: rs) paths s = consM (buildM (lookT t) fu) d (r0 :: rs) paths c s.count := by
            conv => lhs; unfold buildM
            simp only [hnc, hi, hp, k2, hlook, Bool.false_eq_true, if_false]
          rw [e] at hnf ⊢
          have e' : ∀ L i, RepM (lookT t) (fu + 1) (r0 :: rs) paths L i = RepC (RepM (lookT t) fu) d (r0 :: rs) paths c L i := fun L i => by
            conv => lhs; unfold RepM
            simp only [hi, hp, k2, hlook, if_false]
          simp only [e']
          unfold consM at hnf ⊢
          simp only at hnf ⊢
          have hm1 := cons_moves hmv h64 (paths := paths) (c := c) d.cons (([], []), s.count) s.count 0 (MovesK.start (BS.count_full hfl) _)
          have hw := cons_rep hmv h64 (paths := paths) (c := c) (G := fun x L k => RepM (lookT t) fu (mnarrow c (fun p => decide (p.name = x.name)) x.args.length (r0 :: rs)) (belowM paths c x.args.length) L k) (fun n L L' i => hmono _ _ L L' i) d.cons (([], []), s.count) (fun x hx hany => by
            obtain ⟨_, _, h1, h2⟩ := hpre.con hc hd hx hany
            exact ih _ _ _ h1 (by omega)) (BS.count_full hfl)
          generalize hA : List.foldl (conStep (buildM (lookT t) fu) (r0 :: rs) paths c) (([], []), s.count) d.cons = A at hnf hm1 hw ⊢
          have hm2 := hmv (mnarrow c (fun _ => false) 0 (r0 :: rs)) (belowM paths c 0) A.2 (Nat.le_trans (mnarrow_len _ _ _ _) h64) hm1.full
          have ho := hother A.2 hm1.full
          rw [(BS.add_many _ _).2] at hnf
          unfold otherM at hnf ⊢
          generalize hO : buildM (lookT t) fu (mnarrow c (fun _ => false) 0 (r0 :: rs)) (belowM paths c 0) A.2 = O at hnf hm2 ho ⊢
          have hAnf : A.2.full = false := by
            split at hnf
            · exact not_full hm1.full hm2.full hm2.le hnf
            · exact hnf
          obtain ⟨w1, w3, ks, w4, w2⟩ := hw hAnf hv
          simp only [List.nil_append] at w1 w4
          have hlen : A.1.1.length = (consOf c (r0 :: rs) d.cons).length := by rw [w1, List.length_map]
          have hcne : consOf c (r0 :: rs) d.cons ≠ [] := by
            obtain ⟨d', c', hd', hc', hn', _⟩ := hpre.m.tbl.back _ _ hf
            rw [hK, hd] at hd'
            cases hd'
            refine List.ne_nil_of_mem (List.mem_filter.2 ⟨hc', ?_⟩)
            exact List.any_eq_true.2 ⟨r0, by simp, has_iff.2 ⟨p, hp, hfr, by simp [hn']⟩⟩
          have hl2 := forall2_len w2
          by_cases hlt : A.1.1.length < d.cons.length
          · rw [if_pos hlt] at hnf ⊢
            obtain ⟨o1, o2⟩ := ho hnf w3
            have w2' := forall2_imp (S := fun (x : Con) k => RepM (lookT t) fu (mnarrow c (fun p => decide (p.name = x.name)) x.args.length (r0 :: rs)) (belowM paths c x.args.length) O.2.outs k) (fun w k q => hmono _ _ _ _ _ hm2.pre q) w2
            have hkids : ∀ y ∈ A.1.2 ++ [O.1], y < O.2.outs.length := fun y hy => by
              rcases List.mem_append.1 hy with hy | hy
              · rw [w4] at hy
                obtain ⟨w, _, q⟩ := forall2_right w2' y hy
                exact q.lt.2
              · rw [List.mem_singleton.1 hy]
                exact o2.lt.2
            have hnode : NodeOK t ⟨2, 0, paths[c]?.getD [], A.1.1, [], A.1.2 ++ [O.1]⟩ := by
              rw [hq0, Option.getD_some, w1, w4]
              refine cons_ok hpre hd hcne hq0 hl2.symm (fun y hy => ?_) (hl _ _ hlook) (.inl ⟨by omega, o2.lt.1⟩)
              obtain ⟨w, _, q⟩ := forall2_right w2' y hy
              exact q.lt.1
            have hadd := add_rep (s := O.2) (t := ⟨2, 0, paths[c]?.getD [], A.1.1, [], A.1.2 ++ [O.1]⟩) o1 hkids ⟨hpath, hnode⟩
            refine ⟨hadd.1, ks, O.1, ?_, forall2_imp (fun w k q => hmono _ _ _ _ _ (BS.add_pre _ _) q) w2', ?_⟩
            · rw [← w1, ← w4]
              exact hadd.2
            · rw [if_pos (by omega)]
              exact hmono _ _ _ _ _ (BS.add_pre _ _) o2
          · rw [if_neg hlt] at hnf ⊢
            have hkids : ∀ y ∈ A.1.2 ++ [-1], y < (A.2.outs.length : Int) := fun y hy => by
              rcases List.mem_append.1 hy with hy | hy
              · rw [w4] at hy
                obtain ⟨w, _, q⟩ := forall2_right w2 y hy
                exact q.lt.2
              · rw [List.mem_singleton.1 hy]
                omega
            have hnode : NodeOK t ⟨2, 0, paths[c]?.getD [], A.1.1, [], A.1.2 ++ [-1]⟩ := by
              rw [hq0, Option.getD_some, w1, w4]
              refine cons_ok hpre hd hcne hq0 hl2.symm (fun y hy => ?_) (hl _ _ hlook) (.inr ⟨by omega, rfl⟩)
              obtain ⟨w, _, q⟩ := forall2_right w2 y hy
              exact q.lt.1
            have hadd := add_rep (s := A.2) (t := ⟨2, 0, paths[c]?.getD [], A.1.1, [], A.1.2 ++ [-1]⟩) w3 hkids ⟨hpath, hnode⟩
            refine ⟨hadd.1, ks, -1, ?_, forall2_imp (fun w k q => hmono _ _ _ _ _ (BS.add_pre _ _) q) w2, ?_⟩
            · rw [← w1, ← w4]
              exact hadd.2
            · rw [if_neg (by omega)]

end Go.Proofs.Ytakdmelemfnmdaa
end

section
/-
  The depth of a built tree.
-/
set_option linter.unusedVariables false
namespace Go.Proofs.Ytakdmelemfnmdaa

/-- Nodes behind a node do not matter. -/
theorem RepM.cut {t : Tbl} {look : ByteArray → Option Data} : ∀ (fu : Nat) (rows : List MRow) (paths : List (List Int)) (L : List MTree) (i : Int) (n : Nat), ValidL t L → RepM look fu rows paths L i → i < n → RepM look fu rows paths (L.take n) i
  | 0, _, _, _, _, _, _, h, _ => h
  | fu + 1, rows, paths, L, i, n, hv, h, hn => by
    have ih := RepM.cut (t := t) (look := look) fu
    have hnode : ∀ (i : Int) t, nodeAt L i = some t → i < n → nodeAt (L.take n) i = some t := fun i t hi hn => by
      have h0 := (nodeAt_lt hi).1
      unfold nodeAt at hi ⊢
      rw [if_pos h0] at hi ⊢
      rw [List.getElem?_take, if_pos (by omega)]
      exact hi
    have hkid : ∀ t, nodeAt L i = some t → ∀ y ∈ t.kids, y < n := fun t hi y hy => by
      have h0 := (nodeAt_lt hi).1
      unfold nodeAt at hi
      rw [if_pos h0] at hi
      have := (hv _ _ hi).1 y hy
      omega
    have hall : ∀ {α : Type} (g : α → List MRow) (q : α → List (List Int)) (l : List α) (ks : List Int), All2 (fun x k => RepM look fu (g x) (q x) L k) l ks → (∀ y ∈ ks, y < n) → All2 (fun x k => RepM look fu (g x) (q x) (L.take n) k) l ks := by
      intro α g q l ks h
      induction h with
      | nil => exact fun _ => .nil
      | cons a b ihh => exact fun hk => .cons (ih _ _ _ _ _ hv a (hk _ (by simp))) (ihh fun y hy => hk y (by simp [hy]))
    unfold RepM at h ⊢
    split at h
    · exact hnode _ _ h hn
    · split at h
      · exact hnode _ _ h hn
      · split at h
        · exact h
        · split at h
          · rename_i h2
            rw [if_pos h2]
            obtain ⟨ks, o, h1, h2, h3⟩ := h
            have hk := hkid _ h1
            exact ⟨ks, o, hnode _ _ h1 hn, hall _ _ _ _ h2 fun y hy => hk y (by simp [hy]), ih _ _ _ _ _ hv h3 (hk o (by simp))⟩
          · rename_i h2
            rw [if_neg h2]
            split at h
            · exact h
            · obtain ⟨ks, o, h1, h2, h3⟩ := h
              have hk := hkid _ h1
              refine ⟨ks, o, hnode _ _ h1 hn, hall _ _ _ _ h2 fun y hy => hk y (by simp [hy]), ?_⟩
              split
              · rename_i h4
                rw [if_pos h4] at h3
                exact ih _ _ _ _ _ hv h3 (hk o (by simp))
              · rename_i h4
                rw [if_neg h4] at h3
                exact h3

/-! What Depth computes. -/

def kidMax (acc : List Int) (v : Int) (y : Int) : Int := if 0 ≤ y ∧ y < acc.length then max v ((acc[y.toNat]?).getD 0 + 1) else v

def nodeDeep (acc : List Int) (t : MTree) : Int := if t.kind = 2 ∨ t.kind = 3 then t.kids.foldl (kidMax acc) 1 else 0

def deeps : List Int → List MTree → List Int
  | acc, [] => acc
  | acc, t :: r => deeps (acc ++ [nodeDeep acc t]) r

def depthF (L : List MTree) : Int := ((deeps [] L)[L.length - 1]?).getD 0

theorem deeps_take : ∀ (L : List MTree) (acc : List Int) (k : Nat) (t : MTree), L[k]? = some t → deeps acc (L.take (k + 1)) = deeps acc (L.take k) ++ [nodeDeep (deeps acc (L.take k)) t]
  | [], acc, k, t, h => by simp at h
  | x :: r, acc, 0, t, h => by
    simp only [List.getElem?_cons_zero, Option.some.injEq] at h
    subst h
    simp [deeps]
  | x :: r, acc, k + 1, t, h => by
    simp only [List.getElem?_cons_succ] at h
    simp only [List.take_succ_cons, deeps]
    exact deeps_take r _ k t h

theorem deeps_len : ∀ (L : List MTree) (acc : List Int), (deeps acc L).length = acc.length + L.length
  | [], acc => rfl
  | x :: r, acc => by
    rw [deeps, deeps_len r, List.length_append, List.length_singleton, List.length_cons]
    omega

theorem deeps_pre : ∀ (L : List MTree) (acc : List Int), acc <+: deeps acc L
  | [], acc => List.prefix_refl _
  | x :: r, acc => (List.prefix_append acc _).trans (deeps_pre r _)

theorem deeps_cut (L : List MTree) (k : Nat) : deeps [] (L.take k) <+: deeps [] L := by
  have h : ∀ (a b : List MTree) (acc : List Int), deeps acc (a ++ b) = deeps (deeps acc a) b := fun a => by
    induction a with
    | nil => exact fun b acc => rfl
    | cons x r ih => exact fun b acc => by simp only [List.cons_append, deeps, ih]
  conv => rhs; rw [← List.take_append_drop k L, h]
  exact deeps_pre _ _

/-- The depth of a node is told by the nodes before it. -/
theorem deeps_get {L : List MTree} {k : Nat} {t : MTree} (h : L[k]? = some t) : (deeps [] L)[k]? = some (nodeDeep (deeps [] (L.take k)) t) := by
  obtain ⟨X, e⟩ := deeps_cut L (k + 1)
  rw [deeps_take L [] k t h] at e
  rw [← e, List.append_assoc, List.getElem?_append_right (by rw [deeps_len]; simp; omega)]
  have hk := (List.getElem?_eq_some_iff.1 h).1
  rw [deeps_len]
  simp only [List.length_nil, List.length_take, Nat.zero_add]
  rw [Nat.min_eq_left (by omega), Nat.sub_self]
  rfl

theorem kidMax_le {acc : List Int} {v y d : Int} (hv : v ≤ d) (hy : 0 ≤ y → y < acc.length → (acc[y.toNat]?).getD 0 + 1 ≤ d) : kidMax acc v y ≤ d := by
  unfold kidMax
  split
  · rename_i h
    have := hy h.1 h.2
    omega
  · exact hv

theorem kids_le {acc : List Int} {d : Int} : ∀ (l : List Int) (v : Int), v ≤ d → (∀ y ∈ l, 0 ≤ y → y < acc.length → (acc[y.toNat]?).getD 0 + 1 ≤ d) → l.foldl (kidMax acc) v ≤ d
  | [], v, hv, _ => hv
  | y :: l, v, hv, h => by
    rw [List.foldl_cons]
    exact kids_le l _ (kidMax_le hv (h y (by simp))) fun z hz => h z (by simp [hz])

theorem kids_ge {acc : List Int} : ∀ (l : List Int) (v : Int), v ≤ l.foldl (kidMax acc) v
  | [], v => Int.le_refl _
  | y :: l, v => by
    rw [List.foldl_cons]
    have h1 := kids_ge (acc := acc) l (kidMax acc v y)
    have h2 : v ≤ kidMax acc v y := by
      unfold kidMax
      split <;> omega
    omega

/-- All depths are small. -/
theorem deeps_small : ∀ (L : List MTree) (acc : List Int), (∀ x ∈ acc, 0 ≤ x ∧ x ≤ acc.length) → ∀ x ∈ deeps acc L, 0 ≤ x ∧ x ≤ (deeps acc L).length
  | [], acc, h => h
  | t :: r, acc, h => by
    refine deeps_small r (acc ++ [nodeDeep acc t]) fun x hx => ?_
    rw [List.length_append, List.length_singleton]
    rcases List.mem_append.1 hx with hx | hx
    · have := h x hx
      omega
    · rw [List.mem_singleton.1 hx]
      unfold nodeDeep
      split
      · have h1 := kids_ge (acc := acc) t.kids 1
        have h2 : t.kids.foldl (kidMax acc) 1 ≤ acc.length + 1 := kids_le _ _ (by omega) fun y _ hy0 hy => by
          have hlt : y.toNat < acc.length := by omega
          rw [List.getElem?_eq_getElem hlt, Option.getD_some]
          have := h _ (List.getElem_mem hlt)
          omega
        omega
      · omega

/-- The depth of what stands for rows: at most the number of patterns that ask for something. -/
theorem rep_depth {t : Tbl} {L : List MTree} (hv : ValidL t L) : ∀ (fu : Nat) (rows : List MRow) (paths : List (List Int)) (tys : List Ty) (i : Int), Pre t rows paths tys → RepM (lookT t) fu rows paths L i → ((deeps [] L)[i.toNat]?).getD 0 ≤ cntM rows
  | 0, _, _, _, _, _, h => h.elim
  | fu + 1, rows, paths, tys, i, hpre, h => by
    have ih := rep_depth (t := t) hv fu
    have leaf : ∀ x, nodeAt L i = some x → ¬ (x.kind = 2 ∨ x.kind = 3) → ((deeps [] L)[i.toNat]?).getD 0 ≤ cntM rows := fun x hx hk => by
      have h0 := (nodeAt_lt hx).1
      unfold nodeAt at hx
      rw [if_pos h0] at hx
      rw [deeps_get hx, Option.getD_some, nodeDeep, if_neg hk]
      omega
    have node : ∀ x, nodeAt L i = some x → (x.kind = 2 ∨ x.kind = 3) → 1 ≤ cntM rows → (∀ y ∈ x.kids, 0 ≤ y → ((deeps [] L)[y.toNat]?).getD 0 + 1 ≤ (cntM rows : Int)) → ((deeps [] L)[i.toNat]?).getD 0 ≤ cntM rows := fun x hx hk h1 hkids => by
      have h0 := (nodeAt_lt hx).1
      unfold nodeAt at hx
      rw [if_pos h0] at hx
      rw [deeps_get hx, Option.getD_some, nodeDeep, if_pos hk]
      refine kids_le _ _ (by omega) fun y hy hy0 hy1 => ?_
      have h2 := hkids y hy hy0
      obtain ⟨X, e⟩ := deeps_cut L i.toNat
      rw [← e, List.getElem?_append_left (by omega)] at h2
      exact h2
    unfold RepM at h
    split at h
    · exact leaf _ h (by decide)
    · rename_i r0 rs
      split at h
      · exact leaf _ h (by simp)
      · rename_i c hi
        obtain ⟨p, hp, hfr, _⟩ := findIdx_some hi
        have hfr : p.free = false := by simpa using hfr
        obtain ⟨ty, hc, ha, hk⟩ := hpre.column (r := r0) (by simp) hp hfr
        have hoth := hpre.other hc ha
        rw [hp] at h
        simp only at h
        rcases hk with ⟨k2, e2⟩ | ⟨k3, j, F, d, K, e3, hf, hK, hd, hlook⟩
        · subst e2
          rw [if_pos k2] at h
          obtain ⟨ks, o, h1, h2, h3⟩ := h
          refine node _ h1 (.inr rfl) (by have := hoth.2; omega) fun y hy _ => ?_
          rcases List.mem_append.1 hy with hy | hy
          · obtain ⟨w, _, q⟩ := forall2_right h2 y hy
            have hw := hpre.word hc ha w
            have := ih _ _ _ _ hw.1 q
            have := hw.2
            omega
          · rw [List.mem_singleton.1 hy]
            have := ih _ _ _ _ hoth.1 h3
            have := hoth.2
            omega
        · subst e3
          rw [if_neg (by omega), hlook] at h
          obtain ⟨ks, o, h1, h2, h3⟩ := h
          refine node _ h1 (.inl rfl) (by have := hoth.2; omega) fun y hy hy0 => ?_
          rcases List.mem_append.1 hy with hy | hy
          · obtain ⟨x, hx, q⟩ := forall2_right h2 y hy
            obtain ⟨hx1, hx2⟩ := List.mem_filter.1 hx
            obtain ⟨_, _, hq1, hq2⟩ := hpre.con hc hd hx1 hx2
            have := ih _ _ _ _ hq1 q
            omega
          · have hyo := List.mem_singleton.1 hy
            subst hyo
            split at h3
            · have := ih _ _ _ _ hoth.1 h3
              have := hoth.2
              omega
            · omega

end Go.Proofs.Ytakdmelemfnmdaa
end

section
/-
  The laws of patterns, on trees.
-/
set_option linter.unusedVariables false
namespace Go.Proofs.Ytakdmelemfnmdaa

/-! What small means. -/

/-- Not too deep. -/
def dOK : Nat → List Pat → Bool
  | 0, l => l.isEmpty
  | d + 1, l => l.all fun p => dOK d p.args

theorem sizeGo_iff {f : List Pat → Nat → Bool × Nat} {g : List Pat → Bool} (hn : ∀ l m m2, f l m = (true, m2) → m2 = m + nodesL l) (hf : ∀ l m, m ≤ 400 → ((f l m).1 = true ↔ g l = true ∧ m + nodesL l ≤ 400)) :
    ∀ (l : List Pat) (m : Nat), m ≤ 400 → ((sizeGo f l m).1 = true ↔ (l.all fun p => g p.args) = true ∧ m + nodesL l ≤ 400)
  | [], m, hm => by simp [sizeGo, nodesL, hm]
  | p :: r, m, hm => by
    rw [sizeGo, nodesL, Pat.nodes_eq, List.all_cons, Bool.and_eq_true]
    by_cases h : 400 < m + 1
    · rw [if_pos h]
      simp
      omega
    · rw [if_neg h]
      have h1 := hf p.args (m + 1) (by omega)
      cases hq : f p.args (m + 1) with
      | mk b m2 =>
        rw [hq] at h1
        cases b with
        | false =>
          simp only [Bool.false_eq_true, false_iff, not_and] at h1 ⊢
          intro h2
          have := h1 h2.1
          omega
        | true =>
          simp only [true_iff] at h1
          have h2 := hn _ _ _ hq
          show (sizeGo f r m2).1 = true ↔ _
          rw [sizeGo_iff hn hf r m2 (by omega), h2]
          constructor
          · rintro ⟨h3, h4⟩
            exact ⟨⟨h1.1, h3⟩, by omega⟩
          · rintro ⟨⟨_, h3⟩, h4⟩
            exact ⟨h3, by omega⟩

theorem sizeL_iff : ∀ (d : Nat) (l : List Pat) (m : Nat), m ≤ 400 → ((sizeL d l m).1 = true ↔ dOK d l = true ∧ m + nodesL l ≤ 400)
  | 0, l, m, hm => by
    simp only [sizeL, dOK, List.isEmpty_iff]
    constructor
    · intro h
      rw [h]
      simp [nodesL, hm]
    · exact fun h => h.1
  | d + 1, l, m, hm => sizeGo_iff (sizeL_nodes d) (sizeL_iff d) l m hm

theorem smallRows_iff : ∀ (rows : List (List Pat)) (m : Nat), m ≤ 400 → (smallRows rows m = true ↔ (∀ r ∈ rows, r.length ≤ 16 ∧ dOK 20 r = true) ∧ m + nodesR rows ≤ 400)
  | [], m, hm => by simp [smallRows, nodesR, hm]
  | r :: rows, m, hm => by
    rw [smallRows, nodesR]
    by_cases h16 : 16 < r.length
    · rw [if_pos h16]
      simp
      omega
    · rw [if_neg h16]
      have h1 := sizeL_iff 20 r m hm
      cases hq : sizeL 20 r m with
      | mk b m2 =>
        rw [hq] at h1
        cases b with
        | false =>
          simp only [Bool.false_eq_true, false_iff, not_and] at h1 ⊢
          intro h2
          have := h1 (h2 r (by simp)).2
          omega
        | true =>
          simp only [true_iff] at h1
          have h2 := sizeL_nodes _ _ _ _ hq
          show smallRows rows m2 = true ↔ _
          rw [smallRows_iff rows m2 (by omega), h2]
          constructor
          · rintro ⟨h3, h4⟩
            refine ⟨fun x hx => ?_, by omega⟩
            rcases List.mem_cons.1 hx with rfl | hx
            · exact ⟨by omega, h1.1⟩
            · exact h3 x hx
          · rintro ⟨h3, h4⟩
            exact ⟨fun x hx => h3 x (by simp [hx]), by omega⟩

theorem small_iff {datas : List Data} {rows : List (List Pat)} : small datas rows = true ↔ ((∀ r ∈ rows, r.length ≤ 16 ∧ dOK 20 r = true) ∧ nodesR rows ≤ 400) ∧ rows.length ≤ 64 ∧ (datas.any fun d => decide ((256 : Int) < d.cons.length)) = false := by
  rw [small, Bool.and_eq_true, Bool.and_eq_true, smallRows_iff rows 0 (by omega)]
  simp

theorem small_of {datas : List Data} {rows less : List (List Pat)} (h : small datas rows = true) (h1 : ∀ r ∈ less, r.length ≤ 16 ∧ dOK 20 r = true) (h2 : nodesR less ≤ nodesR rows) (h3 : less.length ≤ rows.length) : small datas less = true := by
  rw [small_iff] at h ⊢
  exact ⟨⟨h1, by omega⟩, by omega, h.2.2⟩

theorem check_small {datas : List Data} {rows : List (List Pat)} (h : check datas rows = 0) : small datas rows = true := by
  unfold check at h
  by_cases hs : small datas rows = true
  · exact hs
  · rw [if_pos (by simpa using hs)] at h
    cases h

/-- What Missing answers over rows that stand. -/
theorem missingE_of {datas : List Data} {rows : List (List Pat)} {t : Tbl} {tys : List Ty} (hb : build datas = some t) (hst : Stands t rows tys) (hc : check datas rows = 0) (hl : tys.length ≤ 16) (hr : ∀ r ∈ rows, r.length = tys.length) :
    (missingE datas rows tys.length).2 = 0 ∧ ((missingE datas rows tys.length).1 ≠ [] ↔ Miss t rows tys ∧ tys ≠ []) ∧ (∀ vs, (missingE datas rows tys.length).1 ≠ [] → matL (missingE datas rows tys.length).1 vs → Disj rows vs) := by
  obtain ⟨h1, h2⟩ := missing_iff hst hl
  have hh : 0 < rows.length → ((tys.length : Nat) : Int) = (rows.headD []).length := fun h => by
    cases rows with
    | nil => simp at h
    | cons r x => simp [hr r (by simp)]
  have e : missingE datas rows tys.length = if (t.missing rows tys.length).2 then ((t.missing rows tys.length).1, 0) else ([], 0) := by
    rw [missingE, if_neg (by simp [hc]), if_neg, hb]
    · simp
    · rintro (h | h | ⟨h3, h4⟩)
      · omega
      · omega
      · exact h4 (hh h3)
  rw [e]
  by_cases hm : (t.missing rows tys.length).2 = true
  · rw [if_pos hm]
    obtain ⟨h3, h4⟩ := h2 hm
    refine ⟨rfl, ?_, fun vs _ => h4 vs⟩
    constructor
    · intro h5
      refine ⟨h1.1 hm, fun h6 => h5 ?_⟩
      rw [h6] at h3 ⊢
      exact List.length_eq_zero_iff.1 h3
    · rintro ⟨_, h6⟩ h7
      simp only at h7
      rw [h7] at h3
      exact h6 (List.length_eq_zero_iff.1 h3.symm)
  · rw [if_neg hm]
    exact ⟨rfl, ⟨fun h => absurd rfl h, fun h => absurd (h1.2 h.1) hm⟩, fun vs h => absurd rfl h⟩

/-- A Missing that is accepted tells that the rows stand. -/
theorem missingE_zero {datas : List Data} {rows : List (List Pat)} {columns : Int} (h : (missingE datas rows columns).2 = 0) : check datas rows = 0 ∧ 0 ≤ columns ∧ columns ≤ 16 ∧ ∃ t, build datas = some t ∧ t.datas = datas ∧ ∃ tys : List Ty, (tys.length : Int) = columns ∧ Stands t rows tys ∧ ∀ r ∈ rows, r.length = tys.length := by
  rw [missingE] at h
  by_cases h0 : check datas rows = 0
  · rw [if_neg (by simp [h0])] at h
    by_cases h1 : columns < 0 ∨ 16 < columns ∨ (0 < rows.length ∧ columns ≠ (rows.headD []).length)
    · rw [if_pos h1] at h
      cases h
    · obtain ⟨t, hb, hdat, hl, h16, tys, hty, hst⟩ := check_zero h0
      refine ⟨h0, by omega, by omega, t, hb, hdat, ?_⟩
      by_cases hz : rows = []
      · refine ⟨List.replicate columns.toNat .any, by rw [List.length_replicate]; omega, ⟨hst.tbl, hst.len, hst.nodes, WfL.anys _, ?_, hst.ok⟩, ?_⟩
        · rw [hz]
          intro r hr
          cases hr
        · rw [hz]
          intro r hr
          cases hr
      · have hp : 0 < rows.length := List.length_pos_iff.2 hz
        have : columns = (rows.headD []).length := by
          by_cases e : columns = (rows.headD []).length
          · exact e
          · exact absurd (.inr (.inr ⟨hp, e⟩)) h1
        exact ⟨tys, by rw [hty, this], hst, fun r hr => by rw [hty]; exact hl r hr⟩
  · rw [if_pos h0] at h
    exact absurd h h0

/-- A pattern has a value. -/
theorem Pat.inh {t : Tbl} (hT : TblOK t) : ∀ (n : Nat) (p : Pat) (ty : Ty), p.nodes ≤ n → HasTy t p ty → WfTy t ty → ∃ v, Inh t v ty ∧ mat p v
  | 0, p, ty, h, _, _ => by
    rw [Pat.nodes_eq] at h
    omega
  | n + 1, p, ty, h, hty, hw => by
    rw [Pat.nodes_eq] at h
    by_cases hf : p.free = true
    · obtain ⟨v, hv⟩ := hw.inh
      exact ⟨v, hv, by rw [mat_eq, if_pos hf]; trivial⟩
    · have hf' : p.free = false := by simpa using hf
      by_cases h2 : p.kind = 2
      · have := hty.int hf' h2
        subst this
        exact ⟨.int p.n, .int _, by rw [mat_eq, if_neg hf, if_pos h2]⟩
      · obtain ⟨h3, i, f, k0, rfl, hK, hi, hargs⟩ := hty.con hf' h2
        obtain ⟨d, c, hd, hc, hcn, _⟩ := hT.back _ _ hK
        rw [hi] at hd
        have hwc : ∀ ty ∈ f p.name, WfTy t ty := by
          cases hw with
          | data hd' hne' hl' hw' =>
            rw [hd] at hd'
            cases hd'
            rw [← hcn]
            exact hw' c hc
        have key : ∀ (l : List Pat) (tys : List Ty), nodesL l ≤ n → HasTyL t l tys → (∀ ty ∈ tys, WfTy t ty) → ∃ vs, InhL t vs tys ∧ matL l vs := by
          intro l
          induction l with
          | nil =>
            intro tys _ h1 _
            simp only [HasTyL] at h1
            subst h1
            exact ⟨[], .nil, by simp [matL]⟩
          | cons q r ih =>
            intro tys h0 h1 h4
            simp only [HasTyL] at h1
            obtain ⟨ty, tys', rfl, h5, h6⟩ := h1
            rw [nodesL] at h0
            obtain ⟨v, hv, hm⟩ := Pat.inh hT n q ty (by omega) h5 (h4 ty (by simp))
            obtain ⟨vs, hvs, hms⟩ := ih tys' (by omega) h6 fun y hy => h4 y (by simp [hy])
            exact ⟨v :: vs, .cons hv hvs, by simp only [matL]; exact ⟨v, vs, rfl, hm, hms⟩⟩
        obtain ⟨vs, hvs, hms⟩ := key p.args (f p.name) (by omega) hargs hwc
        refine ⟨.con p.name vs, ?_, ?_⟩
        · rw [← hcn] at hvs ⊢
          exact .con hd hc hvs
        · rw [mat_eq, if_neg hf, if_neg h2]
          exact ⟨vs, rfl, hms⟩

theorem patL_inh {t : Tbl} (hT : TblOK t) : ∀ (l : List Pat) (tys : List Ty), HasTyL t l tys → WfL t tys → ∃ vs, InhL t vs tys ∧ matL l vs
  | [], tys, h1, _ => by
    simp only [HasTyL] at h1
    subst h1
    exact ⟨[], .nil, by simp [matL]⟩
  | q :: r, tys, h1, h4 => by
    simp only [HasTyL] at h1
    obtain ⟨ty, tys', rfl, h5, h6⟩ := h1
    obtain ⟨v, hv, hm⟩ := Pat.inh hT _ q ty (Nat.le_refl _) h5 (h4 ty (by simp))
    obtain ⟨vs, hvs, hms⟩ := patL_inh hT r tys' h6 fun y hy => h4 y (by simp [hy])
    exact ⟨v :: vs, .cons hv hvs, by simp only [matL]; exact ⟨v, vs, rfl, hm, hms⟩⟩

theorem mem_redundant {t : Tbl} {rows : List (List Pat)} {x : Int} : x ∈ t.redundant rows ↔ ∃ k : Nat, x = k ∧ k < rows.length ∧ t.useful (rows.take k) (rows.getD k []) = false := by
  unfold Tbl.redundant
  rw [List.mem_map]
  constructor
  · rintro ⟨k, hk, rfl⟩
    obtain ⟨h1, h2⟩ := List.mem_filter.1 hk
    exact ⟨k, rfl, List.mem_range.1 h1, by simpa using h2⟩
  · rintro ⟨k, rfl, h1, h2⟩
    exact ⟨k, List.mem_filter.2 ⟨List.mem_range.2 h1, by simpa using h2⟩, rfl⟩

/-! A row that matches everything; the missing values as a further row. -/

theorem nodesR_append : ∀ a b : List (List Pat), nodesR (a ++ b) = nodesR a + nodesR b
  | [], b => by simp [nodesR]
  | r :: a, b => by
    rw [List.cons_append, nodesR, nodesR, nodesR_append a b]
    omega

theorem pattern_any (t : Tbl) : t.pattern Pat.any = 0 := by
  rw [Tbl.pattern_eq]
  simp [Pat.any, Pat.kind]

theorem more_any {datas : List Data} {rows : List (List Pat)} {columns : Int} (h : (missingE datas rows columns).2 = 0) : (missingE datas (rows ++ [List.replicate columns.toNat Pat.any]) columns).2 = 2 ∨ missingE datas (rows ++ [List.replicate columns.toNat Pat.any]) columns = ([], 0) := by
  obtain ⟨h0, hc1, hc2, t, hb, hdat, tys, hty, hst, hlen⟩ := missingE_zero h
  by_cases hs : small datas (rows ++ [List.replicate columns.toNat Pat.any]) = true
  · have hct : columns.toNat = tys.length := by omega
    have htyped : TypedR t (rows ++ [List.replicate columns.toNat Pat.any]) tys := fun r hr => by
      rcases List.mem_append.1 hr with hr | hr
      · exact hst.typed r hr
      · rw [List.mem_singleton.1 hr, hct]
        exact HasTyL.anys
    have hok : ∀ r ∈ rows ++ [List.replicate columns.toNat Pat.any], ∀ p ∈ r, t.pattern p = 0 := fun r hr p hp => by
      rcases List.mem_append.1 hr with hr | hr
      · exact hst.ok r hr p hp
      · rw [List.mem_singleton.1 hr] at hp
        rw [(List.mem_replicate.1 hp).2]
        exact pattern_any t
    have hck := check_of hb hs htyped hok
    obtain ⟨hs1, hs2, _⟩ := small_facts hs
    have hst' : Stands t (rows ++ [List.replicate columns.toNat Pat.any]) tys := ⟨hst.tbl, hs1, hs2, hst.wf, htyped, hok⟩
    obtain ⟨m1, m2, _⟩ := missingE_of hb hst' hck (by omega) fun r hr => by
      rcases List.mem_append.1 hr with hr | hr
      · exact hlen r hr
      · rw [List.mem_singleton.1 hr, List.length_replicate, hct]
    rw [hty] at m1 m2
    refine .inr (Prod.ext ?_ m1)
    by_cases hne : (missingE datas (rows ++ [List.replicate columns.toNat Pat.any]) columns).1 = []
    · exact hne
    · obtain ⟨⟨vs, v1, v2⟩, _⟩ := m2.1 hne
      exact absurd (matL_anys (by rw [v1.len, hct])) (v2 _ (List.mem_append.2 (.inr (List.mem_singleton.2 rfl))))
  · refine .inl ?_
    have : check datas (rows ++ [List.replicate columns.toNat Pat.any]) = 2 := by
      unfold check
      rw [if_pos (by simpa using hs)]
    rw [missingE, this, if_pos (by decide)]

theorem more_row {datas : List Data} {rows : List (List Pat)} {columns : Int} (h : (missingE datas rows columns).2 = 0) (hne : (missingE datas rows columns).1 ≠ []) (hr : (redundantE datas (rows ++ [(missingE datas rows columns).1])).2 = 0) : (rows.length : Int) ∉ (redundantE datas (rows ++ [(missingE datas rows columns).1])).1 := by
  obtain ⟨h0, hc1, hc2, t, hb, hdat, tys, hty, hst, hlen⟩ := missingE_zero h
  obtain ⟨_, _, m3⟩ := missingE_of hb hst h0 (by omega) hlen
  rw [hty] at m3
  generalize missingE datas rows columns = q at *
  obtain ⟨l, e⟩ := q
  simp only at *
  rw [redundantE] at hr ⊢
  by_cases hc : check datas (rows ++ [l]) = 0
  · rw [if_neg (by simp [hc]), hb]
    simp only
    obtain ⟨t', hb', _, _, h16, tys', hty', hst'⟩ := check_zero hc
    rw [hb] at hb'
    cases hb'
    intro hm
    obtain ⟨k, hk, hk1, hk2⟩ := mem_redundant.1 hm
    have : k = rows.length := by omega
    subst this
    have hl : HasTyL t l tys' := hst'.typed l (by simp)
    have hu := useful_iff (hst'.sub (List.take_sublist rows.length (rows ++ [l]))) (by omega) hl (Nat.le_trans (nodesR_mem (by simp)) hst'.nodes)
    rw [List.take_left, List.getD_eq_getElem?_getD, List.getElem?_append_right (Nat.le_refl _), Nat.sub_self] at hk2
    rw [List.take_left] at hu
    obtain ⟨vs, v1, v2⟩ := patL_inh hst'.tbl l tys' hl hst'.wf
    have := hu.2 ⟨vs, v1, v2, m3 vs hne v2⟩
    simp only [List.getElem?_cons_zero, Option.getD_some] at hk2
    rw [this] at hk2
    cases hk2
  · rw [if_pos hc] at hr
    exact absurd hr hc

/-! A redundant row less. -/

theorem drop_row {datas : List Data} {rows : List (List Pat)} (h : (redundantE datas rows).2 = 0) {k : Nat} (hk : (k : Int) ∈ (redundantE datas rows).1) : k < rows.length ∧ (missingE datas rows (rows.headD []).length).2 = 0 ∧ (missingE datas (rows.take k ++ rows.drop (k + 1)) (rows.headD []).length).2 = 0 ∧
    ((missingE datas rows (rows.headD []).length).1 ≠ [] ↔ (missingE datas (rows.take k ++ rows.drop (k + 1)) (rows.headD []).length).1 ≠ []) := by
  rw [redundantE] at h hk
  by_cases hc : check datas rows = 0
  · rw [if_neg (by simp [hc])] at h hk
    obtain ⟨t, hb, hdat, hl, h16, tys, hty, hst⟩ := check_zero hc
    rw [hb] at hk
    obtain ⟨k', hk', hk1, hk2⟩ := mem_redundant.1 hk
    have : k' = k := by omega
    subst this
    have hsub : (rows.take k' ++ rows.drop (k' + 1)).Sublist rows := by
      have h1 := List.Sublist.append (List.Sublist.refl (rows.take k')) (List.drop_sublist_drop_left rows (Nat.le_succ k'))
      rw [List.take_append_drop] at h1
      exact h1
    have hst' := hst.sub hsub
    have hss : small datas (rows.take k' ++ rows.drop (k' + 1)) = true := small_of (check_small hc) (fun r hr => (small_iff.1 (check_small hc)).1.1 r (hsub.subset hr)) (nodesR_sub hsub) hsub.length_le
    have hck := check_of hb hss hst'.typed hst'.ok
    obtain ⟨a1, a2, _⟩ := missingE_of hb hst hc (by omega) (fun r hr => by rw [hty]; exact hl r hr)
    obtain ⟨b1, b2, _⟩ := missingE_of hb hst' hck (by omega) (fun r hr => by rw [hty]; exact hl r (hsub.subset hr))
    rw [hty] at a1 a2 b1 b2
    refine ⟨hk1, a1, b1, ?_⟩
    rw [a2, b2]
    have hr : rows[k']? = some (rows.getD k' []) := by
      rw [List.getD_eq_getElem?_getD, List.getElem?_eq_getElem hk1]
      rfl
    have hmem := List.mem_of_getElem? hr
    have hu := useful_iff (hst.sub (List.take_sublist k' rows)) (by omega) (hst.typed _ hmem) (Nat.le_trans (nodesR_mem hmem) hst.nodes)
    have hsplit : rows = rows.take k' ++ rows.getD k' [] :: rows.drop (k' + 1) := by
      have h1 := List.take_append_drop k' rows
      rw [List.drop_eq_getElem_cons hk1] at h1
      rw [List.getElem?_eq_getElem hk1] at hr
      simp only [Option.some.injEq] at hr
      rw [hr] at h1
      exact h1.symm
    constructor
    · rintro ⟨⟨vs, v1, v2⟩, v3⟩
      exact ⟨⟨vs, v1, fun r hr => v2 r (hsub.subset hr)⟩, v3⟩
    · rintro ⟨⟨vs, v1, v2⟩, v3⟩
      refine ⟨⟨vs, v1, fun r hr hm => ?_⟩, v3⟩
      rw [hsplit] at hr
      rcases List.mem_append.1 hr with hr | hr
      · exact v2 r (List.mem_append.2 (.inl hr)) hm
      · rcases List.mem_cons.1 hr with rfl | hr
        · have := hu.2 ⟨vs, v1, hm, fun x hx => v2 x (List.mem_append.2 (.inl hx))⟩
          rw [this] at hk2
          cases hk2
        · exact v2 r (List.mem_append.2 (.inr hr)) hm
  · rw [if_pos hc] at h
    exact absurd h hc

end Go.Proofs.Ytakdmelemfnmdaa
end

section
/-
  What Compile builds, as a plain function; what is known of it.
-/
set_option linter.unusedVariables false
namespace Go.Proofs.Ytakdmelemfnmdaa

/-- The rows with their numbers. -/
def mrows : Nat → List (List Pat) → List MRow
  | _, [] => []
  | k, r :: rs => ⟨k, r⟩ :: mrows (k + 1) rs

theorem mrows_len : ∀ (k : Nat) (rows : List (List Pat)), (mrows k rows).length = rows.length
  | _, [] => rfl
  | k, r :: rs => by simp [mrows, mrows_len (k + 1) rs]

theorem mrows_get : ∀ (k : Nat) (rows : List (List Pat)) (i : Nat), (mrows k rows)[i]? = (rows[i]?).map fun r => ⟨((k + i : Nat) : Int), r⟩
  | _, [], i => by simp [mrows]
  | k, r :: rs, 0 => by simp [mrows]
  | k, r :: rs, i + 1 => by
    simp only [mrows, List.getElem?_cons_succ]
    rw [mrows_get (k + 1) rs i, show k + 1 + i = k + (i + 1) by omega]

theorem mrows_snoc : ∀ (k : Nat) (rows : List (List Pat)) (r : List Pat), mrows k (rows ++ [r]) = mrows k rows ++ [⟨((k + rows.length : Nat) : Int), r⟩]
  | k, [], r => by simp [mrows]
  | k, x :: rs, r => by
    simp only [List.cons_append, mrows]
    rw [mrows_snoc (k + 1) rs r, List.length_cons, show k + 1 + rs.length = k + (rs.length + 1) by omega]

theorem mem_mrows {k : Nat} {rows : List (List Pat)} {x : MRow} (h : x ∈ mrows k rows) : x.pats ∈ rows := by
  obtain ⟨i, hi⟩ := List.mem_iff_getElem?.1 h
  rw [mrows_get] at hi
  cases hr : rows[i]? with
  | none =>
    rw [hr] at hi
    cases hi
  | some r =>
    rw [hr] at hi
    simp only [Option.map_some, Option.some.injEq] at hi
    rw [← hi]
    exact List.mem_of_getElem? hr

theorem mrows_cnt : ∀ (k : Nat) (rows : List (List Pat)), cntM (mrows k rows) ≤ nodesR rows
  | _, [] => Nat.le_refl _
  | k, r :: rs => by
    have := mrows_cnt (k + 1) rs
    have := cntL_nodes r
    simp only [mrows, cntM, nodesR]
    omega

theorem mrows_wt : ∀ (k : Nat) (rows : List (List Pat)), wtM (mrows k rows) = wtR rows
  | _, [] => rfl
  | k, r :: rs => by
    simp only [mrows, wtM, wtR, mrows_wt (k + 1) rs]

/-- The places of the columns. -/
def pathsOf (n : Nat) : List (List Int) := (List.range n).map fun (k : Nat) => [(k : Int)]

theorem pathsOf_succ (n : Nat) : pathsOf (n + 1) = pathsOf n ++ [[(n : Int)]] := by
  simp [pathsOf, List.range_succ]

theorem pathsOf_len (n : Nat) : (pathsOf n).length = n := by simp [pathsOf]

theorem start_pre {t : Tbl} {rows : List (List Pat)} {tys : List Ty} (h : Stands t rows tys) (hl : tys.length ≤ 16) (hnd : ∀ d ∈ t.datas, (d.cons.map Con.name).Nodup) : Pre t (mrows 0 rows) (pathsOf tys.length) tys := by
  have hw := h.wt
  refine ⟨⟨hnd, fun r hr => h.ok _ (mem_mrows hr), fun r hr => ?_, h.tbl, by rw [mrows_len]; exact h.len, fun r hr => h.typed _ (mem_mrows hr), h.wf, fun r hr p hp => ?_⟩, pathsOf_len _, ?_, fun q hq => ?_, fun q hq x hx => ?_⟩
  · obtain ⟨i, hi⟩ := List.mem_iff_getElem?.1 hr
    rw [mrows_get] at hi
    cases hri : rows[i]? with
    | none =>
      rw [hri] at hi
      cases hi
    | some r' =>
      rw [hri] at hi
      simp only [Option.map_some, Option.some.injEq] at hi
      rw [← hi]
      simp only
      omega
  · have h1 := nodesL_mem hp
    have h2 := nodesR_mem (mem_mrows hr)
    have := h.nodes
    omega
  · rw [pathsOf_len, mrows_wt]
    omega
  · obtain ⟨k, _, rfl⟩ := List.mem_map.1 hq
    rw [mrows_wt]
    exact ⟨by simp, by simp; omega⟩
  · obtain ⟨k, _, rfl⟩ := List.mem_map.1 hq
    rw [List.mem_singleton.1 hx]
    omega

theorem dataAt_mem {datas : List Data} {k : Nat} : dataAt datas k ∈ datas ∨ (dataAt datas k).cons = [] := by
  unfold dataAt
  cases h : datas[k]? with
  | none => exact .inr rfl
  | some d => exact .inl (List.mem_of_getElem? h)

theorem look_small {t : Tbl} {rows : List (List Pat)} (h : small t.datas rows = true) : ∀ s d, lookT t s = some d → d.cons.length ≤ 256 := fun s d hd => by
  unfold lookT at hd
  cases hf : find t.cons s with
  | none =>
    rw [hf] at hd
    cases hd
  | some K =>
    rw [hf] at hd
    simp only [Option.map_some, Option.some.injEq] at hd
    subst hd
    rcases dataAt_mem (datas := t.datas) (k := K.data) with hm | hm
    · have := (small_iff.1 h).2.2
      have h2 := List.any_eq_false.1 this _ hm
      simp at h2
      omega
    · rw [hm]
      simp

/-- What build hands to Compile. -/
@[irreducible] def treeM (t : Tbl) (rows : List (List Pat)) : Int × BS := buildM (lookT t) 1000 (mrows 0 rows) (pathsOf (rows.headD []).length) ⟨[], 0, false⟩

theorem start_room : PreS ⟨[], 0, false⟩ := ⟨by simp, ⟨by simp [BS.gap], by simp⟩, by simp⟩

def compileE (datas : List Data) (rows : List (List Pat)) : List MTree × Int :=
  if check datas rows ≠ 0 then ([], check datas rows)
  else match build datas with
    | none => ([], 0)
    | some t => if (treeM t rows).2.full then ([], 2) else ((treeM t rows).2.outs.take ((treeM t rows).1.toNat + 1), 0)

/-- What is known of the tree when there is one. -/
theorem tree_rep {t : Tbl} {rows : List (List Pat)} {tys : List Ty} (hst : Stands t rows tys) (hl : tys.length ≤ 16) (hh : (rows.headD []).length = tys.length) (hs : small t.datas rows = true) (hnd : ∀ d ∈ t.datas, (d.cons.map Con.name).Nodup) :
    Moves ⟨[], 0, false⟩ (treeM t rows).2 300000 ∧ ((treeM t rows).2.full = false → ValidL t (treeM t rows).2.outs ∧ RepM (lookT t) 1000 (mrows 0 rows) (pathsOf tys.length) (treeM t rows).2.outs (treeM t rows).1) := by
  have hlook := look_small hs
  have hn := hst.nodes
  unfold treeM
  rw [hh]
  refine ⟨(buildM_moves hlook 1000 _ _ _ (by rw [mrows_len]; exact hst.len) start_room.full).more (by omega), fun hf => ?_⟩
  refine buildM_rep hlook 1000 _ _ tys (start_pre hst hl hnd) ?_ _ start_room.full hf ?_
  · have := mrows_cnt 0 rows
    omega
  · intro i u hu
    simp at hu

/-- What is known of the nodes that Compile hands back. -/
theorem compile_zero {datas : List Data} {rows : List (List Pat)} (h : (compileE datas rows).2 = 0) : ∃ t, build datas = some t ∧ t.datas = datas ∧ check datas rows = 0 ∧ small datas rows = true ∧ ∃ tys : List Ty, (rows.headD []).length = tys.length ∧ tys.length ≤ 16 ∧ (∀ r ∈ rows, r.length = tys.length) ∧ Stands t rows tys ∧
    (compileE datas rows).1 ≠ [] ∧ (compileE datas rows).1.length ≤ 4096 ∧ ValidL t (compileE datas rows).1 ∧ RepM (lookT t) 1000 (mrows 0 rows) (pathsOf tys.length) (compileE datas rows).1 (((compileE datas rows).1.length : Int) - 1) := by
  unfold compileE at h ⊢
  by_cases hc : check datas rows = 0
  · rw [if_neg (by simp [hc])] at h ⊢
    obtain ⟨t, hb, hdat, hall, h16, tys, hty, hst⟩ := check_zero hc
    have hsm := check_small hc
    rw [hb] at h ⊢
    simp only at h ⊢
    obtain ⟨hm, hrep⟩ := tree_rep hst (by omega) hty.symm (by rw [hdat]; exact hsm) (build_nodup hb)
    cases hf : (treeM t rows).2.full with
    | true =>
      rw [hf] at h
      simp at h
    | false =>
      simp only [Bool.false_eq_true, if_false]
      obtain ⟨hv, hr⟩ := hrep hf
      have hlt := hr.lt
      have hmany := hm.full
      rw [hf] at hmany
      have hmany := of_decide_eq_false hmany.symm
      have hroom := (hm.room 0 start_room.room).2
      have hlen : ((treeM t rows).2.outs.take ((treeM t rows).1.toNat + 1)).length = (treeM t rows).1.toNat + 1 := by
        rw [List.length_take]
        omega
      refine ⟨t, rfl, hdat, hc, hsm, tys, hty.symm, by omega, fun r hr => by rw [hall r hr, hty], hst, ?_, ?_, ?_, ?_⟩
      · intro e
        rw [e] at hlen
        simp at hlen
      · rw [hlen]
        omega
      · intro i u hu
        rw [List.getElem?_take] at hu
        split at hu
        · exact hv i u hu
        · cases hu
      · rw [hlen]
        have := hr.cut _ _ _ _ _ ((treeM t rows).1.toNat + 1) hv (by omega)
        rw [show (((treeM t rows).1.toNat + 1 : Nat) : Int) - 1 = (treeM t rows).1 by omega]
        exact this
  · rw [if_pos hc] at h
    exact absurd h hc

theorem compile_err {datas : List Data} {rows : List (List Pat)} (h : (compileE datas rows).2 ≠ 0) : (compileE datas rows).1 = [] := by
  unfold compileE at h ⊢
  split at h
  · rename_i hc
    rw [if_pos hc]
  · rename_i hc
    rw [if_neg hc]
    split at h
    · rfl
    · split at h
      · rename_i hf
        rw [if_pos hf]
      · simp at h

end Go.Proofs.Ytakdmelemfnmdaa
end

section
set_option linter.unusedSimpArgs false
set_option linter.unusedVariables false
set_option maxRecDepth 100000
set_option maxHeartbeats 2000000
-- !tab vtab vmat
-- !upto Pat.enc_upto Pat.map_upto MRow.enc_upto MRow.map_upto aI_upto eI_upto nS_upto MTree.enc_upto MTree.map_upto rows_upto Con.map_upto Data.map_upto
namespace Go.Proofs.Ytakdmelemfnmdaa
open Go.Av

theorem build_ok' {t : Tbl} (hl : ∀ s d, lookT t s = some d → d.cons.length ≤ 256) : ∀ fu, fu ≤ 1000 → BuildOK t fu
 | 0, _ => fun _ _ _ _ _ _ h => by omega
 | fu + 1, hfu => fun rows paths tys s hpre hs hcnt => by
  have ih := build_ok' hl fu (by omega)
  cases rows with
  | nil =>
   have e : buildM (lookT t) (fu + 1) [] paths s = s.count.add mfail := by
    unfold buildM
    rfl
   rw [e]
   exact build_fail hs (.inl rfl)
  | cons r0 rs =>
   cases hn : s.count.full with
   | true =>
    have e : buildM (lookT t) (fu + 1) (r0 :: rs) paths s = s.count.add mfail := by
     unfold buildM
     simp only [hn, if_true]
    rw [e]
    exact build_fail hs (.inr hn)
   | false =>
    cases hi : r0.pats.findIdx? (fun p => !p.free) with
    | none =>
     have e : buildM (lookT t) (fu + 1) (r0 :: rs) paths s = s.count.add ⟨1, r0.ix, [], [], [], []⟩ := by
      unfold buildM
      simp only [hn, hi, Bool.false_eq_true, if_false]
     rw [e]
     exact build_row hs rfl hn hi
    | some c =>
     obtain ⟨p, hp, hfr, _⟩ := findIdx_some hi
     have hfr : p.free = false := by simpa using hfr
     obtain ⟨ty, hc, ha, hk⟩ := hpre.column (r := r0) (by simp) hp hfr
     rcases hk with ⟨k2, e2⟩ | ⟨k3, i, F, d, K, e3, hf, hK, hd, hlook⟩
     ·have e : buildM (lookT t) (fu + 1) (r0 :: rs) paths s = wordsM (buildM (lookT t) fu) (r0 :: rs) paths c s.count := by
       conv => lhs; unfold buildM
       simp only [hn, hi, hp, k2, Bool.false_eq_true, if_false, if_true]
      rw [e]
      exact build_words ih hpre hs (by omega) (by omega) hl rfl hn hi hp k2 hfr
     ·have k2 : ¬ p.kind = 2 := by omega
      have e : buildM (lookT t) (fu + 1) (r0 :: rs) paths s = consM (buildM (lookT t) fu) d (r0 :: rs) paths c s.count := by
       conv => lhs; unfold buildM
       simp only [hn, hi, hp, k2, hlook, Bool.false_eq_true, if_false]
      rw [e]
      exact build_cons ih hpre hs (by omega) (by omega) hl rfl hn hi hp k2 hfr hlook

theorem cloneI_pure (l : List Int) (hb : l.length ≤ 2 ^ 30) : PCall Try.prog 33 [eI l] (eI l) := by
 refine ecall_of hT true 0 Try.func33 rfl (by kernel_rfl) (by simp [Try.ntmps33]) (by simp) ?_
 show AWP Try.prog _ _ _ ⟨8, _, _⟩
 dsimp only [Tmp, TypeId, slotsOf]
 first | refine zg1 ?_ | refine zg0 ?_ | refine zg2 ?_ | refine zg3 ?_
 simp -dsimp only [simprocAttr, ↓vpre, zpm]
 refine at_intro ?_
 simp -dsimp only [vend, ne_eq, Nat.reduceEqDiff, reduceCtorEq]
 refine awp_nilsplit 0 rfl (fun hnil => ?_) ?_
 ·simp -dsimp only [simprocAttr, ↓vpre, zpm]
  first | refine zg1 ?_ | refine zg0 ?_ | refine zg2 ?_ | refine zg3 ?_
  simp -dsimp only [simprocAttr, ↓vpre, zpm]
  refine at_intro ?_
  simp -dsimp only [vend, ne_eq, Nat.reduceEqDiff, reduceCtorEq]
  first | refine zk1 rfl (fun h => ?_) (fun h => ?_) | refine zk0 rfl (fun h => ?_) (fun h => ?_) | refine zk2 rfl (fun h => ?_) (fun h => ?_)
  ·first | refine zg1 ?_ | refine zg0 ?_ | refine zg2 ?_ | refine zg3 ?_
   simp -dsimp only [simprocAttr, ↓vpre, zpm]
   refine at_intro ?_
   simp -dsimp only [vend, ne_eq, Nat.reduceEqDiff, reduceCtorEq]
   refine awp_ret ?_
   simp -dsimp only [simprocAttr, ↓vpre, zpm, RetTo, Try.results33, retVals, retVal, mkRet, AVal.upto, Nat.zero_le, Nat.le_refl, seqPost_ret, blockPost_ret, loopPost_ret]
   simpa [uptoL] using hnil
  ·cases h
 ·simp -dsimp only [simprocAttr, ↓vpre, zpm]
  first | refine zg1 ?_ | refine zg0 ?_ | refine zg2 ?_ | refine zg3 ?_
  simp -dsimp only [simprocAttr, ↓vpre, zpm]
  refine at_intro ?_
  simp -dsimp only [vend, ne_eq, Nat.reduceEqDiff, reduceCtorEq]
  first | refine zk1 rfl (fun h => ?_) (fun h => ?_) | refine zk0 rfl (fun h => ?_) (fun h => ?_) | refine zk2 rfl (fun h => ?_) (fun h => ?_)
  ·cases h
  ·refine awp_skip ?_
   simp -dsimp only [vend, ne_eq, Nat.reduceEqDiff, reduceCtorEq]
   first | refine zg1 ?_ | refine zg0 ?_ | refine zg2 ?_ | refine zg3 ?_
   simp -dsimp only [simprocAttr, ↓vpre, zpm]
   refine ⟨by omega, by omega, ?_⟩
   refine at_intro ?_
   simp -dsimp only [vend, ne_eq, Nat.reduceEqDiff, reduceCtorEq]
   refine awp_ret ?_
   simp -dsimp only [simprocAttr, ↓vpre, zpm, RetTo, Try.results33, retVals, retVal, mkRet, AVal.upto, Nat.zero_le, Nat.le_refl, seqPost_ret, blockPost_ret, loopPost_ret]

theorem MTree.cells_upto (n : Nat) (l : List MTree) : uptoL n (cellsAll (l.map MTree.enc)) := by
 rw [uptoL_iff]
 intro c hc
 simp only [cellsAll, List.mem_flatMap, List.mem_map] at hc
 obtain ⟨_, ⟨p, _, rfl⟩, hc⟩ := hc
 have := p.enc_upto n
 rw [MTree.enc] at this
 rw [MTree.enc_cells] at hc
 simp only [AVal.upto, uptoL_iff] at this
 exact this c hc

theorem cloneM_spec (l : List MTree) (hl : l ≠ []) (hb : l.length ≤ 2 ^ 20) (O : List AObj) (hO : ∀ o ∈ O, o.upto (O.length + 1)) :
  ECall Try.prog 32 O [eT l] fun r O' => r = .ms O.length 0 l.length l.length ∧ O' = O ++ [.cells (cellsAll (l.map MTree.enc))] := by
 refine ecall_of hT true (O.length+1) Try.func32 rfl (by kernel_rfl) (by simp [Try.ntmps32]) (by simp) ?_
 show AWP Try.prog _ _ _ ⟨8, _, _⟩
 dsimp only [Tmp, TypeId, slotsOf]
 first | refine zg1 ?_ | refine zg0 ?_ | refine zg2 ?_ | refine zg3 ?_
 simp -dsimp only [simprocAttr, ↓vpre, zpm]
 refine at_intro ?_
 simp -dsimp only [vend, ne_eq, Nat.reduceEqDiff, reduceCtorEq]
 refine awp_nilsplit 0 rfl (fun h => ?_) ?_
 ·exact absurd (List.map_eq_nil_iff.1 h) hl
 ·simp -dsimp only [simprocAttr, ↓vpre, zpm]
  first | refine zg1 ?_ | refine zg0 ?_ | refine zg2 ?_ | refine zg3 ?_
  simp -dsimp only [simprocAttr, ↓vpre, zpm]
  refine at_intro ?_
  simp -dsimp only [vend, ne_eq, Nat.reduceEqDiff, reduceCtorEq]
  first | refine zk1 rfl (fun h => ?_) (fun h => ?_) | refine zk0 rfl (fun h => ?_) (fun h => ?_) | refine zk2 rfl (fun h => ?_) (fun h => ?_)
  ·cases h
  ·refine awp_skip ?_
   simp -dsimp only [vend, ne_eq, Nat.reduceEqDiff, reduceCtorEq]
   first | refine zm1 ?_ | refine zm0 ?_ | refine zm2 ?_
   simp -dsimp only [simprocAttr, ↓vpre, zpm]
   refine ⟨by omega, by omega, by simpa using hl, ?_⟩
   refine at_intro ?_
   simp -dsimp only [vend, ne_eq, Nat.reduceEqDiff, reduceCtorEq]
   refine awp_ret ?_
   simp -dsimp only [simprocAttr, ↓vpre, zpm, RetTo, Try.results32, retVals, retVal, mkRet, AVal.upto, Nat.zero_le, Nat.le_refl, seqPost_ret, blockPost_ret, loopPost_ret]
   have e : ∀ x : AObj, (O ++ [x]).take (O.length + 1) = O ++ [x] := fun x => List.take_of_length_le (by simp)
   rw [e]
   refine ⟨fun o ho => ?_, by omega, rfl⟩
   rcases List.mem_append.1 ho with ho | ho
   ·exact hO o ho
   ·rw [List.mem_singleton.1 ho]
    exact MTree.cells_upto _ _

end Go.Proofs.Ytakdmelemfnmdaa
end

section
set_option linter.unusedSimpArgs false
set_option linter.unusedVariables false
set_option maxRecDepth 100000
set_option maxHeartbeats 2000000
-- !tab vtab vmat cmT_flat cmT_cells cmT_share cmT_shareCell
-- !upto Pat.enc_upto Pat.map_upto MRow.enc_upto MRow.map_upto aI_upto eI_upto nS_upto MTree.enc_upto MTree.map_upto rows_upto Con.map_upto Data.map_upto
namespace Go.Proofs.Ytakdmelemfnmdaa
open Go.Av

theorem cmT_cells (t : Tbl) : (cmT t).cells = [cmT t] := rfl
theorem cmT_flat (t : Tbl) : (cmT t).flat := trivial
theorem cmT_share (t : Tbl) : (cmT t).share = cmT t := rfl
theorem cmT_shareCell (t : Tbl) : (cmT t).shareCell = cmT t := rfl

theorem splice_same {cs : List AVal} {off : Nat} {x : AVal} (h : cs[off]? = some x) : splice cs off [x] = cs := by
 unfold splice
 obtain ⟨hlt, e⟩ := List.getElem?_eq_some_iff.1 h
 conv => rhs; rw [← List.take_append_drop off cs, List.drop_eq_getElem_cons hlt, e]
 simp

theorem tcell {l : List MTree} {k : Nat} {t : MTree} (h : l[k]? = some t) : (cellsAll (l.map MTree.enc))[k * 6 + 2]? = some (.lst 1 (t.path.map aI) .sh) := by
 refine cellsAll_getElem? (sz := 6) (xs := l.map MTree.enc) (x := t.enc) (fun x hx => ?_) (by simp [h]) rfl
 obtain ⟨y, _, rfl⟩ := List.mem_map.1 hx
 rfl

theorem compile_ok {datas : List Data} {rows : List (List Pat)} (h0 : check datas rows = 0) : PCall Try.prog 18 [eD datas, eRR rows] (.tup [eT (compileE datas rows).1, aI (compileE datas rows).2]) := by
 have hcheck := Check_spec datas rows
 rw [h0] at hcheck
 have hsm := check_small h0
 obtain ⟨t, hb, hdat, hall, h16, tys, hty, hst⟩ := check_zero h0
 have hix := index_spec datas
 rw [hb] at hix
 simp only [ixRes] at hix
 have hcm : AVal.im KT.str (t.cons.map (ixEntry datas)) = cmT t := by rw [cmT, hdat]
 rw [hcm] at hix
 have hlook := look_small (t := t) (rows := rows) (by rw [hdat]; exact hsm)
 have h64 := hst.len
 obtain ⟨hmv, hrep⟩ := tree_rep hst (by omega) hty.symm (by rw [hdat]; exact hsm) (build_nodup hb)
 have hcnt : cntM (mrows 0 rows) < 1000 := by
  have := mrows_cnt 0 rows
  have := hst.nodes
  omega
 have hbuild := build_ok' hlook 1000 (Nat.le_refl _) _ _ _ _ (start_pre hst (by omega) (build_nodup hb)) start_room hcnt
 have htree : treeM t rows = buildM (lookT t) 1000 (mrows 0 rows) (pathsOf tys.length) ⟨[], 0, false⟩ := by
  unfold treeM
  rw [hty]
 rw [← htree] at hbuild
 have hE : compileE datas rows = if (treeM t rows).2.full then ([], 2) else ((treeM t rows).2.outs.take ((treeM t rows).1.toNat + 1), 0) := by
  unfold compileE
  rw [if_neg (by simp [h0]), hb]
 rw [hE]
 have htys : ∀ r ∈ rows, r.length = tys.length := fun r hr => by rw [hall r hr, hty]
 have hpn : rows = [] → tys.length = 0 := fun e => by rw [hty, e]; rfl
 have hcmu := cmT_upto t
 generalize treeM t rows = Z at hmv hrep hbuild
 have hroom := (hmv.room 0 start_room.room).1
 have hfull := hmv.full
 have hobj := objs_upto t ⟨[], 0, false⟩
 have hobj' := objs_upto t Z.2
 simp only [BS.objs, List.map_nil, List.length_nil] at hbuild hobj hobj'
 refine ecall_of hT true 0 Try.func18 rfl (by kernel_rfl) (by simp [Try.ntmps18]) (by simp) ?_
 show AWP Try.prog _ _ _ ⟨92, _, _⟩
 dsimp only [Tmp, TypeId, slotsOf]
 first | refine zg1 ?_ | refine zg0 ?_ | refine zg2 ?_ | refine zg3 ?_
 simp -dsimp only [simprocAttr, ↓vpre, zpm, cmT_flat, cmT_cells, cmT_share, cmT_shareCell]
 refine at_intro ?_
 simp -dsimp only [vend, ne_eq, Nat.reduceEqDiff, reduceCtorEq]
 first | refine zg1 ?_ | refine zg0 ?_ | refine zg2 ?_ | refine zg3 ?_
 simp -dsimp only [simprocAttr, ↓vpre, zpm, cmT_flat, cmT_cells, cmT_share, cmT_shareCell]
 refine .inl ⟨_, hcheck, by first | (simp only [uptoL, AVal.upto, zt, zum]; done) | (simp [uptoL, AVal.upto, zum]; done), later_intro ?_⟩
 simp -dsimp only [simprocAttr, ↓vpre, zpm, cmT_flat, cmT_cells, cmT_share, cmT_shareCell]
 refine at_intro ?_
 simp -dsimp only [vend, ne_eq, Nat.reduceEqDiff, reduceCtorEq]
 first | refine zg1 ?_ | refine zg0 ?_ | refine zg2 ?_ | refine zg3 ?_
 simp -dsimp only [simprocAttr, ↓vpre, zpm, cmT_flat, cmT_cells, cmT_share, cmT_shareCell]
 refine at_intro ?_
 simp -dsimp only [vend, ne_eq, Nat.reduceEqDiff, reduceCtorEq]
 first | refine zk1 rfl (fun h => ?_) (fun h => ?_) | refine zk0 rfl (fun h => ?_) (fun h => ?_) | refine zk2 rfl (fun h => ?_) (fun h => ?_)
 ·cases h
 ·refine awp_skip ?_
  simp -dsimp only [vend, ne_eq, Nat.reduceEqDiff, reduceCtorEq]
  first | refine zg1 ?_ | refine zg0 ?_ | refine zg2 ?_ | refine zg3 ?_
  simp -dsimp only [simprocAttr, ↓vpre, zpm, cmT_flat, cmT_cells, cmT_share, cmT_shareCell]
  refine .inl ⟨_, hix, by first | (simp only [uptoL, AVal.upto, zt, zum]; done) | (simp [uptoL, AVal.upto, zum]; done), later_intro ?_⟩
  simp -dsimp only [simprocAttr, ↓vpre, zpm, cmT_flat, cmT_cells, cmT_share, cmT_shareCell]
  refine at_intro ?_
  simp -dsimp only [vend, ne_eq, Nat.reduceEqDiff, reduceCtorEq]
  first | refine zg1 ?_ | refine zg0 ?_ | refine zg2 ?_ | refine zg3 ?_
  simp -dsimp only [simprocAttr, ↓vpre, zpm, cmT_flat, cmT_cells, cmT_share, cmT_shareCell]
  refine at_intro ?_
  simp -dsimp only [vend, ne_eq, Nat.reduceEqDiff, reduceCtorEq]
  refine awp_ownCell 0 1 rfl rfl ?_
  simp -dsimp only [simprocAttr, ↓vpre, zpm, cmT_flat, cmT_cells, cmT_share, cmT_shareCell]
  first | refine zg1 ?_ | refine zg0 ?_ | refine zg2 ?_ | refine zg3 ?_
  simp -dsimp only [simprocAttr, ↓vpre, zpm, cmT_flat, cmT_cells, cmT_share, cmT_shareCell]
  refine at_intro ?_
  simp -dsimp only [vend, ne_eq, Nat.reduceEqDiff, reduceCtorEq]
  refine awp_own 10 rfl ?_
  simp -dsimp only [simprocAttr, ↓vpre, zpm, cmT_flat, cmT_cells, cmT_share, cmT_shareCell]
  first | refine zg1 ?_ | refine zg0 ?_ | refine zg2 ?_ | refine zg3 ?_
  simp -dsimp only [simprocAttr, ↓vpre, zpm, cmT_flat, cmT_cells, cmT_share, cmT_shareCell]
  refine at_intro ?_
  simp -dsimp only [vend, ne_eq, Nat.reduceEqDiff, reduceCtorEq]
  refine awp_own 11 rfl ?_
  simp -dsimp only [simprocAttr, ↓vpre, zpm, cmT_flat, cmT_cells, cmT_share, cmT_shareCell]
  first | refine zg1 ?_ | refine zg0 ?_ | refine zg2 ?_ | refine zg3 ?_
  simp -dsimp only [simprocAttr, ↓vpre, zpm, cmT_flat, cmT_cells, cmT_share, cmT_shareCell]
  refine at_intro ?_
  simp -dsimp only [vend, ne_eq, Nat.reduceEqDiff, reduceCtorEq]
  first | refine awp_block (awp_loop (ι := {k : Nat // k ≤ rows.length}) (fun k => ⟨92, [(0, eD datas), (1, eRR rows), (9, .mp 0 0), (10, .lst 2 ((mrows 0 (rows.take k.1)).map MRow.enc) (.tok 2)), (11, .lst 1 ((pathsOf (if k.1 = 0 then 0 else tys.length)).map eI) (.tok 3)), (32, eRR rows), (33, aI rows.length), (34, aI k.1)], [.cells [cmT t, .lst 6 [] (.tok 1), aI 0, .v (.bool false)], .spare 0, .spare k.1, .spare (if k.1 = 0 then 0 else tys.length)]⟩) (fun k => rows.length - k.1) ⟨0, by omega⟩ ?_ ?_) | refine awp_seq (awp_block (awp_loop (ι := {k : Nat // k ≤ rows.length}) (fun k => ⟨92, [(0, eD datas), (1, eRR rows), (9, .mp 0 0), (10, .lst 2 ((mrows 0 (rows.take k.1)).map MRow.enc) (.tok 2)), (11, .lst 1 ((pathsOf (if k.1 = 0 then 0 else tys.length)).map eI) (.tok 3)), (32, eRR rows), (33, aI rows.length), (34, aI k.1)], [.cells [cmT t, .lst 6 [] (.tok 1), aI 0, .v (.bool false)], .spare 0, .spare k.1, .spare (if k.1 = 0 then 0 else tys.length)]⟩) (fun k => rows.length - k.1) ⟨0, by omega⟩ ?_ ?_))
  ·refine ⟨rfl, ?_, ?_⟩
   rotate_left
   simp -dsimp only [simprocAttr, ↓vpre, zpm, cmT_flat, cmT_cells, cmT_share, cmT_shareCell, Says, exists_eq_left', Option.some.injEq, sub_self, and_assoc, true_and, and_true]
   ·exact ⟨Sub.lst (by simp [mrows]), Sub.lst (by simp [pathsOf])⟩
   ·simp
  ·rintro ⟨k, hk⟩
   have hml : (mrows 0 (rows.take k)).length = k := by
    rw [mrows_len, List.length_take]
    omega
   first | refine zg1 ?_ | refine zg0 ?_ | refine zg2 ?_ | refine zg3 ?_
   simp -dsimp only [simprocAttr, ↓vpre, zpm, cmT_flat, cmT_cells, cmT_share, cmT_shareCell]
   refine at_intro ?_
   simp -dsimp only [vend, ne_eq, Nat.reduceEqDiff, reduceCtorEq]
   first | refine zk1 rfl (fun h => ?_) (fun h => ?_) | refine zk0 rfl (fun h => ?_) (fun h => ?_) | refine zk2 rfl (fun h => ?_) (fun h => ?_)
   ·refine awp_skip ?_
    simp -dsimp only [vend, ne_eq, Nat.reduceEqDiff, reduceCtorEq]
    have hlt : k < rows.length := by simpa using h
    obtain ⟨r, hr⟩ : ∃ r, rows[k]? = some r := ⟨rows[k], by simp [hlt]⟩
    have hrl := htys r (List.mem_of_getElem? hr)
    have hnext : mrows 0 (rows.take (k + 1)) = mrows 0 (rows.take k) ++ [⟨(k : Int), r⟩] := by
     rw [take_next hr, mrows_snoc, List.length_take, show 0 + min k rows.length = k by omega]
    first | refine awp_seq (awp_block ?_) | refine awp_block ?_
    first | refine zg1 ?_ | refine zg0 ?_ | refine zg2 ?_ | refine zg3 ?_
    simp -dsimp only [simprocAttr, ↓vpre, zpm, cmT_flat, cmT_cells, cmT_share, cmT_shareCell, hr]
    refine at_intro ?_
    simp -dsimp only [vend, ne_eq, Nat.reduceEqDiff, reduceCtorEq]
    first | refine zg1 ?_ | refine zg0 ?_ | refine zg2 ?_ | refine zg3 ?_
    simp -dsimp only [simprocAttr, ↓vpre, zpm, cmT_flat, cmT_cells, cmT_share, cmT_shareCell, hml]
    repeat (refine ⟨by omega, ?_⟩)
    refine at_intro ?_
    simp -dsimp only [vend, ne_eq, Nat.reduceEqDiff, reduceCtorEq]
    by_cases hk0 : k = 0
    ·subst hk0
     first | refine zg1 ?_ | refine zg0 ?_ | refine zg2 ?_ | refine zg3 ?_
     simp -dsimp only [simprocAttr, ↓vpre, zpm, cmT_flat, cmT_cells, cmT_share, cmT_shareCell]
     refine at_intro ?_
     simp -dsimp only [vend, ne_eq, Nat.reduceEqDiff, reduceCtorEq]
     first | refine zk1 rfl (fun h => ?_) (fun h => ?_) | refine zk0 rfl (fun h => ?_) (fun h => ?_) | refine zk2 rfl (fun h => ?_) (fun h => ?_)
     ·first | refine zg1 ?_ | refine zg0 ?_ | refine zg2 ?_ | refine zg3 ?_
      simp -dsimp only [simprocAttr, ↓vpre, zpm, cmT_flat, cmT_cells, cmT_share, cmT_shareCell]
      refine at_intro ?_
      simp -dsimp only [vend, ne_eq, Nat.reduceEqDiff, reduceCtorEq]
      first | refine awp_block (awp_loop (ι := {j : Nat // j ≤ tys.length}) (fun j => ⟨92, [(0, eD datas), (1, eRR rows), (9, .mp 0 0), (10, .lst 2 ((mrows 0 (rows.take 1)).map MRow.enc) (.tok 2)), (11, .lst 1 ((pathsOf j.1).map eI) (.tok 3)), (32, eRR rows), (33, aI rows.length), (34, aI 0), (48, aI tys.length), (49, aI j.1)], [.cells [cmT t, .lst 6 [] (.tok 1), aI 0, .v (.bool false)], .spare 0, .spare 1, .spare j.1]⟩) (fun j => tys.length - j.1) ⟨0, by omega⟩ ?_ ?_) | refine awp_seq (awp_block (awp_loop (ι := {j : Nat // j ≤ tys.length}) (fun j => ⟨92, [(0, eD datas), (1, eRR rows), (9, .mp 0 0), (10, .lst 2 ((mrows 0 (rows.take 1)).map MRow.enc) (.tok 2)), (11, .lst 1 ((pathsOf j.1).map eI) (.tok 3)), (32, eRR rows), (33, aI rows.length), (34, aI 0), (48, aI tys.length), (49, aI j.1)], [.cells [cmT t, .lst 6 [] (.tok 1), aI 0, .v (.bool false)], .spare 0, .spare 1, .spare j.1]⟩) (fun j => tys.length - j.1) ⟨0, by omega⟩ ?_ ?_))
      ·refine ⟨rfl, ?_, ?_⟩
       rotate_left
       simp -dsimp only [simprocAttr, ↓vpre, zpm, cmT_flat, cmT_cells, cmT_share, cmT_shareCell, Says, exists_eq_left', Option.some.injEq, sub_self, and_assoc, true_and, and_true]
       ·refine ⟨Sub.lst ?_, Sub.int (by rw [hrl])⟩
        have e : mrows 0 (rows.take 1) = mrows 0 [] ++ [⟨((0 : Nat) : Int), r⟩] := hnext
        rw [e]
        simp [MRow.enc]
       ·rfl
      ·rintro ⟨j, hj⟩
       first | refine zg1 ?_ | refine zg0 ?_ | refine zg2 ?_ | refine zg3 ?_
       simp -dsimp only [simprocAttr, ↓vpre, zpm, cmT_flat, cmT_cells, cmT_share, cmT_shareCell]
       refine at_intro ?_
       simp -dsimp only [vend, ne_eq, Nat.reduceEqDiff, reduceCtorEq]
       first | refine zk1 rfl (fun h => ?_) (fun h => ?_) | refine zk0 rfl (fun h => ?_) (fun h => ?_) | refine zk2 rfl (fun h => ?_) (fun h => ?_)
       ·refine awp_skip ?_
        simp -dsimp only [vend, ne_eq, Nat.reduceEqDiff, reduceCtorEq]
        have hltj : j < tys.length := by simpa using h
        first | refine awp_seq (awp_block ?_) | refine awp_block ?_
        first | refine zg1 ?_ | refine zg0 ?_ | refine zg2 ?_ | refine zg3 ?_
        simp -dsimp only [simprocAttr, ↓vpre, zpm, cmT_flat, cmT_cells, cmT_share, cmT_shareCell]
        refine at_intro ?_
        simp -dsimp only [vend, ne_eq, Nat.reduceEqDiff, reduceCtorEq]
        first | refine zg1 ?_ | refine zg0 ?_ | refine zg2 ?_ | refine zg3 ?_
        simp -dsimp only [simprocAttr, ↓vpre, zpm, cmT_flat, cmT_cells, cmT_share, cmT_shareCell, pathsOf_len]
        repeat (refine ⟨by omega, ?_⟩)
        refine at_intro ?_
        simp -dsimp only [vend, ne_eq, Nat.reduceEqDiff, reduceCtorEq]
        first | refine zg1 ?_ | refine zg0 ?_ | refine zg2 ?_ | refine zg3 ?_
        simp -dsimp only [simprocAttr, ↓vpre, zpm, cmT_flat, cmT_cells, cmT_share, cmT_shareCell]
        repeat (refine ⟨by omega, ?_⟩)
        refine at_intro ?_
        simp -dsimp only [vend, ne_eq, Nat.reduceEqDiff, reduceCtorEq]
        refine ⟨⟨j + 1, hltj⟩, by simp; omega, ?_⟩
        refine ⟨rfl, ?_, ?_⟩
        rotate_left
        simp -dsimp only [simprocAttr, ↓vpre, zpm, cmT_flat, cmT_cells, cmT_share, cmT_shareCell, Says, exists_eq_left', Option.some.injEq, sub_self, and_assoc, true_and, and_true]
        ·exact ⟨Sub.lst (by rw [pathsOf_succ]; simp), Sub.int (by simp)⟩
        ·rfl
       ·refine awp_exit ?_
        simp -dsimp only [vend, ne_eq, Nat.reduceEqDiff, reduceCtorEq]
        have hjj : j = tys.length := by simp at h; omega
        subst hjj
        first | refine zg1 ?_ | refine zg0 ?_ | refine zg2 ?_ | refine zg3 ?_
        simp -dsimp only [simprocAttr, ↓vpre, zpm, cmT_flat, cmT_cells, cmT_share, cmT_shareCell]
        repeat (refine ⟨by omega, ?_⟩)
        refine at_intro ?_
        simp -dsimp only [vend, ne_eq, Nat.reduceEqDiff, reduceCtorEq]
        refine ⟨⟨1, hlt⟩, by simp; omega, ?_⟩
        refine ⟨rfl, ?_, ?_⟩
        rotate_left
        simp -dsimp only [simprocAttr, ↓vpre, zpm, cmT_flat, cmT_cells, cmT_share, cmT_shareCell, Says, exists_eq_left', Option.some.injEq, sub_self, and_assoc, true_and, and_true]
        rfl
     ·simp at h
    ·have hkd : decide ((k : Int) = 0) = false := decide_eq_false (by omega)
     first | refine zg1 ?_ | refine zg0 ?_ | refine zg2 ?_ | refine zg3 ?_
     simp -dsimp only [simprocAttr, ↓vpre, zpm, cmT_flat, cmT_cells, cmT_share, cmT_shareCell, hkd]
     refine at_intro ?_
     simp -dsimp only [vend, ne_eq, Nat.reduceEqDiff, reduceCtorEq]
     first | refine zk1 rfl (fun h => ?_) (fun h => ?_) | refine zk0 rfl (fun h => ?_) (fun h => ?_) | refine zk2 rfl (fun h => ?_) (fun h => ?_)
     ·cases h
     ·refine awp_skip ?_
      simp -dsimp only [vend, ne_eq, Nat.reduceEqDiff, reduceCtorEq]
      first | refine zg1 ?_ | refine zg0 ?_ | refine zg2 ?_ | refine zg3 ?_
      simp -dsimp only [simprocAttr, ↓vpre, zpm, cmT_flat, cmT_cells, cmT_share, cmT_shareCell]
      repeat (refine ⟨by omega, ?_⟩)
      refine at_intro ?_
      simp -dsimp only [vend, ne_eq, Nat.reduceEqDiff, reduceCtorEq]
      refine ⟨⟨k + 1, hlt⟩, by simp; omega, ?_⟩
      refine ⟨rfl, ?_, ?_⟩
      rotate_left
      simp -dsimp only [simprocAttr, ↓vpre, zpm, cmT_flat, cmT_cells, cmT_share, cmT_shareCell, Says, exists_eq_left', Option.some.injEq, sub_self, and_assoc, true_and, and_true]
      ·refine ⟨Sub.lst ?_, ?_, Sub.int (by simp)⟩
       ·rw [hnext]
        simp [MRow.enc]
       ·rw [if_neg hk0]
        exact Sub.refl _
      ·simp [hk0]
   ·refine awp_exit ?_
    simp -dsimp only [vend, ne_eq, Nat.reduceEqDiff, reduceCtorEq]
    have hkk : k = rows.length := by simp at h; omega
    subst hkk
    have hpp : (if rows.length = 0 then 0 else tys.length) = tys.length := by
     split
     ·rename_i e
      exact (hpn (List.length_eq_zero_iff.1 e)).symm
     ·rfl
    simp only [List.take_length, hpp]
    have hb' := ECall.of_share (args := [.mp 0 0, .lst 2 ((mrows 0 rows).map MRow.enc) (.tok 2), .lst 1 ((pathsOf tys.length).map eI) (.tok 3)]) (ECall.frame hbuild rfl (by simp [uptoL, AVal.upto, MRow.map_upto, eI_upto]) hobj [.spare rows.length, .spare tys.length])
    first | refine zg1 ?_ | refine zg0 ?_ | refine zg2 ?_ | refine zg3 ?_
    simp -dsimp only [simprocAttr, ↓vpre, zpm, cmT_flat, cmT_cells, cmT_share, cmT_shareCell]
    refine .inr (.inl ⟨_, _, hb', .inl (later_intro ?_)⟩)
    simp -dsimp only [simprocAttr, ↓vpre, zpm, cmT_flat, cmT_cells, cmT_share, cmT_shareCell]
    refine at_intro ?_
    simp -dsimp only [vend, ne_eq, Nat.reduceEqDiff, reduceCtorEq]
    cases hf : Z.2.full with
    | true =>
     simp only [if_true]
     first | refine zg1 ?_ | refine zg0 ?_ | refine zg2 ?_ | refine zg3 ?_
     simp -dsimp only [simprocAttr, ↓vpre, zpm, cmT_flat, cmT_cells, cmT_share, cmT_shareCell, hf]
     refine at_intro ?_
     simp -dsimp only [vend, ne_eq, Nat.reduceEqDiff, reduceCtorEq]
     first | refine zk1 rfl (fun h => ?_) (fun h => ?_) | refine zk0 rfl (fun h => ?_) (fun h => ?_) | refine zk2 rfl (fun h => ?_) (fun h => ?_)
     ·first | refine zg1 ?_ | refine zg0 ?_ | refine zg2 ?_ | refine zg3 ?_
      simp -dsimp only [simprocAttr, ↓vpre, zpm, cmT_flat, cmT_cells, cmT_share, cmT_shareCell]
      refine at_intro ?_
      simp -dsimp only [vend, ne_eq, Nat.reduceEqDiff, reduceCtorEq]
      refine awp_ret ?_
      simp -dsimp only [simprocAttr, ↓vpre, zpm, cmT_flat, cmT_cells, cmT_share, cmT_shareCell, RetTo, Try.results18, retVals, retVal, mkRet, AVal.upto, Nat.zero_le, Nat.le_refl, seqPost_ret, blockPost_ret, loopPost_ret]
      exact ⟨by simp [uptoL, AVal.upto], rfl⟩
     ·cases h
    | false =>
     obtain ⟨hv, hrp⟩ := hrep hf
     have hlt := hrp.lt
     simp only [Bool.false_eq_true, if_false]
     first | refine zg1 ?_ | refine zg0 ?_ | refine zg2 ?_ | refine zg3 ?_
     simp -dsimp only [simprocAttr, ↓vpre, zpm, cmT_flat, cmT_cells, cmT_share, cmT_shareCell, hf]
     refine at_intro ?_
     simp -dsimp only [vend, ne_eq, Nat.reduceEqDiff, reduceCtorEq]
     first | refine zk1 rfl (fun h => ?_) (fun h => ?_) | refine zk0 rfl (fun h => ?_) (fun h => ?_) | refine zk2 rfl (fun h => ?_) (fun h => ?_)
     ·cases h
     ·have hz : (Z.1 + 1).toNat = Z.1.toNat + 1 := by omega
      have hNl : (Z.2.outs.take (Z.1.toNat + 1)).length = Z.1.toNat + 1 := by
       rw [List.length_take]
       omega
      have hpl : ∀ u ∈ Z.2.outs.take (Z.1.toNat + 1), u.path.length ≤ 2 ^ 30 := fun u hu => by
       obtain ⟨i, hi⟩ := List.mem_iff_getElem?.1 (List.mem_of_mem_take hu)
       have := (hv i u hi).2.1
       omega
      generalize hN : Z.2.outs.take (Z.1.toNat + 1) = N at hNl hpl
      have hNe : N ≠ [] := fun e => by
       rw [e] at hNl
       simp at hNl
      have hclone := cloneM_spec N hNe (by omega) [.cells [cmT t, .lst 6 (Z.2.outs.map MTree.enc) (.tok 1), .v (.int .i64 Z.2.many), .v (.bool false)], .spare Z.2.outs.length, .spare rows.length, .spare tys.length] (by simp [AObj.upto, uptoL, AVal.upto, MTree.map_upto, hcmu])
      refine awp_skip ?_
      simp -dsimp only [vend, ne_eq, Nat.reduceEqDiff, reduceCtorEq]
      first | refine zg1 ?_ | refine zg0 ?_ | refine zg2 ?_ | refine zg3 ?_
      simp -dsimp only [simprocAttr, ↓vpre, zpm, cmT_flat, cmT_cells, cmT_share, cmT_shareCell, hz, ← List.map_take, hN]
      repeat (refine ⟨by omega, ?_⟩)
      refine .inr (.inl ⟨_, _, hclone, .inl (later_intro ?_)⟩)
      simp -dsimp only [simprocAttr, ↓vpre, zpm, cmT_flat, cmT_cells, cmT_share, cmT_shareCell]
      refine at_intro ?_
      simp -dsimp only [vend, ne_eq, Nat.reduceEqDiff, reduceCtorEq]
      first | refine zg1 ?_ | refine zg0 ?_ | refine zg2 ?_ | refine zg3 ?_
      simp -dsimp only [simprocAttr, ↓vpre, zpm, cmT_flat, cmT_cells, cmT_share, cmT_shareCell]
      refine at_intro ?_
      simp -dsimp only [vend, ne_eq, Nat.reduceEqDiff, reduceCtorEq]
      first | refine awp_block (awp_loop (ι := {k : Nat // k ≤ N.length}) (fun k => ⟨92, [(16, .ms 4 0 N.length N.length), (75, .ms 4 0 N.length N.length), (76, aI N.length), (77, aI k.1)], [.cells [cmT t, .lst 6 (Z.2.outs.map MTree.enc) (.tok 1), .v (.int .i64 Z.2.many), .v (.bool false)], .spare Z.2.outs.length, .spare rows.length, .spare tys.length, .cells (cellsAll (N.map MTree.enc))]⟩) (fun k => N.length - k.1) ⟨0, by omega⟩ ?_ ?_) | refine awp_seq (awp_block (awp_loop (ι := {k : Nat // k ≤ N.length}) (fun k => ⟨92, [(16, .ms 4 0 N.length N.length), (75, .ms 4 0 N.length N.length), (76, aI N.length), (77, aI k.1)], [.cells [cmT t, .lst 6 (Z.2.outs.map MTree.enc) (.tok 1), .v (.int .i64 Z.2.many), .v (.bool false)], .spare Z.2.outs.length, .spare rows.length, .spare tys.length, .cells (cellsAll (N.map MTree.enc))]⟩) (fun k => N.length - k.1) ⟨0, by omega⟩ ?_ ?_))
      ·refine ⟨rfl, ?_, ?_⟩
       rotate_left
       simp -dsimp only [simprocAttr, ↓vpre, zpm, cmT_flat, cmT_cells, cmT_share, cmT_shareCell, Says, exists_eq_left', Option.some.injEq, sub_self, and_assoc, true_and, and_true]
       rfl
      ·rintro ⟨k, hk⟩
       first | refine zg1 ?_ | refine zg0 ?_ | refine zg2 ?_ | refine zg3 ?_
       simp -dsimp only [simprocAttr, ↓vpre, zpm, cmT_flat, cmT_cells, cmT_share, cmT_shareCell]
       refine at_intro ?_
       simp -dsimp only [vend, ne_eq, Nat.reduceEqDiff, reduceCtorEq]
       first | refine zk1 rfl (fun h => ?_) (fun h => ?_) | refine zk0 rfl (fun h => ?_) (fun h => ?_) | refine zk2 rfl (fun h => ?_) (fun h => ?_)
       ·refine awp_skip ?_
        simp -dsimp only [vend, ne_eq, Nat.reduceEqDiff, reduceCtorEq]
        have hltk : k < N.length := by simpa using h
        obtain ⟨u, hu⟩ : ∃ u, N[k]? = some u := ⟨N[k], by simp [hltk]⟩
        have hcell := tcell hu
        first | refine awp_seq (awp_block ?_) | refine awp_block ?_
        first | refine zg1 ?_ | refine zg0 ?_ | refine zg2 ?_ | refine zg3 ?_
        simp -dsimp only [simprocAttr, ↓vpre, zpm, cmT_flat, cmT_cells, cmT_share, cmT_shareCell]
        refine at_intro ?_
        simp -dsimp only [vend, ne_eq, Nat.reduceEqDiff, reduceCtorEq]
        have hlen6 : k * 6 + 2 + 1 ≤ (cellsAll (N.map MTree.enc)).length := by
         have := (List.getElem?_eq_some_iff.1 hcell).1
         omega
        first | refine zg1 ?_ | refine zg0 ?_ | refine zg2 ?_ | refine zg3 ?_
        simp -dsimp only [simprocAttr, ↓vpre, zpm, cmT_flat, cmT_cells, cmT_share, cmT_shareCell, hcell]
        refine ⟨by omega, ?_⟩
        refine .inl ⟨_, cloneI_pure u.path (hpl u (List.mem_of_getElem? hu)), by first | (simp only [uptoL, AVal.upto, zt, zum]; done) | (simp [uptoL, AVal.upto, zum]; done), later_intro ?_⟩
        simp -dsimp only [simprocAttr, ↓vpre, zpm, cmT_flat, cmT_cells, cmT_share, cmT_shareCell, splice_same hcell]
        refine ⟨by omega, hlen6, ?_⟩
        refine at_intro ?_
        simp -dsimp only [vend, ne_eq, Nat.reduceEqDiff, reduceCtorEq]
        first | refine zg1 ?_ | refine zg0 ?_ | refine zg2 ?_ | refine zg3 ?_
        simp -dsimp only [simprocAttr, ↓vpre, zpm, cmT_flat, cmT_cells, cmT_share, cmT_shareCell]
        repeat (refine ⟨by omega, ?_⟩)
        refine at_intro ?_
        simp -dsimp only [vend, ne_eq, Nat.reduceEqDiff, reduceCtorEq]
        refine ⟨⟨k + 1, hltk⟩, by simp; omega, ?_⟩
        refine ⟨rfl, ?_, ?_⟩
        rotate_left
        simp -dsimp only [simprocAttr, ↓vpre, zpm, cmT_flat, cmT_cells, cmT_share, cmT_shareCell, Says, exists_eq_left', Option.some.injEq, sub_self, and_assoc, true_and, and_true]
        ·exact Sub.int (by simp)
        ·rfl
       ·refine awp_exit ?_
        simp -dsimp only [vend, ne_eq, Nat.reduceEqDiff, reduceCtorEq]
        have hkk : k = N.length := by simp at h; omega
        subst hkk
        refine awp_freeze1 16 4 (.lst 6 (N.map MTree.enc) .sh) rfl (by simp [AObj.isSpare]) trivial rfl ?_ ?_
        rotate_left
        simp -dsimp only [simprocAttr, ↓vpre, zpm, cmT_flat, cmT_cells, cmT_share, cmT_shareCell]
        ·first | refine zg1 ?_ | refine zg0 ?_ | refine zg2 ?_ | refine zg3 ?_
         simp -dsimp only [simprocAttr, ↓vpre, zpm, cmT_flat, cmT_cells, cmT_share, cmT_shareCell]
         refine at_intro ?_
         simp -dsimp only [vend, ne_eq, Nat.reduceEqDiff, reduceCtorEq]
         refine awp_ret ?_
         simp -dsimp only [simprocAttr, ↓vpre, zpm, cmT_flat, cmT_cells, cmT_share, cmT_shareCell, RetTo, Try.results18, retVals, retVal, mkRet, AVal.upto, Nat.zero_le, Nat.le_refl, seqPost_ret, blockPost_ret, loopPost_ret]
         simp [uptoL, AVal.upto, MTree.map_upto]
        ·refine FSub.ms rfl ?_ (by simp) ?_
         ·intro x hx
          obtain ⟨y, _, rfl⟩ := List.mem_map.1 hx
          rfl
         ·have hsix : ∀ x ∈ N.map MTree.enc, x.cells.length = 6 := fun x hx => by
           obtain ⟨y, _, rfl⟩ := List.mem_map.1 hx
           rfl
          rw [List.drop_zero, List.take_of_length_le (by rw [cellsAll_length hsix, List.length_map]; exact Nat.le_refl _), ← cellsAll_share, MTree.map_share]

theorem compile_bad {datas : List Data} {rows : List (List Pat)} (h0 : check datas rows ≠ 0) : PCall Try.prog 18 [eD datas, eRR rows] (.tup [eT (compileE datas rows).1, aI (compileE datas rows).2]) := by
 have hcheck := Check_spec datas rows
 have hE : compileE datas rows = ([], check datas rows) := by
  unfold compileE
  rw [if_pos h0]
 have hd : (!decide (check datas rows = 0)) = true := by simpa using h0
 rw [hE]
 generalize check datas rows = e at hcheck hd
 refine ecall_of hT true 0 Try.func18 rfl (by kernel_rfl) (by simp [Try.ntmps18]) (by simp) ?_
 show AWP Try.prog _ _ _ ⟨92, _, _⟩
 dsimp only [Tmp, TypeId, slotsOf]
 first | refine zg1 ?_ | refine zg0 ?_ | refine zg2 ?_ | refine zg3 ?_
 simp -dsimp only [simprocAttr, ↓vpre, zpm, cmT_flat, cmT_cells, cmT_share, cmT_shareCell]
 refine at_intro ?_
 simp -dsimp only [vend, ne_eq, Nat.reduceEqDiff, reduceCtorEq]
 first | refine zg1 ?_ | refine zg0 ?_ | refine zg2 ?_ | refine zg3 ?_
 simp -dsimp only [simprocAttr, ↓vpre, zpm, cmT_flat, cmT_cells, cmT_share, cmT_shareCell]
 refine .inl ⟨_, hcheck, by first | (simp only [uptoL, AVal.upto, zt, zum]; done) | (simp [uptoL, AVal.upto, zum]; done), later_intro ?_⟩
 simp -dsimp only [simprocAttr, ↓vpre, zpm, cmT_flat, cmT_cells, cmT_share, cmT_shareCell]
 refine at_intro ?_
 simp -dsimp only [vend, ne_eq, Nat.reduceEqDiff, reduceCtorEq]
 first | refine zg1 ?_ | refine zg0 ?_ | refine zg2 ?_ | refine zg3 ?_
 simp -dsimp only [simprocAttr, ↓vpre, zpm, cmT_flat, cmT_cells, cmT_share, cmT_shareCell, hd]
 refine at_intro ?_
 simp -dsimp only [vend, ne_eq, Nat.reduceEqDiff, reduceCtorEq]
 first | refine zk1 rfl (fun h => ?_) (fun h => ?_) | refine zk0 rfl (fun h => ?_) (fun h => ?_) | refine zk2 rfl (fun h => ?_) (fun h => ?_)
 ·first | refine zg1 ?_ | refine zg0 ?_ | refine zg2 ?_ | refine zg3 ?_
  simp -dsimp only [simprocAttr, ↓vpre, zpm, cmT_flat, cmT_cells, cmT_share, cmT_shareCell]
  refine at_intro ?_
  simp -dsimp only [vend, ne_eq, Nat.reduceEqDiff, reduceCtorEq]
  refine awp_ret ?_
  simp -dsimp only [simprocAttr, ↓vpre, zpm, cmT_flat, cmT_cells, cmT_share, cmT_shareCell, RetTo, Try.results18, retVals, retVal, mkRet, AVal.upto, Nat.zero_le, Nat.le_refl, seqPost_ret, blockPost_ret, loopPost_ret]
  exact ⟨by simp [uptoL, AVal.upto], rfl⟩
 ·cases h

theorem compile_spec (datas : List Data) (rows : List (List Pat)) : PCall Try.prog 18 [eD datas, eRR rows] (.tup [eT (compileE datas rows).1, aI (compileE datas rows).2]) := by
 by_cases h0 : check datas rows = 0
 ·exact compile_ok h0
 ·exact compile_bad h0

end Go.Proofs.Ytakdmelemfnmdaa
end

section
set_option linter.unusedSimpArgs false
set_option maxRecDepth 100000
set_option maxHeartbeats 1000000
-- !tab vtab vmat
-- !upto Pat.enc_upto Pat.map_upto MRow.enc_upto MRow.map_upto aI_upto eI_upto nS_upto MTree.enc_upto MTree.map_upto Con.map_upto Data.map_upto
namespace Go.Proofs.Ytakdmelemfnmdaa
open Go.Av

abbrev eDl (datas : List Data) (ad : Addr) : AVal := .lst 3 (datas.map Data.enc) (.loc ad)

/-- What index keeps of a constructor: the address of its data type. -/
def ixEntryAt (datas : List Data) (ad : Addr) (p : ByteArray × K) : Value × AVal := (.string p.1, .ip (some ⟨ad.block, ad.off + p.2.data * 3, none⟩) (dataAt datas p.2.data).enc.cells)

theorem look_ixAt (datas : List Data) (ad : Addr) : ∀ (l : List (ByteArray × K)) (s : ByteArray), lookV (l.map (ixEntryAt datas ad)) (.string s) = (find l s).map fun k => AVal.ip (some ⟨ad.block, ad.off + k.data * 3, none⟩) (dataAt datas k.data).enc.cells
 | [], _ => rfl
 | (n, k) :: r, s => by
  simp only [List.map_cons, ixEntryAt, lookV, find, look_ixAt datas ad r s]
  have : eqKey (.string n) (.string s) = decide (n = s) := by
   simp [eqKey]
  rw [this]
  by_cases h : n = s <;> simp [h]

theorem put_ixAt (datas : List Data) (ad : Addr) : ∀ (l : List (ByteArray × K)) (s : ByteArray) (k : K), find l s = none → putV (l.map (ixEntryAt datas ad)) (.string s) (.ip (some ⟨ad.block, ad.off + k.data * 3, none⟩) (dataAt datas k.data).enc.cells) = (l ++ [(s, k)]).map (ixEntryAt datas ad)
 | [], _, _, _ => rfl
 | (n, k') :: r, s, k, h => by
  simp only [find] at h
  split at h
  ·cases h
  ·rename_i hn
   have : eqKey (.string n) (.string s) = decide (n = s) := by
    simp [eqKey]
   simp only [List.map_cons, List.cons_append, ixEntryAt, putV, this, hn, decide_false, Bool.false_eq_true, if_false]
   have ih := put_ixAt datas ad r s k h
   rw [← ih]

theorem ix_uptoAt (datas : List Data) (ad : Addr) (n : Nat) (l : List (ByteArray × K)) : uptoE n (l.map (ixEntryAt datas ad)) := by
 rw [uptoE_iff]
 intro x hx
 obtain ⟨p, _, rfl⟩ := List.mem_map.1 hx
 have := (dataAt datas p.2.data).enc_upto n
 exact this

def ixResAt (datas : List Data) (ad : Addr) : Option Tbl → AVal
 | some t => .tup [.im .str (t.cons.map (ixEntryAt datas ad)), aI 0]
 | none => .tup [.v (.map none), aI 7]

theorem index_spec_at (datas : List Data) (ad : Addr) : PCall Try.prog 30 [eDl datas ad] (ixResAt datas ad (build datas)) := by
 refine ecall_of hT true 0 Try.func30 rfl (by kernel_rfl) (by simp [Try.ntmps30]) (by simp) ?_
 show AWP Try.prog _ _ _ ⟨38, _, _⟩
 dsimp only [Tmp, TypeId, slotsOf]
 first | refine zg1 ?_ | refine zg0 ?_ | refine zg2 ?_ | refine zg3 ?_
 simp -dsimp only [simprocAttr, ↓vpre, zpm]
 refine at_intro ?_
 simp -dsimp only [vend, ne_eq, Nat.reduceEqDiff, reduceCtorEq]
 first | refine zg1 ?_ | refine zg0 ?_ | refine zg2 ?_ | refine zg3 ?_
 simp -dsimp only [simprocAttr, ↓vpre, zpm]
 refine at_intro ?_
 simp -dsimp only [vend, ne_eq, Nat.reduceEqDiff, reduceCtorEq]
 refine awp_len 0 rfl (fun hlen => ?_)
 simp only [List.length_map] at hlen
 first | refine zg1 ?_ | refine zg0 ?_ | refine zg2 ?_ | refine zg3 ?_
 simp -dsimp only [simprocAttr, ↓vpre, zpm]
 refine at_intro ?_
 simp -dsimp only [vend, ne_eq, Nat.reduceEqDiff, reduceCtorEq]
 first | refine awp_block (awp_loop (ι := {q : Nat × List (ByteArray × K) // q.1 ≤ datas.length ∧ addDatas 0 datas [] = addDatas q.1 (datas.drop q.1) q.2}) (fun q => ⟨38, [(0, eDl datas ad), (4, .mm 0), (10, aI datas.length), (11, aI q.1.1)], [.map .str (q.1.2.map (ixEntryAt datas ad))]⟩) (fun q => datas.length - q.1.1) ⟨(0, []), by omega, rfl⟩ ?_ ?_) | refine awp_seq (awp_block (awp_loop (ι := {q : Nat × List (ByteArray × K) // q.1 ≤ datas.length ∧ addDatas 0 datas [] = addDatas q.1 (datas.drop q.1) q.2}) (fun q => ⟨38, [(0, eDl datas ad), (4, .mm 0), (10, aI datas.length), (11, aI q.1.1)], [.map .str (q.1.2.map (ixEntryAt datas ad))]⟩) (fun q => datas.length - q.1.1) ⟨(0, []), by omega, rfl⟩ ?_ ?_))
 ·refine ⟨rfl, ?_, ?_⟩
  rotate_left
  simp -dsimp only [simprocAttr, ↓vpre, zpm, Says, exists_eq_left', Option.some.injEq, sub_self, and_assoc, true_and, and_true]
  rfl
 ·rintro ⟨⟨k, acc⟩, hk, he⟩
  simp only at hk he
  first | refine zg1 ?_ | refine zg0 ?_ | refine zg2 ?_ | refine zg3 ?_
  simp -dsimp only [simprocAttr, ↓vpre, zpm]
  refine at_intro ?_
  simp -dsimp only [vend, ne_eq, Nat.reduceEqDiff, reduceCtorEq]
  first | refine zk1 rfl (fun h => ?_) (fun h => ?_) | refine zk0 rfl (fun h => ?_) (fun h => ?_) | refine zk2 rfl (fun h => ?_) (fun h => ?_)
  ·refine awp_skip ?_
   simp -dsimp only [vend, ne_eq, Nat.reduceEqDiff, reduceCtorEq]
   have hlt : k < datas.length := by simpa using h
   obtain ⟨d, hd⟩ : ∃ d : Data, datas[k]? = some d := ⟨datas[k], by simp [hlt]⟩
   have hat : dataAt datas k = d := by simp [dataAt, hd]
   have hdrop : datas.drop k = d :: datas.drop (k + 1) := by
    rw [List.drop_eq_getElem_cons hlt]
    rw [List.getElem?_eq_getElem hlt] at hd
    simp only [Option.some.injEq] at hd
    rw [hd]
   rw [hdrop, addDatas] at he
   first | refine awp_seq (awp_block ?_) | refine awp_block ?_
   first | refine zg1 ?_ | refine zg0 ?_ | refine zg2 ?_ | refine zg3 ?_
   simp -dsimp only [simprocAttr, ↓vpre, zpm]
   refine at_intro ?_
   simp -dsimp only [vend, ne_eq, Nat.reduceEqDiff, reduceCtorEq]
   first | refine zg1 ?_ | refine zg0 ?_ | refine zg2 ?_ | refine zg3 ?_
   simp -dsimp only [simprocAttr, ↓vpre, zpm, hd]
   refine at_intro ?_
   simp -dsimp only [vend, ne_eq, Nat.reduceEqDiff, reduceCtorEq]
   refine awp_len 18 rfl (fun hlc => ?_)
   simp only [List.length_map] at hlc
   first | refine awp_block (awp_loop (ι := {q : Nat × List (ByteArray × K) // q.1 ≤ d.cons.length ∧ addDatas 0 datas [] = (addCons k q.1 (d.cons.drop q.1) q.2).bind (addDatas (k + 1) (datas.drop (k + 1)))}) (fun q => ⟨38, [(18, eC d.cons), (19, aI d.cons.length), (20, aI q.1.1), (5, aI k), (0, eDl datas ad), (4, .mm 0), (10, aI datas.length), (11, aI k)], [.map .str (q.1.2.map (ixEntryAt datas ad))]⟩) (fun q => d.cons.length - q.1.1) ⟨(0, acc), by omega, he⟩ ?_ ?_) | refine awp_seq (awp_block (awp_loop (ι := {q : Nat × List (ByteArray × K) // q.1 ≤ d.cons.length ∧ addDatas 0 datas [] = (addCons k q.1 (d.cons.drop q.1) q.2).bind (addDatas (k + 1) (datas.drop (k + 1)))}) (fun q => ⟨38, [(18, eC d.cons), (19, aI d.cons.length), (20, aI q.1.1), (5, aI k), (0, eDl datas ad), (4, .mm 0), (10, aI datas.length), (11, aI k)], [.map .str (q.1.2.map (ixEntryAt datas ad))]⟩) (fun q => d.cons.length - q.1.1) ⟨(0, acc), by omega, he⟩ ?_ ?_))
   ·refine ⟨rfl, ?_, ?_⟩
    rotate_left
    simp -dsimp only [simprocAttr, ↓vpre, zpm, Says, exists_eq_left', Option.some.injEq, sub_self, and_assoc, true_and, and_true]
    rfl
   ·rintro ⟨⟨n, acc'⟩, hn, he'⟩
    simp only at hn he'
    first | refine zg1 ?_ | refine zg0 ?_ | refine zg2 ?_ | refine zg3 ?_
    simp -dsimp only [simprocAttr, ↓vpre, zpm]
    refine at_intro ?_
    simp -dsimp only [vend, ne_eq, Nat.reduceEqDiff, reduceCtorEq]
    first | refine zk1 rfl (fun h => ?_) (fun h => ?_) | refine zk0 rfl (fun h => ?_) (fun h => ?_) | refine zk2 rfl (fun h => ?_) (fun h => ?_)
    ·refine awp_skip ?_
     simp -dsimp only [vend, ne_eq, Nat.reduceEqDiff, reduceCtorEq]
     have hlt' : n < d.cons.length := by simpa using h
     obtain ⟨c, hc⟩ : ∃ c, d.cons[n]? = some c := ⟨d.cons[n], by simp [hlt']⟩
     have hdrop' : d.cons.drop n = c :: d.cons.drop (n + 1) := by
      rw [List.drop_eq_getElem_cons hlt']
      rw [List.getElem?_eq_getElem hlt'] at hc
      simp only [Option.some.injEq] at hc
      rw [hc]
     rw [hdrop', addCons] at he'
     first | refine awp_seq (awp_block ?_) | refine awp_block ?_
     first | refine zg1 ?_ | refine zg0 ?_ | refine zg2 ?_ | refine zg3 ?_
     simp -dsimp only [simprocAttr, ↓vpre, zpm, hc]
     refine at_intro ?_
     simp -dsimp only [vend, ne_eq, Nat.reduceEqDiff, reduceCtorEq]
     cases hf : find acc' c.name with
     | some x =>
      rw [hf] at he'
      have hb : build datas = none := by rw [build, he']; rfl
      first | refine zg1 ?_ | refine zg0 ?_ | refine zg2 ?_ | refine zg3 ?_
      simp -dsimp only [simprocAttr, ↓vpre, zpm, look_ixAt, hf, Option.map_some, Option.getD_some]
      refine ⟨⟨_, Try.underlying100⟩, ?_⟩
      refine at_intro ?_
      simp -dsimp only [vend, ne_eq, Nat.reduceEqDiff, reduceCtorEq]
      first | refine zk1 rfl (fun h => ?_) (fun h => ?_) | refine zk0 rfl (fun h => ?_) (fun h => ?_) | refine zk2 rfl (fun h => ?_) (fun h => ?_)
      ·first | refine zg1 ?_ | refine zg0 ?_ | refine zg2 ?_ | refine zg3 ?_
       simp -dsimp only [simprocAttr, ↓vpre, zpm]
       refine at_intro ?_
       simp -dsimp only [vend, ne_eq, Nat.reduceEqDiff, reduceCtorEq]
       refine awp_ret ?_
       simp -dsimp only [simprocAttr, ↓vpre, zpm, RetTo, Try.results30, retVals, retVal, mkRet, AVal.upto, Nat.zero_le, Nat.le_refl, seqPost_ret, blockPost_ret, loopPost_ret]
       rw [hb]
       exact ⟨by simp [uptoL, AVal.upto], rfl⟩
      ·cases h
     | none =>
      rw [hf] at he'
      have hput : putV (acc'.map (ixEntryAt datas ad)) (.string c.name) (.ip (some ⟨ad.block, ad.off + k * 3, none⟩) [.v (.string d.name), .v (.int .i64 d.params), .lst 2 (d.cons.map Con.enc) .sh]) = (acc' ++ [(c.name, (⟨k, n, c.args.length⟩ : K))]).map (ixEntryAt datas ad) := by
       rw [← put_ixAt datas ad acc' c.name ⟨k, n, c.args.length⟩ hf]
       simp only [hat]
       rfl
      first | refine zg1 ?_ | refine zg0 ?_ | refine zg2 ?_ | refine zg3 ?_
      simp -dsimp only [simprocAttr, ↓vpre, zpm, look_ixAt, hf, Option.map_none, Option.getD_none, List.getD_cons_zero]
      refine ⟨⟨_, Try.underlying100⟩, ?_⟩
      refine at_intro ?_
      simp -dsimp only [vend, ne_eq, Nat.reduceEqDiff, reduceCtorEq]
      first | refine zk1 rfl (fun h => ?_) (fun h => ?_) | refine zk0 rfl (fun h => ?_) (fun h => ?_) | refine zk2 rfl (fun h => ?_) (fun h => ?_)
      ·cases h
      ·refine awp_skip ?_
       simp -dsimp only [vend, ne_eq, Nat.reduceEqDiff, reduceCtorEq]
       first | refine zg1 ?_ | refine zg0 ?_ | refine zg2 ?_ | refine zg3 ?_
       simp -dsimp only [simprocAttr, ↓vpre, zpm, hd, hput]
       refine ⟨by (show orderB _ _ = true); kernel_rfl, at_intro ?_⟩
       simp -dsimp only [vend, ne_eq, Nat.reduceEqDiff, reduceCtorEq]
       refine awp_trunc' 1 [(18, eC d.cons), (19, aI d.cons.length), (20, aI n), (5, aI k), (0, eDl datas ad), (4, .mm 0), (10, aI datas.length), (11, aI k)] (by first | omega | (simp; done) | (simp; omega)) (by first | omega | (simp; done) | (simp; omega)) [.map .str ((acc' ++ [(c.name, (⟨k, n, c.args.length⟩ : K))]).map (ixEntryAt datas ad))] ?_ ?_ ?_ ?_ ?_
       ·rfl
       ·simp only [List.mem_singleton, forall_eq, AObj.upto]
        exact ix_uptoAt datas ad 1 _
       ·simp -dsimp only [simprocAttr, ↓vpre, zpm, Says, exists_eq_left', Option.some.injEq, sub_self, and_true]
       ·simp [AVal.upto, uptoL, Data.map_upto, Con.map_upto]
       ·first | refine zg1 ?_ | refine zg0 ?_ | refine zg2 ?_ | refine zg3 ?_
        simp -dsimp only [simprocAttr, ↓vpre, zpm]
        repeat (refine ⟨by omega, ?_⟩)
        refine at_intro ?_
        simp -dsimp only [vend, ne_eq, Nat.reduceEqDiff, reduceCtorEq]
        refine ⟨⟨(n + 1, acc' ++ [(c.name, (⟨k, n, c.args.length⟩ : K))]), hlt', he'⟩, by simp; omega, ?_⟩
        refine ⟨rfl, ?_, ?_⟩
        rotate_left
        simp -dsimp only [simprocAttr, ↓vpre, zpm, Says, exists_eq_left', Option.some.injEq, sub_self, and_assoc, true_and, and_true]
        ·exact Sub.int (by simp)
        ·rfl
    ·refine awp_exit ?_
     simp -dsimp only [vend, ne_eq, Nat.reduceEqDiff, reduceCtorEq]
     have hnn : n = d.cons.length := by simp at h; omega
     subst hnn
     rw [List.drop_length, addCons] at he'
     first | refine zg1 ?_ | refine zg0 ?_ | refine zg2 ?_ | refine zg3 ?_
     simp -dsimp only [simprocAttr, ↓vpre, zpm]
     repeat (refine ⟨by omega, ?_⟩)
     refine at_intro ?_
     simp -dsimp only [vend, ne_eq, Nat.reduceEqDiff, reduceCtorEq]
     refine ⟨⟨(k + 1, acc'), hlt, he'⟩, by simp; omega, ?_⟩
     refine ⟨rfl, ?_, ?_⟩
     rotate_left
     simp -dsimp only [simprocAttr, ↓vpre, zpm, Says, exists_eq_left', Option.some.injEq, sub_self, and_assoc, true_and, and_true]
     ·exact Sub.int (by simp)
     ·rfl
  ·refine awp_exit ?_
   simp -dsimp only [vend, ne_eq, Nat.reduceEqDiff, reduceCtorEq]
   have hkk : k = datas.length := by simp at h; omega
   subst hkk
   rw [List.drop_length, addDatas] at he
   have hb : build datas = some ⟨datas, acc⟩ := by rw [build, he]; rfl
   refine awp_freeze1 4 0 (.im .str (acc.map (ixEntryAt datas ad))) rfl (by simp [AObj.isSpare]) trivial rfl ?_ ?_
   rotate_left
   simp -dsimp only [simprocAttr, ↓vpre, zpm]
   ·first | refine zg1 ?_ | refine zg0 ?_ | refine zg2 ?_ | refine zg3 ?_
    simp -dsimp only [simprocAttr, ↓vpre, zpm]
    refine at_intro ?_
    simp -dsimp only [vend, ne_eq, Nat.reduceEqDiff, reduceCtorEq]
    refine awp_ret ?_
    simp -dsimp only [simprocAttr, ↓vpre, zpm, RetTo, Try.results30, retVals, retVal, mkRet, AVal.upto, Nat.zero_le, Nat.le_refl, seqPost_ret, blockPost_ret, loopPost_ret]
    rw [hb]
    exact ⟨by simp [uptoL, AVal.upto, ix_uptoAt], rfl⟩
   ·exact FSub.mm rfl

end Go.Proofs.Ytakdmelemfnmdaa
end

section
set_option linter.unusedSimpArgs false
set_option linter.unusedVariables false
set_option maxRecDepth 100000
set_option maxHeartbeats 1000000
-- !tab vtab vmat
-- !upto Pat.enc_upto Pat.map_upto MRow.enc_upto MRow.map_upto aI_upto eI_upto nS_upto MTree.enc_upto MTree.map_upto Con.map_upto Data.map_upto hup
namespace Go.Proofs.Ytakdmelemfnmdaa
open Go.Av

theorem indexFI_spec (f : Int → Bool) (id : Nat) (cs : List AVal) (hcs : cs.map AVal.share = cs) (hup : ∀ n, uptoL n cs) (l : List Int)
  (hf : ∀ x ∈ l, PCall Try.prog id (aI x :: cs) (.v (.bool (f x)))) :
  PCall Try.prog 88 [eI l, .fn (.func id) [] cs] (aI (idx f l)) := by
 refine ecall_of hT true 0 Try.func88 rfl (by kernel_rfl) (by simp [Try.ntmps88]) (by simp) ?_
 show AWP Try.prog _ _ _ ⟨19, _, _⟩
 dsimp only [Tmp, TypeId, slotsOf]
 first | refine zg1 ?_ | refine zg0 ?_ | refine zg2 ?_ | refine zg3 ?_
 simp -dsimp only [simprocAttr, ↓vpre, zpm]
 refine at_intro ?_
 simp -dsimp only [vend, ne_eq, Nat.reduceEqDiff, reduceCtorEq]
 refine awp_len 0 rfl (fun hlen => ?_)
 simp only [List.length_map] at hlen
 first | refine zg1 ?_ | refine zg0 ?_ | refine zg2 ?_ | refine zg3 ?_
 simp -dsimp only [simprocAttr, ↓vpre, zpm]
 refine at_intro ?_
 simp -dsimp only [vend, ne_eq, Nat.reduceEqDiff, reduceCtorEq]
 first | refine awp_block (awp_loop (ι := {k : Nat // k ≤ l.length ∧ ∀ j p, j < k → l[j]? = some p → f p = false}) (fun k => ⟨19, [(0, eI l), (1, .fn (.func id) [] cs), (7, .v (.int .i64 l.length)), (8, .v (.int .i64 k.1))], []⟩) (fun k => l.length - k.1) ⟨0, by omega, by intros; omega⟩ ?_ ?_) | refine awp_seq (awp_block (awp_loop (ι := {k : Nat // k ≤ l.length ∧ ∀ j p, j < k → l[j]? = some p → f p = false}) (fun k => ⟨19, [(0, eI l), (1, .fn (.func id) [] cs), (7, .v (.int .i64 l.length)), (8, .v (.int .i64 k.1))], []⟩) (fun k => l.length - k.1) ⟨0, by omega, by intros; omega⟩ ?_ ?_))
 ·refine ⟨rfl, ?_, ?_⟩
  rotate_left
  simp -dsimp only [simprocAttr, ↓vpre, zpm, Says, exists_eq_left', Option.some.injEq, sub_self, and_assoc, true_and, and_true]
  rfl
 ·rintro ⟨k, hk, hall⟩
  first | refine zg1 ?_ | refine zg0 ?_ | refine zg2 ?_ | refine zg3 ?_
  simp -dsimp only [simprocAttr, ↓vpre, zpm]
  refine at_intro ?_
  simp -dsimp only [vend, ne_eq, Nat.reduceEqDiff, reduceCtorEq]
  first | refine zk1 rfl (fun h => ?_) (fun h => ?_) | refine zk0 rfl (fun h => ?_) (fun h => ?_) | refine zk2 rfl (fun h => ?_) (fun h => ?_)
  ·refine awp_skip ?_
   simp -dsimp only [vend, ne_eq, Nat.reduceEqDiff, reduceCtorEq]
   have hlt : k < l.length := by simpa using h
   obtain ⟨p, hp⟩ : ∃ p, l[k]? = some p := ⟨l[k], by simp [hlt]⟩
   have hmem := List.mem_of_getElem? hp
   first | refine awp_seq (awp_block ?_) | refine awp_block ?_
   first | refine zg1 ?_ | refine zg0 ?_ | refine zg2 ?_ | refine zg3 ?_
   simp -dsimp only [simprocAttr, ↓vpre, zpm]
   refine at_intro ?_
   simp -dsimp only [vend, ne_eq, Nat.reduceEqDiff, reduceCtorEq]
   first | refine zg1 ?_ | refine zg0 ?_ | refine zg2 ?_ | refine zg3 ?_
   simp -dsimp only [simprocAttr, ↓vpre, zpm, hp, hcs]
   refine .inl ⟨_, (hf p hmem), by first | (simp only [uptoL, AVal.upto, zt, zum, hup]; done) | (simp [uptoL, AVal.upto, zum, hup]; done), later_intro ?_⟩
   simp -dsimp only [simprocAttr, ↓vpre, zpm]
   refine at_intro ?_
   simp -dsimp only [vend, ne_eq, Nat.reduceEqDiff, reduceCtorEq]
   first | refine zk1 rfl (fun h => ?_) (fun h => ?_) | refine zk0 rfl (fun h => ?_) (fun h => ?_) | refine zk2 rfl (fun h => ?_) (fun h => ?_)
   ·first | refine zg1 ?_ | refine zg0 ?_ | refine zg2 ?_ | refine zg3 ?_
    simp -dsimp only [simprocAttr, ↓vpre, zpm]
    refine at_intro ?_
    simp -dsimp only [vend, ne_eq, Nat.reduceEqDiff, reduceCtorEq]
    refine awp_ret ?_
    simp -dsimp only [simprocAttr, ↓vpre, zpm, RetTo, Try.results88, retVals, retVal, mkRet, AVal.upto, Nat.zero_le, Nat.le_refl, seqPost_ret, blockPost_ret, loopPost_ret]
    rw [idx_some hp h hall]
   ·refine awp_skip ?_
    simp -dsimp only [vend, ne_eq, Nat.reduceEqDiff, reduceCtorEq]
    have hb : f p = false := by simpa using h
    first | refine zg1 ?_ | refine zg0 ?_ | refine zg2 ?_ | refine zg3 ?_
    simp -dsimp only [simprocAttr, ↓vpre, zpm]
    refine ⟨by omega, by omega, ?_⟩
    refine at_intro ?_
    simp -dsimp only [vend, ne_eq, Nat.reduceEqDiff, reduceCtorEq]
    refine ⟨⟨k + 1, hlt, fun j q hj hq => ?_⟩, by simp; omega, ?_⟩
    ·rcases Nat.lt_succ_iff_lt_or_eq.1 hj with hj | hj
     ·exact hall j q hj hq
     ·subst hj
      rw [hp] at hq
      simp only [Option.some.injEq] at hq
      rw [← hq]
      exact hb
    refine ⟨rfl, ?_, ?_⟩
    rotate_left
    simp -dsimp only [simprocAttr, ↓vpre, zpm, Says, exists_eq_left', Option.some.injEq, sub_self, and_assoc, true_and, and_true]
    ·exact Sub.int (by simp)
    ·rfl
  ·refine awp_exit ?_
   simp -dsimp only [vend, ne_eq, Nat.reduceEqDiff, reduceCtorEq]
   have hlt : k = l.length := by simp at h; omega
   subst hlt
   first | refine zg1 ?_ | refine zg0 ?_ | refine zg2 ?_ | refine zg3 ?_
   simp -dsimp only [simprocAttr, ↓vpre, zpm]
   refine at_intro ?_
   simp -dsimp only [vend, ne_eq, Nat.reduceEqDiff, reduceCtorEq]
   refine awp_ret ?_
   simp -dsimp only [simprocAttr, ↓vpre, zpm, RetTo, Try.results88, retVals, retVal, mkRet, AVal.upto, Nat.zero_le, Nat.le_refl, seqPost_ret, blockPost_ret, loopPost_ret]
   rw [idx_none hall]

theorem containsFI_spec (f : Int → Bool) (id : Nat) (cs : List AVal) (hcs : cs.map AVal.share = cs) (hup : ∀ n, uptoL n cs) (l : List Int)
  (hf : ∀ x ∈ l, PCall Try.prog id (aI x :: cs) (.v (.bool (f x)))) :
  PCall Try.prog 63 [eI l, .fn (.func id) [] cs] (.v (.bool (l.any f))) := by
 refine ecall_of hT true 0 Try.func63 rfl (by kernel_rfl) (by simp [Try.ntmps63]) (by simp) ?_
 show AWP Try.prog _ _ _ ⟨9, _, _⟩
 dsimp only [Tmp, TypeId, slotsOf]
 first | refine zg1 ?_ | refine zg0 ?_ | refine zg2 ?_ | refine zg3 ?_
 simp -dsimp only [simprocAttr, ↓vpre, zpm]
 refine at_intro ?_
 simp -dsimp only [vend, ne_eq, Nat.reduceEqDiff, reduceCtorEq]
 first | refine zg1 ?_ | refine zg0 ?_ | refine zg2 ?_ | refine zg3 ?_
 simp -dsimp only [simprocAttr, ↓vpre, zpm, hcs]
 refine .inl ⟨_, indexFI_spec f id cs hcs hup l hf, by first | (simp only [uptoL, AVal.upto, zt, zum, hup]; done) | (simp [uptoL, AVal.upto, zum, hup]; done), later_intro ?_⟩
 simp -dsimp only [simprocAttr, ↓vpre, zpm]
 refine at_intro ?_
 simp -dsimp only [vend, ne_eq, Nat.reduceEqDiff, reduceCtorEq]
 refine awp_ret ?_
 simp -dsimp only [simprocAttr, ↓vpre, zpm, RetTo, Try.results63, retVals, retVal, mkRet, AVal.upto, Nat.zero_le, Nat.le_refl, seqPost_ret, blockPost_ret, loopPost_ret]
 rw [idx_any]

theorem indexFS_spec (f : ByteArray → Bool) (id : Nat) (cs : List AVal) (hcs : cs.map AVal.share = cs) (hup : ∀ n, uptoL n cs) (l : List ByteArray)
  (hf : ∀ x ∈ l, PCall Try.prog id (nS x :: cs) (.v (.bool (f x)))) :
  PCall Try.prog 89 [eSS l, .fn (.func id) [] cs] (aI (idx f l)) := by
 refine ecall_of hT true 0 Try.func89 rfl (by kernel_rfl) (by simp [Try.ntmps89]) (by simp) ?_
 show AWP Try.prog _ _ _ ⟨19, _, _⟩
 dsimp only [Tmp, TypeId, slotsOf]
 first | refine zg1 ?_ | refine zg0 ?_ | refine zg2 ?_ | refine zg3 ?_
 simp -dsimp only [simprocAttr, ↓vpre, zpm]
 refine at_intro ?_
 simp -dsimp only [vend, ne_eq, Nat.reduceEqDiff, reduceCtorEq]
 refine awp_len 0 rfl (fun hlen => ?_)
 simp only [List.length_map] at hlen
 first | refine zg1 ?_ | refine zg0 ?_ | refine zg2 ?_ | refine zg3 ?_
 simp -dsimp only [simprocAttr, ↓vpre, zpm]
 refine at_intro ?_
 simp -dsimp only [vend, ne_eq, Nat.reduceEqDiff, reduceCtorEq]
 first | refine awp_block (awp_loop (ι := {k : Nat // k ≤ l.length ∧ ∀ j p, j < k → l[j]? = some p → f p = false}) (fun k => ⟨19, [(0, eSS l), (1, .fn (.func id) [] cs), (7, .v (.int .i64 l.length)), (8, .v (.int .i64 k.1))], []⟩) (fun k => l.length - k.1) ⟨0, by omega, by intros; omega⟩ ?_ ?_) | refine awp_seq (awp_block (awp_loop (ι := {k : Nat // k ≤ l.length ∧ ∀ j p, j < k → l[j]? = some p → f p = false}) (fun k => ⟨19, [(0, eSS l), (1, .fn (.func id) [] cs), (7, .v (.int .i64 l.length)), (8, .v (.int .i64 k.1))], []⟩) (fun k => l.length - k.1) ⟨0, by omega, by intros; omega⟩ ?_ ?_))
 ·refine ⟨rfl, ?_, ?_⟩
  rotate_left
  simp -dsimp only [simprocAttr, ↓vpre, zpm, Says, exists_eq_left', Option.some.injEq, sub_self, and_assoc, true_and, and_true]
  rfl
 ·rintro ⟨k, hk, hall⟩
  first | refine zg1 ?_ | refine zg0 ?_ | refine zg2 ?_ | refine zg3 ?_
  simp -dsimp only [simprocAttr, ↓vpre, zpm]
  refine at_intro ?_
  simp -dsimp only [vend, ne_eq, Nat.reduceEqDiff, reduceCtorEq]
  first | refine zk1 rfl (fun h => ?_) (fun h => ?_) | refine zk0 rfl (fun h => ?_) (fun h => ?_) | refine zk2 rfl (fun h => ?_) (fun h => ?_)
  ·refine awp_skip ?_
   simp -dsimp only [vend, ne_eq, Nat.reduceEqDiff, reduceCtorEq]
   have hlt : k < l.length := by simpa using h
   obtain ⟨p, hp⟩ : ∃ p, l[k]? = some p := ⟨l[k], by simp [hlt]⟩
   have hmem := List.mem_of_getElem? hp
   first | refine awp_seq (awp_block ?_) | refine awp_block ?_
   first | refine zg1 ?_ | refine zg0 ?_ | refine zg2 ?_ | refine zg3 ?_
   simp -dsimp only [simprocAttr, ↓vpre, zpm]
   refine at_intro ?_
   simp -dsimp only [vend, ne_eq, Nat.reduceEqDiff, reduceCtorEq]
   first | refine zg1 ?_ | refine zg0 ?_ | refine zg2 ?_ | refine zg3 ?_
   simp -dsimp only [simprocAttr, ↓vpre, zpm, hp, hcs]
   refine .inl ⟨_, (hf p hmem), by first | (simp only [uptoL, AVal.upto, zt, zum, hup]; done) | (simp [uptoL, AVal.upto, zum, hup]; done), later_intro ?_⟩
   simp -dsimp only [simprocAttr, ↓vpre, zpm]
   refine at_intro ?_
   simp -dsimp only [vend, ne_eq, Nat.reduceEqDiff, reduceCtorEq]
   first | refine zk1 rfl (fun h => ?_) (fun h => ?_) | refine zk0 rfl (fun h => ?_) (fun h => ?_) | refine zk2 rfl (fun h => ?_) (fun h => ?_)
   ·first | refine zg1 ?_ | refine zg0 ?_ | refine zg2 ?_ | refine zg3 ?_
    simp -dsimp only [simprocAttr, ↓vpre, zpm]
    refine at_intro ?_
    simp -dsimp only [vend, ne_eq, Nat.reduceEqDiff, reduceCtorEq]
    refine awp_ret ?_
    simp -dsimp only [simprocAttr, ↓vpre, zpm, RetTo, Try.results89, retVals, retVal, mkRet, AVal.upto, Nat.zero_le, Nat.le_refl, seqPost_ret, blockPost_ret, loopPost_ret]
    rw [idx_some hp h hall]
   ·refine awp_skip ?_
    simp -dsimp only [vend, ne_eq, Nat.reduceEqDiff, reduceCtorEq]
    have hb : f p = false := by simpa using h
    first | refine zg1 ?_ | refine zg0 ?_ | refine zg2 ?_ | refine zg3 ?_
    simp -dsimp only [simprocAttr, ↓vpre, zpm]
    refine ⟨by omega, by omega, ?_⟩
    refine at_intro ?_
    simp -dsimp only [vend, ne_eq, Nat.reduceEqDiff, reduceCtorEq]
    refine ⟨⟨k + 1, hlt, fun j q hj hq => ?_⟩, by simp; omega, ?_⟩
    ·rcases Nat.lt_succ_iff_lt_or_eq.1 hj with hj | hj
     ·exact hall j q hj hq
     ·subst hj
      rw [hp] at hq
      simp only [Option.some.injEq] at hq
      rw [← hq]
      exact hb
    refine ⟨rfl, ?_, ?_⟩
    rotate_left
    simp -dsimp only [simprocAttr, ↓vpre, zpm, Says, exists_eq_left', Option.some.injEq, sub_self, and_assoc, true_and, and_true]
    ·exact Sub.int (by simp)
    ·rfl
  ·refine awp_exit ?_
   simp -dsimp only [vend, ne_eq, Nat.reduceEqDiff, reduceCtorEq]
   have hlt : k = l.length := by simp at h; omega
   subst hlt
   first | refine zg1 ?_ | refine zg0 ?_ | refine zg2 ?_ | refine zg3 ?_
   simp -dsimp only [simprocAttr, ↓vpre, zpm]
   refine at_intro ?_
   simp -dsimp only [vend, ne_eq, Nat.reduceEqDiff, reduceCtorEq]
   refine awp_ret ?_
   simp -dsimp only [simprocAttr, ↓vpre, zpm, RetTo, Try.results89, retVals, retVal, mkRet, AVal.upto, Nat.zero_le, Nat.le_refl, seqPost_ret, blockPost_ret, loopPost_ret]
   rw [idx_none hall]

theorem containsFS_spec (f : ByteArray → Bool) (id : Nat) (cs : List AVal) (hcs : cs.map AVal.share = cs) (hup : ∀ n, uptoL n cs) (l : List ByteArray)
  (hf : ∀ x ∈ l, PCall Try.prog id (nS x :: cs) (.v (.bool (f x)))) :
  PCall Try.prog 65 [eSS l, .fn (.func id) [] cs] (.v (.bool (l.any f))) := by
 refine ecall_of hT true 0 Try.func65 rfl (by kernel_rfl) (by simp [Try.ntmps65]) (by simp) ?_
 show AWP Try.prog _ _ _ ⟨9, _, _⟩
 dsimp only [Tmp, TypeId, slotsOf]
 first | refine zg1 ?_ | refine zg0 ?_ | refine zg2 ?_ | refine zg3 ?_
 simp -dsimp only [simprocAttr, ↓vpre, zpm]
 refine at_intro ?_
 simp -dsimp only [vend, ne_eq, Nat.reduceEqDiff, reduceCtorEq]
 first | refine zg1 ?_ | refine zg0 ?_ | refine zg2 ?_ | refine zg3 ?_
 simp -dsimp only [simprocAttr, ↓vpre, zpm, hcs]
 refine .inl ⟨_, indexFS_spec f id cs hcs hup l hf, by first | (simp only [uptoL, AVal.upto, zt, zum, hup]; done) | (simp [uptoL, AVal.upto, zum, hup]; done), later_intro ?_⟩
 simp -dsimp only [simprocAttr, ↓vpre, zpm]
 refine at_intro ?_
 simp -dsimp only [vend, ne_eq, Nat.reduceEqDiff, reduceCtorEq]
 refine awp_ret ?_
 simp -dsimp only [simprocAttr, ↓vpre, zpm, RetTo, Try.results65, retVals, retVal, mkRet, AVal.upto, Nat.zero_le, Nat.le_refl, seqPost_ret, blockPost_ret, loopPost_ret]
 rw [idx_any]

end Go.Proofs.Ytakdmelemfnmdaa
end

section
set_option linter.unusedSimpArgs false
set_option linter.unusedVariables false
set_option maxRecDepth 100000
set_option maxHeartbeats 1000000
-- !tab vtab vmat
-- !upto Pat.enc_upto Pat.map_upto MRow.enc_upto MRow.map_upto aI_upto eI_upto nS_upto MTree.enc_upto MTree.map_upto Con.map_upto Data.map_upto
namespace Go.Proofs.Ytakdmelemfnmdaa
open Go.Av

theorem indexS_spec (l : List ByteArray) (x : ByteArray) : PCall Try.prog 37 [eSS l, nS x] (aI (idx (fun y => decide (x = y)) l)) := by
 refine ecall_of hT true 0 Try.func37 rfl (by kernel_rfl) (by simp [Try.ntmps37]) (by simp) ?_
 show AWP Try.prog _ _ _ ⟨19, _, _⟩
 dsimp only [Tmp, TypeId, slotsOf]
 first | refine zg1 ?_ | refine zg0 ?_ | refine zg2 ?_ | refine zg3 ?_
 simp -dsimp only [simprocAttr, ↓vpre, zpm]
 refine at_intro ?_
 simp -dsimp only [vend, ne_eq, Nat.reduceEqDiff, reduceCtorEq]
 refine awp_len 0 rfl (fun hlen => ?_)
 simp only [List.length_map] at hlen
 first | refine zg1 ?_ | refine zg0 ?_ | refine zg2 ?_ | refine zg3 ?_
 simp -dsimp only [simprocAttr, ↓vpre, zpm]
 refine at_intro ?_
 simp -dsimp only [vend, ne_eq, Nat.reduceEqDiff, reduceCtorEq]
 first | refine awp_block (awp_loop (ι := {k : Nat // k ≤ l.length ∧ ∀ j p, j < k → l[j]? = some p → decide (x = p) = false}) (fun k => ⟨19, [(0, eSS l), (1, nS x), (7, .v (.int .i64 l.length)), (8, .v (.int .i64 k.1))], []⟩) (fun k => l.length - k.1) ⟨0, by omega, by intros; omega⟩ ?_ ?_) | refine awp_seq (awp_block (awp_loop (ι := {k : Nat // k ≤ l.length ∧ ∀ j p, j < k → l[j]? = some p → decide (x = p) = false}) (fun k => ⟨19, [(0, eSS l), (1, nS x), (7, .v (.int .i64 l.length)), (8, .v (.int .i64 k.1))], []⟩) (fun k => l.length - k.1) ⟨0, by omega, by intros; omega⟩ ?_ ?_))
 ·refine ⟨rfl, ?_, ?_⟩
  rotate_left
  simp -dsimp only [simprocAttr, ↓vpre, zpm, Says, exists_eq_left', Option.some.injEq, sub_self, and_assoc, true_and, and_true]
  rfl
 ·rintro ⟨k, hk, hall⟩
  first | refine zg1 ?_ | refine zg0 ?_ | refine zg2 ?_ | refine zg3 ?_
  simp -dsimp only [simprocAttr, ↓vpre, zpm]
  refine at_intro ?_
  simp -dsimp only [vend, ne_eq, Nat.reduceEqDiff, reduceCtorEq]
  first | refine zk1 rfl (fun h => ?_) (fun h => ?_) | refine zk0 rfl (fun h => ?_) (fun h => ?_) | refine zk2 rfl (fun h => ?_) (fun h => ?_)
  ·refine awp_skip ?_
   simp -dsimp only [vend, ne_eq, Nat.reduceEqDiff, reduceCtorEq]
   have hlt : k < l.length := by simpa using h
   obtain ⟨p, hp⟩ : ∃ p, l[k]? = some p := ⟨l[k], by simp [hlt]⟩
   first | refine awp_seq (awp_block ?_) | refine awp_block ?_
   first | refine zg1 ?_ | refine zg0 ?_ | refine zg2 ?_ | refine zg3 ?_
   simp -dsimp only [simprocAttr, ↓vpre, zpm]
   refine at_intro ?_
   simp -dsimp only [vend, ne_eq, Nat.reduceEqDiff, reduceCtorEq]
   first | refine zg1 ?_ | refine zg0 ?_ | refine zg2 ?_ | refine zg3 ?_
   simp -dsimp only [simprocAttr, ↓vpre, zpm, hp]
   refine at_intro ?_
   simp -dsimp only [vend, ne_eq, Nat.reduceEqDiff, reduceCtorEq]
   first | refine zk1 rfl (fun h => ?_) (fun h => ?_) | refine zk0 rfl (fun h => ?_) (fun h => ?_) | refine zk2 rfl (fun h => ?_) (fun h => ?_)
   ·first | refine zg1 ?_ | refine zg0 ?_ | refine zg2 ?_ | refine zg3 ?_
    simp -dsimp only [simprocAttr, ↓vpre, zpm]
    refine at_intro ?_
    simp -dsimp only [vend, ne_eq, Nat.reduceEqDiff, reduceCtorEq]
    refine awp_ret ?_
    simp -dsimp only [simprocAttr, ↓vpre, zpm, RetTo, Try.results37, retVals, retVal, mkRet, AVal.upto, Nat.zero_le, Nat.le_refl, seqPost_ret, blockPost_ret, loopPost_ret]
    rw [idx_some hp h hall]
   ·refine awp_skip ?_
    simp -dsimp only [vend, ne_eq, Nat.reduceEqDiff, reduceCtorEq]
    have hb : decide (x = p) = false := by simpa using h
    first | refine zg1 ?_ | refine zg0 ?_ | refine zg2 ?_ | refine zg3 ?_
    simp -dsimp only [simprocAttr, ↓vpre, zpm]
    refine ⟨by omega, by omega, ?_⟩
    refine at_intro ?_
    simp -dsimp only [vend, ne_eq, Nat.reduceEqDiff, reduceCtorEq]
    refine ⟨⟨k + 1, hlt, fun j q hj hq => ?_⟩, by simp; omega, ?_⟩
    ·rcases Nat.lt_succ_iff_lt_or_eq.1 hj with hj | hj
     ·exact hall j q hj hq
     ·subst hj
      rw [hp] at hq
      simp only [Option.some.injEq] at hq
      rw [← hq]
      exact hb
    refine ⟨rfl, ?_, ?_⟩
    rotate_left
    simp -dsimp only [simprocAttr, ↓vpre, zpm, Says, exists_eq_left', Option.some.injEq, sub_self, and_assoc, true_and, and_true]
    ·exact Sub.int (by simp)
    ·rfl
  ·refine awp_exit ?_
   simp -dsimp only [vend, ne_eq, Nat.reduceEqDiff, reduceCtorEq]
   have hlt : k = l.length := by simp at h; omega
   subst hlt
   first | refine zg1 ?_ | refine zg0 ?_ | refine zg2 ?_ | refine zg3 ?_
   simp -dsimp only [simprocAttr, ↓vpre, zpm]
   refine at_intro ?_
   simp -dsimp only [vend, ne_eq, Nat.reduceEqDiff, reduceCtorEq]
   refine awp_ret ?_
   simp -dsimp only [simprocAttr, ↓vpre, zpm, RetTo, Try.results37, retVals, retVal, mkRet, AVal.upto, Nat.zero_le, Nat.le_refl, seqPost_ret, blockPost_ret, loopPost_ret]
   rw [idx_none hall]

theorem containsS_spec (l : List ByteArray) (x : ByteArray) : PCall Try.prog 90 [eSS l, nS x] (.v (.bool (l.any fun y => decide (x = y)))) := by
 refine ecall_of hT true 0 Try.func90 rfl (by kernel_rfl) (by simp [Try.ntmps90]) (by simp) ?_
 show AWP Try.prog _ _ _ ⟨9, _, _⟩
 dsimp only [Tmp, TypeId, slotsOf]
 first | refine zg1 ?_ | refine zg0 ?_ | refine zg2 ?_ | refine zg3 ?_
 simp -dsimp only [simprocAttr, ↓vpre, zpm]
 refine at_intro ?_
 simp -dsimp only [vend, ne_eq, Nat.reduceEqDiff, reduceCtorEq]
 first | refine zg1 ?_ | refine zg0 ?_ | refine zg2 ?_ | refine zg3 ?_
 simp -dsimp only [simprocAttr, ↓vpre, zpm]
 refine .inl ⟨_, indexS_spec l x, by first | (simp only [uptoL, AVal.upto, zt, zum]; done) | (simp [uptoL, AVal.upto, zum]; done), later_intro ?_⟩
 simp -dsimp only [simprocAttr, ↓vpre, zpm]
 refine at_intro ?_
 simp -dsimp only [vend, ne_eq, Nat.reduceEqDiff, reduceCtorEq]
 refine awp_ret ?_
 simp -dsimp only [simprocAttr, ↓vpre, zpm, RetTo, Try.results90, retVals, retVal, mkRet, AVal.upto, Nat.zero_le, Nat.le_refl, seqPost_ret, blockPost_ret, loopPost_ret]
 rw [idx_any]

theorem twiceI_spec (l : List Int) (hl : l.Nodup) : PCall Try.prog 68 [eI l] (.v (.bool false)) := by
 refine ecall_of hT true 0 Try.func68 rfl (by kernel_rfl) (by simp [Try.ntmps68]) (by simp) ?_
 show AWP Try.prog _ _ _ ⟨18, _, _⟩
 dsimp only [Tmp, TypeId, slotsOf]
 first | refine zg1 ?_ | refine zg0 ?_ | refine zg2 ?_ | refine zg3 ?_
 simp -dsimp only [simprocAttr, ↓vpre, zpm]
 refine at_intro ?_
 simp -dsimp only [vend, ne_eq, Nat.reduceEqDiff, reduceCtorEq]
 refine awp_len 0 rfl (fun hlen => ?_)
 simp only [List.length_map] at hlen
 first | refine zg1 ?_ | refine zg0 ?_ | refine zg2 ?_ | refine zg3 ?_
 simp -dsimp only [simprocAttr, ↓vpre, zpm]
 refine at_intro ?_
 simp -dsimp only [vend, ne_eq, Nat.reduceEqDiff, reduceCtorEq]
 first | refine awp_block (awp_loop (ι := {k : Nat // k ≤ l.length}) (fun k => ⟨18, [(0, eI l), (5, eI l), (6, aI l.length), (7, aI k.1)], []⟩) (fun k => l.length - k.1) ⟨0, by omega⟩ ?_ ?_) | refine awp_seq (awp_block (awp_loop (ι := {k : Nat // k ≤ l.length}) (fun k => ⟨18, [(0, eI l), (5, eI l), (6, aI l.length), (7, aI k.1)], []⟩) (fun k => l.length - k.1) ⟨0, by omega⟩ ?_ ?_))
 ·refine ⟨rfl, ?_, ?_⟩
  rotate_left
  simp -dsimp only [simprocAttr, ↓vpre, zpm, Says, exists_eq_left', Option.some.injEq, sub_self, and_assoc, true_and, and_true]
  rfl
 ·rintro ⟨k, hk⟩
  first | refine zg1 ?_ | refine zg0 ?_ | refine zg2 ?_ | refine zg3 ?_
  simp -dsimp only [simprocAttr, ↓vpre, zpm]
  refine at_intro ?_
  simp -dsimp only [vend, ne_eq, Nat.reduceEqDiff, reduceCtorEq]
  first | refine zk1 rfl (fun h => ?_) (fun h => ?_) | refine zk0 rfl (fun h => ?_) (fun h => ?_) | refine zk2 rfl (fun h => ?_) (fun h => ?_)
  ·refine awp_skip ?_
   simp -dsimp only [vend, ne_eq, Nat.reduceEqDiff, reduceCtorEq]
   have hlt : k < l.length := by simpa using h
   obtain ⟨p, hp⟩ : ∃ p, l[k]? = some p := ⟨l[k], by simp [hlt]⟩
   have hno : decide (p ∈ l.take k) = false := by
    rw [split_get hp] at hl
    rw [List.nodup_append] at hl
    exact decide_eq_false fun hm => hl.2.2 p hm p (by simp) rfl
   first | refine awp_seq (awp_block ?_) | refine awp_block ?_
   first | refine zg1 ?_ | refine zg0 ?_ | refine zg2 ?_ | refine zg3 ?_
   simp -dsimp only [simprocAttr, ↓vpre, zpm, hp]
   refine at_intro ?_
   simp -dsimp only [vend, ne_eq, Nat.reduceEqDiff, reduceCtorEq]
   first | refine zg1 ?_ | refine zg0 ?_ | refine zg2 ?_ | refine zg3 ?_
   simp -dsimp only [simprocAttr, ↓vpre, zpm, ← List.map_take, Int.toNat_natCast]
   repeat (refine ⟨by omega, ?_⟩)
   refine .inl ⟨_, containsI_spec (l.take k) p, by first | (simp only [uptoL, AVal.upto, zt, zum]; done) | (simp [uptoL, AVal.upto, zum]; done), later_intro ?_⟩
   simp -dsimp only [simprocAttr, ↓vpre, zpm, hno]
   refine at_intro ?_
   simp -dsimp only [vend, ne_eq, Nat.reduceEqDiff, reduceCtorEq]
   first | refine zk1 rfl (fun h => ?_) (fun h => ?_) | refine zk0 rfl (fun h => ?_) (fun h => ?_) | refine zk2 rfl (fun h => ?_) (fun h => ?_)
   ·cases h
   ·refine awp_skip ?_
    simp -dsimp only [vend, ne_eq, Nat.reduceEqDiff, reduceCtorEq]
    first | refine zg1 ?_ | refine zg0 ?_ | refine zg2 ?_ | refine zg3 ?_
    simp -dsimp only [simprocAttr, ↓vpre, zpm]
    repeat (refine ⟨by omega, ?_⟩)
    refine at_intro ?_
    simp -dsimp only [vend, ne_eq, Nat.reduceEqDiff, reduceCtorEq]
    refine ⟨⟨k + 1, hlt⟩, by simp; omega, ?_⟩
    refine ⟨rfl, ?_, ?_⟩
    rotate_left
    simp -dsimp only [simprocAttr, ↓vpre, zpm, Says, exists_eq_left', Option.some.injEq, sub_self, and_assoc, true_and, and_true]
    ·exact Sub.int (by simp)
    ·rfl
  ·refine awp_exit ?_
   simp -dsimp only [vend, ne_eq, Nat.reduceEqDiff, reduceCtorEq]
   first | refine zg1 ?_ | refine zg0 ?_ | refine zg2 ?_ | refine zg3 ?_
   simp -dsimp only [simprocAttr, ↓vpre, zpm]
   refine at_intro ?_
   simp -dsimp only [vend, ne_eq, Nat.reduceEqDiff, reduceCtorEq]
   refine awp_ret ?_
   simp -dsimp only [simprocAttr, ↓vpre, zpm, RetTo, Try.results68, retVals, retVal, mkRet, AVal.upto, Nat.zero_le, Nat.le_refl, seqPost_ret, blockPost_ret, loopPost_ret]

theorem twiceS_spec (l : List ByteArray) (hl : l.Nodup) : PCall Try.prog 67 [eSS l] (.v (.bool false)) := by
 refine ecall_of hT true 0 Try.func67 rfl (by kernel_rfl) (by simp [Try.ntmps67]) (by simp) ?_
 show AWP Try.prog _ _ _ ⟨18, _, _⟩
 dsimp only [Tmp, TypeId, slotsOf]
 first | refine zg1 ?_ | refine zg0 ?_ | refine zg2 ?_ | refine zg3 ?_
 simp -dsimp only [simprocAttr, ↓vpre, zpm]
 refine at_intro ?_
 simp -dsimp only [vend, ne_eq, Nat.reduceEqDiff, reduceCtorEq]
 refine awp_len 0 rfl (fun hlen => ?_)
 simp only [List.length_map] at hlen
 first | refine zg1 ?_ | refine zg0 ?_ | refine zg2 ?_ | refine zg3 ?_
 simp -dsimp only [simprocAttr, ↓vpre, zpm]
 refine at_intro ?_
 simp -dsimp only [vend, ne_eq, Nat.reduceEqDiff, reduceCtorEq]
 first | refine awp_block (awp_loop (ι := {k : Nat // k ≤ l.length}) (fun k => ⟨18, [(0, eSS l), (5, eSS l), (6, aI l.length), (7, aI k.1)], []⟩) (fun k => l.length - k.1) ⟨0, by omega⟩ ?_ ?_) | refine awp_seq (awp_block (awp_loop (ι := {k : Nat // k ≤ l.length}) (fun k => ⟨18, [(0, eSS l), (5, eSS l), (6, aI l.length), (7, aI k.1)], []⟩) (fun k => l.length - k.1) ⟨0, by omega⟩ ?_ ?_))
 ·refine ⟨rfl, ?_, ?_⟩
  rotate_left
  simp -dsimp only [simprocAttr, ↓vpre, zpm, Says, exists_eq_left', Option.some.injEq, sub_self, and_assoc, true_and, and_true]
  rfl
 ·rintro ⟨k, hk⟩
  first | refine zg1 ?_ | refine zg0 ?_ | refine zg2 ?_ | refine zg3 ?_
  simp -dsimp only [simprocAttr, ↓vpre, zpm]
  refine at_intro ?_
  simp -dsimp only [vend, ne_eq, Nat.reduceEqDiff, reduceCtorEq]
  first | refine zk1 rfl (fun h => ?_) (fun h => ?_) | refine zk0 rfl (fun h => ?_) (fun h => ?_) | refine zk2 rfl (fun h => ?_) (fun h => ?_)
  ·refine awp_skip ?_
   simp -dsimp only [vend, ne_eq, Nat.reduceEqDiff, reduceCtorEq]
   have hlt : k < l.length := by simpa using h
   obtain ⟨p, hp⟩ : ∃ p, l[k]? = some p := ⟨l[k], by simp [hlt]⟩
   have hno : ((l.take k).any fun y => decide (p = y)) = false := by
    rw [split_get hp] at hl
    rw [List.nodup_append] at hl
    rw [List.any_eq_false]
    intro y hy
    simp only [decide_eq_true_eq]
    exact fun e => hl.2.2 y hy p (by simp) e.symm
   first | refine awp_seq (awp_block ?_) | refine awp_block ?_
   first | refine zg1 ?_ | refine zg0 ?_ | refine zg2 ?_ | refine zg3 ?_
   simp -dsimp only [simprocAttr, ↓vpre, zpm, hp]
   refine at_intro ?_
   simp -dsimp only [vend, ne_eq, Nat.reduceEqDiff, reduceCtorEq]
   first | refine zg1 ?_ | refine zg0 ?_ | refine zg2 ?_ | refine zg3 ?_
   simp -dsimp only [simprocAttr, ↓vpre, zpm, ← List.map_take, Int.toNat_natCast]
   repeat (refine ⟨by omega, ?_⟩)
   refine .inl ⟨_, containsS_spec (l.take k) p, by first | (simp only [uptoL, AVal.upto, zt, zum]; done) | (simp [uptoL, AVal.upto, zum]; done), later_intro ?_⟩
   simp -dsimp only [simprocAttr, ↓vpre, zpm, hno]
   refine at_intro ?_
   simp -dsimp only [vend, ne_eq, Nat.reduceEqDiff, reduceCtorEq]
   first | refine zk1 rfl (fun h => ?_) (fun h => ?_) | refine zk0 rfl (fun h => ?_) (fun h => ?_) | refine zk2 rfl (fun h => ?_) (fun h => ?_)
   ·cases h
   ·refine awp_skip ?_
    simp -dsimp only [vend, ne_eq, Nat.reduceEqDiff, reduceCtorEq]
    first | refine zg1 ?_ | refine zg0 ?_ | refine zg2 ?_ | refine zg3 ?_
    simp -dsimp only [simprocAttr, ↓vpre, zpm]
    repeat (refine ⟨by omega, ?_⟩)
    refine at_intro ?_
    simp -dsimp only [vend, ne_eq, Nat.reduceEqDiff, reduceCtorEq]
    refine ⟨⟨k + 1, hlt⟩, by simp; omega, ?_⟩
    refine ⟨rfl, ?_, ?_⟩
    rotate_left
    simp -dsimp only [simprocAttr, ↓vpre, zpm, Says, exists_eq_left', Option.some.injEq, sub_self, and_assoc, true_and, and_true]
    ·exact Sub.int (by simp)
    ·rfl
  ·refine awp_exit ?_
   simp -dsimp only [vend, ne_eq, Nat.reduceEqDiff, reduceCtorEq]
   first | refine zg1 ?_ | refine zg0 ?_ | refine zg2 ?_ | refine zg3 ?_
   simp -dsimp only [simprocAttr, ↓vpre, zpm]
   refine at_intro ?_
   simp -dsimp only [vend, ne_eq, Nat.reduceEqDiff, reduceCtorEq]
   refine awp_ret ?_
   simp -dsimp only [simprocAttr, ↓vpre, zpm, RetTo, Try.results67, retVals, retVal, mkRet, AVal.upto, Nat.zero_le, Nat.le_refl, seqPost_ret, blockPost_ret, loopPost_ret]

theorem node1_spec (x : Int) : PCall Try.prog 61 [aI x] (.v (.bool (decide (x < 0)))) := by
 refine ecall_of hT true 0 Try.func61 rfl (by kernel_rfl) (by simp [Try.ntmps61]) (by simp) ?_
 show AWP Try.prog _ _ _ ⟨5, _, _⟩
 dsimp only [Tmp, TypeId, slotsOf]
 first | refine zg1 ?_ | refine zg0 ?_ | refine zg2 ?_ | refine zg3 ?_
 simp -dsimp only [simprocAttr, ↓vpre, zpm]
 refine at_intro ?_
 simp -dsimp only [vend, ne_eq, Nat.reduceEqDiff, reduceCtorEq]
 first | refine zg1 ?_ | refine zg0 ?_ | refine zg2 ?_ | refine zg3 ?_
 simp -dsimp only [simprocAttr, ↓vpre, zpm]
 refine at_intro ?_
 simp -dsimp only [vend, ne_eq, Nat.reduceEqDiff, reduceCtorEq]
 refine awp_ret ?_
 simp -dsimp only [simprocAttr, ↓vpre, zpm, RetTo, Try.results61, retVals, retVal, mkRet, AVal.upto, Nat.zero_le, Nat.le_refl, seqPost_ret, blockPost_ret, loopPost_ret]

theorem node2_spec (x : Int) : PCall Try.prog 64 [aI x] (.v (.bool (decide (x < -1073741824) || decide (1073741823 < x)))) := by
 refine ecall_of hT true 0 Try.func64 rfl (by kernel_rfl) (by simp [Try.ntmps64]) (by simp) ?_
 show AWP Try.prog _ _ _ ⟨9, _, _⟩
 dsimp only [Tmp, TypeId, slotsOf]
 first | refine zg1 ?_ | refine zg0 ?_ | refine zg2 ?_ | refine zg3 ?_
 simp -dsimp only [simprocAttr, ↓vpre, zpm]
 refine at_intro ?_
 simp -dsimp only [vend, ne_eq, Nat.reduceEqDiff, reduceCtorEq]
 by_cases h1 : x < -1073741824
 ·have hd : decide (x < -1073741824) = true := decide_eq_true h1
  first | refine zg1 ?_ | refine zg0 ?_ | refine zg2 ?_ | refine zg3 ?_
  simp -dsimp only [simprocAttr, ↓vpre, zpm, hd]
  refine at_intro ?_
  simp -dsimp only [vend, ne_eq, Nat.reduceEqDiff, reduceCtorEq]
  refine awp_ret ?_
  simp -dsimp only [simprocAttr, ↓vpre, zpm, RetTo, Try.results64, retVals, retVal, mkRet, AVal.upto, Nat.zero_le, Nat.le_refl, seqPost_ret, blockPost_ret, loopPost_ret, hd]
  rfl
 ·have hd : decide (x < -1073741824) = false := decide_eq_false h1
  first | refine zg1 ?_ | refine zg0 ?_ | refine zg2 ?_ | refine zg3 ?_
  simp -dsimp only [simprocAttr, ↓vpre, zpm, hd]
  refine at_intro ?_
  simp -dsimp only [vend, ne_eq, Nat.reduceEqDiff, reduceCtorEq]
  refine awp_ret ?_
  simp -dsimp only [simprocAttr, ↓vpre, zpm, RetTo, Try.results64, retVals, retVal, mkRet, AVal.upto, Nat.zero_le, Nat.le_refl, seqPost_ret, blockPost_ret, loopPost_ret, hd]
  rfl

/-- The table of a Check, with the places of the data types. -/
def cmAt (t : Tbl) (ad : Addr) : AVal := .im .str (t.cons.map (ixEntryAt t.datas ad))

theorem node3_spec (t : Tbl) (ad : Addr) (s : ByteArray) (oa : Option Addr) {K : K} (hf : find t.cons s = some K) : PCall Try.prog 66 [nS s, .ip oa [cmAt t ad]] (.v (.bool false)) := by
 simp only [cmAt]
 refine ecall_of hT true 0 Try.func66 rfl (by kernel_rfl) (by simp [Try.ntmps66]) (by simp) ?_
 show AWP Try.prog _ _ _ ⟨8, _, _⟩
 dsimp only [Tmp, TypeId, slotsOf]
 first | refine zg1 ?_ | refine zg0 ?_ | refine zg2 ?_ | refine zg3 ?_
 simp -dsimp only [simprocAttr, ↓vpre, zpm]
 refine at_intro ?_
 simp -dsimp only [vend, ne_eq, Nat.reduceEqDiff, reduceCtorEq]
 first | refine zg1 ?_ | refine zg0 ?_ | refine zg2 ?_ | refine zg3 ?_
 simp -dsimp only [simprocAttr, ↓vpre, zpm, look_ixAt, hf, Option.map_some, Option.getD_some]
 refine ⟨⟨_, Try.underlying100⟩, ?_⟩
 refine at_intro ?_
 simp -dsimp only [vend, ne_eq, Nat.reduceEqDiff, reduceCtorEq]
 refine awp_ret ?_
 simp -dsimp only [simprocAttr, ↓vpre, zpm, RetTo, Try.results66, retVals, retVal, mkRet, AVal.upto, Nat.zero_le, Nat.le_refl, seqPost_ret, blockPost_ret, loopPost_ret]

theorem node4_spec (t : Tbl) (ad : Addr) (s s0 : ByteArray) (rest : List ByteArray) (a b c d e : AVal) (oa ob : Option Addr) {K1 K0 : K} (hf : find t.cons s = some K1) (hf0 : find t.cons s0 = some K0) (hd : K1.data = K0.data) (ha : ∀ n, a.upto n) :
  PCall Try.prog 69 [nS s, .ip oa [cmAt t ad], .ip ob [a, b, c, .lst 1 ((s0 :: rest).map nS) .sh, d, e]] (.v (.bool false)) := by
 simp only [cmAt]
 refine ecall_of hT true 0 Try.func69 rfl (by kernel_rfl) (by simp [Try.ntmps69]) (by simp) ?_
 show AWP Try.prog _ _ _ ⟨15, _, _⟩
 dsimp only [Tmp, TypeId, slotsOf]
 first | refine zg1 ?_ | refine zg0 ?_ | refine zg2 ?_ | refine zg3 ?_
 simp -dsimp only [simprocAttr, ↓vpre, zpm]
 refine at_intro ?_
 simp -dsimp only [vend, ne_eq, Nat.reduceEqDiff, reduceCtorEq]
 first | refine zg1 ?_ | refine zg0 ?_ | refine zg2 ?_ | refine zg3 ?_
 simp -dsimp only [simprocAttr, ↓vpre, zpm, look_ixAt, hf, hf0, hd, Option.map_some, Option.getD_some]
 refine ⟨⟨62, _, Try.underlying100, (hT 62 _ tab_62).sizeOf, by decide⟩, ?_⟩
 refine ⟨by (show orderB _ _ = true); kernel_rfl, at_intro ?_⟩
 simp -dsimp only [vend, ne_eq, Nat.reduceEqDiff, reduceCtorEq]
 refine awp_ret ?_
 simp -dsimp only [simprocAttr, ↓vpre, zpm, RetTo, Try.results69, retVals, retVal, mkRet, AVal.upto, Nat.zero_le, Nat.le_refl, seqPost_ret, blockPost_ret, loopPost_ret]

end Go.Proofs.Ytakdmelemfnmdaa
end

section
set_option linter.unusedSimpArgs false
set_option linter.unusedVariables false
set_option maxRecDepth 100000
set_option maxHeartbeats 2000000
-- !tab vtab vmat
-- !upto Pat.enc_upto Pat.map_upto MRow.enc_upto MRow.map_upto aI_upto eI_upto nS_upto MTree.enc_upto MTree.map_upto Con.map_upto Data.map_upto
namespace Go.Proofs.Ytakdmelemfnmdaa
open Go.Av

theorem bare_spec {t : Tbl} {u : MTree} (h : NodeOK t u) : PCall Try.prog 62 [u.enc] (.v (.bool true)) := by
 obtain ⟨h1000, _, h⟩ := h
 rcases h with ⟨hk, hr, hp, hn, hw, hks⟩ | ⟨hk, hr, hp, hn, hw, hks⟩ | ⟨hk, hr, hw, hp, hl, hne, _⟩ | ⟨hk, hr, hn, hp, hl, _⟩
 ·refine ecall_of hT true 0 Try.func62 rfl (by kernel_rfl) (by simp [Try.ntmps62]) (by simp) ?_
  show AWP Try.prog _ _ _ ⟨100, _, _⟩
  dsimp only [Tmp, TypeId, slotsOf]
  first | refine zg1 ?_ | refine zg0 ?_ | refine zg2 ?_ | refine zg3 ?_
  simp -dsimp only [simprocAttr, ↓vpre, zpm]
  refine at_intro ?_
  simp -dsimp only [vend, ne_eq, Nat.reduceEqDiff, reduceCtorEq]
  refine awp_freeze1 1 0 (.ip none u.enc.cells) rfl (by simp [AObj.isSpare]) trivial rfl ?_ ?_
  rotate_left
  simp -dsimp only [simprocAttr, ↓vpre, zpm]
  ·first | refine zg1 ?_ | refine zg0 ?_ | refine zg2 ?_ | refine zg3 ?_
   simp -dsimp only [simprocAttr, ↓vpre, zpm]
   refine at_intro ?_
   simp -dsimp only [vend, ne_eq, Nat.reduceEqDiff, reduceCtorEq]
   first | refine awp_seq (awp_block ?_) | refine awp_block ?_
   first | refine zg1 ?_ | refine zg0 ?_ | refine zg2 ?_ | refine zg3 ?_
   simp -dsimp only [simprocAttr, ↓vpre, zpm, hk]
   refine at_intro ?_
   simp -dsimp only [vend, ne_eq, Nat.reduceEqDiff, reduceCtorEq]
   first | refine zk1 rfl (fun h => ?_) (fun h => ?_) | refine zk0 rfl (fun h => ?_) (fun h => ?_) | refine zk2 rfl (fun h => ?_) (fun h => ?_)
   ·first | refine zg1 ?_ | refine zg0 ?_ | refine zg2 ?_ | refine zg3 ?_
    simp -dsimp only [simprocAttr, ↓vpre, zpm, hr, hp, hn, hw, hks]
    refine at_intro ?_
    simp -dsimp only [vend, ne_eq, Nat.reduceEqDiff, reduceCtorEq]
    refine awp_ret ?_
    simp -dsimp only [simprocAttr, ↓vpre, zpm, RetTo, Try.results62, retVals, retVal, mkRet, AVal.upto, Nat.zero_le, Nat.le_refl, seqPost_ret, blockPost_ret, loopPost_ret]
   ·cases h
  ·exact FSub.mp rfl rfl
 ·refine ecall_of hT true 0 Try.func62 rfl (by kernel_rfl) (by simp [Try.ntmps62]) (by simp) ?_
  show AWP Try.prog _ _ _ ⟨100, _, _⟩
  dsimp only [Tmp, TypeId, slotsOf]
  first | refine zg1 ?_ | refine zg0 ?_ | refine zg2 ?_ | refine zg3 ?_
  simp -dsimp only [simprocAttr, ↓vpre, zpm]
  refine at_intro ?_
  simp -dsimp only [vend, ne_eq, Nat.reduceEqDiff, reduceCtorEq]
  refine awp_freeze1 1 0 (.ip none u.enc.cells) rfl (by simp [AObj.isSpare]) trivial rfl ?_ ?_
  rotate_left
  simp -dsimp only [simprocAttr, ↓vpre, zpm]
  ·first | refine zg1 ?_ | refine zg0 ?_ | refine zg2 ?_ | refine zg3 ?_
   simp -dsimp only [simprocAttr, ↓vpre, zpm]
   refine at_intro ?_
   simp -dsimp only [vend, ne_eq, Nat.reduceEqDiff, reduceCtorEq]
   first | refine awp_seq (awp_block ?_) | refine awp_block ?_
   first | refine zg1 ?_ | refine zg0 ?_ | refine zg2 ?_ | refine zg3 ?_
   simp -dsimp only [simprocAttr, ↓vpre, zpm, hk]
   refine at_intro ?_
   simp -dsimp only [vend, ne_eq, Nat.reduceEqDiff, reduceCtorEq]
   first | refine zk1 rfl (fun h => ?_) (fun h => ?_) | refine zk0 rfl (fun h => ?_) (fun h => ?_) | refine zk2 rfl (fun h => ?_) (fun h => ?_)
   ·cases h
   ·first | refine zg1 ?_ | refine zg0 ?_ | refine zg2 ?_ | refine zg3 ?_
    simp -dsimp only [simprocAttr, ↓vpre, zpm, hk]
    refine at_intro ?_
    simp -dsimp only [vend, ne_eq, Nat.reduceEqDiff, reduceCtorEq]
    first | refine zk1 rfl (fun h => ?_) (fun h => ?_) | refine zk0 rfl (fun h => ?_) (fun h => ?_) | refine zk2 rfl (fun h => ?_) (fun h => ?_)
    ·first | refine zg1 ?_ | refine zg0 ?_ | refine zg2 ?_ | refine zg3 ?_
     simp -dsimp only [simprocAttr, ↓vpre, zpm, hr, hp, hn, hw, hks]
     refine at_intro ?_
     simp -dsimp only [vend, ne_eq, Nat.reduceEqDiff, reduceCtorEq]
     refine awp_ret ?_
     simp -dsimp only [simprocAttr, ↓vpre, zpm, RetTo, Try.results62, retVals, retVal, mkRet, AVal.upto, Nat.zero_le, Nat.le_refl, seqPost_ret, blockPost_ret, loopPost_ret]
    ·cases h
  ·exact FSub.mp rfl rfl
 ·have hpp : decide ((0 : Int) < u.path.length) = true := decide_eq_true (by have := List.length_pos_iff.2 hp; omega)
  have hkk : decide ((u.kids.length : Int) = (u.names.length : Int) + 1) = true := decide_eq_true (by omega)
  refine ecall_of hT true 0 Try.func62 rfl (by kernel_rfl) (by simp [Try.ntmps62]) (by simp) ?_
  show AWP Try.prog _ _ _ ⟨100, _, _⟩
  dsimp only [Tmp, TypeId, slotsOf]
  first | refine zg1 ?_ | refine zg0 ?_ | refine zg2 ?_ | refine zg3 ?_
  simp -dsimp only [simprocAttr, ↓vpre, zpm]
  refine at_intro ?_
  simp -dsimp only [vend, ne_eq, Nat.reduceEqDiff, reduceCtorEq]
  refine awp_freeze1 1 0 (.ip none u.enc.cells) rfl (by simp [AObj.isSpare]) trivial rfl ?_ ?_
  rotate_left
  simp -dsimp only [simprocAttr, ↓vpre, zpm]
  ·first | refine zg1 ?_ | refine zg0 ?_ | refine zg2 ?_ | refine zg3 ?_
   simp -dsimp only [simprocAttr, ↓vpre, zpm]
   refine at_intro ?_
   simp -dsimp only [vend, ne_eq, Nat.reduceEqDiff, reduceCtorEq]
   first | refine awp_seq (awp_block ?_) | refine awp_block ?_
   first | refine zg1 ?_ | refine zg0 ?_ | refine zg2 ?_ | refine zg3 ?_
   simp -dsimp only [simprocAttr, ↓vpre, zpm, hk]
   refine at_intro ?_
   simp -dsimp only [vend, ne_eq, Nat.reduceEqDiff, reduceCtorEq]
   first | refine zk1 rfl (fun h => ?_) (fun h => ?_) | refine zk0 rfl (fun h => ?_) (fun h => ?_) | refine zk2 rfl (fun h => ?_) (fun h => ?_)
   ·cases h
   ·first | refine zg1 ?_ | refine zg0 ?_ | refine zg2 ?_ | refine zg3 ?_
    simp -dsimp only [simprocAttr, ↓vpre, zpm, hk]
    refine at_intro ?_
    simp -dsimp only [vend, ne_eq, Nat.reduceEqDiff, reduceCtorEq]
    first | refine zk1 rfl (fun h => ?_) (fun h => ?_) | refine zk0 rfl (fun h => ?_) (fun h => ?_) | refine zk2 rfl (fun h => ?_) (fun h => ?_)
    ·cases h
    ·first | refine zg1 ?_ | refine zg0 ?_ | refine zg2 ?_ | refine zg3 ?_
     simp -dsimp only [simprocAttr, ↓vpre, zpm, hk]
     refine at_intro ?_
     simp -dsimp only [vend, ne_eq, Nat.reduceEqDiff, reduceCtorEq]
     first | refine zk1 rfl (fun h => ?_) (fun h => ?_) | refine zk0 rfl (fun h => ?_) (fun h => ?_) | refine zk2 rfl (fun h => ?_) (fun h => ?_)
     ·first | refine zg1 ?_ | refine zg0 ?_ | refine zg2 ?_ | refine zg3 ?_
      simp -dsimp only [simprocAttr, ↓vpre, zpm, hr, hw, hpp, hkk]
      repeat (refine ⟨by omega, ?_⟩)
      refine at_intro ?_
      simp -dsimp only [vend, ne_eq, Nat.reduceEqDiff, reduceCtorEq]
      refine awp_ret ?_
      simp -dsimp only [simprocAttr, ↓vpre, zpm, RetTo, Try.results62, retVals, retVal, mkRet, AVal.upto, Nat.zero_le, Nat.le_refl, seqPost_ret, blockPost_ret, loopPost_ret]
     ·cases h
  ·exact FSub.mp rfl rfl
 ·have hpp : decide ((0 : Int) < u.path.length) = true := decide_eq_true (by have := List.length_pos_iff.2 hp; omega)
  have hkk : decide ((u.kids.length : Int) = (u.words.length : Int) + 1) = true := decide_eq_true (by omega)
  refine ecall_of hT true 0 Try.func62 rfl (by kernel_rfl) (by simp [Try.ntmps62]) (by simp) ?_
  show AWP Try.prog _ _ _ ⟨100, _, _⟩
  dsimp only [Tmp, TypeId, slotsOf]
  first | refine zg1 ?_ | refine zg0 ?_ | refine zg2 ?_ | refine zg3 ?_
  simp -dsimp only [simprocAttr, ↓vpre, zpm]
  refine at_intro ?_
  simp -dsimp only [vend, ne_eq, Nat.reduceEqDiff, reduceCtorEq]
  refine awp_freeze1 1 0 (.ip none u.enc.cells) rfl (by simp [AObj.isSpare]) trivial rfl ?_ ?_
  rotate_left
  simp -dsimp only [simprocAttr, ↓vpre, zpm]
  ·first | refine zg1 ?_ | refine zg0 ?_ | refine zg2 ?_ | refine zg3 ?_
   simp -dsimp only [simprocAttr, ↓vpre, zpm]
   refine at_intro ?_
   simp -dsimp only [vend, ne_eq, Nat.reduceEqDiff, reduceCtorEq]
   first | refine awp_seq (awp_block ?_) | refine awp_block ?_
   first | refine zg1 ?_ | refine zg0 ?_ | refine zg2 ?_ | refine zg3 ?_
   simp -dsimp only [simprocAttr, ↓vpre, zpm, hk]
   refine at_intro ?_
   simp -dsimp only [vend, ne_eq, Nat.reduceEqDiff, reduceCtorEq]
   first | refine zk1 rfl (fun h => ?_) (fun h => ?_) | refine zk0 rfl (fun h => ?_) (fun h => ?_) | refine zk2 rfl (fun h => ?_) (fun h => ?_)
   ·cases h
   ·first | refine zg1 ?_ | refine zg0 ?_ | refine zg2 ?_ | refine zg3 ?_
    simp -dsimp only [simprocAttr, ↓vpre, zpm, hk]
    refine at_intro ?_
    simp -dsimp only [vend, ne_eq, Nat.reduceEqDiff, reduceCtorEq]
    first | refine zk1 rfl (fun h => ?_) (fun h => ?_) | refine zk0 rfl (fun h => ?_) (fun h => ?_) | refine zk2 rfl (fun h => ?_) (fun h => ?_)
    ·cases h
    ·first | refine zg1 ?_ | refine zg0 ?_ | refine zg2 ?_ | refine zg3 ?_
     simp -dsimp only [simprocAttr, ↓vpre, zpm, hk]
     refine at_intro ?_
     simp -dsimp only [vend, ne_eq, Nat.reduceEqDiff, reduceCtorEq]
     first | refine zk1 rfl (fun h => ?_) (fun h => ?_) | refine zk0 rfl (fun h => ?_) (fun h => ?_) | refine zk2 rfl (fun h => ?_) (fun h => ?_)
     ·cases h
     ·first | refine zg1 ?_ | refine zg0 ?_ | refine zg2 ?_ | refine zg3 ?_
      simp -dsimp only [simprocAttr, ↓vpre, zpm, hk]
      refine at_intro ?_
      simp -dsimp only [vend, ne_eq, Nat.reduceEqDiff, reduceCtorEq]
      first | refine zk1 rfl (fun h => ?_) (fun h => ?_) | refine zk0 rfl (fun h => ?_) (fun h => ?_) | refine zk2 rfl (fun h => ?_) (fun h => ?_)
      ·first | refine zg1 ?_ | refine zg0 ?_ | refine zg2 ?_ | refine zg3 ?_
       simp -dsimp only [simprocAttr, ↓vpre, zpm, hr, hn, hpp, hkk]
       repeat (refine ⟨by omega, ?_⟩)
       refine at_intro ?_
       simp -dsimp only [vend, ne_eq, Nat.reduceEqDiff, reduceCtorEq]
       refine awp_ret ?_
       simp -dsimp only [simprocAttr, ↓vpre, zpm, RetTo, Try.results62, retVals, retVal, mkRet, AVal.upto, Nat.zero_le, Nat.le_refl, seqPost_ret, blockPost_ret, loopPost_ret]
      ·cases h
  ·exact FSub.mp rfl rfl

end Go.Proofs.Ytakdmelemfnmdaa
end

section
set_option linter.unusedSimpArgs false
set_option linter.unusedVariables false
set_option maxRecDepth 100000
set_option maxHeartbeats 2000000
-- !tab vtab vmat
-- !upto Pat.enc_upto Pat.map_upto MRow.enc_upto MRow.map_upto aI_upto eI_upto nS_upto MTree.enc_upto MTree.map_upto Con.map_upto Data.map_upto ix_uptoAt
namespace Go.Proofs.Ytakdmelemfnmdaa
open Go.Av

structure NodeFacts (t : Tbl) (u : MTree) : Prop where
 row : decide (u.row < 0) = false
 path : u.path.any (fun x => decide (x < 0)) = false
 words : u.words.any (fun x => decide (x < -1073741824) || decide (1073741823 < x)) = false
 names : ∀ s ∈ u.names, ∃ K, find t.cons s = some K ∧ ∀ s0 rest, u.names = s0 :: rest → ∃ K0, find t.cons s0 = some K0 ∧ K.data = K0.data
 ndn : u.names.Nodup
 ndw : u.words.Nodup
 short : u.names.length ≤ 1000
 kids : ∀ (n : Nat) x, u.kids[n]? = some x → (n ≠ u.names.length ∧ 0 ≤ x) ∨ (n = u.names.length ∧ u.kind ≠ 2 ∧ 0 ≤ x) ∨ (n = u.names.length ∧ u.kind = 2 ∧ ∃ s0 rest K0, u.names = s0 :: rest ∧ find t.cons s0 = some K0 ∧ ((u.names.length = (dataAt t.datas K0.data).cons.length ∧ x = -1) ∨ (u.names.length ≠ (dataAt t.datas K0.data).cons.length ∧ 0 ≤ x)))

theorem node_facts {t : Tbl} {u : MTree} (h : NodeOK t u) : NodeFacts t u := by
 obtain ⟨h1000, hpos, h⟩ := h
 have hpath : u.path.any (fun x => decide (x < 0)) = false := by
  rw [List.any_eq_false]
  intro x hx
  have := hpos x hx
  simp
  omega
 rcases h with ⟨hk, hr, hp, hn, hw, hks⟩ | ⟨hk, hr, hp, hn, hw, hks⟩ | ⟨hk, hr, hw, hp, hl, hne, hnd, i, d, hd, hf, hkid⟩ | ⟨hk, hr, hn, hp, hl, hnd, hrng, hkid⟩
 ·exact ⟨decide_eq_false (by omega), hpath, by rw [hw]; rfl, by rw [hn]; simp, by rw [hn]; simp, by rw [hw]; simp, by rw [hn]; simp, by rw [hks]; simp⟩
 ·exact ⟨decide_eq_false (by omega), hpath, by rw [hw]; rfl, by rw [hn]; simp, by rw [hn]; simp, by rw [hw]; simp, by rw [hn]; simp, by rw [hks]; simp⟩
 ·refine ⟨decide_eq_false (by omega), hpath, by rw [hw]; rfl, fun s hs => ?_, hnd, by rw [hw]; simp, by omega, fun n x hx => ?_⟩
  ·obtain ⟨K, h1, h2⟩ := hf s hs
   refine ⟨K, h1, fun s0 rest e => ?_⟩
   obtain ⟨K0, h3, h4⟩ := hf s0 (by rw [e]; simp)
   exact ⟨K0, h3, by rw [h2, h4]⟩
  ·obtain ⟨k1, k2⟩ := hkid n x hx
   by_cases hnn : n = u.names.length
   ·refine .inr (.inr ⟨hnn, hk, ?_⟩)
    cases hnm : u.names with
    | nil => exact absurd hnm hne
    | cons s0 rest =>
     obtain ⟨K0, h3, h4⟩ := hf s0 (by rw [hnm]; simp)
     have hdat : dataAt t.datas K0.data = d := by
      unfold dataAt
      rw [h4, hd]
      rfl
     refine ⟨s0, rest, K0, rfl, h3, ?_⟩
     rw [hdat, ← hnm]
     by_cases he : u.names.length = d.cons.length
     ·exact .inl ⟨he, k2.2 ⟨hnn, he⟩⟩
     ·refine .inr ⟨he, ?_⟩
      have : x ≠ -1 := fun e => he (k2.1 e).2
      omega
   ·refine .inl ⟨hnn, ?_⟩
    have : x ≠ -1 := fun e => hnn (k2.1 e).1
    omega
 ·refine ⟨decide_eq_false (by omega), hpath, ?_, by rw [hn]; simp, by rw [hn]; simp, hnd, by rw [hn]; simp, fun n x hx => ?_⟩
  ·rw [List.any_eq_false]
   intro x hx
   have := hrng x hx
   simp
   omega
  ·have hx0 := hkid x (List.mem_of_getElem? hx)
   by_cases hnn : n = u.names.length
   ·exact .inr (.inl ⟨hnn, by omega, hx0⟩)
   ·exact .inl ⟨hnn, hx0⟩

theorem node_spec {t : Tbl} {u : MTree} (ad : Addr) (h : NodeOK t u) (k : Nat) (hkids : ∀ y ∈ u.kids, y < k) : PCall Try.prog 34 [cmAt t ad, u.enc, aI k] (aI 0) := by
 have hbare := bare_spec h
 have F := node_facts h
 have hrow := F.row
 have hp1 := containsFI_spec (fun x => decide (x < 0)) 61 [] rfl (fun _ => trivial) u.path (fun x _ => node1_spec x)
 rw [F.path] at hp1
 have hp2 := containsFI_spec (fun x => decide (x < -1073741824) || decide (1073741823 < x)) 64 [] rfl (fun _ => trivial) u.words (fun x _ => node2_spec x)
 rw [F.words] at hp2
 have hp3 := containsFS_spec (fun _ => false) 66 [.ip none [cmAt t ad]] rfl (fun n => by simp [uptoL, AVal.upto, cmAt, ix_uptoAt]) u.names (fun s hs => by
  obtain ⟨K, hf, _⟩ := F.names s hs
  exact node3_spec t ad s none hf)
 have hp4 := containsFS_spec (fun _ => false) 69 [.ip none [cmAt t ad], .ip none [.v (.int .i64 u.kind), .v (.int .i64 u.row), .lst 1 (u.path.map aI) .sh, .lst 1 (u.names.map nS) .sh, .lst 1 (u.words.map aI) .sh, .lst 1 (u.kids.map aI) .sh]] rfl (fun n => by simp [uptoL, AVal.upto, cmAt, ix_uptoAt, aI_upto, nS_upto]) u.names (fun s hs => by
  obtain ⟨K, hf, hh⟩ := F.names s hs
  cases hn : u.names with
  | nil =>
   rw [hn] at hs
   cases hs
  | cons s0 rest =>
   obtain ⟨K0, h1, h2⟩ := hh s0 rest hn
   exact node4_spec t ad s s0 rest _ _ _ _ _ none none hf h1 h2 (fun n => trivial))
 have hany : ∀ l : List ByteArray, l.any (fun _ => false) = false := fun l => by simp
 rw [hany] at hp3 hp4
 have hp5 := twiceS_spec u.names F.ndn
 have hp6 := twiceI_spec u.words F.ndw
 have hshort := F.short
 have h1000 := h.1
 simp only [cmAt] at hp3 hp4 ⊢
 refine ecall_of hT true 0 Try.func34 rfl (by kernel_rfl) (by simp [Try.ntmps34]) (by simp) ?_
 show AWP Try.prog _ _ _ ⟨103, _, _⟩
 dsimp only [Tmp, TypeId, slotsOf]
 first | refine zg1 ?_ | refine zg0 ?_ | refine zg2 ?_ | refine zg3 ?_
 simp -dsimp only [simprocAttr, ↓vpre, zpm]
 refine at_intro ?_
 simp -dsimp only [vend, ne_eq, Nat.reduceEqDiff, reduceCtorEq]
 refine awp_freeze1 3 0 (.ip none [.im .str (t.cons.map (ixEntryAt t.datas ad))]) rfl (by simp [AObj.isSpare]) trivial rfl ?_ ?_
 rotate_left
 simp -dsimp only [simprocAttr, ↓vpre, zpm]
 ·refine awp_freeze1 4 1 (.ip none u.enc.cells) rfl (by simp [AObj.isSpare]) trivial rfl ?_ ?_
  rotate_left
  simp -dsimp only [simprocAttr, ↓vpre, zpm]
  ·first | refine zg1 ?_ | refine zg0 ?_ | refine zg2 ?_ | refine zg3 ?_
   simp -dsimp only [simprocAttr, ↓vpre, zpm]
   refine at_intro ?_
   simp -dsimp only [vend, ne_eq, Nat.reduceEqDiff, reduceCtorEq]
   first | refine awp_seq (awp_block ?_) | refine awp_block ?_
   first | refine zg1 ?_ | refine zg0 ?_ | refine zg2 ?_ | refine zg3 ?_
   simp -dsimp only [simprocAttr, ↓vpre, zpm]
   refine .inl ⟨_, hbare, by first | (simp only [uptoL, AVal.upto, zt, zum, ix_uptoAt]; done) | (simp [uptoL, AVal.upto, zum, ix_uptoAt]; done), later_intro ?_⟩
   simp -dsimp only [simprocAttr, ↓vpre, zpm]
   refine at_intro ?_
   simp -dsimp only [vend, ne_eq, Nat.reduceEqDiff, reduceCtorEq]
   first | refine zk1 rfl (fun h => ?_) (fun h => ?_) | refine zk0 rfl (fun h => ?_) (fun h => ?_) | refine zk2 rfl (fun h => ?_) (fun h => ?_)
   ·cases h
   ·first | refine zg1 ?_ | refine zg0 ?_ | refine zg2 ?_ | refine zg3 ?_
    simp -dsimp only [simprocAttr, ↓vpre, zpm, hrow]
    refine .inl ⟨_, hp1, by first | (simp only [uptoL, AVal.upto, zt, zum, ix_uptoAt]; done) | (simp [uptoL, AVal.upto, zum, ix_uptoAt]; done), later_intro ?_⟩
    simp -dsimp only [simprocAttr, ↓vpre, zpm]
    refine .inl ⟨_, hp2, by first | (simp only [uptoL, AVal.upto, zt, zum, ix_uptoAt]; done) | (simp [uptoL, AVal.upto, zum, ix_uptoAt]; done), later_intro ?_⟩
    simp -dsimp only [simprocAttr, ↓vpre, zpm]
    refine at_intro ?_
    simp -dsimp only [vend, ne_eq, Nat.reduceEqDiff, reduceCtorEq]
    first | refine zk1 rfl (fun h => ?_) (fun h => ?_) | refine zk0 rfl (fun h => ?_) (fun h => ?_) | refine zk2 rfl (fun h => ?_) (fun h => ?_)
    ·cases h
    ·first | refine zg1 ?_ | refine zg0 ?_ | refine zg2 ?_ | refine zg3 ?_
     simp -dsimp only [simprocAttr, ↓vpre, zpm]
     refine .inl ⟨_, hp3, by first | (simp only [uptoL, AVal.upto, zt, zum, ix_uptoAt]; done) | (simp [uptoL, AVal.upto, zum, ix_uptoAt]; done), later_intro ?_⟩
     simp -dsimp only [simprocAttr, ↓vpre, zpm]
     refine at_intro ?_
     simp -dsimp only [vend, ne_eq, Nat.reduceEqDiff, reduceCtorEq]
     first | refine zk1 rfl (fun h => ?_) (fun h => ?_) | refine zk0 rfl (fun h => ?_) (fun h => ?_) | refine zk2 rfl (fun h => ?_) (fun h => ?_)
     ·cases h
     ·first | refine zg1 ?_ | refine zg0 ?_ | refine zg2 ?_ | refine zg3 ?_
      simp -dsimp only [simprocAttr, ↓vpre, zpm]
      refine .inl ⟨_, hp5, by first | (simp only [uptoL, AVal.upto, zt, zum, ix_uptoAt]; done) | (simp [uptoL, AVal.upto, zum, ix_uptoAt]; done), later_intro ?_⟩
      simp -dsimp only [simprocAttr, ↓vpre, zpm]
      refine .inl ⟨_, hp6, by first | (simp only [uptoL, AVal.upto, zt, zum, ix_uptoAt]; done) | (simp [uptoL, AVal.upto, zum, ix_uptoAt]; done), later_intro ?_⟩
      simp -dsimp only [simprocAttr, ↓vpre, zpm]
      refine at_intro ?_
      simp -dsimp only [vend, ne_eq, Nat.reduceEqDiff, reduceCtorEq]
      first | refine zk1 rfl (fun h => ?_) (fun h => ?_) | refine zk0 rfl (fun h => ?_) (fun h => ?_) | refine zk2 rfl (fun h => ?_) (fun h => ?_)
      ·cases h
      ·first | refine zg1 ?_ | refine zg0 ?_ | refine zg2 ?_ | refine zg3 ?_
       simp -dsimp only [simprocAttr, ↓vpre, zpm]
       refine .inl ⟨_, hp4, by first | (simp only [uptoL, AVal.upto, zt, zum, ix_uptoAt]; done) | (simp [uptoL, AVal.upto, zum, ix_uptoAt]; done), later_intro ?_⟩
       simp -dsimp only [simprocAttr, ↓vpre, zpm]
       refine at_intro ?_
       simp -dsimp only [vend, ne_eq, Nat.reduceEqDiff, reduceCtorEq]
       first | refine zk1 rfl (fun h => ?_) (fun h => ?_) | refine zk0 rfl (fun h => ?_) (fun h => ?_) | refine zk2 rfl (fun h => ?_) (fun h => ?_)
       ·cases h
       ·refine awp_skip ?_
        simp -dsimp only [vend, ne_eq, Nat.reduceEqDiff, reduceCtorEq]
        first | refine zg1 ?_ | refine zg0 ?_ | refine zg2 ?_ | refine zg3 ?_
        simp -dsimp only [simprocAttr, ↓vpre, zpm]
        refine at_intro ?_
        simp -dsimp only [vend, ne_eq, Nat.reduceEqDiff, reduceCtorEq]
        first | refine awp_block (awp_loop (ι := {n : Nat // n ≤ u.kids.length}) (fun n => ⟨103, [(2, aI k), (3, .ip none [.im .str (t.cons.map (ixEntryAt t.datas ad))]), (4, .ip none [.v (.int .i64 u.kind), .v (.int .i64 u.row), .lst 1 (u.path.map aI) .sh, .lst 1 (u.names.map nS) .sh, .lst 1 (u.words.map aI) .sh, .lst 1 (u.kids.map aI) .sh]), (50, eI u.kids), (51, aI u.kids.length), (52, aI n.1)], [.gone, .gone]⟩) (fun n => u.kids.length - n.1) ⟨0, by omega⟩ ?_ ?_) | refine awp_seq (awp_block (awp_loop (ι := {n : Nat // n ≤ u.kids.length}) (fun n => ⟨103, [(2, aI k), (3, .ip none [.im .str (t.cons.map (ixEntryAt t.datas ad))]), (4, .ip none [.v (.int .i64 u.kind), .v (.int .i64 u.row), .lst 1 (u.path.map aI) .sh, .lst 1 (u.names.map nS) .sh, .lst 1 (u.words.map aI) .sh, .lst 1 (u.kids.map aI) .sh]), (50, eI u.kids), (51, aI u.kids.length), (52, aI n.1)], [.gone, .gone]⟩) (fun n => u.kids.length - n.1) ⟨0, by omega⟩ ?_ ?_))
        ·refine ⟨rfl, ?_, ?_⟩
         rotate_left
         simp -dsimp only [simprocAttr, ↓vpre, zpm, Says, exists_eq_left', Option.some.injEq, sub_self, and_assoc, true_and, and_true]
         rfl
        ·rintro ⟨n, hn⟩
         first | refine zg1 ?_ | refine zg0 ?_ | refine zg2 ?_ | refine zg3 ?_
         simp -dsimp only [simprocAttr, ↓vpre, zpm]
         refine at_intro ?_
         simp -dsimp only [vend, ne_eq, Nat.reduceEqDiff, reduceCtorEq]
         first | refine zk1 rfl (fun h => ?_) (fun h => ?_) | refine zk0 rfl (fun h => ?_) (fun h => ?_) | refine zk2 rfl (fun h => ?_) (fun h => ?_)
         ·refine awp_skip ?_
          simp -dsimp only [vend, ne_eq, Nat.reduceEqDiff, reduceCtorEq]
          have hlt : n < u.kids.length := by simpa using h
          obtain ⟨x, hx⟩ : ∃ x, u.kids[n]? = some x := ⟨u.kids[n], by simp [hlt]⟩
          have hxk := hkids x (List.mem_of_getElem? hx)
          have hx3 : decide ((k : Int) ≤ x) = false := decide_eq_false (by omega)
          have hkl : u.kids.length ≤ 1000 := h1000
          first | refine awp_seq (awp_block ?_) | refine awp_block ?_
          first | refine zg1 ?_ | refine zg0 ?_ | refine zg2 ?_ | refine zg3 ?_
          simp -dsimp only [simprocAttr, ↓vpre, zpm, hx]
          refine at_intro ?_
          simp -dsimp only [vend, ne_eq, Nat.reduceEqDiff, reduceCtorEq]
          rcases F.kids n x hx with ⟨hnn, hx0⟩ | ⟨hnn, hk2, hx0⟩ | ⟨hnn, hk2, s0, rest, K0, hnm, hf0, hcase⟩
          ·have hb1 : decide ((n : Int) = u.names.length) = false := decide_eq_false (by omega)
           have hx1 : decide (x = -1) = false := decide_eq_false (by omega)
           have hx2 : decide (x < -1) = false := decide_eq_false (by omega)
           first | refine zg1 ?_ | refine zg0 ?_ | refine zg2 ?_ | refine zg3 ?_
           simp -dsimp only [simprocAttr, ↓vpre, zpm, hb1]
           refine ⟨by (show orderB _ _ = true); kernel_rfl, at_intro ?_⟩
           simp -dsimp only [vend, ne_eq, Nat.reduceEqDiff, reduceCtorEq]
           first | refine zg1 ?_ | refine zg0 ?_ | refine zg2 ?_ | refine zg3 ?_
           simp -dsimp only [simprocAttr, ↓vpre, zpm, hx1, hx2, hx3]
           refine ⟨Try.underlying4, ?_⟩
           refine at_intro ?_
           simp -dsimp only [vend, ne_eq, Nat.reduceEqDiff, reduceCtorEq]
           first | refine zk1 rfl (fun h => ?_) (fun h => ?_) | refine zk0 rfl (fun h => ?_) (fun h => ?_) | refine zk2 rfl (fun h => ?_) (fun h => ?_)
           ·cases h
           ·refine awp_skip ?_
            simp -dsimp only [vend, ne_eq, Nat.reduceEqDiff, reduceCtorEq]
            first | refine zg1 ?_ | refine zg0 ?_ | refine zg2 ?_ | refine zg3 ?_
            simp -dsimp only [simprocAttr, ↓vpre, zpm]
            repeat (refine ⟨by omega, ?_⟩)
            refine at_intro ?_
            simp -dsimp only [vend, ne_eq, Nat.reduceEqDiff, reduceCtorEq]
            refine ⟨⟨n + 1, hlt⟩, by simp; omega, ?_⟩
            refine ⟨rfl, ?_, ?_⟩
            rotate_left
            simp -dsimp only [simprocAttr, ↓vpre, zpm, Says, exists_eq_left', Option.some.injEq, sub_self, and_assoc, true_and, and_true]
            ·exact Sub.int (by simp)
            ·rfl
          ·have hb1 : decide ((n : Int) = u.names.length) = true := decide_eq_true (by omega)
           have hb2 : decide (u.kind = 2) = false := decide_eq_false hk2
           have hx1 : decide (x = -1) = false := decide_eq_false (by omega)
           have hx2 : decide (x < -1) = false := decide_eq_false (by omega)
           first | refine zg1 ?_ | refine zg0 ?_ | refine zg2 ?_ | refine zg3 ?_
           simp -dsimp only [simprocAttr, ↓vpre, zpm, hb1, hb2]
           refine ⟨by (show orderB _ _ = true); kernel_rfl, at_intro ?_⟩
           simp -dsimp only [vend, ne_eq, Nat.reduceEqDiff, reduceCtorEq]
           first | refine zg1 ?_ | refine zg0 ?_ | refine zg2 ?_ | refine zg3 ?_
           simp -dsimp only [simprocAttr, ↓vpre, zpm, hx1, hx2, hx3]
           refine ⟨Try.underlying4, ?_⟩
           refine at_intro ?_
           simp -dsimp only [vend, ne_eq, Nat.reduceEqDiff, reduceCtorEq]
           first | refine zk1 rfl (fun h => ?_) (fun h => ?_) | refine zk0 rfl (fun h => ?_) (fun h => ?_) | refine zk2 rfl (fun h => ?_) (fun h => ?_)
           ·cases h
           ·refine awp_skip ?_
            simp -dsimp only [vend, ne_eq, Nat.reduceEqDiff, reduceCtorEq]
            first | refine zg1 ?_ | refine zg0 ?_ | refine zg2 ?_ | refine zg3 ?_
            simp -dsimp only [simprocAttr, ↓vpre, zpm]
            repeat (refine ⟨by omega, ?_⟩)
            refine at_intro ?_
            simp -dsimp only [vend, ne_eq, Nat.reduceEqDiff, reduceCtorEq]
            refine ⟨⟨n + 1, hlt⟩, by simp; omega, ?_⟩
            refine ⟨rfl, ?_, ?_⟩
            rotate_left
            simp -dsimp only [simprocAttr, ↓vpre, zpm, Says, exists_eq_left', Option.some.injEq, sub_self, and_assoc, true_and, and_true]
            ·exact Sub.int (by simp)
            ·rfl
          ·have hb1 : decide ((n : Int) = u.names.length) = true := decide_eq_true (by omega)
           have hb2 : decide (u.kind = 2) = true := decide_eq_true hk2
           have hb3 : decide ((0 : Int) < u.names.length) = true := decide_eq_true (by rw [hnm]; simp)
           have hn0 : u.names[0]? = some s0 := by rw [hnm]; rfl
           rcases hcase with ⟨he, hxe⟩ | ⟨he, hx0⟩
           ·have hb4 : decide ((u.names.length : Int) = (dataAt t.datas K0.data).cons.length) = true := decide_eq_true (by omega)
            have hx1 : decide (x = -1) = true := decide_eq_true hxe
            have hx2 : decide (x < -1) = false := decide_eq_false (by omega)
            first | refine zg1 ?_ | refine zg0 ?_ | refine zg2 ?_ | refine zg3 ?_
            simp -dsimp only [simprocAttr, ↓vpre, zpm, hb1, hb2, hb3, hn0, look_ixAt, hf0, Option.map_some, Option.getD_some, hb4]
            refine ⟨by (show orderB _ _ = true); kernel_rfl, at_intro ?_⟩
            simp -dsimp only [vend, ne_eq, Nat.reduceEqDiff, reduceCtorEq]
            first | refine zg1 ?_ | refine zg0 ?_ | refine zg2 ?_ | refine zg3 ?_
            simp -dsimp only [simprocAttr, ↓vpre, zpm, hx1, hx2, hx3]
            refine ⟨Try.underlying4, ?_⟩
            refine at_intro ?_
            simp -dsimp only [vend, ne_eq, Nat.reduceEqDiff, reduceCtorEq]
            first | refine zk1 rfl (fun h => ?_) (fun h => ?_) | refine zk0 rfl (fun h => ?_) (fun h => ?_) | refine zk2 rfl (fun h => ?_) (fun h => ?_)
            ·cases h
            ·refine awp_skip ?_
             simp -dsimp only [vend, ne_eq, Nat.reduceEqDiff, reduceCtorEq]
             first | refine zg1 ?_ | refine zg0 ?_ | refine zg2 ?_ | refine zg3 ?_
             simp -dsimp only [simprocAttr, ↓vpre, zpm]
             repeat (refine ⟨by omega, ?_⟩)
             refine at_intro ?_
             simp -dsimp only [vend, ne_eq, Nat.reduceEqDiff, reduceCtorEq]
             refine ⟨⟨n + 1, hlt⟩, by simp; omega, ?_⟩
             refine ⟨rfl, ?_, ?_⟩
             rotate_left
             simp -dsimp only [simprocAttr, ↓vpre, zpm, Says, exists_eq_left', Option.some.injEq, sub_self, and_assoc, true_and, and_true]
             ·exact Sub.int (by simp)
             ·rfl
           ·have hb4 : decide ((u.names.length : Int) = (dataAt t.datas K0.data).cons.length) = false := decide_eq_false (by omega)
            have hx1 : decide (x = -1) = false := decide_eq_false (by omega)
            have hx2 : decide (x < -1) = false := decide_eq_false (by omega)
            first | refine zg1 ?_ | refine zg0 ?_ | refine zg2 ?_ | refine zg3 ?_
            simp -dsimp only [simprocAttr, ↓vpre, zpm, hb1, hb2, hb3, hn0, look_ixAt, hf0, Option.map_some, Option.getD_some, hb4]
            refine ⟨by (show orderB _ _ = true); kernel_rfl, at_intro ?_⟩
            simp -dsimp only [vend, ne_eq, Nat.reduceEqDiff, reduceCtorEq]
            first | refine zg1 ?_ | refine zg0 ?_ | refine zg2 ?_ | refine zg3 ?_
            simp -dsimp only [simprocAttr, ↓vpre, zpm, hx1, hx2, hx3]
            refine ⟨Try.underlying4, ?_⟩
            refine at_intro ?_
            simp -dsimp only [vend, ne_eq, Nat.reduceEqDiff, reduceCtorEq]
            first | refine zk1 rfl (fun h => ?_) (fun h => ?_) | refine zk0 rfl (fun h => ?_) (fun h => ?_) | refine zk2 rfl (fun h => ?_) (fun h => ?_)
            ·cases h
            ·refine awp_skip ?_
             simp -dsimp only [vend, ne_eq, Nat.reduceEqDiff, reduceCtorEq]
             first | refine zg1 ?_ | refine zg0 ?_ | refine zg2 ?_ | refine zg3 ?_
             simp -dsimp only [simprocAttr, ↓vpre, zpm]
             repeat (refine ⟨by omega, ?_⟩)
             refine at_intro ?_
             simp -dsimp only [vend, ne_eq, Nat.reduceEqDiff, reduceCtorEq]
             refine ⟨⟨n + 1, hlt⟩, by simp; omega, ?_⟩
             refine ⟨rfl, ?_, ?_⟩
             rotate_left
             simp -dsimp only [simprocAttr, ↓vpre, zpm, Says, exists_eq_left', Option.some.injEq, sub_self, and_assoc, true_and, and_true]
             ·exact Sub.int (by simp)
             ·rfl
         ·refine awp_exit ?_
          simp -dsimp only [vend, ne_eq, Nat.reduceEqDiff, reduceCtorEq]
          first | refine zg1 ?_ | refine zg0 ?_ | refine zg2 ?_ | refine zg3 ?_
          simp -dsimp only [simprocAttr, ↓vpre, zpm]
          refine at_intro ?_
          simp -dsimp only [vend, ne_eq, Nat.reduceEqDiff, reduceCtorEq]
          refine awp_ret ?_
          simp -dsimp only [simprocAttr, ↓vpre, zpm, RetTo, Try.results34, retVals, retVal, mkRet, AVal.upto, Nat.zero_le, Nat.le_refl, seqPost_ret, blockPost_ret, loopPost_ret]
  ·exact FSub.mp rfl rfl
 ·exact FSub.mp rfl rfl

end Go.Proofs.Ytakdmelemfnmdaa
end

section
set_option linter.unusedSimpArgs false
set_option linter.unusedVariables false
set_option maxRecDepth 100000
set_option maxHeartbeats 2000000
-- !tab vtab vmat cmAt_share cmAt_cells cmAt_flat cmAt_shareCell
-- !upto Pat.enc_upto Pat.map_upto MRow.enc_upto MRow.map_upto aI_upto eI_upto nS_upto MTree.enc_upto MTree.map_upto Con.map_upto Data.map_upto cmAt_upto
namespace Go.Proofs.Ytakdmelemfnmdaa
open Go.Av

theorem cmAt_cells (t : Tbl) (ad : Addr) : (cmAt t ad).cells = [cmAt t ad] := rfl
theorem cmAt_flat (t : Tbl) (ad : Addr) : (cmAt t ad).flat := trivial
theorem cmAt_share (t : Tbl) (ad : Addr) : (cmAt t ad).share = cmAt t ad := rfl
theorem cmAt_shareCell (t : Tbl) (ad : Addr) : (cmAt t ad).shareCell = cmAt t ad := rfl
theorem cmAt_upto (n : Nat) (t : Tbl) (ad : Addr) : (cmAt t ad).upto n := ix_uptoAt _ _ _ _

theorem check_good {datas : List Data} {t : Tbl} {N : List MTree} (hb : build datas = some t) (hdat : t.datas = datas) (hne : N ≠ []) (hl : N.length ≤ 4096) (hv : ValidL t N) : PCall Try.prog 22 [eD datas, eT N] (aI 0) := by
 have hix : ∀ ad, PCall Try.prog 30 [eDl datas ad] (.tup [cmAt t ad, aI 0]) := fun ad => by
  have := index_spec_at datas ad
  rw [hb] at this
  unfold cmAt
  rw [hdat]
  exact this
 have hp := List.length_pos_iff.2 hne
 have hd1 : decide ((4096 : Int) < N.length) = false := decide_eq_false (by omega)
 have hd2 : decide ((N.length : Int) = 0) = false := decide_eq_false (by omega)
 refine ecall_of hT true 0 Try.func22 rfl (by kernel_rfl) (by simp [Try.ntmps22]) (by simp) ?_
 show AWP Try.prog _ _ _ ⟨42, _, _⟩
 dsimp only [Tmp, TypeId, slotsOf]
 first | refine zg1 ?_ | refine zg0 ?_ | refine zg2 ?_ | refine zg3 ?_
 simp -dsimp only [simprocAttr, ↓vpre, zpm, cmAt_share, cmAt_cells, cmAt_flat, cmAt_shareCell]
 refine at_intro ?_
 simp -dsimp only [vend, ne_eq, Nat.reduceEqDiff, reduceCtorEq]
 refine awp_name 0 rfl (fun ad => ?_)
 simp -dsimp only [simprocAttr, ↓vpre, zpm, cmAt_share, cmAt_cells, cmAt_flat, cmAt_shareCell]
 first | refine zg1 ?_ | refine zg0 ?_ | refine zg2 ?_ | refine zg3 ?_
 simp -dsimp only [simprocAttr, ↓vpre, zpm, cmAt_share, cmAt_cells, cmAt_flat, cmAt_shareCell]
 refine .inr (.inr ⟨_, (hix ad), later_intro ?_⟩)
 simp -dsimp only [simprocAttr, ↓vpre, zpm, cmAt_share, cmAt_cells, cmAt_flat, cmAt_shareCell]
 refine at_intro ?_
 simp -dsimp only [vend, ne_eq, Nat.reduceEqDiff, reduceCtorEq]
 first | refine awp_seq (awp_block ?_) | refine awp_block ?_
 first | refine zg1 ?_ | refine zg0 ?_ | refine zg2 ?_ | refine zg3 ?_
 simp -dsimp only [simprocAttr, ↓vpre, zpm, cmAt_share, cmAt_cells, cmAt_flat, cmAt_shareCell]
 refine at_intro ?_
 simp -dsimp only [vend, ne_eq, Nat.reduceEqDiff, reduceCtorEq]
 first | refine zk1 rfl (fun h => ?_) (fun h => ?_) | refine zk0 rfl (fun h => ?_) (fun h => ?_) | refine zk2 rfl (fun h => ?_) (fun h => ?_)
 ·cases h
 ·first | refine zg1 ?_ | refine zg0 ?_ | refine zg2 ?_ | refine zg3 ?_
  simp -dsimp only [simprocAttr, ↓vpre, zpm, cmAt_share, cmAt_cells, cmAt_flat, cmAt_shareCell, hd1]
  refine at_intro ?_
  simp -dsimp only [vend, ne_eq, Nat.reduceEqDiff, reduceCtorEq]
  first | refine zk1 rfl (fun h => ?_) (fun h => ?_) | refine zk0 rfl (fun h => ?_) (fun h => ?_) | refine zk2 rfl (fun h => ?_) (fun h => ?_)
  ·cases h
  ·first | refine zg1 ?_ | refine zg0 ?_ | refine zg2 ?_ | refine zg3 ?_
   simp -dsimp only [simprocAttr, ↓vpre, zpm, cmAt_share, cmAt_cells, cmAt_flat, cmAt_shareCell, hd2]
   refine at_intro ?_
   simp -dsimp only [vend, ne_eq, Nat.reduceEqDiff, reduceCtorEq]
   first | refine zk1 rfl (fun h => ?_) (fun h => ?_) | refine zk0 rfl (fun h => ?_) (fun h => ?_) | refine zk2 rfl (fun h => ?_) (fun h => ?_)
   ·cases h
   ·refine awp_skip ?_
    simp -dsimp only [vend, ne_eq, Nat.reduceEqDiff, reduceCtorEq]
    first | refine zg1 ?_ | refine zg0 ?_ | refine zg2 ?_ | refine zg3 ?_
    simp -dsimp only [simprocAttr, ↓vpre, zpm, cmAt_share, cmAt_cells, cmAt_flat, cmAt_shareCell]
    refine at_intro ?_
    simp -dsimp only [vend, ne_eq, Nat.reduceEqDiff, reduceCtorEq]
    first | refine awp_block (awp_loop (ι := {n : Nat // n ≤ N.length}) (fun n => ⟨42, [(5, cmAt t ad), (27, eT N), (28, aI N.length), (29, aI n.1)], []⟩) (fun n => N.length - n.1) ⟨0, by omega⟩ ?_ ?_) | refine awp_seq (awp_block (awp_loop (ι := {n : Nat // n ≤ N.length}) (fun n => ⟨42, [(5, cmAt t ad), (27, eT N), (28, aI N.length), (29, aI n.1)], []⟩) (fun n => N.length - n.1) ⟨0, by omega⟩ ?_ ?_))
    ·refine ⟨rfl, ?_, ?_⟩
     rotate_left
     simp -dsimp only [simprocAttr, ↓vpre, zpm, cmAt_share, cmAt_cells, cmAt_flat, cmAt_shareCell, Says, exists_eq_left', Option.some.injEq, sub_self, and_assoc, true_and, and_true]
     rfl
    ·rintro ⟨n, hn⟩
     first | refine zg1 ?_ | refine zg0 ?_ | refine zg2 ?_ | refine zg3 ?_
     simp -dsimp only [simprocAttr, ↓vpre, zpm, cmAt_share, cmAt_cells, cmAt_flat, cmAt_shareCell]
     refine at_intro ?_
     simp -dsimp only [vend, ne_eq, Nat.reduceEqDiff, reduceCtorEq]
     first | refine zk1 rfl (fun h => ?_) (fun h => ?_) | refine zk0 rfl (fun h => ?_) (fun h => ?_) | refine zk2 rfl (fun h => ?_) (fun h => ?_)
     ·refine awp_skip ?_
      simp -dsimp only [vend, ne_eq, Nat.reduceEqDiff, reduceCtorEq]
      have hlt : n < N.length := by simpa using h
      obtain ⟨u, hu⟩ : ∃ u, N[n]? = some u := ⟨N[n], by simp [hlt]⟩
      obtain ⟨v1, v2, v3⟩ := hv n u hu
      first | refine awp_seq (awp_block ?_) | refine awp_block ?_
      first | refine zg1 ?_ | refine zg0 ?_ | refine zg2 ?_ | refine zg3 ?_
      simp -dsimp only [simprocAttr, ↓vpre, zpm, cmAt_share, cmAt_cells, cmAt_flat, cmAt_shareCell, hu]
      refine at_intro ?_
      simp -dsimp only [vend, ne_eq, Nat.reduceEqDiff, reduceCtorEq]
      refine awp_freeze1 8 0 (.ip none u.enc.cells) rfl (by simp [AObj.isSpare]) trivial rfl ?_ ?_
      rotate_left
      simp -dsimp only [simprocAttr, ↓vpre, zpm, cmAt_share, cmAt_cells, cmAt_flat, cmAt_shareCell]
      ·first | refine zg1 ?_ | refine zg0 ?_ | refine zg2 ?_ | refine zg3 ?_
       simp -dsimp only [simprocAttr, ↓vpre, zpm, cmAt_share, cmAt_cells, cmAt_flat, cmAt_shareCell]
       refine .inl ⟨_, node_spec ad v3 n v1, by first | (simp only [uptoL, AVal.upto, zt, zum, cmAt_upto]; done) | (simp [uptoL, AVal.upto, zum, cmAt_upto]; done), later_intro ?_⟩
       simp -dsimp only [simprocAttr, ↓vpre, zpm, cmAt_share, cmAt_cells, cmAt_flat, cmAt_shareCell]
       refine at_intro ?_
       simp -dsimp only [vend, ne_eq, Nat.reduceEqDiff, reduceCtorEq]
       first | refine zg1 ?_ | refine zg0 ?_ | refine zg2 ?_ | refine zg3 ?_
       simp -dsimp only [simprocAttr, ↓vpre, zpm, cmAt_share, cmAt_cells, cmAt_flat, cmAt_shareCell]
       refine at_intro ?_
       simp -dsimp only [vend, ne_eq, Nat.reduceEqDiff, reduceCtorEq]
       first | refine zk1 rfl (fun h => ?_) (fun h => ?_) | refine zk0 rfl (fun h => ?_) (fun h => ?_) | refine zk2 rfl (fun h => ?_) (fun h => ?_)
       ·cases h
       ·refine awp_skip ?_
        simp -dsimp only [vend, ne_eq, Nat.reduceEqDiff, reduceCtorEq]
        refine awp_trunc' 0 [(5, cmAt t ad), (27, eT N), (28, aI N.length), (29, aI n)] (by first | omega | (simp; done) | (simp; omega)) (by first | omega | (simp; done) | (simp; omega)) [] ?_ ?_ ?_ ?_ ?_
        ·rfl
        ·simp
        ·simp -dsimp only [simprocAttr, ↓vpre, zpm, cmAt_share, cmAt_cells, cmAt_flat, cmAt_shareCell, Says, exists_eq_left', Option.some.injEq, sub_self, and_true]
        ·simp [AVal.upto, uptoL, MTree.map_upto, cmAt_upto]
        first | refine zg1 ?_ | refine zg0 ?_ | refine zg2 ?_ | refine zg3 ?_
        simp -dsimp only [simprocAttr, ↓vpre, zpm, cmAt_share, cmAt_cells, cmAt_flat, cmAt_shareCell]
        repeat (refine ⟨by omega, ?_⟩)
        refine at_intro ?_
        simp -dsimp only [vend, ne_eq, Nat.reduceEqDiff, reduceCtorEq]
        refine ⟨⟨n + 1, hlt⟩, by simp; omega, ?_⟩
        refine ⟨rfl, ?_, ?_⟩
        rotate_left
        simp -dsimp only [simprocAttr, ↓vpre, zpm, cmAt_share, cmAt_cells, cmAt_flat, cmAt_shareCell, Says, exists_eq_left', Option.some.injEq, sub_self, and_assoc, true_and, and_true]
        ·exact Sub.int (by simp)
        ·rfl
      ·exact FSub.mp rfl rfl
     ·refine awp_exit ?_
      simp -dsimp only [vend, ne_eq, Nat.reduceEqDiff, reduceCtorEq]
      first | refine zg1 ?_ | refine zg0 ?_ | refine zg2 ?_ | refine zg3 ?_
      simp -dsimp only [simprocAttr, ↓vpre, zpm, cmAt_share, cmAt_cells, cmAt_flat, cmAt_shareCell]
      refine at_intro ?_
      simp -dsimp only [vend, ne_eq, Nat.reduceEqDiff, reduceCtorEq]
      refine awp_ret ?_
      simp -dsimp only [simprocAttr, ↓vpre, zpm, cmAt_share, cmAt_cells, cmAt_flat, cmAt_shareCell, RetTo, Try.results22, retVals, retVal, mkRet, AVal.upto, Nat.zero_le, Nat.le_refl, seqPost_ret, blockPost_ret, loopPost_ret]

end Go.Proofs.Ytakdmelemfnmdaa
end

section
/-
  Which leaves of a built tree are reached: those that some values lead to.
-/
set_option linter.unusedVariables false
namespace Go.Proofs.Ytakdmelemfnmdaa

def Edge (L : List MTree) (i y : Int) : Prop := ∃ u, nodeAt L i = some u ∧ y ∈ u.kids ∧ 0 ≤ y ∧ y < i

inductive RF (L : List MTree) : Int → Int → Prop
  | refl (i : Int) : RF L i i
  | step {i y j : Int} (h : Edge L i y) (k : RF L y j) : RF L i j

theorem RF.snoc {L : List MTree} {i j y : Int} (h : RF L i j) (k : Edge L j y) : RF L i y := by
  induction h with
  | refl i => exact .step k (.refl _)
  | step e _ ih => exact .step e (ih k)

def LeafOf (L : List MTree) (j : Int) (o : Option Int) : Prop := ∃ u, nodeAt L j = some u ∧ ((u.kind = 0 ∧ o = none) ∨ (u.kind = 1 ∧ o = some u.row))

def Leads (L : List MTree) (i : Int) (o : Option Int) : Prop := ∃ j, RF L i j ∧ LeafOf L j o

theorem leads_leaf {L : List MTree} {i : Int} {u : MTree} (hu : nodeAt L i = some u) (hk : u.kids = []) (o : Option Int) : Leads L i o ↔ ((u.kind = 0 ∧ o = none) ∨ (u.kind = 1 ∧ o = some u.row)) := by
  constructor
  · rintro ⟨j, hr, v, hv, h⟩
    cases hr with
    | refl =>
      rw [hu] at hv
      cases hv
      exact h
    | step e _ =>
      obtain ⟨w, hw, hy, _⟩ := e
      rw [hu] at hw
      cases hw
      rw [hk] at hy
      cases hy
  · intro h
    exact ⟨i, .refl i, u, hu, h⟩

theorem leads_node {L : List MTree} {i : Int} {u : MTree} (hu : nodeAt L i = some u) (h0 : u.kind ≠ 0) (h1 : u.kind ≠ 1) (o : Option Int) : Leads L i o ↔ ∃ y ∈ u.kids, 0 ≤ y ∧ y < i ∧ Leads L y o := by
  constructor
  · rintro ⟨j, hr, v, hv, h⟩
    cases hr with
    | refl =>
      rw [hu] at hv
      cases hv
      rcases h with ⟨h, _⟩ | ⟨h, _⟩
      · exact absurd h h0
      · exact absurd h h1
    | step e k =>
      obtain ⟨w, hw, hy, hy0, hyi⟩ := e
      rw [hu] at hw
      cases hw
      exact ⟨_, hy, hy0, hyi, j, k, v, hv, h⟩
  · rintro ⟨y, hy, hy0, hyi, j, k, h⟩
    exact ⟨j, .step ⟨u, hu, hy, hy0, hyi⟩ k, h⟩

/-! values of types -/

theorem WfL.inh {t : Tbl} {tys : List Ty} (h : WfL t tys) : ∃ vs, InhL t vs tys := InhL.of_all fun ty hty => (h ty hty).inh

theorem matL_free : ∀ {l : List Pat} {vs : List Val}, (∀ p ∈ l, p.free = true) → l.length = vs.length → matL l vs
  | [], [], _, _ => by simp [matL]
  | [], _ :: _, _, h => by simp at h
  | _ :: _, [], _, h => by simp at h
  | p :: l, v :: vs, h, hl => by
    simp only [matL]
    refine ⟨v, vs, rfl, ?_, matL_free (fun q hq => h q (by simp [hq])) (by simpa using hl)⟩
    rw [mat_eq, if_pos (h p (by simp))]
    trivial

theorem InhL.at {t : Tbl} {vs : List Val} {tys : List Ty} {c : Nat} {ty : Ty} (h : InhL t vs tys) (hc : tys[c]? = some ty) : ∃ us v ws, vs = us ++ v :: ws ∧ us.length = c ∧ c + 1 + ws.length = tys.length ∧ InhL t us (tys.take c) ∧ Inh t v ty ∧ InhL t ws (tys.drop (c + 1)) := by
  have hlt := (List.getElem?_eq_some_iff.1 hc).1
  rw [split_get hc] at h
  obtain ⟨us, w, rfl, h1, h2⟩ := h.split
  cases h2 with
  | cons h3 h4 =>
    rename_i v ws
    refine ⟨us, v, ws, rfl, ?_, ?_, h1, h3, h4⟩
    · rw [h1.len, List.length_take]
      omega
    · rw [h4.len, List.length_drop]
      omega

theorem InhL.join {t : Tbl} {us ws : List Val} {v : Val} {tys : List Ty} {c : Nat} {ty : Ty} (hc : tys[c]? = some ty) (h1 : InhL t us (tys.take c)) (h2 : Inh t v ty) (h3 : InhL t ws (tys.drop (c + 1))) : InhL t (us ++ v :: ws) tys ∧ us.length = c ∧ c + 1 + ws.length = tys.length := by
  have hlt := (List.getElem?_eq_some_iff.1 hc).1
  refine ⟨?_, ?_, ?_⟩
  · rw [split_get hc]
    exact h1.append (.cons h2 h3)
  · rw [h1.len, List.length_take]
    omega
  · rw [h3.len, List.length_drop]
    omega

theorem fresh_int (l : List Int) : ∃ n : Int, n ∉ l := by
  have h : ∀ l : List Int, ∃ b : Int, ∀ x ∈ l, x < b := fun l => by
    induction l with
    | nil => exact ⟨0, by simp⟩
    | cons a l ih =>
      obtain ⟨b, hb⟩ := ih
      refine ⟨max b (a + 1), fun x hx => ?_⟩
      rcases List.mem_cons.1 hx with rfl | hx
      · omega
      · have := hb x hx
        omega
  obtain ⟨b, hb⟩ := h l
  exact ⟨b, fun hm => by have := hb b hm; omega⟩

theorem consOf_lt {c : Nat} {rows : List MRow} : ∀ {l : List Con}, (consOf c rows l).length < l.length ↔ ∃ k ∈ l, rows.any (MRow.has c fun p => decide (p.name = k.name)) = false
  | [] => by simp [consOf]
  | k :: l => by
    have ih := consOf_lt (c := c) (rows := rows) (l := l)
    have hle : (consOf c rows l).length ≤ l.length := List.length_filter_le _ _
    unfold consOf at ih hle ⊢
    rw [List.filter_cons]
    split
    · rename_i h
      rw [List.length_cons, List.length_cons, Nat.add_lt_add_iff_right, ih]
      constructor
      · rintro ⟨x, hx, q⟩
        exact ⟨x, by simp [hx], q⟩
      · rintro ⟨x, hx, q⟩
        rcases List.mem_cons.1 hx with rfl | hx
        · rw [h] at q
          cases q
        · exact ⟨x, hx, q⟩
    · rename_i h
      rw [List.length_cons]
      constructor
      · intro _
        exact ⟨k, by simp, by simpa using h⟩
      · intro _
        omega

theorem any_false {rows : List MRow} {c : Nat} {f : Pat → Bool} (h : rows.any (MRow.has c f) = false) {r : MRow} (hr : r ∈ rows) {p : Pat} (hp : r.pats[c]? = some p) (hfr : p.free = false) : f p = false := by
  have := List.any_eq_false.1 h r hr
  cases hf : f p with
  | false => rfl
  | true => exact absurd (has_iff.2 ⟨p, hp, hfr, hf⟩) this

/-- A node leads where some values lead. -/
theorem rep_leads {t : Tbl} {L : List MTree} (hv : ValidL t L) : ∀ (fu : Nat) (rows : List MRow) (paths : List (List Int)) (tys : List Ty) (i : Int) (o : Option Int), Pre t rows paths tys → RepM (lookT t) fu rows paths L i → (Leads L i o ↔ ∃ vs, InhL t vs tys ∧ firstOf rows vs o)
  | 0, _, _, _, _, _, _, h => h.elim
  | fu + 1, rows, paths, tys, i, o, hpre, h => by
    have ih := rep_leads (t := t) hv fu
    have hkid : ∀ u y, nodeAt L i = some u → y ∈ u.kids → y < i := fun u y hu hy => by
      have h0 := (nodeAt_lt hu).1
      unfold nodeAt at hu
      rw [if_pos h0] at hu
      have := (hv _ _ hu).1 y hy
      omega
    unfold RepM at h
    split at h
    · rw [leads_leaf h rfl]
      simp only [mfail, firstOf]
      constructor
      · rintro (⟨_, e⟩ | ⟨e, _⟩)
        · obtain ⟨vs, hvs⟩ := hpre.m.wf.inh
          exact ⟨vs, hvs, e⟩
        · cases e
      · rintro ⟨_, _, e⟩
        exact .inl ⟨trivial, e⟩
    · rename_i r0 rs
      have hty0 := hpre.m.typed r0 (by simp)
      split at h
      · rename_i hi
        rw [leads_leaf h rfl]
        have hall : ∀ p ∈ r0.pats, p.free = true := fun p hp => by
          have := List.findIdx?_eq_none_iff.1 hi p hp
          simpa using this
        constructor
        · rintro (⟨e, _⟩ | ⟨_, e⟩)
          · cases e
          · obtain ⟨vs, hvs⟩ := hpre.m.wf.inh
            exact ⟨vs, hvs, .inl ⟨matL_free hall (by rw [hty0.len, hvs.len]), e⟩⟩
        · rintro ⟨vs, hvs, e⟩
          rcases e with ⟨_, e⟩ | ⟨e, _⟩
          · exact .inr ⟨rfl, e⟩
          · exact absurd (matL_free hall (by rw [hty0.len, hvs.len])) e
      · rename_i c hi
        obtain ⟨p, hp, hfr, _⟩ := findIdx_some hi
        have hfr : p.free = false := by simpa using hfr
        obtain ⟨ty, hc, ha, hk⟩ := hpre.column (r := r0) (by simp) hp hfr
        have hoth := (hpre.other hc ha).1
        rw [hp] at h
        simp only at h
        generalize hR : r0 :: rs = rows at *
        rcases hk with ⟨k2, e2⟩ | ⟨k3, j, F, d, K, e3, hf, hK, hd, hlook⟩
        · subst e2
          rw [if_pos k2] at h
          obtain ⟨ks, z, h1, h2, h3⟩ := h
          rw [leads_node h1 (by simp) (by simp)]
          constructor
          · rintro ⟨y, hy, _, _, hl⟩
            rcases List.mem_append.1 hy with hy | hy
            · obtain ⟨w, _, q⟩ := forall2_right h2 y hy
              obtain ⟨vs, hvs, hfo⟩ := (ih _ _ _ y o (hpre.word hc ha w).1 q).1 hl
              obtain ⟨us, ws', rfl, q1, q2⟩ := hvs.split
              obtain ⟨ws, as', rfl, q3, q4⟩ := q2.split
              cases q4
              obtain ⟨j1, j2, j3⟩ := InhL.join hc q1 (.int w) q3
              exact ⟨_, j1, (first_word hpre.m hc j2 j3 o).1 hfo⟩
            · rw [List.mem_singleton.1 hy] at hl
              obtain ⟨vs, hvs, hfo⟩ := (ih _ _ _ z o hoth h3).1 hl
              obtain ⟨us, ws', rfl, q1, q2⟩ := hvs.split
              obtain ⟨ws, as', rfl, q3, q4⟩ := q2.split
              cases q4
              obtain ⟨n, hn⟩ := fresh_int (wordsOf c [] rows)
              obtain ⟨j1, j2, j3⟩ := InhL.join hc q1 (.int n) q3
              refine ⟨_, j1, (first_other hpre.m hc j2 j3 (fun r hr p' hp' hfr' hm => ?_) o).1 hfo⟩
              rw [mat_eq, hfr'] at hm
              have hk2 : p'.kind = 2 := by
                rcases ((hpre.m.typed r hr).parts hc hp').2.1.kind hfr' with ⟨k, _⟩ | ⟨_, _, _, _, e, _⟩
                · exact k
                · cases e
              simp only [Bool.false_eq_true, if_false, hk2, if_true, Val.int.injEq] at hm
              exact hn (wordsOf_mem.2 (.inr ⟨r, hr, p', hp', hfr', hm.symm⟩))
          · rintro ⟨vs, hvs, hfo⟩
            obtain ⟨us, v, ws, rfl, j2, j3, q1, q2, q3⟩ := hvs.at hc
            cases q2 with
            | int n =>
              have hnil : InhL t (us ++ (ws ++ [])) (tys.take c ++ (tys.drop (c + 1) ++ [])) := q1.append (q3.append .nil)
              by_cases hn : n ∈ wordsOf c [] rows
              · obtain ⟨y, hy, q⟩ := forall2_left h2 n hn
                refine ⟨y, by simp [hy], q.lt.1, hkid _ y h1 (by simp [hy]), (ih _ _ _ y o (hpre.word hc ha n).1 q).2 ⟨_, hnil, (first_word hpre.m hc j2 j3 o).2 hfo⟩⟩
              · refine ⟨z, by simp, h3.lt.1, hkid _ z h1 (by simp), (ih _ _ _ z o hoth h3).2 ⟨_, hnil, (first_other hpre.m hc j2 j3 (fun r hr p' hp' hfr' hm => ?_) o).2 hfo⟩⟩
                rw [mat_eq, hfr'] at hm
                have hk2 : p'.kind = 2 := by
                  rcases ((hpre.m.typed r hr).parts hc hp').2.1.kind hfr' with ⟨k, _⟩ | ⟨_, _, _, _, e, _⟩
                  · exact k
                  · cases e
                simp only [Bool.false_eq_true, if_false, hk2, if_true, Val.int.injEq] at hm
                exact hn (wordsOf_mem.2 (.inr ⟨r, hr, p', hp', hfr', hm.symm⟩))
        · subst e3
          rw [if_neg (by omega), hlook] at h
          obtain ⟨ks, z, h1, h2, h3⟩ := h
          rw [leads_node h1 (by simp) (by simp)]
          have hwf := hpre.m.wf _ (List.mem_of_getElem? hc)
          have hwfF : ∀ k ∈ d.cons, (F k.name).length = k.args.length ∧ WfL t (F k.name) := fun k hk => by
            cases hwf with
            | data hd' hne hl hw =>
              rw [hd] at hd'
              cases hd'
              exact ⟨hl k hk, hw k hk⟩
          have hno : ∀ k ∈ d.cons, rows.any (MRow.has c fun p => decide (p.name = k.name)) = false → ∀ xs, ∀ r ∈ rows, ∀ p', r.pats[c]? = some p' → p'.free = false → ¬ mat p' (.con k.name xs) := fun k hk hany xs r hr p' hp' hfr' hm => by
            have hne := any_false hany hr hp' hfr'
            have hk3 : p'.kind = 3 := by
              rcases ((hpre.m.typed r hr).parts hc hp').2.1.kind hfr' with ⟨_, e⟩ | ⟨k3, _⟩
              · cases e
              · exact k3
            rw [mat_eq, hfr', if_neg (by simp), hk3, if_neg (by decide)] at hm
            obtain ⟨_, e, _⟩ := hm
            simp only [Val.con.injEq] at e
            exact (of_decide_eq_false hne) e.1.symm
          constructor
          · rintro ⟨y, hy, hy0, _, hl⟩
            rcases List.mem_append.1 hy with hy | hy
            · obtain ⟨x, hx, q⟩ := forall2_right h2 y hy
              obtain ⟨hx1, hx2⟩ := List.mem_filter.1 hx
              obtain ⟨hF, _, hq1, _⟩ := hpre.con hc hd hx1 hx2
              obtain ⟨vs, hvs, hfo⟩ := (ih _ _ _ y o hq1 q).1 hl
              obtain ⟨us, ws', rfl, q1, q2⟩ := hvs.split
              obtain ⟨ws, xs, rfl, q3, q4⟩ := q2.split
              obtain ⟨j1, j2, j3⟩ := InhL.join hc q1 (.con hd hx1 q4) q3
              rw [← hF] at hfo
              exact ⟨_, j1, (first_con hpre.m hc j2 j3 q4.len o).1 hfo⟩
            · have hyz := List.mem_singleton.1 hy
              subst hyz
              split at h3
              · rename_i hlt
                obtain ⟨vs, hvs, hfo⟩ := (ih _ _ _ y o hoth h3).1 hl
                obtain ⟨us, ws', rfl, q1, q2⟩ := hvs.split
                obtain ⟨ws, xs, rfl, q3, q4⟩ := q2.split
                cases q4
                obtain ⟨k, hk, hany⟩ := consOf_lt.1 hlt
                obtain ⟨xs, hxs⟩ := (hwfF k hk).2.inh
                obtain ⟨j1, j2, j3⟩ := InhL.join hc q1 (.con hd hk hxs) q3
                exact ⟨_, j1, (first_other hpre.m hc j2 j3 (hno k hk hany xs) o).1 hfo⟩
              · omega
          · rintro ⟨vs, hvs, hfo⟩
            obtain ⟨us, v, ws, rfl, j2, j3, q1, q2, q3⟩ := hvs.at hc
            cases q2 with
            | con hd' hk q4 =>
              rename_i d' k xs
              rw [hd] at hd'
              cases hd'
              by_cases hany : rows.any (MRow.has c fun p => decide (p.name = k.name)) = true
              · obtain ⟨hF, _, hq1, _⟩ := hpre.con hc hd hk hany
                obtain ⟨y, hy, q⟩ := forall2_left h2 k (List.mem_filter.2 ⟨hk, hany⟩)
                refine ⟨y, by simp [hy], q.lt.1, hkid _ y h1 (by simp [hy]), (ih _ _ _ y o hq1 q).2 ⟨_, q1.append (q3.append q4), ?_⟩⟩
                rw [← hF]
                exact (first_con hpre.m hc j2 j3 q4.len o).2 hfo
              · have hany : rows.any (MRow.has c fun p => decide (p.name = k.name)) = false := by simpa using hany
                have hlt := consOf_lt.2 ⟨k, hk, hany⟩
                rw [if_pos hlt] at h3
                exact ⟨z, by simp, h3.lt.1, hkid _ z h1 (by simp), (ih _ _ _ z o hoth h3).2 ⟨_, q1.append (q3.append .nil), (first_other hpre.m hc j2 j3 (hno k hk hany xs) o).2 hfo⟩⟩

/-- The number of a row that is reached. -/
theorem first_index {rows : List (List Pat)} {vs : List Val} {z : Int} (h : firstOf (mrows 0 rows) vs (some z)) : ∃ k : Nat, z = k ∧ k < rows.length := by
  obtain ⟨a, x, b, e, h1, _, _⟩ := firstOf_some.1 h
  have hx : (mrows 0 rows)[a.length]? = some x := by
    rw [e]
    simp
  rw [mrows_get] at hx
  cases hra : rows[a.length]? with
  | none =>
    rw [hra] at hx
    cases hx
  | some r' =>
    rw [hra] at hx
    simp only [Option.map_some, Option.some.injEq] at hx
    subst hx
    exact ⟨a.length, by rw [← h1]; simp, (List.getElem?_eq_some_iff.1 hra).1⟩

end Go.Proofs.Ytakdmelemfnmdaa
end
