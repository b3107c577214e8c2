/-
  Texts bound together by a program of mine: Mh, T57, Avt, T58, Mi, T59.
-/
import Derived.Test.YtakdmelemfnmdaaH5
set_option linter.all false

section
/-
  What running a built tree answers: the first row that matches the values.
-/
set_option linter.unusedVariables false
namespace Go.Proofs.Ytakdmelemfnmdaa

/-- The value at a place. -/
def atV : List Pat → List Int → Pat → Option Pat
  | _, [], v => some v
  | vs, k :: r, _ => match vs[k.toNat]? with
    | none => none
    | some v => atV v.args r v

theorem atV_snoc : ∀ (q : List Int) (vs : List Pat) (v0 : Pat) (k : Int), q ≠ [] → atV vs (q ++ [k]) v0 = (atV vs q v0).bind fun v => v.args[k.toNat]?
  | [], _, _, _, h => absurd rfl h
  | [a], vs, v0, k, _ => by
    simp only [List.singleton_append, atV]
    cases vs[a.toNat]? with
    | none => rfl
    | some v =>
      simp only [Option.bind_some]
      cases v.args[k.toNat]? with
      | none => rfl
      | some w => rfl
  | a :: b :: q, vs, v0, k, _ => by
    rw [List.cons_append, atV, atV]
    cases vs[a.toNat]? with
    | none => rfl
    | some v => exact atV_snoc (b :: q) v.args v k (by simp)

mutual
def Pat.known : Pat → Bool
  | .mk k _ _ l => (decide (k = 2) || decide (k = 3)) && knownL l
def knownL : List Pat → Bool
  | [] => true
  | p :: r => p.known && knownL r
end

theorem Pat.known_eq (p : Pat) : p.known = ((decide (p.kind = 2) || decide (p.kind = 3)) && knownL p.args) := by
  cases p
  rw [Pat.known]
  rfl

theorem knownL_iff : ∀ {l : List Pat}, knownL l = true ↔ ∀ p ∈ l, p.known = true
  | [] => by simp [knownL]
  | p :: r => by simp [knownL, knownL_iff (l := r)]

mutual
def Pat.val : Pat → Val
  | .mk k s n l => if k = 2 then .int n else .con s (valL l)
def valL : List Pat → List Val
  | [] => []
  | p :: r => p.val :: valL r
end

theorem valL_map : ∀ l : List Pat, valL l = l.map Pat.val
  | [] => rfl
  | p :: r => by rw [valL, valL_map r, List.map_cons]

theorem Pat.val_eq (p : Pat) : p.val = if p.kind = 2 then .int p.n else .con p.name (p.args.map Pat.val) := by
  cases p
  rw [Pat.val, valL_map]
  rfl

theorem known_free {p : Pat} (h : p.known = true) : p.free = false := by
  rw [Pat.known_eq] at h
  cases hf : p.free with
  | false => rfl
  | true =>
    rcases (Pat.free_iff p).1 hf with e | e <;> simp [e] at h

def pickK (j : Int) (ks : List Int) : Option Int := if j < 0 then ks[ks.length - 1]? else ks[j.toNat]?

/-- Running from a node answers z. -/
def RunP (N : List MTree) (values : List Pat) : Nat → Nat → Int → Prop
  | 0, _, _ => False
  | f + 1, k, z => ∃ u, N[k]? = some u ∧ ((u.kind = 0 ∧ z = -1) ∨ (u.kind = 1 ∧ z = u.row) ∨
    ∃ v, atV values u.path Pat.any = some v ∧ ∃ y, 0 ≤ y ∧ RunP N values f y.toNat z ∧
      ((u.kind = 3 ∧ v.kind = 2 ∧ pickK (idx (fun w => decide (v.n = w)) u.words) u.kids = some y) ∨ (u.kind = 2 ∧ v.kind = 3 ∧ pickK (idx (fun s => decide (v.name = s)) u.names) u.kids = some y)))

theorem all2_take {α β : Type} {R : α → β → Prop} : ∀ {l : List α} {m : List β} (n : Nat), All2 R l m → All2 R (l.take n) (m.take n)
  | _, _, 0, _ => by simpa using All2.nil
  | _, _, n + 1, .nil => by simpa using All2.nil
  | _, _, n + 1, .cons h k => by simpa using All2.cons h (all2_take n k)

theorem all2_drop {α β : Type} {R : α → β → Prop} : ∀ {l : List α} {m : List β} (n : Nat), All2 R l m → All2 R (l.drop n) (m.drop n)
  | _, _, 0, h => by simpa using h
  | _, _, n + 1, .nil => by simpa using All2.nil
  | _, _, n + 1, .cons h k => by simpa using all2_drop n k

theorem all2_get {α β : Type} {R : α → β → Prop} : ∀ {l : List α} {m : List β} {n : Nat} {x : α}, All2 R l m → l[n]? = some x → ∃ y, m[n]? = some y ∧ R x y
  | _, _, _, _, .nil, h => by simp at h
  | _, _, 0, x, .cons h _, hx => by
    simp only [List.getElem?_cons_zero, Option.some.injEq] at hx
    subst hx
    exact ⟨_, rfl, h⟩
  | _, _, n + 1, x, .cons _ k, hx => by
    simp only [List.getElem?_cons_succ] at hx ⊢
    exact all2_get k hx

theorem all2_of_get {α β : Type} {R : α → β → Prop} : ∀ {l : List α} {m : List β}, l.length = m.length → (∀ (n : Nat) x y, l[n]? = some x → m[n]? = some y → R x y) → All2 R l m
  | [], [], _, _ => .nil
  | [], _ :: _, h, _ => by simp at h
  | _ :: _, [], h, _ => by simp at h
  | x :: l, y :: m, h, hR => .cons (hR 0 x y rfl rfl) (all2_of_get (by simpa using h) fun n a b ha hb => hR (n + 1) a b (by simpa using ha) (by simpa using hb))

theorem idx_mem {α : Type} {f : α → Bool} {l : List α} : (∃ j : Nat, idx f l = j ∧ ∃ x, l[j]? = some x ∧ f x = true) ∨ (idx f l = -1 ∧ ∀ x ∈ l, f x = false) := by
  unfold idx
  cases h : l.findIdx? f with
  | none =>
    exact .inr ⟨rfl, List.findIdx?_eq_none_iff.1 h⟩
  | some j =>
    obtain ⟨p, h1, h2, _⟩ := findIdx_some h
    exact .inl ⟨j, rfl, p, h1, h2⟩

theorem pickK_nat {j : Nat} {ks : List Int} {o : Int} {y : Int} (h : ks[j]? = some y) : pickK (j : Int) (ks ++ [o]) = some y := by
  unfold pickK
  rw [if_neg (by omega), Int.toNat_natCast, List.getElem?_append_left (List.getElem?_eq_some_iff.1 h).1]
  exact h

theorem pickK_last {ks : List Int} {o : Int} : pickK (-1) (ks ++ [o]) = some o := by
  unfold pickK
  rw [if_pos (by omega)]
  simp

abbrev Places (values : List Pat) (paths : List (List Int)) (vs : List Pat) : Prop := All2 (fun q w => atV values q Pat.any = some w) paths vs

theorem places_below {values : List Pat} {paths : List (List Int)} {vs : List Pat} (h : Places values paths vs) {c many : Nat} {q : List Int} (hq : paths[c]? = some q) (hne : q ≠ []) {w : Pat} (hw : vs[c]? = some w) {xs : List Pat} (hxs : xs.length = many) (hsub : ∀ k : Nat, k < many → w.args[k]? = xs[k]?) :
    Places values (belowM paths c many) (vs.take c ++ (vs.drop (c + 1) ++ xs)) := by
  have hb : belowM paths c many = paths.take c ++ (paths.drop (c + 1) ++ subs q many) := by
    unfold belowM
    rw [hq, List.append_assoc]
    rfl
  rw [hb]
  refine forall2_append (all2_take c h) (forall2_append (all2_drop (c + 1) h) ?_)
  refine all2_of_get (by rw [subs_len, hxs]) fun n x y hx hy => ?_
  obtain ⟨w', hw', hat⟩ := all2_get h hq
  rw [hw] at hw'
  cases hw'
  have hn : n < many := by
    have := (List.getElem?_eq_some_iff.1 hx).1
    rw [subs_len] at this
    exact this
  unfold subs at hx
  rw [List.getElem?_map, List.getElem?_range hn] at hx
  simp only [Option.map_some, Option.some.injEq] at hx
  subst hx
  rw [atV_snoc _ _ _ _ hne, hat, Option.bind_some, Int.toNat_natCast, hsub n hn, hy]

theorem HasTyL.rest {t : Tbl} {vs xs : List Pat} {tys nt : List Ty} {c : Nat} {ty : Ty} {w : Pat} (h : HasTyL t vs tys) (hc : tys[c]? = some ty) (hw : vs[c]? = some w) (hx : HasTyL t xs nt) : HasTyL t (vs.take c ++ (vs.drop (c + 1) ++ xs)) (tys.take c ++ (tys.drop (c + 1) ++ nt)) := by
  obtain ⟨h1, _, h3⟩ := h.parts hc hw
  exact h1.append (h3.append hx)

theorem known_rest {vs xs : List Pat} (c : Nat) (h : knownL vs = true) (hx : knownL xs = true) : knownL (vs.take c ++ (vs.drop (c + 1) ++ xs)) = true := by
  rw [knownL_iff] at h hx ⊢
  intro p hp
  rcases List.mem_append.1 hp with hp | hp
  · exact h p (List.mem_of_mem_take hp)
  · rcases List.mem_append.1 hp with hp | hp
    · exact h p (List.mem_of_mem_drop hp)
    · exact hx p hp

def outOf : Option Int → Int
  | none => -1
  | some z => z

theorem rep_run {t : Tbl} {N : List MTree} (values : List Pat) : ∀ (fu : Nat) (rows : List MRow) (paths : List (List Int)) (tys : List Ty) (i : Nat) (vs : List Pat) (z : Option Int), Pre t rows paths tys → RepM (lookT t) fu rows paths N i → HasTyL t vs tys → knownL vs = true → Places values paths vs → firstOf rows (vs.map Pat.val) z → RunP N values fu i (outOf z)
  | 0, _, _, _, _, _, _, _, h, _, _, _, _ => h.elim
  | fu + 1, rows, paths, tys, i, vs, z, hpre, h, hty, hkn, hpl, hfo => by
    have ih := rep_run (t := t) (N := N) values fu
    have hnat : ∀ {rows : List MRow} {paths : List (List Int)} {y : Int}, RepM (lookT t) fu rows paths N y → RepM (lookT t) fu rows paths N (y.toNat : Int) := fun q => by
      have := q.lt
      rw [Int.toNat_of_nonneg this.1]
      exact q
    unfold RepM at h
    rw [RunP]
    split at h
    · rw [nodeAt_nat] at h
      simp only [firstOf] at hfo
      subst hfo
      exact ⟨_, h, .inl ⟨rfl, rfl⟩⟩
    · rename_i r0 rs
      split at h
      · rename_i hi
        rw [nodeAt_nat] at h
        have hall : ∀ p ∈ r0.pats, p.free = true := fun p hp => by
          have := List.findIdx?_eq_none_iff.1 hi p hp
          simpa using this
        have hm : matL r0.pats (vs.map Pat.val) := matL_free hall (by rw [List.length_map, hty.len, (hpre.m.typed r0 (by simp)).len])
        rcases hfo with ⟨_, e⟩ | ⟨e, _⟩
        · subst e
          exact ⟨_, h, .inr (.inl ⟨rfl, rfl⟩)⟩
        · exact absurd hm e
      · rename_i c hi
        obtain ⟨p, hp, hfr, _⟩ := findIdx_some hi
        have hfr : p.free = false := by simpa using hfr
        obtain ⟨ty, hc, ha, hk⟩ := hpre.column (r := r0) (by simp) hp hfr
        have hoth := (hpre.other hc ha).1
        have hlt := (List.getElem?_eq_some_iff.1 hc).1
        obtain ⟨q, hq⟩ : ∃ q, paths[c]? = some q := ⟨paths[c]'(by rw [hpre.len]; exact hlt), by simp⟩
        have hqne := (hpre.places q (List.mem_of_getElem? hq)).1
        obtain ⟨w, hw⟩ : ∃ w, vs[c]? = some w := ⟨vs[c]'(by rw [hty.len]; exact hlt), by simp⟩
        obtain ⟨w', hw', hat⟩ := all2_get hpl hq
        rw [hw] at hw'
        cases hw'
        have hwk : w.known = true := knownL_iff.1 hkn w (List.mem_of_getElem? hw)
        have hwf := known_free hwk
        obtain ⟨t1, t2, t3⟩ := hty.parts hc hw
        have hsplit : vs.map Pat.val = (vs.take c).map Pat.val ++ w.val :: (vs.drop (c + 1)).map Pat.val := by
          conv => lhs; rw [split_get hw]
          simp
        have hu1 : ((vs.take c).map Pat.val).length = c := by
          rw [List.length_map, List.length_take, hty.len]
          omega
        have hw1 : c + 1 + ((vs.drop (c + 1)).map Pat.val).length = tys.length := by
          rw [List.length_map, List.length_drop, hty.len]
          omega
        rw [hsplit] at hfo
        have hmap : ∀ xs : List Pat, (vs.take c ++ (vs.drop (c + 1) ++ xs)).map Pat.val = (vs.take c).map Pat.val ++ ((vs.drop (c + 1)).map Pat.val ++ xs.map Pat.val) := fun xs => by simp
        rw [hp] at h
        simp only at h
        generalize hR : r0 :: rs = rows at *
        rcases hk with ⟨k2, e2⟩ | ⟨k3, j, F, d, K, e3, hfi, hK, hd, hlook⟩
        · subst e2
          rw [if_pos k2] at h
          obtain ⟨ks, o, h1, h2, h3⟩ := h
          rw [nodeAt_nat, hq, Option.getD_some] at h1
          have hw2 : w.kind = 2 := by
            rcases t2.kind hwf with ⟨k, _⟩ | ⟨_, _, _, _, e, _⟩
            · exact k
            · cases e
          have hval : w.val = .int w.n := by rw [Pat.val_eq, if_pos hw2]
          rw [hval] at hfo
          have hty' := hty.rest (xs := []) (nt := []) hc hw rfl
          have hkn' := known_rest c hkn (xs := []) rfl
          have hpl' := places_below hpl hq hqne hw (many := 0) (xs := []) rfl (fun k hk => by omega)
          refine ⟨_, h1, .inr (.inr ⟨w, hat, ?_⟩)⟩
          rcases idx_mem (f := fun y => decide (w.n = y)) (l := wordsOf c [] rows) with ⟨n, hn, x, hx, hxe⟩ | ⟨hn, hall⟩
          · have hxe : w.n = x := of_decide_eq_true hxe
            subst hxe
            obtain ⟨y, hy, r⟩ := all2_get h2 hx
            refine ⟨y, r.lt.1, ih _ _ _ _ _ _ (hpre.word hc ha w.n).1 (hnat r) hty' hkn' hpl' ?_, .inl ⟨rfl, hw2, ?_⟩⟩
            · rw [hmap]
              exact (first_word hpre.m hc hu1 hw1 z).2 hfo
            · simp only
              rw [hn]
              exact pickK_nat hy
          · refine ⟨o, h3.lt.1, ih _ _ _ _ _ _ hoth (hnat h3) hty' hkn' hpl' ?_, .inl ⟨rfl, hw2, ?_⟩⟩
            · rw [hmap]
              refine (first_other hpre.m hc hu1 hw1 (fun r hr p' hp' hfr' hm => ?_) z).2 hfo
              rw [mat_eq, hfr'] at hm
              have hk2 : p'.kind = 2 := by
                rcases ((hpre.m.typed r hr).parts hc hp').2.1.kind hfr' with ⟨k, _⟩ | ⟨_, _, _, _, e, _⟩
                · exact k
                · cases e
              simp only [Bool.false_eq_true, if_false, hk2, if_true, Val.int.injEq] at hm
              have := hall p'.n (wordsOf_mem.2 (.inr ⟨r, hr, p', hp', hfr', rfl⟩))
              exact (of_decide_eq_false this) hm
            · simp only
              rw [hn]
              exact pickK_last
        · subst e3
          rw [if_neg (by omega), hlook] at h
          obtain ⟨ks, o, h1, h2, h3⟩ := h
          rw [nodeAt_nat, hq, Option.getD_some] at h1
          obtain ⟨hw3, K', hf', hK', ht'⟩ : w.kind = 3 ∧ ∃ K', find t.cons w.name = some K' ∧ K'.data = j ∧ HasTyL t w.args (F w.name) := by
            rcases t2.kind hwf with ⟨_, e⟩ | ⟨k, _, _, K', e, a1, a2, a3⟩
            · cases e
            · cases e
              exact ⟨k, K', a1, a2, a3⟩
          have hval : w.val = .con w.name (w.args.map Pat.val) := by rw [Pat.val_eq, if_neg (by omega)]
          rw [hval] at hfo
          have hka : knownL w.args = true := by
            rw [Pat.known_eq] at hwk
            simp only [Bool.and_eq_true] at hwk
            exact hwk.2
          refine ⟨_, h1, .inr (.inr ⟨w, hat, ?_⟩)⟩
          rcases idx_mem (f := fun s => decide (w.name = s)) (l := (consOf c rows d.cons).map Con.name) with ⟨n, hn, s, hs, hse⟩ | ⟨hn, hall⟩
          · rw [List.getElem?_map] at hs
            cases hx : (consOf c rows d.cons)[n]? with
            | none =>
              rw [hx] at hs
              cases hs
            | some x =>
              rw [hx] at hs
              simp only [Option.map_some, Option.some.injEq] at hs
              have hxn : x.name = w.name := by
                rw [hs]
                exact (of_decide_eq_true hse).symm
              obtain ⟨hx1, hx2⟩ := List.mem_filter.1 (List.mem_of_getElem? hx)
              obtain ⟨hF, _, hq1, _⟩ := hpre.con hc hd hx1 hx2
              obtain ⟨y, hy, r⟩ := all2_get h2 hx
              rw [← hxn] at ht' hfo
              have hal : w.args.length = x.args.length := by rw [ht'.len, hF]
              refine ⟨y, r.lt.1, ih _ _ _ _ _ _ hq1 (hnat r) (hty.rest hc hw ht') (known_rest c hkn hka) (places_below hpl hq hqne hw hal (fun k _ => rfl)) ?_, .inr ⟨rfl, hw3, ?_⟩⟩
              · rw [hmap, ← hF]
                exact (first_con hpre.m hc hu1 hw1 (by rw [List.length_map, ht'.len]) z).2 hfo
              · simp only
                rw [hn]
                exact pickK_nat hy
          · obtain ⟨d', k, hd', hk, hkn', _⟩ := hpre.m.tbl.back _ _ hf'
            rw [hK', hd] at hd'
            cases hd'
            have hany : rows.any (MRow.has c fun p => decide (p.name = k.name)) = false := by
              cases hq2 : rows.any (MRow.has c fun p => decide (p.name = k.name)) with
              | false => rfl
              | true =>
                have := hall k.name (List.mem_map.2 ⟨k, List.mem_filter.2 ⟨hk, hq2⟩, rfl⟩)
                exact absurd hkn'.symm (of_decide_eq_false this)
            rw [if_pos (consOf_lt.2 ⟨k, hk, hany⟩)] at h3
            refine ⟨o, h3.lt.1, ih _ _ _ _ _ _ hoth (hnat h3) (hty.rest (xs := []) (nt := []) hc hw rfl) (known_rest c hkn (xs := []) rfl) (places_below hpl hq hqne hw (many := 0) (xs := []) rfl (fun k hk => by omega)) ?_, .inr ⟨rfl, hw3, ?_⟩⟩
            · rw [hmap]
              refine (first_other hpre.m hc hu1 hw1 (fun r hr p' hp' hfr' hm => ?_) z).2 hfo
              have hne := any_false hany hr hp' hfr'
              have hk3 : p'.kind = 3 := by
                rcases ((hpre.m.typed r hr).parts hc hp').2.1.kind hfr' with ⟨_, e⟩ | ⟨k3, _⟩
                · cases e
                · exact k3
              rw [mat_eq, hfr', if_neg (by simp), hk3, if_neg (by decide)] at hm
              obtain ⟨_, e, _⟩ := hm
              simp only [Val.con.injEq] at e
              exact (of_decide_eq_false hne) (by rw [← e.1, hkn'])
            · simp only
              rw [hn]
              exact pickK_last

end Go.Proofs.Ytakdmelemfnmdaa
end

section
set_option linter.unusedSimpArgs false
set_option linter.unusedVariables false
set_option maxRecDepth 100000
set_option maxHeartbeats 2000000
-- !tab vtab vmat
-- !upto Pat.enc_upto Pat.map_upto MRow.enc_upto MRow.map_upto aI_upto eI_upto nS_upto MTree.enc_upto MTree.map_upto Con.map_upto Data.map_upto
namespace Go.Proofs.Ytakdmelemfnmdaa
open Go.Av

abbrev zPat : List AVal := [.v (.int .i64 0), .v (.string ByteArray.empty), .v (.int .i64 0), .lst 4 [] .ex]
abbrev cPat (v : Pat) : List AVal := [.v (.int .i64 v.kind), .v (.string v.name), .v (.int .i64 v.n), .lst 4 (v.args.map Pat.enc) .sh]

theorem at_spec (values : List Pat) (path : List Int) (v : Pat) (hat : atV values path Pat.any = some v) (hpos : ∀ x ∈ path, 0 ≤ x) (hne : path ≠ []) : PCall Try.prog 35 [eR values, eI path] (.tup [v.enc, .v (.bool true)]) := by
 refine ecall_of hT true 0 Try.func35 rfl (by kernel_rfl) (by simp [Try.ntmps35]) (by simp) ?_
 show AWP Try.prog _ _ _ ⟨28, _, _⟩
 dsimp only [Tmp, TypeId, slotsOf]
 first | refine zg1 ?_ | refine zg0 ?_ | refine zg2 ?_ | refine zg3 ?_
 simp -dsimp only [simprocAttr, ↓vpre, zpm]
 refine at_intro ?_
 simp -dsimp only [vend, ne_eq, Nat.reduceEqDiff, reduceCtorEq]
 first | refine zg1 ?_ | refine zg0 ?_ | refine zg2 ?_ | refine zg3 ?_
 simp -dsimp only [simprocAttr, ↓vpre, zpm]
 refine at_intro ?_
 simp -dsimp only [vend, ne_eq, Nat.reduceEqDiff, reduceCtorEq]
 refine awp_len 1 rfl (fun hlen => ?_)
 simp only [List.length_map] at hlen
 first | refine zg1 ?_ | refine zg0 ?_ | refine zg2 ?_ | refine zg3 ?_
 simp -dsimp only [simprocAttr, ↓vpre, zpm]
 refine at_intro ?_
 simp -dsimp only [vend, ne_eq, Nat.reduceEqDiff, reduceCtorEq]
 first | refine awp_block (awp_loop (ι := {q : Nat × List Pat × Pat // q.1 ≤ path.length ∧ atV q.2.1 (path.drop q.1) q.2.2 = some v}) (fun q => ⟨28, [(0, eR q.1.2.1), (4, .mp 0 0), (6, .mp 1 0), (9, eI path), (10, aI path.length), (11, aI q.1.1)], [.cells zPat, .cells (if q.1.1 = 0 then zPat else cPat q.1.2.2)]⟩) (fun q => path.length - q.1.1) ⟨(0, values, Pat.any), by omega, by simpa using hat⟩ ?_ ?_) | refine awp_seq (awp_block (awp_loop (ι := {q : Nat × List Pat × Pat // q.1 ≤ path.length ∧ atV q.2.1 (path.drop q.1) q.2.2 = some v}) (fun q => ⟨28, [(0, eR q.1.2.1), (4, .mp 0 0), (6, .mp 1 0), (9, eI path), (10, aI path.length), (11, aI q.1.1)], [.cells zPat, .cells (if q.1.1 = 0 then zPat else cPat q.1.2.2)]⟩) (fun q => path.length - q.1.1) ⟨(0, values, Pat.any), by omega, by simpa using hat⟩ ?_ ?_))
 ·refine ⟨rfl, ?_, ?_⟩
  rotate_left
  simp -dsimp only [simprocAttr, ↓vpre, zpm, Says, exists_eq_left', Option.some.injEq, sub_self, and_assoc, true_and, and_true]
  rfl
 ·rintro ⟨⟨k, vs, w⟩, hk, hw⟩
  simp only at hk hw
  first | refine zg1 ?_ | refine zg0 ?_ | refine zg2 ?_ | refine zg3 ?_
  simp -dsimp only [simprocAttr, ↓vpre, zpm]
  refine at_intro ?_
  simp -dsimp only [vend, ne_eq, Nat.reduceEqDiff, reduceCtorEq]
  first | refine zk1 rfl (fun h => ?_) (fun h => ?_) | refine zk0 rfl (fun h => ?_) (fun h => ?_) | refine zk2 rfl (fun h => ?_) (fun h => ?_)
  ·refine awp_skip ?_
   simp -dsimp only [vend, ne_eq, Nat.reduceEqDiff, reduceCtorEq]
   have hlt : k < path.length := by simpa using h
   obtain ⟨y, hy⟩ : ∃ y, path[k]? = some y := ⟨path[k], by simp [hlt]⟩
   have hy0 := hpos y (List.mem_of_getElem? hy)
   obtain ⟨yn, rfl⟩ : ∃ n : Nat, y = n := ⟨y.toNat, by omega⟩
   have hdrop : path.drop k = (yn : Int) :: path.drop (k + 1) := by
    obtain ⟨hc, e⟩ := List.getElem?_eq_some_iff.1 hy
    rw [List.drop_eq_getElem_cons hc, e]
   rw [hdrop, atV, Int.toNat_natCast] at hw
   obtain ⟨p, hp⟩ : ∃ p, vs[yn]? = some p := by
    cases hq : vs[yn]? with
    | none =>
     rw [hq] at hw
     cases hw
    | some p => exact ⟨p, rfl⟩
   rw [hp] at hw
   have hyl := (List.getElem?_eq_some_iff.1 hp).1
   have hge : decide ((vs.length : Int) ≤ yn) = false := decide_eq_false (by omega)
   by_cases hk0 : k = 0
   ·subst hk0
    simp only [if_true]
    first | refine awp_seq (awp_block ?_) | refine awp_block ?_
    first | refine zg1 ?_ | refine zg0 ?_ | refine zg2 ?_ | refine zg3 ?_
    simp -dsimp only [simprocAttr, ↓vpre, zpm, hy]
    refine at_intro ?_
    simp -dsimp only [vend, ne_eq, Nat.reduceEqDiff, reduceCtorEq]
    first | refine zg1 ?_ | refine zg0 ?_ | refine zg2 ?_ | refine zg3 ?_
    simp -dsimp only [simprocAttr, ↓vpre, zpm, hge]
    refine at_intro ?_
    simp -dsimp only [vend, ne_eq, Nat.reduceEqDiff, reduceCtorEq]
    first | refine zk1 rfl (fun h => ?_) (fun h => ?_) | refine zk0 rfl (fun h => ?_) (fun h => ?_) | refine zk2 rfl (fun h => ?_) (fun h => ?_)
    ·cases h
    ·refine awp_skip ?_
     simp -dsimp only [vend, ne_eq, Nat.reduceEqDiff, reduceCtorEq]
     first | refine zg1 ?_ | refine zg0 ?_ | refine zg2 ?_ | refine zg3 ?_
     simp -dsimp only [simprocAttr, ↓vpre, zpm, hp]
     refine at_intro ?_
     simp -dsimp only [vend, ne_eq, Nat.reduceEqDiff, reduceCtorEq]
     first | refine zg1 ?_ | refine zg0 ?_ | refine zg2 ?_ | refine zg3 ?_
     simp -dsimp only [simprocAttr, ↓vpre, zpm]
     refine at_intro ?_
     simp -dsimp only [vend, ne_eq, Nat.reduceEqDiff, reduceCtorEq]
     first | refine zg1 ?_ | refine zg0 ?_ | refine zg2 ?_ | refine zg3 ?_
     simp -dsimp only [simprocAttr, ↓vpre, zpm]
     repeat (refine ⟨by omega, ?_⟩)
     refine at_intro ?_
     simp -dsimp only [vend, ne_eq, Nat.reduceEqDiff, reduceCtorEq]
     refine ⟨⟨(1, p.args, p), hlt, hw⟩, by simp; omega, ?_⟩
     refine ⟨rfl, ?_, ?_⟩
     rotate_left
     simp -dsimp only [simprocAttr, ↓vpre, zpm, Says, exists_eq_left', Option.some.injEq, sub_self, and_assoc, true_and, and_true]
     rfl
   ·rw [if_neg hk0]
    first | refine awp_seq (awp_block ?_) | refine awp_block ?_
    first | refine zg1 ?_ | refine zg0 ?_ | refine zg2 ?_ | refine zg3 ?_
    simp -dsimp only [simprocAttr, ↓vpre, zpm, hy]
    refine at_intro ?_
    simp -dsimp only [vend, ne_eq, Nat.reduceEqDiff, reduceCtorEq]
    first | refine zg1 ?_ | refine zg0 ?_ | refine zg2 ?_ | refine zg3 ?_
    simp -dsimp only [simprocAttr, ↓vpre, zpm, hge]
    refine at_intro ?_
    simp -dsimp only [vend, ne_eq, Nat.reduceEqDiff, reduceCtorEq]
    first | refine zk1 rfl (fun h => ?_) (fun h => ?_) | refine zk0 rfl (fun h => ?_) (fun h => ?_) | refine zk2 rfl (fun h => ?_) (fun h => ?_)
    ·cases h
    ·refine awp_skip ?_
     simp -dsimp only [vend, ne_eq, Nat.reduceEqDiff, reduceCtorEq]
     first | refine zg1 ?_ | refine zg0 ?_ | refine zg2 ?_ | refine zg3 ?_
     simp -dsimp only [simprocAttr, ↓vpre, zpm, hp]
     refine at_intro ?_
     simp -dsimp only [vend, ne_eq, Nat.reduceEqDiff, reduceCtorEq]
     first | refine zg1 ?_ | refine zg0 ?_ | refine zg2 ?_ | refine zg3 ?_
     simp -dsimp only [simprocAttr, ↓vpre, zpm]
     refine at_intro ?_
     simp -dsimp only [vend, ne_eq, Nat.reduceEqDiff, reduceCtorEq]
     first | refine zg1 ?_ | refine zg0 ?_ | refine zg2 ?_ | refine zg3 ?_
     simp -dsimp only [simprocAttr, ↓vpre, zpm]
     repeat (refine ⟨by omega, ?_⟩)
     refine at_intro ?_
     simp -dsimp only [vend, ne_eq, Nat.reduceEqDiff, reduceCtorEq]
     refine ⟨⟨(k + 1, p.args, p), hlt, hw⟩, by simp; omega, ?_⟩
     refine ⟨rfl, ?_, ?_⟩
     rotate_left
     simp -dsimp only [simprocAttr, ↓vpre, zpm, Says, exists_eq_left', Option.some.injEq, sub_self, and_assoc, true_and, and_true]
     ·exact Sub.int (by simp)
     ·rfl
  ·refine awp_exit ?_
   simp -dsimp only [vend, ne_eq, Nat.reduceEqDiff, reduceCtorEq]
   have hkk : k = path.length := by simp at h; omega
   subst hkk
   rw [List.drop_length, atV] at hw
   simp only [Option.some.injEq] at hw
   subst hw
   rw [if_neg (by have := List.length_pos_iff.2 hne; omega)]
   first | refine zg1 ?_ | refine zg0 ?_ | refine zg2 ?_ | refine zg3 ?_
   simp -dsimp only [simprocAttr, ↓vpre, zpm]
   refine at_intro ?_
   simp -dsimp only [vend, ne_eq, Nat.reduceEqDiff, reduceCtorEq]
   refine awp_ret ?_
   simp -dsimp only [simprocAttr, ↓vpre, zpm, RetTo, Try.results35, retVals, retVal, mkRet, AVal.upto, Nat.zero_le, Nat.le_refl, seqPost_ret, blockPost_ret, loopPost_ret]
   simp [uptoL, AVal.upto, Pat.enc_upto]

theorem known_step (n : Nat) (ih : ∀ l : List Pat, nodesL l < n → PCall Try.prog 25 [eR l] (.v (.bool (knownL l)))) (l : List Pat) (hl : nodesL l ≤ n) : PCall Try.prog 25 [eR l] (.v (.bool (knownL l))) := by
 have hsub : ∀ p ∈ l, nodesL p.args < n := fun p hp => by
  have h1 := nodesL_mem hp
  rw [Pat.nodes_eq] at h1
  omega
 have hkl : knownL l = l.all Pat.known := by
  rw [Bool.eq_iff_iff, knownL_iff, List.all_eq_true]
 rw [hkl]
 refine ecall_of hT true 0 Try.func25 rfl (by kernel_rfl) (by simp [Try.ntmps25]) (by simp) ?_
 show AWP Try.prog _ _ _ ⟨26, _, _⟩
 dsimp only [Tmp, TypeId, slotsOf]
 first | refine zg1 ?_ | refine zg0 ?_ | refine zg2 ?_ | refine zg3 ?_
 simp -dsimp only [simprocAttr, ↓vpre, zpm]
 refine at_intro ?_
 simp -dsimp only [vend, ne_eq, Nat.reduceEqDiff, reduceCtorEq]
 refine awp_len 0 rfl (fun hlen => ?_)
 simp only [List.length_map] at hlen
 first | refine zg1 ?_ | refine zg0 ?_ | refine zg2 ?_ | refine zg3 ?_
 simp -dsimp only [simprocAttr, ↓vpre, zpm]
 refine at_intro ?_
 simp -dsimp only [vend, ne_eq, Nat.reduceEqDiff, reduceCtorEq]
 first | refine awp_block (awp_loop (ι := {k : Nat // k ≤ l.length ∧ (l.take k).all Pat.known = true}) (fun k => ⟨26, [(5, eR l), (6, aI l.length), (7, aI k.1)], []⟩) (fun k => l.length - k.1) ⟨0, by omega, by simp⟩ ?_ ?_) | refine awp_seq (awp_block (awp_loop (ι := {k : Nat // k ≤ l.length ∧ (l.take k).all Pat.known = true}) (fun k => ⟨26, [(5, eR l), (6, aI l.length), (7, aI k.1)], []⟩) (fun k => l.length - k.1) ⟨0, by omega, by simp⟩ ?_ ?_))
 ·refine ⟨rfl, ?_, ?_⟩
  rotate_left
  simp -dsimp only [simprocAttr, ↓vpre, zpm, Says, exists_eq_left', Option.some.injEq, sub_self, and_assoc, true_and, and_true]
  rfl
 ·rintro ⟨k, hk, hall⟩
  first | refine zg1 ?_ | refine zg0 ?_ | refine zg2 ?_ | refine zg3 ?_
  simp -dsimp only [simprocAttr, ↓vpre, zpm]
  refine at_intro ?_
  simp -dsimp only [vend, ne_eq, Nat.reduceEqDiff, reduceCtorEq]
  first | refine zk1 rfl (fun h => ?_) (fun h => ?_) | refine zk0 rfl (fun h => ?_) (fun h => ?_) | refine zk2 rfl (fun h => ?_) (fun h => ?_)
  ·refine awp_skip ?_
   simp -dsimp only [vend, ne_eq, Nat.reduceEqDiff, reduceCtorEq]
   have hlt : k < l.length := by simpa using h
   obtain ⟨p, hp⟩ : ∃ p, l[k]? = some p := ⟨l[k], by simp [hlt]⟩
   have hs := hsub p (List.mem_of_getElem? hp)
   have hpk := p.known_eq
   have hfalse : p.known = false → l.all Pat.known = false := fun e => by
    rw [List.all_eq_false]
    exact ⟨p, List.mem_of_getElem? hp, by rw [e]; simp⟩
   first | refine awp_seq (awp_block ?_) | refine awp_block ?_
   first | refine zg1 ?_ | refine zg0 ?_ | refine zg2 ?_ | refine zg3 ?_
   simp -dsimp only [simprocAttr, ↓vpre, zpm, hp]
   refine at_intro ?_
   simp -dsimp only [vend, ne_eq, Nat.reduceEqDiff, reduceCtorEq]
   refine awp_freeze1 4 0 (.ip none p.enc.cells) rfl (by simp [AObj.isSpare]) trivial rfl ?_ ?_
   rotate_left
   simp -dsimp only [simprocAttr, ↓vpre, zpm]
   ·by_cases h23 : p.kind = 2 ∨ p.kind = 3
    ·have hb : ((!decide (p.kind = 2)) = false ∧ True) ∨ ((!decide (p.kind = 2)) = true ∧ (!decide (p.kind = 3)) = false) := by
      rcases h23 with e | e <;> simp [e]
     have hpk' : p.known = knownL p.args := by
      rw [hpk]
      rcases h23 with e | e <;> simp [e]
     rcases hb with ⟨hb, hb'⟩ | ⟨hb, hb'⟩
     all_goals
      first | refine zg1 ?_ | refine zg0 ?_ | refine zg2 ?_ | refine zg3 ?_
      simp -dsimp only [simprocAttr, ↓vpre, zpm, hb, hb']
      refine .inl ⟨_, ih p.args hs, by first | (simp only [uptoL, AVal.upto, zt, zum]; done) | (simp [uptoL, AVal.upto, zum]; done), later_intro ?_⟩
      simp -dsimp only [simprocAttr, ↓vpre, zpm]
      refine at_intro ?_
      simp -dsimp only [vend, ne_eq, Nat.reduceEqDiff, reduceCtorEq]
      first | refine zk1 rfl (fun h => ?_) (fun h => ?_) | refine zk0 rfl (fun h => ?_) (fun h => ?_) | refine zk2 rfl (fun h => ?_) (fun h => ?_)
      ·have hkf : knownL p.args = false := by simpa using h
       first | refine zg1 ?_ | refine zg0 ?_ | refine zg2 ?_ | refine zg3 ?_
       simp -dsimp only [simprocAttr, ↓vpre, zpm]
       refine at_intro ?_
       simp -dsimp only [vend, ne_eq, Nat.reduceEqDiff, reduceCtorEq]
       refine awp_ret ?_
       simp -dsimp only [simprocAttr, ↓vpre, zpm, RetTo, Try.results25, retVals, retVal, mkRet, AVal.upto, Nat.zero_le, Nat.le_refl, seqPost_ret, blockPost_ret, loopPost_ret]
       rw [hfalse (hpk'.trans hkf)]
      ·have hkf : knownL p.args = true := by simpa using h
       refine awp_skip ?_
       simp -dsimp only [vend, ne_eq, Nat.reduceEqDiff, reduceCtorEq]
       refine awp_trunc' 0 [(5, eR l), (6, aI l.length), (7, aI k)] (by first | omega | (simp; done) | (simp; omega)) (by first | omega | (simp; done) | (simp; omega)) [] ?_ ?_ ?_ ?_ ?_
       ·rfl
       ·simp
       ·simp -dsimp only [simprocAttr, ↓vpre, zpm, Says, exists_eq_left', Option.some.injEq, sub_self, and_true]
       ·simp [AVal.upto, uptoL, Pat.map_upto]
       first | refine zg1 ?_ | refine zg0 ?_ | refine zg2 ?_ | refine zg3 ?_
       simp -dsimp only [simprocAttr, ↓vpre, zpm]
       repeat (refine ⟨by omega, ?_⟩)
       refine at_intro ?_
       simp -dsimp only [vend, ne_eq, Nat.reduceEqDiff, reduceCtorEq]
       refine ⟨⟨k + 1, hlt, by rw [take_next hp, List.all_append, hall]; simp [hpk'.trans hkf]⟩, by simp; omega, ?_⟩
       refine ⟨rfl, ?_, ?_⟩
       rotate_left
       simp -dsimp only [simprocAttr, ↓vpre, zpm, Says, exists_eq_left', Option.some.injEq, sub_self, and_assoc, true_and, and_true]
       ·exact Sub.int (by simp)
       ·rfl
    ·have hb : (!decide (p.kind = 2)) = true := by
      simp
      exact fun e => h23 (.inl e)
     have hb' : (!decide (p.kind = 3)) = true := by
      simp
      exact fun e => h23 (.inr e)
     have hpf : p.known = false := by
      rw [hpk]
      simp only [Bool.not_eq_true', decide_eq_false_iff_not] at hb hb'
      simp [hb, hb']
     first | refine zg1 ?_ | refine zg0 ?_ | refine zg2 ?_ | refine zg3 ?_
     simp -dsimp only [simprocAttr, ↓vpre, zpm, hb, hb']
     refine at_intro ?_
     simp -dsimp only [vend, ne_eq, Nat.reduceEqDiff, reduceCtorEq]
     first | refine zk1 rfl (fun h => ?_) (fun h => ?_) | refine zk0 rfl (fun h => ?_) (fun h => ?_) | refine zk2 rfl (fun h => ?_) (fun h => ?_)
     ·first | refine zg1 ?_ | refine zg0 ?_ | refine zg2 ?_ | refine zg3 ?_
      simp -dsimp only [simprocAttr, ↓vpre, zpm]
      refine at_intro ?_
      simp -dsimp only [vend, ne_eq, Nat.reduceEqDiff, reduceCtorEq]
      refine awp_ret ?_
      simp -dsimp only [simprocAttr, ↓vpre, zpm, RetTo, Try.results25, retVals, retVal, mkRet, AVal.upto, Nat.zero_le, Nat.le_refl, seqPost_ret, blockPost_ret, loopPost_ret]
      rw [hfalse hpf]
     ·cases h
   ·exact FSub.mp rfl (by rw [Pat.enc_cells]; rfl)
  ·refine awp_exit ?_
   simp -dsimp only [vend, ne_eq, Nat.reduceEqDiff, reduceCtorEq]
   have hkk : k = l.length := by simp at h; omega
   subst hkk
   rw [List.take_length] at hall
   first | refine zg1 ?_ | refine zg0 ?_ | refine zg2 ?_ | refine zg3 ?_
   simp -dsimp only [simprocAttr, ↓vpre, zpm]
   refine at_intro ?_
   simp -dsimp only [vend, ne_eq, Nat.reduceEqDiff, reduceCtorEq]
   refine awp_ret ?_
   simp -dsimp only [simprocAttr, ↓vpre, zpm, RetTo, Try.results25, retVals, retVal, mkRet, AVal.upto, Nat.zero_le, Nat.le_refl, seqPost_ret, blockPost_ret, loopPost_ret]
   rw [hall]

theorem known_spec (l : List Pat) : PCall Try.prog 25 [eR l] (.v (.bool (knownL l))) := by
 suffices H : ∀ n, ∀ l : List Pat, nodesL l < n → PCall Try.prog 25 [eR l] (.v (.bool (knownL l))) from H _ l (Nat.lt_succ_self _)
 intro n
 induction n with
 | zero => exact fun l h => by omega
 | succ n ih => exact fun l h => known_step (nodesL l) (fun m hm => ih m (by omega)) l (Nat.le_refl _)

end Go.Proofs.Ytakdmelemfnmdaa
end

section
/-
  The library of abstract values, part twenty: ways that come together, ahead of what follows.
-/
namespace Go.Av

theorem awp_mid0 {P : Program} {kb : Nat} {x y : Code} {Q : AEx → St → Prop} {σ : St} (τ : St) (h1 : AWP P kb x (midPost τ Q) σ) (h2 : AWP P kb y Q τ) : AWP P kb x (seqPost P kb y Q) σ :=
  h1.mono fun e σ' h => by cases e <;> first | exact h2.cover h | exact h

end Go.Av
end

section
set_option linter.unusedSimpArgs false
set_option linter.unusedVariables false
set_option maxRecDepth 100000
set_option maxHeartbeats 2000000
-- !tab vtab vmat
-- !upto Pat.enc_upto Pat.map_upto MRow.enc_upto MRow.map_upto aI_upto eI_upto nS_upto MTree.enc_upto MTree.map_upto Con.map_upto Data.map_upto
namespace Go.Proofs.Ytakdmelemfnmdaa
open Go.Av

theorem run_spec {datas : List Data} {t : Tbl} {N : List MTree} (hb : build datas = some t) (hdat : t.datas = datas) (hne : N ≠ []) (hl : N.length ≤ 4096) (hv : ValidL t N) (values : List Pat) {f : Nat} {z : Int} (hrun0 : RunP N values f (N.length - 1) z) : PCall Try.prog 26 [eD datas, eT N, eR values] (.tup [aI z, aI 0]) := by
 have hcheck := check_good hb hdat hne hl hv
 have hp := List.length_pos_iff.2 hne
 have hm1 : ((N.length - 1 : Nat) : Int) = (N.length : Int) - 1 := by omega
 refine ecall_of hT true 0 Try.func26 rfl (by kernel_rfl) (by simp [Try.ntmps26]) (by simp) ?_
 show AWP Try.prog _ _ _ ⟨76, _, _⟩
 dsimp only [Tmp, TypeId, slotsOf]
 first | refine zg1 ?_ | refine zg0 ?_ | refine zg2 ?_ | refine zg3 ?_
 simp -dsimp only [simprocAttr, ↓vpre, zpm]
 refine at_intro ?_
 simp -dsimp only [vend, ne_eq, Nat.reduceEqDiff, reduceCtorEq]
 first | refine zg1 ?_ | refine zg0 ?_ | refine zg2 ?_ | refine zg3 ?_
 simp -dsimp only [simprocAttr, ↓vpre, zpm]
 refine .inl ⟨_, hcheck, by first | (simp only [uptoL, AVal.upto, zt, zum]; done) | (simp [uptoL, AVal.upto, zum]; done), later_intro ?_⟩
 simp -dsimp only [simprocAttr, ↓vpre, zpm]
 refine at_intro ?_
 simp -dsimp only [vend, ne_eq, Nat.reduceEqDiff, reduceCtorEq]
 first | refine zg1 ?_ | refine zg0 ?_ | refine zg2 ?_ | refine zg3 ?_
 simp -dsimp only [simprocAttr, ↓vpre, zpm]
 refine at_intro ?_
 simp -dsimp only [vend, ne_eq, Nat.reduceEqDiff, reduceCtorEq]
 first | refine zk1 rfl (fun h => ?_) (fun h => ?_) | refine zk0 rfl (fun h => ?_) (fun h => ?_) | refine zk2 rfl (fun h => ?_) (fun h => ?_)
 ·cases h
 ·refine awp_skip ?_
  simp -dsimp only [vend, ne_eq, Nat.reduceEqDiff, reduceCtorEq]
  first | refine zg1 ?_ | refine zg0 ?_ | refine zg2 ?_ | refine zg3 ?_
  simp -dsimp only [simprocAttr, ↓vpre, zpm]
  repeat (refine ⟨by omega, ?_⟩)
  refine at_intro ?_
  simp -dsimp only [vend, ne_eq, Nat.reduceEqDiff, reduceCtorEq]
  first | refine awp_block (awp_loop (ι := {q : Nat × Nat // RunP N values q.1 q.2 z}) (fun q => ⟨76, [(1, eT N), (2, eR values), (9, aI q.1.2)], []⟩) (fun q => q.1.1) ⟨(f, N.length - 1), hrun0⟩ ?_ ?_) | refine awp_seq (awp_block (awp_loop (ι := {q : Nat × Nat // RunP N values q.1 q.2 z}) (fun q => ⟨76, [(1, eT N), (2, eR values), (9, aI q.1.2)], []⟩) (fun q => q.1.1) ⟨(f, N.length - 1), hrun0⟩ ?_ ?_))
  ·refine ⟨rfl, ?_, ?_⟩
   rotate_left
   simp -dsimp only [simprocAttr, ↓vpre, zpm, Says, exists_eq_left', Option.some.injEq, sub_self, and_assoc, true_and, and_true]
   ·exact Sub.int (by first | omega | (simp; omega))
   ·rfl
  ·rintro ⟨⟨f1, k⟩, hR⟩
   cases f1 with
   | zero => exact hR.elim
   | succ f1 =>
    rw [RunP] at hR
    obtain ⟨u, hu, hR⟩ := hR
    obtain ⟨_, hpl, h1000, hpos, hform⟩ := hv k u hu
    simp only
    first | refine awp_seq (awp_block ?_) | refine awp_block ?_
    first | refine zg1 ?_ | refine zg0 ?_ | refine zg2 ?_ | refine zg3 ?_
    simp -dsimp only [simprocAttr, ↓vpre, zpm, hu]
    refine at_intro ?_
    simp -dsimp only [vend, ne_eq, Nat.reduceEqDiff, reduceCtorEq]
    refine awp_freeze1 10 0 (.ip none u.enc.cells) rfl (by simp [AObj.isSpare]) trivial rfl ?_ ?_
    rotate_left
    simp -dsimp only [simprocAttr, ↓vpre, zpm]
    ·first | refine zg1 ?_ | refine zg0 ?_ | refine zg2 ?_ | refine zg3 ?_
     simp -dsimp only [simprocAttr, ↓vpre, zpm]
     refine at_intro ?_
     simp -dsimp only [vend, ne_eq, Nat.reduceEqDiff, reduceCtorEq]
     rcases hR with ⟨hk, hz⟩ | ⟨hk, hz⟩ | ⟨v, hat, y, hy0, hrun, hcase⟩
     ·subst hz
      first | refine awp_seq (awp_block ?_) | refine awp_block ?_
      first | refine zg1 ?_ | refine zg0 ?_ | refine zg2 ?_ | refine zg3 ?_
      simp -dsimp only [simprocAttr, ↓vpre, zpm, hk]
      refine at_intro ?_
      simp -dsimp only [vend, ne_eq, Nat.reduceEqDiff, reduceCtorEq]
      first | refine zk1 rfl (fun h => ?_) (fun h => ?_) | refine zk0 rfl (fun h => ?_) (fun h => ?_) | refine zk2 rfl (fun h => ?_) (fun h => ?_)
      ·first | refine zg1 ?_ | refine zg0 ?_ | refine zg2 ?_ | refine zg3 ?_
       simp -dsimp only [simprocAttr, ↓vpre, zpm]
       refine at_intro ?_
       simp -dsimp only [vend, ne_eq, Nat.reduceEqDiff, reduceCtorEq]
       refine awp_ret ?_
       simp -dsimp only [simprocAttr, ↓vpre, zpm, RetTo, Try.results26, retVals, retVal, mkRet, AVal.upto, Nat.zero_le, Nat.le_refl, seqPost_ret, blockPost_ret, loopPost_ret]
       simp [uptoL, AVal.upto]
      ·cases h
     ·subst hz
      first | refine awp_seq (awp_block ?_) | refine awp_block ?_
      first | refine zg1 ?_ | refine zg0 ?_ | refine zg2 ?_ | refine zg3 ?_
      simp -dsimp only [simprocAttr, ↓vpre, zpm, hk]
      refine at_intro ?_
      simp -dsimp only [vend, ne_eq, Nat.reduceEqDiff, reduceCtorEq]
      first | refine zk1 rfl (fun h => ?_) (fun h => ?_) | refine zk0 rfl (fun h => ?_) (fun h => ?_) | refine zk2 rfl (fun h => ?_) (fun h => ?_)
      ·cases h
      ·first | refine zg1 ?_ | refine zg0 ?_ | refine zg2 ?_ | refine zg3 ?_
       simp -dsimp only [simprocAttr, ↓vpre, zpm, hk]
       refine at_intro ?_
       simp -dsimp only [vend, ne_eq, Nat.reduceEqDiff, reduceCtorEq]
       first | refine zk1 rfl (fun h => ?_) (fun h => ?_) | refine zk0 rfl (fun h => ?_) (fun h => ?_) | refine zk2 rfl (fun h => ?_) (fun h => ?_)
       ·first | refine zg1 ?_ | refine zg0 ?_ | refine zg2 ?_ | refine zg3 ?_
        simp -dsimp only [simprocAttr, ↓vpre, zpm]
        refine at_intro ?_
        simp -dsimp only [vend, ne_eq, Nat.reduceEqDiff, reduceCtorEq]
        refine awp_ret ?_
        simp -dsimp only [simprocAttr, ↓vpre, zpm, RetTo, Try.results26, retVals, retVal, mkRet, AVal.upto, Nat.zero_le, Nat.le_refl, seqPost_ret, blockPost_ret, loopPost_ret]
        simp [uptoL, AVal.upto]
       ·cases h
     ·have hu3 : u.path ≠ [] ∧ u.kids.length ≤ 1000 ∧ decide (u.kind = 0) = false ∧ decide (u.kind = 1) = false := by
       have hk23 : u.kind = 2 ∨ u.kind = 3 := by
        rcases hcase with ⟨e, _⟩ | ⟨e, _⟩
        ·exact .inr e
        ·exact .inl e
       refine ⟨?_, h1000, decide_eq_false (by omega), decide_eq_false (by omega)⟩
       rcases hform with ⟨e, _⟩ | ⟨e, _⟩ | ⟨e, _, _, q, _⟩ | ⟨e, _, _, q, _⟩
       ·omega
       ·omega
       ·exact q
       ·exact q
      obtain ⟨hpne, _, hk0, hk1⟩ := hu3
      have hyneg : decide (y < 0) = false := decide_eq_false (by omega)
      obtain ⟨j, hpick, hj⟩ : ∃ j, pickK j u.kids = some y ∧ ((u.kind = 3 ∧ v.kind = 2 ∧ j = idx (fun w => decide (v.n = w)) u.words) ∨ (u.kind = 2 ∧ v.kind = 3 ∧ j = idx (fun s => decide (v.name = s)) u.names)) := by
       rcases hcase with ⟨a, b, c⟩ | ⟨a, b, c⟩
       ·exact ⟨_, c, .inl ⟨a, b, rfl⟩⟩
       ·exact ⟨_, c, .inr ⟨a, b, rfl⟩⟩
      first | refine awp_seq (awp_block ?_) | refine awp_block ?_
      first | refine zg1 ?_ | refine zg0 ?_ | refine zg2 ?_ | refine zg3 ?_
      simp -dsimp only [simprocAttr, ↓vpre, zpm, hk0]
      refine at_intro ?_
      simp -dsimp only [vend, ne_eq, Nat.reduceEqDiff, reduceCtorEq]
      first | refine zk1 rfl (fun h => ?_) (fun h => ?_) | refine zk0 rfl (fun h => ?_) (fun h => ?_) | refine zk2 rfl (fun h => ?_) (fun h => ?_)
      ·cases h
      ·first | refine zg1 ?_ | refine zg0 ?_ | refine zg2 ?_ | refine zg3 ?_
       simp -dsimp only [simprocAttr, ↓vpre, zpm, hk1]
       refine at_intro ?_
       simp -dsimp only [vend, ne_eq, Nat.reduceEqDiff, reduceCtorEq]
       first | refine zk1 rfl (fun h => ?_) (fun h => ?_) | refine zk0 rfl (fun h => ?_) (fun h => ?_) | refine zk2 rfl (fun h => ?_) (fun h => ?_)
       ·cases h
       ·refine awp_skip ?_
        simp -dsimp only [vend, ne_eq, Nat.reduceEqDiff, reduceCtorEq]
        first | refine zg1 ?_ | refine zg0 ?_ | refine zg2 ?_ | refine zg3 ?_
        simp -dsimp only [simprocAttr, ↓vpre, zpm]
        refine .inl ⟨_, at_spec values u.path v hat hpos hpne, by first | (simp only [uptoL, AVal.upto, zt, zum]; done) | (simp [uptoL, AVal.upto, zum]; done), later_intro ?_⟩
        simp -dsimp only [simprocAttr, ↓vpre, zpm]
        refine at_intro ?_
        simp -dsimp only [vend, ne_eq, Nat.reduceEqDiff, reduceCtorEq]
        refine awp_freeze1 11 1 (.ip none v.enc.cells) rfl (by simp [AObj.isSpare]) trivial rfl ?_ ?_
        rotate_left
        simp -dsimp only [simprocAttr, ↓vpre, zpm]
        ·first | refine zg1 ?_ | refine zg0 ?_ | refine zg2 ?_ | refine zg3 ?_
         simp -dsimp only [simprocAttr, ↓vpre, zpm]
         refine at_intro ?_
         simp -dsimp only [vend, ne_eq, Nat.reduceEqDiff, reduceCtorEq]
         first | refine zk1 rfl (fun h => ?_) (fun h => ?_) | refine zk0 rfl (fun h => ?_) (fun h => ?_) | refine zk2 rfl (fun h => ?_) (fun h => ?_)
         ·cases h
         ·refine awp_skip ?_
          simp -dsimp only [vend, ne_eq, Nat.reduceEqDiff, reduceCtorEq]
          first | refine zg1 ?_ | refine zg0 ?_ | refine zg2 ?_ | refine zg3 ?_
          simp -dsimp only [simprocAttr, ↓vpre, zpm]
          refine at_intro ?_
          simp -dsimp only [vend, ne_eq, Nat.reduceEqDiff, reduceCtorEq]
          first | refine zg1 ?_ | refine zg0 ?_ | refine zg2 ?_ | refine zg3 ?_
          simp -dsimp only [simprocAttr, ↓vpre, zpm]
          refine at_intro ?_
          simp -dsimp only [vend, ne_eq, Nat.reduceEqDiff, reduceCtorEq]
          first | refine awp_mid0 (⟨76, [(1, eT N), (2, eR values), (10, .ip none [.v (.int .i64 u.kind), .v (.int .i64 u.row), .lst 1 (u.path.map aI) .sh, .lst 1 (u.names.map nS) .sh, .lst 1 (u.words.map aI) .sh, .lst 1 (u.kids.map aI) .sh]), (13, aI j)], [.gone, .gone]⟩) ?_ ?_ | refine awp_mid (⟨76, [(1, eT N), (2, eR values), (10, .ip none [.v (.int .i64 u.kind), .v (.int .i64 u.row), .lst 1 (u.path.map aI) .sh, .lst 1 (u.names.map nS) .sh, .lst 1 (u.words.map aI) .sh, .lst 1 (u.kids.map aI) .sh]), (13, aI j)], [.gone, .gone]⟩) ?_ ?_ | refine awp_mid2 (⟨76, [(1, eT N), (2, eR values), (10, .ip none [.v (.int .i64 u.kind), .v (.int .i64 u.row), .lst 1 (u.path.map aI) .sh, .lst 1 (u.names.map nS) .sh, .lst 1 (u.words.map aI) .sh, .lst 1 (u.kids.map aI) .sh]), (13, aI j)], [.gone, .gone]⟩) ?_ ?_
          ·rcases hj with ⟨hk3, hv2, hje⟩ | ⟨hk2, hv3, hje⟩
           ·have hd3 : decide (u.kind = 3) = true := decide_eq_true hk3
            first | refine zk1 rfl (fun h => ?_) (fun h => ?_) | refine zk0 rfl (fun h => ?_) (fun h => ?_) | refine zk2 rfl (fun h => ?_) (fun h => ?_)
            ·first | refine zg1 ?_ | refine zg0 ?_ | refine zg2 ?_ | refine zg3 ?_
             simp -dsimp only [simprocAttr, ↓vpre, zpm, hv2]
             refine at_intro ?_
             simp -dsimp only [vend, ne_eq, Nat.reduceEqDiff, reduceCtorEq]
             first | refine zk1 rfl (fun h => ?_) (fun h => ?_) | refine zk0 rfl (fun h => ?_) (fun h => ?_) | refine zk2 rfl (fun h => ?_) (fun h => ?_)
             ·cases h
             ·refine awp_skip ?_
              simp -dsimp only [vend, ne_eq, Nat.reduceEqDiff, reduceCtorEq]
              first | refine zg1 ?_ | refine zg0 ?_ | refine zg2 ?_ | refine zg3 ?_
              simp -dsimp only [simprocAttr, ↓vpre, zpm]
              refine .inl ⟨_, indexI_spec u.words v.n, by first | (simp only [uptoL, AVal.upto, zt, zum]; done) | (simp [uptoL, AVal.upto, zum]; done), later_intro ?_⟩
              simp -dsimp only [simprocAttr, ↓vpre, zpm]
              refine at_intro ?_
              show Covers _ _
              refine ⟨rfl, ?_, ?_⟩
              rotate_left
              simp -dsimp only [simprocAttr, ↓vpre, zpm, Says, exists_eq_left', Option.some.injEq, sub_self, and_assoc, true_and, and_true]
              ·rw [hje]
               exact Sub.refl _
              ·rfl
            ·rw [hd3] at h
             cases h
           ·have hd3 : decide (u.kind = 3) = false := decide_eq_false (by omega)
            first | refine zk1 rfl (fun h => ?_) (fun h => ?_) | refine zk0 rfl (fun h => ?_) (fun h => ?_) | refine zk2 rfl (fun h => ?_) (fun h => ?_)
            ·rw [hd3] at h
             cases h
            ·first | refine zg1 ?_ | refine zg0 ?_ | refine zg2 ?_ | refine zg3 ?_
             simp -dsimp only [simprocAttr, ↓vpre, zpm, hv3]
             refine at_intro ?_
             simp -dsimp only [vend, ne_eq, Nat.reduceEqDiff, reduceCtorEq]
             first | refine zk1 rfl (fun h => ?_) (fun h => ?_) | refine zk0 rfl (fun h => ?_) (fun h => ?_) | refine zk2 rfl (fun h => ?_) (fun h => ?_)
             ·cases h
             ·refine awp_skip ?_
              simp -dsimp only [vend, ne_eq, Nat.reduceEqDiff, reduceCtorEq]
              first | refine zg1 ?_ | refine zg0 ?_ | refine zg2 ?_ | refine zg3 ?_
              simp -dsimp only [simprocAttr, ↓vpre, zpm]
              refine .inl ⟨_, indexS_spec u.names v.name, by first | (simp only [uptoL, AVal.upto, zt, zum]; done) | (simp [uptoL, AVal.upto, zum]; done), later_intro ?_⟩
              simp -dsimp only [simprocAttr, ↓vpre, zpm]
              refine at_intro ?_
              show Covers _ _
              refine ⟨rfl, ?_, ?_⟩
              rotate_left
              simp -dsimp only [simprocAttr, ↓vpre, zpm, Says, exists_eq_left', Option.some.injEq, sub_self, and_assoc, true_and, and_true]
              ·rw [hje]
               exact Sub.refl _
              ·rfl
          ·unfold pickK at hpick
           by_cases hj0 : j < 0
           ·rw [if_pos hj0] at hpick
            have hdj : decide (j < 0) = true := decide_eq_true hj0
            have hkl := (List.getElem?_eq_some_iff.1 hpick).1
            have hm2 : ((u.kids.length : Int) - 1).toNat = u.kids.length - 1 := by omega
            first | refine zg1 ?_ | refine zg0 ?_ | refine zg2 ?_ | refine zg3 ?_
            simp -dsimp only [simprocAttr, ↓vpre, zpm, hdj]
            refine at_intro ?_
            simp -dsimp only [vend, ne_eq, Nat.reduceEqDiff, reduceCtorEq]
            first | refine zk1 rfl (fun h => ?_) (fun h => ?_) | refine zk0 rfl (fun h => ?_) (fun h => ?_) | refine zk2 rfl (fun h => ?_) (fun h => ?_)
            ·first | refine zg1 ?_ | refine zg0 ?_ | refine zg2 ?_ | refine zg3 ?_
             simp -dsimp only [simprocAttr, ↓vpre, zpm]
             repeat (refine ⟨by omega, ?_⟩)
             refine at_intro ?_
             simp -dsimp only [vend, ne_eq, Nat.reduceEqDiff, reduceCtorEq]
             first | refine zg1 ?_ | refine zg0 ?_ | refine zg2 ?_ | refine zg3 ?_
             simp -dsimp only [simprocAttr, ↓vpre, zpm, hm2, hpick]
             repeat (refine ⟨by omega, ?_⟩)
             refine at_intro ?_
             simp -dsimp only [vend, ne_eq, Nat.reduceEqDiff, reduceCtorEq]
             refine awp_trunc' 0 [(1, eT N), (2, eR values), (9, aI y)] (by first | omega | (simp; done) | (simp; omega)) (by first | omega | (simp; done) | (simp; omega)) [] ?_ ?_ ?_ ?_ ?_
             ·rfl
             ·simp
             ·simp -dsimp only [simprocAttr, ↓vpre, zpm, Says, exists_eq_left', Option.some.injEq, sub_self, and_true]
             ·simp [AVal.upto, uptoL, MTree.map_upto, Pat.map_upto]
             first | refine zg1 ?_ | refine zg0 ?_ | refine zg2 ?_ | refine zg3 ?_
             simp -dsimp only [simprocAttr, ↓vpre, zpm, hyneg]
             refine at_intro ?_
             simp -dsimp only [vend, ne_eq, Nat.reduceEqDiff, reduceCtorEq]
             first | refine zk1 rfl (fun h => ?_) (fun h => ?_) | refine zk0 rfl (fun h => ?_) (fun h => ?_) | refine zk2 rfl (fun h => ?_) (fun h => ?_)
             ·cases h
             ·refine awp_skip ?_
              simp -dsimp only [vend, ne_eq, Nat.reduceEqDiff, reduceCtorEq]
              refine ⟨⟨(f1, y.toNat), hrun⟩, by simp, ?_⟩
              refine ⟨rfl, ?_, ?_⟩
              rotate_left
              simp -dsimp only [simprocAttr, ↓vpre, zpm, Says, exists_eq_left', Option.some.injEq, sub_self, and_assoc, true_and, and_true]
              ·exact Sub.int (by simp; omega)
              ·rfl
            ·cases h
           ·rw [if_neg hj0] at hpick
            have hdj : decide (j < 0) = false := decide_eq_false hj0
            first | refine zg1 ?_ | refine zg0 ?_ | refine zg2 ?_ | refine zg3 ?_
            simp -dsimp only [simprocAttr, ↓vpre, zpm, hdj]
            refine at_intro ?_
            simp -dsimp only [vend, ne_eq, Nat.reduceEqDiff, reduceCtorEq]
            first | refine zk1 rfl (fun h => ?_) (fun h => ?_) | refine zk0 rfl (fun h => ?_) (fun h => ?_) | refine zk2 rfl (fun h => ?_) (fun h => ?_)
            ·cases h
            ·refine awp_skip ?_
             simp -dsimp only [vend, ne_eq, Nat.reduceEqDiff, reduceCtorEq]
             first | refine zg1 ?_ | refine zg0 ?_ | refine zg2 ?_ | refine zg3 ?_
             simp -dsimp only [simprocAttr, ↓vpre, zpm, hpick]
             repeat (refine ⟨by omega, ?_⟩)
             refine at_intro ?_
             simp -dsimp only [vend, ne_eq, Nat.reduceEqDiff, reduceCtorEq]
             refine awp_trunc' 0 [(1, eT N), (2, eR values), (9, aI y)] (by first | omega | (simp; done) | (simp; omega)) (by first | omega | (simp; done) | (simp; omega)) [] ?_ ?_ ?_ ?_ ?_
             ·rfl
             ·simp
             ·simp -dsimp only [simprocAttr, ↓vpre, zpm, Says, exists_eq_left', Option.some.injEq, sub_self, and_true]
             ·simp [AVal.upto, uptoL, MTree.map_upto, Pat.map_upto]
             first | refine zg1 ?_ | refine zg0 ?_ | refine zg2 ?_ | refine zg3 ?_
             simp -dsimp only [simprocAttr, ↓vpre, zpm, hyneg]
             refine at_intro ?_
             simp -dsimp only [vend, ne_eq, Nat.reduceEqDiff, reduceCtorEq]
             first | refine zk1 rfl (fun h => ?_) (fun h => ?_) | refine zk0 rfl (fun h => ?_) (fun h => ?_) | refine zk2 rfl (fun h => ?_) (fun h => ?_)
             ·cases h
             ·refine awp_skip ?_
              simp -dsimp only [vend, ne_eq, Nat.reduceEqDiff, reduceCtorEq]
              refine ⟨⟨(f1, y.toNat), hrun⟩, by simp, ?_⟩
              refine ⟨rfl, ?_, ?_⟩
              rotate_left
              simp -dsimp only [simprocAttr, ↓vpre, zpm, Says, exists_eq_left', Option.some.injEq, sub_self, and_assoc, true_and, and_true]
              ·exact Sub.int (by simp; omega)
              ·rfl
        ·exact FSub.mp rfl (by rw [Pat.enc_cells]; rfl)
    ·exact FSub.mp rfl rfl

end Go.Proofs.Ytakdmelemfnmdaa
end

section
/-
  Trees for the first rows and for all rows answer alike.
-/
set_option linter.unusedVariables false
namespace Go.Proofs.Ytakdmelemfnmdaa

theorem mrows_append : ∀ (k : Nat) (a b : List (List Pat)), mrows k (a ++ b) = mrows k a ++ mrows (k + a.length) b
  | k, [], b => by simp [mrows]
  | k, r :: a, b => by
    simp only [List.cons_append, mrows, mrows_append (k + 1) a b, List.length_cons]
    rw [show k + 1 + a.length = k + (a.length + 1) by omega]

theorem firstOf_append {vs : List Val} {o : Option Int} : ∀ {a b : List MRow}, firstOf (a ++ b) vs o ↔ (∃ z, firstOf a vs (some z) ∧ o = some z) ∨ (firstOf a vs none ∧ firstOf b vs o)
  | [], b => by simp [firstOf]
  | r :: a, b => by
    have ih := firstOf_append (vs := vs) (o := o) (a := a) (b := b)
    simp only [List.cons_append, firstOf, ih]
    by_cases hm : matL r.pats vs
    · simp [hm]
    · simp [hm]

theorem first_ge : ∀ (k : Nat) (rows : List (List Pat)) (vs : List Val) (z : Int), firstOf (mrows k rows) vs (some z) → (k : Int) ≤ z
  | k, [], vs, z, h => by simp [mrows, firstOf] at h
  | k, r :: rs, vs, z, h => by
    simp only [mrows, firstOf] at h
    rcases h with ⟨_, e⟩ | ⟨_, h⟩
    · simp only [Option.some.injEq] at e
      omega
    · have := first_ge (k + 1) rs vs z h
      omega

theorem places_start (values : List Pat) : Places values (pathsOf values.length) values := by
  refine all2_of_get (by rw [pathsOf_len]) fun n x y hx hy => ?_
  have hn : n < values.length := (List.getElem?_eq_some_iff.1 hy).1
  unfold pathsOf at hx
  rw [List.getElem?_map, List.getElem?_range hn] at hx
  simp only [Option.map_some, Option.some.injEq] at hx
  subst hx
  simp only [atV, Int.toNat_natCast, hy]

/-- A tree that Compile hands back, run on values. -/
theorem run_first {datas : List Data} {rows : List (List Pat)} {values : List Pat} {t : Tbl} {tys : List Ty} (hb : build datas = some t) (hc : (compileE datas rows).2 = 0) (hst : Stands t rows tys) (hl : (rows.headD []).length = tys.length) (hv : HasTyL t values tys) (hk : knownL values = true) {o : Option Int} (ho : firstOf (mrows 0 rows) (values.map Pat.val) o) :
    RunP (compileE datas rows).1 values 1000 ((compileE datas rows).1.length - 1) (outOf o) := by
  obtain ⟨t', hb', hdat, hcheck, hsm, tys', hh, h16, hall, hst', hne, hlen, hvl, hr⟩ := compile_zero hc
  rw [hb] at hb'
  cases hb'
  have hp := List.length_pos_iff.2 hne
  have hle : tys'.length = tys.length := by omega
  rw [hle] at hr
  rw [show ((compileE datas rows).1.length : Int) - 1 = (((compileE datas rows).1.length - 1 : Nat) : Int) by omega] at hr
  refine rep_run values 1000 _ _ tys _ values o (start_pre hst (by omega) (build_nodup hb)) hr hv hk ?_ ho
  rw [← hv.len]
  exact places_start values

structure PrefixLaw (datas : List Data) (rows : List (List Pat)) (values : List Pat) (n : Nat) (t : Tbl) (a b : Int) : Prop where
  run1 : RunP (compileE datas (rows.take n)).1 values 1000 ((compileE datas (rows.take n)).1.length - 1) a
  run2 : RunP (compileE datas rows).1 values 1000 ((compileE datas rows).1.length - 1) b
  alike : a = b ∨ (a = -1 ∧ (b = -1 ∨ (n : Int) ≤ b))

theorem prefix_law {datas : List Data} {rows : List (List Pat)} {values : List Pat} {n : Nat} (hne : rows ≠ []) (hn : n ≤ rows.length) (hck : check datas (rows ++ [values]) = 0) (h1 : (compileE datas (rows.take n)).2 = 0) (h2 : (compileE datas rows).2 = 0) (hk : knownL values = true) :
    ∃ t, build datas = some t ∧ ∃ a b, PrefixLaw datas rows values n t a b := by
  obtain ⟨t, hb, hdat, hall, h16, tys, hty, hst⟩ := check_zero hck
  have hhead : ((rows ++ [values]).headD []).length = (rows.headD []).length := by
    cases rows with
    | nil => exact absurd rfl hne
    | cons r rs => rfl
  rw [hhead] at hty hall
  have hv : HasTyL t values tys := hst.typed values (by simp)
  have hstr : Stands t rows tys := hst.sub (List.sublist_append_left _ _)
  obtain ⟨o2, ho2⟩ := firstOf_ex (mrows 0 rows) (values.map Pat.val)
  have hr2 := run_first hb h2 hstr hty.symm hv hk ho2
  refine ⟨t, hb, ?_⟩
  by_cases hn0 : n = 0
  · subst hn0
    refine ⟨-1, outOf o2, ?_, hr2, .inr ⟨rfl, ?_⟩⟩
    · obtain ⟨t', hb', hdat', hcheck, hsm, tys', hh, h16', hall', hst', hne', hlen, hvl, hr⟩ := compile_zero h1
      rw [hb] at hb'
      cases hb'
      have hp := List.length_pos_iff.2 hne'
      have ht0 : tys' = [] := List.length_eq_zero_iff.1 (by rw [← hh]; rfl)
      subst ht0
      rw [show ((compileE datas (rows.take 0)).1.length : Int) - 1 = (((compileE datas (rows.take 0)).1.length - 1 : Nat) : Int) by omega] at hr
      exact rep_run values 1000 _ _ [] _ [] none (start_pre hst' h16' (build_nodup hb)) hr rfl rfl .nil (by simp [mrows, firstOf])
    · cases o2 with
      | none => exact .inl rfl
      | some z =>
        obtain ⟨k, e, _⟩ := first_index ho2
        refine .inr ?_
        simp only [outOf]
        omega
  · have hstn : Stands t (rows.take n) tys := hstr.sub (List.take_sublist n rows)
    have hhn : ((rows.take n).headD []).length = tys.length := by
      cases rows with
      | nil => exact absurd rfl hne
      | cons r rs =>
        cases n with
        | zero => exact absurd rfl hn0
        | succ n =>
          rw [hty]
          rfl
    obtain ⟨o1, ho1⟩ := firstOf_ex (mrows 0 (rows.take n)) (values.map Pat.val)
    have hr1 := run_first hb h1 hstn hhn hv hk ho1
    refine ⟨outOf o1, outOf o2, hr1, hr2, ?_⟩
    have hsplit : mrows 0 rows = mrows 0 (rows.take n) ++ mrows n (rows.drop n) := by
      conv => lhs; rw [← List.take_append_drop n rows, mrows_append]
      rw [List.length_take, Nat.min_eq_left hn, Nat.zero_add]
    rw [hsplit, firstOf_append] at ho2
    rcases ho2 with ⟨z, hz, e⟩ | ⟨hnone, hrest⟩
    · rw [firstOf_uniq ho1 hz, e]
      exact .inl rfl
    · rw [firstOf_uniq ho1 hnone]
      refine .inr ⟨rfl, ?_⟩
      cases o2 with
      | none => exact .inl rfl
      | some z => exact .inr (first_ge n _ _ z hrest)

end Go.Proofs.Ytakdmelemfnmdaa
end

section
set_option linter.unusedSimpArgs false
set_option linter.unusedVariables false
set_option maxRecDepth 100000
set_option maxHeartbeats 2000000
-- !tab vtab vmat
-- !upto Pat.enc_upto Pat.map_upto MRow.enc_upto MRow.map_upto aI_upto eI_upto nS_upto MTree.enc_upto MTree.map_upto rows_upto Con.map_upto Data.map_upto
namespace Go.Proofs.Ytakdmelemfnmdaa
open Go.Av

theorem tmod_abs (n : Int) (m : Nat) (hm : 0 < m) : (-(m : Int) < n.tmod m ∧ n.tmod m < m) := by
 have h1 := Int.natAbs_tmod n m
 have h2 := Nat.mod_lt n.natAbs hm
 simp only [Int.natAbs_natCast] at h1
 omega

theorem matchPrefix_law (datas : List Data) (hF : FitD datas) (rows : List (List Pat)) (hfit : rows.length * 24 ≤ 140737488351232) (values : List Pat) (n0 : Int) (lo : IntKind.min .i64 ≤ n0) (hi : n0 ≤ IntKind.max .i64) : PCall Try.prog 10 [eD datas, eRR rows, eR values, aI n0] (.v (.bool true)) := by
 by_cases hz : rows.length = 0
 ·have hz1 : decide ((rows.length : Int) = 0) = true := decide_eq_true (by omega)
  refine ecall_of hT true 0 Try.func10 rfl (by kernel_rfl) (by simp [Try.ntmps10]) (by simp) ?_
  show AWP Try.prog _ _ _ ⟨103, _, _⟩
  dsimp only [Tmp, TypeId, slotsOf]
  first | refine zg1 ?_ | refine zg0 ?_ | refine zg2 ?_ | refine zg3 ?_
  simp -dsimp only [simprocAttr, ↓vpre, zpm]
  refine at_intro ?_
  simp -dsimp only [vend, ne_eq, Nat.reduceEqDiff, reduceCtorEq]
  first | refine zg1 ?_ | refine zg0 ?_ | refine zg2 ?_ | refine zg3 ?_
  simp -dsimp only [simprocAttr, ↓vpre, zpm]
  refine .inl ⟨_, patternsWork_spec, by first | (simp only [uptoL, AVal.upto, zt, zum]; done) | (simp [uptoL, AVal.upto, zum]; done), later_intro ?_⟩
  simp -dsimp only [simprocAttr, ↓vpre, zpm]
  refine at_intro ?_
  simp -dsimp only [vend, ne_eq, Nat.reduceEqDiff, reduceCtorEq]
  first | refine zk1 rfl (fun h => ?_) (fun h => ?_) | refine zk0 rfl (fun h => ?_) (fun h => ?_) | refine zk2 rfl (fun h => ?_) (fun h => ?_)
  ·cases h
  ·refine awp_skip ?_
   simp -dsimp only [vend, ne_eq, Nat.reduceEqDiff, reduceCtorEq]
   first | refine zg1 ?_ | refine zg0 ?_ | refine zg2 ?_ | refine zg3 ?_
   simp -dsimp only [simprocAttr, ↓vpre, zpm, hz1]
   refine at_intro ?_
   simp -dsimp only [vend, ne_eq, Nat.reduceEqDiff, reduceCtorEq]
   first | refine zk1 rfl (fun h => ?_) (fun h => ?_) | refine zk0 rfl (fun h => ?_) (fun h => ?_) | refine zk2 rfl (fun h => ?_) (fun h => ?_)
   ·first | refine zg1 ?_ | refine zg0 ?_ | refine zg2 ?_ | refine zg3 ?_
    simp -dsimp only [simprocAttr, ↓vpre, zpm]
    refine at_intro ?_
    simp -dsimp only [vend, ne_eq, Nat.reduceEqDiff, reduceCtorEq]
    refine awp_ret ?_
    simp -dsimp only [simprocAttr, ↓vpre, zpm, RetTo, Try.results10, retVals, retVal, mkRet, AVal.upto, Nat.zero_le, Nat.le_refl, seqPost_ret, blockPost_ret, loopPost_ret]
   ·cases h
 ·have hz1 : decide ((rows.length : Int) = 0) = false := decide_eq_false (by omega)
  have hck := Check_spec datas (rows ++ [values])
  have happ : (rows ++ [values]).map eR = rows.map eR ++ [.lst 4 (values.map Pat.enc) .sh] := by simp
  have hck : PCall Try.prog 24 [.lst 3 (datas.map Data.enc) .sh, .lst 1 ((rows ++ [values]).map eR) .sh] (aI (check datas (rows ++ [values]))) := hck
  rw [happ] at hck
  have hupx : uptoL 0 [.lst 3 (datas.map Data.enc) .sh, .lst 1 (rows.map eR ++ [.lst 4 (values.map Pat.enc) .sh]) .sh] := by
   rw [← happ]
   simp [uptoL, AVal.upto, rows_upto, Data.map_upto, -List.map_append]
  refine ecall_of hT true 0 Try.func10 rfl (by kernel_rfl) (by simp [Try.ntmps10]) (by simp) ?_
  show AWP Try.prog _ _ _ ⟨103, _, _⟩
  dsimp only [Tmp, TypeId, slotsOf]
  first | refine zg1 ?_ | refine zg0 ?_ | refine zg2 ?_ | refine zg3 ?_
  simp -dsimp only [simprocAttr, ↓vpre, zpm]
  refine at_intro ?_
  simp -dsimp only [vend, ne_eq, Nat.reduceEqDiff, reduceCtorEq]
  first | refine zg1 ?_ | refine zg0 ?_ | refine zg2 ?_ | refine zg3 ?_
  simp -dsimp only [simprocAttr, ↓vpre, zpm]
  refine .inl ⟨_, patternsWork_spec, by first | (simp only [uptoL, AVal.upto, zt, zum]; done) | (simp [uptoL, AVal.upto, zum]; done), later_intro ?_⟩
  simp -dsimp only [simprocAttr, ↓vpre, zpm]
  refine at_intro ?_
  simp -dsimp only [vend, ne_eq, Nat.reduceEqDiff, reduceCtorEq]
  refine awp_len 1 rfl (fun hlen => ?_)
  simp only [List.length_map] at hlen
  first | refine zk1 rfl (fun h => ?_) (fun h => ?_) | refine zk0 rfl (fun h => ?_) (fun h => ?_) | refine zk2 rfl (fun h => ?_) (fun h => ?_)
  ·cases h
  ·refine awp_skip ?_
   simp -dsimp only [vend, ne_eq, Nat.reduceEqDiff, reduceCtorEq]
   have hshare : (rows.map eR).map AVal.share = rows.map eR := by
    rw [List.map_map]
    rfl
   first | refine zg1 ?_ | refine zg0 ?_ | refine zg2 ?_ | refine zg3 ?_
   simp -dsimp only [simprocAttr, ↓vpre, zpm, hz1, hshare]
   repeat (refine ⟨by omega, ?_⟩)
   refine .inl ⟨_, hck, hupx, later_intro ?_⟩
   by_cases hc0 : check datas (rows ++ [values]) = 0
   ·have hcd : (!decide (check datas (rows ++ [values]) = 0)) = false := by simp [hc0]
    simp -dsimp only [simprocAttr, ↓vpre, zpm, hcd]
    refine at_intro ?_
    simp -dsimp only [vend, ne_eq, Nat.reduceEqDiff, reduceCtorEq]
    first | refine zk1 rfl (fun h => ?_) (fun h => ?_) | refine zk0 rfl (fun h => ?_) (fun h => ?_) | refine zk2 rfl (fun h => ?_) (fun h => ?_)
    ·cases h
    ·refine awp_skip ?_
     simp -dsimp only [vend, ne_eq, Nat.reduceEqDiff, reduceCtorEq]
     have hmod := tmod_abs n0 (rows.length + 1) (by omega)
     have hne0 : ((rows.length : Int) + 1 = 0) = False := by
      rw [eq_iff_iff, iff_false]
      omega
     have hcast : (((rows.length + 1 : Nat)) : Int) = (rows.length : Int) + 1 := by omega
     rw [hcast] at hmod
     obtain ⟨hmin, hmax⟩ : IntKind.min .i64 = -9223372036854775808 ∧ IntKind.max .i64 = 9223372036854775807 := ⟨by decide, by decide⟩
     generalize hm : n0.tmod ((rows.length : Int) + 1) = m at hmod
     first | refine zg1 ?_ | refine zg0 ?_ | refine zg2 ?_ | refine zg3 ?_
     simp -dsimp only [simprocAttr, ↓vpre, zpm, hne0, if_false, hm]
     repeat (refine ⟨by omega, ?_⟩)
     refine at_intro ?_
     simp -dsimp only [vend, ne_eq, Nat.reduceEqDiff, reduceCtorEq]
     first | refine zg1 ?_ | refine zg0 ?_ | refine zg2 ?_ | refine zg3 ?_
     simp -dsimp only [simprocAttr, ↓vpre, zpm]
     refine at_intro ?_
     simp -dsimp only [vend, ne_eq, Nat.reduceEqDiff, reduceCtorEq]
     first | refine awp_mid0 (⟨103, [(0, eD datas), (1, eRR rows), (2, eR values), (3, aI (m.natAbs : Int))], [.spare (rows.length + 1)]⟩) ?_ ?_ | refine awp_mid (⟨103, [(0, eD datas), (1, eRR rows), (2, eR values), (3, aI (m.natAbs : Int))], [.spare (rows.length + 1)]⟩) ?_ ?_ | refine awp_mid2 (⟨103, [(0, eD datas), (1, eRR rows), (2, eR values), (3, aI (m.natAbs : Int))], [.spare (rows.length + 1)]⟩) ?_ ?_
     ·first | refine zk1 rfl (fun h => ?_) (fun h => ?_) | refine zk0 rfl (fun h => ?_) (fun h => ?_) | refine zk2 rfl (fun h => ?_) (fun h => ?_)
      ·have hneg : m < 0 := of_decide_eq_true h
       first | refine zg1 ?_ | refine zg0 ?_ | refine zg2 ?_ | refine zg3 ?_
       simp -dsimp only [simprocAttr, ↓vpre, zpm]
       repeat (refine ⟨by omega, ?_⟩)
       refine at_intro ?_
       show Covers _ _
       refine ⟨rfl, ?_, ?_⟩
       rotate_left
       simp -dsimp only [simprocAttr, ↓vpre, zpm, Says, exists_eq_left', Option.some.injEq, sub_self, and_assoc, true_and, and_true]
       ·exact Sub.int (by omega)
       ·rfl
      ·have hneg : ¬ m < 0 := of_decide_eq_false h
       refine awp_skip ?_
       show Covers _ _
       refine ⟨rfl, ?_, ?_⟩
       rotate_left
       simp -dsimp only [simprocAttr, ↓vpre, zpm, Says, exists_eq_left', Option.some.injEq, sub_self, and_assoc, true_and, and_true]
       ·exact Sub.int (by omega)
       ·rfl
     ·obtain ⟨n, hn⟩ : ∃ n, n = m.natAbs := ⟨_, rfl⟩
      have hnl : n ≤ rows.length := by omega
      rw [← hn]
      have hc1 := compile_spec datas (rows.take n)
      have hc2 := compile_spec datas rows
      have hk := known_spec values
      have hrowsne : rows ≠ [] := fun e => hz (by rw [e]; rfl)
      have hlaw := fun a b c => prefix_law (n := n) hrowsne hnl hc0 a b c
      have hz1 := compile_zero (datas := datas) (rows := rows.take n)
      have hz2 := compile_zero (datas := datas) (rows := rows)
      first | refine zg1 ?_ | refine zg0 ?_ | refine zg2 ?_ | refine zg3 ?_
      simp -dsimp only [simprocAttr, ↓vpre, zpm, ← List.map_take, Int.toNat_natCast]
      repeat (refine ⟨by omega, ?_⟩)
      refine .inl ⟨_, hc1, by first | (simp only [uptoL, AVal.upto, zt, zum]; done) | (simp [uptoL, AVal.upto, zum]; done), later_intro ?_⟩
      simp -dsimp only [simprocAttr, ↓vpre, zpm]
      refine at_intro ?_
      simp -dsimp only [vend, ne_eq, Nat.reduceEqDiff, reduceCtorEq]
      first | refine zg1 ?_ | refine zg0 ?_ | refine zg2 ?_ | refine zg3 ?_
      simp -dsimp only [simprocAttr, ↓vpre, zpm]
      refine .inl ⟨_, hc2, by first | (simp only [uptoL, AVal.upto, zt, zum]; done) | (simp [uptoL, AVal.upto, zum]; done), later_intro ?_⟩
      simp -dsimp only [simprocAttr, ↓vpre, zpm]
      refine at_intro ?_
      simp -dsimp only [vend, ne_eq, Nat.reduceEqDiff, reduceCtorEq]
      by_cases he1 : (compileE datas (rows.take n)).2 = 0
      ·have hd1 : (!decide ((compileE datas (rows.take n)).2 = 0)) = false := by simp [he1]
       by_cases he2 : (compileE datas rows).2 = 0
       ·have hd2 : (!decide ((compileE datas rows).2 = 0)) = false := by simp [he2]
        cases hkn : knownL values with
        | true =>
         rw [hkn] at hk
         obtain ⟨t, hb, a, b, hrun1, hrun2, halike⟩ := hlaw he1 he2 hkn
         obtain ⟨t1, hb1, hdat1, _, _, _, _, _, _, _, hne1, hl1, hv1, _⟩ := hz1 he1
         obtain ⟨t2, hb2, hdat2, _, _, _, _, _, _, _, hne2, hl2, hv2, _⟩ := hz2 he2
         have hr1 := run_spec hb1 hdat1 hne1 hl1 hv1 values hrun1
         have hr2 := run_spec hb2 hdat2 hne2 hl2 hv2 values hrun2
         first | refine zg1 ?_ | refine zg0 ?_ | refine zg2 ?_ | refine zg3 ?_
         simp -dsimp only [simprocAttr, ↓vpre, zpm, hd1, hd2]
         refine .inl ⟨_, hk, by first | (simp only [uptoL, AVal.upto, zt, zum]; done) | (simp [uptoL, AVal.upto, zum]; done), later_intro ?_⟩
         simp -dsimp only [simprocAttr, ↓vpre, zpm]
         refine at_intro ?_
         simp -dsimp only [vend, ne_eq, Nat.reduceEqDiff, reduceCtorEq]
         first | refine zk1 rfl (fun h => ?_) (fun h => ?_) | refine zk0 rfl (fun h => ?_) (fun h => ?_) | refine zk2 rfl (fun h => ?_) (fun h => ?_)
         ·cases h
         ·refine awp_skip ?_
          simp -dsimp only [vend, ne_eq, Nat.reduceEqDiff, reduceCtorEq]
          first | refine zg1 ?_ | refine zg0 ?_ | refine zg2 ?_ | refine zg3 ?_
          simp -dsimp only [simprocAttr, ↓vpre, zpm]
          refine .inl ⟨_, hr1, by first | (simp only [uptoL, AVal.upto, zt, zum]; done) | (simp [uptoL, AVal.upto, zum]; done), later_intro ?_⟩
          simp -dsimp only [simprocAttr, ↓vpre, zpm]
          refine at_intro ?_
          simp -dsimp only [vend, ne_eq, Nat.reduceEqDiff, reduceCtorEq]
          first | refine zg1 ?_ | refine zg0 ?_ | refine zg2 ?_ | refine zg3 ?_
          simp -dsimp only [simprocAttr, ↓vpre, zpm]
          refine .inl ⟨_, hr2, by first | (simp only [uptoL, AVal.upto, zt, zum]; done) | (simp [uptoL, AVal.upto, zum]; done), later_intro ?_⟩
          simp -dsimp only [simprocAttr, ↓vpre, zpm]
          refine at_intro ?_
          simp -dsimp only [vend, ne_eq, Nat.reduceEqDiff, reduceCtorEq]
          first | refine zg1 ?_ | refine zg0 ?_ | refine zg2 ?_ | refine zg3 ?_
          simp -dsimp only [simprocAttr, ↓vpre, zpm]
          refine at_intro ?_
          simp -dsimp only [vend, ne_eq, Nat.reduceEqDiff, reduceCtorEq]
          first | refine zk1 rfl (fun h => ?_) (fun h => ?_) | refine zk0 rfl (fun h => ?_) (fun h => ?_) | refine zk2 rfl (fun h => ?_) (fun h => ?_)
          ·cases h
          ·refine awp_skip ?_
           simp -dsimp only [vend, ne_eq, Nat.reduceEqDiff, reduceCtorEq]
           by_cases hab : a = b
           ·have g1 : decide (a = b) = true := decide_eq_true hab
            first | refine zg1 ?_ | refine zg0 ?_ | refine zg2 ?_ | refine zg3 ?_
            simp -dsimp only [simprocAttr, ↓vpre, zpm, g1]
            refine at_intro ?_
            simp -dsimp only [vend, ne_eq, Nat.reduceEqDiff, reduceCtorEq]
            refine awp_ret ?_
            simp -dsimp only [simprocAttr, ↓vpre, zpm, RetTo, Try.results10, retVals, retVal, mkRet, AVal.upto, Nat.zero_le, Nat.le_refl, seqPost_ret, blockPost_ret, loopPost_ret]
           ·have g1 : decide (a = b) = false := decide_eq_false hab
            obtain ⟨ha, hbb⟩ := halike.resolve_left hab
            have g2 : decide (a = -1) = true := decide_eq_true ha
            by_cases hb1 : b = -1
            ·have g3 : decide (b = -1) = true := decide_eq_true hb1
             first | refine zg1 ?_ | refine zg0 ?_ | refine zg2 ?_ | refine zg3 ?_
             simp -dsimp only [simprocAttr, ↓vpre, zpm, g1, g2, g3]
             refine at_intro ?_
             simp -dsimp only [vend, ne_eq, Nat.reduceEqDiff, reduceCtorEq]
             refine awp_ret ?_
             simp -dsimp only [simprocAttr, ↓vpre, zpm, RetTo, Try.results10, retVals, retVal, mkRet, AVal.upto, Nat.zero_le, Nat.le_refl, seqPost_ret, blockPost_ret, loopPost_ret]
            ·have g3 : decide (b = -1) = false := decide_eq_false hb1
             have g4 : decide ((n : Int) ≤ b) = true := decide_eq_true (hbb.resolve_left hb1)
             first | refine zg1 ?_ | refine zg0 ?_ | refine zg2 ?_ | refine zg3 ?_
             simp -dsimp only [simprocAttr, ↓vpre, zpm, g1, g2, g3, g4]
             refine at_intro ?_
             simp -dsimp only [vend, ne_eq, Nat.reduceEqDiff, reduceCtorEq]
             refine awp_ret ?_
             simp -dsimp only [simprocAttr, ↓vpre, zpm, RetTo, Try.results10, retVals, retVal, mkRet, AVal.upto, Nat.zero_le, Nat.le_refl, seqPost_ret, blockPost_ret, loopPost_ret]
        | false =>
         rw [hkn] at hk
         first | refine zg1 ?_ | refine zg0 ?_ | refine zg2 ?_ | refine zg3 ?_
         simp -dsimp only [simprocAttr, ↓vpre, zpm, hd1, hd2]
         refine .inl ⟨_, hk, by first | (simp only [uptoL, AVal.upto, zt, zum]; done) | (simp [uptoL, AVal.upto, zum]; done), later_intro ?_⟩
         simp -dsimp only [simprocAttr, ↓vpre, zpm]
         refine at_intro ?_
         simp -dsimp only [vend, ne_eq, Nat.reduceEqDiff, reduceCtorEq]
         first | refine zk1 rfl (fun h => ?_) (fun h => ?_) | refine zk0 rfl (fun h => ?_) (fun h => ?_) | refine zk2 rfl (fun h => ?_) (fun h => ?_)
         ·first | refine zg1 ?_ | refine zg0 ?_ | refine zg2 ?_ | refine zg3 ?_
          simp -dsimp only [simprocAttr, ↓vpre, zpm]
          refine at_intro ?_
          simp -dsimp only [vend, ne_eq, Nat.reduceEqDiff, reduceCtorEq]
          refine awp_ret ?_
          simp -dsimp only [simprocAttr, ↓vpre, zpm, RetTo, Try.results10, retVals, retVal, mkRet, AVal.upto, Nat.zero_le, Nat.le_refl, seqPost_ret, blockPost_ret, loopPost_ret]
         ·cases h
       ·have hd2 : (!decide ((compileE datas rows).2 = 0)) = true := by simp [he2]
        first | refine zg1 ?_ | refine zg0 ?_ | refine zg2 ?_ | refine zg3 ?_
        simp -dsimp only [simprocAttr, ↓vpre, zpm, hd1, hd2]
        refine at_intro ?_
        simp -dsimp only [vend, ne_eq, Nat.reduceEqDiff, reduceCtorEq]
        first | refine zk1 rfl (fun h => ?_) (fun h => ?_) | refine zk0 rfl (fun h => ?_) (fun h => ?_) | refine zk2 rfl (fun h => ?_) (fun h => ?_)
        ·first | refine zg1 ?_ | refine zg0 ?_ | refine zg2 ?_ | refine zg3 ?_
         simp -dsimp only [simprocAttr, ↓vpre, zpm]
         refine at_intro ?_
         simp -dsimp only [vend, ne_eq, Nat.reduceEqDiff, reduceCtorEq]
         refine awp_ret ?_
         simp -dsimp only [simprocAttr, ↓vpre, zpm, RetTo, Try.results10, retVals, retVal, mkRet, AVal.upto, Nat.zero_le, Nat.le_refl, seqPost_ret, blockPost_ret, loopPost_ret]
        ·cases h
      ·have hd1 : (!decide ((compileE datas (rows.take n)).2 = 0)) = true := by simp [he1]
       first | refine zg1 ?_ | refine zg0 ?_ | refine zg2 ?_ | refine zg3 ?_
       simp -dsimp only [simprocAttr, ↓vpre, zpm, hd1]
       refine at_intro ?_
       simp -dsimp only [vend, ne_eq, Nat.reduceEqDiff, reduceCtorEq]
       first | refine zk1 rfl (fun h => ?_) (fun h => ?_) | refine zk0 rfl (fun h => ?_) (fun h => ?_) | refine zk2 rfl (fun h => ?_) (fun h => ?_)
       ·first | refine zg1 ?_ | refine zg0 ?_ | refine zg2 ?_ | refine zg3 ?_
        simp -dsimp only [simprocAttr, ↓vpre, zpm]
        refine at_intro ?_
        simp -dsimp only [vend, ne_eq, Nat.reduceEqDiff, reduceCtorEq]
        refine awp_ret ?_
        simp -dsimp only [simprocAttr, ↓vpre, zpm, RetTo, Try.results10, retVals, retVal, mkRet, AVal.upto, Nat.zero_le, Nat.le_refl, seqPost_ret, blockPost_ret, loopPost_ret]
       ·cases h
   ·have hcd : (!decide (check datas (rows ++ [values]) = 0)) = true := by simp [hc0]
    simp -dsimp only [simprocAttr, ↓vpre, zpm, hcd]
    refine at_intro ?_
    simp -dsimp only [vend, ne_eq, Nat.reduceEqDiff, reduceCtorEq]
    first | refine zk1 rfl (fun h => ?_) (fun h => ?_) | refine zk0 rfl (fun h => ?_) (fun h => ?_) | refine zk2 rfl (fun h => ?_) (fun h => ?_)
    ·first | refine zg1 ?_ | refine zg0 ?_ | refine zg2 ?_ | refine zg3 ?_
     simp -dsimp only [simprocAttr, ↓vpre, zpm]
     refine at_intro ?_
     simp -dsimp only [vend, ne_eq, Nat.reduceEqDiff, reduceCtorEq]
     refine awp_ret ?_
     simp -dsimp only [simprocAttr, ↓vpre, zpm, RetTo, Try.results10, retVals, retVal, mkRet, AVal.upto, Nat.zero_le, Nat.le_refl, seqPost_ret, blockPost_ret, loopPost_ret]
    ·cases h

end Go.Proofs.Ytakdmelemfnmdaa
end
