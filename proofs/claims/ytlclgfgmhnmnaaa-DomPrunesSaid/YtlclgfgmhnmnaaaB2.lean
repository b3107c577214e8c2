/-
  Texts bound together by a program of mine: YtakdmelemfnmdaaAvv, YtlclgfgmhnmnaaaT56, YtlclgfgmhnmnaaaT123, YtlclgfgmhnmnaaaT63, YtlclgfgmhnmnaaaT57, YtlclgfgmhnmnaaaT124.
-/
import Derived.Test.YtlclgfgmhnmnaaaB1
set_option linter.all false
set_option maxRecDepth 100000
set_option maxHeartbeats 4000000

namespace Go.Av
theorem turn_new {g : G} (hg : Good g) {id m : Nat} (h : g.objs[id]? = some (.spare m)) (arr : Array Value) (t : TypeId) (cs : List AVal) (hlen : cs.length ≤ arr.size)
    (hrv : ∀ (g' : G) (j : Nat) (c : AVal) (u : Value), cs[j]? = some c → arr[j]? = some u → RV g' c u) (hsc : ∀ c ∈ cs, c.scalar) :
    Le g (g.turn id (some ⟨g.w.heap.size, 0, arr.size⟩) (.cells cs) (g.w.alloc (.cells arr t))) ∧ Good (g.turn id (some ⟨g.w.heap.size, 0, arr.size⟩) (.cells cs) (g.w.alloc (.cells arr t))) := by
  have hturn : Turns g id (.spare m) (some ⟨g.w.heap.size, 0, arr.size⟩) (.cells cs) (g.w.alloc (.cells arr t)) := {
    obj := h
    os := rfl
    tape := rfl
    output := rfl
    size := by show g.w.heap.size ≤ (g.w.heap.push _).size; rw [Array.size_push]; omega
    block := fun k hk _ => heap_push_lt g.w _ hk
    cell := fun b off x hx _ => by
      have := cell_lt hx
      rw [cell_congr (heap_push_lt g.w (.cells arr t) this)]
      exact hx
    place := fun l1 h1 _ => by
      simp only [Option.some.injEq] at h1
      subst h1
      exact .inl (Nat.le_refl _)
    spare := fun _ _ => .inr (by simp [AObj.isSpare])
    plain := fun h => absurd trivial h
    gone := by simp }
  exact ⟨Le.turn hg hturn, Good.turn hg hturn ⟨_, arr, t, rfl, rfl, heap_push_new g.w _, hlen, fun j c u hj hu => hrv _ j c u hj hu, hsc, Nat.le_refl _⟩ (fun l1 h1 _ => by
    simp only [Option.some.injEq] at h1
    subst h1
    exact lt_of_getElem?' (heap_push_new g.w (.cells arr t)))⟩
theorem cert_alloc_at {P : Program} {tab : Tab} (hT : TabOK P tab) {o : Oper} {σ : St} {t : TypeId} {ti : TInfo} {id m : Nat} (ho : o.op = .alloc t) (hd : ∀ d, o.dst = some d → d < σ.n) (ht : tab t = some ti) (hid : σ.objs[id]? = some (.spare m)) :
    Cert P o σ (.mp id 0) (.new id (.cells ti.zero)) :=
  Cert.ofAgree trivial hd fun base σ' a g hrel h ho' => by
    have hg := hrel.good
    obtain ⟨z, hz, h5, _, _, h8, h9⟩ := (hT t ti ht).zeroValue
    have hid' : g.objs[id]? = some (.spare m) := Eq.trans ho' hid
    obtain ⟨hle, hgood⟩ := turn_new hg hid' z.cells t ti.zero (by rw [h5]; exact Nat.le_refl _) (fun g' j c u a b => h8 g' j c u a b) h9
    refine ⟨.pointer (some ⟨g.w.heap.size, 0, none⟩), _, .inl ?_, hle, hgood, ?_, ?_⟩
    · simp [execOp, ho, Instr.alloc, hz, Go.newVar, Go.newRow, G.turn]
    · simp [G.turn, Mode.post]
    exact .mp (l := ⟨g.w.heap.size, 0, z.cells.size⟩) (o := .cells ti.zero) (by simp only [G.turn]; rw [List.getElem?_set_self (env_lt hg hid')]) (by simp only [G.turn]; rw [List.getElem?_set_self (lt_of_getElem? hid')]) (by simp [AObj.isSpare])
theorem cert_makeSlice_at {P : Program} {tab : Tab} (hT : TabOK P tab) {o : Oper} {σ : St} {t e : TypeId} {x y : Operand} {ti te : TInfo} {k k' : IntKind} {n : Int} {id m' : Nat}
    (ho : o.op = .makeSlice t x y) (hd : ∀ d, o.dst = some d → d < σ.n) (ht : tab t = some ti) (hdesc : ti.desc = .slice e) (he : tab e = some te) (hx : σ.ev x = some (.v (.int k n))) (hy : σ.ev y = some (.v (.int k' n)))
    (h0 : 0 ≤ n) (hb : te.bytes * n.toNat ≤ 2 ^ 48) (h62 : n.toNat ≤ 2 ^ 62) (hs : 0 < te.size) (hid : σ.objs[id]? = some (.spare m')) :
    Cert P o σ (.ms id 0 n.toNat n.toNat) (.new id (.cells (List.replicate n.toNat te.zero).flatten)) :=
  Cert.ofAgree trivial hd fun base σ' a g hrel h ho' => by
    have hg := hrel.good
    have hid' : g.objs[id]? = some (.spare m') := Eq.trans ho' hid
    have ex := (h x (by simp [ho, Op.operands]) _ hx).v_inv.1
    have ey := (h y (by simp [ho, Op.operands]) _ hy).v_inv.1
    have hu := slice_desc hT ht hdesc
    obtain ⟨⟨i, z, h1, h2, h3, h4, h5, h6, h7, h8, h9⟩, _⟩ := hT e te he
    obtain ⟨m, rfl⟩ := Int.eq_ofNat_of_zero_le h0
    simp only [Int.toNat_natCast] at *
    have hb' : (i.bytes : Int) * (m : Int) ≤ 281474976710656 := by
      rw [h3, ← Int.natCast_mul]
      omega
    have hrun := run_make (P := P) g.w t e i z hu h1 h4 k k' m m (by omega) (Int.le_refl _) hb' (by omega)
    simp only [Int.toNat_natCast] at hrun
    have hlen : (List.replicate m te.zero).flatten.length = m * te.size := by simp [h6]
    have hget : ∀ (j : Nat) (c : AVal), (List.replicate m te.zero).flatten[j]? = some c → te.zero[j % te.size]? = some c := fun j c => h6 ▸ rep_get te.zero (by omega) m j c
    obtain ⟨hle, hgood⟩ := turn_new hg hid' (madeCells z.cells (m * i.size)) e (List.replicate m te.zero).flatten (by rw [hlen, size_madeCells, h2]; exact Nat.le_refl _) (fun g' j c u hj hu' => by
      have hj' := hget j c hj
      have hlt := lt_of_getElem? hj
      rw [hlen] at hlt
      have hlt' : j % te.size < z.cells.size := by rw [h5]; exact lt_of_getElem? hj'
      refine h8 _ _ _ _ hj' ?_
      simp only [madeCells, Array.getElem?_map, h2, Array.getElem?_range, if_pos hlt, Option.map_some, Option.some.injEq] at hu'
      subst hu'
      rw [h5, h6]
      simp [hlt']) (fun c hc => by
      rw [List.mem_flatten] at hc
      obtain ⟨l, hl, hc⟩ := hc
      rw [List.mem_replicate] at hl
      exact h9 c (hl.2 ▸ hc))
    refine ⟨.slice (some ⟨g.w.heap.size, 0, none⟩) m m, _, .inl ?_, hle, hgood, ?_, ?_⟩
    · simp [execOp, ho, ex, ey, hrun, G.turn]
    · simp [G.turn, Mode.post]
    exact .ms (l := ⟨g.w.heap.size, 0, (madeCells z.cells (m * i.size)).size⟩) (o := .cells (List.replicate m te.zero).flatten) (by simp only [G.turn]; rw [List.getElem?_set_self (env_lt hg hid')]) (by simp only [G.turn]; rw [List.getElem?_set_self (lt_of_getElem? hid')]) (by simp [AObj.isSpare]) (Nat.le_refl _) (Nat.le_refl _) h62
theorem awp_keep {P : Program} {kb : Nat} {c : Code} {Q : AEx → St → Prop} {n : Nat} {slots : List (Nat × AVal)} : ∀ (k : Nat) {O : List AObj}, AWP P kb c Q ⟨n, slots, O ++ List.replicate k (.spare 0)⟩ → AWP P kb c Q ⟨n, slots, O⟩
  | 0, O, h => by simpa using h
  | k + 1, O, h => by
    have h2 : AWP P kb c Q ⟨n, slots, O ++ [.spare 0]⟩ := awp_keep k (by simpa [List.replicate_succ] using h)
    exact h2.weaken fun base a g hb hr => by
      have hO : g.objs = O := hr.objs
      refine ⟨g.mark (.spare 0), rfl, ?_⟩
      have hle := Le.mark hr.good (.spare 0)
      refine { le := hr.le.trans hle, good := Good.mark hr.good _, objs := by simp [G.mark, hO], size := hr.size, defers := hr.defers, slot := fun s x hx => ?_ }
      obtain ⟨u, e1, e2⟩ := hr.slot s x hx
      exact ⟨u, e1, e2.mono hle⟩
def ChP (P : Program) (all : List Oper) (k : Nat) (σ : St) (ks : List Kind) (R : St → List Kind → Prop) : Prop :=
  ∃ (ρ : St) (ks' : List Kind), ks'.length + k = all.length ∧ Chain P all.toArray ((ks'.zipIdx k).map fun p => (p.2, p.1)) σ ρ ∧ R ρ (ks ++ ks')
theorem ChP.fin {P : Program} {all : List Oper} {k : Nat} {σ : St} {ks : List Kind} {R : St → List Kind → Prop} (hk : k = all.length) (h : R σ ks) : ChP P all k σ ks R :=
  ⟨σ, [], by simpa using hk, Same.refl σ, by simpa using h⟩
theorem ChP.op {P : Program} {all : List Oper} {k : Nat} {σ : St} {ks : List Kind} {R : St → List Kind → Prop} {o : Oper} {x : AVal} {m : Mode} (ho : all[k]? = some o) (hg : o.guard = none) (hc : Cert P o σ x m)
    (h : ChP P all (k + 1) ⟨σ.n, putO o.dst x σ.slots, m.post σ.objs⟩ (ks ++ [m.kind]) R) : ChP P all k σ ks R := by
  obtain ⟨ρ, ks', h1, h2, h3⟩ := h
  refine ⟨ρ, m.kind :: ks', by simp only [List.length_cons]; omega, ?_, by simpa using h3⟩
  rw [List.zipIdx_cons, List.map_cons]
  exact ⟨_, ⟨o, by simpa using ho, .inl ⟨by simp [wantedA, hg], x, m, hc, rfl, rfl⟩⟩, h2⟩
theorem chain_app {P : Program} {ops : Array Oper} : ∀ {l1 l2 : List (Nat × Kind)} {σ τ ρ : St}, Chain P ops l1 σ τ → Chain P ops l2 τ ρ → Chain P ops (l1 ++ l2) σ ρ
  | [], _, _, _, _, h1, h2 => h2.same h1.symm
  | _ :: _, _, _, _, _, ⟨σ', h, h1⟩, h2 => ⟨σ', h, chain_app h1 h2⟩
theorem chain_off {P : Program} {ops all : Array Oper} {k : Nat} (hk : ∀ i o, ops[i]? = some o → all[k + i]? = some o) (hg : ∀ o ∈ all.toList, o.guard = none) : ∀ {l : List (Nat × Kind)} {σ τ : St}, Chain P ops l σ τ → Chain P all (l.map fun p => (k + p.1, p.2)) σ τ
  | [], _, _, h => h
  | (i, q) :: r, _, _, h => by
    obtain ⟨σ', ⟨o, ho, h1⟩, h2⟩ := h
    refine ⟨σ', ⟨o, hk i o ho, ?_⟩, chain_off hk hg h2⟩
    have ho' := hk i o ho
    have hgo : o.guard = none := hg o (by
      rw [← Array.getElem?_toList] at ho'
      exact List.mem_of_getElem? ho')
    have w1 : ∀ (a : Array Oper) (σ : St), wantedA a o σ = some true := fun a σ => by simp [wantedA, hgo]
    rcases h1 with ⟨_, h1⟩ | ⟨h1, _⟩
    · exact .inl ⟨w1 _ _, h1⟩
    rw [w1] at h1
    cases h1
theorem ChP.seg {P : Program} {tab : Tab} (md : Md) (hT : TabOK P tab) {all l1 : List Oper} {k : Nat} {σ : St} {ks : List Kind} {R : St → List Kind → Prop} (n : Nat) (h1 : (all.drop k).take n = l1) (hn : l1.length = n) (hg : ∀ o ∈ all, o.guard = none)
    (h : vcOps P tab md l1 0 [] σ [] fun τ ks1 => ChP P all (k + n) τ (ks ++ ks1.reverse) R) : ChP P all k σ ks R := by
  obtain ⟨τ, ks1, c1, n1, ρ, ks2, h3, c2, hR⟩ := vcOps_sound (all := l1.toArray) hT l1 0 [] σ [] (fun j => by simp) (fun j t hj => by simp [slotAt] at hj) h
  have hl : k + n ≤ all.length := by
    have : l1.length ≤ all.length - k := by rw [← h1, List.length_take, List.length_drop]; omega
    by_cases hz : n = 0
    · omega
    omega
  have d1 := chain_off (all := all.toArray) (k := k) (fun i o hi => by
    have hi' : l1[i]? = some o := by simpa using hi
    rw [← h1, List.getElem?_take] at hi'
    split at hi'
    · rw [List.getElem?_drop] at hi'
      simpa using hi'
    cases hi') (by simpa using hg) c1
  refine ⟨ρ, ks1 ++ ks2, by rw [List.length_append]; omega, ?_, by simpa using hR⟩
  rw [List.zipIdx_append, List.map_append]
  have e1 : (ks1.zipIdx k).map (fun p => (p.2, p.1)) = ((ks1.zipIdx 0).map fun p => (p.2, p.1)).map fun p => (k + p.1, p.2) := by
    apply List.ext_getElem?
    intro i
    simp only [List.getElem?_map, List.getElem?_zipIdx]
    cases ks1[i]? <;> simp
  rw [e1]
  refine chain_app d1 ?_
  rw [show k + ks1.length = k + n by omega]
  exact c2
theorem awp_pieces {P : Program} {kb : Nat} (hm : P.follows .mixedOrders = true) {id : Nat} {l : List Oper} {draw : Bool} {Q : AEx → St → Prop} {σ : St}
    (h : ChP P l 0 σ [] fun τ ks => Draws draw (fun _ => OrderOK l.toArray ks) ∧ At τ (Q .norm)) : AWP P kb (.region id l.toArray draw) Q σ := by
  obtain ⟨τ, ks, h1, h2, h3, h4⟩ := h
  intro base a g hb hr
  have hch : Chain P l.toArray ((List.range l.toArray.size).map fun i => (i, ks.getD i .write)) σ τ := by
    have e : (ks.zipIdx 0).map (fun p => (p.2, p.1)) = (List.range l.toArray.size).map fun i => (i, ks.getD i .write) := by
      apply List.ext_getElem?
      intro i
      simp only [List.getElem?_map]
      have hlen : ks.length = l.toArray.size := by simpa using h1
      by_cases hi : i < l.toArray.size
      · have hi' : i < ks.length := by omega
        rw [List.getElem?_range hi]
        simp [hi']
      rw [List.getElem?_eq_none (by simp only [List.length_zipIdx]; omega), List.getElem?_eq_none (by simp only [List.length_range]; omega)]
      rfl
    rw [← e]
    exact h2
  cases draw with
  | false => exact wp_region_lex hch hr fun a g hr' => ⟨g, τ, rfl, hr', h4⟩
  | true =>
    have hB := h3 rfl
    simp only [List.nil_append] at hB
    exact wp_region_chain hm hB hch hr fun a g hr' => ⟨g, τ, rfl, hr', h4⟩
end Go.Av
namespace Go.Proofs.Ytlclgfgmhnmnaaa
open Go.Av
def dmO (f : Func) (O : List Int) (N : Nat) (r : List AVal) : List AObj := [.gone, .gone, .cells r, .cells (O.map aI), .cells ((plL f).map aI), .cells [.ms 3 0 N N, .ms 4 0 N N]]
theorem dmO_upto (f : Func) (O : List Int) (N : Nat) (r : List AVal) (hr : uptoL 6 r) : ∀ o ∈ dmO f O N r, o.upto 6 := by
 intro o ho
 simp only [dmO, List.mem_cons, List.not_mem_nil, or_false] at ho
 rcases ho with rfl | rfl | rfl | rfl | rfl | rfl
 ·trivial
 ·trivial
 ·exact hr
 ·exact aI_upto _ _
 ·exact aI_upto _ _
 exact ⟨show 3 < 6 by omega, show 4 < 6 by omega, trivial⟩
theorem zerosI_flat (n : Nat) : (List.replicate n [AVal.v (.int .i64 0)]).flatten = (List.replicate n 0).map aI := by
 induction n with
 | zero => rfl
 | succ n ih => rw [List.replicate_succ, List.flatten_cons, ih, List.replicate_succ]; rfl
theorem aI_put {l : List Int} {j : Nat} (h : j < l.length) (b : Int) : splice (l.map aI) j [.v (.int .i64 b)] = (l.set j b).map aI := by
 rw [splice_one _ (by simpa using h), List.map_set]
theorem fill_set {k n : Nat} {l : List Int} {x y : Int} (hl : l.length = k) (hk : k < n) : (l ++ List.replicate (n - k) x).set k y = (l ++ [y]) ++ List.replicate (n - (k + 1)) x := by
 rw [List.set_append_right _ _ (by omega), hl, Nat.sub_self, show n - k = (n - (k + 1)) + 1 by omega, List.replicate_succ, List.set_cons_zero, List.append_assoc]
 rfl
theorem dbuild_spec (f : Func) (hfit : f.fit) (hc : checkFuncM f = 0) :
  ECall Try.prog 40 [.gone] [f.enc] (fun r O' => r = .tup [.agg [.ms 3 0 f.blocks.length f.blocks.length, .ms 4 0 f.blocks.length f.blocks.length], aI 0] ∧ O' = dmO f (treeM f) f.blocks.length [.ms 3 0 f.blocks.length f.blocks.length, .ms 4 0 f.blocks.length f.blocks.length]) := by
 have hor := order_spec f hfit
 have hpr := preds_spec f hfit
 unfold orderR at hor
 unfold predsR at hpr
 rw [if_pos hc] at hor hpr
 have hg := (checkFunc_ok hfit hc).gr
 have hw := ord_w hg
 have hn : f.blocks.length ≤ 128 := hg.few
 obtain ⟨R, hR⟩ : ∃ R, R = treeM f := ⟨_, rfl⟩
 rw [← hR]
 unfold treeM at hR
 obtain ⟨N, hN⟩ : ∃ N, N = f.blocks.length := ⟨_, rfl⟩
 have hkk : [AObj.gone].length ≤ 6 := by simp
 have hpl := hw.pos
 have hpf := hw.few
 have hL0 : ((orderM f).length : Int) ≥ 1 := by omega
 rw [← hN]
 have hplen : (plL f).length = N := by simp [plL, hN]
 refine ecall_of hT true (6) Try.func40 rfl (by kernel_rfl) (by simp [Try.ntmps40]) (by assumption) ?_
 show AWP Try.prog _ _ _ ⟨116, _, _⟩
 dsimp only [Tmp, TypeId, slotsOf]
 refine zh1 (za0 ?_)
 refine awp_freeze1 1 1 (.ip none [aI f.name, eBlocks f.blocks]) rfl (by simp [AObj.isSpare]) trivial rfl ?_ ?_
 rotate_left
 simp -dsimp only [simprocAttr, ↓vpre, zp]
 ·refine zh1 ?_
  refine zi hor ?_
  refine za0 ?_
  refine zh2 (za0 ?_)
  apply zk0 rfl <;> intro h
  ·cases h
  refine zb0 ?_
  refine zh1 ?_
  refine zi hpr ?_
  refine za0 ?_
  refine awp_keep 3 ?_
  show AWP Try.prog _ _ _ ⟨_, _, [.gone, .gone, .cells [.lst 1 [] .ex, .lst 1 [] .ex], .spare 0, .spare 0, .spare 0]⟩
  refine awp_seq (awp_pieces hm (ChP.seg ⟨false, false⟩ hT 3 rfl rfl (by simp) ?_))
  simp -dsimp only [simprocAttr, ↓vpre, zp, ← hN]
  refine ChP.op rfl rfl (cert_makeSlice_at hT (id := 3) rfl (by simp) tab_45 rfl tab_3 rfl rfl (by omega) (by simp; omega) (by omega) (by decide) rfl) ?_
  simp -dsimp only [simprocAttr, ↓vpre, zp, zerosI_flat]
  refine ChP.seg ⟨false, false⟩ hT 3 rfl rfl (by simp) ?_
  simp -dsimp only [simprocAttr, ↓vpre, zp, ← hN]
  refine ChP.op rfl rfl (cert_makeSlice_at hT (id := 4) rfl (by simp) tab_45 rfl tab_3 rfl rfl (by omega) (by simp; omega) (by omega) (by decide) rfl) ?_
  simp -dsimp only [simprocAttr, ↓vpre, zp, zerosI_flat]
  refine ChP.seg ⟨false, false⟩ hT 1 rfl rfl (by simp) ?_
  simp -dsimp only [simprocAttr, ↓vpre, zp]
  refine ChP.op rfl rfl (cert_alloc_at hT (id := 5) rfl (by simp) tab_84 rfl) ?_
  simp -dsimp only [simprocAttr, ↓vpre, zp]
  refine ChP.seg ⟨false, false⟩ hT 1 rfl rfl (by simp) ?_
  simp -dsimp only [simprocAttr, ↓vpre, zp]
  refine ChP.fin rfl ⟨ob (by kernel_rfl), ?_⟩
  refine za0 ?_
  refine zh2 (za0 ?_)
  refine awp_block (awp_loop (ι := {k : Nat // k ≤ N}) (fun k => ⟨116, [(1, .ip none [aI f.name, eBlocks f.blocks]), (2, .mp 2 0), (4, eIs (orderM f)), (6, .lst 1 ((predsM f).map eIs) .sh), (8, .mp 5 0), (41, aI N), (42, aI k.1)], [.gone, .gone, .cells [.lst 1 [] .ex, .lst 1 [] .ex], .cells ((List.replicate k.1 (-1) ++ List.replicate (N - k.1) 0).map aI), .cells (((plL f).take k.1 ++ List.replicate (N - k.1) 0).map aI), .cells [.ms 3 0 N N, .ms 4 0 N N]]⟩) (fun k => N - k.1) ⟨0, by omega⟩ ?_ ?_)
  ·refine zq rfl ?_ ?_
   simp -dsimp only [simprocAttr, ↓vpre, zp, zc]
   all_goals rfl
  rintro ⟨k, hk⟩
  refine zh1 (za0 ?_)
  apply zk1 rfl <;> intro h
  ·refine zb0 ?_
   have hlt : k < N := by simpa using h
   have hix := index_spec (orderM f) (k : Int)
   have hs1 : splice ((List.replicate k (-1) ++ List.replicate (N - k) 0).map aI) k [.v (.int .i64 (-1))] = (List.replicate (k + 1) (-1) ++ List.replicate (N - (k + 1)) 0).map aI := by
    rw [aI_put (by simp; omega), fill_set (by simp) hlt, ← List.replicate_succ']
   have htl : ((plL f).take k).length = k := by rw [List.length_take]; omega
   have hpk := plL_at (f := f) (k := (k : Int)) (by omega) (by omega)
   rw [Int.toNat_natCast] at hpk
   have hs2 : splice (((plL f).take k ++ List.replicate (N - k) 0).map aI) k [.v (.int .i64 (idxI (orderM f) k))] = ((plL f).take (k + 1) ++ List.replicate (N - (k + 1)) 0).map aI := by
    rw [aI_put (by simp; omega), fill_set htl hlt, List.take_add_one, hpk]
    rfl
   refine awp_seq (awp_block ?_)
   refine zh1 (za0 ?_)
   refine zh0 ?_
   refine .inl ⟨_, hix, by simp only [uptoL, AVal.upto, zt, zu, aI_upto], later_intro ?_⟩
   simp -dsimp only [simprocAttr, ↓vpre, zp, hs1, hs2, Int.toNat_natCast, Nat.mul_one]
   refine ⟨by omega, by simp; omega, by omega, by simp; omega, ?_⟩
   refine ⟨ob (by kernel_rfl), ?_⟩
   refine za0 ?_
   refine zh0 ?_
   repeat (refine ⟨by omega, ?_⟩)
   refine zl0 ?_
   refine ⟨⟨k + 1, hlt⟩, by simp; omega, ?_⟩
   refine zq rfl ?_ ?_
   simp -dsimp only [simprocAttr, ↓vpre, zp, zc]
   ·exact Sub.int (by simp)
   rfl
  refine awp_exit ?_
  simp -dsimp only [vend, ne_eq, Nat.reduceEqDiff, reduceCtorEq]
  have hkk : k = N := by simp at h; omega
  subst hkk
  have e1 : List.replicate k (-1 : Int) ++ List.replicate (k - k) 0 = (dmS f).over := by simp [dmS, hN]
  have e2 : (plL f).take k ++ List.replicate (k - k) 0 = plL f := by
   rw [List.take_of_length_le (by omega), Nat.sub_self, List.replicate_zero, List.append_nil]
  rw [e1, e2]
  have hS0 := dmS_ok hw
  have hW0 := dmS_weight hn
  have hL1 : ((orderM f).map aI).drop 1 = ((orderM f).drop 1).map aI := by rw [List.map_drop]
  have hat : ∀ (j : Nat) z, ((orderM f).drop 1)[j]? = some z → plF f z = ((1 + j : Nat) : Int) := fun j z hj => by
   rw [List.getElem?_drop] at hj
   exact hw.at_ _ _ hj
  obtain ⟨L1, hL1e⟩ : ∃ L1, L1 = (orderM f).drop 1 := ⟨_, rfl⟩
  have hL1l : L1.length ≤ 128 := by rw [hL1e, List.length_drop]; omega
  rw [← hL1e] at hL1 hat
  refine zh2 (za0 ?_)
  refine awp_block (awp_loop (ι := {x : Dm × Nat // Dinv f 1 x.1.over ∧ R = (dmI f x.2 x.1).over ∧ (x.1.again = true → x.1.weight f < x.2)}) (fun x => ⟨116, [(1, .ip none [aI f.name, eBlocks f.blocks]), (2, .mp 2 0), (4, eIs (orderM f)), (6, .lst 1 ((predsM f).map eIs) .sh), (8, .mp 5 0), (10, .v (.bool x.1.1.again))], [.gone, .gone, .cells [.lst 1 [] .ex, .lst 1 [] .ex], .cells (x.1.1.over.map aI), .cells ((plL f).map aI), .cells [.ms 3 0 k k, .ms 4 0 k k]]⟩) (fun x => x.1.1.weight f + if x.1.1.again then 1 else 0) ⟨(dmS f, 30000), hS0, hR, fun _ => by simp only; omega⟩ ?_ ?_)
  ·refine zq rfl ?_ ?_
   simp -dsimp only [simprocAttr, ↓vpre, zp, zc]
   all_goals first | rfl | exact Sub.refl _
  rintro ⟨⟨S, q⟩, hSo, hRq, hwq⟩
  simp only at hSo hRq hwq
  refine zh2 (za0 ?_)
  apply zk0 rfl <;> intro h
  ·refine zb0 ?_
   have hag : S.again = true := h
   have hwq := hwq hag
   obtain ⟨q, rfl⟩ : ∃ q', q = q' + 1 := ⟨q - 1, by omega⟩
   have hRq' : R = (dmI f q (dmR f ⟨S.over, false⟩)).over := by
    rw [hRq]
    simp [dmI, hag]
   have hro := dmR_ok hg hw (S := ⟨S.over, false⟩) hSo
   obtain ⟨S1, hS1⟩ : ∃ S1, S1 = dmR f ⟨S.over, false⟩ := ⟨_, rfl⟩
   rw [← hS1] at hRq' hro
   obtain ⟨ro1, ro2, ro3, _⟩ := hro
   have hwS : (⟨S.over, false⟩ : Dm).weight f = S.weight f := rfl
   rw [hwS] at ro2 ro3
   unfold dmR at hS1
   rw [← hL1e] at hS1
   refine awp_block ?_
   refine zh1 (za0 ?_)
   refine zg1 ?_
   simp -dsimp only [simprocAttr, ↓vpre, zp, hL1]
   repeat (refine ⟨by omega, ?_⟩)
   refine za0 ?_
   refine awp_block (awp_loop (ι := {y : Nat × Dm // y.1 ≤ L1.length ∧ Dinv f (1 + y.1 : Nat) y.2.over ∧ S1 = (L1.drop y.1).foldl (dmStep f) y.2}) (fun y => ⟨116, [(1, .ip none [aI f.name, eBlocks f.blocks]), (2, .mp 2 0), (4, eIs (orderM f)), (6, .lst 1 ((predsM f).map eIs) .sh), (8, .mp 5 0), (10, .v (.bool y.1.2.again)), (59, eIs L1), (60, aI L1.length), (61, aI y.1.1)], [.gone, .gone, .cells [.lst 1 [] .ex, .lst 1 [] .ex], .cells (y.1.2.over.map aI), .cells ((plL f).map aI), .cells [.ms 3 0 k k, .ms 4 0 k k]]⟩) (fun y => L1.length - y.1.1) ⟨(0, ⟨S.over, false⟩), by simp, hSo, hS1⟩ ?_ ?_)
   ·refine zq rfl ?_ ?_
    simp -dsimp only [simprocAttr, ↓vpre, zp, zc]
    all_goals rfl
   rintro ⟨⟨y, T⟩, hy, hTo, hTe⟩
   simp only at hy hTo hTe
   refine zh1 (za0 ?_)
   apply zk1 rfl <;> intro h
   ·refine zb0 ?_
    have hlt : y < L1.length := by simpa using h
    obtain ⟨z, hz⟩ : ∃ z, L1[y]? = some z := ⟨L1[y], by simp [hlt]⟩
    have hpz := hat y z hz
    have hzr := hw.range z (by omega)
    have hst := dmStep_ok hg hw hTo hpz (by omega)
    rw [drop_at hz, List.foldl_cons] at hTe
    have hTl := hTo.tr.len
    obtain ⟨ps, hps⟩ : ∃ ps, (predsM f)[z.toNat]? = some ps := ⟨(predsM f)[z.toNat]'(by rw [preds_len]; omega), List.getElem?_eq_getElem _⟩
    have hpa : predsAt f z = ps := by simp [predsAt, hps]
    have hpr2 : ∀ p ∈ ps, 0 ≤ p ∧ p < f.blocks.length := fun p hp => (preds_edg hg hzr.1 (by rw [hpa]; exact hp)).1
    obtain ⟨o, ho⟩ : ∃ o, T.over[z.toNat]? = some o := ⟨T.over[z.toNat]'(by omega), List.getElem?_eq_getElem _⟩
    have hoz : atI T.over z = o := by simp [atI, ho]
    obtain ⟨NX, hNX⟩ : ∃ NX, NX = nextM (plL f) T.over ps := ⟨_, rfl⟩
    have hstep : dmStep f T z = if NX ≠ o then ⟨T.over.set z.toNat NX, true⟩ else T := by
     unfold dmStep
     rw [hpa, hoz, ← hNX]
    unfold nextM at hNX
    refine awp_seq (awp_block ?_)
    refine zg1 ?_
    simp -dsimp only [simprocAttr, ↓vpre, zp, hz]
    refine za0 ?_
    refine zh1 (za0 ?_)
    refine zg2 ?_
    simp -dsimp only [simprocAttr, ↓vpre, zp, hps]
    repeat (refine ⟨by omega, ?_⟩)
    refine za0 ?_
    refine awp_len 68 rfl (fun hpl2 => ?_)
    simp only [List.length_map] at hpl2
    refine awp_block (awp_loop (ι := {w : Nat × Int // w.1 ≤ ps.length ∧ (w.2 = -1 ∨ Asg T.over w.2) ∧ NX = (ps.drop w.1).foldl (predStep (plL f) T.over) w.2}) (fun w => ⟨116, [(1, .ip none [aI f.name, eBlocks f.blocks]), (2, .mp 2 0), (4, eIs (orderM f)), (6, .lst 1 ((predsM f).map eIs) .sh), (8, .mp 5 0), (10, .v (.bool T.again)), (59, eIs L1), (60, aI L1.length), (61, aI y), (12, aI z), (13, aI w.1.2), (68, eIs ps), (69, aI ps.length), (70, aI w.1.1)], [.gone, .gone, .cells [.lst 1 [] .ex, .lst 1 [] .ex], .cells (T.over.map aI), .cells ((plL f).map aI), .cells [.ms 3 0 k k, .ms 4 0 k k]]⟩) (fun w => ps.length - w.1.1) ⟨(0, -1), by simp, .inl rfl, hNX⟩ ?_ ?_)
    ·refine zq rfl ?_ ?_
     simp -dsimp only [simprocAttr, ↓vpre, zp, zc]
     all_goals rfl
    rintro ⟨⟨w, acc⟩, hw1, hacc, hwe⟩
    simp only at hw1 hacc hwe
    refine zh1 (za0 ?_)
    apply zk1 rfl <;> intro h
    ·refine zb0 ?_
     have hlw : w < ps.length := by simpa using h
     obtain ⟨p, hp⟩ : ∃ p, ps[w]? = some p := ⟨ps[w], by simp [hlw]⟩
     have hpr3 := hpr2 p (List.mem_of_getElem? hp)
     have hep := plL_at hpr3.1 hpr3.2
     have hepx := aI_at hep
     obtain ⟨x, hx⟩ : ∃ x, T.over[p.toNat]? = some x := ⟨T.over[p.toNat]'(by omega), List.getElem?_eq_getElem _⟩
     have hxp : atI T.over p = x := by simp [atI, hx]
     have hxx := aI_at hx
     rw [drop_at hp, List.foldl_cons] at hwe
     obtain ⟨nx, hnx⟩ : ∃ nx, nx = predStep (plL f) T.over acc p := ⟨_, rfl⟩
     have hnacc : nx = -1 ∨ Asg T.over nx := by
      rcases fold_ok hw hTo.tr [p] acc (by simpa using hpr3) hacc with ⟨a, _⟩ | ⟨a, _⟩
      ·exact .inl (hnx.trans a)
      exact .inr (hnx ▸ a)
     rw [← hnx] at hwe
     have hpas := pred_asg hw hTo.tr hpr3
     have hepl : atI (plL f) p = plF f p := by simp [atI, hep]
     rw [hepl, hxp] at hpas
     have hpd : predStep (plL f) T.over acc p = if plF f p < 0 ∨ (p ≠ 0 ∧ x < 0) then acc else if acc < 0 then p else meetM (plL f) T.over 300 acc p := by
      unfold predStep
      rw [hepl, hxp]
     refine awp_mid (⟨116, [(1, .ip none [aI f.name, eBlocks f.blocks]), (2, .mp 2 0), (4, eIs (orderM f)), (6, .lst 1 ((predsM f).map eIs) .sh), (8, .mp 5 0), (10, .v (.bool T.again)), (59, eIs L1), (60, aI L1.length), (61, aI y), (12, aI z), (13, aI nx), (68, eIs ps), (69, aI ps.length), (70, aI w)], [.gone, .gone, .cells [.lst 1 [] .ex, .lst 1 [] .ex], .cells (T.over.map aI), .cells ((plL f).map aI), .cells [.ms 3 0 k k, .ms 4 0 k k]]⟩) ?_ ?_
     ·refine awp_block ?_
      refine zg1 ?_
      simp -dsimp only [simprocAttr, ↓vpre, zp, hp]
      refine za0 ?_
      refine awp_block ?_
      by_cases hA : Asg T.over p
      ·have hnc := fun q => hpas.1 q hA
       have hB1 : decide (plF f p < 0) = false := decide_eq_false fun q => hnc (.inl q)
       rw [if_neg hnc] at hpd
       have hcase : p = 0 ∨ (p ≠ 0 ∧ ¬ x < 0) := by
        by_cases e : p = 0
        ·exact .inl e
        exact .inr ⟨e, fun q => hnc (.inr ⟨e, q⟩)⟩
       rcases hacc with hac | hac
       ·have hda : decide (acc < 0) = true := decide_eq_true (by omega)
        rw [if_pos (by omega)] at hpd
        rw [hpd] at hnx
        rcases hcase with hp0 | ⟨hp0, hx0⟩
        ·have hd1 : decide (p = 0) = true := decide_eq_true hp0
         refine zg1 ?_
         simp -dsimp only [simprocAttr, ↓vpre, zp, hepx, hB1, hd1, Int.toNat_natCast, Nat.mul_one]
         repeat (refine ⟨by omega, ?_⟩)
         refine za0 ?_
         refine zu0 rfl ?_
         refine zg1 ?_
         simp -dsimp only [simprocAttr, ↓vpre, zp, hda]
         refine za0 ?_
         refine zw0 rfl ?_
         refine awp_region hT hm ?_
         simp -dsimp only [simprocAttr, ↓vpre, zp]
         refine at_intro ?_
         show Covers _ _
         refine zq rfl ?_ ?_
         simp -dsimp only [simprocAttr, ↓vpre, zp, zc]
         all_goals first | rfl | exact Sub.int (by omega)
        have hd1 : decide (p = 0) = false := decide_eq_false hp0
        have hd2 : decide (x < 0) = false := decide_eq_false hx0
        refine zg1 ?_
        simp -dsimp only [simprocAttr, ↓vpre, zp, hepx, hB1, hd1, hd2, hxx, Int.toNat_natCast, Nat.mul_one]
        repeat (refine ⟨by omega, ?_⟩)
        refine za0 ?_
        refine zu0 rfl ?_
        refine zg1 ?_
        simp -dsimp only [simprocAttr, ↓vpre, zp, hda]
        refine za0 ?_
        refine zw0 rfl ?_
        refine awp_region hT hm ?_
        simp -dsimp only [simprocAttr, ↓vpre, zp]
        refine at_intro ?_
        show Covers _ _
        refine zq rfl ?_ ?_
        simp -dsimp only [simprocAttr, ↓vpre, zp, zc]
        all_goals first | rfl | exact Sub.int (by omega)
       have hacn := hac.nn hw hTo.tr
       have hda : decide (acc < 0) = false := decide_eq_false (by omega)
       rw [if_neg (by omega)] at hpd
       rw [hpd] at hnx
       have hmeet := meet_spec (O := [.gone, .gone, .cells [.lst 1 [] .ex, .lst 1 [] .ex], .cells (T.over.map aI), .cells ((plL f).map aI), .cells [.ms 3 0 k k, .ms 4 0 k k]]) (by
        have := dmO_upto f T.over k [.lst 1 [] .ex, .lst 1 [] .ex] (by simp [uptoL, AVal.upto])
        exact this) (A := 3) (B := 4) (N := k) hw rfl rfl hN hTo.tr hac hA
       rw [← hnx] at hmeet
       rcases hcase with hp0 | ⟨hp0, hx0⟩
       ·have hd1 : decide (p = 0) = true := decide_eq_true hp0
        refine zg1 ?_
        simp -dsimp only [simprocAttr, ↓vpre, zp, hepx, hB1, hd1, Int.toNat_natCast, Nat.mul_one]
        repeat (refine ⟨by omega, ?_⟩)
        refine za0 ?_
        refine zu0 rfl ?_
        refine zg1 ?_
        simp -dsimp only [simprocAttr, ↓vpre, zp, hda]
        refine za0 ?_
        refine zu0 rfl ?_
        refine awp_region hT hm ?_
        simp -dsimp only [simprocAttr, ↓vpre, zp]
        refine .inr (.inr ⟨_, hmeet, later_intro (zj ?_)⟩)
        refine at_intro ?_
        show Covers _ _
        refine zq rfl ?_ ?_
        simp -dsimp only [simprocAttr, ↓vpre, zp, zc]
        all_goals rfl
       have hd1 : decide (p = 0) = false := decide_eq_false hp0
       have hd2 : decide (x < 0) = false := decide_eq_false hx0
       refine zg1 ?_
       simp -dsimp only [simprocAttr, ↓vpre, zp, hepx, hB1, hd1, hd2, hxx, Int.toNat_natCast, Nat.mul_one]
       repeat (refine ⟨by omega, ?_⟩)
       refine za0 ?_
       refine zu0 rfl ?_
       refine zg1 ?_
       simp -dsimp only [simprocAttr, ↓vpre, zp, hda]
       refine za0 ?_
       refine zu0 rfl ?_
       refine awp_region hT hm ?_
       simp -dsimp only [simprocAttr, ↓vpre, zp]
       refine .inr (.inr ⟨_, hmeet, later_intro (zj ?_)⟩)
       refine at_intro ?_
       show Covers _ _
       refine zq rfl ?_ ?_
       simp -dsimp only [simprocAttr, ↓vpre, zp, zc]
       all_goals rfl
      have hnc := hpas.2 hA
      rw [if_pos hnc] at hpd
      rw [hpd] at hnx
      subst hnx
      by_cases hpl0 : plF f p < 0
      ·have hB1 : decide (plF f p < 0) = true := decide_eq_true hpl0
       refine zg1 ?_
       simp -dsimp only [simprocAttr, ↓vpre, zp, hepx, hB1, Int.toNat_natCast, Nat.mul_one]
       repeat (refine ⟨by omega, ?_⟩)
       refine za0 ?_
       refine zw0 rfl ?_
       refine awp_skip ?_
       show Covers _ _
       refine zq rfl ?_ ?_
       simp -dsimp only [simprocAttr, ↓vpre, zp, zc]
       all_goals rfl
      have hB1 : decide (plF f p < 0) = false := decide_eq_false hpl0
      have hd1 : decide (p = 0) = false := decide_eq_false fun e => hA (.inl e)
      have hd2 : decide (x < 0) = true := decide_eq_true (by omega)
      refine zg1 ?_
      simp -dsimp only [simprocAttr, ↓vpre, zp, hepx, hB1, hd1, hd2, hxx, Int.toNat_natCast, Nat.mul_one]
      repeat (refine ⟨by omega, ?_⟩)
      refine za0 ?_
      refine zw0 rfl ?_
      refine awp_skip ?_
      show Covers _ _
      refine zq rfl ?_ ?_
      simp -dsimp only [simprocAttr, ↓vpre, zp, zc]
      all_goals rfl
     refine zh0 ?_
     repeat (refine ⟨by omega, ?_⟩)
     refine zl0 ?_
     refine ⟨⟨(w + 1, nx), hlw, hnacc, hwe⟩, by simp; omega, ?_⟩
     refine zq rfl ?_ ?_
     simp -dsimp only [simprocAttr, ↓vpre, zp, zc]
     all_goals first | rfl | exact Sub.refl _
    refine awp_exit ?_
    simp -dsimp only [vend, ne_eq, Nat.reduceEqDiff, reduceCtorEq]
    have hww : w = ps.length := by simp at h; omega
    subst hww
    rw [List.drop_length, List.foldl_nil] at hwe
    subst hwe
    have hox := aI_at ho
    have hput := aI_put (l := T.over) (j := z.toNat) (by omega) NX
    by_cases hne : NX = o
    ·have hdn : decide (NX = o) = true := decide_eq_true hne
     rw [if_neg (by simp [hne])] at hstep
     rw [hstep] at hst hTe
     refine zg1 ?_
     simp -dsimp only [simprocAttr, ↓vpre, zp, hox, hdn, Nat.mul_one]
     repeat (refine ⟨by omega, ?_⟩)
     refine za0 ?_
     refine zu0 rfl ?_
     refine zb1 ?_
     refine zh0 ?_
     repeat (refine ⟨by omega, ?_⟩)
     refine zl0 ?_
     refine ⟨⟨(y + 1, T), hlt, by rw [show ((1 + (y + 1) : Nat) : Int) = ((1 + y : Nat) : Int) + 1 by omega]; exact hst.1, hTe⟩, by simp; omega, ?_⟩
     refine zq rfl ?_ ?_
     simp -dsimp only [simprocAttr, ↓vpre, zp, zc]
     all_goals first | rfl | exact Sub.refl _
    have hdn : decide (NX = o) = false := decide_eq_false hne
    rw [if_pos hne] at hstep
    rw [hstep] at hst hTe
    refine zg1 ?_
    simp -dsimp only [simprocAttr, ↓vpre, zp, hox, hdn, Nat.mul_one]
    repeat (refine ⟨by omega, ?_⟩)
    refine za0 ?_
    refine zw0 rfl ?_
    refine zg0 ?_
    simp -dsimp only [simprocAttr, ↓vpre, zp, hput, Nat.mul_one]
    repeat (refine ⟨by omega, ?_⟩)
    refine za0 ?_
    refine zh0 ?_
    repeat (refine ⟨by omega, ?_⟩)
    refine zl0 ?_
    refine ⟨⟨(y + 1, ⟨T.over.set z.toNat NX, true⟩), hlt, by rw [show ((1 + (y + 1) : Nat) : Int) = ((1 + y : Nat) : Int) + 1 by omega]; exact hst.1, hTe⟩, by simp; omega, ?_⟩
    refine zq rfl ?_ ?_
    simp -dsimp only [simprocAttr, ↓vpre, zp, zc]
    all_goals first | rfl | exact Sub.refl _
   refine awp_exit ?_
   simp -dsimp only [vend, ne_eq, Nat.reduceEqDiff, reduceCtorEq]
   have hyy : y = L1.length := by simp at h; omega
   subst hyy
   rw [List.drop_length, List.foldl_nil] at hTe
   subst hTe
   have hlt2 : S1.again = true → S1.weight f < q := fun hh => by
    rcases ro3 hh with r | r
    ·cases r
    omega
   refine ⟨⟨(S1, q), dinv_again hw ro1, hRq', hlt2⟩, ?_, ?_⟩
   ·simp only [hag, if_true]
    cases hs1 : S1.again
    ·simp; omega
    rcases ro3 hs1 with r | r
    ·cases r
    simp; omega
   refine zq rfl ?_ ?_
   simp -dsimp only [simprocAttr, ↓vpre, zp, zc]
   all_goals rfl
  refine awp_exit ?_
  simp -dsimp only [vend, ne_eq, Nat.reduceEqDiff, reduceCtorEq]
  have hag : S.again = false := h
  rw [dmI_done hag] at hRq
  subst hRq
  refine zh1 ?_
  repeat (refine ⟨by omega, ?_⟩)
  refine za0 ?_
  refine awp_ret ?_
  simp -dsimp only [simprocAttr, ↓vpre, zp, zr, Try.results40]
  exact ⟨dmO_upto f S.over k [.ms 3 0 k k, .ms 4 0 k k] ⟨show 3 < 6 by omega, show 4 < 6 by omega, trivial⟩, ⟨⟨show 3 < 6 by omega, show 4 < 6 by omega, trivial⟩, trivial, trivial⟩, rfl⟩
 exact FSub.mp rfl rfl
theorem sm_w {f : Func} (hfit : f.fit) (hc : checkFuncM f = 0) : SmW f := by
 have hw := checkFunc_ok hfit hc
 have hg := hw.gr
 have hpar : ∀ b ∈ f.blocks, b.params.length ≤ 4096 := fun b hb => by
  have := (hw.blk b hb).few
  omega
 exact {
  few := hw.few
  params := hpar
  ins := hw.ins
  iargs := fun b hb i hi => (form_ok ((hw.blk b hb).forms i hi)).len
  cases := fun b hb => (end_ok (hw.blk b hb).fin).cases
  to := fun b hb => hg.to b hb
  eargs := fun b hb e he => by
   have h1 := (end_ok (hw.blk b hb).fin).edges e he
   rw [h1.2]
   have hr := hg.edges b hb e he
   have hx : f.blocks[e.block.toNat]? = some (f.blocks[e.block.toNat]'(by omega)) := List.getElem?_eq_getElem _
   have : blkOf f e.block = f.blocks[e.block.toNat]'(by omega) := by simp [blkOf, hx]
   rw [this]
   exact hpar _ (List.getElem_mem _) }
def pruneR (f : Func) : AVal := if checkFuncM f = 0 then .tup [(pruneM f).enc, eIs (atM f), aI 0] else .tup [.agg [aI 0, .lst 7 [] .sh], .lst 1 [] .sh, aI (checkFuncM f)]
structure Px where
 i : Nat
 oid : Nat
 O : List AObj
theorem prune_spec (f : Func) (hfit : f.fit) : PCall Try.prog 23 [f.enc] (pruneR f) := by
 have hrr := reachable_spec f hfit
 unfold rchR at hrr
 unfold pruneR
 by_cases hc : checkFuncM f = 0
 ·rw [if_pos hc] at hrr ⊢
  have hg := (checkFunc_ok hfit hc).gr
  have hw := ord_w hg
  have hsm := sm_w hfit hc
  have hn : f.blocks.length ≤ 128 := hg.few
  have hcp := copy_spec f hsm hg.ne
  have hLl : (rchS f).length ≤ 128 := by rw [rchS_len]; exact hw.few
  have hLn := rchS_nodup hw
  have hL0 : rchS f ≠ [] := List.ne_nil_of_mem (mem_rchS.2 (by rw [hw.zero]; omega : 0 ≤ plF f 0))
  have hLr : ∀ k ∈ rchS f, 0 ≤ k ∧ k < f.blocks.length := fun k hk => hw.range k (mem_rchS.1 hk)
  obtain ⟨N, hN⟩ : ∃ N, N = f.blocks.length := ⟨_, rfl⟩
  obtain ⟨L, hL⟩ : ∃ L, L = rchS f := ⟨_, rfl⟩
  obtain ⟨A, hA⟩ : ∃ A, A = atM f := ⟨_, rfl⟩
  have hpm : (pruneM f).enc = .agg [aI f.name, eBlocks (prB f A L)] := by rw [hA, hL]; rfl
  rw [hpm, ← hA]
  unfold atM at hA
  rw [← hL] at hrr hLl hLn hL0 hLr hA
  rw [← hN] at hn hA hLr
  have hAl : A.length = N := by rw [hA]; simp
  refine zf true 0 Try.func23 Try.ntmps23 ?_
  dsimp only [Tmp, TypeId, slotsOf]
  refine zh1 (za0 ?_)
  refine awp_freeze1 1 0 (.ip none [aI f.name, eBlocks f.blocks]) rfl (by simp [AObj.isSpare]) trivial rfl ?_ ?_
  rotate_left
  simp -dsimp only [simprocAttr, ↓vpre, zp]
  ·refine zh1 ?_
   refine zi hrr ?_
   refine za0 ?_
   refine zh2 (za0 ?_)
   apply zk0 rfl <;> intro h
   ·cases h
   refine zb0 ?_
   refine zg1 ?_
   simp -dsimp only [simprocAttr, ↓vpre, zp, zerosI_flat, ← hN]
   repeat (refine ⟨by omega, ?_⟩)
   refine za0 ?_
   refine zh2 (za0 ?_)
   refine awp_block (awp_loop (ι := {k : Nat // k ≤ N}) (fun k => ⟨89, [(1, .ip none [aI f.name, eBlocks f.blocks]), (2, .mp 1 0), (5, eIs L), (7, .ms 2 0 N N), (29, aI N), (30, aI k.1)], [.gone, .cells [aI 0, .lst 7 [] .ex], .cells ((A.take k.1 ++ List.replicate (N - k.1) 0).map aI)]⟩) (fun k => N - k.1) ⟨0, by omega⟩ ?_ ?_)
   ·refine zq rfl ?_ ?_
    simp -dsimp only [simprocAttr, ↓vpre, zp, zc]
    all_goals rfl
   rintro ⟨k, hk⟩
   refine zh1 (za0 ?_)
   apply zk1 rfl <;> intro h
   ·refine zb0 ?_
    have hlt : k < N := by simpa using h
    have hix := index_spec L (k : Int)
    have hAk : A[k]? = some (idxI L (k : Int)) := by
     rw [hA, List.getElem?_map, List.getElem?_range hlt]
     rfl
    have htl : (A.take k).length = k := by rw [List.length_take]; omega
    have hput : splice ((A.take k ++ List.replicate (N - k) 0).map aI) k [.v (.int .i64 (idxI L (k : Int)))] = (A.take (k + 1) ++ List.replicate (N - (k + 1)) 0).map aI := by
     rw [aI_put (by rw [List.length_append, htl, List.length_replicate]; omega), fill_set htl hlt, List.take_add_one, hAk]
     rfl
    refine awp_seq (awp_block ?_)
    refine zh1 (za0 ?_)
    refine zh0 ?_
    refine .inl ⟨_, hix, by simp only [uptoL, AVal.upto, zt, zu, aI_upto], later_intro ?_⟩
    simp -dsimp only [simprocAttr, ↓vpre, zp, hput, Int.toNat_natCast, Nat.mul_one]
    repeat (refine ⟨by omega, ?_⟩)
    refine ⟨by rw [htl, List.length_replicate]; omega, ?_⟩
    refine za0 ?_
    refine zh0 ?_
    repeat (refine ⟨by omega, ?_⟩)
    refine zl0 ?_
    refine ⟨⟨k + 1, hlt⟩, by simp; omega, ?_⟩
    refine zq rfl ?_ ?_
    simp -dsimp only [simprocAttr, ↓vpre, zp, zc]
    ·exact Sub.int (by simp)
    rfl
   refine awp_exit ?_
   simp -dsimp only [vend, ne_eq, Nat.reduceEqDiff, reduceCtorEq]
   have hkN : N = k := by
    have := of_decide_eq_false h
    omega
   subst hkN
   rw [Nat.sub_self, List.replicate_zero, List.append_nil, List.take_of_length_le (by omega)]
   refine awp_freeze1 7 2 (o := .cells (A.map aI)) (eIs A) rfl (by simp [AObj.isSpare]) trivial rfl (FSub.ms (cs := A.map aI) rfl (fun x hx => by obtain ⟨v, _, rfl⟩ := List.mem_map.1 hx; rfl) (by simpa using hAl) (by rw [List.drop_zero, List.take_of_length_le (by simp; omega), aI_cellsAll])) ?_
   simp -dsimp only [simprocAttr, ↓vpre, zp]
   refine awp_trunc' 2 [(1, .ip none [aI f.name, eBlocks f.blocks]), (2, .mp 1 0), (5, eIs L), (7, eIs A)] (by simp) (by omega) [.gone, .cells [aI 0, .lst 7 [] .ex]] ?_ ?_ ?_ ?_ ?_
   ·rfl
   ·simp [AObj.upto, uptoL, AVal.upto]
   ·simp [Says, St.get, putS, dropS, Go.Av.look, Sub.refl]
   ·simp [AObj.upto, uptoL, AVal.upto, aI_upto, Block.map_upto]
   refine awp_seq (awp_call_ex ⟨false, false⟩ hT 1 rfl rfl rfl (by simp) ?_)
   simp -dsimp only [simprocAttr, ↓vpre, zp]
   refine ⟨CpR f, cert_ecallE rfl (by simp) rfl rfl hcp, fun r O' hR => ?_⟩
   obtain ⟨ids, bid, hr, hup, hg0, hg1, ⟨hb5, hbO⟩, hco, hne⟩ := hR
   subst hr
   simp -dsimp only [simprocAttr, ↓vpre, zp]
   refine za0 ?_
   rw [← hN]
   have hbl := lt_of_getElem? hbO
   refine awp_local 9 ([aI f.name, .os bid N 7]) [(1, .ip none [aI f.name, eBlocks f.blocks]), (2, .mp 1 0), (5, eIs L), (7, eIs A), (9, .ip none [aI f.name, .os bid N 7])] (by simp [putS, dropS, Go.Av.look]) (by rfl) (by omega) (by simp [putS, dropS, Go.Av.look]) ?_ ?_ ?_
   ·exact hup
   ·simp [AVal.upto, uptoL, aI_upto, Edge.map_upto, Ins.map_upto, Block.map_upto, hbl, lt_of_getElem? hg1]
   have hP0 := PrS.start A hup hg1 ⟨hb5, hbO⟩ hco hne
   refine zh1 (za0 ?_)
   generalize O' ++ [AObj.cells [aI f.name, .lst 7 [] .ex]] = O0 at *
   generalize O'.length = X0 at *
   refine zh2 (za0 ?_)
   refine awp_block (awp_loop (ι := {X : Px // X.i ≤ L.length ∧ PrS f A ids bid X0 (L.take X.i) X.oid X.O}) (fun X => ⟨89, [(1, .ip none [aI f.name, eBlocks f.blocks]), (2, .mp 1 0), (5, eIs L), (7, eIs A), (9, .ip none [aI f.name, .os bid N 7]), (10, .mp X0 0), (45, eIs L), (46, aI L.length), (47, aI X.1.i)], X.1.O⟩) (fun X => L.length - X.1.i) ⟨⟨0, 0, O0⟩, by simp, hP0⟩ ?_ ?_)
   ·refine zq rfl ?_ ?_
    simp -dsimp only [simprocAttr, ↓vpre, zp, zc]
    all_goals rfl
   rintro ⟨⟨i, oid, O⟩, hi, hP⟩
   simp only at hi hP
   refine zh1 (za0 ?_)
   apply zk1 rfl <;> intro h
   ·refine zb0 ?_
    have hlt : i < L.length := by simpa using h
    obtain ⟨kk, hkk⟩ : ∃ kk, L[i]? = some kk := ⟨L[i], by simp [hlt]⟩
    have hkr := hLr kk (List.mem_of_getElem? hkk)
    obtain ⟨k, hk⟩ : ∃ k : Nat, kk = (k : Int) := ⟨kk.toNat, by omega⟩
    subst hk
    have htk : L.take (i + 1) = L.take i ++ [(k : Int)] := by rw [List.take_add_one, hkk]; rfl
    have htkl : (L.take i).length = i := by rw [List.length_take]; omega
    have hkn : (k : Int) ∉ L.take i := fun q => by
     have h1 : (L.take i ++ [(k : Int)]).Nodup := by
      rw [← htk]
      exact (List.take_sublist _ _).nodup hLn
     rw [List.nodup_append] at h1
     exact h1.2.2 _ q _ (by simp) rfl
    obtain ⟨b, hb⟩ : ∃ b, f.blocks[k]? = some b := ⟨f.blocks[k]'(by omega), List.getElem?_eq_getElem _⟩
    obtain ⟨id, hid⟩ : ∃ id, ids[k]? = some id := ⟨ids[k]'(by rw [hP.li]; omega), List.getElem?_eq_getElem _⟩
    have hbt := hg.to b (List.mem_of_getElem? hb)
    have hbe := hg.edges b (List.mem_of_getElem? hb)
    have hbl := hP.bl.2
    have hat := blsC_at hid hb
    have hbsl := blsC_len hP.li
    have hXl := lt_of_getElem? hP.out
    have hBl := lt_of_getElem? hbl
    have h1l := lt_of_getElem? hP.r1
    refine awp_seq (awp_block ?_)
    refine zg1 ?_
    simp -dsimp only [simprocAttr, ↓vpre, zp, hkk]
    refine za0 ?_
    by_cases hto : b.term.to = []
    ·have hblc : blC id b = [eIs b.params, eInss b.ins, aI b.term.kind, aI b.term.arg, aI b.term.n, eIs b.term.cases, .lst 2 [] .sh] := by
      unfold blC outE
      rw [if_pos hto]
     rw [hblc] at hat
     refine zg1 ?_
     simp -dsimp only [simprocAttr, ↓vpre, zp, hbl, hat, Int.toNat_natCast]
     repeat (refine ⟨by omega, ?_⟩)
     refine za0 ?_
     refine awp_local 13 ([eIs b.params, eInss b.ins, aI b.term.kind, aI b.term.arg, aI b.term.n, eIs b.term.cases, .lst 2 [] .sh]) [(1, .ip none [aI f.name, eBlocks f.blocks]), (2, .mp 1 0), (5, eIs L), (7, eIs A), (9, .ip none [aI f.name, .os bid N 7]), (10, .mp X0 0), (45, eIs L), (46, aI L.length), (47, aI i), (12, aI k), (13, .ip none [eIs b.params, eInss b.ins, aI b.term.kind, aI b.term.arg, aI b.term.n, eIs b.term.cases, .lst 2 [] .sh])] (by simp [putS, dropS, Go.Av.look]) (by rfl) (by omega) (by simp [putS, dropS, Go.Av.look]) ?_ ?_ ?_
     ·exact hP.up
     ·simp [AVal.upto, uptoL, aI_upto, Edge.map_upto, Ins.map_upto, Block.map_upto, hXl, hBl, h1l]
     refine zh2 (za0 ?_)
     refine awp_block (awp_loop (ι := Unit) (fun _ => ⟨89, [(1, .ip none [aI f.name, eBlocks f.blocks]), (2, .mp 1 0), (5, eIs L), (7, eIs A), (9, .ip none [aI f.name, .os bid N 7]), (10, .mp X0 0), (45, eIs L), (46, aI L.length), (47, aI i), (13, .ip none [eIs b.params, eInss b.ins, aI b.term.kind, aI b.term.arg, aI b.term.n, eIs b.term.cases, .lst 2 [] .sh]), (59, aI 0), (60, aI 0)], O⟩) (fun _ => 0) () ?_ ?_)
     ·refine zq rfl ?_ ?_
      simp -dsimp only [simprocAttr, ↓vpre, zp, zc]
      all_goals rfl
     rintro ⟨⟩
     refine zh1 (za0 ?_)
     refine zu1 rfl ?_
     refine awp_exit ?_
     simp -dsimp only [vend, ne_eq, Nat.reduceEqDiff, reduceCtorEq]
     by_cases hdn : L.take i = []
     ·have hob : outBl oid (prB f A (L.take i)) = .lst 7 [] .ex := by
       rw [hdn]
       rfl
      have hout := hP.out
      rw [hob] at hout
      have ho1 : (O)[X0]? = some (.cells [aI f.name, .lst 7 [] .ex]) := hout
      have ho1' : ∀ Y, (O ++ Y)[X0]? = some (.cells [aI f.name, .lst 7 [] .ex]) := fun Y => at_left ho1
      have hO1l : (O).length = O.length := rfl
      refine zs0 ?_
      simp -dsimp only [simprocAttr, ↓vpre, zp, ho1, ho1', cellsAll_v, cells_os', hblc]
      repeat (refine ⟨by omega, ?_⟩)
      refine ⟨trivial, ?_⟩
      refine za0 ?_
      have hput : PrS f A ids bid X0 (L.take i ++ [(k : Int)]) O.length ((O ++ [AObj.cells ([eIs b.params, eInss b.ins, aI b.term.kind, aI b.term.arg, aI b.term.n, eIs b.term.cases, .lst 2 [] .sh])]).set X0 (.cells [aI f.name, .os O.length 1 7])) := hP.snoc hb hid hkn hO1l (hP.up) (fun _ _ _ => rfl) (fun q => absurd hto q) (by rw [prC_snoc hid hb, hdn, ← hblc]; rfl) (by rw [hdn]; rfl)
      show AWP Try.prog _ _ _ ⟨_, _, (O ++ [AObj.cells ([eIs b.params, eInss b.ins, aI b.term.kind, aI b.term.arg, aI b.term.n, eIs b.term.cases, .lst 2 [] .sh])]).set X0 (.cells [aI f.name, .os (O).length 1 7])⟩
      rw [hO1l]
      generalize (O ++ [AObj.cells ([eIs b.params, eInss b.ins, aI b.term.kind, aI b.term.arg, aI b.term.n, eIs b.term.cases, .lst 2 [] .sh])]).set X0 (.cells [aI f.name, .os O.length 1 7]) = O7 at *
      refine zh0 ?_
      repeat (refine ⟨by omega, ?_⟩)
      refine zl0 ?_
      refine ⟨⟨⟨i + 1, O.length, O7⟩, hlt, by rw [htk]; exact hput⟩, by simp; omega, ?_⟩
      refine zq rfl ?_ ?_
      simp -dsimp only [simprocAttr, ↓vpre, zp, zc]
      ·exact Sub.int (by simp)
      rfl
     obtain ⟨l1, l2, l3, l4⟩ := hP.lst hdn
     have hob : outBl oid (prB f A (L.take i)) = .os oid i 7 := by
      unfold outBl
      rw [if_neg (by simpa [prB] using hdn), prB_len, htkl]
     have hout := hP.out
     rw [hob] at hout
     have ho1 : (O)[X0]? = some (.cells [aI f.name, .os oid i 7]) := hout
     have l5 : (O)[oid]? = some (.cells (blsC (prI ids (L.take i)) (prB f A (L.take i)))) := l4
     have ho1' : ∀ Y, ((O).set oid .gone ++ Y)[X0]? = some (.cells [aI f.name, .os oid i 7]) := fun Y => at_left (at_set_ne ho1 (by omega))
     have hO1l : ((O).set oid .gone).length = O.length := List.length_set
     have hO1l' : (O).length = O.length := rfl
     have hbll := blsC_len (ids := prI ids (L.take i)) (bs := prB f A (L.take i)) (by rw [prI_len, prB_len])
     rw [prB_len, htkl] at hbll
     have hTT : (blsC (prI ids (L.take i)) (prB f A (L.take i))).take (i * 7) = blsC (prI ids (L.take i)) (prB f A (L.take i)) := List.take_of_length_le (by omega)
     refine zg0 ?_
     simp -dsimp only [simprocAttr, ↓vpre, zp, ho1, ho1', l5, hTT, hbll, cellsAll_v, cells_os', hblc]
     repeat (refine ⟨by omega, ?_⟩)
     refine ⟨trivial, ?_⟩
     refine za0 ?_
     have hput : PrS f A ids bid X0 (L.take i ++ [(k : Int)]) O.length (((O).set oid .gone ++ [AObj.cells (blsC (prI ids (L.take i)) (prB f A (L.take i)) ++ ([eIs b.params, eInss b.ins, aI b.term.kind, aI b.term.arg, aI b.term.n, eIs b.term.cases, .lst 2 [] .sh]))]).set X0 (.cells [aI f.name, .os O.length (i + 1) 7])) := hP.snoc hb hid hkn hO1l (uptoO_set (hP.up) trivial) (fun j h1 h2 => by rw [List.getElem?_set_ne (Ne.symm (h2 hdn))]; skip) (fun q => absurd hto q) (by rw [prC_snoc hid hb, hblc]) (by rw [htkl])
     show AWP Try.prog _ _ _ ⟨_, _, ((O).set oid .gone ++ [AObj.cells (blsC (prI ids (L.take i)) (prB f A (L.take i)) ++ ([eIs b.params, eInss b.ins, aI b.term.kind, aI b.term.arg, aI b.term.n, eIs b.term.cases, .lst 2 [] .sh]))]).set X0 (.cells [aI f.name, .os (O).length (i + 1) 7])⟩
     rw [hO1l']
     generalize ((O).set oid .gone ++ [AObj.cells (blsC (prI ids (L.take i)) (prB f A (L.take i)) ++ ([eIs b.params, eInss b.ins, aI b.term.kind, aI b.term.arg, aI b.term.n, eIs b.term.cases, .lst 2 [] .sh]))]).set X0 (.cells [aI f.name, .os O.length (i + 1) 7]) = O7 at *
     refine zh0 ?_
     repeat (refine ⟨by omega, ?_⟩)
     refine zl0 ?_
     refine ⟨⟨⟨i + 1, O.length, O7⟩, hlt, by rw [htk]; exact hput⟩, by simp; omega, ?_⟩
     refine zq rfl ?_ ?_
     simp -dsimp only [simprocAttr, ↓vpre, zp, zc]
     ·exact Sub.int (by simp)
     rfl
    obtain ⟨o1, o2, o3, o4, o5⟩ := hP.own k id b hid hb hto
    rw [if_neg hkn] at o5
    have hblc : blC id b = [eIs b.params, eInss b.ins, aI b.term.kind, aI b.term.arg, aI b.term.n, eIs b.term.cases, .os id b.term.to.length 2] := by
     unfold blC outE
     rw [if_neg hto]
    rw [hblc] at hat
    have hil := lt_of_getElem? o5
    refine zg1 ?_
    simp -dsimp only [simprocAttr, ↓vpre, zp, hbl, hat, Int.toNat_natCast]
    repeat (refine ⟨by omega, ?_⟩)
    refine za0 ?_
    refine awp_local 13 ([eIs b.params, eInss b.ins, aI b.term.kind, aI b.term.arg, aI b.term.n, eIs b.term.cases, .os id b.term.to.length 2]) [(1, .ip none [aI f.name, eBlocks f.blocks]), (2, .mp 1 0), (5, eIs L), (7, eIs A), (9, .ip none [aI f.name, .os bid N 7]), (10, .mp X0 0), (45, eIs L), (46, aI L.length), (47, aI i), (12, aI k), (13, .ip none [eIs b.params, eInss b.ins, aI b.term.kind, aI b.term.arg, aI b.term.n, eIs b.term.cases, .os id b.term.to.length 2])] (by simp [putS, dropS, Go.Av.look]) (by rfl) (by omega) (by simp [putS, dropS, Go.Av.look]) ?_ ?_ ?_
    ·exact hP.up
    ·simp [AVal.upto, uptoL, aI_upto, Edge.map_upto, Ins.map_upto, Block.map_upto, hXl, hBl, h1l, hil]
    have hO0 : O.set id (.cells (edC (mixE A b.term.to 0))) = O := by
     rw [mixE_zero]
     apply List.ext_getElem?
     intro j
     rw [List.getElem?_set]
     split
     ·rename_i e
      rw [← e, o5]
     rfl
    refine zh2 (za0 ?_)
    refine awp_block (awp_loop (ι := {n : Nat // n ≤ b.term.to.length}) (fun n => ⟨89, [(1, .ip none [aI f.name, eBlocks f.blocks]), (2, .mp 1 0), (5, eIs L), (7, eIs A), (9, .ip none [aI f.name, .os bid N 7]), (10, .mp X0 0), (45, eIs L), (46, aI L.length), (47, aI i), (13, .ip none [eIs b.params, eInss b.ins, aI b.term.kind, aI b.term.arg, aI b.term.n, eIs b.term.cases, .os id b.term.to.length 2]), (59, aI b.term.to.length), (60, aI n.1)], O.set id (.cells (edC (mixE A b.term.to n.1)))⟩) (fun n => b.term.to.length - n.1) ⟨0, by omega⟩ ?_ ?_)
    ·refine zq rfl ?_ ?_
     simp -dsimp only [simprocAttr, ↓vpre, zp, zc]
     all_goals exact hO0.symm
    rintro ⟨z, hz⟩
    refine zh1 (za0 ?_)
    apply zk1 rfl <;> intro h
    ·refine zb0 ?_
     have hlz : z < b.term.to.length := by simpa using h
     obtain ⟨e, he⟩ : ∃ e, b.term.to[z]? = some e := ⟨b.term.to[z], by simp [hlz]⟩
     have her := hbe e (List.mem_of_getElem? he)
     have hge : (O.set id (.cells (edC (mixE A b.term.to z))))[id]? = some (.cells (edC (mixE A b.term.to z))) := List.getElem?_set_self hil
     obtain ⟨c1, c2⟩ := edC_at (mixE_at A he)
     have hmst := mixE_step A he
     have hmel : (edC (mixE A b.term.to z)).length = b.term.to.length * 2 := by rw [edC_len, mixE_len]
     obtain ⟨x, hx⟩ : ∃ x : Nat, e.block = (x : Int) := ⟨e.block.toNat, by omega⟩
     have hAx : A[x]? = some (atI A e.block) := by
      unfold atI
      rw [hx, Int.toNat_natCast, List.getElem?_eq_getElem (by omega)]
      rfl
     refine awp_seq (awp_block ?_)
     refine zh1 (za0 ?_)
     refine zg0 ?_
     simp -dsimp only [simprocAttr, ↓vpre, zp, hge, c1, hx, hAx, hmel, Int.toNat_natCast]
     repeat (refine ⟨by omega, ?_⟩)
     refine ⟨ob (by kernel_rfl), ?_⟩
     refine za0 ?_
     rw [← hx, hmst, List.set_set]
     refine zh0 ?_
     repeat (refine ⟨by omega, ?_⟩)
     refine zl0 ?_
     refine ⟨⟨z + 1, hlz⟩, by simp; omega, ?_⟩
     refine zq rfl ?_ ?_
     simp -dsimp only [simprocAttr, ↓vpre, zp, zc]
     ·exact Sub.int (by simp)
     rfl
    refine awp_exit ?_
    simp -dsimp only [vend, ne_eq, Nat.reduceEqDiff, reduceCtorEq]
    have hzl : b.term.to.length ≤ z := by
     have := of_decide_eq_false h
     omega
    rw [mixE_all A hzl]
    by_cases hdn : L.take i = []
    ·have hob : outBl oid (prB f A (L.take i)) = .lst 7 [] .ex := by
      rw [hdn]
      rfl
     have hout := hP.out
     rw [hob] at hout
     have ho1 : (O.set id (.cells (edC (b.term.to.map (renE A)))))[X0]? = some (.cells [aI f.name, .lst 7 [] .ex]) := at_set_ne hout o3
     have ho1' : ∀ Y, (O.set id (.cells (edC (b.term.to.map (renE A)))) ++ Y)[X0]? = some (.cells [aI f.name, .lst 7 [] .ex]) := fun Y => at_left ho1
     have hO1l : (O.set id (.cells (edC (b.term.to.map (renE A))))).length = O.length := List.length_set
     refine zs0 ?_
     simp -dsimp only [simprocAttr, ↓vpre, zp, ho1, ho1', cellsAll_v, cells_os', hblc]
     repeat (refine ⟨by omega, ?_⟩)
     refine ⟨trivial, ?_⟩
     refine za0 ?_
     have hput : PrS f A ids bid X0 (L.take i ++ [(k : Int)]) O.length ((O.set id (.cells (edC (b.term.to.map (renE A)))) ++ [AObj.cells ([eIs b.params, eInss b.ins, aI b.term.kind, aI b.term.arg, aI b.term.n, eIs b.term.cases, .os id b.term.to.length 2])]).set X0 (.cells [aI f.name, .os O.length 1 7])) := hP.snoc hb hid hkn hO1l (uptoO_set hP.up (show AObj.upto O.length (.cells (edC (b.term.to.map (renE A)))) from edC_upto _ _)) (fun j h1 _ => by rw [List.getElem?_set_ne (Ne.symm (h1 hto))]) (fun _ => List.getElem?_set_self (lt_of_getElem? o5)) (by rw [prC_snoc hid hb, hdn, ← hblc]; rfl) (by rw [hdn]; rfl)
     show AWP Try.prog _ _ _ ⟨_, _, (O.set id (.cells (edC (b.term.to.map (renE A)))) ++ [AObj.cells ([eIs b.params, eInss b.ins, aI b.term.kind, aI b.term.arg, aI b.term.n, eIs b.term.cases, .os id b.term.to.length 2])]).set X0 (.cells [aI f.name, .os (O.set id (.cells (edC (b.term.to.map (renE A))))).length 1 7])⟩
     rw [hO1l]
     generalize (O.set id (.cells (edC (b.term.to.map (renE A)))) ++ [AObj.cells ([eIs b.params, eInss b.ins, aI b.term.kind, aI b.term.arg, aI b.term.n, eIs b.term.cases, .os id b.term.to.length 2])]).set X0 (.cells [aI f.name, .os O.length 1 7]) = O7 at *
     refine zh0 ?_
     repeat (refine ⟨by omega, ?_⟩)
     refine zl0 ?_
     refine ⟨⟨⟨i + 1, O.length, O7⟩, hlt, by rw [htk]; exact hput⟩, by simp; omega, ?_⟩
     refine zq rfl ?_ ?_
     simp -dsimp only [simprocAttr, ↓vpre, zp, zc]
     ·exact Sub.int (by simp)
     rfl
    obtain ⟨l1, l2, l3, l4⟩ := hP.lst hdn
    have hob : outBl oid (prB f A (L.take i)) = .os oid i 7 := by
     unfold outBl
     rw [if_neg (by simpa [prB] using hdn), prB_len, htkl]
    have hout := hP.out
    rw [hob] at hout
    have ho1 : (O.set id (.cells (edC (b.term.to.map (renE A)))))[X0]? = some (.cells [aI f.name, .os oid i 7]) := at_set_ne hout o3
    have l5 : (O.set id (.cells (edC (b.term.to.map (renE A)))))[oid]? = some (.cells (blsC (prI ids (L.take i)) (prB f A (L.take i)))) := at_set_ne l4 (o4 hdn)
    have ho1' : ∀ Y, ((O.set id (.cells (edC (b.term.to.map (renE A))))).set oid .gone ++ Y)[X0]? = some (.cells [aI f.name, .os oid i 7]) := fun Y => at_left (at_set_ne ho1 (by omega))
    have hO1l : ((O.set id (.cells (edC (b.term.to.map (renE A))))).set oid .gone).length = O.length := by rw [List.length_set]; exact List.length_set
    have hO1l' : (O.set id (.cells (edC (b.term.to.map (renE A))))).length = O.length := List.length_set
    have hbll := blsC_len (ids := prI ids (L.take i)) (bs := prB f A (L.take i)) (by rw [prI_len, prB_len])
    rw [prB_len, htkl] at hbll
    have hTT : (blsC (prI ids (L.take i)) (prB f A (L.take i))).take (i * 7) = blsC (prI ids (L.take i)) (prB f A (L.take i)) := List.take_of_length_le (by omega)
    refine zg0 ?_
    simp -dsimp only [simprocAttr, ↓vpre, zp, ho1, ho1', l5, hTT, hbll, cellsAll_v, cells_os', hblc]
    repeat (refine ⟨by omega, ?_⟩)
    refine ⟨trivial, ?_⟩
    refine za0 ?_
    have hput : PrS f A ids bid X0 (L.take i ++ [(k : Int)]) O.length (((O.set id (.cells (edC (b.term.to.map (renE A))))).set oid .gone ++ [AObj.cells (blsC (prI ids (L.take i)) (prB f A (L.take i)) ++ ([eIs b.params, eInss b.ins, aI b.term.kind, aI b.term.arg, aI b.term.n, eIs b.term.cases, .os id b.term.to.length 2]))]).set X0 (.cells [aI f.name, .os O.length (i + 1) 7])) := hP.snoc hb hid hkn hO1l (uptoO_set (uptoO_set hP.up (show AObj.upto O.length (.cells (edC (b.term.to.map (renE A)))) from edC_upto _ _)) trivial) (fun j h1 h2 => by rw [List.getElem?_set_ne (Ne.symm (h2 hdn))]; exact (fun j h1 _ => by rw [List.getElem?_set_ne (Ne.symm (h1 hto))]) j h1 h2) (fun q => by rw [List.getElem?_set_ne (Ne.symm (o4 hdn))]; exact (fun _ => List.getElem?_set_self (lt_of_getElem? o5)) q) (by rw [prC_snoc hid hb, hblc]) (by rw [htkl])
    show AWP Try.prog _ _ _ ⟨_, _, ((O.set id (.cells (edC (b.term.to.map (renE A))))).set oid .gone ++ [AObj.cells (blsC (prI ids (L.take i)) (prB f A (L.take i)) ++ ([eIs b.params, eInss b.ins, aI b.term.kind, aI b.term.arg, aI b.term.n, eIs b.term.cases, .os id b.term.to.length 2]))]).set X0 (.cells [aI f.name, .os (O.set id (.cells (edC (b.term.to.map (renE A))))).length (i + 1) 7])⟩
    rw [hO1l']
    generalize ((O.set id (.cells (edC (b.term.to.map (renE A))))).set oid .gone ++ [AObj.cells (blsC (prI ids (L.take i)) (prB f A (L.take i)) ++ ([eIs b.params, eInss b.ins, aI b.term.kind, aI b.term.arg, aI b.term.n, eIs b.term.cases, .os id b.term.to.length 2]))]).set X0 (.cells [aI f.name, .os O.length (i + 1) 7]) = O7 at *
    refine zh0 ?_
    repeat (refine ⟨by omega, ?_⟩)
    refine zl0 ?_
    refine ⟨⟨⟨i + 1, O.length, O7⟩, hlt, by rw [htk]; exact hput⟩, by simp; omega, ?_⟩
    refine zq rfl ?_ ?_
    simp -dsimp only [simprocAttr, ↓vpre, zp, zc]
    ·exact Sub.int (by simp)
    rfl
   refine awp_exit ?_
   simp -dsimp only [vend, ne_eq, Nat.reduceEqDiff, reduceCtorEq]
   have hiL : L.length ≤ i := by
    have := of_decide_eq_false h
    omega
   rw [List.take_of_length_le hiL] at hP
   obtain ⟨l1, l2, l3, l4⟩ := hP.lst hL0
   have hob : outBl oid (prB f A L) = .os oid L.length 7 := by
    unfold outBl
    rw [if_neg (by simpa [prB] using hL0), prB_len]
   have hout := hP.out
   have hr1 := hP.r1
   have h1l := lt_of_getElem? hr1
   have hx5 := hP.x5
   rw [hob] at hout
   refine zg1 ?_
   simp -dsimp only [simprocAttr, ↓vpre, zp, hout, hr1]
   refine za0 ?_
   have hlen : (prI ids L).length = (prB f A L).length := by rw [prI_len, prB_len]
   have hel : ∀ (j id : Nat) (c : Block), (prI ids L)[j]? = some id → (prB f A L)[j]? = some c → c.term.to ≠ [] → ∃ (k : Nat) (b : Block), L[j]? = some (k : Int) ∧ f.blocks[k]? = some b ∧ ids[k]? = some id ∧ c = renB A b ∧ b.term.to ≠ [] := fun j id c h1 h2 h3 => by
    unfold prI at h1
    unfold prB at h2
    rw [List.getElem?_map, Option.map_eq_some_iff] at h1 h2
    obtain ⟨kk, e1, e2⟩ := h1
    obtain ⟨k2, e3, e4⟩ := h2
    rw [e1] at e3
    simp only [Option.some.injEq] at e3
    subst e3
    have hkr := hLr kk (List.mem_of_getElem? e1)
    have hbk : f.blocks[kk.toNat]? = some (f.blocks[kk.toNat]'(by omega)) := List.getElem?_eq_getElem _
    have hbo : blkOf f kk = f.blocks[kk.toNat]'(by omega) := by
     unfold blkOf
     rw [hbk]
     rfl
    have hik : ids[kk.toNat]? = some id := by
     rw [List.getElem?_eq_getElem (by rw [hP.li]; omega)] at e2 ⊢
     exact congrArg some e2
    refine ⟨kk.toNat, blkOf f kk, by rw [e1]; congr 1; omega, by rw [hbo]; exact hbk, hik, e4.symm, fun q => h3 ?_⟩
    rw [← e4, renB_to, q]
    rfl
   refine awp_blocks (ids := prI ids L) (bs := prB f A L) (X := 1) (oid := oid) (name := f.name) hlen (by omega) (by rw [prB_len]; exact List.getElem?_set_self h1l) (by rw [List.getElem?_set_ne (by omega)]; exact l4) (fun j id c h1 h2 h3 => ?_) (fun i j id c d h1 h2 h3 h4 h5 h6 => ?_) fun O1 hO1 hO11 => ?_
   ·obtain ⟨k, b, q1, q2, q3, q4, q5⟩ := hel j id c h1 h2 h3
    obtain ⟨o1, o2, o3, o4, o5⟩ := hP.own k id b q3 q2 q5
    rw [if_pos (List.mem_of_getElem? q1)] at o5
    exact ⟨o4 hL0, by omega, by rw [List.getElem?_set_ne (by omega), q4]; exact o5⟩
   ·obtain ⟨k, b, q1, q2, q3, q4, q5⟩ := hel i id c h1 h3 h5
    obtain ⟨k', b', r1, r2, r3, r4, r5⟩ := hel j id d h2 h4 h6
    have hkk := hP.inj k k' id b b' q3 r3 q2 r2 q5 r5
    subst hkk
    have hij := List.pairwise_iff_getElem.1 hLn
    have e1 := List.getElem?_eq_some_iff.1 q1
    have e2 := List.getElem?_eq_some_iff.1 r1
    obtain ⟨p1, p2⟩ := e1
    obtain ⟨p3, p4⟩ := e2
    refine Classical.byContradiction fun q => ?_
    rcases Nat.lt_or_gt_of_ne q with q | q
    ·exact hij i j p1 p3 q (p2.trans p4.symm)
    exact hij j i p3 p1 q (p4.trans p2.symm)
   refine awp_ret ?_
   simp -dsimp only [simprocAttr, ↓vpre, zp, zr, Try.results23, hO11]
   simp [uptoL, AVal.upto, aI_upto, Block.map_upto]
  exact FSub.mp rfl rfl
 rw [if_neg hc] at hrr ⊢
 obtain ⟨e, he⟩ : ∃ e, e = checkFuncM f := ⟨_, rfl⟩
 rw [← he] at hc hrr ⊢
 have hde : decide (e = 0) = false := decide_eq_false hc
 refine zf true 0 Try.func23 Try.ntmps23 ?_
 dsimp only [Tmp, TypeId, slotsOf]
 refine zh1 (za0 ?_)
 refine awp_freeze1 1 0 (.ip none [aI f.name, eBlocks f.blocks]) rfl (by simp [AObj.isSpare]) trivial rfl ?_ ?_
 rotate_left
 simp -dsimp only [simprocAttr, ↓vpre, zp]
 ·refine zh1 ?_
  refine zi hrr ?_
  refine za0 ?_
  refine zg2 ?_
  simp -dsimp only [simprocAttr, ↓vpre, zp, hde]
  refine za0 ?_
  refine zw0 rfl ?_
  refine zh1 (za0 ?_)
  refine awp_ret ?_
  simp -dsimp only [simprocAttr, ↓vpre, zp, zr, Try.results23]
  simp [uptoL, AVal.upto]
 exact FSub.mp rfl rfl

theorem tree_spec (f : Func) (hfit : f.fit) (hc : checkFuncM f = 0) : PCall Try.prog 29 [f.enc] (.tup [eIs (treeM f), aI 0]) := by
 have hb := dbuild_spec f hfit hc
 have hg := (checkFunc_ok hfit hc).gr
 have hl := (tree_w hg).tr.len
 unfold dmO at hb
 generalize treeM f = O at *
 obtain ⟨N, hN⟩ : ∃ N, N = f.blocks.length := ⟨_, rfl⟩
 rw [← hN] at hb hl
 refine zf true 0 Try.func29 Try.ntmps29 ?_
 dsimp only [Tmp, TypeId, slotsOf]
 refine zh1 (za0 ?_)
 refine awp_freeze1 1 0 (.ip none [aI f.name, eBlocks f.blocks]) rfl (by simp [AObj.isSpare]) trivial rfl ?_ ?_
 rotate_left
 simp -dsimp only [simprocAttr, ↓vpre, zp]
 ·refine zh1 ?_
  refine .inr (.inl ⟨_, _, hb, .inl (later_intro (zj ?_))⟩)
  refine za0 ?_
  refine zh1 (za0 ?_)
  refine awp_freeze1 2 3 (o := .cells (O.map aI)) (eIs O) rfl (by simp [AObj.isSpare]) trivial rfl (FSub.ms (cs := O.map aI) rfl (fun x hx => by obtain ⟨v, _, rfl⟩ := List.mem_map.1 hx; rfl) (by simpa using hl) (by rw [List.drop_zero, List.take_of_length_le (by simp; omega), aI_cellsAll])) ?_
  simp -dsimp only [simprocAttr, ↓vpre, zp]
  refine awp_ret ?_
  simp -dsimp only [simprocAttr, ↓vpre, zp, zr, Try.results29]
  exact ⟨⟨aI_upto _ _, trivial⟩, trivial, trivial⟩
 exact FSub.mp rfl rfl
theorem domPrunes_law (f : Func) (hfit : f.fit) : PCall Try.prog 7 [f.enc] (.v (.bool true)) := by
 have hwk := works_spec
 have hpr := prune_spec f hfit
 unfold pruneR at hpr
 by_cases hc : checkFuncM f = 0
 ·rw [if_pos hc] at hpr
  have hg := (checkFunc_ok hfit hc).gr
  have hw := ord_w hg
  have hn : f.blocks.length ≤ 128 := hg.few
  have hc' := prune_check hfit hc
  have hfit' := prune_fit hfit hg
  have hg' := (checkFunc_ok hfit' hc').gr
  have htf := tree_spec f hfit hc
  have htg := tree_spec (pruneM f) hfit' hc'
  have hDl := (tree_w hg).tr.len
  have hDw := (tree_w hg).tr.low
  have hDu := (tree_w hg).tr.up
  have hEl := (tree_w hg').tr.len
  rw [prune_len] at hEl
  have hLl : (rchS f).length ≤ 128 := by rw [rchS_len]; exact hw.few
  have hAl : (atM f).length = f.blocks.length := by simp [atM]
  have hAt : ∀ k : Nat, k < f.blocks.length → (atM f)[k]? = some (posM f k) := fun k hk => by
   unfold atM
   rw [List.getElem?_map, List.getElem?_range hk]
   rfl
  have hpos : ∀ k : Nat, 0 ≤ posM f k → (posM f k).toNat < (rchS f).length ∧ atI (treeM (pruneM f)) (posM f k) = if 0 ≤ atI (treeM f) k then posM f (atI (treeM f) k) else -1 := fun k hk => by
   have h1 := (idxI_mem (l := rchS f) (n := (k : Int))).1.1 hk
   exact ⟨lt_of_getElem? ((idxI_mem (l := rchS f) (n := (k : Int))).2 hk), dom_prune hg hg' (mem_rchS.1 h1)⟩
  have hDr : ∀ k : Nat, 0 ≤ atI (treeM f) k → atI (treeM f) k < f.blocks.length := fun k hk => (hw.range _ (hDu k hk).1).2
  obtain ⟨g, hge⟩ : ∃ g, g = pruneM f := ⟨_, rfl⟩
  rw [← hge] at hpr htg hEl hpos
  obtain ⟨N, hN⟩ : ∃ N, N = f.blocks.length := ⟨_, rfl⟩
  obtain ⟨M, hM⟩ : ∃ M, M = (rchS f).length := ⟨_, rfl⟩
  rw [← hN] at hn hDl hAl hAt hDr
  rw [← hM] at hEl hLl hpos
  generalize atM f = A at *
  obtain ⟨P, hP⟩ : ∃ P : Int → Int, P = posM f := ⟨_, rfl⟩
  rw [← hP] at hAt hpos
  generalize treeM f = D at *
  generalize treeM g = E at *
  have hge2 : g.enc = .agg [aI g.name, eBlocks g.blocks] := rfl
  rw [hge2] at hpr
  refine zf true 0 Try.func7 Try.ntmps7 ?_
  dsimp only [Tmp, TypeId, slotsOf]
  refine zh1 (za0 ?_)
  refine awp_freeze1 1 0 (.ip none [aI f.name, eBlocks f.blocks]) rfl (by simp [AObj.isSpare]) trivial rfl ?_ ?_
  rotate_left
  simp -dsimp only [simprocAttr, ↓vpre, zp]
  ·refine zh2 ?_
   refine zi hwk ?_
   refine za0 ?_
   apply zk0 rfl <;> intro h
   ·cases h
   refine zb0 ?_
   refine zh1 ?_
   refine zi hpr ?_
   refine za0 ?_
   refine awp_freeze1 3 1 (.ip none [aI g.name, eBlocks g.blocks]) rfl (by simp [AObj.isSpare]) trivial rfl ?_ ?_
   rotate_left
   simp -dsimp only [simprocAttr, ↓vpre, zp]
   ·refine zh2 (za0 ?_)
    apply zk0 rfl <;> intro h
    ·cases h
    refine zb0 ?_
    refine zh1 ?_
    refine zi htf ?_
    refine za0 ?_
    refine zh1 ?_
    refine zi htg ?_
    refine za0 ?_
    refine zg2 ?_
    simp -dsimp only [simprocAttr, ↓vpre, zp, hDl, hAl]
    refine za0 ?_
    apply zk0 rfl <;> intro h
    ·cases h
    refine zb0 ?_
    refine zg2 ?_
    simp -dsimp only [simprocAttr, ↓vpre, zp, hAl]
    refine za0 ?_
    refine awp_block (awp_loop (ι := {k : Nat // k ≤ N}) (fun k => ⟨94, [(4, eIs A), (6, eIs D), (8, eIs E), (49, eIs A), (50, aI N), (51, aI k.1)], [.gone, .gone]⟩) (fun k => N - k.1) ⟨0, by omega⟩ ?_ ?_)
    ·refine zq rfl ?_ ?_
     simp -dsimp only [simprocAttr, ↓vpre, zp, zc]
     all_goals rfl
    rintro ⟨k, hk⟩
    refine zh1 (za0 ?_)
    apply zk1 rfl <;> intro h
    ·refine zb0 ?_
     have hlt : k < N := by simpa using h
     have hAk := hAt k hlt
     have hDk : D[k]? = some (atI D k) := by
      unfold atI
      rw [Int.toNat_natCast, List.getElem?_eq_getElem (by omega)]
      rfl
     have hpk := hpos k
     have hdr := hDr k
     obtain ⟨d, hd⟩ : ∃ d, d = atI D k := ⟨_, rfl⟩
     rw [← hd] at hDk hpk hdr
     obtain ⟨n, hne⟩ : ∃ n, n = P k := ⟨_, rfl⟩
     rw [← hne] at hAk hpk
     refine awp_seq (awp_block ?_)
     refine zg1 ?_
     simp -dsimp only [simprocAttr, ↓vpre, zp, hAk]
     refine za0 ?_
     refine zh1 (za0 ?_)
     by_cases hd0 : 0 ≤ d
     ·have g0 : decide (0 ≤ d) = true := decide_eq_true hd0
      have hdN := hdr hd0
      have g1 : decide (d < (N : Int)) = true := decide_eq_true hdN
      obtain ⟨x, hx⟩ : ∃ x : Nat, d = (x : Int) := ⟨d.toNat, by omega⟩
      have hAx := hAt x (by omega)
      rw [if_pos hd0] at hpk
      refine zg2 ?_
      simp -dsimp only [simprocAttr, ↓vpre, zp, hDk, g0, hAl, g1]
      repeat (refine ⟨by omega, ?_⟩)
      refine za0 ?_
      refine zw0 rfl ?_
      refine zg0 ?_
      simp -dsimp only [simprocAttr, ↓vpre, zp, hDk, hx, hAx, Int.toNat_natCast]
      repeat (refine ⟨by omega, ?_⟩)
      refine za0 ?_
      by_cases hn0 : 0 ≤ n
      ·have g2 : decide (0 ≤ n) = true := decide_eq_true hn0
       obtain ⟨q1, q2⟩ := hpk hn0
       have g3 : decide ((M : Int) ≤ n) = false := decide_eq_false (by omega)
       obtain ⟨m, hmn⟩ : ∃ m : Nat, n = (m : Int) := ⟨n.toNat, by omega⟩
       have hEm : E[m]? = some (P (x : Int)) := by
        rw [← hx, ← q2]
        unfold atI
        rw [hmn, Int.toNat_natCast, List.getElem?_eq_getElem (by omega)]
        rfl
       rw [hmn] at g2 g3
       refine zg1 ?_
       simp -dsimp only [simprocAttr, ↓vpre, zp, hmn, g2, hEl, g3, hEm, Int.toNat_natCast]
       repeat (refine ⟨by omega, ?_⟩)
       refine za0 ?_
       refine zu0 rfl ?_
       refine zb1 ?_
       refine zh0 ?_
       repeat (refine ⟨by omega, ?_⟩)
       refine zl0 ?_
       refine ⟨⟨k + 1, hlt⟩, by simp; omega, ?_⟩
       refine zq rfl ?_ ?_
       simp -dsimp only [simprocAttr, ↓vpre, zp, zc]
       ·exact Sub.int (by simp)
       rfl
      have g2 : decide (0 ≤ n) = false := decide_eq_false hn0
      refine zg1 ?_
      simp -dsimp only [simprocAttr, ↓vpre, zp, g2]
      refine za0 ?_
      refine zu0 rfl ?_
      refine zb1 ?_
      refine zh0 ?_
      repeat (refine ⟨by omega, ?_⟩)
      refine zl0 ?_
      refine ⟨⟨k + 1, hlt⟩, by simp; omega, ?_⟩
      refine zq rfl ?_ ?_
      simp -dsimp only [simprocAttr, ↓vpre, zp, zc]
      ·exact Sub.int (by simp)
      rfl
     have g0 : decide (0 ≤ d) = false := decide_eq_false hd0
     rw [if_neg hd0] at hpk
     refine zg2 ?_
     simp -dsimp only [simprocAttr, ↓vpre, zp, hDk, g0]
     repeat (refine ⟨by omega, ?_⟩)
     refine za0 ?_
     refine zu0 rfl ?_
     refine zb0 ?_
     by_cases hn0 : 0 ≤ n
     ·have g2 : decide (0 ≤ n) = true := decide_eq_true hn0
      obtain ⟨q1, q2⟩ := hpk hn0
      have g3 : decide ((M : Int) ≤ n) = false := decide_eq_false (by omega)
      obtain ⟨m, hmn⟩ : ∃ m : Nat, n = (m : Int) := ⟨n.toNat, by omega⟩
      have hEm : E[m]? = some (-1) := by
       rw [← q2]
       unfold atI
       rw [hmn, Int.toNat_natCast, List.getElem?_eq_getElem (by omega)]
       rfl
      rw [hmn] at g2 g3
      refine zg1 ?_
      simp -dsimp only [simprocAttr, ↓vpre, zp, hmn, g2, hEl, g3, hEm, Int.toNat_natCast]
      repeat (refine ⟨by omega, ?_⟩)
      refine za0 ?_
      refine zu0 rfl ?_
      refine zb1 ?_
      refine zh0 ?_
      repeat (refine ⟨by omega, ?_⟩)
      refine zl0 ?_
      refine ⟨⟨k + 1, hlt⟩, by simp; omega, ?_⟩
      refine zq rfl ?_ ?_
      simp -dsimp only [simprocAttr, ↓vpre, zp, zc]
      ·exact Sub.int (by simp)
      rfl
     have g2 : decide (0 ≤ n) = false := decide_eq_false hn0
     refine zg1 ?_
     simp -dsimp only [simprocAttr, ↓vpre, zp, g2]
     refine za0 ?_
     refine zu0 rfl ?_
     refine zb1 ?_
     refine zh0 ?_
     repeat (refine ⟨by omega, ?_⟩)
     refine zl0 ?_
     refine ⟨⟨k + 1, hlt⟩, by simp; omega, ?_⟩
     refine zq rfl ?_ ?_
     simp -dsimp only [simprocAttr, ↓vpre, zp, zc]
     ·exact Sub.int (by simp)
     rfl
    refine awp_exit ?_
    simp -dsimp only [vend, ne_eq, Nat.reduceEqDiff, reduceCtorEq]
    refine zh1 (za0 ?_)
    refine awp_ret ?_
    simp -dsimp only [simprocAttr, ↓vpre, zp, zr, Try.results7]
   exact FSub.mp rfl rfl
  exact FSub.mp rfl rfl
 rw [if_neg hc] at hpr
 obtain ⟨e, he⟩ : ∃ e, e = checkFuncM f := ⟨_, rfl⟩
 rw [← he] at hc hpr
 have hde : decide (e = 0) = false := decide_eq_false hc
 refine zf true 0 Try.func7 Try.ntmps7 ?_
 dsimp only [Tmp, TypeId, slotsOf]
 refine zh1 (za0 ?_)
 refine awp_freeze1 1 0 (.ip none [aI f.name, eBlocks f.blocks]) rfl (by simp [AObj.isSpare]) trivial rfl ?_ ?_
 rotate_left
 simp -dsimp only [simprocAttr, ↓vpre, zp]
 ·refine zh2 ?_
  refine zi hwk ?_
  refine za0 ?_
  refine zu0 rfl ?_
  refine zb0 ?_
  refine zh1 ?_
  refine zi hpr ?_
  refine za0 ?_
  refine zg2 ?_
  simp -dsimp only [simprocAttr, ↓vpre, zp, hde]
  refine za0 ?_
  refine zw0 rfl ?_
  refine zh1 (za0 ?_)
  refine awp_ret ?_
  simp -dsimp only [simprocAttr, ↓vpre, zp, zr, Try.results7]
 exact FSub.mp rfl rfl
end Go.Proofs.Ytlclgfgmhnmnaaa
