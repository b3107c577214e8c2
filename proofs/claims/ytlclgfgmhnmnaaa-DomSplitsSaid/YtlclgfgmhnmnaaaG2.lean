/-
  Texts bound together by a program of mine: YtakdmelemfnmdaaAvv, YtlclgfgmhnmnaaaT56, YtlclgfgmhnmnaaaT123, YtlclgfgmhnmnaaaT126, YtlclgfgmhnmnaaaT63, YtlclgfgmhnmnaaaT57, YtlclgfgmhnmnaaaT108, YtlclgfgmhnmnaaaT127.
-/
import Derived.Test.YtlclgfgmhnmnaaaG1
set_option linter.all false
set_option maxRecDepth 100000
set_option maxHeartbeats 4000000

namespace Go.Av
theorem turn_new {g : G} (hg : Good g) {id m : Nat} (h : g.objs[id]? = some (.spare m)) (arr : Array Value) (t : TypeId) (cs : List AVal) (hlen : cs.length ≤ arr.size)
    (hrv : ∀ (g' : G) (j : Nat) (c : AVal) (u : Value), cs[j]? = some c → arr[j]? = some u → RV g' c u) (hsc : ∀ c ∈ cs, c.scalar) :
    Le g (g.turn id (some ⟨g.w.heap.size, 0, arr.size⟩) (.cells cs) (g.w.alloc (.cells arr t))) ∧ Good (g.turn id (some ⟨g.w.heap.size, 0, arr.size⟩) (.cells cs) (g.w.alloc (.cells arr t))) := by
  have hturn : Turns g id (.spare m) (some ⟨g.w.heap.size, 0, arr.size⟩) (.cells cs) (g.w.alloc (.cells arr t)) := {
    obj := h
    os := rfl
    tape := rfl
    output := rfl
    size := by show g.w.heap.size ≤ (g.w.heap.push _).size; rw [Array.size_push]; omega
    block := fun k hk _ => heap_push_lt g.w _ hk
    cell := fun b off x hx _ => by
      have := cell_lt hx
      rw [cell_congr (heap_push_lt g.w (.cells arr t) this)]
      exact hx
    place := fun l1 h1 _ => by
      simp only [Option.some.injEq] at h1
      subst h1
      exact .inl (Nat.le_refl _)
    spare := fun _ _ => .inr (by simp [AObj.isSpare])
    plain := fun h => absurd trivial h
    gone := by simp }
  exact ⟨Le.turn hg hturn, Good.turn hg hturn ⟨_, arr, t, rfl, rfl, heap_push_new g.w _, hlen, fun j c u hj hu => hrv _ j c u hj hu, hsc, Nat.le_refl _⟩ (fun l1 h1 _ => by
    simp only [Option.some.injEq] at h1
    subst h1
    exact lt_of_getElem?' (heap_push_new g.w (.cells arr t)))⟩
theorem cert_alloc_at {P : Program} {tab : Tab} (hT : TabOK P tab) {o : Oper} {σ : St} {t : TypeId} {ti : TInfo} {id m : Nat} (ho : o.op = .alloc t) (hd : ∀ d, o.dst = some d → d < σ.n) (ht : tab t = some ti) (hid : σ.objs[id]? = some (.spare m)) :
    Cert P o σ (.mp id 0) (.new id (.cells ti.zero)) :=
  Cert.ofAgree trivial hd fun base σ' a g hrel h ho' => by
    have hg := hrel.good
    obtain ⟨z, hz, h5, _, _, h8, h9⟩ := (hT t ti ht).zeroValue
    have hid' : g.objs[id]? = some (.spare m) := Eq.trans ho' hid
    obtain ⟨hle, hgood⟩ := turn_new hg hid' z.cells t ti.zero (by rw [h5]; exact Nat.le_refl _) (fun g' j c u a b => h8 g' j c u a b) h9
    refine ⟨.pointer (some ⟨g.w.heap.size, 0, none⟩), _, .inl ?_, hle, hgood, ?_, ?_⟩
    · simp [execOp, ho, Instr.alloc, hz, Go.newVar, Go.newRow, G.turn]
    · simp [G.turn, Mode.post]
    exact .mp (l := ⟨g.w.heap.size, 0, z.cells.size⟩) (o := .cells ti.zero) (by simp only [G.turn]; rw [List.getElem?_set_self (env_lt hg hid')]) (by simp only [G.turn]; rw [List.getElem?_set_self (lt_of_getElem? hid')]) (by simp [AObj.isSpare])
theorem cert_makeSlice_at {P : Program} {tab : Tab} (hT : TabOK P tab) {o : Oper} {σ : St} {t e : TypeId} {x y : Operand} {ti te : TInfo} {k k' : IntKind} {n : Int} {id m' : Nat}
    (ho : o.op = .makeSlice t x y) (hd : ∀ d, o.dst = some d → d < σ.n) (ht : tab t = some ti) (hdesc : ti.desc = .slice e) (he : tab e = some te) (hx : σ.ev x = some (.v (.int k n))) (hy : σ.ev y = some (.v (.int k' n)))
    (h0 : 0 ≤ n) (hb : te.bytes * n.toNat ≤ 2 ^ 48) (h62 : n.toNat ≤ 2 ^ 62) (hs : 0 < te.size) (hid : σ.objs[id]? = some (.spare m')) :
    Cert P o σ (.ms id 0 n.toNat n.toNat) (.new id (.cells (List.replicate n.toNat te.zero).flatten)) :=
  Cert.ofAgree trivial hd fun base σ' a g hrel h ho' => by
    have hg := hrel.good
    have hid' : g.objs[id]? = some (.spare m') := Eq.trans ho' hid
    have ex := (h x (by simp [ho, Op.operands]) _ hx).v_inv.1
    have ey := (h y (by simp [ho, Op.operands]) _ hy).v_inv.1
    have hu := slice_desc hT ht hdesc
    obtain ⟨⟨i, z, h1, h2, h3, h4, h5, h6, h7, h8, h9⟩, _⟩ := hT e te he
    obtain ⟨m, rfl⟩ := Int.eq_ofNat_of_zero_le h0
    simp only [Int.toNat_natCast] at *
    have hb' : (i.bytes : Int) * (m : Int) ≤ 281474976710656 := by
      rw [h3, ← Int.natCast_mul]
      omega
    have hrun := run_make (P := P) g.w t e i z hu h1 h4 k k' m m (by omega) (Int.le_refl _) hb' (by omega)
    simp only [Int.toNat_natCast] at hrun
    have hlen : (List.replicate m te.zero).flatten.length = m * te.size := by simp [h6]
    have hget : ∀ (j : Nat) (c : AVal), (List.replicate m te.zero).flatten[j]? = some c → te.zero[j % te.size]? = some c := fun j c => h6 ▸ rep_get te.zero (by omega) m j c
    obtain ⟨hle, hgood⟩ := turn_new hg hid' (madeCells z.cells (m * i.size)) e (List.replicate m te.zero).flatten (by rw [hlen, size_madeCells, h2]; exact Nat.le_refl _) (fun g' j c u hj hu' => by
      have hj' := hget j c hj
      have hlt := lt_of_getElem? hj
      rw [hlen] at hlt
      have hlt' : j % te.size < z.cells.size := by rw [h5]; exact lt_of_getElem? hj'
      refine h8 _ _ _ _ hj' ?_
      simp only [madeCells, Array.getElem?_map, h2, Array.getElem?_range, if_pos hlt, Option.map_some, Option.some.injEq] at hu'
      subst hu'
      rw [h5, h6]
      simp [hlt']) (fun c hc => by
      rw [List.mem_flatten] at hc
      obtain ⟨l, hl, hc⟩ := hc
      rw [List.mem_replicate] at hl
      exact h9 c (hl.2 ▸ hc))
    refine ⟨.slice (some ⟨g.w.heap.size, 0, none⟩) m m, _, .inl ?_, hle, hgood, ?_, ?_⟩
    · simp [execOp, ho, ex, ey, hrun, G.turn]
    · simp [G.turn, Mode.post]
    exact .ms (l := ⟨g.w.heap.size, 0, (madeCells z.cells (m * i.size)).size⟩) (o := .cells (List.replicate m te.zero).flatten) (by simp only [G.turn]; rw [List.getElem?_set_self (env_lt hg hid')]) (by simp only [G.turn]; rw [List.getElem?_set_self (lt_of_getElem? hid')]) (by simp [AObj.isSpare]) (Nat.le_refl _) (Nat.le_refl _) h62
theorem awp_keep {P : Program} {kb : Nat} {c : Code} {Q : AEx → St → Prop} {n : Nat} {slots : List (Nat × AVal)} : ∀ (k : Nat) {O : List AObj}, AWP P kb c Q ⟨n, slots, O ++ List.replicate k (.spare 0)⟩ → AWP P kb c Q ⟨n, slots, O⟩
  | 0, O, h => by simpa using h
  | k + 1, O, h => by
    have h2 : AWP P kb c Q ⟨n, slots, O ++ [.spare 0]⟩ := awp_keep k (by simpa [List.replicate_succ] using h)
    exact h2.weaken fun base a g hb hr => by
      have hO : g.objs = O := hr.objs
      refine ⟨g.mark (.spare 0), rfl, ?_⟩
      have hle := Le.mark hr.good (.spare 0)
      refine { le := hr.le.trans hle, good := Good.mark hr.good _, objs := by simp [G.mark, hO], size := hr.size, defers := hr.defers, slot := fun s x hx => ?_ }
      obtain ⟨u, e1, e2⟩ := hr.slot s x hx
      exact ⟨u, e1, e2.mono hle⟩
def ChP (P : Program) (all : List Oper) (k : Nat) (σ : St) (ks : List Kind) (R : St → List Kind → Prop) : Prop :=
  ∃ (ρ : St) (ks' : List Kind), ks'.length + k = all.length ∧ Chain P all.toArray ((ks'.zipIdx k).map fun p => (p.2, p.1)) σ ρ ∧ R ρ (ks ++ ks')
theorem ChP.fin {P : Program} {all : List Oper} {k : Nat} {σ : St} {ks : List Kind} {R : St → List Kind → Prop} (hk : k = all.length) (h : R σ ks) : ChP P all k σ ks R :=
  ⟨σ, [], by simpa using hk, Same.refl σ, by simpa using h⟩
theorem ChP.op {P : Program} {all : List Oper} {k : Nat} {σ : St} {ks : List Kind} {R : St → List Kind → Prop} {o : Oper} {x : AVal} {m : Mode} (ho : all[k]? = some o) (hg : o.guard = none) (hc : Cert P o σ x m)
    (h : ChP P all (k + 1) ⟨σ.n, putO o.dst x σ.slots, m.post σ.objs⟩ (ks ++ [m.kind]) R) : ChP P all k σ ks R := by
  obtain ⟨ρ, ks', h1, h2, h3⟩ := h
  refine ⟨ρ, m.kind :: ks', by simp only [List.length_cons]; omega, ?_, by simpa using h3⟩
  rw [List.zipIdx_cons, List.map_cons]
  exact ⟨_, ⟨o, by simpa using ho, .inl ⟨by simp [wantedA, hg], x, m, hc, rfl, rfl⟩⟩, h2⟩
theorem chain_app {P : Program} {ops : Array Oper} : ∀ {l1 l2 : List (Nat × Kind)} {σ τ ρ : St}, Chain P ops l1 σ τ → Chain P ops l2 τ ρ → Chain P ops (l1 ++ l2) σ ρ
  | [], _, _, _, _, h1, h2 => h2.same h1.symm
  | _ :: _, _, _, _, _, ⟨σ', h, h1⟩, h2 => ⟨σ', h, chain_app h1 h2⟩
theorem chain_off {P : Program} {ops all : Array Oper} {k : Nat} (hk : ∀ i o, ops[i]? = some o → all[k + i]? = some o) (hg : ∀ o ∈ all.toList, o.guard = none) : ∀ {l : List (Nat × Kind)} {σ τ : St}, Chain P ops l σ τ → Chain P all (l.map fun p => (k + p.1, p.2)) σ τ
  | [], _, _, h => h
  | (i, q) :: r, _, _, h => by
    obtain ⟨σ', ⟨o, ho, h1⟩, h2⟩ := h
    refine ⟨σ', ⟨o, hk i o ho, ?_⟩, chain_off hk hg h2⟩
    have ho' := hk i o ho
    have hgo : o.guard = none := hg o (by
      rw [← Array.getElem?_toList] at ho'
      exact List.mem_of_getElem? ho')
    have w1 : ∀ (a : Array Oper) (σ : St), wantedA a o σ = some true := fun a σ => by simp [wantedA, hgo]
    rcases h1 with ⟨_, h1⟩ | ⟨h1, _⟩
    · exact .inl ⟨w1 _ _, h1⟩
    rw [w1] at h1
    cases h1
theorem ChP.seg {P : Program} {tab : Tab} (md : Md) (hT : TabOK P tab) {all l1 : List Oper} {k : Nat} {σ : St} {ks : List Kind} {R : St → List Kind → Prop} (n : Nat) (h1 : (all.drop k).take n = l1) (hn : l1.length = n) (hg : ∀ o ∈ all, o.guard = none)
    (h : vcOps P tab md l1 0 [] σ [] fun τ ks1 => ChP P all (k + n) τ (ks ++ ks1.reverse) R) : ChP P all k σ ks R := by
  obtain ⟨τ, ks1, c1, n1, ρ, ks2, h3, c2, hR⟩ := vcOps_sound (all := l1.toArray) hT l1 0 [] σ [] (fun j => by simp) (fun j t hj => by simp [slotAt] at hj) h
  have hl : k + n ≤ all.length := by
    have : l1.length ≤ all.length - k := by rw [← h1, List.length_take, List.length_drop]; omega
    by_cases hz : n = 0
    · omega
    omega
  have d1 := chain_off (all := all.toArray) (k := k) (fun i o hi => by
    have hi' : l1[i]? = some o := by simpa using hi
    rw [← h1, List.getElem?_take] at hi'
    split at hi'
    · rw [List.getElem?_drop] at hi'
      simpa using hi'
    cases hi') (by simpa using hg) c1
  refine ⟨ρ, ks1 ++ ks2, by rw [List.length_append]; omega, ?_, by simpa using hR⟩
  rw [List.zipIdx_append, List.map_append]
  have e1 : (ks1.zipIdx k).map (fun p => (p.2, p.1)) = ((ks1.zipIdx 0).map fun p => (p.2, p.1)).map fun p => (k + p.1, p.2) := by
    apply List.ext_getElem?
    intro i
    simp only [List.getElem?_map, List.getElem?_zipIdx]
    cases ks1[i]? <;> simp
  rw [e1]
  refine chain_app d1 ?_
  rw [show k + ks1.length = k + n by omega]
  exact c2
theorem awp_pieces {P : Program} {kb : Nat} (hm : P.follows .mixedOrders = true) {id : Nat} {l : List Oper} {draw : Bool} {Q : AEx → St → Prop} {σ : St}
    (h : ChP P l 0 σ [] fun τ ks => Draws draw (fun _ => OrderOK l.toArray ks) ∧ At τ (Q .norm)) : AWP P kb (.region id l.toArray draw) Q σ := by
  obtain ⟨τ, ks, h1, h2, h3, h4⟩ := h
  intro base a g hb hr
  have hch : Chain P l.toArray ((List.range l.toArray.size).map fun i => (i, ks.getD i .write)) σ τ := by
    have e : (ks.zipIdx 0).map (fun p => (p.2, p.1)) = (List.range l.toArray.size).map fun i => (i, ks.getD i .write) := by
      apply List.ext_getElem?
      intro i
      simp only [List.getElem?_map]
      have hlen : ks.length = l.toArray.size := by simpa using h1
      by_cases hi : i < l.toArray.size
      · have hi' : i < ks.length := by omega
        rw [List.getElem?_range hi]
        simp [hi']
      rw [List.getElem?_eq_none (by simp only [List.length_zipIdx]; omega), List.getElem?_eq_none (by simp only [List.length_range]; omega)]
      rfl
    rw [← e]
    exact h2
  cases draw with
  | false => exact wp_region_lex hch hr fun a g hr' => ⟨g, τ, rfl, hr', h4⟩
  | true =>
    have hB := h3 rfl
    simp only [List.nil_append] at hB
    exact wp_region_chain hm hB hch hr fun a g hr' => ⟨g, τ, rfl, hr', h4⟩
end Go.Av
namespace Go.Proofs.Ytlclgfgmhnmnaaa
open Go.Av
def dmO (f : Func) (O : List Int) (N : Nat) (r : List AVal) : List AObj := [.gone, .gone, .cells r, .cells (O.map aI), .cells ((plL f).map aI), .cells [.ms 3 0 N N, .ms 4 0 N N]]
theorem dmO_upto (f : Func) (O : List Int) (N : Nat) (r : List AVal) (hr : uptoL 6 r) : ∀ o ∈ dmO f O N r, o.upto 6 := by
 intro o ho
 simp only [dmO, List.mem_cons, List.not_mem_nil, or_false] at ho
 rcases ho with rfl | rfl | rfl | rfl | rfl | rfl
 ·trivial
 ·trivial
 ·exact hr
 ·exact aI_upto _ _
 ·exact aI_upto _ _
 exact ⟨show 3 < 6 by omega, show 4 < 6 by omega, trivial⟩
theorem zerosI_flat (n : Nat) : (List.replicate n [AVal.v (.int .i64 0)]).flatten = (List.replicate n 0).map aI := by
 induction n with
 | zero => rfl
 | succ n ih => rw [List.replicate_succ, List.flatten_cons, ih, List.replicate_succ]; rfl
theorem aI_put {l : List Int} {j : Nat} (h : j < l.length) (b : Int) : splice (l.map aI) j [.v (.int .i64 b)] = (l.set j b).map aI := by
 rw [splice_one _ (by simpa using h), List.map_set]
theorem fill_set {k n : Nat} {l : List Int} {x y : Int} (hl : l.length = k) (hk : k < n) : (l ++ List.replicate (n - k) x).set k y = (l ++ [y]) ++ List.replicate (n - (k + 1)) x := by
 rw [List.set_append_right _ _ (by omega), hl, Nat.sub_self, show n - k = (n - (k + 1)) + 1 by omega, List.replicate_succ, List.set_cons_zero, List.append_assoc]
 rfl
theorem dbuild_spec (f : Func) (hfit : f.fit) (hc : checkFuncM f = 0) :
  ECall Try.prog 40 [.gone] [f.enc] (fun r O' => r = .tup [.agg [.ms 3 0 f.blocks.length f.blocks.length, .ms 4 0 f.blocks.length f.blocks.length], aI 0] ∧ O' = dmO f (treeM f) f.blocks.length [.ms 3 0 f.blocks.length f.blocks.length, .ms 4 0 f.blocks.length f.blocks.length]) := by
 have hor := order_spec f hfit
 have hpr := preds_spec f hfit
 unfold orderR at hor
 unfold predsR at hpr
 rw [if_pos hc] at hor hpr
 have hg := (checkFunc_ok hfit hc).gr
 have hw := ord_w hg
 have hn : f.blocks.length ≤ 128 := hg.few
 obtain ⟨R, hR⟩ : ∃ R, R = treeM f := ⟨_, rfl⟩
 rw [← hR]
 unfold treeM at hR
 obtain ⟨N, hN⟩ : ∃ N, N = f.blocks.length := ⟨_, rfl⟩
 have hkk : [AObj.gone].length ≤ 6 := by simp
 have hpl := hw.pos
 have hpf := hw.few
 have hL0 : ((orderM f).length : Int) ≥ 1 := by omega
 rw [← hN]
 have hplen : (plL f).length = N := by simp [plL, hN]
 refine ecall_of hT true (6) Try.func40 rfl (by kernel_rfl) (by simp [Try.ntmps40]) (by assumption) ?_
 show AWP Try.prog _ _ _ ⟨116, _, _⟩
 dsimp only [Tmp, TypeId, slotsOf]
 refine zh1 (za0 ?_)
 refine awp_freeze1 1 1 (.ip none [aI f.name, eBlocks f.blocks]) rfl (by simp [AObj.isSpare]) trivial rfl ?_ ?_
 rotate_left
 simp -dsimp only [simprocAttr, ↓vpre, zp]
 ·refine zh1 ?_
  refine zi hor ?_
  refine za0 ?_
  refine zh2 (za0 ?_)
  apply zk0 rfl <;> intro h
  ·cases h
  refine zb0 ?_
  refine zh1 ?_
  refine zi hpr ?_
  refine za0 ?_
  refine awp_keep 3 ?_
  show AWP Try.prog _ _ _ ⟨_, _, [.gone, .gone, .cells [.lst 1 [] .ex, .lst 1 [] .ex], .spare 0, .spare 0, .spare 0]⟩
  refine awp_seq (awp_pieces hm (ChP.seg ⟨false, false⟩ hT 3 rfl rfl (by simp) ?_))
  simp -dsimp only [simprocAttr, ↓vpre, zp, ← hN]
  refine ChP.op rfl rfl (cert_makeSlice_at hT (id := 3) rfl (by simp) tab_45 rfl tab_3 rfl rfl (by omega) (by simp; omega) (by omega) (by decide) rfl) ?_
  simp -dsimp only [simprocAttr, ↓vpre, zp, zerosI_flat]
  refine ChP.seg ⟨false, false⟩ hT 3 rfl rfl (by simp) ?_
  simp -dsimp only [simprocAttr, ↓vpre, zp, ← hN]
  refine ChP.op rfl rfl (cert_makeSlice_at hT (id := 4) rfl (by simp) tab_45 rfl tab_3 rfl rfl (by omega) (by simp; omega) (by omega) (by decide) rfl) ?_
  simp -dsimp only [simprocAttr, ↓vpre, zp, zerosI_flat]
  refine ChP.seg ⟨false, false⟩ hT 1 rfl rfl (by simp) ?_
  simp -dsimp only [simprocAttr, ↓vpre, zp]
  refine ChP.op rfl rfl (cert_alloc_at hT (id := 5) rfl (by simp) tab_84 rfl) ?_
  simp -dsimp only [simprocAttr, ↓vpre, zp]
  refine ChP.seg ⟨false, false⟩ hT 1 rfl rfl (by simp) ?_
  simp -dsimp only [simprocAttr, ↓vpre, zp]
  refine ChP.fin rfl ⟨ob (by kernel_rfl), ?_⟩
  refine za0 ?_
  refine zh2 (za0 ?_)
  refine awp_block (awp_loop (ι := {k : Nat // k ≤ N}) (fun k => ⟨116, [(1, .ip none [aI f.name, eBlocks f.blocks]), (2, .mp 2 0), (4, eIs (orderM f)), (6, .lst 1 ((predsM f).map eIs) .sh), (8, .mp 5 0), (41, aI N), (42, aI k.1)], [.gone, .gone, .cells [.lst 1 [] .ex, .lst 1 [] .ex], .cells ((List.replicate k.1 (-1) ++ List.replicate (N - k.1) 0).map aI), .cells (((plL f).take k.1 ++ List.replicate (N - k.1) 0).map aI), .cells [.ms 3 0 N N, .ms 4 0 N N]]⟩) (fun k => N - k.1) ⟨0, by omega⟩ ?_ ?_)
  ·refine zq rfl ?_ ?_
   simp -dsimp only [simprocAttr, ↓vpre, zp, zc]
   all_goals rfl
  rintro ⟨k, hk⟩
  refine zh1 (za0 ?_)
  apply zk1 rfl <;> intro h
  ·refine zb0 ?_
   have hlt : k < N := by simpa using h
   have hix := index_spec (orderM f) (k : Int)
   have hs1 : splice ((List.replicate k (-1) ++ List.replicate (N - k) 0).map aI) k [.v (.int .i64 (-1))] = (List.replicate (k + 1) (-1) ++ List.replicate (N - (k + 1)) 0).map aI := by
    rw [aI_put (by simp; omega), fill_set (by simp) hlt, ← List.replicate_succ']
   have htl : ((plL f).take k).length = k := by rw [List.length_take]; omega
   have hpk := plL_at (f := f) (k := (k : Int)) (by omega) (by omega)
   rw [Int.toNat_natCast] at hpk
   have hs2 : splice (((plL f).take k ++ List.replicate (N - k) 0).map aI) k [.v (.int .i64 (idxI (orderM f) k))] = ((plL f).take (k + 1) ++ List.replicate (N - (k + 1)) 0).map aI := by
    rw [aI_put (by simp; omega), fill_set htl hlt, List.take_add_one, hpk]
    rfl
   refine awp_seq (awp_block ?_)
   refine zh1 (za0 ?_)
   refine zh0 ?_
   refine .inl ⟨_, hix, by simp only [uptoL, AVal.upto, zt, zu, aI_upto], later_intro ?_⟩
   simp -dsimp only [simprocAttr, ↓vpre, zp, hs1, hs2, Int.toNat_natCast, Nat.mul_one]
   refine ⟨by omega, by simp; omega, by omega, by simp; omega, ?_⟩
   refine ⟨ob (by kernel_rfl), ?_⟩
   refine za0 ?_
   refine zh0 ?_
   repeat (refine ⟨by omega, ?_⟩)
   refine zl0 ?_
   refine ⟨⟨k + 1, hlt⟩, by simp; omega, ?_⟩
   refine zq rfl ?_ ?_
   simp -dsimp only [simprocAttr, ↓vpre, zp, zc]
   ·exact Sub.int (by simp)
   rfl
  refine awp_exit ?_
  simp -dsimp only [vend, ne_eq, Nat.reduceEqDiff, reduceCtorEq]
  have hkk : k = N := by simp at h; omega
  subst hkk
  have e1 : List.replicate k (-1 : Int) ++ List.replicate (k - k) 0 = (dmS f).over := by simp [dmS, hN]
  have e2 : (plL f).take k ++ List.replicate (k - k) 0 = plL f := by
   rw [List.take_of_length_le (by omega), Nat.sub_self, List.replicate_zero, List.append_nil]
  rw [e1, e2]
  have hS0 := dmS_ok hw
  have hW0 := dmS_weight hn
  have hL1 : ((orderM f).map aI).drop 1 = ((orderM f).drop 1).map aI := by rw [List.map_drop]
  have hat : ∀ (j : Nat) z, ((orderM f).drop 1)[j]? = some z → plF f z = ((1 + j : Nat) : Int) := fun j z hj => by
   rw [List.getElem?_drop] at hj
   exact hw.at_ _ _ hj
  obtain ⟨L1, hL1e⟩ : ∃ L1, L1 = (orderM f).drop 1 := ⟨_, rfl⟩
  have hL1l : L1.length ≤ 128 := by rw [hL1e, List.length_drop]; omega
  rw [← hL1e] at hL1 hat
  refine zh2 (za0 ?_)
  refine awp_block (awp_loop (ι := {x : Dm × Nat // Dinv f 1 x.1.over ∧ R = (dmI f x.2 x.1).over ∧ (x.1.again = true → x.1.weight f < x.2)}) (fun x => ⟨116, [(1, .ip none [aI f.name, eBlocks f.blocks]), (2, .mp 2 0), (4, eIs (orderM f)), (6, .lst 1 ((predsM f).map eIs) .sh), (8, .mp 5 0), (10, .v (.bool x.1.1.again))], [.gone, .gone, .cells [.lst 1 [] .ex, .lst 1 [] .ex], .cells (x.1.1.over.map aI), .cells ((plL f).map aI), .cells [.ms 3 0 k k, .ms 4 0 k k]]⟩) (fun x => x.1.1.weight f + if x.1.1.again then 1 else 0) ⟨(dmS f, 30000), hS0, hR, fun _ => by simp only; omega⟩ ?_ ?_)
  ·refine zq rfl ?_ ?_
   simp -dsimp only [simprocAttr, ↓vpre, zp, zc]
   all_goals first | rfl | exact Sub.refl _
  rintro ⟨⟨S, q⟩, hSo, hRq, hwq⟩
  simp only at hSo hRq hwq
  refine zh2 (za0 ?_)
  apply zk0 rfl <;> intro h
  ·refine zb0 ?_
   have hag : S.again = true := h
   have hwq := hwq hag
   obtain ⟨q, rfl⟩ : ∃ q', q = q' + 1 := ⟨q - 1, by omega⟩
   have hRq' : R = (dmI f q (dmR f ⟨S.over, false⟩)).over := by
    rw [hRq]
    simp [dmI, hag]
   have hro := dmR_ok hg hw (S := ⟨S.over, false⟩) hSo
   obtain ⟨S1, hS1⟩ : ∃ S1, S1 = dmR f ⟨S.over, false⟩ := ⟨_, rfl⟩
   rw [← hS1] at hRq' hro
   obtain ⟨ro1, ro2, ro3, _⟩ := hro
   have hwS : (⟨S.over, false⟩ : Dm).weight f = S.weight f := rfl
   rw [hwS] at ro2 ro3
   unfold dmR at hS1
   rw [← hL1e] at hS1
   refine awp_block ?_
   refine zh1 (za0 ?_)
   refine zg1 ?_
   simp -dsimp only [simprocAttr, ↓vpre, zp, hL1]
   repeat (refine ⟨by omega, ?_⟩)
   refine za0 ?_
   refine awp_block (awp_loop (ι := {y : Nat × Dm // y.1 ≤ L1.length ∧ Dinv f (1 + y.1 : Nat) y.2.over ∧ S1 = (L1.drop y.1).foldl (dmStep f) y.2}) (fun y => ⟨116, [(1, .ip none [aI f.name, eBlocks f.blocks]), (2, .mp 2 0), (4, eIs (orderM f)), (6, .lst 1 ((predsM f).map eIs) .sh), (8, .mp 5 0), (10, .v (.bool y.1.2.again)), (59, eIs L1), (60, aI L1.length), (61, aI y.1.1)], [.gone, .gone, .cells [.lst 1 [] .ex, .lst 1 [] .ex], .cells (y.1.2.over.map aI), .cells ((plL f).map aI), .cells [.ms 3 0 k k, .ms 4 0 k k]]⟩) (fun y => L1.length - y.1.1) ⟨(0, ⟨S.over, false⟩), by simp, hSo, hS1⟩ ?_ ?_)
   ·refine zq rfl ?_ ?_
    simp -dsimp only [simprocAttr, ↓vpre, zp, zc]
    all_goals rfl
   rintro ⟨⟨y, T⟩, hy, hTo, hTe⟩
   simp only at hy hTo hTe
   refine zh1 (za0 ?_)
   apply zk1 rfl <;> intro h
   ·refine zb0 ?_
    have hlt : y < L1.length := by simpa using h
    obtain ⟨z, hz⟩ : ∃ z, L1[y]? = some z := ⟨L1[y], by simp [hlt]⟩
    have hpz := hat y z hz
    have hzr := hw.range z (by omega)
    have hst := dmStep_ok hg hw hTo hpz (by omega)
    rw [drop_at hz, List.foldl_cons] at hTe
    have hTl := hTo.tr.len
    obtain ⟨ps, hps⟩ : ∃ ps, (predsM f)[z.toNat]? = some ps := ⟨(predsM f)[z.toNat]'(by rw [preds_len]; omega), List.getElem?_eq_getElem _⟩
    have hpa : predsAt f z = ps := by simp [predsAt, hps]
    have hpr2 : ∀ p ∈ ps, 0 ≤ p ∧ p < f.blocks.length := fun p hp => (preds_edg hg hzr.1 (by rw [hpa]; exact hp)).1
    obtain ⟨o, ho⟩ : ∃ o, T.over[z.toNat]? = some o := ⟨T.over[z.toNat]'(by omega), List.getElem?_eq_getElem _⟩
    have hoz : atI T.over z = o := by simp [atI, ho]
    obtain ⟨NX, hNX⟩ : ∃ NX, NX = nextM (plL f) T.over ps := ⟨_, rfl⟩
    have hstep : dmStep f T z = if NX ≠ o then ⟨T.over.set z.toNat NX, true⟩ else T := by
     unfold dmStep
     rw [hpa, hoz, ← hNX]
    unfold nextM at hNX
    refine awp_seq (awp_block ?_)
    refine zg1 ?_
    simp -dsimp only [simprocAttr, ↓vpre, zp, hz]
    refine za0 ?_
    refine zh1 (za0 ?_)
    refine zg2 ?_
    simp -dsimp only [simprocAttr, ↓vpre, zp, hps]
    repeat (refine ⟨by omega, ?_⟩)
    refine za0 ?_
    refine awp_len 68 rfl (fun hpl2 => ?_)
    simp only [List.length_map] at hpl2
    refine awp_block (awp_loop (ι := {w : Nat × Int // w.1 ≤ ps.length ∧ (w.2 = -1 ∨ Asg T.over w.2) ∧ NX = (ps.drop w.1).foldl (predStep (plL f) T.over) w.2}) (fun w => ⟨116, [(1, .ip none [aI f.name, eBlocks f.blocks]), (2, .mp 2 0), (4, eIs (orderM f)), (6, .lst 1 ((predsM f).map eIs) .sh), (8, .mp 5 0), (10, .v (.bool T.again)), (59, eIs L1), (60, aI L1.length), (61, aI y), (12, aI z), (13, aI w.1.2), (68, eIs ps), (69, aI ps.length), (70, aI w.1.1)], [.gone, .gone, .cells [.lst 1 [] .ex, .lst 1 [] .ex], .cells (T.over.map aI), .cells ((plL f).map aI), .cells [.ms 3 0 k k, .ms 4 0 k k]]⟩) (fun w => ps.length - w.1.1) ⟨(0, -1), by simp, .inl rfl, hNX⟩ ?_ ?_)
    ·refine zq rfl ?_ ?_
     simp -dsimp only [simprocAttr, ↓vpre, zp, zc]
     all_goals rfl
    rintro ⟨⟨w, acc⟩, hw1, hacc, hwe⟩
    simp only at hw1 hacc hwe
    refine zh1 (za0 ?_)
    apply zk1 rfl <;> intro h
    ·refine zb0 ?_
     have hlw : w < ps.length := by simpa using h
     obtain ⟨p, hp⟩ : ∃ p, ps[w]? = some p := ⟨ps[w], by simp [hlw]⟩
     have hpr3 := hpr2 p (List.mem_of_getElem? hp)
     have hep := plL_at hpr3.1 hpr3.2
     have hepx := aI_at hep
     obtain ⟨x, hx⟩ : ∃ x, T.over[p.toNat]? = some x := ⟨T.over[p.toNat]'(by omega), List.getElem?_eq_getElem _⟩
     have hxp : atI T.over p = x := by simp [atI, hx]
     have hxx := aI_at hx
     rw [drop_at hp, List.foldl_cons] at hwe
     obtain ⟨nx, hnx⟩ : ∃ nx, nx = predStep (plL f) T.over acc p := ⟨_, rfl⟩
     have hnacc : nx = -1 ∨ Asg T.over nx := by
      rcases fold_ok hw hTo.tr [p] acc (by simpa using hpr3) hacc with ⟨a, _⟩ | ⟨a, _⟩
      ·exact .inl (hnx.trans a)
      exact .inr (hnx ▸ a)
     rw [← hnx] at hwe
     have hpas := pred_asg hw hTo.tr hpr3
     have hepl : atI (plL f) p = plF f p := by simp [atI, hep]
     rw [hepl, hxp] at hpas
     have hpd : predStep (plL f) T.over acc p = if plF f p < 0 ∨ (p ≠ 0 ∧ x < 0) then acc else if acc < 0 then p else meetM (plL f) T.over 300 acc p := by
      unfold predStep
      rw [hepl, hxp]
     refine awp_mid (⟨116, [(1, .ip none [aI f.name, eBlocks f.blocks]), (2, .mp 2 0), (4, eIs (orderM f)), (6, .lst 1 ((predsM f).map eIs) .sh), (8, .mp 5 0), (10, .v (.bool T.again)), (59, eIs L1), (60, aI L1.length), (61, aI y), (12, aI z), (13, aI nx), (68, eIs ps), (69, aI ps.length), (70, aI w)], [.gone, .gone, .cells [.lst 1 [] .ex, .lst 1 [] .ex], .cells (T.over.map aI), .cells ((plL f).map aI), .cells [.ms 3 0 k k, .ms 4 0 k k]]⟩) ?_ ?_
     ·refine awp_block ?_
      refine zg1 ?_
      simp -dsimp only [simprocAttr, ↓vpre, zp, hp]
      refine za0 ?_
      refine awp_block ?_
      by_cases hA : Asg T.over p
      ·have hnc := fun q => hpas.1 q hA
       have hB1 : decide (plF f p < 0) = false := decide_eq_false fun q => hnc (.inl q)
       rw [if_neg hnc] at hpd
       have hcase : p = 0 ∨ (p ≠ 0 ∧ ¬ x < 0) := by
        by_cases e : p = 0
        ·exact .inl e
        exact .inr ⟨e, fun q => hnc (.inr ⟨e, q⟩)⟩
       rcases hacc with hac | hac
       ·have hda : decide (acc < 0) = true := decide_eq_true (by omega)
        rw [if_pos (by omega)] at hpd
        rw [hpd] at hnx
        rcases hcase with hp0 | ⟨hp0, hx0⟩
        ·have hd1 : decide (p = 0) = true := decide_eq_true hp0
         refine zg1 ?_
         simp -dsimp only [simprocAttr, ↓vpre, zp, hepx, hB1, hd1, Int.toNat_natCast, Nat.mul_one]
         repeat (refine ⟨by omega, ?_⟩)
         refine za0 ?_
         refine zu0 rfl ?_
         refine zg1 ?_
         simp -dsimp only [simprocAttr, ↓vpre, zp, hda]
         refine za0 ?_
         refine zw0 rfl ?_
         refine awp_region hT hm ?_
         simp -dsimp only [simprocAttr, ↓vpre, zp]
         refine at_intro ?_
         show Covers _ _
         refine zq rfl ?_ ?_
         simp -dsimp only [simprocAttr, ↓vpre, zp, zc]
         all_goals first | rfl | exact Sub.int (by omega)
        have hd1 : decide (p = 0) = false := decide_eq_false hp0
        have hd2 : decide (x < 0) = false := decide_eq_false hx0
        refine zg1 ?_
        simp -dsimp only [simprocAttr, ↓vpre, zp, hepx, hB1, hd1, hd2, hxx, Int.toNat_natCast, Nat.mul_one]
        repeat (refine ⟨by omega, ?_⟩)
        refine za0 ?_
        refine zu0 rfl ?_
        refine zg1 ?_
        simp -dsimp only [simprocAttr, ↓vpre, zp, hda]
        refine za0 ?_
        refine zw0 rfl ?_
        refine awp_region hT hm ?_
        simp -dsimp only [simprocAttr, ↓vpre, zp]
        refine at_intro ?_
        show Covers _ _
        refine zq rfl ?_ ?_
        simp -dsimp only [simprocAttr, ↓vpre, zp, zc]
        all_goals first | rfl | exact Sub.int (by omega)
       have hacn := hac.nn hw hTo.tr
       have hda : decide (acc < 0) = false := decide_eq_false (by omega)
       rw [if_neg (by omega)] at hpd
       rw [hpd] at hnx
       have hmeet := meet_spec (O := [.gone, .gone, .cells [.lst 1 [] .ex, .lst 1 [] .ex], .cells (T.over.map aI), .cells ((plL f).map aI), .cells [.ms 3 0 k k, .ms 4 0 k k]]) (by
        have := dmO_upto f T.over k [.lst 1 [] .ex, .lst 1 [] .ex] (by simp [uptoL, AVal.upto])
        exact this) (A := 3) (B := 4) (N := k) hw rfl rfl hN hTo.tr hac hA
       rw [← hnx] at hmeet
       rcases hcase with hp0 | ⟨hp0, hx0⟩
       ·have hd1 : decide (p = 0) = true := decide_eq_true hp0
        refine zg1 ?_
        simp -dsimp only [simprocAttr, ↓vpre, zp, hepx, hB1, hd1, Int.toNat_natCast, Nat.mul_one]
        repeat (refine ⟨by omega, ?_⟩)
        refine za0 ?_
        refine zu0 rfl ?_
        refine zg1 ?_
        simp -dsimp only [simprocAttr, ↓vpre, zp, hda]
        refine za0 ?_
        refine zu0 rfl ?_
        refine awp_region hT hm ?_
        simp -dsimp only [simprocAttr, ↓vpre, zp]
        refine .inr (.inr ⟨_, hmeet, later_intro (zj ?_)⟩)
        refine at_intro ?_
        show Covers _ _
        refine zq rfl ?_ ?_
        simp -dsimp only [simprocAttr, ↓vpre, zp, zc]
        all_goals rfl
       have hd1 : decide (p = 0) = false := decide_eq_false hp0
       have hd2 : decide (x < 0) = false := decide_eq_false hx0
       refine zg1 ?_
       simp -dsimp only [simprocAttr, ↓vpre, zp, hepx, hB1, hd1, hd2, hxx, Int.toNat_natCast, Nat.mul_one]
       repeat (refine ⟨by omega, ?_⟩)
       refine za0 ?_
       refine zu0 rfl ?_
       refine zg1 ?_
       simp -dsimp only [simprocAttr, ↓vpre, zp, hda]
       refine za0 ?_
       refine zu0 rfl ?_
       refine awp_region hT hm ?_
       simp -dsimp only [simprocAttr, ↓vpre, zp]
       refine .inr (.inr ⟨_, hmeet, later_intro (zj ?_)⟩)
       refine at_intro ?_
       show Covers _ _
       refine zq rfl ?_ ?_
       simp -dsimp only [simprocAttr, ↓vpre, zp, zc]
       all_goals rfl
      have hnc := hpas.2 hA
      rw [if_pos hnc] at hpd
      rw [hpd] at hnx
      subst hnx
      by_cases hpl0 : plF f p < 0
      ·have hB1 : decide (plF f p < 0) = true := decide_eq_true hpl0
       refine zg1 ?_
       simp -dsimp only [simprocAttr, ↓vpre, zp, hepx, hB1, Int.toNat_natCast, Nat.mul_one]
       repeat (refine ⟨by omega, ?_⟩)
       refine za0 ?_
       refine zw0 rfl ?_
       refine awp_skip ?_
       show Covers _ _
       refine zq rfl ?_ ?_
       simp -dsimp only [simprocAttr, ↓vpre, zp, zc]
       all_goals rfl
      have hB1 : decide (plF f p < 0) = false := decide_eq_false hpl0
      have hd1 : decide (p = 0) = false := decide_eq_false fun e => hA (.inl e)
      have hd2 : decide (x < 0) = true := decide_eq_true (by omega)
      refine zg1 ?_
      simp -dsimp only [simprocAttr, ↓vpre, zp, hepx, hB1, hd1, hd2, hxx, Int.toNat_natCast, Nat.mul_one]
      repeat (refine ⟨by omega, ?_⟩)
      refine za0 ?_
      refine zw0 rfl ?_
      refine awp_skip ?_
      show Covers _ _
      refine zq rfl ?_ ?_
      simp -dsimp only [simprocAttr, ↓vpre, zp, zc]
      all_goals rfl
     refine zh0 ?_
     repeat (refine ⟨by omega, ?_⟩)
     refine zl0 ?_
     refine ⟨⟨(w + 1, nx), hlw, hnacc, hwe⟩, by simp; omega, ?_⟩
     refine zq rfl ?_ ?_
     simp -dsimp only [simprocAttr, ↓vpre, zp, zc]
     all_goals first | rfl | exact Sub.refl _
    refine awp_exit ?_
    simp -dsimp only [vend, ne_eq, Nat.reduceEqDiff, reduceCtorEq]
    have hww : w = ps.length := by simp at h; omega
    subst hww
    rw [List.drop_length, List.foldl_nil] at hwe
    subst hwe
    have hox := aI_at ho
    have hput := aI_put (l := T.over) (j := z.toNat) (by omega) NX
    by_cases hne : NX = o
    ·have hdn : decide (NX = o) = true := decide_eq_true hne
     rw [if_neg (by simp [hne])] at hstep
     rw [hstep] at hst hTe
     refine zg1 ?_
     simp -dsimp only [simprocAttr, ↓vpre, zp, hox, hdn, Nat.mul_one]
     repeat (refine ⟨by omega, ?_⟩)
     refine za0 ?_
     refine zu0 rfl ?_
     refine zb1 ?_
     refine zh0 ?_
     repeat (refine ⟨by omega, ?_⟩)
     refine zl0 ?_
     refine ⟨⟨(y + 1, T), hlt, by rw [show ((1 + (y + 1) : Nat) : Int) = ((1 + y : Nat) : Int) + 1 by omega]; exact hst.1, hTe⟩, by simp; omega, ?_⟩
     refine zq rfl ?_ ?_
     simp -dsimp only [simprocAttr, ↓vpre, zp, zc]
     all_goals first | rfl | exact Sub.refl _
    have hdn : decide (NX = o) = false := decide_eq_false hne
    rw [if_pos hne] at hstep
    rw [hstep] at hst hTe
    refine zg1 ?_
    simp -dsimp only [simprocAttr, ↓vpre, zp, hox, hdn, Nat.mul_one]
    repeat (refine ⟨by omega, ?_⟩)
    refine za0 ?_
    refine zw0 rfl ?_
    refine zg0 ?_
    simp -dsimp only [simprocAttr, ↓vpre, zp, hput, Nat.mul_one]
    repeat (refine ⟨by omega, ?_⟩)
    refine za0 ?_
    refine zh0 ?_
    repeat (refine ⟨by omega, ?_⟩)
    refine zl0 ?_
    refine ⟨⟨(y + 1, ⟨T.over.set z.toNat NX, true⟩), hlt, by rw [show ((1 + (y + 1) : Nat) : Int) = ((1 + y : Nat) : Int) + 1 by omega]; exact hst.1, hTe⟩, by simp; omega, ?_⟩
    refine zq rfl ?_ ?_
    simp -dsimp only [simprocAttr, ↓vpre, zp, zc]
    all_goals first | rfl | exact Sub.refl _
   refine awp_exit ?_
   simp -dsimp only [vend, ne_eq, Nat.reduceEqDiff, reduceCtorEq]
   have hyy : y = L1.length := by simp at h; omega
   subst hyy
   rw [List.drop_length, List.foldl_nil] at hTe
   subst hTe
   have hlt2 : S1.again = true → S1.weight f < q := fun hh => by
    rcases ro3 hh with r | r
    ·cases r
    omega
   refine ⟨⟨(S1, q), dinv_again hw ro1, hRq', hlt2⟩, ?_, ?_⟩
   ·simp only [hag, if_true]
    cases hs1 : S1.again
    ·simp; omega
    rcases ro3 hs1 with r | r
    ·cases r
    simp; omega
   refine zq rfl ?_ ?_
   simp -dsimp only [simprocAttr, ↓vpre, zp, zc]
   all_goals rfl
  refine awp_exit ?_
  simp -dsimp only [vend, ne_eq, Nat.reduceEqDiff, reduceCtorEq]
  have hag : S.again = false := h
  rw [dmI_done hag] at hRq
  subst hRq
  refine zh1 ?_
  repeat (refine ⟨by omega, ?_⟩)
  refine za0 ?_
  refine awp_ret ?_
  simp -dsimp only [simprocAttr, ↓vpre, zp, zr, Try.results40]
  exact ⟨dmO_upto f S.over k [.ms 3 0 k k, .ms 4 0 k k] ⟨show 3 < 6 by omega, show 4 < 6 by omega, trivial⟩, ⟨⟨show 3 < 6 by omega, show 4 < 6 by omega, trivial⟩, trivial, trivial⟩, rfl⟩
 exact FSub.mp rfl rfl
theorem sm_w {f : Func} (hfit : f.fit) (hc : checkFuncM f = 0) : SmW f := by
 have hw := checkFunc_ok hfit hc
 have hg := hw.gr
 have hpar : ∀ b ∈ f.blocks, b.params.length ≤ 4096 := fun b hb => by
  have := (hw.blk b hb).few
  omega
 exact {
  few := hw.few
  params := hpar
  ins := hw.ins
  iargs := fun b hb i hi => (form_ok ((hw.blk b hb).forms i hi)).len
  cases := fun b hb => (end_ok (hw.blk b hb).fin).cases
  to := fun b hb => hg.to b hb
  eargs := fun b hb e he => by
   have h1 := (end_ok (hw.blk b hb).fin).edges e he
   rw [h1.2]
   have hr := hg.edges b hb e he
   have hx : f.blocks[e.block.toNat]? = some (f.blocks[e.block.toNat]'(by omega)) := List.getElem?_eq_getElem _
   have : blkOf f e.block = f.blocks[e.block.toNat]'(by omega) := by simp [blkOf, hx]
   rw [this]
   exact hpar _ (List.getElem_mem _) }
def splitR (f : Func) : AVal := if checkFuncM f = 0 then (if 128 < f.blocks.length + (spM f).news.length then .tup [.agg [aI 0, .lst 7 [] .sh], aI 2] else .tup [(splitM f).enc, aI 0]) else .tup [.agg [aI 0, .lst 7 [] .sh], aI (checkFuncM f)]
structure Sx where
 k : Nat
 S : Sp
 bid : Nat
 O : List AObj
theorem spStep_news (f : Func) (k n : Nat) (S : Sp) : (spStep f k n S).news.length ≤ S.news.length + 1 := by
 unfold spStep
 split
 ·omega
 split
 ·simp
 omega
theorem eIss_up (n : Nat) (l : List (List Int)) : uptoL n (l.map eIs) := by
 rw [uptoL_iff]
 intro c hc
 obtain ⟨x, _, rfl⟩ := List.mem_map.1 hc
 exact ⟨aI_upto _ _, trivial⟩
theorem split_spec (f : Func) (hfit : f.fit) : PCall Try.prog 15 [f.enc] (splitR f) := by
 have hpr := preds_spec f hfit
 unfold predsR at hpr
 unfold splitR
 by_cases hc : checkFuncM f = 0
 ·rw [if_pos hc] at hpr ⊢
  have hg := (checkFunc_ok hfit hc).gr
  have hsm := sm_w hfit hc
  have hn : f.blocks.length ≤ 128 := hg.few
  have hcp := copy_spec f hsm hg.ne
  have hprl := preds_len f
  obtain ⟨R, hR0⟩ : ∃ R, R = spM f := ⟨_, rfl⟩
  have hsp : splitM f = ⟨f.name, List.zipWith setTo f.blocks R.tos ++ R.news⟩ := by rw [hR0]; rfl
  rw [hsp, ← hR0]
  unfold spM at hR0
  refine zf true 0 Try.func15 Try.ntmps15 ?_
  dsimp only [Tmp, TypeId, slotsOf]
  refine zh1 (za0 ?_)
  refine awp_freeze1 1 0 (.ip none [aI f.name, eBlocks f.blocks]) rfl (by simp [AObj.isSpare]) trivial rfl ?_ ?_
  rotate_left
  simp -dsimp only [simprocAttr, ↓vpre, zp]
  ·refine zh1 ?_
   refine zi hpr ?_
   refine za0 ?_
   refine zh2 (za0 ?_)
   apply zk0 rfl <;> intro h
   ·cases h
   refine zb0 ?_
   refine awp_seq (awp_call_ex ⟨false, false⟩ hT 1 rfl rfl rfl (by simp) ?_)
   simp -dsimp only [simprocAttr, ↓vpre, zp]
   refine ⟨CpR f, cert_ecallE rfl (by simp) rfl rfl hcp, fun r O' hR => ?_⟩
   obtain ⟨ids, bid, hr, hup, hg0, hg1, ⟨hb5, hbO⟩, hco, hne⟩ := hR
   subst hr
   simp -dsimp only [simprocAttr, ↓vpre, zp]
   refine za0 ?_
   have hS0 := SpO.start hup hg1 ⟨hb5, hbO⟩ hco hne
   generalize O' ++ [AObj.cells [aI f.name, .os bid f.blocks.length 7]] = O0 at *
   generalize O'.length = X0 at *
   refine zh2 (za0 ?_)
   refine awp_block (awp_loop (ι := {X : Sx // X.k ≤ f.blocks.length ∧ SpO f ids X0 X.S X.bid X.O ∧ R = spK f (f.blocks.length - X.k) X.k X.S ∧ X.S.news.length ≤ X.k * 257 ∧ ∀ (j : Nat) b, X.k ≤ j → f.blocks[j]? = some b → X.S.tos[j]? = some b.term.to}) (fun X => ⟨78, [(1, .ip none [aI f.name, eBlocks f.blocks]), (2, .mp 1 0), (4, .lst 1 ((predsM f).map eIs) .sh), (6, .mp X0 0), (23, eBlocks f.blocks), (24, aI f.blocks.length), (25, aI X.1.k)], X.1.O⟩) (fun X => f.blocks.length - X.1.k) ⟨⟨0, spS f, bid, O0⟩, by simp, hS0, by simpa using hR0, by simp [spS], fun j b _ h => by simp [spS, h]⟩ ?_ ?_)
   ·refine zq rfl ?_ ?_
    simp -dsimp only [simprocAttr, ↓vpre, zp, zc]
    all_goals rfl
   rintro ⟨⟨k, S, bid, O⟩, hk, hS, hke, hnw, hrest⟩
   simp only at hk hS hke hnw hrest
   refine zh1 (za0 ?_)
   apply zk1 rfl <;> intro h
   ·refine zb0 ?_
    have hlt : k < f.blocks.length := by simpa using h
    obtain ⟨b, hb⟩ : ∃ b, f.blocks[k]? = some b := ⟨_, List.getElem?_eq_getElem hlt⟩
    obtain ⟨id, hid⟩ : ∃ id, ids[k]? = some id := ⟨ids[k]'(by rw [hS.li]; omega), List.getElem?_eq_getElem _⟩
    have hbo : blkOf f (k : Int) = b := by simp [blkOf, hb]
    have hto : toOf f (k : Int) = b.term.to := by unfold toOf; rw [hbo]
    have hbt := hg.to b (List.mem_of_getElem? hb)
    have hbe := hg.edges b (List.mem_of_getElem? hb)
    rw [show f.blocks.length - k = (f.blocks.length - (k + 1)) + 1 by omega] at hke
    simp only [spK] at hke
    rw [hto] at hke
    obtain ⟨S1, hS1⟩ : ∃ S1, S1 = spE f k b.term.to.length 0 S := ⟨_, rfl⟩
    rw [← hS1] at hke
    have hout := hS.out
    have hbl := hS.bl.2
    have hcell := blsC_to (T := cellsAll (S.news.map Block.enc)) hid hb
    have hcl : (blsC ids f.blocks ++ cellsAll (S.news.map Block.enc)).length = (f.blocks.length + S.news.length) * 7 := by
     rw [List.length_append, blsC_len hS.li, blocks_len]
     omega
    refine awp_seq (awp_block ?_)
    refine zh1 (za0 ?_)
    by_cases ht0 : b.term.to = []
    ·have hoe : outE id b.term.to = .lst 2 [] .sh := if_pos ht0
     rw [hoe] at hcell
     refine zg1 ?_
     simp -dsimp only [simprocAttr, ↓vpre, zp, hout, hbl, hcell, hcl, Int.toNat_natCast]
     repeat (refine ⟨by omega, ?_⟩)
     refine za0 ?_
     refine zh1 (za0 ?_)
     refine awp_block (awp_loop (ι := Unit) (fun _ => ⟨78, [(1, .ip none [aI f.name, eBlocks f.blocks]), (2, .mp 1 0), (4, .lst 1 ((predsM f).map eIs) .sh), (6, .mp X0 0), (23, eBlocks f.blocks), (24, aI f.blocks.length), (25, aI k), (36, aI 0), (37, aI 0)], O⟩) (fun _ => 0) () ?_ ?_)
     ·refine zq rfl ?_ ?_
      simp -dsimp only [simprocAttr, ↓vpre, zp, zc]
      all_goals rfl
     rintro ⟨⟩
     refine zh1 (za0 ?_)
     refine zu1 rfl ?_
     refine awp_exit ?_
     simp -dsimp only [vend, ne_eq, Nat.reduceEqDiff, reduceCtorEq]
     have hS1e : S1 = S := by
      rw [hS1, ht0]
      rfl
     rw [hS1e] at hke
     refine zh0 ?_
     repeat (refine ⟨by omega, ?_⟩)
     refine zl0 ?_
     refine ⟨⟨⟨k + 1, S, bid, O⟩, hlt, hS, hke, by simp only; omega, fun j b hj => hrest j b (by simp only at hj; omega)⟩, by simp; omega, ?_⟩
     refine zq rfl ?_ ?_
     simp -dsimp only [simprocAttr, ↓vpre, zp, zc]
     ·exact Sub.int (by simp)
     rfl
    have hoe : outE id b.term.to = .os id b.term.to.length 2 := if_neg ht0
    rw [hoe] at hcell
    refine zg1 ?_
    simp -dsimp only [simprocAttr, ↓vpre, zp, hout, hbl, hcell, hcl, Int.toNat_natCast]
    repeat (refine ⟨by omega, ?_⟩)
    refine za0 ?_
    refine zh1 (za0 ?_)
    refine awp_block (awp_loop (ι := {X : Sx // X.k ≤ b.term.to.length ∧ SpO f ids X0 X.S X.bid X.O ∧ S1 = spE f k (b.term.to.length - X.k) X.k X.S ∧ X.S.news.length ≤ k * 257 + X.k ∧ (∀ (j : Nat) c, k + 1 ≤ j → f.blocks[j]? = some c → X.S.tos[j]? = some c.term.to) ∧ ∃ l, X.S.tos[k]? = some l ∧ l.length = b.term.to.length ∧ l.drop X.k = b.term.to.drop X.k}) (fun X => ⟨78, [(1, .ip none [aI f.name, eBlocks f.blocks]), (2, .mp 1 0), (4, .lst 1 ((predsM f).map eIs) .sh), (6, .mp X0 0), (23, eBlocks f.blocks), (24, aI f.blocks.length), (25, aI k), (8, .os id b.term.to.length 2), (35, .os id b.term.to.length 2), (36, aI b.term.to.length), (37, aI X.1.k)], X.1.O⟩) (fun X => b.term.to.length - X.1.k) ⟨⟨0, S, bid, O⟩, by simp, hS, by simpa using hS1, by simpa using hnw, fun j c hj => hrest j c (by omega), b.term.to, hrest k b (Nat.le_refl _) hb, rfl, rfl⟩ ?_ ?_)
    ·refine zq rfl ?_ ?_
     simp -dsimp only [simprocAttr, ↓vpre, zp, zc]
     all_goals rfl
    rintro ⟨⟨n, S, bid, O⟩, hz, hS, hze, hnw, hrest, l, hl, hll, hld⟩
    simp only at hz hS hze hnw hrest hl hld
    refine zh1 (za0 ?_)
    apply zk1 rfl <;> intro h
    ·refine zb0 ?_
     have hlz : n < b.term.to.length := by simpa using h
     obtain ⟨x, hx⟩ : ∃ x, b.term.to[n]? = some x := ⟨b.term.to[n], by simp [hlz]⟩
     have hlx : l[n]? = some x := by
      have h1 : (l.drop n)[0]? = (b.term.to.drop n)[0]? := by rw [hld]
      rw [List.getElem?_drop, List.getElem?_drop, Nat.add_zero, hx] at h1
      exact h1
     have hxe := hbe x (List.mem_of_getElem? hx)
     obtain ⟨o1, o2, o3, o4⟩ := hS.own k id b l hid hb hl ht0
     have h2 := edC_two hlx
     have hel := edC_len l
     have hil := lt_of_getElem? o4
     have hXl := lt_of_getElem? hS.out
     have hBl := lt_of_getElem? hS.bl.2
     have h1l := lt_of_getElem? hS.r1
     rw [show b.term.to.length - n = (b.term.to.length - (n + 1)) + 1 by omega] at hze
     simp only [spE] at hze
     obtain ⟨p, hp⟩ : ∃ p, p = predsAt f x.block := ⟨_, rfl⟩
     have hpp : (predsM f)[x.block.toNat]? = some p := by
      rw [hp]
      unfold predsAt
      rw [List.getElem?_eq_getElem (by rw [hprl]; omega)]
      rfl
     have hst : spStep f k n S = if critB f k x then ⟨S.tos.set k (l.set n ⟨((f.blocks.length + S.news.length : Nat) : Int), []⟩), S.news ++ [jumpB x]⟩ else S := by
      unfold spStep
      rw [hto, hx, hl]
      rfl
     have hcr : critB f k x = (decide (2 ≤ b.term.to.length) && decide (2 ≤ p.length)) := by
      unfold critB
      rw [hbo, hp]
     rw [hst] at hze
     have hnn := spStep_news f k n S
     refine awp_seq (awp_block ?_)
     refine zg1 ?_
     simp -dsimp only [simprocAttr, ↓vpre, zp, o4, h2, hel]
     repeat (refine ⟨by omega, ?_⟩)
     refine za0 ?_
     refine awp_local 10 ([aI x.block, eIs x.args]) [(1, .ip none [aI f.name, eBlocks f.blocks]), (2, .mp 1 0), (4, .lst 1 ((predsM f).map eIs) .sh), (6, .mp X0 0), (23, eBlocks f.blocks), (24, aI f.blocks.length), (25, aI k), (8, .os id b.term.to.length 2), (35, .os id b.term.to.length 2), (36, aI b.term.to.length), (37, aI n), (9, aI n), (10, .ip none [aI x.block, eIs x.args])] (by simp [putS, dropS, Go.Av.look]) (by rfl) (by omega) (by simp [putS, dropS, Go.Av.look]) ?_ ?_ ?_
     ·exact hS.up
     ·simp [AVal.upto, uptoL, aI_upto, Edge.map_upto, Ins.map_upto, Block.map_upto, eIss_up, hXl, hBl, h1l, hil]
     by_cases c1 : 2 ≤ b.term.to.length
     ·have g1 : decide ((b.term.to.length : Int) < 2) = false := decide_eq_false (by omega)
      by_cases c2 : 2 ≤ p.length
      ·have g2 : decide ((p.length : Int) < 2) = false := decide_eq_false (by omega)
       rw [if_pos (by rw [hcr, decide_eq_true c1, decide_eq_true c2]; rfl)] at hze
       refine zg2 ?_
       simp -dsimp only [simprocAttr, ↓vpre, zp, g1, hpp, g2]
       repeat (refine ⟨by omega, ?_⟩)
       refine za0 ?_
       apply zk0 rfl <;> intro h
       ·cases h
       refine zb0 ?_
       have hout := hS.out
       refine zg1 ?_
       simp -dsimp only [simprocAttr, ↓vpre, zp, hout, o4, hel, Int.toNat_natCast]
       repeat (refine ⟨by omega, ?_⟩)
       refine za0 ?_
       have hsub := fun (j : Nat) c d => sub_splice (O := O.set id (.cells (splice (edC l) (n * 2) [aI ((f.blocks.length + S.news.length : Nat) : Int), .lst 1 [] .ex]))) (cs := edC l) (xs := [aI ((f.blocks.length + S.news.length : Nat) : Int), .lst 1 [] .ex]) (ys := [aI ((f.blocks.length + S.news.length : Nat) : Int), eIs []]) (i := n * 2) rfl (by rw [hel]; simp; omega) (fun j c d h1 h2 => by
        match j, h1, h2 with
        | 0, h1, h2 => exact Sub.of_eq (by simpa using h1.symm.trans h2)
        | 1, h1, h2 =>
         simp only [List.getElem?_cons_succ, List.getElem?_cons_zero, Option.some.injEq] at h1 h2
         subst h1
         subst h2
         exact fun _ _ _ h => h.lst_share
        | j + 2, h1, h2 => simp at h1) j c d
       have hput := edC_put (es := l) (n := n) (by omega) ⟨((f.blocks.length + S.news.length : Nat) : Int), []⟩
       have hput' : splice (edC l) (n * 2) [aI ((f.blocks.length + S.news.length : Nat) : Int), eIs []] = edC (l.set n ⟨((f.blocks.length + S.news.length : Nat) : Int), []⟩) := hput
       rw [hput'] at hsub
       refine awp_retell2 id (edC (l.set n ⟨((f.blocks.length + S.news.length : Nat) : Int), []⟩)) (List.getElem?_set_self hil) (by rw [← hput', splice_length (by rw [hel]; simp; omega), splice_length (by rw [hel]; simp; omega)]) (edC_scalar _) hsub ?_
       rw [List.set_set]
       have hS2 := hS.edge hid hb hl ht0 (m := l.set n ⟨((f.blocks.length + S.news.length : Nat) : Int), []⟩) (List.length_set)
       generalize O.set id (.cells (edC (l.set n ⟨((f.blocks.length + S.news.length : Nat) : Int), []⟩))) = O5 at *
       have hout2 := hS2.out
       have hbl2 := hS2.bl.2
       have hxb := hS2.xb
       have hout2' : ∀ Y, (O5.set bid .gone ++ Y)[X0]? = some (.cells [aI f.name, .os bid (f.blocks.length + S.news.length) 7]) := fun Y => at_left (at_set_ne hout2 hxb)
       have hcl2 : (blsC ids f.blocks ++ cellsAll (S.news.map Block.enc)).length = (f.blocks.length + S.news.length) * 7 := by
        rw [List.length_append, blsC_len hS.li, blocks_len]
        omega
       have hTT : (blsC ids f.blocks ++ cellsAll (S.news.map Block.enc)).take ((f.blocks.length + S.news.length) * 7) = blsC ids f.blocks ++ cellsAll (S.news.map Block.enc) := List.take_of_length_le (by omega)
       refine zg0 ?_
       simp -dsimp only [simprocAttr, ↓vpre, zp, hout2, hout2', hbl2, hcl2, hTT, cellsAll_v, cells_os']
       repeat (refine ⟨by omega, ?_⟩)
       refine ⟨trivial, ?_⟩
       refine za0 ?_
       have hS3 : SpO f ids X0 ⟨S.tos.set k (l.set n ⟨((f.blocks.length + S.news.length : Nat) : Int), []⟩), S.news ++ [jumpB x]⟩ O5.length ((O5.set bid .gone ++ [AObj.cells (blsC ids f.blocks ++ (cellsAll (S.news.map Block.enc) ++ [.lst 1 [] .sh, .lst 4 [] .sh, aI 1, aI 0, aI 0, .lst 1 [] .sh, .lst 2 [x.enc] .sh]))]).set X0 (.cells [aI f.name, .os O5.length (f.blocks.length + S.news.length + 1) 7])) := by
        have := hS2.block (jumpB x) rfl rfl
        rw [List.append_assoc] at this
        exact this
       show AWP Try.prog _ _ _ ⟨_, _, (O5.set bid .gone ++ [AObj.cells (blsC ids f.blocks ++ (cellsAll (S.news.map Block.enc) ++ [.lst 1 [] .sh, .lst 4 [] .sh, aI 1, aI 0, aI 0, .lst 1 [] .sh, .lst 2 [x.enc] .sh]))]).set X0 (.cells [aI f.name, .os O5.length (f.blocks.length + S.news.length + 1) 7])⟩
       generalize (O5.set bid .gone ++ [AObj.cells (blsC ids f.blocks ++ (cellsAll (S.news.map Block.enc) ++ [.lst 1 [] .sh, .lst 4 [] .sh, aI 1, aI 0, aI 0, .lst 1 [] .sh, .lst 2 [x.enc] .sh]))]).set X0 (.cells [aI f.name, .os O5.length (f.blocks.length + S.news.length + 1) 7]) = O7 at *
       refine zh0 ?_
       repeat (refine ⟨by omega, ?_⟩)
       refine zl0 ?_
       refine ⟨⟨⟨n + 1, _, O5.length, O7⟩, hlz, hS3, hze, by simp only [List.length_append, List.length_singleton]; omega, fun j c hj hc => by
        simp only at hj ⊢
        rw [List.getElem?_set_ne (by omega)]
        exact hrest j c hj hc, l.set n ⟨((f.blocks.length + S.news.length : Nat) : Int), []⟩, by simp only; rw [List.getElem?_set_self (lt_of_getElem? hl)], by rw [List.length_set, hll], by
        simp only
        rw [List.drop_set_of_lt (by omega), ← List.drop_drop, hld, List.drop_drop]⟩, by simp; omega, ?_⟩
       refine zq rfl ?_ ?_
       simp -dsimp only [simprocAttr, ↓vpre, zp, zc]
       ·exact Sub.int (by simp)
       rfl
      have g2 : decide ((p.length : Int) < 2) = true := decide_eq_true (by omega)
      rw [if_neg (by rw [hcr, decide_eq_false c2]; simp)] at hze
      refine zg2 ?_
      simp -dsimp only [simprocAttr, ↓vpre, zp, g1, hpp, g2]
      repeat (refine ⟨by omega, ?_⟩)
      refine za0 ?_
      refine zw0 rfl ?_
      refine awp_exit ?_
      simp -dsimp only [vend, ne_eq, Nat.reduceEqDiff, reduceCtorEq]
      refine zh0 ?_
      repeat (refine ⟨by omega, ?_⟩)
      refine zl0 ?_
      refine ⟨⟨⟨n + 1, S, bid, O⟩, hlz, hS, by simp only; rw [show b.term.to.length - (n + 1) = b.term.to.length - (n + 1) from rfl]; exact hze, by simp only; omega, hrest, l, hl, hll, by simp only; rw [← List.drop_drop, hld, List.drop_drop]⟩, by simp; omega, ?_⟩
      refine zq rfl ?_ ?_
      simp -dsimp only [simprocAttr, ↓vpre, zp, zc]
      ·exact Sub.int (by simp)
      rfl
     have g1 : decide ((b.term.to.length : Int) < 2) = true := decide_eq_true (by omega)
     rw [if_neg (by rw [hcr, decide_eq_false c1]; simp)] at hze
     refine zg2 ?_
     simp -dsimp only [simprocAttr, ↓vpre, zp, g1]
     repeat (refine ⟨by omega, ?_⟩)
     refine za0 ?_
     refine zw0 rfl ?_
     refine awp_exit ?_
     simp -dsimp only [vend, ne_eq, Nat.reduceEqDiff, reduceCtorEq]
     refine zh0 ?_
     repeat (refine ⟨by omega, ?_⟩)
     refine zl0 ?_
     refine ⟨⟨⟨n + 1, S, bid, O⟩, hlz, hS, by simp only; rw [show b.term.to.length - (n + 1) = b.term.to.length - (n + 1) from rfl]; exact hze, by simp only; omega, hrest, l, hl, hll, by simp only; rw [← List.drop_drop, hld, List.drop_drop]⟩, by simp; omega, ?_⟩
     refine zq rfl ?_ ?_
     simp -dsimp only [simprocAttr, ↓vpre, zp, zc]
     ·exact Sub.int (by simp)
     rfl
    refine awp_exit ?_
    simp -dsimp only [vend, ne_eq, Nat.reduceEqDiff, reduceCtorEq]
    have hzl : b.term.to.length ≤ n := by
     have := of_decide_eq_false h
     omega
    rw [show b.term.to.length - n = 0 by omega] at hze
    simp only [spE] at hze
    subst hze
    refine zh0 ?_
    repeat (refine ⟨by omega, ?_⟩)
    refine zl0 ?_
    refine ⟨⟨⟨k + 1, S1, bid, O⟩, hlt, hS, hke, by simp only; omega, hrest⟩, by simp; omega, ?_⟩
    refine zq rfl ?_ ?_
    simp -dsimp only [simprocAttr, ↓vpre, zp, zc]
    ·exact Sub.int (by simp)
    rfl
   refine awp_exit ?_
   simp -dsimp only [vend, ne_eq, Nat.reduceEqDiff, reduceCtorEq]
   have hkN : f.blocks.length ≤ k := by
    have := of_decide_eq_false h
    omega
   rw [show f.blocks.length - k = 0 by omega] at hke
   simp only [spK] at hke
   subst hke
   have hout := hS.out
   have hr1 := hS.r1
   have h1l := lt_of_getElem? hr1
   have hx5 := hS.x5
   by_cases hm : 128 < f.blocks.length + R.news.length
   ·have g1 : decide ((128 : Int) < ((f.blocks.length + R.news.length : Nat) : Int)) = true := decide_eq_true (by omega)
    rw [if_pos hm]
    refine zg2 ?_
    simp -dsimp only [simprocAttr, ↓vpre, zp, hout, g1]
    refine za0 ?_
    refine zw0 rfl ?_
    have hr1' : (O.set 1 (.cells [aI 0, .lst 7 [] .ex]))[1]? = some (.cells [aI 0, .lst 7 [] .ex]) := List.getElem?_set_self h1l
    refine zg1 ?_
    simp -dsimp only [simprocAttr, ↓vpre, zp, hr1]
    refine za0 ?_
    refine awp_ret ?_
    simp -dsimp only [simprocAttr, ↓vpre, zp, zr, Try.results15, hr1']
    simp [uptoL, AVal.upto]
   have g1 : decide ((128 : Int) < ((f.blocks.length + R.news.length : Nat) : Int)) = false := decide_eq_false (by omega)
   rw [if_neg hm]
   have hzl : (List.zipWith setTo f.blocks R.tos).length = f.blocks.length := by
    rw [List.length_zipWith, hS.w.len]
    omega
   have hbs := blsC_set (ids := ids) hS.w.len hS.w.each
   have hel : ∀ (j id : Nat) (c : Block), ids[j]? = some id → (List.zipWith setTo f.blocks R.tos)[j]? = some c → c.term.to ≠ [] → ∃ b l, f.blocks[j]? = some b ∧ R.tos[j]? = some l ∧ c = setTo b l ∧ b.term.to ≠ [] := fun j id c h1 h2 h3 => by
    rw [List.getElem?_zipWith] at h2
    cases hb : f.blocks[j]? with
    | none => rw [hb] at h2; cases h2
    | some b =>
     cases hl : R.tos[j]? with
     | none => rw [hb, hl] at h2; cases h2
     | some l =>
      rw [hb, hl] at h2
      simp only [Option.some.injEq] at h2
      refine ⟨b, l, rfl, rfl, h2.symm, fun q => h3 ?_⟩
      have := hS.w.each j b l hb hl
      rw [q] at this
      rw [← h2]
      exact List.length_eq_zero_iff.1 this
   refine zg2 ?_
   simp -dsimp only [simprocAttr, ↓vpre, zp, hout, g1]
   refine za0 ?_
   refine zu0 rfl ?_
   refine zb0 ?_
   refine zg1 ?_
   simp -dsimp only [simprocAttr, ↓vpre, zp, hout, hr1]
   refine za0 ?_
   refine awp_blocks2 (ids := ids) (bs := List.zipWith setTo f.blocks R.tos) (T := R.news) (X := 1) (oid := bid) (name := f.name) (by rw [hzl, hS.li]) (by have := hS.bl.1; omega) (by rw [hzl]; exact List.getElem?_set_self h1l) (by rw [hbs, List.getElem?_set_ne (by have := hS.bl.1; omega)]; exact hS.bl.2) (fun j id c h1 h2 h3 => ?_) (fun i j id c d h1 h2 h3 h4 h5 h6 => ?_) fun O1 hO1 hO11 => ?_
   ·obtain ⟨b, l, q1, q2, q3, q4⟩ := hel j id c h1 h2 h3
    obtain ⟨o1, o2, o3, o4⟩ := hS.own j id b l h1 q1 q2 q4
    exact ⟨o2, by omega, by rw [List.getElem?_set_ne (by omega), q3]; exact o4⟩
   ·obtain ⟨b, l, q1, q2, q3, q4⟩ := hel i id c h1 h3 h5
    obtain ⟨b', l', r1, r2, r3, r4⟩ := hel j id d h2 h4 h6
    exact hS.inj i j id b b' h1 h2 q1 r1 q4 r4
   generalize List.zipWith setTo f.blocks R.tos ++ R.news = GB at hO11 ⊢
   refine awp_ret ?_
   simp -dsimp only [simprocAttr, ↓vpre, zp, zr, Try.results15, hO11]
   refine ⟨?_, rfl⟩
   simp [uptoL, AVal.upto, aI_upto, Block.map_upto]
  exact FSub.mp rfl rfl
 rw [if_neg hc] at hpr ⊢
 obtain ⟨e, he⟩ : ∃ e, e = checkFuncM f := ⟨_, rfl⟩
 rw [← he] at hc hpr ⊢
 have hde : decide (e = 0) = false := decide_eq_false hc
 refine zf true 0 Try.func15 Try.ntmps15 ?_
 dsimp only [Tmp, TypeId, slotsOf]
 refine zh1 (za0 ?_)
 refine awp_freeze1 1 0 (.ip none [aI f.name, eBlocks f.blocks]) rfl (by simp [AObj.isSpare]) trivial rfl ?_ ?_
 rotate_left
 simp -dsimp only [simprocAttr, ↓vpre, zp]
 ·refine zh1 ?_
  refine zi hpr ?_
  refine za0 ?_
  refine zg2 ?_
  simp -dsimp only [simprocAttr, ↓vpre, zp, hde]
  refine za0 ?_
  refine zw0 rfl ?_
  refine zh1 (za0 ?_)
  refine awp_ret ?_
  simp -dsimp only [simprocAttr, ↓vpre, zp, zr, Try.results15]
  simp [uptoL, AVal.upto]
 exact FSub.mp rfl rfl
def wthM (n m : Int) : Int := if n.tmod m < 0 then n.tmod m + m else n.tmod m
theorem wth_range (n : Int) {m : Int} (h : 0 < m) : (-m < n.tmod m ∧ n.tmod m < m) ∧ 0 ≤ wthM n m ∧ wthM n m < m := by
 have h1 := Int.tmod_lt_of_pos n h
 have h2 : -m < n.tmod m := by
  by_cases hn : 0 ≤ n
  ·have := Int.tmod_nonneg m hn
   omega
  have h3 := Int.tmod_lt_of_pos (-n) h
  rw [Int.neg_tmod] at h3
  omega
 unfold wthM
 refine ⟨⟨h2, h1⟩, ?_, ?_⟩ <;> split <;> omega
theorem wth_spec (n m : Int) (h : 0 < m) (hm2 : m ≤ 2 ^ 47) : PCall Try.prog 16 [aI n, aI m] (aI (wthM n m)) := by
 have hr := (wth_range n h).1
 have h0 : (m = 0) = False := eq_false (by omega)
 obtain ⟨r, hre⟩ : ∃ r, r = n.tmod m := ⟨_, rfl⟩
 unfold wthM
 rw [← hre] at hr ⊢
 by_cases hn : r < 0
 ·have hd : decide (r < 0) = true := decide_eq_true hn
  rw [if_pos hn]
  refine zf true 0 Try.func16 Try.ntmps16 ?_
  dsimp only [Tmp, TypeId, slotsOf]
  refine zh1 (za0 ?_)
  refine zg2 ?_
  simp -dsimp only [simprocAttr, ↓vpre, zp, h0, if_false, ← hre]
  repeat (refine ⟨by omega, ?_⟩)
  refine za0 ?_
  refine zg1 ?_
  simp -dsimp only [simprocAttr, ↓vpre, zp, hd]
  refine za0 ?_
  refine zw0 rfl ?_
  refine zh0 ?_
  repeat (refine ⟨by omega, ?_⟩)
  refine za0 ?_
  refine zh1 (za0 ?_)
  refine awp_ret ?_
  simp -dsimp only [simprocAttr, ↓vpre, zp, zr, Try.results16]
 have hd : decide (r < 0) = false := decide_eq_false hn
 rw [if_neg hn]
 refine zf true 0 Try.func16 Try.ntmps16 ?_
 dsimp only [Tmp, TypeId, slotsOf]
 refine zh1 (za0 ?_)
 refine zg2 ?_
 simp -dsimp only [simprocAttr, ↓vpre, zp, h0, if_false, ← hre]
 repeat (refine ⟨by omega, ?_⟩)
 refine za0 ?_
 refine zg1 ?_
 simp -dsimp only [simprocAttr, ↓vpre, zp, hd]
 refine za0 ?_
 refine zu0 rfl ?_
 refine zb0 ?_
 refine zh1 (za0 ?_)
 refine awp_ret ?_
 simp -dsimp only [simprocAttr, ↓vpre, zp, zr, Try.results16]
def outB (f : Func) (k : Int) : Bool := decide (k < 0) || decide ((f.blocks.length : Int) ≤ k)
theorem isBlock1_spec (f : Func) (k : Int) : PCall Try.prog 69 [aI k, .ip none [aI f.name, eBlocks f.blocks]] (.v (.bool (outB f k))) := by
 unfold outB
 cases h1 : decide (k < 0) with
 | true =>
  refine zf true 0 Try.func69 Try.ntmps69 ?_
  dsimp only [Tmp, TypeId, slotsOf]
  refine zh1 (za0 ?_)
  refine zg1 ?_
  simp -dsimp only [simprocAttr, ↓vpre, zp, h1]
  refine za0 ?_
  refine awp_ret ?_
  simp -dsimp only [simprocAttr, ↓vpre, zp, zr, Try.results69]
  rfl
 | false =>
  refine zf true 0 Try.func69 Try.ntmps69 ?_
  dsimp only [Tmp, TypeId, slotsOf]
  refine zh1 (za0 ?_)
  refine zg1 ?_
  simp -dsimp only [simprocAttr, ↓vpre, zp, h1]
  refine za0 ?_
  refine awp_ret ?_
  simp -dsimp only [simprocAttr, ↓vpre, zp, zr, Try.results69]
  rfl
theorem indexFunc_none (f : Func) (l : List Int) (hl : ∀ v ∈ l, outB f v = false) : PCall Try.prog 98 [eIs l, .fn (.func 69) [] [.ip none [aI f.name, eBlocks f.blocks]]] (aI (-1)) := by
 refine zf true 0 Try.func98 Try.ntmps98 ?_
 dsimp only [Tmp, TypeId, slotsOf]
 refine zh1 (za0 ?_)
 refine awp_len 0 rfl (fun hll => ?_)
 simp only [List.length_map] at hll
 refine zh2 (za0 ?_)
 refine awp_block (awp_loop (ι := {k : Nat // k ≤ l.length}) (fun k => ⟨19, [(0, eIs l), (1, .fn (.func 69) [] [.ip none [aI f.name, eBlocks f.blocks]]), (7, aI l.length), (8, aI k.1)], []⟩) (fun k => l.length - k.1) ⟨0, by omega⟩ ?_ ?_)
 ·refine zq rfl ?_ ?_
  simp -dsimp only [simprocAttr, ↓vpre, zp, zc]
  rfl
 rintro ⟨k, hk⟩
 refine zh1 (za0 ?_)
 apply zk1 rfl <;> intro h
 ·refine zb0 ?_
  have hlt : k < l.length := by simpa using h
  obtain ⟨v, hv⟩ : ∃ v, l[k]? = some v := ⟨l[k], by simp [hlt]⟩
  have hb := isBlock1_spec f v
  rw [hl v (List.mem_of_getElem? hv)] at hb
  refine awp_seq (awp_block ?_)
  refine zh1 (za0 ?_)
  refine zg1 ?_
  simp -dsimp only [simprocAttr, ↓vpre, zp, hv]
  repeat (refine ⟨by omega, ?_⟩)
  refine zi hb ?_
  refine za0 ?_
  refine zu0 rfl ?_
  refine zb1 ?_
  refine zh0 ?_
  repeat (refine ⟨by omega, ?_⟩)
  refine zl0 ?_
  refine ⟨⟨k + 1, hlt⟩, by simp; omega, ?_⟩
  refine zq rfl ?_ ?_
  simp -dsimp only [simprocAttr, ↓vpre, zp, zc]
  ·exact Sub.int (by simp)
  rfl
 refine awp_exit ?_
 simp -dsimp only [vend, ne_eq, Nat.reduceEqDiff, reduceCtorEq]
 refine zh1 (za0 ?_)
 refine awp_ret ?_
 simp -dsimp only [simprocAttr, ↓vpre, zp, zr, Try.results98]
theorem isBlock_spec (f : Func) (l : List Int) (hl : ∀ v ∈ l, outB f v = false) : PCall Try.prog 41 [f.enc, eIs l] (.v (.bool true)) := by
 have hi := indexFunc_none f l hl
 have hc : PCall Try.prog 68 [eIs l, .fn (.func 69) [] [.ip none [aI f.name, eBlocks f.blocks]]] (.v (.bool false)) := by
  refine zf true 0 Try.func68 Try.ntmps68 ?_
  dsimp only [Tmp, TypeId, slotsOf]
  refine zh1 (za0 ?_)
  refine zh1 ?_
  refine zi hi ?_
  refine za0 ?_
  refine awp_ret ?_
  simp -dsimp only [simprocAttr, ↓vpre, zp, zr, Try.results68]
 refine zf true 0 Try.func41 Try.ntmps41 ?_
 dsimp only [Tmp, TypeId, slotsOf]
 refine zh1 (za0 ?_)
 refine awp_freeze1 2 0 (.ip none [aI f.name, eBlocks f.blocks]) rfl (by simp [AObj.isSpare]) trivial rfl ?_ ?_
 rotate_left
 simp -dsimp only [simprocAttr, ↓vpre, zp]
 ·refine zh1 ?_
  refine zi hc ?_
  refine za0 ?_
  refine awp_ret ?_
  simp -dsimp only [simprocAttr, ↓vpre, zp, zr, Try.results41]
 exact FSub.mp rfl rfl
def ovrB (f : Func) (O : List Int) (a b : Int) : Bool := if plF f b < 0 then true else ancB O a b
theorem domin_spec {O : List AObj} (hup : ∀ o ∈ O, o.upto O.length) {A B N : Nat} {f : Func} (hw : OrdW f) {ov : List Int} (hA : O[A]? = some (.cells (ov.map aI))) (hB : O[B]? = some (.cells ((plL f).map aI))) (hN : N = f.blocks.length) (ht : Tr f ov) {a b : Int} (ha : 0 ≤ a) (hb : 0 ≤ b ∧ b < f.blocks.length) (hbt : 0 ≤ plF f b → Asg ov b) :
  ECall Try.prog 42 O [.agg [.ms A 0 N N, .ms B 0 N N], aI a, aI b] (fun r O' => r = .v (.bool (ovrB f ov a b)) ∧ O' = O) := by
 have hAl := lt_of_getElem? hA
 have hBl := lt_of_getElem? hB
 have eb := plL_at hb.1 hb.2
 have heb := aI_at eb
 by_cases hpl : plF f b < 0
 ·have hR : ovrB f ov a b = true := if_pos hpl
  have hd : decide (plF f b < 0) = true := decide_eq_true hpl
  rw [hR]
  refine zf true O.length Try.func42 Try.ntmps42 ?_
  dsimp only [Tmp, TypeId, slotsOf]
  refine zh1 (za0 ?_)
  refine awp_local 3 ([.ms A 0 N N, .ms B 0 N N]) [(1, aI a), (2, aI b), (3, .ip none [.ms A 0 N N, .ms B 0 N N])] (by simp [putS, dropS, Go.Av.look]) (by rfl) (by omega) (by simp [putS, dropS, Go.Av.look]) ?_ ?_ ?_
  ·exact hup
  ·simp [AVal.upto, uptoL, hAl, hBl]
  refine zg2 ?_
  simp -dsimp only [simprocAttr, ↓vpre, zp, hB, heb, hd, Nat.mul_one]
  repeat (refine ⟨by omega, ?_⟩)
  refine za0 ?_
  refine zw0 rfl ?_
  refine zh1 (za0 ?_)
  refine awp_ret ?_
  simp -dsimp only [simprocAttr, ↓vpre, zp, zr, Try.results42]
  exact hup
 have hR0 : ovrB f ov a b = ancB ov a b := if_neg hpl
 have hd : decide (plF f b < 0) = false := decide_eq_false hpl
 obtain ⟨R, hR⟩ : ∃ R, R = ancB ov a b := ⟨_, rfl⟩
 rw [hR0, ← hR]
 have hba := hbt (by omega)
 refine zf true O.length Try.func42 Try.ntmps42 ?_
 dsimp only [Tmp, TypeId, slotsOf]
 refine zh1 (za0 ?_)
 refine awp_local 3 ([.ms A 0 N N, .ms B 0 N N]) [(1, aI a), (2, aI b), (3, .ip none [.ms A 0 N N, .ms B 0 N N])] (by simp [putS, dropS, Go.Av.look]) (by rfl) (by omega) (by simp [putS, dropS, Go.Av.look]) ?_ ?_ ?_
 ·exact hup
 ·simp [AVal.upto, uptoL, hAl, hBl]
 refine zg2 ?_
 simp -dsimp only [simprocAttr, ↓vpre, zp, hB, heb, hd, Nat.mul_one]
 repeat (refine ⟨by omega, ?_⟩)
 refine za0 ?_
 refine zu0 rfl ?_
 refine zb0 ?_
 refine awp_seq (awp_block (awp_loop (ι := {x : Int // (Asg ov x ∧ R = ancB ov a x) ∨ (x = -1 ∧ R = false)}) (fun x => ⟨28, [(1, aI a), (2, aI x.1), (3, .ip none [.ms A 0 N N, .ms B 0 N N])], O⟩) (fun x => if 0 ≤ x.1 then (plF f x.1).toNat + 1 else 0) ⟨b, .inl ⟨hba, hR⟩⟩ ?_ ?_))
 ·refine zq rfl ?_ ?_
  simp -dsimp only [simprocAttr, ↓vpre, zp, zc]
  rfl
 rintro ⟨x, hx⟩
 rcases hx with ⟨hxa, hRx⟩ | ⟨hx1, hRx⟩
 ·have hx0 := hxa.nn hw ht
  have hd1 : decide (0 ≤ x) = true := decide_eq_true hx0
  have hpx := ht.asg hw hxa
  have hxr := hw.range x hpx
  by_cases hxe : x = a
  ·have hd2 : decide (x = a) = true := decide_eq_true hxe
   have hRt : R = true := by rw [hRx, hxe]; exact ancB_self hw ht (hxe ▸ hxa)
   refine zg2 ?_
   simp -dsimp only [simprocAttr, ↓vpre, zp, hd1, hd2]
   refine za0 ?_
   refine zu0 rfl ?_
   refine awp_exit ?_
   simp -dsimp only [vend, ne_eq, Nat.reduceEqDiff, reduceCtorEq]
   refine zg1 ?_
   simp -dsimp only [simprocAttr, ↓vpre, zp, hd2]
   refine za0 ?_
   rw [hRt]
   refine awp_ret ?_
   simp -dsimp only [simprocAttr, ↓vpre, zp, zr, Try.results42]
   exact hup
  have hd2 : decide (x = a) = false := decide_eq_false hxe
  obtain ⟨y, hy⟩ : ∃ y, ov[x.toNat]? = some y := ⟨ov[x.toNat]'(by rw [ht.len]; omega), List.getElem?_eq_getElem _⟩
  have hye : atI ov x = y := by simp [atI, hy]
  have hyy := aI_at hy
  have hst := anc_step hw ht hxa hxe
  rw [hye, ← hRx] at hst
  refine zg2 ?_
  simp -dsimp only [simprocAttr, ↓vpre, zp, hd1, hd2]
  refine za0 ?_
  refine zw0 rfl ?_
  refine zb0 ?_
  refine awp_block ?_
  refine zg0 ?_
  simp -dsimp only [simprocAttr, ↓vpre, zp, hA, hyy, Nat.mul_one]
  repeat (refine ⟨by omega, ?_⟩)
  refine zl1 ?_
  rcases hst with ⟨s1, s2, s3, s4⟩ | ⟨s1, s2⟩
  ·refine ⟨⟨y, .inl ⟨s2, s4⟩⟩, by simp only; rw [if_pos s1, if_pos hx0]; have := ht.asg hw s2; omega, ?_⟩
   refine zq rfl ?_ ?_
   simp -dsimp only [simprocAttr, ↓vpre, zp, zc]
   rfl
  refine ⟨⟨y, .inr ⟨s1, s2⟩⟩, by simp only; rw [if_neg (by omega), if_pos hx0]; omega, ?_⟩
  refine zq rfl ?_ ?_
  simp -dsimp only [simprocAttr, ↓vpre, zp, zc]
  rfl
 have hd1 : decide (0 ≤ x) = false := decide_eq_false (by omega)
 have hd2 : decide (x = a) = false := decide_eq_false (by omega)
 refine zg2 ?_
 simp -dsimp only [simprocAttr, ↓vpre, zp, hd1]
 refine za0 ?_
 refine zu0 rfl ?_
 refine awp_exit ?_
 simp -dsimp only [vend, ne_eq, Nat.reduceEqDiff, reduceCtorEq]
 refine zg1 ?_
 simp -dsimp only [simprocAttr, ↓vpre, zp, hd2]
 refine za0 ?_
 rw [hRx]
 refine awp_ret ?_
 simp -dsimp only [simprocAttr, ↓vpre, zp, zr, Try.results42]
 exact hup
theorem dominates_spec (f : Func) (hfit : f.fit) (hc : checkFuncM f = 0) {a b : Int} (ha : 0 ≤ a ∧ a < f.blocks.length) (hb : 0 ≤ b ∧ b < f.blocks.length) : PCall Try.prog 17 [f.enc, aI a, aI b] (.tup [.v (.bool (ovrB f (treeM f) a b)), aI 0]) := by
 have hbd := dbuild_spec f hfit hc
 have hg := (checkFunc_ok hfit hc).gr
 have hw := ord_w hg
 have ht := tree_w hg
 have hib := isBlock_spec f [a, b] (fun v hv => by
  simp only [List.mem_cons, List.not_mem_nil, or_false] at hv
  rcases hv with rfl | rfl <;> simp [outB] <;> omega)
 have hup := dmO_upto f (treeM f) f.blocks.length [.ms 3 0 f.blocks.length f.blocks.length, .ms 4 0 f.blocks.length f.blocks.length] ⟨show 3 < 6 by omega, show 4 < 6 by omega, trivial⟩
 unfold dmO at hbd hup
 obtain ⟨N, hN⟩ : ∃ N, N = f.blocks.length := ⟨_, rfl⟩
 have hdm := domin_spec (O := [.gone, .gone, .cells [.ms 3 0 N N, .ms 4 0 N N], .cells ((treeM f).map aI), .cells ((plL f).map aI), .cells [.ms 3 0 N N, .ms 4 0 N N], .cells [.ms 3 0 N N, .ms 4 0 N N]]) (fun o ho => by
  rw [← hN] at hup
  simp only [List.mem_cons, List.not_mem_nil, or_false] at ho hup
  rcases ho with rfl | rfl | rfl | rfl | rfl | rfl | rfl
  ·trivial
  ·trivial
  ·exact ⟨show 3 < 7 by omega, show 4 < 7 by omega, trivial⟩
  ·exact aI_upto _ _
  ·exact aI_upto _ _
  ·exact ⟨show 3 < 7 by omega, show 4 < 7 by omega, trivial⟩
  exact ⟨show 3 < 7 by omega, show 4 < 7 by omega, trivial⟩) (A := 3) (B := 4) (N := N) hw rfl rfl hN ht.tr (a := a) (b := b) ha.1 hb (ht.asg' hw)
 rw [← hN] at hbd ha hb hup
 have hea : eIs [a, b] = .lst 1 [aI a, aI b] .sh := rfl
 rw [hea] at hib
 generalize ovrB f (treeM f) a b = R at *
 generalize treeM f = O at *
 refine zf true 0 Try.func17 Try.ntmps17 ?_
 dsimp only [Tmp, TypeId, slotsOf]
 refine zh1 (za0 ?_)
 refine awp_freeze1 3 0 (.ip none [aI f.name, eBlocks f.blocks]) rfl (by simp [AObj.isSpare]) trivial rfl ?_ ?_
 rotate_left
 simp -dsimp only [simprocAttr, ↓vpre, zp]
 ·refine zh1 ?_
  refine .inr (.inl ⟨_, _, hbd, .inl (later_intro (zj ?_))⟩)
  refine za0 ?_
  refine awp_seq (awp_block ?_)
  refine zh1 (za0 ?_)
  refine zu0 rfl ?_
  refine zh1 ?_
  refine zi hib ?_
  refine za0 ?_
  refine zu0 rfl ?_
  refine zb1 ?_
  refine zh1 ?_
  refine .inr (.inr ⟨_, hdm, later_intro (zj ?_)⟩)
  refine za0 ?_
  refine awp_ret ?_
  simp -dsimp only [simprocAttr, ↓vpre, zp, zr, Try.results17]
  exact ⟨trivial, trivial, trivial⟩
 exact FSub.mp rfl rfl
theorem dspl_err (f : Func) {e : Int} (he : e ≠ 0) (a0 b0 : Int) (hsp : PCall Try.prog 15 [f.enc] (.tup [.agg [aI 0, .lst 7 [] .sh], aI e])) : PCall Try.prog 3 [f.enc, aI a0, aI b0] (.v (.bool true)) := by
 have hwk := works_spec
 have hde : decide (e = 0) = false := decide_eq_false he
 refine zf true 0 Try.func3 Try.ntmps3 ?_
 dsimp only [Tmp, TypeId, slotsOf]
 refine zh1 (za0 ?_)
 refine awp_freeze1 3 0 (.ip none [aI f.name, eBlocks f.blocks]) rfl (by simp [AObj.isSpare]) trivial rfl ?_ ?_
 rotate_left
 simp -dsimp only [simprocAttr, ↓vpre, zp]
 ·refine zh2 ?_
  refine zi hwk ?_
  refine za0 ?_
  refine zu0 rfl ?_
  refine zb0 ?_
  refine zh1 ?_
  refine zi hsp ?_
  refine za0 ?_
  refine zg2 ?_
  simp -dsimp only [simprocAttr, ↓vpre, zp, hde]
  refine za0 ?_
  refine zw0 rfl ?_
  refine zh1 (za0 ?_)
  refine awp_ret ?_
  simp -dsimp only [simprocAttr, ↓vpre, zp, zr, Try.results3]
 exact FSub.mp rfl rfl
theorem domSplits_law (f : Func) (hfit : f.fit) (a0 : Int) (_ : fitI a0) (b0 : Int) (_ : fitI b0) : PCall Try.prog 3 [f.enc, aI a0, aI b0] (.v (.bool true)) := by
 have hsp := split_spec f hfit
 unfold splitR at hsp
 by_cases hc : checkFuncM f = 0
 ·rw [if_pos hc] at hsp
  by_cases hm : 128 < f.blocks.length + (spM f).news.length
  ·rw [if_pos hm] at hsp
   exact dspl_err f (by omega) a0 b0 hsp
  rw [if_neg hm] at hsp
  have hwk := works_spec
  have hg := (checkFunc_ok hfit hc).gr
  have hw := ord_w hg
  have hc' := split_check hfit hc (by omega)
  have hfit' := split_fit hfit (by omega)
  have hg' := (checkFunc_ok hfit' hc').gr
  have hn : f.blocks.length ≤ 128 := hg.few
  have hl0 := List.length_pos_iff.2 hg.ne
  have hwa := wth_spec a0 f.blocks.length (by omega) (by omega)
  have hwb := wth_spec b0 f.blocks.length (by omega) (by omega)
  have hra := (wth_range a0 (m := f.blocks.length) (by omega)).2
  have hrb := (wth_range b0 (m := f.blocks.length) (by omega)).2
  generalize wthM a0 f.blocks.length = a at *
  generalize wthM b0 f.blocks.length = b at *
  have hd1 := dominates_spec f hfit hc hra hrb
  have hsl := split_len (f := f)
  have hd2 := dominates_spec (splitM f) hfit' hc' (a := a) (b := b) ⟨by omega, by omega⟩ ⟨by omega, by omega⟩
  have hov : ovrB (splitM f) (treeM (splitM f)) a b = ovrB f (treeM f) a b := by
   have h1 := rch_split hg hg' (k := b) hrb.2
   unfold ovrB
   by_cases q : plF f b < 0
   ·rw [if_pos q, if_pos (by omega)]
   rw [if_neg q, if_neg (by omega)]
   exact (anc_split hg hg' hra.2 (by omega)).symm
  rw [hov] at hd2
  generalize ovrB f (treeM f) a b = R at *
  obtain ⟨g, hge⟩ : ∃ g, g = splitM f := ⟨_, rfl⟩
  rw [← hge] at hsp hd2
  have hge2 : g.enc = .agg [aI g.name, eBlocks g.blocks] := rfl
  rw [hge2] at hsp hd2
  clear hov hsl hge
  refine zf true 0 Try.func3 Try.ntmps3 ?_
  dsimp only [Tmp, TypeId, slotsOf]
  refine zh1 (za0 ?_)
  refine awp_freeze1 3 0 (.ip none [aI f.name, eBlocks f.blocks]) rfl (by simp [AObj.isSpare]) trivial rfl ?_ ?_
  rotate_left
  simp -dsimp only [simprocAttr, ↓vpre, zp]
  ·refine zh2 ?_
   refine zi hwk ?_
   refine za0 ?_
   refine zu0 rfl ?_
   refine zb0 ?_
   refine zh1 ?_
   refine zi hsp ?_
   refine za0 ?_
   refine awp_freeze1 7 1 (.ip none [aI g.name, eBlocks g.blocks]) rfl (by simp [AObj.isSpare]) trivial rfl ?_ ?_
   rotate_left
   simp -dsimp only [simprocAttr, ↓vpre, zp]
   ·refine zh2 (za0 ?_)
    refine zu0 rfl ?_
    refine zb0 ?_
    refine zh1 ?_
    refine zi hwa ?_
    refine zi hwb ?_
    refine ⟨ob (by kernel_rfl), ?_⟩
    refine za0 ?_
    refine zh1 ?_
    refine zi hd1 ?_
    refine za0 ?_
    refine zh1 ?_
    refine zi hd2 ?_
    refine za0 ?_
    refine zh1 ?_
    refine ⟨Try.underlying4, ?_⟩
    refine za0 ?_
    refine awp_ret ?_
    simp -dsimp only [simprocAttr, ↓vpre, zp, zr, Try.results3]
   exact FSub.mp rfl rfl
  exact FSub.mp rfl rfl
 rw [if_neg hc] at hsp
 exact dspl_err f hc a0 b0 hsp
end Go.Proofs.Ytlclgfgmhnmnaaa
