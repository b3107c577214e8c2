/-
  Texts bound together by a program of mine: YtakdmelemfnmdaaAvx, YtakdmelemfnmdaaAvy, YtakdmelemfnmdaaAvr, YtakdmelemfnmdaaAvu, YtakdmelemfnmdaaAvl, YtakdmelemfnmdaaAvm, YtlclgfgmhnmnaaaTab, YtlclgfgmhnmnaaaPa, YtlclgfgmhnmnaaaPb, YtlclgfgmhnmnaaaPm, YtlclgfgmhnmnaaaPr, YtakdmelemfnmdaaAvn, YtakdmelemfnmdaaAvo, YtakdmelemfnmdaaAvq, YtakdmelemfnmdaaAvp, YtakdmelemfnmdaaAvs, YtakdmelemfnmdaaAvt, YtakdmelemfnmdaaAvz, YtakdmelemfnmdaaAvw.
-/
import Derived.Test.YtlclgfgmhnmnaaaJ1
import Derived.Lib.BufferMore
import Derived.ChangeKeysEq
import Derived.Laws.StructEq
import Derived.Test.YtlclgfgmhnmnaaaChecked
import Derived.KernelRfl
import Derived.ProofKit
import Derived.Carry
import Derived.SizedLaws
import Derived.Deep.Slices
import Derived.JoinedOf
set_option linter.all false

namespace Go.Av
theorem turns_gone {g : G} {id : Nat} {o : AObj} {l' : Option Loc} (ho : g.objs[id]? = some o) (he : g.env[id]? = some l') (hp : ¬ o.isSpare) (hl : o.live) : Turns g id o l' .gone g.w where
  obj := ho
  os := rfl
  tape := rfl
  output := rfl
  size := Nat.le_refl _
  block := fun _ _ _ => rfl
  cell := fun b off x hx _ => hx
  place := fun _ _ h => h.elim
  spare := fun m h => by subst h; exact absurd trivial hp
  plain := fun _ => ⟨by simp [AObj.isSpare], he⟩
  gone := fun h => by subst h; exact hl
def G.freeze (g : G) (id : Nat) (l' : Option Loc) : G := g.turn id l' .gone g.w
def FSub (O : List AObj) (id : Nat) (x y : AVal) : Prop :=
  ∀ (g : G) (u : Value) (l' : Option Loc), Good g → g.objs = O → g.env[id]? = some l' → Le g (g.freeze id l') → RV g x u → RV (g.freeze id l') y u
theorem FSub.refl {O : List AObj} {id : Nat} (x : AVal) : FSub O id x x := fun _ _ _ _ _ _ hle h => h.mono hle
theorem freeze_own {g : G} (hg : Good g) {id : Nat} {l : Loc} {o : AObj} (he : g.env[id]? = some (some l)) (ho : g.objs[id]? = some o) (hl : o.live) (off : Nat) : ¬ OwnC (g.freeze id (some l)) l.block off := by
  have hlt := lt_of_getElem? ho
  rintro (hf | ⟨id', l', o', h1, h2, h3, h4, _⟩)
  · exact hg.frown id l o he ho hl off hf
  simp only [G.freeze, G.turn] at h1 h2
  by_cases e : id' = id
  · subst e
    rw [List.getElem?_set_self (by omega)] at h2
    simp only [Option.some.injEq] at h2
    subst h2
    exact h3
  rw [List.getElem?_set_ne (Ne.symm e)] at h1 h2
  exact e (hg.apart id' id l' l o' o h1 h2 h3 he ho hl h4)
theorem FSub.mp {O : List AObj} {id off : Nat} {cs ds : List AVal} (hid : O[id]? = some (.cells cs)) (hd : (cs.drop off).map AVal.shareCell = ds) : FSub O id (.mp id off) (.ip none ds) := fun g u l' hg hO he hle h => by
  obtain ⟨l, o1, h1, h2, _, eu⟩ := h.mp_inv
  subst eu
  rw [he] at h1
  simp only [Option.some.injEq] at h1
  subst h1
  have hid' : g.objs[id]? = some (.cells cs) := by rw [hO]; exact hid
  obtain ⟨arr, t', hlo, hrow, hlen, hcs, hcsc, _⟩ := hg.row hid' he
  subst hd
  refine .ip (.inl rfl) (fun c hc => by
    obtain ⟨c', h1, h2⟩ := List.mem_map.1 hc
    subst h2
    exact AVal.scalar_shareCell (hcsc c' (List.mem_of_mem_drop h1))) (fun j => arr.getD (off + j) undef) (fun j c hj => ?_) (fun j c hj => ?_)
  · rw [List.getElem?_map, Option.map_eq_some_iff] at hj
    obtain ⟨c', hj, _⟩ := hj
    rw [List.getElem?_drop] at hj
    have hlt := lt_of_getElem? hj
    refine ⟨?_, freeze_own hg he hid' trivial _⟩
    show g.w.cell? _ = _
    rw [cell_of_row hrow]
    simp [Array.getD_eq_getD_getElem?, show off + j < arr.size by omega]
  rw [List.getElem?_map, Option.map_eq_some_iff] at hj
  obtain ⟨c', hj, e⟩ := hj
  subst e
  rw [List.getElem?_drop] at hj
  have hlt := lt_of_getElem? hj
  exact ((hcs _ c' _ hj (by simp [Array.getD_eq_getD_getElem?, show off + j < arr.size by omega])).mono hle).shareCell
theorem FSub.ms {O : List AObj} {id off len cap sz : Nat} {cs xs : List AVal} (hid : O[id]? = some (.cells cs)) (hsz : ∀ x ∈ xs, x.cells.length = sz) (hlen : xs.length = len) (hd : ((cs.drop off).take (len * sz)).map AVal.shareCell = cellsAll xs) : FSub O id (.ms id off len cap) (.lst sz xs .sh) := fun g u l' hg hO he hle h => by
  obtain ⟨l, o1, h1, h2, _, hlc, hmax, cap', hcap, eu⟩ := h.ms_inv
  subst eu
  rw [he] at h1
  simp only [Option.some.injEq] at h1
  subst h1
  have hid' : g.objs[id]? = some (.cells cs) := by rw [hO]; exact hid
  obtain ⟨arr, t', hlo, hrow, hal, hcs, hcsc, _⟩ := hg.row hid' he
  subst hlen
  have key : ∀ (j : Nat) (c : AVal), (cellsAll xs)[j]? = some c → ∃ c', cs[off + j]? = some c' ∧ c'.shareCell = c := fun j c hj => by
    rw [← hd, List.getElem?_map, Option.map_eq_some_iff] at hj
    obtain ⟨c', hj, e⟩ := hj
    have := take_get hj
    rw [List.getElem?_drop] at this
    exact ⟨c', this, e⟩
  refine .lst hsz (fun x hx c hc => ?_) (Nat.le_trans hlc hcap) hmax (fun _ => rfl) (fun j => arr.getD (off + j) undef) (fun j c hj => ?_) (fun j c hj => ?_) trivial
  · have hmem : c ∈ cellsAll xs := by
      simp only [cellsAll, List.mem_flatMap]
      exact ⟨x, hx, hc⟩
    obtain ⟨j, hj⟩ := List.getElem?_of_mem hmem
    obtain ⟨c', hj', e⟩ := key j c hj
    subst e
    exact AVal.scalar_shareCell (hcsc c' (List.mem_of_getElem? hj'))
  · obtain ⟨c', hj', e⟩ := key j c hj
    have hlt := lt_of_getElem? hj'
    refine ⟨?_, freeze_own hg he hid' trivial _⟩
    show g.w.cell? _ = _
    simp only
    rw [cell_of_row hrow]
    simp [Array.getD_eq_getD_getElem?, show off + j < arr.size by omega]
  obtain ⟨c', hj', e⟩ := key j c hj
  have hlt := lt_of_getElem? hj'
  subst e
  exact ((hcs _ c' _ hj' (by simp [Array.getD_eq_getD_getElem?, show off + j < arr.size by omega])).mono hle).shareCell
theorem FSub.mm {O : List AObj} {id : Nat} {kt : KT} {es : List (Value × AVal)} (hid : O[id]? = some (.map kt es)) : FSub O id (.mm id) (.im kt es) := fun g u l' hg hO he hle h => by
  obtain ⟨l, o1, h1, h2, _, eu⟩ := h.mm_inv
  subst eu
  rw [he] at h1
  simp only [Option.some.injEq] at h1
  subst h1
  have hid' : g.objs[id]? = some (.map kt es) := by rw [hO]; exact hid
  obtain ⟨l2, arr, clk, e1, e2, e3, e4, e5, e6⟩ := hg.map id kt es hid'
  rw [he] at e1
  simp only [Option.some.injEq] at e1
  subst e1
  exact .im (r := l.block) (clk := clk) (arr := arr) e3 (fun off => freeze_own hg he hid' trivial off) e4 (fun i e kx a b => (e6 i e kx a b).1) e5 (fun i e kx a b => (e6 i e kx a b).2.2.mono hle)
theorem awp_freeze {P : Program} {kb : Nat} {c : Code} {Q : AEx → St → Prop} {n : Nat} {slots : List (Nat × AVal)} {O : List AObj} (id : Nat) {o : AObj} (hid : O[id]? = some o) (hp : ¬ o.isSpare) (hlive : o.live) (slots' : List (Nat × AVal))
    (hs : ∀ s y, look slots' s = some y → ∃ x, look slots s = some x ∧ FSub O id x y) (h : AWP P kb c Q ⟨n, slots', O.set id .gone⟩) : AWP P kb c Q ⟨n, slots, O⟩ :=
  h.weaken fun base a g hb hr => by
    have hO : g.objs = O := hr.objs
    have hid' : g.objs[id]? = some o := by rw [hO]; exact hid
    have hlt := env_lt hr.good hid'
    have he : g.env[id]? = some g.env[id] := List.getElem?_eq_getElem hlt
    have ht := turns_gone hid' he hp hlive
    have hle := Le.turn hr.good ht
    refine ⟨g.freeze id g.env[id], rfl, { le := hr.le.trans hle, good := Good.turn hr.good ht trivial (fun _ _ h => h.elim), objs := by simp [G.freeze, G.turn, hO], size := hr.size, defers := hr.defers, slot := fun s y hy => ?_ }⟩
    obtain ⟨x, h1, h2⟩ := hs s y hy
    obtain ⟨u, h3, h4⟩ := hr.slot s x h1
    exact ⟨u, h3, h2 g u _ hr.good hO he hle h4⟩
theorem awp_freeze1 {P : Program} {kb : Nat} {c : Code} {Q : AEx → St → Prop} {n : Nat} {slots : List (Nat × AVal)} {O : List AObj} (s id : Nat) {o : AObj} {x : AVal} (y : AVal) (hid : O[id]? = some o) (hp : ¬ o.isSpare) (hlive : o.live) (hx : look slots s = some x) (hf : FSub O id x y)
    (h : AWP P kb c Q ⟨n, putS s y slots, O.set id .gone⟩) : AWP P kb c Q ⟨n, slots, O⟩ :=
  awp_freeze id hid hp hlive (putS s y slots) (fun k z hz => by
    rw [look_putS] at hz
    split at hz
    · rename_i e
      subst e
      simp only [Option.some.injEq] at hz
      subst hz
      exact ⟨x, hx, hf⟩
    exact ⟨z, hz, .refl z⟩) h
theorem awp_freeze_in {P : Program} {kb : Nat} {c : Code} {Q : AEx → St → Prop} {n : Nat} {slots : List (Nat × AVal)} {O : List AObj} (id : Nat) {o : AObj} (hid : O[id]? = some o) (hp : ¬ o.isSpare) (hlive : o.live) (slots' : List (Nat × AVal))
    (hs : ∀ s y, look slots' s = some y → ∃ x, look slots s = some x ∧ FSub O id x y) (k : Nat) (hk : k ≠ id) (cs ds : List AVal) (hok : O[k]? = some (.cells cs)) (hl : cs.length = ds.length) (hsc : ∀ d ∈ ds, d.scalar)
    (hcs : ∀ (j : Nat) (c d : AVal), cs[j]? = some c → ds[j]? = some d → FSub O id c d) (h : AWP P kb c Q ⟨n, slots', (O.set id .gone).set k (.cells ds)⟩) : AWP P kb c Q ⟨n, slots, O⟩ :=
  h.weaken fun base a g hb hr => by
    have hO : g.objs = O := hr.objs
    have hid' : g.objs[id]? = some o := by rw [hO]; exact hid
    have hlt := env_lt hr.good hid'
    have he : g.env[id]? = some g.env[id] := List.getElem?_eq_getElem hlt
    have ht := turns_gone hid' he hp hlive
    have hle := Le.turn hr.good ht
    have hgood := Good.turn hr.good ht trivial (fun _ _ h => h.elim)
    obtain ⟨l, arr, t, e1, e2, e3, e4, e5, e6⟩ := hr.good.cells k cs (by rw [hO]; exact hok)
    have hok1 : (g.freeze id g.env[id]).objs[k]? = some (.cells cs) := by
      simp only [G.freeze, G.turn]
      rw [List.getElem?_set_ne (Ne.symm hk), hO]
      exact hok
    have hek1 : (g.freeze id g.env[id]).env[k]? = some (some l) := by
      simp only [G.freeze, G.turn]
      rw [List.getElem?_set_ne (Ne.symm hk)]
      exact e1
    have ht2 : Turns (g.freeze id g.env[id]) k (.cells cs) (some l) (.cells ds) g.w := {
      obj := hok1
      os := rfl
      tape := rfl
      output := rfl
      size := Nat.le_refl _
      block := fun _ _ _ => rfl
      cell := fun b off x hx _ => hx
      place := fun l1 h1 _ => by
        simp only [Option.some.injEq] at h1
        subst h1
        exact .inr ⟨l, hek1, trivial, rfl, Nat.le_refl _⟩
      spare := fun m h => by cases h
      plain := fun _ => ⟨by simp [AObj.isSpare], hek1⟩
      gone := by simp }
    have hle2 := Le.turn hgood ht2
    have hgood2 := Good.turn hgood ht2 ⟨l, arr, t, rfl, e2, e3, by omega, fun j d u hd hu => by
      have hlt := lt_of_getElem? hd
      have hc : cs[j]? = some cs[j] := List.getElem?_eq_getElem (by omega)
      exact (hcs j _ d hc hd g u _ hr.good hO he hle (e5 j _ u hc hu)).mono hle2, hsc, e6.2⟩ (fun l1 h1 _ => by
        simp only [Option.some.injEq] at h1
        subst h1
        exact lt_of_getElem?' e3)
    refine ⟨(g.freeze id g.env[id]).turn k (some l) (.cells ds) g.w, rfl, { le := (hr.le.trans hle).trans hle2, good := hgood2, objs := by simp [G.freeze, G.turn, hO], size := hr.size, defers := hr.defers, slot := fun s y hy => ?_ }⟩
    obtain ⟨x, h1, h2⟩ := hs s y hy
    obtain ⟨u, h3, h4⟩ := hr.slot s x h1
    exact ⟨u, h3, (h2 g u _ hr.good hO he hle h4).mono hle2⟩
theorem run_neq_slice_some_nil {P : Program} (w : World) {t e : TypeId} (a : Addr) (n c : Nat) (ht : P.underlying t = some (.slice e)) :
    (binOp .neq t (.slice (some a) n c) (.slice none 0 0)).run P w = .ok (.bool true) w := by
  have h : ∀ d : Nat, (Op.equalIn (d + 1) t (.slice (some a) n c) (.slice none 0 0)).run P w = .ok false w := fun d => by
    simp [Op.equalIn, run_underlying ht]
  simp only [binOp]
  simp [Op.equal, Op.maxDepth, h 9999]
theorem run_neq_slice_nil_nil {P : Program} (w : World) {t e : TypeId} (n c : Nat) (ht : P.underlying t = some (.slice e)) :
    (binOp .neq t (.slice none n c) (.slice none 0 0)).run P w = .ok (.bool false) w := by
  have h : ∀ d : Nat, (Op.equalIn (d + 1) t (.slice none n c) (.slice none 0 0)).run P w = .ok true w := fun d => by
    simp [Op.equalIn, run_underlying ht]
  simp only [binOp]
  simp [Op.equal, Op.maxDepth, h 9999]
theorem run_nil_test {P : Program} (w : World) {op : BinOp} {t e : TypeId} {u : Value} {b r : Bool} (ht : P.underlying t = some (.slice e)) (hu : (∃ n c, u = .slice none n c ∧ b = true) ∨ (∃ a n c, u = .slice (some a) n c ∧ b = false))
    (hr : (op = .eql ∧ r = b) ∨ (op = .neq ∧ r = !b)) : (binOp op t u (.slice none 0 0)).run P w = .ok (.bool r) w := by
  rcases hu with ⟨n, c, e1, e2⟩ | ⟨a, n, c, e1, e2⟩ <;> rcases hr with ⟨e3, e4⟩ | ⟨e3, e4⟩ <;> subst e1 <;> subst e2 <;> subst e3 <;> subst e4
  · exact Go.Lib.run_eql_slice_nil_nil w n c ht
  · exact run_neq_slice_nil_nil w n c ht
  · exact Go.Lib.run_eql_slice_some_nil w a n c ht
  exact run_neq_slice_some_nil w a n c ht
theorem cert_eqlNil {P : Program} {tab : Tab} (hT : TabOK P tab) {o : Oper} {σ : St} {t t' e : TypeId} {x : Operand} {ti : TInfo} {y : AVal} {b r : Bool} {op : BinOp}
    (ho : o.op = .binOp op t x (.const (.slice none 0 0)) t') (hd : ∀ d, o.dst = some d → d < σ.n) (ht : tab t = some ti) (hdesc : ti.desc = .slice e) (hx : σ.ev x = some y)
    (hy : (y = .v (.slice none 0 0) ∧ b = true) ∨ (∃ sz xs, y = .lst sz xs .nn ∧ b = false) ∨ (∃ id off len cap, y = .ms id off len cap ∧ b = false)) (hr : (op = .eql ∧ r = b) ∨ (op = .neq ∧ r = !b)) : Cert P o σ (.v (.bool r)) .pure :=
  Cert.ofQuiet .pure (.inl rfl) hd fun a g _ h _ => by
    have hu := slice_desc hT ht hdesc
    have hx' := h x (by simp [ho, Op.operands]) _ hx
    refine ⟨.bool r, ?_, .v trivial⟩
    have hsl : (∃ n c, a.eval x = .slice none n c ∧ b = true) ∨ (∃ ad n c, a.eval x = .slice (some ad) n c ∧ b = false) := by
      rcases hy with ⟨e1, e2⟩ | ⟨sz, xs, e1, e2⟩ | ⟨id, off, len, cap, e1, e2⟩
      · subst e1
        exact .inl ⟨_, _, hx'.v_inv.1, e2⟩
      · subst e1
        cases hv : a.eval x with
        | slice ad len cap =>
          rw [hv] at hx'
          cases hx' with
          | nil ho hn => exact absurd rfl hn
          | lst hsz hsc hcap hmax hs f hm hr ho => exact .inr ⟨_, _, _, rfl, e2⟩
        | _ => rw [hv] at hx'; cases hx'
      subst e1
      obtain ⟨l, o1, _, _, _, _, _, cap', _, eu⟩ := hx'.ms_inv
      exact .inr ⟨_, _, _, eu, e2⟩
    have hrun := run_nil_test (P := P) g.w hu hsl hr
    have hsl' : ∃ ad n c, a.eval x = .slice ad n c := by
      rcases hsl with ⟨_, _, e, _⟩ | ⟨_, _, _, e, _⟩
      · exact ⟨_, _, _, e⟩
      exact ⟨_, _, _, e⟩
    obtain ⟨ad, n, c, hsl'⟩ := hsl'
    have hg := run_eqGuard_flat (P := P) op t x (.const (.slice none 0 0)) (.slice ad n c) (.slice none 0 0) g.w (by simp) (by simp)
    rw [hsl'] at hrun
    have hc : a.eval (.const (.slice none 0 0)) = .slice none 0 0 := rfl
    simp [execOp, ho, hsl', hc, hg, hrun]
theorem cert_capEx {P : Program} {tab : Tab} (hT : TabOK P tab) {o : Oper} {σ : St} {t e : TypeId} {x : Operand} {ti : TInfo} {sz : Nat} {xs : List AVal}
    (ho : o.op = .call ⟨.builtin .cap, #[x], #[t]⟩) (hd : ∀ d, o.dst = some d → d < σ.n) (ht : tab t = some ti) (hdesc : ti.desc = .slice e) (hx : σ.ev x = some (.lst sz xs .ex)) : Cert P o σ (.v (.int .i64 xs.length)) .pure :=
  Cert.ofQuiet .pure (.inl rfl) hd fun a g _ h _ => by
    have hu := slice_desc hT ht hdesc
    have hx' := h x (by simp [ho, Op.operands, Call.operands]) _ hx
    have hmax := hx'.lst_len
    have key : ∃ ad, a.eval x = .slice ad xs.length xs.length := by
      rcases hx'.lst_inv with ⟨q1, q2⟩ | ⟨ad, cap, _, q1, _, _, _, _, _, _, _, q2⟩
      · subst q2
        exact ⟨_, q1⟩
      have q3 : cap = xs.length := q2
      subst q3
      exact ⟨_, q1⟩
    obtain ⟨ad, q1⟩ := key
    refine ⟨.int .i64 xs.length, ?_, .v ?_⟩
    · rw [run_builtin1 ho]
      simp [builtin, Builtin.cap_, q1, run_underlying hu, goInt]
    simp [flatOK, IntKind.min, IntKind.max, IntKind.bits, IntKind.signed]
    omega
theorem cert_nilCheck {P : Program} {o : Oper} {σ : St} {x : Operand} {y : AVal} (ho : o.op = .nilCheck x) (hd : ∀ d, o.dst = some d → d < σ.n) (hx : σ.ev x = some y)
    (hy : (∃ id off, y = .mp id off) ∨ ∃ oa cs, y = .ip oa cs) : Cert P o σ y .pure :=
  Cert.ofQuiet .pure (.inl rfl) hd fun a g _ h _ => by
    have hx' := h x (by simp [ho, Op.operands]) _ hx
    have key : ∃ ad, a.eval x = .pointer (some ad) := by
      rcases hy with ⟨id, off, e⟩ | ⟨oa, cs, e⟩
      · subst e
        obtain ⟨l, o1, _, _, _, eu⟩ := hx'.mp_inv
        exact ⟨_, eu⟩
      subst e
      obtain ⟨b, off, f, eu, _⟩ := hx'.ip_inv
      exact ⟨_, eu⟩
    obtain ⟨ad, e⟩ := key
    exact ⟨a.eval x, by simp [execOp, ho, e], hx'⟩
theorem cert_slice_full {P : Program} {tab : Tab} (hT : TabOK P tab) {o : Oper} {σ : St} {t e : TypeId} {x : Operand} {ti te : TInfo} {sz : Nat} {xs : List AVal} {ow : Own} {lo hi : Option Operand}
    (ho : o.op = .slice t x lo hi none) (hd : ∀ d, o.dst = some d → d < σ.n) (ht : tab t = some ti) (hdesc : ti.desc = .slice e) (he : tab e = some te) (hx : σ.ev x = some (.lst sz xs ow))
    (hlo : bndOK σ lo 0 0) (hhi : bndOK σ hi xs.length xs.length) : Cert P o σ (.lst sz xs ow) .pure :=
  Cert.ofQuiet .pure (.inl rfl) hd fun a g _ hh _ => by
    have hu := slice_desc hT ht hdesc
    have hx' := hh x (by cases lo <;> cases hi <;> simp [ho, Op.operands]) _ hx
    have hl : (lo = none) ∨ ∃ q k, lo = some q ∧ a.eval q = .int k (0 : Int) := by
      rcases hlo with q | ⟨q, k, e1, e2⟩
      · exact .inl q.1
      exact .inr ⟨q, k, e1, (hh q (by subst e1; cases hi <;> simp [ho, Op.operands]) _ e2).v_inv.1⟩
    have hi' : (hi = none) ∨ ∃ q k, hi = some q ∧ a.eval q = .int k (xs.length : Int) := by
      rcases hhi with q | ⟨q, k, e1, e2⟩
      · exact .inl q.1
      exact .inr ⟨q, k, e1, (hh q (by subst e1; cases lo <;> simp [ho, Op.operands]) _ e2).v_inv.1⟩
    have hexec : execOp a.eval o = (do pure (.value (← Instr.sliceAt t (a.eval x) (lo.map a.eval) (hi.map a.eval) none))) := by
      simp [execOp, ho]
    clear hlo hhi ho
    have bounds : ∀ cap : Nat, xs.length ≤ cap → (Instr.sliceBounds true xs.length cap (lo.map a.eval) (hi.map a.eval) none).run P g.w = .ok (0, xs.length, cap) g.w := by
      intro cap hcap
      rcases hl with e1 | ⟨p, k, e1, hk⟩
      · rcases hi' with e3 | ⟨q, k', e3, hk'⟩
        · subst e1 e3
          simp [Instr.sliceBounds]
        subst e1 e3
        have := run_sliceBound (P := P) k' xs.length cap .sliceAcap g.w (by omega) (by omega)
        simp [Instr.sliceBounds, hk', this]
      rcases hi' with e3 | ⟨q, k', e3, hk'⟩
      · subst e1 e3
        have := run_sliceBound (P := P) k 0 xs.length .sliceB g.w (by omega) (by omega)
        simp [Instr.sliceBounds, hk, this]
      subst e1 e3
      have e1 := run_sliceBound (P := P) k' xs.length cap .sliceAcap g.w (by omega) (by omega)
      have e2 := run_sliceBound (P := P) k 0 xs.length .sliceB g.w (by omega) (by omega)
      simp [Instr.sliceBounds, hk, hk', e1, e2]
    have hsize := (hT e te he).sizeOf g.w
    refine ⟨a.eval x, ?_, hx'⟩
    rw [hexec]
    rcases hx'.lst_inv with ⟨q1, q2⟩ | ⟨ad, cap, f, q1, hsz', hsc, hcap, hmax, hs, hm, hr, _⟩
    · subst q2
      have b := bounds 0 (by simp)
      simp only [List.length_nil] at b
      simp [Instr.sliceAt, run_underlying hu, Instr.slice, q1, hsize, b]
    have b := bounds cap hcap
    by_cases hc0 : cap = 0
    · subst hc0
      simp [Instr.sliceAt, run_underlying hu, Instr.slice, q1, hsize, b, Addr.add]
    simp [Instr.sliceAt, run_underlying hu, Instr.slice, q1, hsize, b, hc0, Addr.add]
theorem cert_slice_ms {P : Program} {tab : Tab} (hT : TabOK P tab) {o : Oper} {σ : St} {t e : TypeId} {x : Operand} {ti te : TInfo} {id off len cap : Nat} {lo hi : Option Operand} {l h : Nat}
    (ho : o.op = .slice t x lo hi none) (hd : ∀ d, o.dst = some d → d < σ.n) (ht : tab t = some ti) (hdesc : ti.desc = .slice e) (he : tab e = some te) (hx : σ.ev x = some (.ms id off len cap))
    (hlo : bndOK σ lo 0 l) (hhi : bndOK σ hi len h) (h1 : l ≤ h) (h2 : h ≤ cap) (h3 : l < cap) (h62 : h ≤ 2 ^ 62) : Cert P o σ (.ms id (off + l * te.size) (h - l) (cap - l)) .pure :=
  Cert.ofQuiet .pure (.inl rfl) hd fun a g _ hh _ => by
    have hu := slice_desc hT ht hdesc
    have hx' := hh x (by cases lo <;> cases hi <;> simp [ho, Op.operands]) _ hx
    have hl : (lo = none ∧ l = 0) ∨ ∃ q k, lo = some q ∧ a.eval q = .int k (l : Int) := by
      rcases hlo with q | ⟨q, k, e1, e2⟩
      · exact .inl q
      exact .inr ⟨q, k, e1, (hh q (by subst e1; cases hi <;> simp [ho, Op.operands]) _ e2).v_inv.1⟩
    have hi' : (hi = none ∧ h = len) ∨ ∃ q k, hi = some q ∧ a.eval q = .int k (h : Int) := by
      rcases hhi with q | ⟨q, k, e1, e2⟩
      · exact .inl q
      exact .inr ⟨q, k, e1, (hh q (by subst e1; cases lo <;> simp [ho, Op.operands]) _ e2).v_inv.1⟩
    have hexec : execOp a.eval o = (do pure (.value (← Instr.sliceAt t (a.eval x) (lo.map a.eval) (hi.map a.eval) none))) := by
      simp [execOp, ho]
    clear hlo hhi ho
    obtain ⟨lc, o1, q1, q2, q3, hlc, hmax, cap', hcap, eu⟩ := hx'.ms_inv
    have bounds : (Instr.sliceBounds true len cap' (lo.map a.eval) (hi.map a.eval) none).run P g.w = .ok (l, h, cap') g.w := by
      rcases hl with ⟨e1, e2⟩ | ⟨p, k, e1, hk⟩
      · rcases hi' with ⟨e3, e4⟩ | ⟨q, k', e3, hk'⟩
        · subst e1 e2 e3 e4
          simp [Instr.sliceBounds]
        subst e1 e2 e3
        have := run_sliceBound (P := P) k' h cap' .sliceAcap g.w (by omega) (by omega)
        simp [Instr.sliceBounds, hk', this]
      rcases hi' with ⟨e3, e4⟩ | ⟨q, k', e3, hk'⟩
      · subst e1 e3 e4
        have := run_sliceBound (P := P) k l h .sliceB g.w (by omega) (by omega)
        simp [Instr.sliceBounds, hk, this]
      subst e1 e3
      have e1 := run_sliceBound (P := P) k' h cap' .sliceAcap g.w (by omega) (by omega)
      have e2 := run_sliceBound (P := P) k l h .sliceB g.w (by omega) (by omega)
      simp [Instr.sliceBounds, hk, hk', e1, e2]
    have hsize := (hT e te he).sizeOf g.w
    refine ⟨.slice (some ((⟨lc.block, off, none⟩ : Addr).add (l * te.size))) (h - l) (cap' - l), ?_, ?_⟩
    · rw [hexec]
      simp [Instr.sliceAt, run_underlying hu, Instr.slice, eu, bounds, hsize, show cap' ≠ l by omega]
    rw [addr_add]
    exact .ms q1 q2 q3 (by omega) (by omega) (by omega)
theorem cert_slice_raw {P : Program} {tab : Tab} (hT : TabOK P tab) {o : Oper} {σ : St} {t e : TypeId} {x : Operand} {ti te : TInfo} {id sz len : Nat} {lo hi : Option Operand} 
    (ho : o.op = .slice t x lo hi none) (hd : ∀ d, o.dst = some d → d < σ.n) (ht : tab t = some ti) (hdesc : ti.desc = .slice e) (he : tab e = some te) (hx : σ.ev x = some (.raw sz len id))
    (hlo : bndOK σ lo 0 0) (hhi : bndOK σ hi len 0) (h3 : 0 < len) : Cert P o σ (.lst sz [] (.tok id)) .pure :=
  Cert.ofQuiet .pure (.inl rfl) hd fun a g _ hh _ => by
    have hu := slice_desc hT ht hdesc
    have hx' := hh x (by cases lo <;> cases hi <;> simp [ho, Op.operands]) _ hx
    have hl : (lo = none ∧ (0 : Nat) = 0) ∨ ∃ q k, lo = some q ∧ a.eval q = .int k ((0 : Nat) : Int) := by
      rcases hlo with q | ⟨q, k, e1, e2⟩
      · exact .inl q
      exact .inr ⟨q, k, e1, (hh q (by subst e1; cases hi <;> simp [ho, Op.operands]) _ e2).v_inv.1⟩
    have hi' : (hi = none ∧ (0 : Nat) = len) ∨ ∃ q k, hi = some q ∧ a.eval q = .int k ((0 : Nat) : Int) := by
      rcases hhi with q | ⟨q, k, e1, e2⟩
      · exact .inl q
      exact .inr ⟨q, k, e1, (hh q (by subst e1; cases lo <;> simp [ho, Op.operands]) _ e2).v_inv.1⟩
    have hexec : execOp a.eval o = (do pure (.value (← Instr.sliceAt t (a.eval x) (lo.map a.eval) (hi.map a.eval) none))) := by
      simp [execOp, ho]
    clear hlo hhi ho
    obtain ⟨ad, cap', eu, hcap, how⟩ := hx'.raw_inv
    have bounds : (Instr.sliceBounds true len cap' (lo.map a.eval) (hi.map a.eval) none).run P g.w = .ok (0, 0, cap') g.w := by
      rcases hl with ⟨e1, e2⟩ | ⟨p, k, e1, hk⟩
      · rcases hi' with ⟨e3, e4⟩ | ⟨q, k', e3, hk'⟩
        · omega
        subst e1 e3
        have := run_sliceBound (P := P) k' 0 cap' .sliceAcap g.w (by omega) (by omega)
        simp [Instr.sliceBounds, hk', this]
      rcases hi' with ⟨e3, e4⟩ | ⟨q, k', e3, hk'⟩
      · omega
      subst e1 e3
      have e1 := run_sliceBound (P := P) k' 0 cap' .sliceAcap g.w (by omega) (by omega)
      have e2 := run_sliceBound (P := P) k 0 0 .sliceB g.w (by omega) (by omega)
      simp [Instr.sliceBounds, hk, hk', e1, e2]
    have hsize := (hT e te he).sizeOf g.w
    refine ⟨.slice (some (ad.add (0 * te.size))) (0 - 0) (cap' - 0), ?_, ?_⟩
    · rw [hexec]
      simp [Instr.sliceAt, run_underlying hu, Instr.slice, eu, bounds, hsize, show cap' ≠ 0 by omega]
    rw [Nat.zero_mul, show ad.add 0 = ad by cases ad; rfl]
    exact .lst (xs := []) (by simp) (by simp) (Nat.zero_le _) (Nat.zero_le _) (by simp) (fun _ => undef) (by simp [cellsAll]) (by simp [cellsAll]) how
theorem cert_append_obj {P : Program} {tab : Tab} (hT : TabOK P tab) {o : Oper} {σ : St} {t e : TypeId} {x y : Operand} {ti te : TInfo} {sz : Nat} {xs ys : List AVal} {ow : Own}
    (ho : o.op = .call ⟨.builtin .append, #[x, y], #[t, t]⟩) (hd : ∀ d, o.dst = some d → d < σ.n) (ht : tab t = some ti) (hdesc : ti.desc = .slice e) (he : tab e = some te) (hsz : te.size = sz) (hx : σ.ev x = some (.lst sz xs .ex)) (hy : σ.ev y = some (.lst sz ys ow))
    (hn : ys.length ≠ 0) (hlen : xs.length + ys.length ≤ 2 ^ 62) (hb : (xs.length + ys.length) * te.bytes ≤ 2 ^ 47) :
    Cert P o σ (.ms σ.objs.length 0 (xs.length + ys.length) (xs.length + ys.length)) (.write (σ.objs ++ [.cells (cellsAll (xs ++ ys.map AVal.share))])) :=
  Cert.ofRun hd fun base σ' a g hrel h ho' => by
    have hO : g.objs = σ.objs := ho'.resolve_left (by simp)
    have hg := hrel.good
    have hu := slice_desc hT ht hdesc
    subst hsz
    have hx' := h x (by simp [ho, Op.operands, Call.operands]) _ hx
    have hy' := h y (by simp [ho, Op.operands, Call.operands]) _ hy
    obtain ⟨adx, capx, olds, ex, hx1, hx2, hx3, hx4, hx5, hx6⟩ := hx'.lst_read (P := P)
    obtain ⟨ady, capy, news, ey, hy1, hy2, hy3, hy4, hy5, hy6⟩ := hy'.lst_read (P := P)
    obtain ⟨⟨i, z, h1, h2, h3, h4, h5, h6, h7, h8, h9⟩, _⟩ := hT e te he
    have hcapx : capx = xs.length := by
      rcases hx'.lst_inv with ⟨q1, q2⟩ | ⟨ad, cap, f, q1, _, _, _, _, _, _, _, q2⟩
      · rw [ex] at q1
        cases q2
        simp at q1
        simp [q1]
      rw [ex] at q1
      simp only [Value.slice.injEq] at q1
      rw [q1.2.2]
      exact q2
    subst hcapx
    have hexec := run_builtin1 (P := P) ho a g.w
    simp only [builtin, List.map_toArray, List.map_cons, List.map_nil] at hexec
    have hrun := run_append_new (P := P) g.w t o.type e i z hu h1 h4 adx xs.length xs.length ys.length (a.eval y) olds news hy1 (by rw [h2]; exact hy2 g.w.drew rfl) (by rw [h2, ← ex]; exact hx2 g.w.drew rfl) (by omega) hlen (by rw [h3]; exact hb)
    rw [← ex] at hrun
    obtain ⟨cap, hcap⟩ : ∃ cap, cap = grownCap g.w (xs.length + ys.length) xs.length e := ⟨_, rfl⟩
    obtain ⟨rest, hrest⟩ : ∃ rest, rest = Builtin.zeroCells z.cells (cap - (xs.length + ys.length)) := ⟨_, rfl⟩
    have hge := grownCap_ge g.w (xs.length + ys.length) xs.length e
    rw [← hcap] at hrun hge
    rw [← hrest] at hrun
    obtain ⟨arr, harr⟩ : ∃ arr, arr = olds.toArray ++ news.toArray ++ rest := ⟨_, rfl⟩
    rw [← harr] at hrun
    have hgd := hg.heap (w' := g.w.drew) rfl rfl rfl rfl
    have hled := Le.heap (g := g) (w' := g.w.drew) rfl rfl rfl rfl
    obtain ⟨g1, hg1⟩ : ∃ g1 : G, g1 = ⟨g.w.drew, g.fr, g.env, g.objs⟩ := ⟨_, rfl⟩
    rw [← hg1] at hgd hled
    have hw1 : g1.w = g.w.drew := by rw [hg1]
    have ho1 : g1.objs = σ.objs := by rw [hg1]; exact hO
    have hcells := hx3.append hy3.share_list
    rw [← cellsAll_append] at hcells
    have hcl : (cellsAll (xs ++ ys.map AVal.share)).length = (xs.length + ys.length) * te.size := by
      rw [cellsAll_length (sz := te.size) (fun x hx => by
        rcases List.mem_append.1 hx with q | q
        · exact hx4 x q
        exact map_share_size hy4 x q)]
      simp
    have hasz : (cellsAll (xs ++ ys.map AVal.share)).length ≤ arr.size := by
      rw [hcl, harr]
      simp only [Array.size_append, List.size_toArray, hx6, hy6, ← Nat.add_mul]
      omega
    have hle := hled.trans (Le.alloc hgd (.cells arr e) 0 (.cells (cellsAll (xs ++ ys.map AVal.share))))
    have hobj : Fits (g1.alloc (.cells arr e) 0 (.cells (cellsAll (xs ++ ys.map AVal.share)))) (.cells arr e) (.cells (cellsAll (xs ++ ys.map AVal.share))) := by
      refine ⟨arr, e, rfl, hasz, fun j c u hj hu => ?_, fun c hc => ?_⟩
      · have hlt := lt_of_getElem? hj
        rw [hcl] at hlt
        rw [harr] at hu
        have hu2 := append_cells_get hu (by simp only [List.size_toArray, hx6, hy6, ← Nat.add_mul]; exact hlt)
        exact (hcells.2 j c u hj (by simpa using hu2)).mono hle
      rw [cellsAll_append] at hc
      rcases List.mem_append.1 hc with q | q
      · exact hx5 c q
      exact map_share_scalar hy5 c q
    have hgood := Good.alloc hgd (.cells arr e) 0 (.cells (cellsAll (xs ++ ys.map AVal.share))) (.inr rfl) hobj
    refine ⟨.slice (some ⟨g.w.heap.size, 0, none⟩) (xs.length + ys.length) cap, _, .inl ?_, hle, hgood, ?_, ?_⟩
    · rw [hexec]
      simp [hrun, G.alloc, hw1]
    · simp [G.alloc, ho1, Mode.post]
    rw [← ho1]
    have e1 : (g.w.heap.size) = g1.w.heap.size := by rw [hw1]; rfl
    rw [e1]
    exact .ms (l := ⟨g1.w.heap.size, 0, _⟩) (env_new hgd) objs_new (by simp [AObj.isSpare]) (Nat.le_refl _) hge hlen
theorem run_append_made {P : Program} (w : World) (t t' ty e : TypeId) (i : TypeInfo) (z : Value) (ht : P.underlying t = some (.slice e)) (ht' : P.underlying t' = some (.int .i64)) (hi : P.info? e = some i) (hz : i.zero = some z) (s : Option Addr) (n : Nat)
    (hs : (Builtin.firstCells i.size 0 (.slice s 0 0)).run P w.drew = .ok #[] w.drew) (hn : 0 < n) (h63 : n ≤ 2 ^ 62) (hfit : n * i.bytes ≤ 2 ^ 47) (hsz : 0 < i.size) :
    (Builtin.append_ #[t, t'] ty #[.slice s 0 0, .int .i64 n]).run P w =
      .ok (.slice (some ⟨w.heap.size, 0, none⟩) n (grownCap w n 0 e)) (w.drew.alloc (.cells (Builtin.zeroCells z.cells n ++ Builtin.zeroCells z.cells (grownCap w n 0 e - n)) e)) := by
  have hw : IntKind.i64.wrap (n : Int) = n := wrap_in .i64 n (by simp [IntKind.min, IntKind.bits, IntKind.signed] <;> omega) (by simp [IntKind.max, IntKind.bits, IntKind.signed] <;> omega)
  have h0 : ¬ ((n : Int) < 0) := by omega
  have h48 : ¬ ((2 : Int) ^ 48 < (n : Int) * (i.bytes : Int)) := by
    rw [← Int.natCast_mul]
    omega
  have hns : ¬ (n ≤ 0) := by omega
  have hne : ¬ (n * i.size = 0) := by
    have := Nat.mul_pos hn hsz
    omega
  have h1 : ¬ (9223372036854775807 < (n : Int)) := by omega
  have hcap : Builtin.nextslicecap n 0 = n := by
    unfold Builtin.nextslicecap
    rw [if_pos (by omega)]
  have ha : ∀ w : World, (asInt (.int .i64 (n : Int))).run P w = .ok (n : Int) w := fun _ => rfl
  have h48' : ¬ (281474976710656 < (n : Int) * (i.bytes : Int)) := by
    rw [← Int.natCast_mul]
    omega
  have h48'' : ¬ (281474976710656 < n * i.bytes) := by omega
  have hn0 : ¬ (n = 0) := by omega
  simp [Builtin.append_, run_underlying ht, run_underlying ht', Go.sizeOf, typeInfo, hi, ha, hw, hn0, h48', h48'', hcap, Question.forced, hs, Go.zeroValue, hz, Go.newRow, grownCap, h1]
  rw [if_neg h0, if_neg hne]
theorem cert_append_make {P : Program} {tab : Tab} (hT : TabOK P tab) {o : Oper} {σ : St} {t t' e : TypeId} {x y : Operand} {ti te : TInfo} {sz : Nat} {n : Int}
    (ho : o.op = .call ⟨.builtin .append, #[x, y], #[t, t']⟩) (hd : ∀ d, o.dst = some d → d < σ.n) (ht : tab t = some ti) (hdesc : ti.desc = .slice e) (he : tab e = some te) (ht' : P.underlying t' = some (.int .i64)) (hx : σ.ev x = some (.lst sz [] .ex)) (hy : σ.ev y = some (.v (.int .i64 n)))
    (hn : 0 < n) (hlen : n.toNat ≤ 2 ^ 62) (hb : n.toNat * te.bytes ≤ 2 ^ 47) (hsz : 0 < te.size) :
    Cert P o σ (.ms σ.objs.length 0 n.toNat n.toNat) (.write (σ.objs ++ [.cells (List.replicate n.toNat te.zero).flatten])) :=
  Cert.ofRun hd fun base σ' a g hrel h ho' => by
    have hO : g.objs = σ.objs := ho'.resolve_left (by simp)
    have hg := hrel.good
    have hu := slice_desc hT ht hdesc
    have hx' := h x (by simp [ho, Op.operands, Call.operands]) _ hx
    have ey := (h y (by simp [ho, Op.operands, Call.operands]) _ hy).v_inv.1
    obtain ⟨adx, capx, olds, ex, hx1, hx2, hx3, hx4, hx5, hx6⟩ := hx'.lst_read (P := P)
    obtain ⟨⟨i, z, h1, h2, h3, h4, h5, h6, h7, h8, h9⟩, _⟩ := hT e te he
    obtain ⟨m, rfl⟩ := Int.eq_ofNat_of_zero_le (show 0 ≤ n by omega)
    simp only [Int.toNat_natCast] at *
    have hcapx : capx = 0 := by
      rcases hx'.lst_inv with ⟨q1, q2⟩ | ⟨ad, cap, f, q1, _, _, _, _, _, _, _, q2⟩
      · rw [ex] at q1
        simp at q1
        exact q1.2
      rw [ex] at q1
      simp only [Value.slice.injEq] at q1
      rw [q1.2.2]
      exact q2
    subst hcapx
    simp only [List.length_nil] at ex
    have hexec := run_builtin1 (P := P) ho a g.w
    simp only [builtin, List.map_toArray, List.map_cons, List.map_nil] at hexec
    have hrun := run_append_made (P := P) g.w t t' o.type e i z hu ht' h1 h4 adx m (by cases adx <;> simp [Builtin.firstCells, loadCells, loadCellsFrom]) (by omega) hlen (by rw [h3]; exact hb) (by omega)
    rw [← ex] at hrun
    obtain ⟨cap, hcap⟩ : ∃ cap, cap = grownCap g.w m 0 e := ⟨_, rfl⟩
    have hge := grownCap_ge g.w m 0 e
    rw [← hcap] at hrun hge
    obtain ⟨rest, hrest⟩ : ∃ rest, rest = Builtin.zeroCells z.cells (cap - m) := ⟨_, rfl⟩
    rw [← hrest] at hrun
    obtain ⟨arr, harr⟩ : ∃ arr, arr = Builtin.zeroCells z.cells m ++ rest := ⟨_, rfl⟩
    rw [← harr] at hrun
    have hgd := hg.heap (w' := g.w.drew) rfl rfl rfl rfl
    have hled := Le.heap (g := g) (w' := g.w.drew) rfl rfl rfl rfl
    obtain ⟨g1, hg1⟩ : ∃ g1 : G, g1 = ⟨g.w.drew, g.fr, g.env, g.objs⟩ := ⟨_, rfl⟩
    rw [← hg1] at hgd hled
    have hw1 : g1.w = g.w.drew := by rw [hg1]
    have ho1 : g1.objs = σ.objs := by rw [hg1]; exact hO
    have hflen : (List.replicate m te.zero).flatten.length = m * te.size := by simp [h6]
    have hget : ∀ (j : Nat) (c : AVal), (List.replicate m te.zero).flatten[j]? = some c → te.zero[j % te.size]? = some c := fun j c => h6 ▸ rep_get te.zero (by omega) m j c
    have hle := hled.trans (Le.alloc hgd (.cells arr e) 0 (.cells (List.replicate m te.zero).flatten))
    have hzs : (Builtin.zeroCells z.cells m).size = m * te.size := by rw [size_zeroCells, h5, h6]
    have hobj : Fits (g1.alloc (.cells arr e) 0 (.cells (List.replicate m te.zero).flatten)) (.cells arr e) (.cells (List.replicate m te.zero).flatten) := by
      refine ⟨arr, e, rfl, by rw [hflen, harr, Array.size_append, hzs]; omega, fun j c u hj hu => ?_, fun c hc => ?_⟩
      · have hj' := hget j c hj
        have hlt := lt_of_getElem? hj
        rw [hflen] at hlt
        rw [harr, Array.getElem?_append, if_pos (by rw [hzs]; exact hlt)] at hu
        have hlt' : j % te.size < z.cells.size := by rw [h5]; exact lt_of_getElem? hj'
        refine h8 _ _ _ _ hj' ?_
        simp only [Builtin.zeroCells, Array.getElem?_map, h5, h6, Array.getElem?_range, if_pos hlt, Option.map_some, Option.some.injEq] at hu
        subst hu
        simp [hlt']
      rw [List.mem_flatten] at hc
      obtain ⟨l, hl, hc⟩ := hc
      rw [List.mem_replicate] at hl
      exact h9 c (hl.2 ▸ hc)
    have hgood := Good.alloc hgd (.cells arr e) 0 (.cells (List.replicate m te.zero).flatten) (.inr rfl) hobj
    refine ⟨.slice (some ⟨g.w.heap.size, 0, none⟩) m cap, _, .inl ?_, hle, hgood, ?_, ?_⟩
    · rw [hexec, ey]
      simp [hrun, G.alloc, hw1]
    · simp [G.alloc, ho1, Mode.post]
    rw [← ho1]
    have e1 : (g.w.heap.size) = g1.w.heap.size := by rw [hw1]; rfl
    rw [e1]
    exact .ms (l := ⟨g1.w.heap.size, 0, _⟩) (env_new hgd) objs_new (by simp [AObj.isSpare]) (Nat.le_refl _) (by omega) hlen
theorem cert_append_raw {P : Program} {tab : Tab} (hT : TabOK P tab) {o : Oper} {σ : St} {t t' e : TypeId} {x y : Operand} {ti te : TInfo} {sz : Nat} {n : Int}
    (ho : o.op = .call ⟨.builtin .append, #[x, y], #[t, t']⟩) (hd : ∀ d, o.dst = some d → d < σ.n) (ht : tab t = some ti) (hdesc : ti.desc = .slice e) (he : tab e = some te) (ht' : P.underlying t' = some (.int .i64)) (hx : σ.ev x = some (.lst sz [] .ex)) (hy : σ.ev y = some (.v (.int .i64 n)))
    (hn : 0 < n) (hlen : n.toNat ≤ 2 ^ 62) (hb : n.toNat * te.bytes ≤ 2 ^ 47) (hsz : 0 < te.size) :
    Cert P o σ (.raw te.size n.toNat σ.objs.length) (.write (σ.objs ++ [.spare 0])) :=
  Cert.ofRun hd fun base σ' a g hrel h ho' => by
    have hO : g.objs = σ.objs := ho'.resolve_left (by simp)
    have hg := hrel.good
    have hu := slice_desc hT ht hdesc
    have hx' := h x (by simp [ho, Op.operands, Call.operands]) _ hx
    have ey := (h y (by simp [ho, Op.operands, Call.operands]) _ hy).v_inv.1
    obtain ⟨adx, capx, olds, ex, hx1, hx2, hx3, hx4, hx5, hx6⟩ := hx'.lst_read (P := P)
    obtain ⟨⟨i, z, h1, h2, h3, h4, h5, h6, h7, h8, h9⟩, _⟩ := hT e te he
    obtain ⟨m, rfl⟩ := Int.eq_ofNat_of_zero_le (show 0 ≤ n by omega)
    simp only [Int.toNat_natCast] at *
    have hcapx : capx = 0 := by
      rcases hx'.lst_inv with ⟨q1, q2⟩ | ⟨ad, cap, f, q1, _, _, _, _, _, _, _, q2⟩
      · rw [ex] at q1
        simp at q1
        exact q1.2
      rw [ex] at q1
      simp only [Value.slice.injEq] at q1
      rw [q1.2.2]
      exact q2
    subst hcapx
    simp only [List.length_nil] at ex
    have hexec := run_builtin1 (P := P) ho a g.w
    simp only [builtin, List.map_toArray, List.map_cons, List.map_nil] at hexec
    have hrun := run_append_made (P := P) g.w t t' o.type e i z hu ht' h1 h4 adx m (by cases adx <;> simp [Builtin.firstCells, loadCells, loadCellsFrom]) (by omega) hlen (by rw [h3]; exact hb) (by omega)
    rw [← ex] at hrun
    obtain ⟨cap, hcap⟩ : ∃ cap, cap = grownCap g.w m 0 e := ⟨_, rfl⟩
    have hge := grownCap_ge g.w m 0 e
    rw [← hcap] at hrun hge
    obtain ⟨rest, hrest⟩ : ∃ rest, rest = Builtin.zeroCells z.cells (cap - m) := ⟨_, rfl⟩
    rw [← hrest] at hrun
    obtain ⟨arr, harr⟩ : ∃ arr, arr = Builtin.zeroCells z.cells m ++ rest := ⟨_, rfl⟩
    rw [← harr] at hrun
    have hgd := hg.heap (w' := g.w.drew) rfl rfl rfl rfl
    have hled := Le.heap (g := g) (w' := g.w.drew) rfl rfl rfl rfl
    obtain ⟨g1, hg1⟩ : ∃ g1 : G, g1 = ⟨g.w.drew, g.fr, g.env, g.objs⟩ := ⟨_, rfl⟩
    rw [← hg1] at hgd hled
    have hw1 : g1.w = g.w.drew := by rw [hg1]
    have ho1 : g1.objs = σ.objs := by rw [hg1]; exact hO
    have hle := hled.trans (Le.alloc hgd (.cells arr e) 0 (.spare 0))
    have hzs : (Builtin.zeroCells z.cells m).size = m * te.size := by rw [size_zeroCells, h5, h6]
    have hgood := Good.alloc hgd (.cells arr e) 0 (.spare 0) (.inr rfl) ⟨arr, e, rfl⟩
    have hrs : rest.size = (cap - m) * te.size := by rw [hrest, size_zeroCells, h5, h6]
    refine ⟨.slice (some ⟨g.w.heap.size, 0, none⟩) m cap, _, .inl ?_, hle, hgood, ?_, ?_⟩
    · rw [hexec, ey]
      simp [hrun, G.alloc, hw1]
    · simp [G.alloc, ho1, Mode.post]
    rw [← ho1]
    have e1 : (g.w.heap.size) = g1.w.heap.size := by rw [hw1]; rfl
    rw [e1]
    refine .raw (by omega) ⟨by simp [G.alloc], fun m' hm' => ?_⟩
    have hnew : (g1.alloc (.cells arr e) 0 (.spare 0)).objs[g1.objs.length]? = some (.spare 0) := objs_new
    rw [hnew] at hm'
    simp only [Option.some.injEq, AObj.spare.injEq] at hm'
    subst hm'
    refine ⟨Nat.le_refl _, fun _ => .inr ⟨⟨g1.w.heap.size, 0, _⟩, arr, e, env_new hgd, rfl, by simp, heap_push_new _ _, ?_⟩⟩
    rw [harr, Array.size_append, hzs, hrs, ← Nat.add_mul]
    exact Nat.mul_le_mul_right _ (by omega)
theorem cert_append_ms {P : Program} {tab : Tab} (hT : TabOK P tab) {o : Oper} {σ : St} {t e : TypeId} {x y : Operand} {ti te : TInfo} {id off len cap sz : Nat} {cs ys : List AVal} {ow : Own}
    (ho : o.op = .call ⟨.builtin .append, #[x, y], #[t, t]⟩) (hd : ∀ d, o.dst = some d → d < σ.n) (ht : tab t = some ti) (hdesc : ti.desc = .slice e) (he : tab e = some te) (hsz : te.size = sz) (hx : σ.ev x = some (.ms id off len cap)) (hob : σ.objs[id]? = some (.cells cs)) (hy : σ.ev y = some (.lst sz ys ow))
    (hroom : len + ys.length ≤ cap) (h62 : len + ys.length ≤ 2 ^ 62) (hin : off + (len + ys.length) * sz ≤ cs.length) :
    Cert P o σ (.ms id off (len + ys.length) cap) (.write (σ.objs.set id (.cells (splice cs (off + len * sz) (cellsAll (ys.map AVal.share)))))) :=
  Cert.ofRun hd fun base σ' a g hrel h ho' => by
    have hO : g.objs = σ.objs := ho'.resolve_left (by simp)
    have hg := hrel.good
    have hu := slice_desc hT ht hdesc
    subst hsz
    have hx' := h x (by simp [ho, Op.operands, Call.operands]) _ hx
    have hy' := h y (by simp [ho, Op.operands, Call.operands]) _ hy
    obtain ⟨l, o1, q1, q2, q3, hlc, hmax, cap', hcap, eu⟩ := hx'.ms_inv
    obtain ⟨ady, capy, news, ey, hy1, hy2, hy3, hy4, hy5, hy6⟩ := hy'.lst_read (P := P)
    obtain ⟨⟨i, z, h1, h2, h3, h4, h5, h6, h7, h8, h9⟩, _⟩ := hT e te he
    have hob' : g.objs[id]? = some (.cells cs) := by rw [hO]; exact hob
    obtain ⟨arr, t', hlo, hrow, hlen, hcs, hcsc, hlsz⟩ := hg.row hob' q1
    have hexec := run_builtin1 (P := P) ho a g.w
    simp only [builtin, List.map_toArray, List.map_cons, List.map_nil] at hexec
    obtain ⟨arr', harr'⟩ : ∃ arr', arr' = (arr.toList.take (off + len * te.size) ++ news ++ arr.toList.drop (off + len * te.size + news.length)).toArray := ⟨_, rfl⟩
    have hmul : off + (len + ys.length) * te.size = off + len * te.size + ys.length * te.size := by rw [Nat.add_mul]; omega
    have hst := run_storeCells_at P l.block (off + len * te.size) t' news 0 arr g.w hrow (by rw [hy6]; omega) (fun u hu => by
      obtain ⟨j, hj⟩ := List.getElem?_of_mem hu
      have hlt := lt_of_getElem? hj
      have hsz := hy3.1
      simp only [List.size_toArray] at hsz
      rw [hsz] at hlt
      have hc := List.getElem?_eq_getElem hlt
      exact ((hy3.2 j _ u hc (by simpa using hj)).scalar_cell (hy5 _ (List.mem_of_getElem? hc))).1)
    simp only [Nat.add_zero] at hst
    rw [← harr'] at hst
    have hrun := run_append_in (P := P) g.w (g.w.setRow l.block arr') t o.type e i hu h1 ⟨l.block, off, none⟩ len cap' ys.length (a.eval y) news hy1 (by rw [h2]; exact hy2 g.w rfl) (by omega) (by rw [addr_add, h2]; exact hst)
    rw [← eu] at hrun
    have hturn := turns_cells (cs' := splice cs (off + len * te.size) (cellsAll (ys.map AVal.share))) hob' q1 hlo arr'
    have hle := Le.turn hg hturn
    have hsh := hy3.share_list
    have hcl : (cellsAll (ys.map AVal.share)).length = ys.length * te.size := by
      rw [cellsAll_length (map_share_size hy4)]
      simp
    have hsp := RVs.splice ⟨hlen, hcs⟩ hsh (off := off + len * te.size) (by rw [hcl]; omega)
    simp only at hsp
    rw [← harr'] at hsp
    refine ⟨.slice (some ⟨l.block, off, none⟩) (len + ys.length) cap', g.turn id (some l) (.cells (splice cs (off + len * te.size) (cellsAll (ys.map AVal.share)))) (g.w.setRow l.block arr'), .inl ?_, hle, Good.turn hg hturn ?_ ?_, ?_, ?_⟩
    · rw [hexec]
      simp [hrun, G.turn]
    · refine ⟨l, arr', t', rfl, hlo, ?_, hsp.1, fun j c u a b => (hsp.2 j c u a b).mono hle, fun c hc => ?_, ?_⟩
      · exact setRow_heap g.w l.block arr arr' t' (0, 0) hrow
      · simp only [splice, List.mem_append] at hc
        rcases hc with hc | hc | hc
        · exact hcsc c (List.mem_of_mem_take hc)
        · exact map_share_scalar hy5 c hc
        exact hcsc c (List.mem_of_mem_drop hc)
      have q := hy6
      have q2 := hmul
      rw [harr']
      simp only [List.size_toArray, List.length_append, List.length_take, List.length_drop, Array.length_toList]
      omega
    · intro l1 h1 _
      simp only [Option.some.injEq] at h1
      subst h1
      rw [setRow_size]
      exact lt_of_getElem?' hrow
    · simp only [G.turn, Mode.post, hO]
    have hlt : id < g.objs.length := lt_of_getElem? hob'
    have hlt2 := env_lt hg hob'
    refine .ms (l := l) (o := .cells (splice cs (off + len * te.size) (cellsAll (ys.map AVal.share)))) ?_ ?_ (by simp [AObj.isSpare]) hroom hcap h62
    · simp only [G.turn]
      rw [List.getElem?_set_self hlt2]
    simp only [G.turn]
    rw [List.getElem?_set_self hlt]
theorem cert_clear_ms {P : Program} {tab : Tab} (hT : TabOK P tab) {o : Oper} {σ : St} {t e : TypeId} {x : Operand} {ti te : TInfo} {id off len cap : Nat} {cs : List AVal}
    (ho : o.op = .call ⟨.builtin .clear, #[x], #[t]⟩) (hd : o.dst = none) (ht : tab t = some ti) (hdesc : ti.desc = .slice e) (he : tab e = some te) (hx : σ.ev x = some (.ms id off len cap)) (hob : σ.objs[id]? = some (.cells cs))
    (hpos : 0 < len) (hz : 0 < te.size) (hin : off + len * te.size ≤ cs.length) :
    Cert P o σ (.tup []) (.write (σ.objs.set id (.cells (splice cs off (List.replicate len te.zero).flatten)))) :=
  Cert.ofRun (by simp [hd]) fun base σ' a g hrel h ho' => by
    have hO : g.objs = σ.objs := ho'.resolve_left (by simp)
    have hg := hrel.good
    have hu := slice_desc hT ht hdesc
    have hx' := h x (by simp [ho, Op.operands, Call.operands]) _ hx
    obtain ⟨l, o1, q1, q2, q3, hlc, hmax, cap', hcap, eu⟩ := hx'.ms_inv
    obtain ⟨⟨i, z, h1, h2, h3, h4, h5, h6, h7, h8, h9⟩, _⟩ := hT e te he
    have hob' : g.objs[id]? = some (.cells cs) := by rw [hO]; exact hob
    obtain ⟨arr, t', hlo, hrow, hlen, hcs, hcsc, hlsz⟩ := hg.row hob' q1
    have hexec := run_builtin1 (P := P) ho a g.w
    simp only [builtin, List.map_toArray, List.map_cons, List.map_nil] at hexec
    have hzs : (Builtin.zeroCells z.cells len).size = len * te.size := by rw [size_zeroCells, h5, h6]
    have hflen : (List.replicate len te.zero).flatten.length = len * te.size := by simp [h6]
    have hget : ∀ (j : Nat) (c : AVal), (List.replicate len te.zero).flatten[j]? = some c → te.zero[j % te.size]? = some c := fun j c => h6 ▸ rep_get te.zero (by omega) len j c
    have hzr : RVs g (List.replicate len te.zero).flatten (Builtin.zeroCells z.cells len) := ⟨by rw [hzs, hflen], fun j c u hj hu => by
      have hj' := hget j c hj
      have hlt := lt_of_getElem? hj
      rw [hflen] at hlt
      have hlt' : j % te.size < z.cells.size := by rw [h5]; exact lt_of_getElem? hj'
      refine h8 _ _ _ _ hj' ?_
      simp only [Builtin.zeroCells, Array.getElem?_map, h5, h6, Array.getElem?_range, if_pos hlt, Option.map_some, Option.some.injEq] at hu
      subst hu
      simp [hlt']⟩
    have hzsc : ∀ c ∈ (List.replicate len te.zero).flatten, c.scalar := fun c hc => by
      rw [List.mem_flatten] at hc
      obtain ⟨l, hl, hc⟩ := hc
      rw [List.mem_replicate] at hl
      exact h9 c (hl.2 ▸ hc)
    obtain ⟨news, hnews⟩ : ∃ news, news = (Builtin.zeroCells z.cells len).toList := ⟨_, rfl⟩
    have hnl : news.length = len * te.size := by rw [hnews, Array.length_toList, hzs]
    obtain ⟨arr', harr'⟩ : ∃ arr', arr' = (arr.toList.take off ++ news ++ arr.toList.drop (off + news.length)).toArray := ⟨_, rfl⟩
    have hst := run_storeCells_at P l.block off t' news 0 arr g.w hrow (by rw [hnl]; omega) (fun u hu => by
      obtain ⟨j, hj⟩ := List.getElem?_of_mem hu
      have hlt := lt_of_getElem? hj
      rw [hnl, ← hflen] at hlt
      have hc := List.getElem?_eq_getElem hlt
      exact ((hzr.2 j _ u hc (by rw [hnews] at hj; simpa using hj)).scalar_cell (hzsc _ (List.mem_of_getElem? hc))).1)
    simp only [Nat.add_zero] at hst
    rw [← harr'] at hst
    have hrun : (Builtin.clear_ #[t] o.type #[a.eval x]).run P g.w = .ok (.tuple #[]) (g.w.setRow l.block arr') := by
      obtain ⟨k, rfl⟩ : ∃ k, len = k + 1 := ⟨len - 1, by omega⟩
      rw [eu]
      simp [Builtin.clear_, run_underlying hu, Go.zeroValue, typeInfo, h1, h4, ← hnews, hst]
    have hturn := turns_cells (cs' := splice cs off (List.replicate len te.zero).flatten) hob' q1 hlo arr'
    have hle := Le.turn hg hturn
    have hsp := RVs.splice ⟨hlen, hcs⟩ hzr (off := off) (by rw [hflen]; omega)
    rw [← hnews, ← harr'] at hsp
    refine ⟨.tuple #[], g.turn id (some l) (.cells (splice cs off (List.replicate len te.zero).flatten)) (g.w.setRow l.block arr'), ?_, hle, Good.turn hg hturn ?_ ?_, ?_, .tup rfl (by simp)⟩
    · refine .inl ?_
      rw [hexec]
      simp [hrun, G.turn]
    · refine ⟨l, arr', t', rfl, hlo, ?_, hsp.1, fun j c u a b => (hsp.2 j c u a b).mono hle, fun c hc => ?_, ?_⟩
      · exact setRow_heap g.w l.block arr arr' t' (0, 0) hrow
      · simp only [splice, List.mem_append] at hc
        rcases hc with hc | hc | hc
        · exact hcsc c (List.mem_of_mem_take hc)
        · exact hzsc c hc
        exact hcsc c (List.mem_of_mem_drop hc)
      have q := hnl
      rw [harr']
      simp only [List.size_toArray, List.length_append, List.length_take, List.length_drop, Array.length_toList]
      omega
    · intro l1 h1 _
      simp only [Option.some.injEq] at h1
      subst h1
      rw [setRow_size]
      exact lt_of_getElem?' hrow
    simp only [G.turn, Mode.post, hO]
def G.ren (g : G) (id : Nat) (l : Loc) (o : AObj) : G := ⟨g.w, g.fr, g.env ++ [some l], g.objs.set id .gone ++ [o]⟩
theorem ren_old {g : G} {id : Nat} {l : Loc} {o : AObj} (hg : Good g) (hid : id < g.objs.length) {i : Nat} {l' : Loc} {o' : AObj} (h1 : (g.ren id l o).env[i]? = some (some l')) (h2 : (g.ren id l o).objs[i]? = some o') (h3 : o'.live) :
    (i ≠ id ∧ g.env[i]? = some (some l') ∧ g.objs[i]? = some o') ∨ (i = g.objs.length ∧ l' = l ∧ o' = o) := by
  have hlen := hg.len
  rcases getElem?_snoc h1 with q1 | ⟨q1, q1'⟩
  · rcases getElem?_snoc h2 with q2 | ⟨q2, _⟩
    · by_cases e : id = i
      · subst e
        rw [List.getElem?_set_self hid] at q2
        simp only [Option.some.injEq] at q2
        subst q2
        exact h3.elim
      rw [List.getElem?_set_ne e] at q2
      exact .inl ⟨Ne.symm e, q1, q2⟩
    have := lt_of_getElem? q1
    simp only [List.length_set] at q2
    omega
  rcases getElem?_snoc h2 with q2 | ⟨q2, q2'⟩
  · have := lt_of_getElem? q2
    simp only [List.length_set] at this
    omega
  simp only [Option.some.injEq] at q1'
  exact .inr ⟨by omega, q1', q2'⟩
theorem OwnL.ren {g : G} {id : Nat} {l : Loc} {o o1 : AObj} (hg : Good g) (he : g.env[id]? = some (some l)) (ho : g.objs[id]? = some o1) (hl : o1.live) {b off : Nat} (h : OwnL (g.ren id l o) b off) : OwnL g b off := by
  obtain ⟨i, l', o', h1, h2, h3, h4, h5⟩ := h
  rcases ren_old hg (lt_of_getElem? ho) h1 h2 h3 with ⟨_, q1, q2⟩ | ⟨_, q1, _⟩
  · exact ⟨i, l', o', q1, q2, h3, h4, h5⟩
  subst q1
  exact ⟨id, l', o1, he, ho, hl, h4, h5⟩
theorem OwnLB.ren {g : G} {id : Nat} {l : Loc} {o o1 : AObj} (hg : Good g) (he : g.env[id]? = some (some l)) (ho : g.objs[id]? = some o1) (hl : o1.live) {b : Nat} (h : OwnLB (g.ren id l o) b) : OwnLB g b := by
  obtain ⟨i, l', o', h1, h2, h3, h4⟩ := h
  exact (OwnL.ren hg he ho hl ⟨i, l', o', h1, h2, h3, h4, Nat.le_refl _⟩).block
theorem ren_get {g : G} {id i : Nat} {l : Loc} {o o' : AObj} (hne : id ≠ i) (h : g.objs[i]? = some o') : (g.ren id l o).objs[i]? = some o' := by
  have := lt_of_getElem? h
  simp only [G.ren]
  rw [List.getElem?_append, if_pos (by simpa using this), List.getElem?_set_ne hne]
  exact h
theorem ren_gone {g : G} {id : Nat} {l : Loc} {o : AObj} (h : id < g.objs.length) : (g.ren id l o).objs[id]? = some .gone := by
  simp only [G.ren]
  rw [List.getElem?_append, if_pos (by simpa using h), List.getElem?_set_self h]
theorem ren_env {g : G} {id i : Nat} {l : Loc} {o : AObj} (h : i < g.env.length) : (g.ren id l o).env[i]? = g.env[i]? := by
  simp only [G.ren]
  rw [List.getElem?_append, if_pos h]
theorem Le.ren {g : G} {id : Nat} {l : Loc} {o o1 : AObj} (hg : Good g) (he : g.env[id]? = some (some l)) (ho : g.objs[id]? = some o1) (hl : o1.live) (hs : ¬ o1.isSpare) : Le g (g.ren id l o) where
  os := rfl
  tape := rfl
  output := rfl
  fr := rfl
  size := Nat.le_refl _
  block := fun k _ h => ⟨rfl, fun q => h (OwnLB.ren hg he ho hl q)⟩
  cell := fun b off x hx hn => ⟨hx, fun q => hn (OwnL.ren hg he ho hl q)⟩
  len := by simp [G.ren]
  spare := fun i m hm => by
    have hne : id ≠ i := by
      intro e
      subst e
      rw [ho] at hm
      simp only [Option.some.injEq] at hm
      subst hm
      exact hs trivial
    exact .inl ⟨m, ren_get hne hm, Nat.le_refl _⟩
  plain := fun i o' ho' hn => by
    refine ⟨?_, ren_env (by have := lt_of_getElem? ho'; have := hg.len; omega)⟩
    by_cases e : id = i
    · subst e
      exact ⟨.gone, ren_gone (lt_of_getElem? ho), by simp [AObj.isSpare]⟩
    exact ⟨o', ren_get e ho', hn⟩
  gone := fun i hi => by
    by_cases e : id = i
    · subst e
      exact ren_gone (lt_of_getElem? ho)
    exact ren_get e hi
  tok := fun i m hm _ => ⟨ren_env (by have := lt_of_getElem? hm; have := hg.len; omega), fun _ _ => rfl⟩
theorem Good.ren {g : G} {id : Nat} {l : Loc} {cs : List AVal} (hg : Good g) (he : g.env[id]? = some (some l)) (ho : g.objs[id]? = some (.cells cs)) : Good (g.ren id l (.cells cs)) := by
  have hlt := lt_of_getElem? ho
  have hle := Le.ren (o := .cells cs) hg he ho trivial (by simp [AObj.isSpare])
  have hnew : (g.ren id l (.cells cs)).env[g.objs.length]? = some (some l) := by
    simp only [G.ren]
    rw [← hg.len]
    simp
  refine ⟨hg.frlt, ?_, by simp [G.ren, hg.len], ?_, ?_, ?_, ?_, ?_⟩
  · intro i l' o' h1 h2 h3
    rcases ren_old hg hlt h1 h2 h3 with ⟨_, q1, q2⟩ | ⟨_, q1, _⟩
    · exact hg.frown i l' o' q1 q2 h3
    subst q1
    exact hg.frown id l' _ he ho trivial
  · intro i l' o' h1 h2 h3
    rcases ren_old hg hlt h1 h2 h3 with ⟨_, q1, q2⟩ | ⟨_, q1, _⟩
    · exact hg.loc i l' o' q1 q2 h3
    subst q1
    exact hg.loc id l' _ he ho trivial
  · intro i j l1 l2 o1 o2 h1 h2 h3 k1 k2 k3 hb
    rcases ren_old hg hlt h1 h2 h3 with ⟨n1, q1, q2⟩ | ⟨n1, q1, _⟩
    · rcases ren_old hg hlt k1 k2 k3 with ⟨_, r1, r2⟩ | ⟨m1, r1, _⟩
      · exact hg.apart i j l1 l2 o1 o2 q1 q2 h3 r1 r2 k3 hb
      subst r1
      exact absurd (hg.apart i id l1 l2 o1 _ q1 q2 h3 he ho trivial hb) n1
    rcases ren_old hg hlt k1 k2 k3 with ⟨m1, r1, r2⟩ | ⟨m1, r1, _⟩
    · subst q1
      exact absurd (hg.apart j id l2 l1 o2 _ r1 r2 k3 he ho trivial hb.symm) m1
    omega
  · intro i ds h
    have hlive : (AObj.cells ds).live := trivial
    rcases getElem?_snoc h with q | ⟨q, q'⟩
    · have hne : id ≠ i := by
        intro e
        subst e
        rw [List.getElem?_set_self hlt] at q
        cases q
      rw [List.getElem?_set_ne hne] at q
      obtain ⟨l', arr, t, e1, e0, e2, e3, e4, e5⟩ := hg.cells i ds q
      exact ⟨l', arr, t, (ren_env (by have := lt_of_getElem? q; have := hg.len; omega)).trans e1, e0, e2, e3, fun j c u a b => (e4 j c u a b).mono hle, e5⟩
    simp only [AObj.cells.injEq] at q'
    subst q'
    obtain ⟨l', arr, t, e1, e0, e2, e3, e4, e5⟩ := hg.cells id _ ho
    rw [he] at e1
    simp only [Option.some.injEq] at e1
    subst e1
    refine ⟨l, arr, t, ?_, e0, e2, e3, fun j c u a b => (e4 j c u a b).mono hle, e5⟩
    rw [q, List.length_set]
    exact hnew
  · intro i m l' h h1
    rcases getElem?_snoc h with q | ⟨q, q'⟩
    · have hne : id ≠ i := by
        intro e
        subst e
        rw [List.getElem?_set_self hlt] at q
        cases q
      rw [List.getElem?_set_ne hne] at q
      rw [ren_env (by have := lt_of_getElem? q; have := hg.len; omega)] at h1
      exact hg.spare i m l' q h1
    cases q'
  intro i kt es h
  rcases getElem?_snoc h with q | ⟨q, q'⟩
  · have hne : id ≠ i := by
      intro e
      subst e
      rw [List.getElem?_set_self hlt] at q
      cases q
    rw [List.getElem?_set_ne hne] at q
    obtain ⟨l', arr, clk, e1, e0, e2, e3, e6, e4⟩ := hg.map i kt es q
    exact ⟨l', arr, clk, (ren_env (by have := lt_of_getElem? q; have := hg.len; omega)).trans e1, e0, e2, e3, e6, fun j e kx a b => ⟨(e4 j e kx a b).1, (e4 j e kx a b).2.1, (e4 j e kx a b).2.2.mono hle⟩⟩
  cases q'
theorem cert_indexAddr_os {P : Program} {tab : Tab} (hT : TabOK P tab) {o : Oper} {σ : St} {t e : TypeId} {x i : Operand} {ti te : TInfo} {id len sz : Nat} {k : IntKind} {n : Int}
    (ho : o.op = .indexAddr t x i) (hd : ∀ d, o.dst = some d → d < σ.n) (ht : tab t = some ti) (hdesc : ti.desc = .slice e) (he : tab e = some te)
    (hx : σ.ev x = some (.os id len sz)) (hi : σ.ev i = some (.v (.int k n))) (h0 : 0 ≤ n) (hn : n < len) : Cert P o σ (.mp id (n.toNat * te.size)) .pure :=
  Cert.ofQuiet .pure (.inl rfl) hd fun a g _ h _ => by
    have ei := (h i (by simp [ho, Op.operands]) _ hi).v_inv.1
    have hu := slice_desc hT ht hdesc
    obtain ⟨l, o1, cap, h1, h2, h3, _, _, _, eu⟩ := (h x (by simp [ho, Op.operands]) _ hx).os_inv
    exact ⟨.pointer (some ⟨l.block, n.toNat * te.size, none⟩), by simp [execOp, ho, ei, eu, Instr.indexAt, asIntOf, run_underlying hu, h0, hn, (hT e te he).sizeOf, addr_add], .mp h1 h2 h3⟩
theorem cert_slice_os {P : Program} {tab : Tab} (hT : TabOK P tab) {o : Oper} {σ : St} {t e : TypeId} {x : Operand} {ti te : TInfo} {id len sz : Nat} {lo hi : Option Operand} {h : Nat}
    (ho : o.op = .slice t x lo hi none) (hd : ∀ d, o.dst = some d → d < σ.n) (ht : tab t = some ti) (hdesc : ti.desc = .slice e) (he : tab e = some te) (hx : σ.ev x = some (.os id len sz))
    (hlo : bndOK σ lo 0 0) (hhi : bndOK σ hi len h) (h2 : h ≤ len) (h3 : 0 < len) : Cert P o σ (.os id h sz) .pure :=
  Cert.ofQuiet .pure (.inl rfl) hd fun a g _ hh _ => by
    have hu := slice_desc hT ht hdesc
    have hx' := hh x (by cases lo <;> cases hi <;> simp [ho, Op.operands]) _ hx
    have hl : (lo = none ∧ (0 : Nat) = 0) ∨ ∃ q k, lo = some q ∧ a.eval q = .int k ((0 : Nat) : Int) := by
      rcases hlo with q | ⟨q, k, e1, e2⟩
      · exact .inl q
      exact .inr ⟨q, k, e1, (hh q (by subst e1; cases hi <;> simp [ho, Op.operands]) _ e2).v_inv.1⟩
    have hi' : (hi = none ∧ h = len) ∨ ∃ q k, hi = some q ∧ a.eval q = .int k (h : Int) := by
      rcases hhi with q | ⟨q, k, e1, e2⟩
      · exact .inl q
      exact .inr ⟨q, k, e1, (hh q (by subst e1; cases lo <;> simp [ho, Op.operands]) _ e2).v_inv.1⟩
    have hexec : execOp a.eval o = (do pure (.value (← Instr.sliceAt t (a.eval x) (lo.map a.eval) (hi.map a.eval) none))) := by
      simp [execOp, ho]
    clear hlo hhi ho
    obtain ⟨lc, o1, cap', q1, q2, q3, hlc, hcb, hmax, eu⟩ := hx'.os_inv
    have bounds : (Instr.sliceBounds true len cap' (lo.map a.eval) (hi.map a.eval) none).run P g.w = .ok (0, h, cap') g.w := by
      rcases hl with ⟨e1, e2⟩ | ⟨p, k, e1, hk⟩
      · rcases hi' with ⟨e3, e4⟩ | ⟨q, k', e3, hk'⟩
        · subst e1 e3 e4
          simp [Instr.sliceBounds]
        subst e1 e3
        have := run_sliceBound (P := P) k' h cap' .sliceAcap g.w (by omega) (by omega)
        simp [Instr.sliceBounds, hk', this]
      rcases hi' with ⟨e3, e4⟩ | ⟨q, k', e3, hk'⟩
      · subst e1 e3 e4
        have := run_sliceBound (P := P) k 0 h .sliceB g.w (by omega) (by omega)
        simp [Instr.sliceBounds, hk, this]
      subst e1 e3
      have e1 := run_sliceBound (P := P) k' h cap' .sliceAcap g.w (by omega) (by omega)
      have e2 := run_sliceBound (P := P) k 0 h .sliceB g.w (by omega) (by omega)
      simp [Instr.sliceBounds, hk, hk', e1, e2]
    have hsize := (hT e te he).sizeOf g.w
    refine ⟨.slice (some ((⟨lc.block, 0, none⟩ : Addr).add (0 * te.size))) (h - 0) (cap' - 0), ?_, ?_⟩
    · rw [hexec]
      simp [Instr.sliceAt, run_underlying hu, Instr.slice, eu, bounds, hsize, show cap' ≠ 0 by omega]
    rw [addr_add]
    simp only [Nat.zero_mul, Nat.add_zero, Nat.sub_zero]
    exact .os q1 q2 q3 (by omega) hcb (by omega)
theorem cert_append_osNew {P : Program} {tab : Tab} (hT : TabOK P tab) {o : Oper} {σ : St} {t e : TypeId} {x y : Operand} {ti te : TInfo} {sz : Nat} {xs ys : List AVal} {ow : Own}
    (ho : o.op = .call ⟨.builtin .append, #[x, y], #[t, t]⟩) (hd : ∀ d, o.dst = some d → d < σ.n) (ht : tab t = some ti) (hdesc : ti.desc = .slice e) (he : tab e = some te) (hsz : te.size = sz) (hx : σ.ev x = some (.lst sz xs .ex)) (hy : σ.ev y = some (.lst sz ys ow))
    (hn : ys.length ≠ 0) (hlen : xs.length + ys.length ≤ 2 ^ 62) (hb : (xs.length + ys.length) * te.bytes ≤ 2 ^ 47) :
    Cert P o σ (.os σ.objs.length (xs.length + ys.length) sz) (.write (σ.objs ++ [.cells (cellsAll (xs ++ ys.map AVal.share))])) :=
  Cert.ofRun hd fun base σ' a g hrel h ho' => by
    have hO : g.objs = σ.objs := ho'.resolve_left (by simp)
    have hg := hrel.good
    have hu := slice_desc hT ht hdesc
    subst hsz
    have hx' := h x (by simp [ho, Op.operands, Call.operands]) _ hx
    have hy' := h y (by simp [ho, Op.operands, Call.operands]) _ hy
    obtain ⟨adx, capx, olds, ex, hx1, hx2, hx3, hx4, hx5, hx6⟩ := hx'.lst_read (P := P)
    obtain ⟨ady, capy, news, ey, hy1, hy2, hy3, hy4, hy5, hy6⟩ := hy'.lst_read (P := P)
    obtain ⟨⟨i, z, h1, h2, h3, h4, h5, h6, h7, h8, h9⟩, _⟩ := hT e te he
    have hcapx : capx = xs.length := by
      rcases hx'.lst_inv with ⟨q1, q2⟩ | ⟨ad, cap, f, q1, _, _, _, _, _, _, _, q2⟩
      · rw [ex] at q1
        cases q2
        simp at q1
        simp [q1]
      rw [ex] at q1
      simp only [Value.slice.injEq] at q1
      rw [q1.2.2]
      exact q2
    subst hcapx
    have hexec := run_builtin1 (P := P) ho a g.w
    simp only [builtin, List.map_toArray, List.map_cons, List.map_nil] at hexec
    have hrun := run_append_new (P := P) g.w t o.type e i z hu h1 h4 adx xs.length xs.length ys.length (a.eval y) olds news hy1 (by rw [h2]; exact hy2 g.w.drew rfl) (by rw [h2, ← ex]; exact hx2 g.w.drew rfl) (by omega) hlen (by rw [h3]; exact hb)
    rw [← ex] at hrun
    obtain ⟨cap, hcap⟩ : ∃ cap, cap = grownCap g.w (xs.length + ys.length) xs.length e := ⟨_, rfl⟩
    obtain ⟨rest, hrest⟩ : ∃ rest, rest = Builtin.zeroCells z.cells (cap - (xs.length + ys.length)) := ⟨_, rfl⟩
    have hge := grownCap_ge g.w (xs.length + ys.length) xs.length e
    rw [← hcap] at hrun hge
    rw [← hrest] at hrun
    have hrs : rest.size = (cap - (xs.length + ys.length)) * te.size := by rw [hrest, size_zeroCells, h5, h6]
    obtain ⟨arr, harr⟩ : ∃ arr, arr = olds.toArray ++ news.toArray ++ rest := ⟨_, rfl⟩
    rw [← harr] at hrun
    have hgd := hg.heap (w' := g.w.drew) rfl rfl rfl rfl
    have hled := Le.heap (g := g) (w' := g.w.drew) rfl rfl rfl rfl
    obtain ⟨g1, hg1⟩ : ∃ g1 : G, g1 = ⟨g.w.drew, g.fr, g.env, g.objs⟩ := ⟨_, rfl⟩
    rw [← hg1] at hgd hled
    have hw1 : g1.w = g.w.drew := by rw [hg1]
    have ho1 : g1.objs = σ.objs := by rw [hg1]; exact hO
    have hcells := hx3.append hy3.share_list
    rw [← cellsAll_append] at hcells
    have hcl : (cellsAll (xs ++ ys.map AVal.share)).length = (xs.length + ys.length) * te.size := by
      rw [cellsAll_length (sz := te.size) (fun x hx => by
        rcases List.mem_append.1 hx with q | q
        · exact hx4 x q
        exact map_share_size hy4 x q)]
      simp
    have hasz : arr.size = cap * te.size := by
      rw [harr]
      simp only [Array.size_append, List.size_toArray, hx6, hy6, hrs, ← Nat.add_mul]
      rw [show xs.length + ys.length + (cap - (xs.length + ys.length)) = cap by omega]
    have hle := hled.trans (Le.alloc hgd (.cells arr e) 0 (.cells (cellsAll (xs ++ ys.map AVal.share))))
    have hobj : Fits (g1.alloc (.cells arr e) 0 (.cells (cellsAll (xs ++ ys.map AVal.share)))) (.cells arr e) (.cells (cellsAll (xs ++ ys.map AVal.share))) := by
      refine ⟨arr, e, rfl, by rw [hcl, hasz]; exact Nat.mul_le_mul_right _ hge, fun j c u hj hu => ?_, fun c hc => ?_⟩
      · have hlt := lt_of_getElem? hj
        rw [hcl] at hlt
        rw [harr] at hu
        have hu2 := append_cells_get hu (by simp only [List.size_toArray, hx6, hy6, ← Nat.add_mul]; exact hlt)
        exact (hcells.2 j c u hj (by simpa using hu2)).mono hle
      rw [cellsAll_append] at hc
      rcases List.mem_append.1 hc with q | q
      · exact hx5 c q
      exact map_share_scalar hy5 c q
    have hgood := Good.alloc hgd (.cells arr e) 0 (.cells (cellsAll (xs ++ ys.map AVal.share))) (.inr rfl) hobj
    refine ⟨.slice (some ⟨g.w.heap.size, 0, none⟩) (xs.length + ys.length) cap, _, .inl ?_, hle, hgood, ?_, ?_⟩
    · rw [hexec]
      simp [hrun, G.alloc, hw1]
    · simp [G.alloc, ho1, Mode.post]
    rw [← ho1]
    have e1 : (g.w.heap.size) = g1.w.heap.size := by rw [hw1]; rfl
    rw [e1]
    exact .os (l := ⟨g1.w.heap.size, 0, arr.size⟩) (env_new hgd) objs_new (by simp [AObj.isSpare]) hge (by rw [hasz]; exact Nat.le_refl _) hlen
theorem cert_append_os {P : Program} {tab : Tab} (hT : TabOK P tab) {o : Oper} {σ : St} {t e : TypeId} {x y : Operand} {ti te : TInfo} {id len sz : Nat} {cs ys : List AVal} {ow : Own}
    (ho : o.op = .call ⟨.builtin .append, #[x, y], #[t, t]⟩) (hd : ∀ d, o.dst = some d → d < σ.n) (ht : tab t = some ti) (hdesc : ti.desc = .slice e) (he : tab e = some te) (hsz : te.size = sz) (hx : σ.ev x = some (.os id len sz)) (hob : σ.objs[id]? = some (.cells cs)) (hy : σ.ev y = some (.lst sz ys ow))
    (hin : len * sz ≤ cs.length) (hn : ys.length ≠ 0) (hlen : len + ys.length ≤ 2 ^ 62) (hb : (len + ys.length) * te.bytes ≤ 2 ^ 47) :
    Cert P o σ (.os σ.objs.length (len + ys.length) sz) (.write (σ.objs.set id .gone ++ [.cells (cs.take (len * sz) ++ cellsAll (ys.map AVal.share))])) :=
  Cert.ofRun hd fun base σ' a g hrel h ho' => by
    have hO : g.objs = σ.objs := ho'.resolve_left (by simp)
    have hg := hrel.good
    have hu := slice_desc hT ht hdesc
    subst hsz
    have hx' := h x (by simp [ho, Op.operands, Call.operands]) _ hx
    have hy' := h y (by simp [ho, Op.operands, Call.operands]) _ hy
    obtain ⟨l, o1, cap, q1, q2, q3, hlc, hcb, hmax, eu⟩ := hx'.os_inv
    obtain ⟨ady, capy, news, ey, hy1, hy2, hy3, hy4, hy5, hy6⟩ := hy'.lst_read (P := P)
    obtain ⟨⟨i, z, h1, h2, h3, h4, h5, h6, h7, h8, h9⟩, _⟩ := hT e te he
    have hob' : g.objs[id]? = some (.cells cs) := by rw [hO]; exact hob
    have hidlt := lt_of_getElem? hob'
    obtain ⟨arr, t', hlo, hrow, hclen, hcs, hcsc, hlsz⟩ := hg.row hob' q1
    have hexec := run_builtin1 (P := P) ho a g.w
    simp only [builtin, List.map_toArray, List.map_cons, List.map_nil] at hexec
    have hsh := hy3.share_list
    have hcl : (cellsAll (ys.map AVal.share)).length = ys.length * te.size := by
      rw [cellsAll_length (map_share_size hy4)]
      simp
    obtain ⟨m, hm⟩ : ∃ m, m = len * te.size := ⟨_, rfl⟩
    obtain ⟨olds, hol⟩ : ∃ olds, olds = arr.toList.take m := ⟨_, rfl⟩
    obtain ⟨ds, hds⟩ : ∃ ds, ds = cs.take (len * te.size) ++ cellsAll (ys.map AVal.share) := ⟨_, rfl⟩
    rw [← hm] at hds hin
    have hosz : olds.length = m := by rw [hol]; simp; omega
    have holds : RVs g (cs.take m) olds.toArray := by
      refine ⟨by simp [hosz]; omega, fun j c u hj hu => ?_⟩
      have hlt := lt_of_getElem? hj
      simp only [List.length_take] at hlt
      rw [List.getElem?_take, if_pos (by omega)] at hj
      refine hcs j c u hj ?_
      simp only [List.getElem?_toArray, hol] at hu
      rw [List.getElem?_take, if_pos (by omega)] at hu
      simpa using hu
    have hall : RVs g ds (olds ++ news).toArray := by
      rw [hds]
      exact holds.append hsh
    have hdl : ds.length = m + ys.length * te.size := by
      rw [hds, List.length_append, List.length_take, hcl]
      omega
    have hdsc : ∀ c ∈ ds, c.scalar := fun c hc => by
      rw [hds] at hc
      rcases List.mem_append.1 hc with hc | hc
      · exact hcsc c (List.mem_of_mem_take hc)
      exact map_share_scalar hy5 c hc
    have hml : (len + ys.length) * te.size = m + ys.length * te.size := by rw [Nat.add_mul, hm]
    rw [← hm, ← hds]
    by_cases hroom : len + ys.length ≤ cap
    · have hfit : m + ys.length * te.size ≤ arr.size := by
        have := Nat.mul_le_mul_right te.size hroom
        omega
      obtain ⟨arr', harr'⟩ : ∃ arr', arr' = (arr.toList.take m ++ news ++ arr.toList.drop (m + news.length)).toArray := ⟨_, rfl⟩
      have hst := run_storeCells_at P l.block m t' news 0 arr g.w hrow (by rw [hy6]; omega) (fun u hu => by
        obtain ⟨j, hj⟩ := List.getElem?_of_mem hu
        have hlt := lt_of_getElem? hj
        have hsz := hy3.1
        simp only [List.size_toArray] at hsz
        rw [hsz] at hlt
        have hc := List.getElem?_eq_getElem hlt
        exact ((hy3.2 j _ u hc (by simpa using hj)).scalar_cell (hy5 _ (List.mem_of_getElem? hc))).1)
      simp only [Nat.add_zero] at hst
      rw [← harr'] at hst
      have hrun := run_append_in (P := P) g.w (g.w.setRow l.block arr') t o.type e i hu h1 ⟨l.block, 0, none⟩ len cap ys.length (a.eval y) news hy1 (by rw [h2]; exact hy2 g.w rfl) (by omega) (by rw [addr_add, h2, Nat.zero_add, ← hm]; exact hst)
      rw [← eu] at hrun
      have hturn := turns_cells (cs' := ds) hob' q1 hlo arr'
      have hle := Le.turn hg hturn
      have hasz : arr'.size = arr.size := by
        rw [harr']
        simp only [List.size_toArray, List.length_append, List.length_take, List.length_drop, Array.length_toList, hy6]
        omega
      have hgood := Good.turn hg hturn (by
        refine ⟨l, arr', t', rfl, hlo, setRow_heap g.w l.block arr arr' t' (0, 0) hrow, by rw [hdl, hasz]; exact hfit, fun j c u hj hu' => ?_, hdsc, by rw [hasz]; exact hlsz⟩
        have hlt := lt_of_getElem? hj
        rw [hdl] at hlt
        have e1 : arr' = olds.toArray ++ news.toArray ++ (arr.toList.drop (m + news.length)).toArray := by
          rw [harr', hol]
          simp
        rw [e1] at hu'
        have hu2 := append_cells_get hu' (by simp only [List.size_toArray, hosz, hy6]; exact hlt)
        exact (hall.2 j c u hj (by simpa using hu2)).mono hle) (fun l1 h1 _ => by
        simp only [Option.some.injEq] at h1
        subst h1
        rw [setRow_size]
        exact lt_of_getElem?' hrow)
      obtain ⟨g1, hg1⟩ : ∃ g1 : G, g1 = g.turn id (some l) (.cells ds) (g.w.setRow l.block arr') := ⟨_, rfl⟩
      rw [← hg1] at hle hgood
      have he1 : g1.env[id]? = some (some l) := by
        rw [hg1]
        simp only [G.turn]
        rw [List.getElem?_set_self (env_lt hg hob')]
      have ho1 : g1.objs[id]? = some (.cells ds) := by
        rw [hg1]
        simp only [G.turn]
        rw [List.getElem?_set_self hidlt]
      have hlen1 : g1.objs.length = σ.objs.length := by
        rw [hg1, ← hO]
        simp [G.turn]
      refine ⟨.slice (some ⟨l.block, 0, none⟩) (len + ys.length) cap, g1.ren id l (.cells ds), .inl ?_, hle.trans (Le.ren hgood he1 ho1 trivial (by simp [AObj.isSpare])), Good.ren hgood he1 ho1, ?_, ?_⟩
      · rw [hexec, hg1]
        simp [hrun, G.turn, G.ren]
      · simp only [G.ren, hg1, G.turn, Mode.post, List.set_set, hO]
      refine .os (l := l) (o := .cells ds) ?_ ?_ (by simp [AObj.isSpare]) hroom hcb hlen
      · simp only [G.ren]
        rw [← hlen1, ← hgood.len]
        simp
      simp only [G.ren]
      rw [← hlen1]
      simp
    have hrun := run_append_new (P := P) g.w t o.type e i z hu h1 h4 (some ⟨l.block, 0, none⟩) len cap ys.length (a.eval y) olds news hy1 (by rw [h2]; exact hy2 g.w.drew rfl) (by
      rw [h2]
      simp only [Builtin.firstCells]
      rw [← hm]
      have := run_loadCells (P := P) g.w.drew ⟨l.block, 0, none⟩ m (fun j => arr.getD j undef) (fun j hj => by
        rw [addr_add, Nat.zero_add]
        have : g.w.drew.cell? ⟨l.block, j, none⟩ = arr[j]? := cell_of_row (w := g.w.drew) hrow j
        rw [this]
        simp [Array.getD_eq_getD_getElem?, show j < arr.size by omega])
      rw [list_eq_range olds m _ hosz (fun j hj => by
        rw [hol, List.getElem?_take, if_pos hj]
        simp [Array.getD_eq_getD_getElem?, show j < arr.size by omega])] at this
      exact this) (by omega) hlen (by rw [h3]; exact hb)
    rw [← eu] at hrun
    obtain ⟨cap2, hcap⟩ : ∃ cap2, cap2 = grownCap g.w (len + ys.length) cap e := ⟨_, rfl⟩
    obtain ⟨rest, hrest⟩ : ∃ rest, rest = Builtin.zeroCells z.cells (cap2 - (len + ys.length)) := ⟨_, rfl⟩
    have hge := grownCap_ge g.w (len + ys.length) cap e
    rw [← hcap] at hrun hge
    rw [← hrest] at hrun
    have hrs : rest.size = (cap2 - (len + ys.length)) * te.size := by rw [hrest, size_zeroCells, h5, h6]
    obtain ⟨arr2, harr⟩ : ∃ arr2, arr2 = olds.toArray ++ news.toArray ++ rest := ⟨_, rfl⟩
    rw [← harr] at hrun
    have hgd := hg.heap (w' := g.w.drew) rfl rfl rfl rfl
    have hled := Le.heap (g := g) (w' := g.w.drew) rfl rfl rfl rfl
    obtain ⟨g1, hg1⟩ : ∃ g1 : G, g1 = ⟨g.w.drew, g.fr, g.env, g.objs⟩ := ⟨_, rfl⟩
    rw [← hg1] at hgd hled
    have hw1 : g1.w = g.w.drew := by rw [hg1]
    have ho1 : g1.objs = σ.objs := by rw [hg1]; exact hO
    have hasz : arr2.size = cap2 * te.size := by
      rw [harr]
      simp only [Array.size_append, List.size_toArray, hosz, hy6, hrs]
      have : (len + ys.length) * te.size + (cap2 - (len + ys.length)) * te.size = cap2 * te.size := by
        rw [← Nat.add_mul, show len + ys.length + (cap2 - (len + ys.length)) = cap2 by omega]
      omega
    have hle := hled.trans (Le.alloc hgd (.cells arr2 e) 0 (.cells ds))
    have hobj : Fits (g1.alloc (.cells arr2 e) 0 (.cells ds)) (.cells arr2 e) (.cells ds) := by
      refine ⟨arr2, e, rfl, by rw [hdl, hasz, ← hml]; exact Nat.mul_le_mul_right _ hge, fun j c u hj hu => ?_, hdsc⟩
      have hlt := lt_of_getElem? hj
      rw [hdl] at hlt
      rw [harr] at hu
      have hu2 := append_cells_get hu (by simp only [List.size_toArray, hosz, hy6]; exact hlt)
      exact (hall.2 j c u hj (by simpa using hu2)).mono hle
    have hgood := Good.alloc hgd (.cells arr2 e) 0 (.cells ds) (.inr rfl) hobj
    obtain ⟨g2, hg2⟩ : ∃ g2 : G, g2 = g1.alloc (.cells arr2 e) 0 (.cells ds) := ⟨_, rfl⟩
    rw [← hg2] at hle hgood
    have henv2 : g2.env[id]? = some (some l) := by
      rw [hg2]
      simp only [G.alloc]
      rw [List.getElem?_append, if_pos (by rw [hg1]; exact env_lt hg hob'), hg1]
      exact q1
    have hobj2 : g2.objs[id]? = some (.cells cs) := by
      rw [hg2]
      simp only [G.alloc]
      rw [List.getElem?_append, if_pos (by rw [hg1]; exact hidlt), hg1]
      exact hob'
    have hturn := turns_gone hobj2 henv2 (by simp [AObj.isSpare]) trivial
    have hw2 : g2.w = g.w.drew.alloc (.cells arr2 e) := by rw [hg2, ← hw1]; rfl
    refine ⟨.slice (some ⟨g.w.heap.size, 0, none⟩) (len + ys.length) cap2, g2.turn id (some l) .gone g2.w, .inl ?_, hle.trans (Le.turn hgood hturn), Good.turn hgood hturn trivial (fun _ _ hh => hh.elim), ?_, ?_⟩
    · rw [hexec]
      simp [hrun, G.turn, hw2]
    · simp only [G.turn, hg2, G.alloc, ho1, Mode.post]
      rw [List.set_append, if_pos (by rw [← hO]; exact hidlt)]
    have e1 : (g.w.heap.size) = g1.w.heap.size := by rw [hw1]; rfl
    have hidlt1 : id < g1.objs.length := by rw [hg1]; exact hidlt
    rw [e1, ← ho1]
    refine .os (l := ⟨g1.w.heap.size, 0, arr2.size⟩) (o := .cells ds) ?_ ?_ (by simp [AObj.isSpare]) hge (by rw [hasz]; exact Nat.le_refl _) hlen
    · simp only [G.turn, hg2, G.alloc]
      rw [List.getElem?_set_ne (by omega)]
      exact env_new hgd
    simp only [G.turn, hg2, G.alloc]
    rw [List.getElem?_set_ne (by omega)]
    exact objs_new
theorem cert_eqPtrNil {P : Program} {o : Oper} {σ : St} {op : BinOp} {t t' e : TypeId} {x y : Operand} {x' : AVal} {b r : Bool}
    (ho : o.op = .binOp op t x y t') (hd : ∀ d, o.dst = some d → d < σ.n) (ht : P.underlying t = some (.pointer e)) (hx : σ.ev x = some x') (hy : σ.ev y = some (.v (.pointer none)))
    (hb : (x' = .v (.pointer none) ∧ b = true) ∨ (∃ oa cs, x' = .ip oa cs ∧ b = false) ∨ (∃ id off, x' = .mp id off ∧ b = false))
    (hr : (op = .eql ∧ r = b) ∨ (op = .neq ∧ r = !b)) : Cert P o σ (.v (.bool r)) .pure :=
  Cert.ofQuiet .pure (.inl rfl) hd fun a g _ h _ => by
    have hx' := h x (by simp [ho, Op.operands]) _ hx
    have ey := (h y (by simp [ho, Op.operands]) _ hy).v_inv.1
    have ex : ∃ q : Option Addr, a.eval x = .pointer q ∧ b = q.isNone := by
      rcases hb with ⟨e1, e2⟩ | ⟨oa, cs, e1, e2⟩ | ⟨id, off, e1, e2⟩
      · subst e1
        exact ⟨none, hx'.v_inv.1, e2⟩
      · subst e1
        obtain ⟨bb, off, _, e3, _⟩ := hx'.ip_inv
        exact ⟨some ⟨bb, off, none⟩, e3, e2⟩
      subst e1
      obtain ⟨l, o1, _, _, _, e3⟩ := hx'.mp_inv
      exact ⟨_, e3, e2⟩
    obtain ⟨q, ex, eb⟩ := ex
    have hg := run_eqGuard_flat (P := P) op t x y (.pointer q) (.pointer none) g.w (by simp) (by simp)
    refine ⟨.bool r, ?_, .v trivial⟩
    have he : (Op.equal t (.pointer q) (.pointer none)).run P g.w = .ok q.isNone g.w := by
      have e : ∃ d, Op.equal t (.pointer q) (.pointer none) = Op.equalIn (d + 1) t (.pointer q) (.pointer none) := ⟨9999, rfl⟩
      obtain ⟨d, e⟩ := e
      rw [e]
      cases q <;> simp [Op.equalIn, Sem.run_bind, run_underlying ht]
    rcases hr with ⟨e1, e2⟩ | ⟨e1, e2⟩ <;> subst e1 <;> subst e2 <;> simp [execOp, ho, ex, ey, hg, binOp, he, eb]
def cmpAddr : BinOp → Addr → Addr → Option Bool
  | .eql, a, b => some (decide (a = b))
  | .neq, a, b => some (!decide (a = b))
  | _, _, _ => none
theorem cert_eqAddr {P : Program} {o : Oper} {σ : St} {op : BinOp} {t t' e : TypeId} {n : Nat} {x y : Operand} {a b : Addr} {cs ds : List AVal} {r : Bool}
    (ho : o.op = .binOp op t x y t') (hd : ∀ d, o.dst = some d → d < σ.n) (ht : P.underlying t = some (.pointer e)) (hn : ∀ w, (sizeOf e).run P w = .ok n w) (hn0 : n ≠ 0) (hx : σ.ev x = some (.ip (some a) cs)) (hy : σ.ev y = some (.ip (some b) ds)) (hab : a.block = b.block)
    (hr : cmpAddr op a b = some r) : Cert P o σ (.v (.bool r)) .pure :=
  Cert.ofQuiet .pure (.inl rfl) hd fun ac g _ h _ => by
    have ex : ac.eval x = .pointer (some a) := by
      obtain ⟨b1, off, f, e1, e2, _⟩ := (h x (by simp [ho, Op.operands]) _ hx).ip_inv
      rcases e2 with e2 | e2
      · cases e2
      rw [e1, e2]
    have ey : ac.eval y = .pointer (some b) := by
      obtain ⟨b1, off, f, e1, e2, _⟩ := (h y (by simp [ho, Op.operands]) _ hy).ip_inv
      rcases e2 with e2 | e2
      · cases e2
      rw [e1, e2]
    have hg := run_eqGuard_flat (P := P) op t x y (.pointer (some a)) (.pointer (some b)) g.w (by simp) (by simp)
    refine ⟨.bool r, ?_, .v trivial⟩
    have he : (Op.equal t (.pointer (some a)) (.pointer (some b))).run P g.w = .ok (decide (a = b)) g.w := by
      have e0 : ∃ d, Op.equal t (.pointer (some a)) (.pointer (some b)) = Op.equalIn (d + 1) t (.pointer (some a)) (.pointer (some b)) := ⟨9999, rfl⟩
      obtain ⟨d, e0⟩ := e0
      rw [e0]
      simp [Op.equalIn, Sem.run_bind, run_underlying ht, hn, hn0, sameAddr, hab]
      first
        | rfl
        | exact beq_eq_decide
        | (rw [Bool.eq_iff_iff]
           simp)
    have hr' : (op = .eql ∧ r = decide (a = b)) ∨ (op = .neq ∧ r = !decide (a = b)) := by
      cases op <;> simp [cmpAddr] at hr <;> simp [hr]
    rcases hr' with ⟨e1, e2⟩ | ⟨e1, e2⟩ <;> subst e1 <;> subst e2 <;> simp [execOp, ho, ex, ey, hg, binOp, he]
theorem array_desc {P : Program} {tab : Tab} (hT : TabOK P tab) {t e : TypeId} {n : Nat} {ti : TInfo} (ht : tab t = some ti) (hdesc : ti.desc = .array n e) : P.underlying t = some (.array n e) := by
  obtain ⟨_, d, h1, h2⟩ := hT t ti ht
  rw [hdesc] at h2
  simp only [descIs] at h2
  rw [h1, h2]
theorem cert_indexAddr_arr {P : Program} {tab : Tab} (hT : TabOK P tab) {o : Oper} {σ : St} {t e : TypeId} {x i : Operand} {ti te : TInfo} {id off len : Nat} {k : IntKind} {n : Int}
    (ho : o.op = .indexAddr t x i) (hd : ∀ d, o.dst = some d → d < σ.n) (ht : tab t = some ti) (hdesc : ti.desc = .array len e) (he : tab e = some te)
    (hx : σ.ev x = some (.mp id off)) (hi : σ.ev i = some (.v (.int k n))) (h0 : 0 ≤ n) (hn : n < len) : Cert P o σ (.mp id (off + n.toNat * te.size)) .pure :=
  Cert.ofQuiet .pure (.inl rfl) hd fun a g _ h _ => by
    have ei := (h i (by simp [ho, Op.operands]) _ hi).v_inv.1
    have hu := array_desc hT ht hdesc
    obtain ⟨l, o1, h1, h2, h3, eu⟩ := (h x (by simp [ho, Op.operands]) _ hx).mp_inv
    exact ⟨.pointer (some ⟨l.block, off + n.toNat * te.size, none⟩), by simp [execOp, ho, ei, eu, Instr.indexAt, Instr.sureAddr, asIntOf, run_underlying hu, h0, hn, (hT e te he).sizeOf, addr_add], .mp h1 h2 h3⟩
theorem cert_build_arr {P : Program} {tab : Tab} (hT : TabOK P tab) {o : Oper} {σ : St} {t e : TypeId} {parts : Array (Nat × Operand)} {n : Nat} {ti te : TInfo} {ps : List (Nat × AVal)} {cs : List AVal}
    (ho : o.op = .build t parts) (hd : ∀ d, o.dst = some d → d < σ.n) (ht : tab t = some ti) (hdesc : ti.desc = .array n e) (he : tab e = some te) (hev : σ.evParts parts.toList = some ps) (hfl : ∀ p ∈ ps, p.2.flat)
    (hcs : fillA (fun i => some (i * te.size, te.size)) ti.zero ps = some cs) : Cert P o σ (.agg cs) .pure :=
  Cert.ofQuiet .pure (.inl rfl) hd fun a g _ h _ => by
    have hrel := evParts_rel (a := a) (g := g) (fun x hx y hy => h x (by simpa [ho, Op.operands] using hx) y hy) hev hfl
    obtain ⟨⟨i, z, h1, h2, h3, h4, h5, h6, h7, h8, h9⟩, d, h10, h11⟩ := hT t ti ht
    have hu := array_desc hT ht hdesc
    obtain ⟨⟨ie, ze, k1, k2, _⟩, _⟩ := hT e te he
    obtain ⟨arr', q1, q2, q3⟩ := fill_spec (fun i => some (i * te.size, te.size)) hrel (cs := ti.zero) (arr := z.cells) ⟨h5, h8 g⟩ hcs
    have hb : P.built t (parts.map fun (i, x) => (i, a.eval x)).toList = some arr' := by
      unfold Program.built
      simp only [h1, hu, h4, k1, k2]
      rw [Array.toList_map]
      simpa using q1
    have hrun := run_build g.w t _ arr' hb
    exact ⟨.agg arr', by simp [execOp, ho, hrun], q2.agg (q3 h9)⟩
def PairOK (P : Program) (t : TypeId) (k : IntKind) : Prop := ∃ e i, P.underlying t = some (.array 2 e) ∧ P.info? e = some i ∧ i.size = 1 ∧ P.underlying e = some (.int k) ∧ P.eqGuardType P.depth t = false
theorem run_part {P : Program} {e : TypeId} {k : IntKind} (he : P.underlying e = some (.int k)) (xs : Array Value) (i : Nat) (u : Value) (hu : xs[i]? = some u) (w : World) : (part e xs i).run P w = .ok u w := by
  simp [part, Go.isAgg, run_underlying he, hu]
theorem cert_eqPair {P : Program} {o : Oper} {σ : St} {op : BinOp} {t t' : TypeId} {x y : Operand} {k : IntKind} {a0 a1 b0 b1 : Int} {r : Bool}
    (ho : o.op = .binOp op t x y t') (hd : ∀ d, o.dst = some d → d < σ.n) (hP : PairOK P t k)
    (hx : σ.ev x = some (.agg [.v (.int k a0), .v (.int k a1)])) (hy : σ.ev y = some (.agg [.v (.int k b0), .v (.int k b1)]))
    (hr : (op = .eql ∧ r = (decide (a0 = b0) && decide (a1 = b1))) ∨ (op = .neq ∧ r = !(decide (a0 = b0) && decide (a1 = b1)))) : Cert P o σ (.v (.bool r)) .pure :=
  Cert.ofQuiet .pure (.inl rfl) hd fun ac g _ h _ => by
    obtain ⟨e, ie, hau, k1, hsz, hu, hgd⟩ := hP
    have cells : ∀ {z : Operand} {c0 c1 : Int}, z ∈ o.op.operands → σ.ev z = some (.agg [.v (.int k c0), .v (.int k c1)]) → ac.eval z = .agg #[.int k c0, .int k c1] := fun {z c0 c1} hz hev => by
      obtain ⟨vs, e1, e2, e3⟩ := (h z hz _ hev).agg_inv
      rw [e1]
      congr 1
      have e2 : vs.size = 2 := e2
      have h0 : vs[0]? = some (vs[0]'(by omega)) := by simp [e2]
      have h1 : vs[1]? = some (vs[1]'(by omega)) := by simp [e2]
      have q0 := (e3.2 0 _ _ rfl h0).v_inv.1
      have q1 := (e3.2 1 _ _ rfl h1).v_inv.1
      apply Array.ext
      · simp [e2]
      intro i hi1 hi2
      have : i = 0 ∨ i = 1 := by
        simp at hi2
        omega
      rcases this with rfl | rfl
      · simpa using q0
      simpa using q1
    have ex := cells (by simp [ho, Op.operands]) hx
    have ey := cells (by simp [ho, Op.operands]) hy
    have hg := run_eqGuard_agg (P := P) g.w op t x y #[.int k a0, .int k a1] #[.int k b0, .int k b1] hgd
    refine ⟨.bool r, ?_, .v trivial⟩
    have hc : P.cellsOf e = 1 := by
      simp [Program.cellsOf, k1, hsz]
    have he' : (Op.equal t (.agg #[.int k a0, .int k a1]) (.agg #[.int k b0, .int k b1])).run P g.w = .ok (decide (a0 = b0) && decide (a1 = b1)) g.w := by
      have e0 : ∃ d, Op.equal t (.agg #[.int k a0, .int k a1]) (.agg #[.int k b0, .int k b1]) = Op.equalIn (d + 2) t (.agg #[.int k a0, .int k a1]) (.agg #[.int k b0, .int k b1]) := ⟨9998, rfl⟩
      obtain ⟨d, e0⟩ := e0
      rw [e0, run_equalIn_array g.w (d + 1) _ _ hau k1, hc]
      have hi : ∀ (p q : Int), (Op.equalIn (d + 1) e (.int k p) (.int k q)).run P g.w = .ok (decide (p = q)) g.w := fun p q => by
        have hpq : (p == q) = decide (p = q) := by
          by_cases hq : p = q
          · simp [hq]
          simp [hq]
        simp [Op.equalIn, run_underlying hu, hpq]
      have p0 := run_part hu #[.int k a0, .int k a1] 0 (.int k a0) rfl g.w
      have p1 := run_part hu #[.int k a0, .int k a1] 1 (.int k a1) rfl g.w
      have s0 := run_part hu #[.int k b0, .int k b1] 0 (.int k b0) rfl g.w
      have s1 := run_part hu #[.int k b0, .int k b1] 1 (.int k b1) rfl g.w
      show (Op.eqItems (d + 1) e 1 _ _ [0, 1]).run P g.w = _
      simp only [Op.eqItems, Sem.run_bind, Nat.zero_mul, Nat.one_mul, p0, s0, p1, s1, hi, Result.andThen_ok]
      by_cases q0 : a0 = b0
      · subst q0
        simp only [decide_true, Bool.not_true, Bool.false_eq_true, if_false, Bool.true_and, Sem.run_bind, p1, s1, hi, Result.andThen_ok]
        by_cases q1 : a1 = b1 <;> simp [q1]
      simp [q0]
    rcases hr with ⟨e1, e2⟩ | ⟨e1, e2⟩ <;> subst e1 <;> subst e2 <;> simp [execOp, ho, ex, ey, hg, binOp, he']
structure Tag {α : Type} (a : α) : Type where
def on {α : Type} (x : Option α) (f : α → Prop) (_t : Tag f := {}) : Prop :=
  match x with
  | some y => f y
  | none => False
theorem on_some {α : Type} (y : α) (f : α → Prop) (t : Tag f) : on (some y) f t = f y := rfl
theorem on_elim {α : Type} {x : Option α} {f : α → Prop} {t : Tag f} (h : on x f t) : ∃ y, x = some y ∧ f y := by
  cases x with
  | none => exact h.elim
  | some y => exact ⟨y, rfl, h⟩
def Later (p : Unit → Prop) (_t : Tag p := {}) : Prop := p ()
def At (σ : St) (f : St → Prop) (_t : Tag f := {}) : Prop := f σ
theorem at_intro {σ : St} {f : St → Prop} {t : Tag f} (h : f σ) : At σ f t := h
def vcIf (b : Bool) (X Y : Unit → Prop) (_t : Tag X := {}) (_t' : Tag Y := {}) : Prop := if b then X () else Y ()
theorem vcIf_true (X Y : Unit → Prop) (t : Tag X) (t' : Tag Y) : vcIf true X Y t t' = X () := rfl
theorem vcIf_false (X Y : Unit → Prop) (t : Tag X) (t' : Tag Y) : vcIf false X Y t t' = Y () := rfl
theorem vcIf_split {b : Bool} {X Y : Unit → Prop} {t : Tag X} {t' : Tag Y} (h : b = true → X ()) (k : b = false → Y ()) : vcIf b X Y t t' := by
  cases b
  · exact k rfl
  exact h rfl
abbrev Kont := AVal → Mode → Prop
def isNil : Operand → Bool
  | .const (.slice none 0 0) => true
  | _ => false
def vcMove (tab : Tab) (ty : TypeId) (x : Operand) (σ : St) (K : Kont) : Prop :=
  match isNil x with
  | true => on (tab ty) fun ti => match ti.desc with
    | .slice e => on (tab e) fun te => K (.lst te.size [] .ex) .pure
    | _ => False
  | false => on (σ.ev x) fun y => K y .pure
def vcPick (σ : St) (c x z : Operand) (K : Kont) : Prop :=
  on (σ.ev c) fun
    | .v (.bool b) => vcIf b (fun _ => on (σ.ev x) fun y => K y .pure) (fun _ => on (σ.ev z) fun y => K y .pure)
    | _ => False
def vcFieldAddr (tab : Tab) (s : TypeId) (k : Nat) (x : AVal) (K : Kont) : Prop :=
  on (tab s) fun ti => match ti.desc with
    | .struct fs => on fs[k]? fun f => on (tab f.2) fun tf => tf.size ≠ 0 ∧
      match x with
      | .ip oa cs => K (.ip (oa.map (·.add f.1)) (cs.drop f.1)) .pure
      | .mp id off => K (.mp id (off + f.1)) .pure
      | _ => False
    | _ => False
def vcField (tab : Tab) (s : TypeId) (k : Nat) (x : AVal) (K : Kont) : Prop :=
  on (tab s) fun ti => match ti.desc with
    | .struct fs => on fs[k]? fun f => on (tab f.2) fun tf => match x with
      | .agg cs => vcIf tf.desc.agg (fun _ => K (.agg ((cs.drop f.1).take tf.size)) .pure) (fun _ => on cs[f.1]? fun r => K r .pure)
      | _ => False
    | _ => False
def vcLoad (tab : Tab) (O : List AObj) (t : TypeId) (x : AVal) (K : Kont) : Prop :=
  on (tab t) fun ti =>
    match x with
    | .ip _ cs => vcIf ti.desc.agg (fun _ => ti.size ≤ cs.length ∧ K (.agg (cs.take ti.size)) .pure) (fun _ => on cs[0]? fun c => K c .pure)
    | .mp id off => on O[id]? fun
      | .cells os => vcIf ti.desc.agg (fun _ => off + ti.size ≤ os.length ∧ K (.agg ((os.drop off).take ti.size)) (.rd id)) (fun _ => on os[off]? fun c => K c (.rd id))
      | _ => False
    | _ => False
def vcStore (tab : Tab) (O : List AObj) (t : TypeId) (x y : AVal) (K : Kont) : Prop :=
  on (tab t) fun ti =>
    match x with
    | .mp id off => on O[id]? fun
      | .cells os => y.flat ∧ y.cells.length = ti.size ∧ off + ti.size ≤ os.length ∧ K (.v (.bool false)) (.wr O.length [id] (O.set id (.cells (splice os off y.cells))))
      | _ => False
    | _ => False
def vcIndexAddr (tab : Tab) (t : TypeId) (x i : AVal) (K : Kont) : Prop :=
  on (tab t) fun ti => match ti.desc with
    | .slice e => on (tab e) fun te =>
      match i with
      | .v (.int _ n) =>
        (match x with
        | .lst sz xs ow => te.size = sz ∧ 0 ≤ n ∧ on xs[n.toNat]? fun y => K (.ip (ownAt ow (n.toNat * te.size)) y.cells) .pure
        | .ms id off len _ => 0 ≤ n ∧ n < len ∧ K (.mp id (off + n.toNat * te.size)) .pure
        | .os id len _ => 0 ≤ n ∧ n < len ∧ K (.mp id (n.toNat * te.size)) .pure
        | _ => False)
      | _ => False
    | .array len e => on (tab e) fun te =>
      match i with
      | .v (.int _ n) =>
        (match x with
        | .mp id off => 0 ≤ n ∧ n < len ∧ K (.mp id (off + n.toNat * te.size)) .pure
        | _ => False)
      | _ => False
    | _ => False
def cmpStr : BinOp → ByteArray → ByteArray → Option Bool
  | .eql, a, b => some (decide (a = b))
  | .neq, a, b => some (!decide (a = b))
  | _, _, _ => none
def cmpBool : BinOp → Bool → Bool → Option Bool
  | .eql, a, b => some (a == b)
  | .neq, a, b => some (!(a == b))
  | _, _, _ => none
def vcInt (op : BinOp) (k : IntKind) (m n : Int) (K : Kont) : Prop :=
  vcIf (cmpInt op m n).isSome (fun _ => on (cmpInt op m n) fun b => K (.v (.bool b)) .pure) (fun _ => on (arithInt k op m n) fun r => loK k ≤ r ∧ r ≤ hiK k ∧ K (.v (.int k r)) .pure)
def nilTest : BinOp → Bool → Option Bool
  | .eql, b => some b
  | .neq, b => some (!b)
  | _, _ => none
def ptrA : AVal → Option Bool
  | .v (.pointer none) => some true
  | .ip _ _ => some false
  | .mp _ _ => some false
  | _ => none
theorem ptrA_spec {x : AVal} {b : Bool} (h : ptrA x = some b) : (x = .v (.pointer none) ∧ b = true) ∨ (∃ oa cs, x = .ip oa cs ∧ b = false) ∨ (∃ id off, x = .mp id off ∧ b = false) := by
  unfold ptrA at h
  split at h
  · exact .inl ⟨rfl, by simpa using h.symm⟩
  · exact .inr (.inl ⟨_, _, rfl, by simpa using h.symm⟩)
  · exact .inr (.inr ⟨_, _, rfl, by simpa using h.symm⟩)
  cases h
def vcPtr (P : Program) (op : BinOp) (t : TypeId) (x : AVal) (K : Kont) : Prop :=
  (∃ e, P.underlying t = some (.pointer e)) ∧ on (ptrA x) fun b => on (nilTest op b) fun r => K (.v (.bool r)) .pure
def vcBin (P : Program) (op : BinOp) (t : TypeId) (x y : AVal) (K : Kont) : Prop :=
  match x, y with
  | .v (.int k m), .v (.int k' n) => vcIf (isShift op) (fun _ => 0 ≤ n ∧ loK k ≤ shiftInt k op m n ∧ shiftInt k op m n ≤ hiK k ∧ K (.v (.int k (shiftInt k op m n))) .pure) (fun _ => k = k' ∧ vcInt op k m n K)
  | .v (.string a), .v (.string b) => on (cmpStr op a b) fun r => K (.v (.bool r)) .pure
  | .v (.bool a), .v (.bool b) => P.underlying t = some .bool ∧ on (cmpBool op a b) fun r => K (.v (.bool r)) .pure
  | x, .v (.pointer none) => vcPtr P op t x K
  | .ip (some a) _, .ip (some b) _ => (∃ e n, P.underlying t = some (.pointer e) ∧ (∀ w, (sizeOf e).run P w = .ok n w) ∧ n ≠ 0) ∧ a.block = b.block ∧ on (cmpAddr op a b) fun r => K (.v (.bool r)) .pure
  | .agg [.v (.int k a0), .v (.int k1 a1)], .agg [.v (.int k2 b0), .v (.int k3 b1)] => (k1 = k ∧ k2 = k ∧ k3 = k ∧ PairOK P t k) ∧ on (nilTest op (decide (a0 = b0) && decide (a1 = b1))) fun r => K (.v (.bool r)) .pure
  | _, _ => False
def TD.elem : TD → Option TypeId
  | .slice e => some e
  | _ => none
theorem TD.elem_spec {d : TD} {e : TypeId} (h : d.elem = some e) : d = .slice e := by
  cases d <;> simp [TD.elem] at h
  rw [h]
def nilA : AVal → Option Bool
  | .v (.slice none 0 0) => some true
  | .lst _ _ .nn => some false
  | .ms _ _ _ _ => some false
  | _ => none
def vcNil (tab : Tab) (op : BinOp) (t : TypeId) (x : AVal) (K : Kont) : Prop :=
  on (tab t) fun ti => on ti.desc.elem fun _ => on (nilA x) fun b => on (nilTest op b) fun r => K (.v (.bool r)) .pure
def vcUn (op : UnOp) (x : AVal) (K : Kont) : Prop :=
  match op, x with
  | .not, .v (.bool b) => K (.v (.bool !b)) .pure
  | .neg, .v (.int k n) => loK k ≤ -n ∧ -n ≤ hiK k ∧ K (.v (.int k (-n))) .pure
  | _, _ => False
def bnd (σ : St) (p : Option Operand) (dflt : Nat) (K : Nat → Prop) : Prop :=
  match p with
  | none => K dflt
  | some q => on (σ.ev q) fun
    | .v (.int _ n) => 0 ≤ n ∧ K n.toNat
    | _ => False
def vcCut (sz : Nat) (xs : List AVal) (o : Own) (l h : Nat) (K : Kont) : Prop :=
  match o with
  | .ex => vcIf (decide (l = 0) && decide (h = xs.length)) (fun _ => K (.lst sz xs .ex) .pure) (fun _ => K (.lst sz ((xs.take h).drop l) .sh) .pure)
  | _ => K (.lst sz ((xs.take h).drop l) .sh) .pure
theorem vcCut_elim {sz : Nat} {xs : List AVal} {o : Own} {l h : Nat} {K : Kont} (k : vcCut sz xs o l h K) : (o = .ex ∧ l = 0 ∧ h = xs.length ∧ K (.lst sz xs .ex) .pure) ∨ K (.lst sz ((xs.take h).drop l) .sh) .pure := by
  unfold vcCut at k
  split at k
  · by_cases hf : (decide (l = 0) && decide (h = xs.length)) = true
    · rw [hf, vcIf_true] at k
      simp only [Bool.and_eq_true, decide_eq_true_eq] at hf
      exact .inl ⟨rfl, hf.1, hf.2, k⟩
    rw [show (decide (l = 0) && decide (h = xs.length)) = false by simpa using hf, vcIf_false] at k
    exact .inr k
  exact .inr k
def vcSlice (tab : Tab) (σ : St) (t : TypeId) (x : AVal) (lo hi mx : Option Operand) (K : Kont) : Prop :=
  on (tab t) fun ti => match ti.desc with
    | .slice e => on (tab e) fun te =>
      match x, mx with
      | .lst sz xs ow, none => te.size = sz ∧ bnd σ lo 0 fun l => bnd σ hi xs.length fun h => l ≤ h ∧ h ≤ xs.length ∧ vcCut sz xs ow l h K
      | .ms id off len cap, none => bnd σ lo 0 fun l => bnd σ hi len fun h => l ≤ h ∧ h ≤ cap ∧ l < cap ∧ h ≤ 2 ^ 62 ∧ K (.ms id (off + l * te.size) (h - l) (cap - l)) .pure
      | .raw sz len id, none => 0 < len ∧ bnd σ lo 0 fun l => bnd σ hi len fun h => l = 0 ∧ h = 0 ∧ K (.lst sz [] (.tok id)) .pure
      | .os id len sz, none => bnd σ lo 0 fun l => bnd σ hi len fun h => l = 0 ∧ h ≤ len ∧ 0 < len ∧ K (.os id h sz) .pure
      | _, _ => False
    | _ => False
def allFlat : List (Nat × AVal) → Prop
  | [] => True
  | p :: r => p.2.flat ∧ allFlat r
def allSize (n : Nat) : List AVal → Prop
  | [] => True
  | x :: r => x.cells.length = n ∧ allSize n r
def vcBuild (tab : Tab) (σ : St) (t : TypeId) (parts : Array (Nat × Operand)) (K : Kont) : Prop :=
  on (tab t) fun ti => match ti.desc with
    | .struct fs => on (placesOf tab fs) fun pl => on (σ.evParts parts.toList) fun ps => allFlat ps ∧ on (fillA (fun i => pl[i]?) ti.zero ps) fun cs => K (.agg cs) .pure
    | .array _ e => on (tab e) fun te => on (σ.evParts parts.toList) fun ps => allFlat ps ∧ on (fillA (fun i => some (i * te.size, te.size)) ti.zero ps) fun cs => K (.agg cs) .pure
    | _ => False
def vcBuildSlice (tab : Tab) (σ : St) (t : TypeId) (len : Nat) (parts : Array (Nat × Operand)) (K : Kont) : Prop :=
  on (tab t) fun ti => match ti.desc with
    | .slice e => on (tab e) fun te => on (σ.evParts parts.toList) fun ps => allFlat ps ∧ on (seqParts 0 ps) fun xs => 0 < te.size ∧ xs.length = len ∧ allSize te.size xs ∧ len * te.size ≤ 2 ^ 24 ∧ K (.lst te.size (xs.map AVal.share) .ex) .pure
    | _ => False
structure Md where
  app : Bool
  made : Bool
def vcMakeSlice (mk : Bool) (tab : Tab) (O : List AObj) (t : TypeId) (x y : AVal) (K : Kont) : Prop :=
  on (tab t) fun ti => match ti.desc with
    | .slice e => on (tab e) fun te =>
      match x, y with
      | .v (.int _ n), .v (.int _ n') => n' = n ∧ 0 ≤ n ∧ te.bytes * n.toNat ≤ 2 ^ 48 ∧ n.toNat ≤ 2 ^ 62 ∧ 0 < te.size ∧
          vcIf mk (fun _ => (te.desc.agg = true ∨ te.size = 1) ∧ K (.lst te.size (List.replicate n.toNat (zeroOf te).share) .ex) .pure)
            (fun _ => K (.ms O.length 0 n.toNat n.toNat) (.wr O.length [] (O ++ [.cells (List.replicate n.toNat te.zero).flatten])))
      | _, _ => False
    | _ => False
def ktOf (P : Program) (k : TypeId) : Option KT :=
  match P.underlying k with
  | some .string => some .str
  | some (.int k) => some (.int k)
  | _ => none
def vcLookup (P : Program) (tab : Tab) (O : List AObj) (t : TypeId) (x y : AVal) (ok : Bool) (K : Kont) : Prop :=
  on (tab t) fun ti => match ti.desc with
    | .map k e => on (ktOf P k) fun kt => on (tab e) fun te => (te.desc.agg = true ∨ te.size = 1) ∧
      match y with
      | .v key => kt.ok key ∧
        (match x with
        | .im kt' es => kt' = kt ∧ K (lookRes ok (lookV es key) (zeroOf te)) .pure
        | .mm id => on O[id]? fun
          | .map kt' es => kt' = kt ∧ K (lookRes ok (lookV es key) (zeroOf te)) (.rd id)
          | _ => False
        | .v (.map none) => K (lookRes ok none (zeroOf te)) .pure
        | _ => False)
      | _ => False
    | _ => False
def vcMapUpdate (P : Program) (tab : Tab) (O : List AObj) (t : TypeId) (x y v : AVal) (K : Kont) : Prop :=
  on (tab t) fun ti => match ti.desc with
    | .map k _ => on (ktOf P k) fun kt =>
      match x, y with
      | .mm id, .v key => kt.ok key ∧ on O[id]? fun
        | .map kt' es => kt' = kt ∧ K (.v (.bool false)) (.wr O.length [id] (O.set id (.map kt (putV es key v))))
        | _ => False
      | _, _ => False
    | _ => False
def vcMakeMap (P : Program) (tab : Tab) (O : List AObj) (t : TypeId) (K : Kont) : Prop :=
  on (tab t) fun ti => match ti.desc with
    | .map k _ => on (ktOf P k) fun kt => K (.mm O.length) (.wr O.length [] (O ++ [.map kt []]))
    | _ => False
def lenA : AVal → Option Nat
  | .lst _ xs _ => some xs.length
  | .ms _ _ len _ => some len
  | .os _ len _ => some len
  | _ => none
def vcLen (tab : Tab) (t : TypeId) (x : AVal) (K : Kont) : Prop :=
  on (tab t) fun ti => on ti.desc.elem fun _ => on (lenA x) fun n => K (.v (.int .i64 n)) .pure
theorem lenA_spec {x : AVal} {n : Nat} (h : lenA x = some n) : (∃ sz xs ow, x = .lst sz xs ow ∧ n = xs.length) ∨ (∃ id off cap, x = .ms id off n cap) ∨ ∃ id sz, x = .os id n sz := by
  cases x <;> simp [lenA] at h
  · exact .inl ⟨_, _, _, rfl, h.symm⟩
  · subst h
    exact .inr (.inl ⟨_, _, _, rfl⟩)
  subst h
  exact .inr (.inr ⟨_, _, rfl⟩)
def vcAppend (P : Program) (mk : Bool) (md : Bool) (tab : Tab) (O : List AObj) (t t' : TypeId) (x y : AVal) (K : Kont) : Prop :=
  on (tab t) fun ti => on ti.desc.elem fun e => on (tab e) fun te =>
      match x, y with
      | .lst sz xs .ex, .lst sz' ys _ => t' = t ∧ te.size = sz ∧ sz' = sz ∧ xs.length + ys.length ≤ 2 ^ 62 ∧ (xs.length + ys.length) * te.bytes ≤ 2 ^ 47 ∧
          vcIf md (fun _ => ys.length ≠ 0 ∧ vcIf mk (fun _ => K (.os O.length (xs.length + ys.length) sz) (.wr O.length [] (O ++ [.cells (cellsAll (xs ++ ys.map AVal.share))])))
              (fun _ => K (.ms O.length 0 (xs.length + ys.length) (xs.length + ys.length)) (.wr O.length [] (O ++ [.cells (cellsAll (xs ++ ys.map AVal.share))]))))
            (fun _ => K (.lst sz (xs ++ ys.map AVal.share) (.tok O.length)) (.wr O.length [] (O ++ [.spare (xs.length + ys.length)])))
      | .lst sz xs (.tok id), .lst sz' ys _ => t' = t ∧ te.size = sz ∧ sz' = sz ∧ O[id]? = some (.spare xs.length) ∧ xs.length + ys.length ≤ 2 ^ 62 ∧ (xs.length + ys.length) * te.bytes ≤ 2 ^ 47 ∧
          K (.lst sz (xs ++ ys.map AVal.share) (.tok id)) (.wr O.length [id] (O.set id (.spare (xs.length + ys.length))))
      | .lst _ xs .ex, .v (.int k n) => xs = [] ∧ k = .i64 ∧ P.underlying t' = some (.int .i64) ∧ 0 < n ∧ n.toNat ≤ 2 ^ 62 ∧ n.toNat * te.bytes ≤ 2 ^ 47 ∧ 0 < te.size ∧
          vcIf md (fun _ => K (.raw te.size n.toNat O.length) (.wr O.length [] (O ++ [.spare 0])))
            (fun _ => K (.ms O.length 0 n.toNat n.toNat) (.wr O.length [] (O ++ [.cells (List.replicate n.toNat te.zero).flatten])))
      | .ms id off len cap, .lst sz ys _ => t' = t ∧ te.size = sz ∧ on O[id]? fun
        | .cells cs => len + ys.length ≤ cap ∧ len + ys.length ≤ 2 ^ 62 ∧ off + (len + ys.length) * sz ≤ cs.length ∧
          K (.ms id off (len + ys.length) cap) (.wr O.length [id] (O.set id (.cells (splice cs (off + len * sz) (cellsAll (ys.map AVal.share))))))
        | _ => False
      | .os id len sz, .lst sz' ys _ => t' = t ∧ te.size = sz ∧ sz' = sz ∧ on O[id]? fun
        | .cells cs => len * sz ≤ cs.length ∧ ys.length ≠ 0 ∧ len + ys.length ≤ 2 ^ 62 ∧ (len + ys.length) * te.bytes ≤ 2 ^ 47 ∧
          K (.os O.length (len + ys.length) sz) (.wr O.length [id] (O.set id .gone ++ [.cells (cs.take (len * sz) ++ cellsAll (ys.map AVal.share))]))
        | _ => False
      | _, _ => False
def capA : AVal → Option Nat
  | .lst _ xs .ex => some xs.length
  | _ => none
theorem capA_spec {x : AVal} {n : Nat} (h : capA x = some n) : ∃ sz xs, x = .lst sz xs .ex ∧ n = xs.length := by
  unfold capA at h
  split at h
  · exact ⟨_, _, rfl, by simpa using h.symm⟩
  cases h
def vcCap (tab : Tab) (t : TypeId) (x : AVal) (K : Kont) : Prop :=
  on (tab t) fun ti => on ti.desc.elem fun _ => on (capA x) fun n => K (.v (.int .i64 n)) .pure
def vcClear (tab : Tab) (O : List AObj) (t : TypeId) (x : AVal) (K : Kont) : Prop :=
  on (tab t) fun ti => on ti.desc.elem fun e => on (tab e) fun te => match x with
    | .ms id off len _ => on O[id]? fun
      | .cells cs => 0 < len ∧ 0 < te.size ∧ off + len * te.size ≤ cs.length ∧ K (.tup []) (.wr O.length [id] (O.set id (.cells (splice cs off (List.replicate len te.zero).flatten))))
      | _ => False
    | _ => False
def vcTop (x y : AVal) (K : Kont) : Prop :=
  match x, y with
  | .v (.int .i64 m), .v (.int .i64 n) => K (.v (.int .i64 (max m n))) .pure
  | _, _ => False
def vcLow (x y : AVal) (K : Kont) : Prop :=
  match x, y with
  | .v (.int .i64 m), .v (.int .i64 n) => K (.v (.int .i64 (min m n))) .pure
  | _, _ => False
theorem cert_top {P : Program} {o : Oper} {σ : St} {ats : Array TypeId} {x y : Operand} {m n : Int}
    (ho : o.op = .call ⟨.builtin .max, #[x, y], ats⟩) (hd : ∀ d, o.dst = some d → d < σ.n) (hx : σ.ev x = some (.v (.int .i64 m))) (hy : σ.ev y = some (.v (.int .i64 n))) : Cert P o σ (.v (.int .i64 (max m n))) .pure :=
  Cert.ofQuiet .pure (.inl rfl) hd fun a g _ h _ => by
    obtain ⟨ex, fx⟩ := (h x (by simp [ho, Op.operands, Call.operands]) _ hx).v_inv
    obtain ⟨ey, fy⟩ := (h y (by simp [ho, Op.operands, Call.operands]) _ hy).v_inv
    refine ⟨.int .i64 (max m n), ?_, .v ?_⟩
    · rw [run_builtin1 ho]
      have e : (if n > m then n else m) = max m n := by
        split <;> omega
      simp [builtin, Builtin.max_, Builtin.max2, ex, ey, e]
    rcases Int.le_total m n with q | q
    · rw [Int.max_eq_right q]
      exact fy
    rw [Int.max_eq_left q]
    exact fx
theorem cert_low {P : Program} {o : Oper} {σ : St} {ats : Array TypeId} {x y : Operand} {m n : Int}
    (ho : o.op = .call ⟨.builtin .min, #[x, y], ats⟩) (hd : ∀ d, o.dst = some d → d < σ.n) (hx : σ.ev x = some (.v (.int .i64 m))) (hy : σ.ev y = some (.v (.int .i64 n))) : Cert P o σ (.v (.int .i64 (min m n))) .pure :=
  Cert.ofQuiet .pure (.inl rfl) hd fun a g _ h _ => by
    obtain ⟨ex, fx⟩ := (h x (by simp [ho, Op.operands, Call.operands]) _ hx).v_inv
    obtain ⟨ey, fy⟩ := (h y (by simp [ho, Op.operands, Call.operands]) _ hy).v_inv
    refine ⟨.int .i64 (min m n), ?_, .v ?_⟩
    · rw [run_builtin1 ho]
      have e : (if n < m then n else m) = min m n := by
        split <;> omega
      simp [builtin, Builtin.min_, Builtin.min2, ex, ey, e]
    rcases Int.le_total m n with q | q
    · rw [Int.min_eq_left q]
      exact fx
    rw [Int.min_eq_right q]
    exact fy
def vcCall (P : Program) (O : List AObj) (f : AVal) (ars : List AVal) (K : Kont) : Prop :=
  match f with
  | .fn (.func id) fs cs =>
    (∃ r, PCall P id ((fs ++ ars ++ cs).map AVal.share) r ∧ uptoL 0 ((fs ++ ars ++ cs).map AVal.share) ∧ Later fun _ => K r .pure) ∨
    (∃ r O', (ECall P id O (fs ++ ars ++ cs) fun r' O1 => r' = r ∧ O1 = O') ∧ ((Later fun _ => K r (.write O')) ∨ ∃ n l, (∀ i, i < n → i ∉ l → O'[i]? = O[i]?) ∧ Later fun _ => K r (.wr n l O'))) ∨
    (∃ r, (ECall P id O (fs ++ ars ++ cs) fun r' O1 => r' = r ∧ O1 = O) ∧ Later fun _ => K r .read)
  | _ => False
def vcCallOp (P : Program) (tab : Tab) (md : Md) (dst : Option Nat) (σ : St) (callee : Callee) (args : List Operand) (ats : List TypeId) (K : Kont) : Prop :=
  match callee with
  | .value f => on (σ.ev f) fun f => on (σ.evs args) fun ars => vcCall P σ.objs f ars K
  | .builtin .len =>
    (match args, ats with
    | [x], [t] => on (σ.ev x) fun x => vcLen tab t x K
    | _, _ => False)
  | .builtin .append =>
    (match args, ats with
    | [x, y], [t, t'] => on (σ.ev x) fun x => on (σ.ev y) fun y => vcAppend P md.made md.app tab σ.objs t t' x y K
    | _, _ => False)
  | .builtin .cap =>
    (match args, ats with
    | [x], [t] => on (σ.ev x) fun x => vcCap tab t x K
    | _, _ => False)
  | .builtin .clear =>
    (match args, ats with
    | [x], [t] => dst = none ∧ on (σ.ev x) fun x => vcClear tab σ.objs t x K
    | _, _ => False)
  | .builtin .max =>
    (match args with
    | [x, y] => on (σ.ev x) fun x => on (σ.ev y) fun y => vcTop x y K
    | _ => False)
  | .builtin .min =>
    (match args with
    | [x, y] => on (σ.ev x) fun x => on (σ.ev y) fun y => vcLow x y K
    | _ => False)
  | _ => False
def vcNilCheck (y : AVal) (K : Kont) : Prop :=
  match y with
  | .mp id off => K (.mp id off) .pure
  | .ip oa cs => K (.ip oa cs) .pure
  | _ => False
def vcOp (P : Program) (tab : Tab) (md : Md) (o : Oper) (σ : St) (K : Kont) : Prop :=
  match o.op with
  | .move x => vcMove tab o.type x σ K
  | .assign x => vcMove tab o.type x σ K
  | .pick c x z => vcPick σ c x z K
  | .fieldAddr s x k => on (σ.ev x) fun x => vcFieldAddr tab s k x K
  | .field s x k => on (σ.ev x) fun x => vcField tab s k x K
  | .load t x => on (σ.ev x) fun x => vcLoad tab σ.objs t x K
  | .store t x y => o.dst = none ∧ on (σ.ev x) fun x => on (σ.ev y) fun y => vcStore tab σ.objs t x y K
  | .indexAddr t x i => on (σ.ev x) fun x => on (σ.ev i) fun i => vcIndexAddr tab t x i K
  | .binOp op t x y _ => vcIf (isNil y) (fun _ => on (σ.ev x) fun x => vcNil tab op t x K) (fun _ => on (σ.ev x) fun x => on (σ.ev y) fun y => vcBin P op t x y K)
  | .unOp op _ x => on (σ.ev x) fun x => vcUn op x K
  | .slice t x lo hi mx => on (σ.ev x) fun x => vcSlice tab σ t x lo hi mx K
  | .build t parts => vcBuild tab σ t parts K
  | .buildSlice t len parts => vcBuildSlice tab σ t len parts K
  | .alloc t => on (tab t) fun ti => K (.mp σ.objs.length 0) (.wr σ.objs.length [] (σ.objs ++ [.cells ti.zero]))
  | .box _ x => on (σ.ev x) fun y => y.flat ∧ K (.mp σ.objs.length 0) (.wr σ.objs.length [] (σ.objs ++ [.cells y.cells]))
  | .makeMap t none => vcMakeMap P tab σ.objs t K
  | .makeSlice t x y => on (σ.ev x) fun x => on (σ.ev y) fun y => vcMakeSlice md.made tab σ.objs t x y K
  | .makeFunc f first captured => on (σ.evs first.toList) fun fs => on (σ.evs captured.toList) fun cs => K (.fn f fs cs) .pure
  | .lookup t x y ok => on (σ.ev x) fun x => on (σ.ev y) fun y => vcLookup P tab σ.objs t x y ok K
  | .mapUpdate t x y v => o.dst = none ∧ on (σ.ev x) fun x => on (σ.ev y) fun y => on (σ.ev v) fun v => vcMapUpdate P tab σ.objs t x y v K
  | .insert t x y v => o.dst = none ∧ on (σ.ev x) fun x => on (σ.ev y) fun y => on (σ.ev v) fun v => vcMapUpdate P tab σ.objs t x y v K
  | .extract x k => on (σ.ev x) fun
    | .tup cs => on cs[k]? fun r => K r .pure
    | _ => False
  | .call c => vcCallOp P tab md o.dst σ c.callee c.args.toList c.argTypes.toList K
  | .nilCheck x => on (σ.ev x) fun y => vcNilCheck y K
  | _ => False
theorem keep_append {O X : List AObj} : ∀ i, i < O.length → i ∉ ([] : List Nat) → (O ++ X)[i]? = O[i]? := fun _ hi _ => List.getElem?_append_left hi
theorem keep_set {O : List AObj} {id : Nat} {x : AObj} : ∀ i, i < O.length → i ∉ [id] → (O.set id x)[i]? = O[i]? := fun i _ hl => List.getElem?_set_ne (fun e => hl (by simp [e]))
theorem keep_move {O : List AObj} {id : Nat} {x y : AObj} : ∀ i, i < O.length → i ∉ [id] → (O.set id x ++ [y])[i]? = O[i]? := fun i hi hl => by
  rw [List.getElem?_append_left (by simpa using hi)]
  exact List.getElem?_set_ne (fun e => hl (by simp [e]))
theorem isNil_spec {x : Operand} (hn : isNil x = true) : x = .const (.slice none 0 0) := by
  unfold isNil at hn
  split at hn
  · rfl
  cases hn
theorem nilA_spec {y : AVal} {b : Bool} (h : nilA y = some b) : (y = .v (.slice none 0 0) ∧ b = true) ∨ (∃ sz xs, y = .lst sz xs .nn ∧ b = false) ∨ (∃ id off len cap, y = .ms id off len cap ∧ b = false) := by
  unfold nilA at h
  split at h
  · exact .inl ⟨rfl, by simpa using h.symm⟩
  · exact .inr (.inl ⟨_, _, rfl, by simpa using h.symm⟩)
  · exact .inr (.inr ⟨_, _, _, _, rfl, by simpa using h.symm⟩)
  cases h
theorem nilTest_spec {op : BinOp} {b r : Bool} (h : nilTest op b = some r) : (op = .eql ∧ r = b) ∨ (op = .neq ∧ r = !b) := by
  unfold nilTest at h
  split at h
  · exact .inl ⟨rfl, by simpa using h.symm⟩
  · exact .inr ⟨rfl, by simpa using h.symm⟩
  cases h
theorem vcMove_sound {P : Program} {tab : Tab} {o : Oper} {σ : St} {x : Operand} {K : Kont} (ho : o.op = .move x ∨ o.op = .assign x) (hd : ∀ d, o.dst = some d → d < σ.n) (h : vcMove tab o.type x σ K) : ∃ r m, Cert P o σ r m ∧ K r m := by
  unfold vcMove at h
  cases hn : isNil x with
  | true =>
    have hx : x = .const (.slice none 0 0) := by
      unfold isNil at hn
      split at hn
      · rfl
      cases hn
    subst hx
    simp only [hn] at h
    obtain ⟨ti, _, h⟩ := on_elim h
    split at h
    · obtain ⟨te, _, h⟩ := on_elim h
      exact ⟨_, _, cert_nil te.size ho hd, h⟩
    exact h.elim
  | false =>
    simp only [hn] at h
    obtain ⟨y, hy, h⟩ := on_elim h
    exact ⟨_, _, cert_move ho hd hy, h⟩
theorem ktOf_spec {P : Program} {k : TypeId} {kt : KT} (h : ktOf P k = some kt) : ∃ d, P.underlying k = some d ∧ kt.desc d := by
  unfold ktOf at h
  split at h
  · simp only [Option.some.injEq] at h
    subst h
    exact ⟨_, by assumption, rfl⟩
  · simp only [Option.some.injEq] at h
    subst h
    exact ⟨_, by assumption, rfl⟩
  cases h
theorem allFlat_spec : ∀ {l : List (Nat × AVal)}, allFlat l → ∀ p ∈ l, p.2.flat
  | [], _, p, hp => by cases hp
  | q :: r, h, p, hp => by
    rcases List.mem_cons.1 hp with e | e
    · subst e
      exact h.1
    exact allFlat_spec h.2 p e
theorem allSize_spec {n : Nat} : ∀ {l : List AVal}, allSize n l → ∀ x ∈ l, x.cells.length = n
  | [], _, p, hp => by cases hp
  | q :: r, h, p, hp => by
    rcases List.mem_cons.1 hp with e | e
    · subst e
      exact h.1
    exact allSize_spec h.2 p e
theorem bnd_spec {σ : St} {p : Option Operand} {dflt : Nat} {K : Nat → Prop} (h : bnd σ p dflt K) : ∃ n, bndOK σ p dflt n ∧ K n := by
  unfold bnd at h
  split at h
  · exact ⟨dflt, .inl ⟨rfl, rfl⟩, h⟩
  rename_i q
  obtain ⟨y, hy, h⟩ := on_elim h
  split at h
  · rename_i k n
    obtain ⟨h1, h2⟩ := h
    exact ⟨n.toNat, .inr ⟨q, k, rfl, by rw [Int.toNat_of_nonneg h1]; exact hy⟩, h2⟩
  exact h.elim
theorem vcInt_sound {P : Program} {o : Oper} {σ : St} {op : BinOp} {t t' : TypeId} {x y : Operand} {k : IntKind} {m n : Int} {K : Kont} (ho : o.op = .binOp op t x y t') (hd : ∀ d, o.dst = some d → d < σ.n) (hx : σ.ev x = some (.v (.int k m))) (hy : σ.ev y = some (.v (.int k n)))
    (h : vcInt op k m n K) : ∃ r m, Cert P o σ r m ∧ K r m := by
  unfold vcInt at h
  cases hcmp : cmpInt op m n with
  | some b =>
    simp only [hcmp, Option.isSome_some, vcIf_true, on_some] at h
    exact ⟨_, _, cert_cmpInt ho hd hx hy hcmp, h⟩
  | none =>
    simp only [hcmp, Option.isSome_none, vcIf_false] at h
    obtain ⟨r, hr, h1, h2, h⟩ := on_elim h
    rw [loK_eq] at h1
    rw [hiK_eq] at h2
    exact ⟨_, _, cert_arithInt ho hd hx hy hr h1 h2, h⟩
theorem vcOp_sound {P : Program} {tab : Tab} {md : Md} (hT : TabOK P tab) {o : Oper} {σ : St} {K : Kont} (hd : ∀ d, o.dst = some d → d < σ.n) (h : vcOp P tab md o σ K) : ∃ r m, Cert P o σ r m ∧ K r m := by
  unfold vcOp at h
  split at h
  case h_1 x ho => exact vcMove_sound (.inl ho) hd h
  case h_2 x ho => exact vcMove_sound (.inr ho) hd h
  case h_3 c x z ho =>
    unfold vcPick at h
    obtain ⟨y, hy, h⟩ := on_elim h
    split at h
    · rename_i b
      cases b
      · rw [vcIf_false] at h
        obtain ⟨r, hr, h⟩ := on_elim h
        exact ⟨_, _, cert_pick ho hd hy (by simp) (fun _ => hr), h⟩
      rw [vcIf_true] at h
      obtain ⟨r, hr, h⟩ := on_elim h
      exact ⟨_, _, cert_pick ho hd hy (fun _ => hr) (by simp), h⟩
    exact h.elim
  case h_4 s x k ho =>
    obtain ⟨y, hy, h⟩ := on_elim h
    unfold vcFieldAddr at h
    obtain ⟨ti, ht, h⟩ := on_elim h
    split at h
    · rename_i fs hdesc
      obtain ⟨f, hf, h⟩ := on_elim h
      obtain ⟨tf, htf, hz, h⟩ := on_elim h
      split at h
      · exact ⟨_, _, cert_fieldAddr_ip hT ho hd ht hdesc hf htf hz hy, h⟩
      · exact ⟨_, _, cert_fieldAddr_mp hT ho hd ht hdesc hf htf hz hy, h⟩
      exact h.elim
    exact h.elim
  case h_5 s x k ho =>
    obtain ⟨y, hy, h⟩ := on_elim h
    unfold vcField at h
    obtain ⟨ti, ht, h⟩ := on_elim h
    split at h
    · rename_i fs hdesc
      obtain ⟨f, hf, h⟩ := on_elim h
      obtain ⟨tf, htf, h⟩ := on_elim h
      split at h
      · cases hagg : tf.desc.agg with
        | true =>
          simp only [hagg, vcIf_true] at h
          exact ⟨_, _, cert_field hT ho hd ht hdesc hf htf hy (by rw [if_pos hagg]), h⟩
        | false =>
          simp only [hagg, vcIf_false] at h
          obtain ⟨r, hr, h⟩ := on_elim h
          exact ⟨_, _, cert_field hT ho hd ht hdesc hf htf hy (by rw [if_neg (by simp [hagg])]; exact hr), h⟩
      exact h.elim
    exact h.elim
  case h_6 t x ho =>
    obtain ⟨y, hy, h⟩ := on_elim h
    unfold vcLoad at h
    obtain ⟨ti, ht, h⟩ := on_elim h
    split at h
    · cases hagg : ti.desc.agg with
      | true =>
        simp only [hagg, vcIf_true] at h
        exact ⟨_, _, cert_load_ip hT ho hd ht hy hagg h.1, h.2⟩
      | false =>
        simp only [hagg, vcIf_false] at h
        obtain ⟨c, hc, h⟩ := on_elim h
        exact ⟨_, _, cert_load_ip1 hT ho hd ht hy hagg hc, h⟩
    · obtain ⟨os, hos, h⟩ := on_elim h
      split at h
      · cases hagg : ti.desc.agg with
        | true =>
          simp only [hagg, vcIf_true] at h
          exact ⟨_, _, cert_load_mp hT ho hd ht hy hos hagg h.1, h.2⟩
        | false =>
          simp only [hagg, vcIf_false] at h
          obtain ⟨c, hc, h⟩ := on_elim h
          exact ⟨_, _, cert_load_mp1 hT ho hd ht hy hos hagg hc, h⟩
      exact h.elim
    exact h.elim
  case h_7 t x y ho =>
    obtain ⟨hdst, h⟩ := h
    obtain ⟨x', hx, h⟩ := on_elim h
    obtain ⟨y', hy, h⟩ := on_elim h
    unfold vcStore at h
    obtain ⟨ti, ht, h⟩ := on_elim h
    split at h
    · obtain ⟨os, hos, h⟩ := on_elim h
      split at h
      · obtain ⟨h1, h2, h3, h⟩ := h
        exact ⟨_, _, (cert_store hT ho hdst ht hx hos hy h1 h2 h3).close keep_set, h⟩
      exact h.elim
    exact h.elim
  case h_8 t x i ho =>
    obtain ⟨x', hx, h⟩ := on_elim h
    obtain ⟨i', hi, h⟩ := on_elim h
    unfold vcIndexAddr at h
    obtain ⟨ti, ht, h⟩ := on_elim h
    split at h
    · rename_i e hdesc
      obtain ⟨te, he, h⟩ := on_elim h
      split at h
      · split at h
        · obtain ⟨h1, h2, h⟩ := h
          obtain ⟨y, h3, h⟩ := on_elim h
          exact ⟨_, _, cert_indexAddr_lst hT ho hd ht hdesc he h1 hx hi h2 h3, h⟩
        · obtain ⟨h1, h2, h⟩ := h
          exact ⟨_, _, cert_indexAddr_ms hT ho hd ht hdesc he hx hi h1 h2, h⟩
        · obtain ⟨h1, h2, h⟩ := h
          exact ⟨_, _, cert_indexAddr_os hT ho hd ht hdesc he hx hi h1 h2, h⟩
        exact h.elim
      exact h.elim
    · rename_i len e hdesc
      obtain ⟨te, he, h⟩ := on_elim h
      split at h
      · split at h
        · obtain ⟨h1, h2, h⟩ := h
          exact ⟨_, _, cert_indexAddr_arr hT ho hd ht hdesc he hx hi h1 h2, h⟩
        exact h.elim
      exact h.elim
    exact h.elim
  case h_9 op t x y t' ho =>
    cases hn : isNil y with
    | true =>
      simp only [hn, vcIf_true] at h
      have hy := isNil_spec hn
      subst hy
      obtain ⟨x', hx, h⟩ := on_elim h
      unfold vcNil at h
      obtain ⟨ti, ht, h⟩ := on_elim h
      obtain ⟨e, hdesc, h⟩ := on_elim h
      obtain ⟨b, hb, h⟩ := on_elim h
      obtain ⟨r, hr, h⟩ := on_elim h
      exact ⟨_, _, cert_eqlNil hT ho hd ht (TD.elem_spec hdesc) hx (nilA_spec hb) (nilTest_spec hr), h⟩
    | false =>
    simp only [hn, vcIf_false] at h
    obtain ⟨x', hx, h⟩ := on_elim h
    obtain ⟨y', hy, h⟩ := on_elim h
    unfold vcBin at h
    split at h
    · cases hs : isShift op with
      | true =>
        simp only [hs, vcIf_true] at h
        obtain ⟨h0, h1, h2, h⟩ := h
        rw [loK_eq] at h1
        rw [hiK_eq] at h2
        exact ⟨_, _, cert_shiftInt ho hd hx hy hs h0 h1 h2, h⟩
      | false =>
        simp only [hs, vcIf_false] at h
        obtain ⟨hk, h⟩ := h
        subst hk
        exact vcInt_sound ho hd hx hy h
    · obtain ⟨r, hr, h⟩ := on_elim h
      refine ⟨_, _, cert_eqString ho hd hx hy ?_, h⟩
      cases op <;> simp [cmpStr] at hr <;> simp [hr]
    · obtain ⟨hb, h⟩ := h
      obtain ⟨r, hr, h⟩ := on_elim h
      refine ⟨_, _, cert_eqBool ho hd hb hx hy ?_, h⟩
      cases op <;> simp [cmpBool] at hr <;> simp [hr]
    · obtain ⟨⟨e, he⟩, h⟩ := h
      obtain ⟨b, hb, h⟩ := on_elim h
      obtain ⟨r, hr, h⟩ := on_elim h
      exact ⟨_, _, cert_eqPtrNil ho hd he hx hy (ptrA_spec hb) (nilTest_spec hr), h⟩
    · obtain ⟨⟨e, n, he, hn, hn0⟩, hab, h⟩ := h
      obtain ⟨r, hr, h⟩ := on_elim h
      exact ⟨_, _, cert_eqAddr ho hd he hn hn0 hx hy hab hr, h⟩
    · obtain ⟨⟨k1, k2, k3, hP⟩, h9⟩ := h
      obtain ⟨r, hr, h8⟩ := on_elim h9
      subst k1
      subst k2
      subst k3
      exact ⟨_, _, cert_eqPair ho hd hP hx hy (nilTest_spec hr), h8⟩
    exact h.elim
  case h_10 op t x ho =>
    obtain ⟨x', hx, h⟩ := on_elim h
    unfold vcUn at h
    split at h
    · exact ⟨_, _, cert_not ho hd hx, h⟩
    · obtain ⟨h1, h2, h⟩ := h
      rw [loK_eq] at h1
      rw [hiK_eq] at h2
      exact ⟨_, _, cert_neg ho hd hx h1 h2, h⟩
    exact h.elim
  case h_11 t x lo hi mx ho =>
    obtain ⟨x', hx, h⟩ := on_elim h
    unfold vcSlice at h
    obtain ⟨ti, ht, h⟩ := on_elim h
    split at h
    · rename_i e hdesc
      obtain ⟨te, he, h⟩ := on_elim h
      split at h
      · obtain ⟨h1, h⟩ := h
        obtain ⟨l, hl, h⟩ := bnd_spec h
        obtain ⟨hh, hhi, h2, h3, h⟩ := bnd_spec h
        rcases vcCut_elim h with ⟨e1, e2, e3, hq⟩ | hq
        · subst e1
          subst e2
          subst e3
          exact ⟨_, _, cert_slice_full hT ho hd ht hdesc he hx hl hhi, hq⟩
        exact ⟨_, _, cert_slice hT ho hd ht hdesc he h1 hx hl hhi h2 h3, hq⟩
      · obtain ⟨l, hl, h⟩ := bnd_spec h
        obtain ⟨hh, hhi, h2, h3, h4, h5, h⟩ := bnd_spec h
        exact ⟨_, _, cert_slice_ms hT ho hd ht hdesc he hx hl hhi h2 h3 h4 h5, h⟩
      · obtain ⟨h1, h⟩ := h
        obtain ⟨l, hl, hq⟩ := bnd_spec h
        obtain ⟨hh, hhi, h2, h3, hz⟩ := bnd_spec hq
        subst h2
        subst h3
        exact ⟨_, _, cert_slice_raw hT ho hd ht hdesc he hx hl hhi h1, hz⟩
      · obtain ⟨l, hl, hq⟩ := bnd_spec h
        obtain ⟨hh, hhi, h2, h3, h4, hz⟩ := bnd_spec hq
        subst h2
        exact ⟨_, _, cert_slice_os hT ho hd ht hdesc he hx hl hhi h3 h4, hz⟩
      exact h.elim
    exact h.elim
  case h_12 t parts ho =>
    unfold vcBuild at h
    obtain ⟨ti, ht, h⟩ := on_elim h
    split at h
    · rename_i fs hdesc
      obtain ⟨pl, hpl, h⟩ := on_elim h
      obtain ⟨ps, hps, hfl, h⟩ := on_elim h
      obtain ⟨cs, hcs, h⟩ := on_elim h
      exact ⟨_, _, cert_build hT ho hd ht hdesc hpl hps (allFlat_spec hfl) hcs, h⟩
    · rename_i n e hdesc
      obtain ⟨te, he, h⟩ := on_elim h
      obtain ⟨ps, hps, hfl, h⟩ := on_elim h
      obtain ⟨cs, hcs, h⟩ := on_elim h
      exact ⟨_, _, cert_build_arr hT ho hd ht hdesc he hps (allFlat_spec hfl) hcs, h⟩
    exact h.elim
  case h_13 t len parts ho =>
    unfold vcBuildSlice at h
    obtain ⟨ti, ht, h⟩ := on_elim h
    split at h
    · rename_i e hdesc
      obtain ⟨te, he, h⟩ := on_elim h
      obtain ⟨ps, hps, hfl, h⟩ := on_elim h
      obtain ⟨xs, hxs, h1, h2, h3, h4, h⟩ := on_elim h
      exact ⟨_, _, cert_buildSlice hT ho hd ht hdesc he h1 hps (allFlat_spec hfl) hxs h2 (allSize_spec h3) h4, h⟩
    exact h.elim
  case h_14 t ho =>
    obtain ⟨ti, ht, h⟩ := on_elim h
    exact ⟨_, _, (cert_alloc hT ho hd ht).close keep_append, h⟩
  case h_15 t x ho =>
    obtain ⟨y, hy, hf, h⟩ := on_elim h
    exact ⟨_, _, (cert_box ho hd hy hf).close keep_append, h⟩
  case h_16 t ho =>
    unfold vcMakeMap at h
    obtain ⟨ti, ht, h⟩ := on_elim h
    split at h
    · obtain ⟨kt, hkt, h⟩ := on_elim h
      exact ⟨_, _, (cert_makeMap kt ho hd).close keep_append, h⟩
    exact h.elim
  case h_17 t x y ho =>
    obtain ⟨x', hx, h⟩ := on_elim h
    obtain ⟨y', hy, h⟩ := on_elim h
    unfold vcMakeSlice at h
    obtain ⟨ti, ht, h⟩ := on_elim h
    split at h
    · rename_i e hdesc
      obtain ⟨te, he, h⟩ := on_elim h
      split at h
      · obtain ⟨e1, h1, h2, h3, h4, hq⟩ := h
        subst e1
        by_cases hmk : md.made = true
        · rw [hmk, vcIf_true] at hq
          exact ⟨_, _, cert_makeSliceV hT ho hd ht hdesc he hx hy h1 h2 h3 h4 hq.1, hq.2⟩
        rw [show md.made = false by simpa using hmk, vcIf_false] at hq
        exact ⟨_, _, (cert_makeSlice hT ho hd ht hdesc he hx hy h1 h2 h3 h4).close keep_append, hq⟩
      exact h.elim
    exact h.elim
  case h_18 f first captured ho =>
    obtain ⟨fs, hfs, h⟩ := on_elim h
    obtain ⟨cs, hcs, h⟩ := on_elim h
    exact ⟨_, _, cert_makeFunc ho hd hfs hcs, h⟩
  case h_19 t x y ok ho =>
    obtain ⟨x', hx, h⟩ := on_elim h
    obtain ⟨y', hy, h⟩ := on_elim h
    unfold vcLookup at h
    obtain ⟨ti, ht, h⟩ := on_elim h
    split at h
    · rename_i k e hdesc
      obtain ⟨kt, hkt, h⟩ := on_elim h
      obtain ⟨d, hk, hkd⟩ := ktOf_spec hkt
      obtain ⟨te, he, hsz, h⟩ := on_elim h
      split at h
      · obtain ⟨hkk, h⟩ := h
        split at h
        · obtain ⟨e1, hq⟩ := h
          subst e1
          exact ⟨_, _, cert_lookup_im hT ho hd ht hdesc hk hkd he hsz hx hy hkk, hq⟩
        · obtain ⟨es, hes, h⟩ := on_elim h
          split at h
          case h_2 => exact h.elim
          obtain ⟨e1, hq⟩ := h
          subst e1
          exact ⟨_, _, cert_lookup_mm hT ho hd ht hdesc hk hkd he hsz hx hes hy hkk, hq⟩
        · exact ⟨_, _, cert_lookup_nil hT ho hd ht hdesc hk hkd he hsz hx hy, h⟩
        exact h.elim
      exact h.elim
    exact h.elim
  case h_20 t x y v ho =>
    obtain ⟨hdst, h⟩ := h
    obtain ⟨x', hx, h⟩ := on_elim h
    obtain ⟨y', hy, h⟩ := on_elim h
    obtain ⟨v', hv, h⟩ := on_elim h
    unfold vcMapUpdate at h
    obtain ⟨ti, ht, h⟩ := on_elim h
    split at h
    · rename_i k e hdesc
      obtain ⟨kt, hkt, h⟩ := on_elim h
      obtain ⟨d, hk, hkd⟩ := ktOf_spec hkt
      split at h
      · obtain ⟨hkk, h⟩ := h
        obtain ⟨es, hes, h⟩ := on_elim h
        split at h
        · obtain ⟨e1, hq⟩ := h
          subst e1
          exact ⟨_, _, (cert_mapUpdate hT (.inl ho) hdst ht hdesc hk hkd hx hes hy hkk hv).close keep_set, hq⟩
        exact h.elim
      exact h.elim
    exact h.elim
  case h_21 t x y v ho =>
    obtain ⟨hdst, h⟩ := h
    obtain ⟨x', hx, h⟩ := on_elim h
    obtain ⟨y', hy, h⟩ := on_elim h
    obtain ⟨v', hv, h⟩ := on_elim h
    unfold vcMapUpdate at h
    obtain ⟨ti, ht, h⟩ := on_elim h
    split at h
    · rename_i k e hdesc
      obtain ⟨kt, hkt, h⟩ := on_elim h
      obtain ⟨d, hk, hkd⟩ := ktOf_spec hkt
      split at h
      · obtain ⟨hkk, h⟩ := h
        obtain ⟨es, hes, h⟩ := on_elim h
        split at h
        · obtain ⟨e1, hq⟩ := h
          subst e1
          exact ⟨_, _, (cert_mapUpdate hT (.inr ho) hdst ht hdesc hk hkd hx hes hy hkk hv).close keep_set, hq⟩
        exact h.elim
      exact h.elim
    exact h.elim
  case h_22 x k ho =>
    obtain ⟨x', hx, h⟩ := on_elim h
    split at h
    · obtain ⟨r, hr, h⟩ := on_elim h
      exact ⟨_, _, cert_extract ho hd hx hr, h⟩
    exact h.elim
  case h_23 c ho =>
    obtain ⟨callee, args, ats⟩ := c
    simp only at h
    unfold vcCallOp at h
    split at h
    · obtain ⟨f', hf, h⟩ := on_elim h
      obtain ⟨ars, has, h⟩ := on_elim h
      unfold vcCall at h
      split at h
      · rcases h with ⟨r, h1, h2, h⟩ | ⟨r, O', h1, h | ⟨n, l, hk, h⟩⟩ | ⟨r, h1, h⟩
        · exact ⟨_, _, cert_pcall ho hd hf has h1 h2, h⟩
        · exact ⟨_, _, cert_ecall ho hd hf has h1, h⟩
        · exact ⟨_, _, (cert_ecall ho hd hf has h1).close hk, h⟩
        exact ⟨_, _, cert_rcall ho hd hf has h1, h⟩
      exact h.elim
    · split at h
      · rename_i x t e1 e2
        have ea : args = #[x] := Array.toList_inj.1 e1
        have et : ats = #[t] := Array.toList_inj.1 e2
        subst ea
        subst et
        obtain ⟨x', hx, h⟩ := on_elim h
        unfold vcLen at h
        obtain ⟨ti, ht, h⟩ := on_elim h
        obtain ⟨e, hdesc, h⟩ := on_elim h
        obtain ⟨n, hn, h⟩ := on_elim h
        exact ⟨_, _, cert_len hT ho hd ht (TD.elem_spec hdesc) hx (lenA_spec hn), h⟩
      exact h.elim
    · split at h
      · rename_i x y t t' e1 e2
        have ea : args = #[x, y] := Array.toList_inj.1 e1
        have et : ats = #[t, t'] := Array.toList_inj.1 e2
        subst ea
        subst et
        obtain ⟨x', hx, h⟩ := on_elim h
        obtain ⟨y', hy, h⟩ := on_elim h
        unfold vcAppend at h
        obtain ⟨ti, ht, h⟩ := on_elim h
        obtain ⟨e, hdesc, h⟩ := on_elim h
        have hdesc := TD.elem_spec hdesc
        obtain ⟨te, he, h⟩ := on_elim h
        split at h
        · obtain ⟨h0, h1, h2, h3, h4, hq⟩ := h
          subst h0
          subst h2
          by_cases hmd : md.app = true
          · rw [hmd, vcIf_true] at hq
            obtain ⟨hq1, hq2⟩ := hq
            cases hmk : md.made with
            | true =>
              rw [hmk, vcIf_true] at hq2
              exact ⟨_, _, (cert_append_osNew hT ho hd ht hdesc he h1 hx hy hq1 h3 h4).close keep_append, hq2⟩
            | false =>
              rw [hmk, vcIf_false] at hq2
              exact ⟨_, _, (cert_append_obj hT ho hd ht hdesc he h1 hx hy hq1 h3 h4).close keep_append, hq2⟩
          rw [show md.app = false by simpa using hmd, vcIf_false] at hq
          exact ⟨_, _, (cert_append_ex hT ho hd ht hdesc he h1 hx hy h3 h4).close keep_append, hq⟩
        · obtain ⟨h0, h1, h2, h3, h4, h5, hq⟩ := h
          subst h0
          subst h2
          exact ⟨_, _, (cert_append_tok hT ho hd ht hdesc he h1 hx hy h3 h4 h5).close keep_set, hq⟩
        · obtain ⟨h0, h1, h2, h3, h4, h5, h6, hq⟩ := h
          subst h0
          subst h1
          cases hmd : md.app with
          | true =>
            rw [hmd, vcIf_true] at hq
            exact ⟨_, _, (cert_append_raw hT ho hd ht hdesc he h2 hx hy h3 h4 h5 h6).close keep_append, hq⟩
          | false =>
            rw [hmd, vcIf_false] at hq
            exact ⟨_, _, (cert_append_make hT ho hd ht hdesc he h2 hx hy h3 h4 h5 h6).close keep_append, hq⟩
        · obtain ⟨h0, h1, hq⟩ := h
          subst h0
          obtain ⟨o1, ho1, hq⟩ := on_elim hq
          split at hq
          · obtain ⟨h2, h3, h4, hq⟩ := hq
            exact ⟨_, _, (cert_append_ms hT ho hd ht hdesc he h1 hx ho1 hy h2 h3 h4).close keep_set, hq⟩
          exact hq.elim
        · obtain ⟨h0, h1, h2, hq⟩ := h
          subst h0
          subst h2
          obtain ⟨o1, ho1, hq⟩ := on_elim hq
          split at hq
          · obtain ⟨h3, h4, h5, h6, hq⟩ := hq
            exact ⟨_, _, (cert_append_os hT ho hd ht hdesc he h1 hx ho1 hy h3 h4 h5 h6).close keep_move, hq⟩
          exact hq.elim
        exact h.elim
      exact h.elim
    · split at h
      · rename_i x t e1 e2
        have ea : args = #[x] := Array.toList_inj.1 e1
        have et : ats = #[t] := Array.toList_inj.1 e2
        subst ea
        subst et
        obtain ⟨x', hx, h⟩ := on_elim h
        unfold vcCap at h
        obtain ⟨ti, ht, h⟩ := on_elim h
        obtain ⟨e, hdesc, h⟩ := on_elim h
        obtain ⟨n, hn, h⟩ := on_elim h
        obtain ⟨sz, xs, e3, e4⟩ := capA_spec hn
        subst e3
        subst e4
        exact ⟨_, _, cert_capEx hT ho hd ht (TD.elem_spec hdesc) hx, h⟩
      exact h.elim
    · split at h
      · rename_i x t e1 e2
        have ea : args = #[x] := Array.toList_inj.1 e1
        have et : ats = #[t] := Array.toList_inj.1 e2
        subst ea
        subst et
        obtain ⟨hdst, h⟩ := h
        obtain ⟨x', hx, h⟩ := on_elim h
        unfold vcClear at h
        obtain ⟨ti, ht, h⟩ := on_elim h
        obtain ⟨e, hdesc, h⟩ := on_elim h
        obtain ⟨te, he, h⟩ := on_elim h
        split at h
        · obtain ⟨o1, ho1, h⟩ := on_elim h
          split at h
          · obtain ⟨h2, h3, h4, h⟩ := h
            exact ⟨_, _, (cert_clear_ms hT ho hdst ht (TD.elem_spec hdesc) he hx ho1 h2 h3 h4).close keep_set, h⟩
          exact h.elim
        exact h.elim
      exact h.elim
    · split at h
      · rename_i x y e1
        have ea : args = #[x, y] := Array.toList_inj.1 e1
        subst ea
        obtain ⟨x', hx, h⟩ := on_elim h
        obtain ⟨y', hy, h⟩ := on_elim h
        unfold vcTop at h
        split at h
        · exact ⟨_, _, cert_top ho hd hx hy, h⟩
        exact h.elim
      exact h.elim
    · split at h
      · rename_i x y e1
        have ea : args = #[x, y] := Array.toList_inj.1 e1
        subst ea
        obtain ⟨x', hx, h⟩ := on_elim h
        obtain ⟨y', hy, h⟩ := on_elim h
        unfold vcLow at h
        split at h
        · exact ⟨_, _, cert_low ho hd hx hy, h⟩
        exact h.elim
      exact h.elim
    exact h.elim
  case h_24 x ho =>
    obtain ⟨y, hy, h⟩ := on_elim h
    unfold vcNilCheck at h
    split at h
    · exact ⟨_, _, cert_nilCheck ho hd hy (.inl ⟨_, _, rfl⟩), h⟩
    · exact ⟨_, _, cert_nilCheck ho hd hy (.inr ⟨_, _, rfl⟩), h⟩
    exact h.elim
  case h_25 => exact h.elim
def dstOK (d : Option Nat) (n : Nat) : Prop :=
  match d with
  | some d => d < n
  | none => True
def slotAt : List (Nat × Nat) → Nat → Option Nat
  | [], _ => none
  | (k, d) :: r, j => if k = j then some d else slotAt r j
def addSlot (i : Nat) (d : Option Nat) (ds : List (Nat × Nat)) : List (Nat × Nat) :=
  match d with
  | some d => (i, d) :: ds
  | none => ds
def Nxt (σ : St) (f : St → Prop) (_t : Tag f := {}) : Prop := f σ
theorem nxt_mk (n : Nat) (s : List (Nat × AVal)) (O : List AObj) (f : St → Prop) (t : Tag f) : Nxt ⟨n, s, O⟩ f t = f ⟨n, s, O⟩ := rfl
def vcOps (P : Program) (tab : Tab) (md : Md) : List Oper → Nat → List (Nat × Nat) → St → List Kind → (St → List Kind → Prop) → Prop
  | [], _, _, σ, ks, K => K σ ks
  | o :: r, i, ds, σ, ks, K => dstOK o.dst σ.n ∧
    match o.guard with
    | none => vcOp P tab md o σ fun x m => Nxt ⟨σ.n, putO o.dst x σ.slots, m.post σ.objs⟩ fun τ => vcOps P tab md r (i + 1) (addSlot i o.dst ds) τ (m.kind :: ks) K
    | some (j, want) => on (slotAt ds j) fun t => on (σ.get t) fun
      | .v (.bool b) => vcIf (b == want)
        (fun _ => vcOp P tab md o ⟨σ.n, putS t (.v (.bool want)) σ.slots, σ.objs⟩ fun x m => Nxt ⟨σ.n, putO o.dst x (putS t (.v (.bool want)) σ.slots), m.post σ.objs⟩ fun τ => vcOps P tab md r (i + 1) (addSlot i o.dst ds) τ (m.kind :: ks) K)
        (fun _ => Nxt ⟨σ.n, dropO σ.n o.dst (putS t (.v (.bool !want)) σ.slots), σ.objs⟩ fun τ => vcOps P tab md r (i + 1) (addSlot i o.dst ds) τ (.pure :: ks) K)
      | .tup [] => Nxt ⟨σ.n, dropO σ.n o.dst σ.slots, σ.objs⟩ fun τ => vcOps P tab md r (i + 1) (addSlot i o.dst ds) τ (.pure :: ks) K
      | _ => False
theorem addSlot_ok {all : Array Oper} {i : Nat} {o : Oper} (ho : all[i]? = some o) {ds : List (Nat × Nat)} (h : ∀ j t, slotAt ds j = some t → (all[j]?).bind (·.dst) = some t) : ∀ j t, slotAt (addSlot i o.dst ds) j = some t → (all[j]?).bind (·.dst) = some t := by
  intro j t hj
  cases hd : o.dst with
  | none =>
    rw [hd] at hj
    exact h j t hj
  | some d =>
    rw [hd] at hj
    simp only [addSlot, slotAt] at hj
    split at hj
    · rename_i e
      subst e
      simp only [Option.some.injEq] at hj
      subst hj
      simp [ho, hd]
    exact h j t hj
theorem same_put {σ : St} {t : Nat} {x : AVal} (h : σ.get t = some x) : Same ⟨σ.n, putS t x σ.slots, σ.objs⟩ σ := by
  refine ⟨rfl, rfl, fun s => ?_⟩
  simp only [St.get, look_putS]
  split
  · rename_i e
    subst e
    exact h.symm
  rfl
theorem chain_append {P : Program} {ops : Array Oper} : ∀ {l l' : List (Nat × Kind)} {σ τ ρ : St}, Chain P ops l σ τ → Chain P ops l' τ ρ → Chain P ops (l ++ l') σ ρ
  | [], _, _, _, _, h, k => k.same h.symm
  | (i, q) :: r, _, _, _, _, h, k => by
    obtain ⟨σ', h1, h2⟩ := h
    exact ⟨σ', h1, chain_append h2 k⟩
theorem vcOps_sound {P : Program} {tab : Tab} {md : Md} (hT : TabOK P tab) {all : Array Oper} {K : St → List Kind → Prop} : ∀ (l : List Oper) (k : Nat) (ds : List (Nat × Nat)) (σ : St) (ks : List Kind), (∀ j, l[j]? = all[k + j]?) → (∀ j t, slotAt ds j = some t → (all[j]?).bind (·.dst) = some t) → vcOps P tab md l k ds σ ks K →
    ∃ (τ : St) (ks' : List Kind), Chain P all (ks'.zipIdx k |>.map fun p => (p.2, p.1)) σ τ ∧ ks'.length = l.length ∧ K τ (ks'.reverse ++ ks)
  | [], k, _, σ, ks, _, _, h => ⟨σ, [], Same.refl σ, rfl, h⟩
  | o :: r, k, ds, σ, ks, hl, hds, h => by
    obtain ⟨hd, h⟩ := h
    have hd' : ∀ d, o.dst = some d → d < σ.n := fun d e => by
      rw [e] at hd
      exact hd
    have ho : all[k]? = some o := by
      have := hl 0
      simpa using this.symm
    have hds' := addSlot_ok ho hds
    have hr : ∀ j, r[j]? = all[k + 1 + j]? := fun j => by
      have := hl (j + 1)
      rw [show k + 1 + j = k + (j + 1) by omega]
      simpa using this
    cases hg : o.guard with
    | none =>
      simp only [hg] at h
      obtain ⟨x, m, hc, h⟩ := vcOp_sound hT hd' h
      obtain ⟨τ, ks', h1, h2, h3⟩ := vcOps_sound hT r (k + 1) _ _ _ hr hds' h
      refine ⟨τ, m.kind :: ks', ?_, by simp [h2], by simpa using h3⟩
      simp only [List.zipIdx_cons, List.map_cons]
      exact ⟨_, ⟨o, ho, .inl ⟨by simp [wantedA, hg], x, m, hc, rfl, rfl⟩⟩, h1⟩
    | some p =>
      obtain ⟨j, want⟩ := p
      simp only [hg] at h
      obtain ⟨t, ht0, h⟩ := on_elim h
      have ht := hds j t ht0
      obtain ⟨y, hy, h⟩ := on_elim h
      split at h
      · rename_i b
        by_cases hb : b = want
        · rw [show (b == want) = true by simp [hb], vcIf_true] at h
          have hs := same_put (hb ▸ hy)
          obtain ⟨x, m, hc, h⟩ := vcOp_sound hT (σ := ⟨σ.n, putS t (.v (.bool want)) σ.slots, σ.objs⟩) hd' h
          obtain ⟨τ, ks', h1, h2, h3⟩ := vcOps_sound hT r (k + 1) _ _ _ hr hds' h
          refine ⟨τ, m.kind :: ks', ?_, by simp [h2], by simpa using h3⟩
          simp only [List.zipIdx_cons, List.map_cons]
          have hst : StepOK P all k m.kind ⟨σ.n, putS t (.v (.bool want)) σ.slots, σ.objs⟩ (St.put ⟨σ.n, putS t (.v (.bool want)) σ.slots, σ.objs⟩ o.dst x (m.post σ.objs)) :=
            ⟨o, ho, .inl ⟨by simp [wantedA, hg, ht, St.get, look_putS], x, m, hc, rfl, rfl⟩⟩
          obtain ⟨σ', q1, q2⟩ := hst.same hs
          exact ⟨σ', q1, h1.same q2⟩
        rw [show (b == want) = false by simp [hb], vcIf_false] at h
        have hb' : b = !want := by cases b <;> cases want <;> simp_all
        have hs := same_put (hb' ▸ hy)
        obtain ⟨τ, ks', h1, h2, h3⟩ := vcOps_sound hT r (k + 1) _ _ _ hr hds' h
        refine ⟨τ, .pure :: ks', ?_, by simp [h2], by simpa using h3⟩
        simp only [List.zipIdx_cons, List.map_cons]
        have hst : StepOK P all k .pure ⟨σ.n, putS t (.v (.bool !want)) σ.slots, σ.objs⟩ (St.skip ⟨σ.n, putS t (.v (.bool !want)) σ.slots, σ.objs⟩ o.dst) :=
          ⟨o, ho, .inr ⟨by cases want <;> simp [wantedA, hg, ht, St.get, look_putS], rfl, rfl⟩⟩
        obtain ⟨σ', q1, q2⟩ := hst.same hs
        exact ⟨σ', q1, h1.same q2⟩
      · obtain ⟨τ, ks', h1, h2, h3⟩ := vcOps_sound hT r (k + 1) _ _ _ hr hds' h
        refine ⟨τ, .pure :: ks', ?_, by simp [h2], by simpa using h3⟩
        simp only [List.zipIdx_cons, List.map_cons]
        exact ⟨_, ⟨o, ho, .inr ⟨by simp [wantedA, hg, ht, hy], rfl, rfl⟩⟩, h1⟩
      exact h.elim
def OrderOK (ops : Array Oper) (ks : List Kind) : Prop := orderB ops ks = true
def Draws (draw : Bool) (p : Unit → Prop) (_t : Tag p := {}) : Prop := draw = true → p ()
theorem draws_false (p : Unit → Prop) (t : Tag p) : Draws false p t = True := by simp [Draws]
theorem draws_true (p : Unit → Prop) (t : Tag p) : Draws true p t = p () := by simp [Draws]
theorem awp_region_any {P : Program} {kb : Nat} {tab : Tab} (md : Md) (hT : TabOK P tab) (hm : P.follows .mixedOrders = true) {id : Nat} {l : List Oper} {draw : Bool} {Q : AEx → St → Prop} {σ : St}
    (h : vcOps P tab md l 0 [] σ [] fun τ ks => Draws draw (fun _ => OrderOK l.toArray ks.reverse) ∧ At τ (Q .norm)) : AWP P kb (.region id l.toArray draw) Q σ := by
  obtain ⟨ops, hops⟩ : ∃ ops, ops = l.toArray := ⟨_, rfl⟩
  have hl : l = ops.toList := by rw [hops]
  rw [← hops] at h ⊢
  rw [hl] at h
  clear hops hl
  obtain ⟨τ, ks, h1, h2, h3, h4⟩ := vcOps_sound (all := ops) hT ops.toList 0 [] σ [] (fun j => by simp) (fun j t hj => by simp [slotAt] at hj) h
  intro base a g hb hr
  have hch : Chain P ops ((List.range ops.size).map fun i => (i, ks.getD i .write)) σ τ := by
    have e : (ks.zipIdx 0).map (fun p => (p.2, p.1)) = (List.range ops.size).map fun i => (i, ks.getD i .write) := by
      apply List.ext_getElem?
      intro i
      simp only [List.getElem?_map]
      have hlen : ks.length = ops.size := by simpa using h2
      by_cases hi : i < ops.size
      · rw [List.getElem?_range hi]
        simp [hlen, hi]
      rw [List.getElem?_eq_none (by simp only [List.length_zipIdx]; omega), List.getElem?_eq_none (by simp only [List.length_range]; omega)]
      rfl
    rw [← e]
    exact h1
  cases draw with
  | false => exact wp_region_lex hch hr fun a g hr' => ⟨g, τ, rfl, hr', h4⟩
  | true =>
    have hB := h3 rfl
    simp only [List.append_nil, List.reverse_reverse] at hB
    exact wp_region_chain hm hB hch hr fun a g hr' => ⟨g, τ, rfl, hr', h4⟩
theorem awp_region {P : Program} {kb : Nat} {tab : Tab} (hT : TabOK P tab) (hm : P.follows .mixedOrders = true) {id : Nat} {l : List Oper} {draw : Bool} {Q : AEx → St → Prop} {σ : St}
    (h : vcOps P tab ⟨false, false⟩ l 0 [] σ [] fun τ ks => Draws draw (fun _ => OrderOK l.toArray ks.reverse) ∧ At τ (Q .norm)) : AWP P kb (.region id l.toArray draw) Q σ := awp_region_any ⟨false, false⟩ hT hm h
def slotsOf : Nat → List AVal → List (Nat × AVal)
  | _, [] => []
  | k, x :: r => (k, x) :: slotsOf (k + 1) r
theorem look_slotsOf : ∀ (l : List AVal) (k s : Nat) (x : AVal), look (slotsOf k l) s = some x → k ≤ s ∧ l[s - k]? = some x
  | [], k, s, x, h => by cases h
  | y :: r, k, s, x, h => by
    simp only [slotsOf, look] at h
    split at h
    · rename_i e
      subst e
      simp only [Option.some.injEq] at h
      subst h
      simp
    obtain ⟨h1, h2⟩ := look_slotsOf r (k + 1) s x h
    refine ⟨by omega, ?_⟩
    rw [show s - k = (s - (k + 1)) + 1 by omega]
    simpa using h2
def retVal (tab : Tab) (σ : St) : ResultVar → Option AVal
  | .tmp t => σ.get t
  | .cell a ty =>
    match σ.get a, tab ty with
    | some (.mp id off), some ti =>
      match σ.objs[id]? with
      | some (.cells cs) => if ti.desc.agg then (if off + ti.size ≤ cs.length then some (.agg ((cs.drop off).take ti.size)) else none) else cs[off]?
      | _ => none
    | _, _ => none
def retVals (tab : Tab) (σ : St) : List ResultVar → Option (List AVal)
  | [] => some []
  | v :: r =>
    match retVal tab σ v, retVals tab σ r with
    | some x, some xs => some (x :: xs)
    | _, _ => none
def mkRet : List AVal → AVal
  | [x] => x
  | xs => .tup xs
def retSem (a : Act) : ResultVar → Sem Value
  | .tmp t => pure (a.tmps.getD t undef)
  | .cell c t => do loadVar t (← asAddr (a.tmps.getD c undef))
theorem retVal_spec {P : Program} {tab : Tab} (hT : TabOK P tab) {σ : St} {base : G} {a : Act} {g : G} (hr : Rel base σ a g) {v : ResultVar} {x : AVal} (h : retVal tab σ v = some x) :
    ∃ u, (retSem a v).run P g.w = .ok u g.w ∧ RV g x u := by
  cases v with
  | tmp t =>
    obtain ⟨u, h1, h2⟩ := hr.slot t x h
    exact ⟨u, by simp [retSem, Array.getD_eq_getD_getElem?, h1], h2⟩
  | cell c ty =>
    simp only [retVal] at h
    split at h
    · rename_i id off ti hc hti
      obtain ⟨u, h1, h2⟩ := hr.slot c _ hc
      obtain ⟨l, o1, he, ho, _, eu⟩ := h2.mp_inv
      split at h
      · rename_i cs hcs
        have hcs' : g.objs[id]? = some (.cells cs) := by rw [hr.objs]; exact hcs
        obtain ⟨arr, t', _, hrow, hlen, hrv, hsc, _⟩ := hr.good.row hcs' he
        subst eu
        split at h
        · rename_i hagg
          split at h
          · rename_i hs
            simp only [Option.some.injEq] at h
            subst h
            obtain ⟨f, hf⟩ : ∃ f : Nat → Value, ∀ j, off + j < arr.size → arr[off + j]? = some (f j) := ⟨fun j => arr.getD (off + j) undef, fun j hj => by simp [Array.getD_eq_getD_getElem?, hj]⟩
            have hrun := (hT ty ti hti).loadVar_agg hagg g.w l.block off f (fun j hj => by
              rw [cell_of_row hrow]
              exact hf j (by omega))
            refine ⟨.agg ((List.range ti.size).map f).toArray, by simp [retSem, Array.getD_eq_getD_getElem?, h1, asAddr, hrun], ?_⟩
            have hl : ((cs.drop off).take ti.size).length = ti.size := by simp; omega
            have := RV.ofRow (g := g) ((cs.drop off).take ti.size) f (fun c hc => hsc c (List.mem_of_mem_drop (List.mem_of_mem_take hc))) (fun j c hj => by
              have hj' := take_get hj
              rw [List.getElem?_drop] at hj'
              have hlt := lt_of_getElem? hj'
              exact hrv (off + j) c _ hj' (hf j (by omega)))
            rw [hl] at this
            exact this
          cases h
        rename_i hagg
        have hlt := lt_of_getElem? h
        have hcell : g.w.cell? ⟨l.block, off, none⟩ = some arr[off] := by
          rw [cell_of_row hrow]
          simp [show off < arr.size by omega]
        have hrun := (hT ty ti hti).loadVar_cell (by simpa using hagg) g.w ⟨l.block, off, none⟩ _ hcell
        exact ⟨arr[off], by simp [retSem, Array.getD_eq_getD_getElem?, h1, asAddr, hrun], hrv off x _ h (by simp [show off < arr.size by omega])⟩
      cases h
    cases h
theorem retVals_spec {P : Program} {tab : Tab} (hT : TabOK P tab) {σ : St} {base : G} {a : Act} {g : G} (hr : Rel base σ a g) : ∀ {vs : List ResultVar} {xs : List AVal}, retVals tab σ vs = some xs →
    ∃ us : List Value, (vs.mapM (retSem a)).run P g.w = .ok us g.w ∧ RVs g xs us.toArray
  | [], xs, h => by
    simp only [retVals, Option.some.injEq] at h
    subst h
    exact ⟨[], by simp, ⟨rfl, by simp⟩⟩
  | v :: r, xs, h => by
    simp only [retVals] at h
    cases hv : retVal tab σ v with
    | none => simp [hv] at h
    | some x =>
      cases hrs : retVals tab σ r with
      | none => simp [hv, hrs] at h
      | some ys =>
        simp only [hv, hrs, Option.some.injEq] at h
        subst h
        obtain ⟨u, h1, h2⟩ := retVal_spec hT hr hv
        obtain ⟨us, h3, h4, h5⟩ := retVals_spec hT hr hrs
        refine ⟨u :: us, ?_, by simpa using h4, fun j c w e1 e2 => ?_⟩
        · rw [List.mapM_cons]
          simp only [Sem.run_bind, h1, Result.andThen_ok, h3, Sem.run_pure]
        cases j with
        | zero =>
          simp at e1 e2
          subst e1
          subst e2
          exact h2
        | succ j => exact h5 j c w (by simpa using e1) (by simpa using e2)
def RetTo (tab : Tab) (rv : List ResultVar) (sh : Bool) (k : Nat) (R : AVal → List AObj → Prop) : AEx → St → Prop
  | .exit _, _ => False
  | _, σ => on (retVals tab σ rv) fun rs => k ≤ σ.objs.length ∧ (∀ o ∈ σ.objs.take k, o.upto k) ∧ (mkRet (if sh then rs.map AVal.share else rs)).upto k ∧ R (mkRet (if sh then rs.map AVal.share else rs)) (σ.objs.take k)
theorem RV.mkRet {g : G} {xs : List AVal} {us : List Value} (h : RVs g xs us.toArray) : RV g (mkRet xs) (if h : us.toArray.size = 1 then us.toArray[0] else .tuple us.toArray) := by
  obtain ⟨h1, h2⟩ := h
  match xs, us, h1, h2 with
  | [], [], _, h2 => exact .tup rfl (by simp)
  | [x], [u], _, h2 =>
    simp only [List.size_toArray, List.length_singleton, dite_true]
    exact h2 0 x u rfl rfl
  | x :: y :: r, u0 :: u1 :: s, h1, h2 =>
    rw [dif_neg (by simp)]
    exact .tup h1 h2
  | [], _ :: _, h1, _ => simp at h1
  | _ :: _, [], h1, _ => simp at h1
  | [_], _ :: _ :: _, h1, _ => simp at h1
  | _ :: _ :: _, [_], h1, _ => simp at h1
theorem ecall_of {P : Program} {tab : Tab} (hT : TabOK P tab) {f : FuncId} {fn : Func} {c : Code} {O : List AObj} {args : List AVal} {R : AVal → List AObj → Prop} (sh : Bool) (k : Nat) (hf : P.funcs[f]? = some fn) (hb : fn.body = some c)
    (hname : (fn.name == "runtime.NumGoroutine") = false) (hn : args.length ≤ fn.ntmps) (hk : O.length ≤ k) (h : AWP P O.length c (RetTo tab fn.results.toList sh k R) ⟨fn.ntmps, slotsOf 0 args, O⟩) : ECall P f O args R := by
  refine ⟨⟨fn, hf, hname, by simp [hb]⟩, fun g vs hg ho ha => ?_⟩
  refine calls_of_wp hf hb ?_
  have hrel : Rel g ⟨fn.ntmps, slotsOf 0 args, O⟩ { tmps := vs ++ Array.replicate (fn.ntmps - vs.size) undef, defers := [] } g := {
    le := Le.refl g
    good := hg
    objs := ho
    size := by
      have := ha.1
      simp only [Array.size_append, Array.size_replicate]
      omega
    defers := rfl
    slot := fun s x hx => by
      obtain ⟨_, h1⟩ := look_slotsOf args 0 s x hx
      simp only [Nat.sub_zero] at h1
      have hlt := lt_of_getElem? h1
      have hlt' : s < vs.size := by rw [ha.1]; exact hlt
      refine ⟨vs[s], ?_, ha.2 s x _ h1 (by simp [hlt'])⟩
      simp only
      rw [Array.getElem?_append, if_pos hlt']
      simp [hlt'] }
  refine wp_mono (h g _ g (by rw [ho]; exact Nat.le_refl _) hrel) fun e a w hp => ?_
  have key : ∀ g' σ', g'.w = w → Rel g σ' a g' → (on (retVals tab σ' fn.results.toList) fun rs => k ≤ σ'.objs.length ∧ (∀ o ∈ σ'.objs.take k, o.upto k) ∧ (Av.mkRet (if sh then rs.map AVal.share else rs)).upto k ∧ R (Av.mkRet (if sh then rs.map AVal.share else rs)) (σ'.objs.take k)) →
      a.defers = [] ∧ ∃ v, (results fn a.tmps).run P w = .ok v w ∧ ∃ g' v' r, Ending.returned v = .returned v' ∧ g'.w = w ∧ Le g g' ∧ Good g' ∧ RV g' r v' ∧ R r g'.objs := by
    intro g' σ' hw hr hq
    subst hw
    obtain ⟨rs, hrs, h1, h2, h3, h4⟩ := on_elim hq
    obtain ⟨us, q1, q2⟩ := retVals_spec hT hr hrs
    have hO : g'.objs = σ'.objs := hr.objs
    refine ⟨hr.defers, (if h : us.toArray.size = 1 then us.toArray[0] else .tuple us.toArray), ?_, g'.trunc k, _, _, rfl, rfl, hr.le.trunc (by rw [ho]; exact hk), hr.good.trunc (by rw [hO]; exact h1) (by rw [hO]; exact h2), ?_, by simp only [G.trunc, hO]; exact h4⟩
    · have hm : fn.results.mapM (retSem a) = Functor.map List.toArray (fn.results.toList.mapM (retSem a)) := Array.mapM_eq_mapM_toList
      have hres : results fn a.tmps = (do
        let vs ← fn.results.mapM (retSem a)
        pure (if h : vs.size = 1 then vs[0] else .tuple vs)) := rfl
      rw [hres, hm]
      simp only [Sem.run_bind, Sem.run_map, q1, Result.andThen_ok, Sem.run_pure]
    have hsh : RVs g' (if sh then rs.map AVal.share else rs) us.toArray := by
      cases sh
      · exact q2
      exact q2.share
    exact (RV.mkRet hsh).trunc (by rw [hO]; exact h1) h3
  cases e with
  | normal =>
    obtain ⟨g', σ', h1, h2, h3⟩ := hp
    exact key g' σ' h1 h2 h3
  | ret =>
    obtain ⟨g', σ', h1, h2, h3⟩ := hp
    exact key g' σ' h1 h2 h3
  | exit id =>
    obtain ⟨g', σ', h1, h2, h3⟩ := hp
    exact h3.elim
  | goto l => exact hp.elim
  | panic c => exact hp.elim
  | outgrown => exact hp.elim
theorem seqPost_norm (P : Program) (kb : Nat) (c : Code) (Q : AEx → St → Prop) (σ : St) : seqPost P kb c Q .norm σ = AWP P kb c Q σ := rfl
theorem seqPost_ret (P : Program) (kb : Nat) (c : Code) (Q : AEx → St → Prop) (σ : St) : seqPost P kb c Q .ret σ = Q .ret σ := rfl
theorem seqPost_exit (P : Program) (kb : Nat) (c : Code) (Q : AEx → St → Prop) (σ : St) (id : Nat) : seqPost P kb c Q (.exit id) σ = Q (.exit id) σ := rfl
theorem blockPost_norm (id : Nat) (Q : AEx → St → Prop) (σ : St) : blockPost id Q .norm σ = Q .norm σ := rfl
theorem blockPost_ret (id : Nat) (Q : AEx → St → Prop) (σ : St) : blockPost id Q .ret σ = Q .ret σ := rfl
theorem blockPost_self (id : Nat) (Q : AEx → St → Prop) (σ : St) : blockPost id Q (.exit id) σ = Q .norm σ := by simp [blockPost]
theorem blockPost_other {id id' : Nat} (h : id' ≠ id) (Q : AEx → St → Prop) (σ : St) : blockPost id Q (.exit id') σ = Q (.exit id') σ := by simp [blockPost, h]
theorem loopPost_norm {ι : Type} (L : ι → St) (μ : ι → Nat) (i : ι) (Q : AEx → St → Prop) (σ : St) : loopPost L μ i Q .norm σ = ∃ j, μ j < μ i ∧ Covers σ (L j) := rfl
theorem loopPost_ret {ι : Type} (L : ι → St) (μ : ι → Nat) (i : ι) (Q : AEx → St → Prop) (σ : St) : loopPost L μ i Q .ret σ = Q .ret σ := rfl
theorem loopPost_exit {ι : Type} (L : ι → St) (μ : ι → Nat) (i : ι) (Q : AEx → St → Prop) (σ : St) (id : Nat) : loopPost L μ i Q (.exit id) σ = Q (.exit id) σ := rfl
def zmatch : AVal → Value → Bool
  | .v (.int k n), .int k' n' => decide (k = k') && decide (n = n') && decide (k.min ≤ n) && decide (n ≤ k.max)
  | .v (.bool b), .bool b' => b == b'
  | .v (.string s), .string s' => decide (s = s')
  | .v (.pointer none), .pointer none => true
  | .v (.map none), .map none => true
  | .v .nilFunc, .nilFunc => true
  | .v .nilIface, .nilIface => true
  | .lst _ [] .ex, .slice none 0 0 => true
  | _, _ => false
theorem zmatch_spec {x : AVal} {u : Value} (h : zmatch x u = true) : (∀ g : G, RV g x u) ∧ x.scalar := by
  unfold zmatch at h
  split at h
  · simp only [Bool.and_eq_true, decide_eq_true_eq] at h
    obtain ⟨⟨⟨h1, h2⟩, h3⟩, h4⟩ := h
    subst h1
    subst h2
    exact ⟨fun g => .v ⟨h3, h4⟩, trivial⟩
  · simp only [beq_iff_eq] at h
    subst h
    exact ⟨fun g => .v trivial, trivial⟩
  · simp only [decide_eq_true_eq] at h
    subst h
    exact ⟨fun g => .v trivial, trivial⟩
  · exact ⟨fun g => .v trivial, trivial⟩
  · exact ⟨fun g => .v trivial, trivial⟩
  · exact ⟨fun g => .v trivial, trivial⟩
  · exact ⟨fun g => .v trivial, trivial⟩
  · exact ⟨fun g => .nil (fun id e => by cases e) (by simp), trivial⟩
  cases h
def zmatchL : List AVal → List Value → Bool
  | [], [] => true
  | x :: xs, u :: us => zmatch x u && zmatchL xs us
  | _, _ => false
theorem zmatchL_spec : ∀ {xs : List AVal} {us : List Value}, zmatchL xs us = true → us.length = xs.length ∧ (∀ g : G, ∀ (j : Nat) (c : AVal) (u : Value), xs[j]? = some c → us[j]? = some u → RV g c u) ∧ ∀ c ∈ xs, c.scalar
  | [], [], _ => ⟨rfl, by simp, by simp⟩
  | x :: xs, u :: us, h => by
    simp only [zmatchL, Bool.and_eq_true] at h
    obtain ⟨h1, h2⟩ := zmatch_spec h.1
    obtain ⟨h3, h4, h5⟩ := zmatchL_spec h.2
    refine ⟨by simp [h3], fun g j c w a b => ?_, fun c hc => ?_⟩
    · cases j with
      | zero =>
        simp at a b
        subst a
        subst b
        exact h1 g
      | succ j => exact h4 g j c w (by simpa using a) (by simpa using b)
    rcases List.mem_cons.1 hc with e | e
    · subst e
      exact h2
    exact h5 c e
  | [], _ :: _, h => by simp [zmatchL] at h
  | _ :: _, [], h => by simp [zmatchL] at h
def fieldsB : List Field → List (Nat × TypeId) → Bool
  | [], [] => true
  | f :: r, p :: q => decide (f.offset = p.1) && decide (f.type = p.2) && fieldsB r q
  | _, _ => false
theorem fieldsB_spec : ∀ {fs : List Field} {ps : List (Nat × TypeId)}, fieldsB fs ps = true → fs.map (fun f => (f.offset, f.type)) = ps
  | [], [], _ => rfl
  | f :: r, p :: q, h => by
    simp only [fieldsB, Bool.and_eq_true, decide_eq_true_eq] at h
    obtain ⟨⟨h1, h2⟩, h3⟩ := h
    rw [List.map_cons, fieldsB_spec h3, h1, h2]
  | [], _ :: _, h => by simp [fieldsB] at h
  | _ :: _, [], h => by simp [fieldsB] at h
def descB : TypeDesc → TD → Bool
  | .struct fields, .struct fs => fieldsB fields.toList fs
  | .slice e, .slice e' => decide (e = e')
  | .array n e, .array n' e' => decide (n = n') && decide (e = e')
  | .map k e, .map k' e' => decide (k = k') && decide (e = e')
  | .struct _, .other => false
  | .array _ _, .other => false
  | _, .other => true
  | _, _ => false
theorem descB_spec {d : TypeDesc} {td : TD} (h : descB d td = true) : descIs d td := by
  unfold descB at h
  split at h
  · exact ⟨_, rfl, fieldsB_spec h⟩
  · simp only [decide_eq_true_eq] at h
    subst h
    rfl
  · simp only [Bool.and_eq_true, decide_eq_true_eq] at h
    obtain ⟨h1, h2⟩ := h
    subst h1
    subst h2
    rfl
  · simp only [Bool.and_eq_true, decide_eq_true_eq] at h
    obtain ⟨h1, h2⟩ := h
    subst h1
    subst h2
    rfl
  · cases h
  · cases h
  · rename_i h1 h2
    cases d <;> first | trivial | exact (h1 _ rfl).elim | exact (h2 _ _ rfl).elim
  cases h
def shapeB (agg : Bool) : Value → Bool
  | .agg _ => agg
  | _ => !agg
def tokB (P : Program) (t : TypeId) (ti : TInfo) : Bool :=
  match P.info? t, P.underlying t with
  | some i, some d => decide (i.size = ti.size) && decide (i.bytes = ti.bytes) && descB d ti.desc && decide (ti.zero.length = ti.size) &&
    (match i.zero with
    | some z => zmatchL ti.zero z.cells.toList && shapeB ti.desc.agg z
    | none => false)
  | _, _ => false
theorem tok_of_B {P : Program} {t : TypeId} {ti : TInfo} (h : tokB P t ti = true) : TOK P t ti := by
  unfold tokB at h
  split at h
  · rename_i i d hi hd
    split at h
    · rename_i z hz
      simp only [Bool.and_eq_true, decide_eq_true_eq] at h
      obtain ⟨⟨⟨⟨h1, h2⟩, h3⟩, h4⟩, h5, h6⟩ := h
      obtain ⟨q1, q2, q3⟩ := zmatchL_spec h5
      refine ⟨⟨i, z, hi, h1, h2, hz, by simpa using q1, h4, ⟨fun ha => ?_, fun ha => ?_⟩, fun g j c u a b => q2 g j c u a (by simpa using b), q3⟩, d, hd, descB_spec h3⟩
      · cases z with
        | agg cs => exact ⟨cs, rfl⟩
        | _ => simp [shapeB, ha] at h6
      cases z with
      | agg cs => simp [shapeB, ha] at h6
      | _ => rfl
    simp at h
  cases h
end Go.Av
namespace Go.Proofs.Ytlclgfgmhnmnaaa
open Go.Av
def tabA : Tab
  | 1 => some ⟨1, 8, [.v .nilFunc], .other⟩
  | 2 => some ⟨1, 8, [.v (.int .i64 0)], .other⟩
  | 3 => some ⟨1, 8, [.v (.int .i64 0)], .other⟩
  | 4 => some ⟨1, 1, [.v (.bool false)], .other⟩
  | 5 => some ⟨1, 1, [.v (.int .u8 0)], .other⟩
  | 9 => some ⟨1, 16, [.v (.string ByteArray.empty)], .other⟩
  | 22 => some ⟨1, 24, [.lst 7 [] .ex], .slice 80⟩
  | 24 => some ⟨2, 32, [.v (.int .i64 0), .lst 7 [] .ex], .struct [(0, 3), (1, 22)]⟩
  | 26 => some ⟨1, 8, [.v (.int .i64 0)], .other⟩
  | 33 => some ⟨1, 24, [.lst 4 [] .ex], .slice 41⟩
  | 38 => some ⟨1, 24, [.lst 1 [] .ex], .slice 4⟩
  | 41 => some ⟨4, 32, [.v (.int .i64 0), .v (.int .i64 0), .v (.int .i64 0), .v (.int .i64 0)], .struct [(0, 3), (1, 3), (2, 3), (3, 3)]⟩
  | 42 => some ⟨1, 24, [.lst 2 [] .ex], .slice 24⟩
  | 44 => some ⟨2, 32, [.lst 2 [] .ex, .v (.int .i64 0)], .struct [(0, 42), (1, 3)]⟩
  | 45 => some ⟨1, 24, [.lst 1 [] .ex], .slice 3⟩
  | 47 => some ⟨3, 40, [.lst 1 [] .ex, .v (.int .i64 0), .v (.int .i64 0)], .struct [(0, 45), (1, 3), (2, 3)]⟩
  | 61 => some ⟨1, 24, [.lst 1 [] .ex], .slice 45⟩
  | 65 => some ⟨1, 24, [.lst 3 [] .ex], .slice 69⟩
  | 69 => some ⟨3, 40, [.v (.int .i64 0), .lst 1 [] .ex, .v (.int .i64 0)], .struct [(0, 3), (1, 45), (2, 3)]⟩
  | 75 => some ⟨1, 24, [.lst 2 [] .ex], .slice 82⟩
  | 77 => some ⟨5, 72, [.v (.int .i64 0), .v (.int .i64 0), .v (.int .i64 0), .lst 1 [] .ex, .lst 2 [] .ex], .struct [(0, 3), (1, 3), (2, 3), (3, 45), (4, 75)]⟩
  | 78 => some ⟨1, 24, [.lst 4 [] .ex], .slice 119⟩
  | 80 => some ⟨7, 120, [.lst 1 [] .ex, .lst 4 [] .ex, .v (.int .i64 0), .v (.int .i64 0), .v (.int .i64 0), .lst 1 [] .ex, .lst 2 [] .ex], .struct [(0, 45), (1, 78), (2, 77)]⟩
  | 82 => some ⟨2, 32, [.v (.int .i64 0), .lst 1 [] .ex], .struct [(0, 3), (1, 45)]⟩
  | 84 => some ⟨2, 48, [.lst 1 [] .ex, .lst 1 [] .ex], .struct [(0, 45), (1, 45)]⟩
  | 88 => some ⟨1, 8, [.v (.pointer none)], .other⟩
  | 89 => some ⟨1, 24, [.lst 1 [] .ex], .slice 38⟩
  | 92 => some ⟨1, 24, [.lst 1 [] .ex], .slice 33⟩
  | 94 => some ⟨4, 64, [.v (.int .i64 0), .lst 7 [] .ex, .v (.int .i64 0), .lst 1 [] .ex], .struct [(0, 24), (2, 3), (3, 89)]⟩
  | 97 => some ⟨1, 8, [.v .nilFunc], .other⟩
  | 104 => some ⟨1, 8, [.v (.pointer none)], .other⟩
  | 105 => some ⟨1, 8, [.v (.map none)], .map 3 147⟩
  | 107 => some ⟨3, 40, [.v (.int .i64 0), .lst 7 [] .ex, .v (.map none)], .struct [(0, 24), (2, 105)]⟩
  | 110 => some ⟨1, 24, [.lst 2 [] .ex], .slice 114⟩
  | 114 => some ⟨2, 16, [.v (.int .i64 0), .v (.int .i64 0)], .struct [(0, 3), (1, 3)]⟩
  | _ => none
def tabB : Tab
  | 119 => some ⟨4, 48, [.v (.int .i64 0), .v (.int .i64 0), .v (.int .i64 0), .lst 1 [] .ex], .struct [(0, 3), (1, 3), (2, 3), (3, 45)]⟩
  | 124 => some ⟨1, 8, [.v .nilFunc], .other⟩
  | 132 => some ⟨1, 8, [.v .nilFunc], .other⟩
  | 133 => some ⟨1, 8, [.v .nilFunc], .other⟩
  | 135 => some ⟨1, 8, [.v (.pointer none)], .other⟩
  | 136 => some ⟨1, 24, [.lst 1 [] .ex], .slice 163⟩
  | 138 => some ⟨9, 112, [.lst 2 [] .ex, .v (.int .i64 0), .lst 1 [] .ex, .v (.int .i64 0), .v (.bool false), .v (.bool false), .lst 1 [] .ex, .v (.int .i64 0), .v (.int .i64 0)], .struct [(0, 44), (2, 136), (3, 3), (4, 4), (5, 4), (6, 47)]⟩
  | 140 => some ⟨1, 8, [.v .nilFunc], .other⟩
  | 144 => some ⟨1, 8, [.v (.int .u64 0)], .other⟩
  | 147 => some ⟨2, 16, [.v (.int .i64 0), .v (.int .i64 0)], .struct [(0, 3), (1, 3)]⟩
  | 150 => some ⟨1, 24, [.lst 2 [] .ex], .slice 153⟩
  | 151 => some ⟨1, 8, [.v (.int .u64 0)], .other⟩
  | 153 => some ⟨2, 16, [.v (.int .u64 0), .v (.int .u64 0)], .array 2 151⟩
  | 162 => some ⟨1, 24, [.lst 4 [] .ex], .slice 169⟩
  | 163 => some ⟨1, 8, [.v (.pointer none)], .other⟩
  | 164 => some ⟨1, 8, [.v (.map none)], .map 3 169⟩
  | 166 => some ⟨5, 40, [.v (.int .i64 0), .v (.int .i64 0), .v (.int .i64 0), .v (.int .i64 0), .v (.map none)], .struct [(0, 3), (1, 3), (2, 3), (3, 3), (4, 164)]⟩
  | 167 => some ⟨1, 8, [.v (.pointer none)], .other⟩
  | 169 => some ⟨4, 48, [.v (.int .i64 0), .v (.int .i64 0), .lst 4 [] .ex, .v (.pointer none)], .struct [(0, 3), (1, 3), (2, 162), (3, 167)]⟩
  | 176 => some ⟨2, 16, [.v (.int .i64 0), .v (.int .i64 0)], .struct [(0, 3), (1, 3)]⟩
  | 177 => some ⟨1, 24, [.lst 2 [] .ex], .slice 176⟩
  | 178 => some ⟨1, 8, [.v (.pointer none)], .other⟩
  | 198 => some ⟨1, 8, [.v (.int .u64 0)], .other⟩
  | 202 => some ⟨1, 8, [.v (.pointer none)], .other⟩
  | 207 => some ⟨1, 8, [.v (.pointer none)], .other⟩
  | _ => none
def tab (t : TypeId) : Option TInfo := cond (Nat.blt t 117) (tabA t) (tabB t)
theorem tab_1 : tab 1 = some ⟨1, 8, [.v .nilFunc], .other⟩ := rfl
theorem tab_2 : tab 2 = some ⟨1, 8, [.v (.int .i64 0)], .other⟩ := rfl
theorem tab_3 : tab 3 = some ⟨1, 8, [.v (.int .i64 0)], .other⟩ := rfl
theorem tab_4 : tab 4 = some ⟨1, 1, [.v (.bool false)], .other⟩ := rfl
theorem tab_5 : tab 5 = some ⟨1, 1, [.v (.int .u8 0)], .other⟩ := rfl
theorem tab_9 : tab 9 = some ⟨1, 16, [.v (.string ByteArray.empty)], .other⟩ := rfl
theorem tab_22 : tab 22 = some ⟨1, 24, [.lst 7 [] .ex], .slice 80⟩ := rfl
theorem tab_24 : tab 24 = some ⟨2, 32, [.v (.int .i64 0), .lst 7 [] .ex], .struct [(0, 3), (1, 22)]⟩ := rfl
theorem tab_26 : tab 26 = some ⟨1, 8, [.v (.int .i64 0)], .other⟩ := rfl
theorem tab_33 : tab 33 = some ⟨1, 24, [.lst 4 [] .ex], .slice 41⟩ := rfl
theorem tab_38 : tab 38 = some ⟨1, 24, [.lst 1 [] .ex], .slice 4⟩ := rfl
theorem tab_41 : tab 41 = some ⟨4, 32, [.v (.int .i64 0), .v (.int .i64 0), .v (.int .i64 0), .v (.int .i64 0)], .struct [(0, 3), (1, 3), (2, 3), (3, 3)]⟩ := rfl
theorem tab_42 : tab 42 = some ⟨1, 24, [.lst 2 [] .ex], .slice 24⟩ := rfl
theorem tab_44 : tab 44 = some ⟨2, 32, [.lst 2 [] .ex, .v (.int .i64 0)], .struct [(0, 42), (1, 3)]⟩ := rfl
theorem tab_45 : tab 45 = some ⟨1, 24, [.lst 1 [] .ex], .slice 3⟩ := rfl
theorem tab_47 : tab 47 = some ⟨3, 40, [.lst 1 [] .ex, .v (.int .i64 0), .v (.int .i64 0)], .struct [(0, 45), (1, 3), (2, 3)]⟩ := rfl
theorem tab_61 : tab 61 = some ⟨1, 24, [.lst 1 [] .ex], .slice 45⟩ := rfl
theorem tab_65 : tab 65 = some ⟨1, 24, [.lst 3 [] .ex], .slice 69⟩ := rfl
theorem tab_69 : tab 69 = some ⟨3, 40, [.v (.int .i64 0), .lst 1 [] .ex, .v (.int .i64 0)], .struct [(0, 3), (1, 45), (2, 3)]⟩ := rfl
theorem tab_75 : tab 75 = some ⟨1, 24, [.lst 2 [] .ex], .slice 82⟩ := rfl
theorem tab_77 : tab 77 = some ⟨5, 72, [.v (.int .i64 0), .v (.int .i64 0), .v (.int .i64 0), .lst 1 [] .ex, .lst 2 [] .ex], .struct [(0, 3), (1, 3), (2, 3), (3, 45), (4, 75)]⟩ := rfl
theorem tab_78 : tab 78 = some ⟨1, 24, [.lst 4 [] .ex], .slice 119⟩ := rfl
theorem tab_80 : tab 80 = some ⟨7, 120, [.lst 1 [] .ex, .lst 4 [] .ex, .v (.int .i64 0), .v (.int .i64 0), .v (.int .i64 0), .lst 1 [] .ex, .lst 2 [] .ex], .struct [(0, 45), (1, 78), (2, 77)]⟩ := rfl
theorem tab_82 : tab 82 = some ⟨2, 32, [.v (.int .i64 0), .lst 1 [] .ex], .struct [(0, 3), (1, 45)]⟩ := rfl
theorem tab_84 : tab 84 = some ⟨2, 48, [.lst 1 [] .ex, .lst 1 [] .ex], .struct [(0, 45), (1, 45)]⟩ := rfl
theorem tab_88 : tab 88 = some ⟨1, 8, [.v (.pointer none)], .other⟩ := rfl
theorem tab_89 : tab 89 = some ⟨1, 24, [.lst 1 [] .ex], .slice 38⟩ := rfl
theorem tab_92 : tab 92 = some ⟨1, 24, [.lst 1 [] .ex], .slice 33⟩ := rfl
theorem tab_94 : tab 94 = some ⟨4, 64, [.v (.int .i64 0), .lst 7 [] .ex, .v (.int .i64 0), .lst 1 [] .ex], .struct [(0, 24), (2, 3), (3, 89)]⟩ := rfl
theorem tab_97 : tab 97 = some ⟨1, 8, [.v .nilFunc], .other⟩ := rfl
theorem tab_104 : tab 104 = some ⟨1, 8, [.v (.pointer none)], .other⟩ := rfl
theorem tab_105 : tab 105 = some ⟨1, 8, [.v (.map none)], .map 3 147⟩ := rfl
theorem tab_107 : tab 107 = some ⟨3, 40, [.v (.int .i64 0), .lst 7 [] .ex, .v (.map none)], .struct [(0, 24), (2, 105)]⟩ := rfl
theorem tab_110 : tab 110 = some ⟨1, 24, [.lst 2 [] .ex], .slice 114⟩ := rfl
theorem tab_114 : tab 114 = some ⟨2, 16, [.v (.int .i64 0), .v (.int .i64 0)], .struct [(0, 3), (1, 3)]⟩ := rfl
theorem tab_119 : tab 119 = some ⟨4, 48, [.v (.int .i64 0), .v (.int .i64 0), .v (.int .i64 0), .lst 1 [] .ex], .struct [(0, 3), (1, 3), (2, 3), (3, 45)]⟩ := rfl
theorem tab_124 : tab 124 = some ⟨1, 8, [.v .nilFunc], .other⟩ := rfl
theorem tab_132 : tab 132 = some ⟨1, 8, [.v .nilFunc], .other⟩ := rfl
theorem tab_133 : tab 133 = some ⟨1, 8, [.v .nilFunc], .other⟩ := rfl
theorem tab_135 : tab 135 = some ⟨1, 8, [.v (.pointer none)], .other⟩ := rfl
theorem tab_136 : tab 136 = some ⟨1, 24, [.lst 1 [] .ex], .slice 163⟩ := rfl
theorem tab_138 : tab 138 = some ⟨9, 112, [.lst 2 [] .ex, .v (.int .i64 0), .lst 1 [] .ex, .v (.int .i64 0), .v (.bool false), .v (.bool false), .lst 1 [] .ex, .v (.int .i64 0), .v (.int .i64 0)], .struct [(0, 44), (2, 136), (3, 3), (4, 4), (5, 4), (6, 47)]⟩ := rfl
theorem tab_140 : tab 140 = some ⟨1, 8, [.v .nilFunc], .other⟩ := rfl
theorem tab_144 : tab 144 = some ⟨1, 8, [.v (.int .u64 0)], .other⟩ := rfl
theorem tab_147 : tab 147 = some ⟨2, 16, [.v (.int .i64 0), .v (.int .i64 0)], .struct [(0, 3), (1, 3)]⟩ := rfl
theorem tab_150 : tab 150 = some ⟨1, 24, [.lst 2 [] .ex], .slice 153⟩ := rfl
theorem tab_151 : tab 151 = some ⟨1, 8, [.v (.int .u64 0)], .other⟩ := rfl
theorem tab_153 : tab 153 = some ⟨2, 16, [.v (.int .u64 0), .v (.int .u64 0)], .array 2 151⟩ := rfl
theorem tab_162 : tab 162 = some ⟨1, 24, [.lst 4 [] .ex], .slice 169⟩ := rfl
theorem tab_163 : tab 163 = some ⟨1, 8, [.v (.pointer none)], .other⟩ := rfl
theorem tab_164 : tab 164 = some ⟨1, 8, [.v (.map none)], .map 3 169⟩ := rfl
theorem tab_166 : tab 166 = some ⟨5, 40, [.v (.int .i64 0), .v (.int .i64 0), .v (.int .i64 0), .v (.int .i64 0), .v (.map none)], .struct [(0, 3), (1, 3), (2, 3), (3, 3), (4, 164)]⟩ := rfl
theorem tab_167 : tab 167 = some ⟨1, 8, [.v (.pointer none)], .other⟩ := rfl
theorem tab_169 : tab 169 = some ⟨4, 48, [.v (.int .i64 0), .v (.int .i64 0), .lst 4 [] .ex, .v (.pointer none)], .struct [(0, 3), (1, 3), (2, 162), (3, 167)]⟩ := rfl
theorem tab_176 : tab 176 = some ⟨2, 16, [.v (.int .i64 0), .v (.int .i64 0)], .struct [(0, 3), (1, 3)]⟩ := rfl
theorem tab_177 : tab 177 = some ⟨1, 24, [.lst 2 [] .ex], .slice 176⟩ := rfl
theorem tab_178 : tab 178 = some ⟨1, 8, [.v (.pointer none)], .other⟩ := rfl
theorem tab_198 : tab 198 = some ⟨1, 8, [.v (.int .u64 0)], .other⟩ := rfl
theorem tab_202 : tab 202 = some ⟨1, 8, [.v (.pointer none)], .other⟩ := rfl
theorem tab_207 : tab 207 = some ⟨1, 8, [.v (.pointer none)], .other⟩ := rfl
theorem tokB_1 : tokB Go.Proofs.Try.prog 1 ⟨1, 8, [.v .nilFunc], .other⟩ = true := by kernel_rfl
theorem tokB_2 : tokB Go.Proofs.Try.prog 2 ⟨1, 8, [.v (.int .i64 0)], .other⟩ = true := by kernel_rfl
theorem tokB_3 : tokB Go.Proofs.Try.prog 3 ⟨1, 8, [.v (.int .i64 0)], .other⟩ = true := by kernel_rfl
theorem tokB_4 : tokB Go.Proofs.Try.prog 4 ⟨1, 1, [.v (.bool false)], .other⟩ = true := by kernel_rfl
theorem tokB_5 : tokB Go.Proofs.Try.prog 5 ⟨1, 1, [.v (.int .u8 0)], .other⟩ = true := by kernel_rfl
theorem tokB_9 : tokB Go.Proofs.Try.prog 9 ⟨1, 16, [.v (.string ByteArray.empty)], .other⟩ = true := by kernel_rfl
theorem tokB_22 : tokB Go.Proofs.Try.prog 22 ⟨1, 24, [.lst 7 [] .ex], .slice 80⟩ = true := by kernel_rfl
theorem tokB_24 : tokB Go.Proofs.Try.prog 24 ⟨2, 32, [.v (.int .i64 0), .lst 7 [] .ex], .struct [(0, 3), (1, 22)]⟩ = true := by kernel_rfl
theorem tokB_26 : tokB Go.Proofs.Try.prog 26 ⟨1, 8, [.v (.int .i64 0)], .other⟩ = true := by kernel_rfl
theorem tokB_33 : tokB Go.Proofs.Try.prog 33 ⟨1, 24, [.lst 4 [] .ex], .slice 41⟩ = true := by kernel_rfl
theorem tokB_38 : tokB Go.Proofs.Try.prog 38 ⟨1, 24, [.lst 1 [] .ex], .slice 4⟩ = true := by kernel_rfl
theorem tokB_41 : tokB Go.Proofs.Try.prog 41 ⟨4, 32, [.v (.int .i64 0), .v (.int .i64 0), .v (.int .i64 0), .v (.int .i64 0)], .struct [(0, 3), (1, 3), (2, 3), (3, 3)]⟩ = true := by kernel_rfl
theorem tokB_42 : tokB Go.Proofs.Try.prog 42 ⟨1, 24, [.lst 2 [] .ex], .slice 24⟩ = true := by kernel_rfl
theorem tokB_44 : tokB Go.Proofs.Try.prog 44 ⟨2, 32, [.lst 2 [] .ex, .v (.int .i64 0)], .struct [(0, 42), (1, 3)]⟩ = true := by kernel_rfl
theorem tokB_45 : tokB Go.Proofs.Try.prog 45 ⟨1, 24, [.lst 1 [] .ex], .slice 3⟩ = true := by kernel_rfl
theorem tokB_47 : tokB Go.Proofs.Try.prog 47 ⟨3, 40, [.lst 1 [] .ex, .v (.int .i64 0), .v (.int .i64 0)], .struct [(0, 45), (1, 3), (2, 3)]⟩ = true := by kernel_rfl
theorem tokB_61 : tokB Go.Proofs.Try.prog 61 ⟨1, 24, [.lst 1 [] .ex], .slice 45⟩ = true := by kernel_rfl
theorem tokB_65 : tokB Go.Proofs.Try.prog 65 ⟨1, 24, [.lst 3 [] .ex], .slice 69⟩ = true := by kernel_rfl
theorem tokB_69 : tokB Go.Proofs.Try.prog 69 ⟨3, 40, [.v (.int .i64 0), .lst 1 [] .ex, .v (.int .i64 0)], .struct [(0, 3), (1, 45), (2, 3)]⟩ = true := by kernel_rfl
theorem tokB_75 : tokB Go.Proofs.Try.prog 75 ⟨1, 24, [.lst 2 [] .ex], .slice 82⟩ = true := by kernel_rfl
theorem tokB_77 : tokB Go.Proofs.Try.prog 77 ⟨5, 72, [.v (.int .i64 0), .v (.int .i64 0), .v (.int .i64 0), .lst 1 [] .ex, .lst 2 [] .ex], .struct [(0, 3), (1, 3), (2, 3), (3, 45), (4, 75)]⟩ = true := by kernel_rfl
theorem tokB_78 : tokB Go.Proofs.Try.prog 78 ⟨1, 24, [.lst 4 [] .ex], .slice 119⟩ = true := by kernel_rfl
theorem tokB_80 : tokB Go.Proofs.Try.prog 80 ⟨7, 120, [.lst 1 [] .ex, .lst 4 [] .ex, .v (.int .i64 0), .v (.int .i64 0), .v (.int .i64 0), .lst 1 [] .ex, .lst 2 [] .ex], .struct [(0, 45), (1, 78), (2, 77)]⟩ = true := by kernel_rfl
theorem tokB_82 : tokB Go.Proofs.Try.prog 82 ⟨2, 32, [.v (.int .i64 0), .lst 1 [] .ex], .struct [(0, 3), (1, 45)]⟩ = true := by kernel_rfl
theorem tokB_84 : tokB Go.Proofs.Try.prog 84 ⟨2, 48, [.lst 1 [] .ex, .lst 1 [] .ex], .struct [(0, 45), (1, 45)]⟩ = true := by kernel_rfl
theorem tokB_88 : tokB Go.Proofs.Try.prog 88 ⟨1, 8, [.v (.pointer none)], .other⟩ = true := by kernel_rfl
theorem tokB_89 : tokB Go.Proofs.Try.prog 89 ⟨1, 24, [.lst 1 [] .ex], .slice 38⟩ = true := by kernel_rfl
theorem tokB_92 : tokB Go.Proofs.Try.prog 92 ⟨1, 24, [.lst 1 [] .ex], .slice 33⟩ = true := by kernel_rfl
theorem tokB_94 : tokB Go.Proofs.Try.prog 94 ⟨4, 64, [.v (.int .i64 0), .lst 7 [] .ex, .v (.int .i64 0), .lst 1 [] .ex], .struct [(0, 24), (2, 3), (3, 89)]⟩ = true := by kernel_rfl
theorem tokB_97 : tokB Go.Proofs.Try.prog 97 ⟨1, 8, [.v .nilFunc], .other⟩ = true := by kernel_rfl
theorem tokB_104 : tokB Go.Proofs.Try.prog 104 ⟨1, 8, [.v (.pointer none)], .other⟩ = true := by kernel_rfl
theorem tokB_105 : tokB Go.Proofs.Try.prog 105 ⟨1, 8, [.v (.map none)], .map 3 147⟩ = true := by kernel_rfl
theorem tokB_107 : tokB Go.Proofs.Try.prog 107 ⟨3, 40, [.v (.int .i64 0), .lst 7 [] .ex, .v (.map none)], .struct [(0, 24), (2, 105)]⟩ = true := by kernel_rfl
theorem tokB_110 : tokB Go.Proofs.Try.prog 110 ⟨1, 24, [.lst 2 [] .ex], .slice 114⟩ = true := by kernel_rfl
theorem tokB_114 : tokB Go.Proofs.Try.prog 114 ⟨2, 16, [.v (.int .i64 0), .v (.int .i64 0)], .struct [(0, 3), (1, 3)]⟩ = true := by kernel_rfl
theorem tokB_119 : tokB Go.Proofs.Try.prog 119 ⟨4, 48, [.v (.int .i64 0), .v (.int .i64 0), .v (.int .i64 0), .lst 1 [] .ex], .struct [(0, 3), (1, 3), (2, 3), (3, 45)]⟩ = true := by kernel_rfl
theorem tokB_124 : tokB Go.Proofs.Try.prog 124 ⟨1, 8, [.v .nilFunc], .other⟩ = true := by kernel_rfl
theorem tokB_132 : tokB Go.Proofs.Try.prog 132 ⟨1, 8, [.v .nilFunc], .other⟩ = true := by kernel_rfl
theorem tokB_133 : tokB Go.Proofs.Try.prog 133 ⟨1, 8, [.v .nilFunc], .other⟩ = true := by kernel_rfl
theorem tokB_135 : tokB Go.Proofs.Try.prog 135 ⟨1, 8, [.v (.pointer none)], .other⟩ = true := by kernel_rfl
theorem tokB_136 : tokB Go.Proofs.Try.prog 136 ⟨1, 24, [.lst 1 [] .ex], .slice 163⟩ = true := by kernel_rfl
theorem tokB_138 : tokB Go.Proofs.Try.prog 138 ⟨9, 112, [.lst 2 [] .ex, .v (.int .i64 0), .lst 1 [] .ex, .v (.int .i64 0), .v (.bool false), .v (.bool false), .lst 1 [] .ex, .v (.int .i64 0), .v (.int .i64 0)], .struct [(0, 44), (2, 136), (3, 3), (4, 4), (5, 4), (6, 47)]⟩ = true := by kernel_rfl
theorem tokB_140 : tokB Go.Proofs.Try.prog 140 ⟨1, 8, [.v .nilFunc], .other⟩ = true := by kernel_rfl
theorem tokB_144 : tokB Go.Proofs.Try.prog 144 ⟨1, 8, [.v (.int .u64 0)], .other⟩ = true := by kernel_rfl
theorem tokB_147 : tokB Go.Proofs.Try.prog 147 ⟨2, 16, [.v (.int .i64 0), .v (.int .i64 0)], .struct [(0, 3), (1, 3)]⟩ = true := by kernel_rfl
theorem tokB_150 : tokB Go.Proofs.Try.prog 150 ⟨1, 24, [.lst 2 [] .ex], .slice 153⟩ = true := by kernel_rfl
theorem tokB_151 : tokB Go.Proofs.Try.prog 151 ⟨1, 8, [.v (.int .u64 0)], .other⟩ = true := by kernel_rfl
theorem tokB_153 : tokB Go.Proofs.Try.prog 153 ⟨2, 16, [.v (.int .u64 0), .v (.int .u64 0)], .array 2 151⟩ = true := by kernel_rfl
theorem tokB_162 : tokB Go.Proofs.Try.prog 162 ⟨1, 24, [.lst 4 [] .ex], .slice 169⟩ = true := by kernel_rfl
theorem tokB_163 : tokB Go.Proofs.Try.prog 163 ⟨1, 8, [.v (.pointer none)], .other⟩ = true := by kernel_rfl
theorem tokB_164 : tokB Go.Proofs.Try.prog 164 ⟨1, 8, [.v (.map none)], .map 3 169⟩ = true := by kernel_rfl
theorem tokB_166 : tokB Go.Proofs.Try.prog 166 ⟨5, 40, [.v (.int .i64 0), .v (.int .i64 0), .v (.int .i64 0), .v (.int .i64 0), .v (.map none)], .struct [(0, 3), (1, 3), (2, 3), (3, 3), (4, 164)]⟩ = true := by kernel_rfl
theorem tokB_167 : tokB Go.Proofs.Try.prog 167 ⟨1, 8, [.v (.pointer none)], .other⟩ = true := by kernel_rfl
theorem tokB_169 : tokB Go.Proofs.Try.prog 169 ⟨4, 48, [.v (.int .i64 0), .v (.int .i64 0), .lst 4 [] .ex, .v (.pointer none)], .struct [(0, 3), (1, 3), (2, 162), (3, 167)]⟩ = true := by kernel_rfl
theorem tokB_176 : tokB Go.Proofs.Try.prog 176 ⟨2, 16, [.v (.int .i64 0), .v (.int .i64 0)], .struct [(0, 3), (1, 3)]⟩ = true := by kernel_rfl
theorem tokB_177 : tokB Go.Proofs.Try.prog 177 ⟨1, 24, [.lst 2 [] .ex], .slice 176⟩ = true := by kernel_rfl
theorem tokB_178 : tokB Go.Proofs.Try.prog 178 ⟨1, 8, [.v (.pointer none)], .other⟩ = true := by kernel_rfl
theorem tokB_198 : tokB Go.Proofs.Try.prog 198 ⟨1, 8, [.v (.int .u64 0)], .other⟩ = true := by kernel_rfl
theorem tokB_202 : tokB Go.Proofs.Try.prog 202 ⟨1, 8, [.v (.pointer none)], .other⟩ = true := by kernel_rfl
theorem tokB_207 : tokB Go.Proofs.Try.prog 207 ⟨1, 8, [.v (.pointer none)], .other⟩ = true := by kernel_rfl
set_option maxRecDepth 100000 in
theorem tabA_ok : TabOK Go.Proofs.Try.prog tabA := by
  intro t ti h
  unfold tabA at h
  split at h
  · cases h
    exact tok_of_B tokB_1
  · cases h
    exact tok_of_B tokB_2
  · cases h
    exact tok_of_B tokB_3
  · cases h
    exact tok_of_B tokB_4
  · cases h
    exact tok_of_B tokB_5
  · cases h
    exact tok_of_B tokB_9
  · cases h
    exact tok_of_B tokB_22
  · cases h
    exact tok_of_B tokB_24
  · cases h
    exact tok_of_B tokB_26
  · cases h
    exact tok_of_B tokB_33
  · cases h
    exact tok_of_B tokB_38
  · cases h
    exact tok_of_B tokB_41
  · cases h
    exact tok_of_B tokB_42
  · cases h
    exact tok_of_B tokB_44
  · cases h
    exact tok_of_B tokB_45
  · cases h
    exact tok_of_B tokB_47
  · cases h
    exact tok_of_B tokB_61
  · cases h
    exact tok_of_B tokB_65
  · cases h
    exact tok_of_B tokB_69
  · cases h
    exact tok_of_B tokB_75
  · cases h
    exact tok_of_B tokB_77
  · cases h
    exact tok_of_B tokB_78
  · cases h
    exact tok_of_B tokB_80
  · cases h
    exact tok_of_B tokB_82
  · cases h
    exact tok_of_B tokB_84
  · cases h
    exact tok_of_B tokB_88
  · cases h
    exact tok_of_B tokB_89
  · cases h
    exact tok_of_B tokB_92
  · cases h
    exact tok_of_B tokB_94
  · cases h
    exact tok_of_B tokB_97
  · cases h
    exact tok_of_B tokB_104
  · cases h
    exact tok_of_B tokB_105
  · cases h
    exact tok_of_B tokB_107
  · cases h
    exact tok_of_B tokB_110
  · cases h
    exact tok_of_B tokB_114
  cases h
set_option maxRecDepth 100000 in
theorem tabB_ok : TabOK Go.Proofs.Try.prog tabB := by
  intro t ti h
  unfold tabB at h
  split at h
  · cases h
    exact tok_of_B tokB_119
  · cases h
    exact tok_of_B tokB_124
  · cases h
    exact tok_of_B tokB_132
  · cases h
    exact tok_of_B tokB_133
  · cases h
    exact tok_of_B tokB_135
  · cases h
    exact tok_of_B tokB_136
  · cases h
    exact tok_of_B tokB_138
  · cases h
    exact tok_of_B tokB_140
  · cases h
    exact tok_of_B tokB_144
  · cases h
    exact tok_of_B tokB_147
  · cases h
    exact tok_of_B tokB_150
  · cases h
    exact tok_of_B tokB_151
  · cases h
    exact tok_of_B tokB_153
  · cases h
    exact tok_of_B tokB_162
  · cases h
    exact tok_of_B tokB_163
  · cases h
    exact tok_of_B tokB_164
  · cases h
    exact tok_of_B tokB_166
  · cases h
    exact tok_of_B tokB_167
  · cases h
    exact tok_of_B tokB_169
  · cases h
    exact tok_of_B tokB_176
  · cases h
    exact tok_of_B tokB_177
  · cases h
    exact tok_of_B tokB_178
  · cases h
    exact tok_of_B tokB_198
  · cases h
    exact tok_of_B tokB_202
  · cases h
    exact tok_of_B tokB_207
  cases h
theorem hT : TabOK Go.Proofs.Try.prog tab := by
  intro t ti h
  unfold tab at h
  cases hb : Nat.blt t 117 with
  | true =>
    rw [hb] at h
    exact tabA_ok t ti h
  | false =>
    rw [hb] at h
    exact tabB_ok t ti h
theorem hm : Go.Proofs.Try.prog.follows .mixedOrders = true := by kernel_rfl
structure Ins where
  to : Int
  op : Int
  n : Int
  args : List Int
structure Edge where
  block : Int
  args : List Int
structure Term where
  kind : Int
  arg : Int
  n : Int
  cases : List Int
  to : List Edge
structure Block where
  params : List Int
  ins : List Ins
  term : Term
structure Func where
  name : Int
  blocks : List Block
structure Unt where
  fns : List Func
  main : Int
abbrev aI (n : Int) : AVal := .v (.int .i64 n)
abbrev eIs (l : List Int) : AVal := .lst 1 (l.map aI) .sh
def Ins.enc (i : Ins) : AVal := .agg [aI i.to, aI i.op, aI i.n, eIs i.args]
abbrev eInss (l : List Ins) : AVal := .lst 4 (l.map Ins.enc) .sh
def Edge.enc (e : Edge) : AVal := .agg [aI e.block, eIs e.args]
abbrev eEdges (l : List Edge) : AVal := .lst 2 (l.map Edge.enc) .sh
def Term.enc (t : Term) : AVal := .agg [aI t.kind, aI t.arg, aI t.n, eIs t.cases, eEdges t.to]
def Block.enc (b : Block) : AVal := .agg [eIs b.params, eInss b.ins, aI b.term.kind, aI b.term.arg, aI b.term.n, eIs b.term.cases, eEdges b.term.to]
abbrev eBlocks (l : List Block) : AVal := .lst 7 (l.map Block.enc) .sh
def Func.enc (f : Func) : AVal := .agg [aI f.name, eBlocks f.blocks]
abbrev eFuncs (l : List Func) : AVal := .lst 2 (l.map Func.enc) .sh
def Unt.enc (u : Unt) : AVal := .agg [eFuncs u.fns, aI u.main]
theorem aI_upto (n : Nat) (l : List Int) : uptoL n (l.map aI) := by
  rw [uptoL_iff]
  intro x hx
  obtain ⟨c, _, rfl⟩ := List.mem_map.1 hx
  trivial
theorem aI_share (l : List Int) : (l.map aI).map AVal.share = l.map aI := by
  rw [List.map_map]
  rfl
theorem Ins.enc_cells (i : Ins) : i.enc.cells = [aI i.to, aI i.op, aI i.n, eIs i.args] := rfl
theorem Ins.fold (i : Ins) : AVal.agg [aI i.to, aI i.op, aI i.n, eIs i.args] = i.enc := rfl
theorem Ins.enc_upto (n : Nat) (i : Ins) : i.enc.upto n := by
  simp only [Ins.enc, AVal.upto, uptoL, and_true, true_and, aI_upto]
theorem Ins.map_upto (n : Nat) (l : List Ins) : uptoL n (l.map Ins.enc) := by
  rw [uptoL_iff]
  intro x hx
  obtain ⟨c, _, rfl⟩ := List.mem_map.1 hx
  exact c.enc_upto n
theorem Ins.enc_flat (i : Ins) : i.enc.flat := trivial
theorem Ins.enc_share (i : Ins) : i.enc.share = i.enc := rfl
theorem Ins.map_share (l : List Ins) : (l.map Ins.enc).map AVal.share = l.map Ins.enc := by
  rw [List.map_map]
  rfl
theorem Edge.enc_cells (e : Edge) : e.enc.cells = [aI e.block, eIs e.args] := rfl
theorem Edge.fold (e : Edge) : AVal.agg [aI e.block, eIs e.args] = e.enc := rfl
theorem Edge.enc_upto (n : Nat) (e : Edge) : e.enc.upto n := by
  simp only [Edge.enc, AVal.upto, uptoL, and_true, true_and, aI_upto]
theorem Edge.map_upto (n : Nat) (l : List Edge) : uptoL n (l.map Edge.enc) := by
  rw [uptoL_iff]
  intro x hx
  obtain ⟨c, _, rfl⟩ := List.mem_map.1 hx
  exact c.enc_upto n
theorem Edge.enc_flat (e : Edge) : e.enc.flat := trivial
theorem Edge.enc_share (e : Edge) : e.enc.share = e.enc := rfl
theorem Edge.map_share (l : List Edge) : (l.map Edge.enc).map AVal.share = l.map Edge.enc := by
  rw [List.map_map]
  rfl
theorem Term.enc_cells (t : Term) : t.enc.cells = [aI t.kind, aI t.arg, aI t.n, eIs t.cases, eEdges t.to] := rfl
theorem Term.fold (t : Term) : AVal.agg [aI t.kind, aI t.arg, aI t.n, eIs t.cases, eEdges t.to] = t.enc := rfl
theorem Term.enc_upto (n : Nat) (t : Term) : t.enc.upto n := by
  simp only [Term.enc, AVal.upto, uptoL, and_true, true_and, aI_upto, Edge.map_upto]
theorem Term.map_upto (n : Nat) (l : List Term) : uptoL n (l.map Term.enc) := by
  rw [uptoL_iff]
  intro x hx
  obtain ⟨c, _, rfl⟩ := List.mem_map.1 hx
  exact c.enc_upto n
theorem Term.enc_flat (t : Term) : t.enc.flat := trivial
theorem Term.enc_share (t : Term) : t.enc.share = t.enc := rfl
theorem Term.map_share (l : List Term) : (l.map Term.enc).map AVal.share = l.map Term.enc := by
  rw [List.map_map]
  rfl
theorem Block.enc_cells (b : Block) : b.enc.cells = [eIs b.params, eInss b.ins, aI b.term.kind, aI b.term.arg, aI b.term.n, eIs b.term.cases, eEdges b.term.to] := rfl
theorem Block.fold (b : Block) : AVal.agg [eIs b.params, eInss b.ins, aI b.term.kind, aI b.term.arg, aI b.term.n, eIs b.term.cases, eEdges b.term.to] = b.enc := rfl
theorem Block.enc_upto (n : Nat) (b : Block) : b.enc.upto n := by
  simp only [Block.enc, AVal.upto, uptoL, and_true, true_and, aI_upto, Edge.map_upto, Ins.map_upto]
theorem Block.map_upto (n : Nat) (l : List Block) : uptoL n (l.map Block.enc) := by
  rw [uptoL_iff]
  intro x hx
  obtain ⟨c, _, rfl⟩ := List.mem_map.1 hx
  exact c.enc_upto n
theorem Block.enc_flat (b : Block) : b.enc.flat := trivial
theorem Block.enc_share (b : Block) : b.enc.share = b.enc := rfl
theorem Block.map_share (l : List Block) : (l.map Block.enc).map AVal.share = l.map Block.enc := by
  rw [List.map_map]
  rfl
theorem Func.enc_cells (f : Func) : f.enc.cells = [aI f.name, eBlocks f.blocks] := rfl
theorem Func.fold (f : Func) : AVal.agg [aI f.name, eBlocks f.blocks] = f.enc := rfl
theorem Func.enc_upto (n : Nat) (f : Func) : f.enc.upto n := by
  simp only [Func.enc, AVal.upto, uptoL, and_true, true_and, aI_upto, Block.map_upto]
theorem Func.map_upto (n : Nat) (l : List Func) : uptoL n (l.map Func.enc) := by
  rw [uptoL_iff]
  intro x hx
  obtain ⟨c, _, rfl⟩ := List.mem_map.1 hx
  exact c.enc_upto n
theorem Func.enc_flat (f : Func) : f.enc.flat := trivial
theorem Func.enc_share (f : Func) : f.enc.share = f.enc := rfl
theorem Func.map_share (l : List Func) : (l.map Func.enc).map AVal.share = l.map Func.enc := by
  rw [List.map_map]
  rfl
theorem Unt.enc_cells (u : Unt) : u.enc.cells = [eFuncs u.fns, aI u.main] := rfl
theorem Unt.fold (u : Unt) : AVal.agg [eFuncs u.fns, aI u.main] = u.enc := rfl
theorem Unt.enc_upto (n : Nat) (u : Unt) : u.enc.upto n := by
  simp only [Unt.enc, AVal.upto, uptoL, and_true, true_and, aI_upto, Func.map_upto]
theorem Unt.map_upto (n : Nat) (l : List Unt) : uptoL n (l.map Unt.enc) := by
  rw [uptoL_iff]
  intro x hx
  obtain ⟨c, _, rfl⟩ := List.mem_map.1 hx
  exact c.enc_upto n
theorem Unt.enc_flat (u : Unt) : u.enc.flat := trivial
theorem Unt.enc_share (u : Unt) : u.enc.share = u.enc := rfl
theorem Unt.map_share (l : List Unt) : (l.map Unt.enc).map AVal.share = l.map Unt.enc := by
  rw [List.map_map]
  rfl
theorem kt_3 : ktOf Try.prog 3 = some (.int .i64) := by
  unfold ktOf
  rw [Try.underlying3]
def fitI (n : Int) : Prop := -9223372036854775808 ≤ n ∧ n ≤ 9223372036854775807
def fitIs (l : List Int) : Prop := ∀ n ∈ l, fitI n
def Ins.fit (i : Ins) : Prop := fitI i.to ∧ fitI i.op ∧ fitI i.n ∧ fitIs i.args ∧ i.args.length ≤ 2 ^ 47
def Edge.fit (e : Edge) : Prop := fitI e.block ∧ fitIs e.args ∧ e.args.length ≤ 2 ^ 47
def Term.fit (t : Term) : Prop := fitI t.kind ∧ fitI t.arg ∧ fitI t.n ∧ fitIs t.cases ∧ t.cases.length ≤ 2 ^ 47 ∧ t.to.length ≤ 2 ^ 47 ∧ ∀ e ∈ t.to, e.fit
def Block.fit (b : Block) : Prop := fitIs b.params ∧ b.params.length ≤ 2 ^ 47 ∧ b.ins.length ≤ 2 ^ 47 ∧ (∀ i ∈ b.ins, i.fit) ∧ b.term.fit
def Func.fit (f : Func) : Prop := fitI f.name ∧ f.blocks.length ≤ 2 ^ 47 ∧ ∀ b ∈ f.blocks, b.fit
def Unt.fit (u : Unt) : Prop := fitI u.main ∧ u.fns.length ≤ 2 ^ 47 ∧ ∀ f ∈ u.fns, f.fit
end Go.Proofs.Ytlclgfgmhnmnaaa
section
namespace Go.Proofs.Ytlclgfgmhnmnaaa
open Go.Av
inductive SV where
  | mk (kind n : Int) (list : List SV) (arr : Option Nat)
def eP : Option Nat → AVal
  | none => .v (.pointer none)
  | some id => .mp id 0
namespace SV
def kind : SV → Int | mk k _ _ _ => k
def n : SV → Int | mk _ n _ _ => n
def list : SV → List SV | mk _ _ l _ => l
def arr : SV → Option Nat | mk _ _ _ a => a
mutual
def enc : SV → AVal
  | mk k n l a => .agg [aI k, aI n, .lst 4 (encL l) .sh, eP a]
def encL : List SV → List AVal
  | [] => []
  | p :: r => p.enc :: encL r
end
theorem encL_map : ∀ l : List SV, encL l = l.map enc
  | [] => by simp [encL]
  | p :: r => by simp [encL, encL_map r]
theorem enc_eq (p : SV) : p.enc = .agg [aI p.kind, aI p.n, .lst 4 (p.list.map enc) .sh, eP p.arr] := by
  cases p with
  | mk k n l a => simp [enc, kind, SV.n, list, arr, encL_map]
theorem fold (p : SV) : AVal.agg [aI p.kind, aI p.n, .lst 4 (p.list.map enc) .sh, eP p.arr] = p.enc := (enc_eq p).symm
theorem enc_mk (k n : Int) (l : List SV) (a : Option Nat) : (mk k n l a).enc = .agg [aI k, aI n, .lst 4 (l.map enc) .sh, eP a] := enc_eq _
theorem enc_cells (p : SV) : p.enc.cells = [aI p.kind, aI p.n, .lst 4 (p.list.map enc) .sh, eP p.arr] := by
  rw [enc_eq]
  rfl
theorem agg_cells (p : SV) : AVal.agg p.enc.cells = p.enc := by
  rw [enc_cells, fold]
theorem _root_.Go.Proofs.Ytlclgfgmhnmnaaa.eP_shareCell (a : Option Nat) : (eP a).shareCell = eP a := by cases a <;> rfl
theorem _root_.Go.Proofs.Ytlclgfgmhnmnaaa.eP_scalar (a : Option Nat) : (eP a).scalar := by cases a <;> trivial
theorem enc_share (p : SV) : p.enc.share = p.enc := by
  rw [enc_eq]
  have := eP_shareCell p.arr
  unfold AVal.shareCell at this
  simp [AVal.share, AVal.shareCell, this]
theorem enc_flat (p : SV) : p.enc.flat := by
  rw [enc_eq]
  trivial
theorem map_share (l : List SV) : (l.map enc).map AVal.share = l.map enc := by
  rw [List.map_map]
  exact List.map_congr_left fun p _ => enc_share p
theorem cells_len (p : SV) : p.enc.cells.length = 4 := by
  rw [enc_cells]
  rfl
inductive Under (n : Nat) : SV → Prop
  | mk {k m : Int} {l : List SV} {a : Option Nat} (ha : ∀ id, a = some id → id < n) (hl : ∀ v, v ∈ l → Under n v) : Under n (.mk k m l a)
theorem Under.mono {n m : Nat} (h : n ≤ m) {v : SV} (k : Under n v) : Under m v := by
  induction k with
  | mk ha hl ih => exact .mk (fun id e => Nat.lt_of_lt_of_le (ha id e) h) ih
theorem eP_upto {n : Nat} {a : Option Nat} (h : ∀ id, a = some id → id < n) : (eP a).upto n := by
  cases a with
  | none => trivial
  | some id => exact h id rfl
theorem Under.enc_upto {n : Nat} {p : SV} (h : Under n p) : p.enc.upto n := by
  induction h with
  | mk ha hl ih =>
    rw [enc_mk]
    simp only [AVal.upto, uptoL, true_and, and_true]
    refine ⟨?_, eP_upto ha⟩
    rw [uptoL_iff]
    intro x hx
    obtain ⟨v, hv, rfl⟩ := List.mem_map.1 hx
    exact ih v hv
theorem map_upto {n : Nat} {l : List SV} (h : ∀ v ∈ l, Under n v) : uptoL n (l.map enc) := by
  rw [uptoL_iff]
  intro x hx
  obtain ⟨v, hv, rfl⟩ := List.mem_map.1 hx
  exact (h v hv).enc_upto
theorem cells_upto {n : Nat} {l : List SV} (h : ∀ v ∈ l, Under n v) : uptoL n (cellsAll (l.map enc)) := by
  rw [uptoL_iff]
  intro c hc
  simp only [cellsAll, List.mem_flatMap, List.mem_map] at hc
  obtain ⟨_, ⟨p, hp, rfl⟩, hc⟩ := hc
  have := (h p hp).enc_upto
  rw [enc_eq] at this
  rw [enc_cells] at hc
  simp only [AVal.upto, uptoL_iff] at this
  exact this c hc
theorem row_len (l : List SV) : (cellsAll (l.map enc)).length = l.length * 4 := by
  rw [cellsAll_length (sz := 4) (fun x hx => by
    obtain ⟨p, _, rfl⟩ := List.mem_map.1 hx
    exact p.cells_len)]
  simp
theorem row_get : ∀ {l : List SV} {k : Nat} {p : SV}, l[k]? = some p → ((cellsAll (l.map enc)).drop (k * 4)).take 4 = p.enc.cells
  | q :: r, 0, p, h => by
    simp only [List.getElem?_cons_zero, Option.some.injEq] at h
    subst h
    simp only [List.map_cons, cellsAll, List.flatMap_cons, Nat.zero_mul, List.drop_zero]
    rw [List.take_append_of_le_length (by rw [cells_len]; exact Nat.le_refl _), List.take_of_length_le (by rw [cells_len]; exact Nat.le_refl _)]
  | q :: r, k + 1, p, h => by
    have ih := row_get (l := r) (k := k) (p := p) (by simpa using h)
    simp only [List.map_cons, cellsAll, List.flatMap_cons] at ih ⊢
    rw [List.drop_append, List.drop_of_length_le (by rw [cells_len]; omega), cells_len, show (k + 1) * 4 - 4 = k * 4 by omega]
    exact ih
theorem row_set {l : List SV} {k : Nat} (h : k < l.length) (q : SV) : splice (cellsAll (l.map enc)) (k * 4) q.enc.cells = cellsAll ((l.set k q).map enc) := by
  induction l generalizing k with
  | nil => simp at h
  | cons p r ih =>
    cases k with
    | zero =>
      simp only [List.set_cons_zero, List.map_cons, cellsAll, List.flatMap_cons, splice, Nat.zero_mul, List.take_zero, List.nil_append, Nat.zero_add, cells_len]
      rw [List.drop_append_of_le_length (by rw [cells_len]; exact Nat.le_refl _), List.drop_of_length_le (by rw [cells_len]; exact Nat.le_refl _)]
      rfl
    | succ k =>
      have := ih (k := k) (by simpa using h)
      simp only [List.set_cons_succ, List.map_cons, cellsAll, List.flatMap_cons, splice, cells_len] at this ⊢
      rw [List.take_append, List.drop_append, cells_len, List.take_of_length_le (by rw [cells_len]; omega), List.drop_of_length_le (by rw [cells_len]; omega), show (k + 1) * 4 - 4 = k * 4 by omega, show (k + 1) * 4 + 4 - 4 = k * 4 + 4 by omega, List.nil_append, List.append_assoc, this]
def word (n : Int) : SV := mk 0 n [] none
def zero : SV := mk 0 0 [] none
inductive Wf (f : Nat) (a : Nat → Prop) : SV → Prop
  | mk {k m : Int} {l : List SV} {r : Option Nat}
      (h0 : 0 ≤ k ∧ k ≤ 4) (h1 : k = 0 ∨ k = 1 → -1073741824 ≤ m ∧ m ≤ 1073741823) (h2 : k = 2 → 0 ≤ m ∧ m < f) (h3 : k = 3 → ∃ id, r = some id)
      (h4 : k = 4 → ∀ v, v ∈ l → v.kind = 0) (hl : l.length ≤ 1000) (hr : ∀ id, r = some id → a id) (h : ∀ v, v ∈ l → Wf f a v) : Wf f a (.mk k m l r)
theorem Wf.under {f n : Nat} {a : Nat → Prop} (ha : ∀ id, a id → id < n) {v : SV} (h : Wf f a v) : Under n v := by
  induction h with
  | mk h0 h1 h2 h3 h4 hl hr h ih => exact .mk (fun id e => ha id (hr id e)) ih
theorem Wf.mono {f : Nat} {a b : Nat → Prop} (hab : ∀ id, a id → b id) {v : SV} (h : Wf f a v) : Wf f b v := by
  induction h with
  | mk h0 h1 h2 h3 h4 hl hr h ih => exact .mk h0 h1 h2 h3 h4 hl (fun id e => hab id (hr id e)) ih
theorem Wf.word {f : Nat} {a : Nat → Prop} {n : Int} (h : -1073741824 ≤ n ∧ n ≤ 1073741823) : Wf f a (word n) :=
  .mk (by omega) (fun _ => h) (by omega) (by omega) (by omega) (by simp) (by simp) (by simp)
theorem Wf.zero {f : Nat} {a : Nat → Prop} : Wf f a zero := Wf.word (n := 0) (by omega)
theorem Wf.num {f : Nat} {a : Nat → Prop} {v : SV} (h : Wf f a v) : v.kind = 0 ∨ v.kind = 1 → -1073741824 ≤ v.n ∧ v.n ≤ 1073741823 := by cases h; assumption
theorem Wf.fn {f : Nat} {a : Nat → Prop} {v : SV} (h : Wf f a v) : v.kind = 2 → 0 ≤ v.n ∧ v.n < f := by cases h; assumption
theorem Wf.array {f : Nat} {a : Nat → Prop} {v : SV} (h : Wf f a v) : v.kind = 3 → ∃ id, v.arr = some id := by cases h; assumption
theorem Wf.vec {f : Nat} {a : Nat → Prop} {v : SV} (h : Wf f a v) : v.kind = 4 → ∀ x ∈ v.list, x.kind = 0 := by cases h; assumption
theorem Wf.len {f : Nat} {a : Nat → Prop} {v : SV} (h : Wf f a v) : v.list.length ≤ 1000 := by cases h; assumption
theorem Wf.ref {f : Nat} {a : Nat → Prop} {v : SV} (h : Wf f a v) : ∀ id, v.arr = some id → a id := by cases h; assumption
theorem Wf.kids {f : Nat} {a : Nat → Prop} {v : SV} (h : Wf f a v) : ∀ x ∈ v.list, Wf f a x := by cases h; assumption
end SV
def lookS : List (Int × SV) → Int → Option SV
  | [], _ => none
  | (k, v) :: r, key => if k = key then some v else lookS r key
def putS' : List (Int × SV) → Int → SV → List (Int × SV)
  | [], key, y => [(key, y)]
  | (k, x) :: r, key, y => if k = key then (key, y) :: r else (k, x) :: putS' r key y
def ent (e : Int × SV) : Value × AVal := (.int .i64 e.1, e.2.enc)
theorem eqKey_i64 (k l : Int) : eqKey (.int .i64 k) (.int .i64 l) = decide (k = l) := by
  simp [eqKey]
theorem look_ent (es : List (Int × SV)) (k : Int) : lookV (es.map ent) (.int .i64 k) = (lookS es k).map SV.enc := by
  induction es with
  | nil => rfl
  | cons p r ih =>
    obtain ⟨a, v⟩ := p
    simp only [List.map_cons, ent, lookV, lookS, eqKey_i64, decide_eq_true_eq]
    split
    · rfl
    exact ih
theorem put_ent (es : List (Int × SV)) (k : Int) (v : SV) : putV (es.map ent) (.int .i64 k) v.enc = (putS' es k v).map ent := by
  induction es with
  | nil => rfl
  | cons p r ih =>
    obtain ⟨a, x⟩ := p
    simp only [List.map_cons, ent, putV, putS', eqKey_i64, decide_eq_true_eq]
    split
    · rfl
    simp only [List.map_cons, ent]
    rw [← ih]
def getS (es : List (Int × SV)) (k : Int) : SV := (lookS es k).getD .zero
theorem mem_lookS {es : List (Int × SV)} {k : Int} {v : SV} (h : lookS es k = some v) : ∃ e ∈ es, e.2 = v := by
  induction es with
  | nil => simp [lookS] at h
  | cons p r ih =>
    obtain ⟨a, x⟩ := p
    simp only [lookS] at h
    split at h
    · exact ⟨(a, x), by simp, by simpa using h⟩
    obtain ⟨e, h1, h2⟩ := ih h
    exact ⟨e, by simp [h1], h2⟩
theorem mem_putS' {es : List (Int × SV)} {k : Int} {v : SV} {e : Int × SV} (h : e ∈ putS' es k v) : e ∈ es ∨ e = (k, v) := by
  induction es with
  | nil => simpa [putS'] using h
  | cons p r ih =>
    obtain ⟨a, x⟩ := p
    simp only [putS'] at h
    split at h
    · rcases List.mem_cons.1 h with h | h
      · exact .inr h
      exact .inl (by simp [h])
    rcases List.mem_cons.1 h with h | h
    · exact .inl (by simp [h])
    rcases ih h with h | h
    · exact .inl (by simp [h])
    exact .inr h
end Go.Proofs.Ytlclgfgmhnmnaaa
end
namespace Go.Proofs.Ytlclgfgmhnmnaaa
open Go.Av
instance : Inhabited Ins := ⟨⟨0, 0, 0, []⟩⟩
instance : Inhabited Edge := ⟨⟨0, []⟩⟩
instance : Inhabited Term := ⟨⟨0, 0, 0, [], []⟩⟩
instance : Inhabited Block := ⟨⟨[], [], default⟩⟩
instance : Inhabited Func := ⟨⟨0, []⟩⟩
instance : Inhabited SV := ⟨.zero⟩
structure Fr where
  fid : Nat
  mid : Nat
  fn : Int
  blk : Int
  pos : Nat
  to : Int
  vals : List (Int × SV)
structure Arr where
  vid : Nat
  bid : Nat
  l : List SV
structure Mach where
  sid : Nat
  frames : List Fr
  heap : List Arr
  next : Nat
  left : Int
  short : Bool
  over : Bool
  out : List Int
  fin : Int
  val : Int
def fnOf (u : Unt) (k : Int) : Func := u.fns[k.toNat]?.getD default
def blkOf (f : Func) (k : Int) : Block := f.blocks[k.toNat]?.getD default
def wrapW (n : Int) : Int := (n + 1073741824) % 2147483648 - 1073741824
def binaryM (op a b : Int) : SV × Int :=
  if op = 1 then (.word (wrapW (a + b)), 0)
  else if op = 2 then (.word (wrapW (a - b)), 0)
  else if op = 3 then (.word (wrapW (a * b)), 0)
  else if op = 6 then (.word (if a < b then 1 else 0), 0)
  else if op = 7 then (.word (if a = b then 1 else 0), 0)
  else if b = 0 then (.zero, 1)
  else if op = 4 then (.word (wrapW (a.tdiv b)), 0)
  else (.word (a.tmod b), 0)
def allK (l : List SV) (k : Int) : Bool := l.all fun v => decide (v.kind = k)
def argS (l : List SV) (k : Nat) : SV := l[k]?.getD .zero
def objectM (i : Ins) (args : List SV) : SV × Int :=
  if i.op = 11 then
    if ((argS args 0).kind ≠ 1 ∧ (argS args 0).kind ≠ 2) ∨ ((argS args 0).list.length : Int) ≤ i.n then (.zero, 5) else (argS (argS args 0).list i.n.toNat, 0)
  else if (argS args 0).kind ≠ 1 then (.zero, 5)
  else if i.op = 10 then (.word (argS args 0).n, 0)
  else if i.op = 12 then (.word (argS args 0).list.length, 0)
  else if (argS args 1).kind ≠ 0 then (.zero, 5)
  else if (argS args 1).n < 0 ∨ ((argS args 0).list.length : Int) ≤ (argS args 1).n then (.zero, 2)
  else (argS (argS args 0).list (argS args 1).n.toNat, 0)
def zipM (op : Int) : List SV → List SV → List SV
  | a :: r, b :: s => (binaryM op a.n b.n).1 :: zipM op r s
  | _, _ => []
def vectorM (i : Ins) (args : List SV) : SV × Int :=
  if i.op = 22 then
    if allK args 0 then (.mk 4 0 args none, 0) else (.zero, 5)
  else if i.op = 24 then
    if (argS args 0).kind ≠ 4 ∨ ((argS args 0).list.length : Int) ≤ i.n then (.zero, 5) else (argS (argS args 0).list i.n.toNat, 0)
  else if !allK args 4 ∨ (argS args 0).list.length ≠ (argS args 1).list.length then (.zero, 5)
  else (.mk 4 0 (zipM i.n (argS args 0).list (argS args 1).list) none, 0)
namespace Mach
def pay (m : Mach) (n : Int) : Mach := if m.left < n then { m with short := true, over := true } else { m with left := m.left - n }
def stop (m : Mach) (e n : Int) : Mach := { m with over := true, fin := e, val := n }
def arrOf : List Arr → Option Nat → List SV
  | [], _ => []
  | a :: r, id => if id = some a.vid then a.l else arrOf r id
def setArr : List Arr → Option Nat → List SV → List Arr
  | [], _, _ => []
  | a :: r, id, l => if id = some a.vid then ⟨a.vid, a.bid, l⟩ :: r else a :: setArr r id l
def allocate (m : Mach) (size fill : SV) : Mach × SV × Int :=
  if size.kind ≠ 0 then (m, .zero, 5)
  else if size.n < 0 ∨ 1024 < size.n then (m, .zero, 6)
  else if (m.pay size.n).short then (m.pay size.n, .zero, 0)
  else ({ m.pay size.n with heap := m.heap ++ [⟨m.next + 8, m.next + 7, List.replicate size.n.toNat fill⟩], next := m.next + 9 }, .mk 3 0 [] (some (m.next + 8)), 0)
def effect (m : Mach) (i : Ins) (args : List SV) : Mach × SV × Int :=
  if i.op = 15 then
    if (argS args 0).kind ≠ 0 then (m, .zero, 5)
    else if m.out.length = 1000 then (m, .zero, 6)
    else ({ m with out := m.out ++ [(argS args 0).n] }, .word 0, 0)
  else if i.op = 16 then m.allocate (argS args 0) (argS args 1)
  else if i.op = 18 then
    if !allK args 0 then (m, .zero, 5)
    else if (argS args 0).n < 0 ∨ (argS args 1).n ≤ (argS args 0).n then (m, .zero, 2)
    else (m, .word 0, 0)
  else if (argS args 0).kind ≠ 3 ∨ (i.op ≠ 17 ∧ (argS args 1).kind ≠ 0) then (m, .zero, 5)
  else if i.op = 17 then (m, .word (arrOf m.heap (argS args 0).arr).length, 0)
  else if (argS args 1).n < 0 ∨ ((arrOf m.heap (argS args 0).arr).length : Int) ≤ (argS args 1).n then (m, .zero, 2)
  else if i.op = 19 then (m, argS (arrOf m.heap (argS args 0).arr) (argS args 1).n.toNat, 0)
  else ({ m with heap := setArr m.heap (argS args 0).arr ((arrOf m.heap (argS args 0).arr).set (argS args 1).n.toNat (argS args 2)) }, .word 0, 0)
def exec (m : Mach) (i : Ins) (args : List SV) : Mach × SV × Int :=
  if i.op = 0 then (m, .word i.n, 0)
  else if 1 ≤ i.op ∧ i.op ≤ 7 then
    if !allK args 0 then (m, .zero, 5) else (m, binaryM i.op (argS args 0).n (argS args 1).n)
  else if i.op = 8 then (m, .mk 1 i.n args none, 0)
  else if i.op = 9 then (m, .mk 2 i.n args none, 0)
  else if i.op = 10 ∨ i.op = 11 ∨ i.op = 12 ∨ i.op = 21 then (m, objectM i args)
  else if i.op = 22 ∨ i.op = 23 ∨ i.op = 24 then (m, vectorM i args)
  else if i.op = 100 then (m, argS args 0, 0)
  else m.effect i args
end Mach
def bindS : List (Int × SV) → List Int → List SV → List (Int × SV)
  | es, p :: ps, a :: l => bindS (putS' es p a) ps l
  | es, _, _ => es
def takeS (es : List (Int × SV)) (l : List Int) : List SV := l.map (getS es)
def choiceM (t : Term) (n : Int) : Nat :=
  if t.kind = 2 then (if n ≠ 0 then 0 else 1) else t.cases.findIdx (· == n)
namespace Mach
def enter (u : Unt) (m : Mach) (fn : Int) (args : List SV) (to : Int) : Mach :=
  { m with sid := m.next + 2, next := m.next + 3,
           frames := ⟨m.next + 1, m.next, fn, 0, 0, to, bindS [] (blkOf (fnOf u fn) 0).params args⟩ :: m.frames }
def setTop (m : Mach) (f : Fr) : Mach := { m with frames := f :: m.frames.tail }
def follow (u : Unt) (m : Mach) (f : Fr) (e : Edge) : Mach :=
  m.setTop { f with blk := e.block, pos := 0, vals := bindS f.vals (blkOf (fnOf u f.fn) e.block).params (takeS f.vals e.args) }
def leave (m : Mach) (f : Fr) (v : SV) : Mach :=
  match m.frames.tail with
  | [] => { m with frames := [] }.stop 0 (if v.kind = 0 ∨ v.kind = 1 then v.n else 0)
  | g :: r => { m with frames := { g with vals := putS' g.vals f.to v } :: r }
def finish (u : Unt) (m : Mach) (f : Fr) (t : Term) : Mach :=
  if t.kind = 4 then m.stop t.n 0
  else if t.kind = 1 then m.follow u f (t.to[0]?.getD default)
  else if t.kind = 0 then m.leave f (getS f.vals t.arg)
  else if (getS f.vals t.arg).kind ≠ 0 then m.stop 5 0
  else m.follow u f (t.to[choiceM t (getS f.vals t.arg).n]?.getD default)
def settle (f : Fr) (to : Int) (r : Mach × SV × Int) : Mach :=
  (if r.2.2 ≠ 0 then r.1.stop r.2.2 0 else r.1).setTop { f with vals := putS' f.vals to r.2.1 }
def act (u : Unt) (m : Mach) (f : Fr) (i : Ins) (args : List SV) : Mach :=
  if i.op = 13 then m.enter u i.n args i.to
  else if i.op = 14 then
    if (argS args 0).kind = 2 ∧ (blkOf (fnOf u (argS args 0).n) 0).params.length = args.length then m.enter u (argS args 0).n args i.to else m.stop 5 0
  else settle f i.to (m.exec i args)
def step (u : Unt) (m : Mach) : Mach :=
  match m.frames with
  | [] => m
  | f :: _ =>
    match (blkOf (fnOf u f.fn) f.blk).ins[f.pos]? with
    | none => m.finish u f (blkOf (fnOf u f.fn) f.blk).term
    | some i => (m.setTop { f with pos := f.pos + 1 }).act u { f with pos := f.pos + 1 } i (takeS f.vals i.args)
def start (fuel : Int) : Mach := ⟨0, [], [], 4, fuel, false, false, [], 0, 0⟩
def run (u : Unt) : Nat → Mach → Mach
  | 0, m => m
  | k + 1, m => if m.over then m else if (m.pay 1).short then m.pay 1 else run u k (step u (m.pay 1))
end Mach
structure Ans where
  out : List Int
  fin : Int
  val : Int
  n : Int
  e : Int
def performM (u : Unt) (fuel : Int) : Ans :=
  let m := Mach.run u (fuel.toNat + 2) ((Mach.start fuel).enter u u.main [] 0)
  if m.short then ⟨[], 0, 0, 0, 13⟩ else ⟨m.out, m.fin, m.val, fuel - m.left, 0⟩
def isW (n : Int) : Prop := -1073741824 ≤ n ∧ n ≤ 1073741823
structure InsOK (u : Unt) (i : Ins) : Prop where
  op : (0 ≤ i.op ∧ i.op ≤ 24) ∨ i.op = 100
  len : i.args.length ≤ 4096
  fits : fitI i.to ∧ fitI i.n
  c0 : i.op = 0 → isW i.n
  c2 : (1 ≤ i.op ∧ i.op ≤ 7) ∨ i.op = 16 ∨ i.op = 18 ∨ i.op = 19 ∨ i.op = 21 ∨ i.op = 23 → i.args.length = 2
  c1 : i.op = 10 ∨ i.op = 11 ∨ i.op = 12 ∨ i.op = 15 ∨ i.op = 17 ∨ i.op = 24 ∨ i.op = 100 → i.args.length = 1
  c3 : i.op = 20 → i.args.length = 3
  con : i.op = 8 → isW i.n ∧ i.args.length ≤ 16
  clos : i.op = 9 → 0 ≤ i.n ∧ i.n < u.fns.length ∧ i.args.length ≤ 16
  call : i.op = 13 → 0 ≤ i.n ∧ i.n < u.fns.length ∧ (blkOf (fnOf u i.n) 0).params.length = i.args.length
  app : i.op = 14 → 1 ≤ i.args.length
  sel : i.op = 11 ∨ i.op = 24 → 0 ≤ i.n
  pack : i.op = 22 → i.args.length ≤ 16
  vec : i.op = 23 → i.n = 1 ∨ i.n = 2 ∨ i.n = 3
structure EdgeOK (f : Func) (e : Edge) : Prop where
  lo : 0 ≤ e.block
  hi : e.block < f.blocks.length
  args : e.args.length = (blkOf f e.block).params.length
  len : e.args.length ≤ 4096
structure TermOK (f : Func) (t : Term) : Prop where
  kind : 0 ≤ t.kind ∧ t.kind ≤ 4
  n : 0 ≤ t.n ∧ t.n ≤ 6
  jump : t.kind = 1 → t.to.length = 1
  cond : t.kind = 2 → t.to.length = 2
  switch : t.kind = 3 → t.to.length = t.cases.length + 1
  edges : ∀ e ∈ t.to, EdgeOK f e
  cl : t.cases.length ≤ 2 ^ 40
structure BlockOK (u : Unt) (f : Func) (b : Block) : Prop where
  ins : ∀ i ∈ b.ins, InsOK u i
  term : TermOK f b.term
  len : b.ins.length ≤ 2 ^ 40
structure UnitOK (u : Unt) : Prop where
  main : 0 ≤ u.main ∧ u.main < u.fns.length
  few : u.fns.length ≤ 256
  none : (blkOf (fnOf u u.main) 0).params = []
  ne : ∀ f ∈ u.fns, f.blocks ≠ [] ∧ f.blocks.length ≤ 2 ^ 40
  blocks : ∀ f ∈ u.fns, ∀ b ∈ f.blocks, BlockOK u f b
def VOK (u : Unt) (m : Mach) (v : SV) : Prop := SV.Wf u.fns.length (fun id => ∃ a ∈ m.heap, a.vid = id) v
structure FrOK (u : Unt) (m : Mach) (f : Fr) : Prop where
  fn : 0 ≤ f.fn ∧ f.fn < u.fns.length
  blk : 0 ≤ f.blk ∧ f.blk < (fnOf u f.fn).blocks.length
  pos : f.pos ≤ (blkOf (fnOf u f.fn) f.blk).ins.length
  vals : ∀ e ∈ f.vals, VOK u m e.2
structure MachOK (u : Unt) (m : Mach) : Prop where
  frames : ∀ f ∈ m.frames, FrOK u m f
  arrs : ∀ a ∈ m.heap, a.l.length ≤ 1024 ∧ ∀ v ∈ a.l, VOK u m v
  left : 0 ≤ m.left
  depth : m.frames.length + m.left ≤ 2 ^ 40
  out : m.out.length ≤ 1000
  words : ∀ n ∈ m.out, isW n
  fin : 0 ≤ m.fin ∧ m.fin ≤ 6
  val : isW m.val
  done : m.fin ≠ 0 → m.val = 0
  over : m.over = false → m.frames ≠ [] ∧ m.short = false
def eB (b : Bool) : AVal := .v (.bool b)
def mcells (u : Unt) (m : Mach) : List AVal := [eFuncs u.fns, aI u.main, .os m.sid m.frames.length 1, aI m.left, .v (.bool m.short), .v (.bool m.over), .lst 1 (m.out.map aI) (.tok 3), aI m.fin, aI m.val]
def fcells (f : Fr) : List AVal := [aI f.fn, aI f.blk, aI f.pos, aI f.to, .mm f.mid]
def ptrs (l : List Fr) : List AVal := l.reverse.map fun f => .mp f.fid 0
theorem ktok_i64 (v : Int) : KT.ok (.int .i64) (.int .i64 v) = True := by simp [KT.ok]
theorem uptoO_set {O : List AObj} {n k : Nat} {x : AObj} (h : ∀ o ∈ O, o.upto n) (hx : x.upto n) : ∀ o ∈ O.set k x, o.upto n := fun o ho => by
  rcases List.mem_or_eq_of_mem_set ho with q | q
  · exact h o q
  subst q
  exact hx
theorem uptoO_snoc {O : List AObj} {n : Nat} {x : AObj} (h : ∀ o ∈ O, o.upto n) (hx : x.upto n) : ∀ o ∈ O ++ [x], o.upto n := fun o ho => by
  rcases List.mem_append.1 ho with q | q
  · exact h o q
  simp only [List.mem_singleton] at q
  subst q
  exact hx
theorem take_set_len {O : List AObj} {k : Nat} {x : AObj} : (O.set k x).take O.length = O.set k x := List.take_of_length_le (by simp)
theorem at_left {O X : List AObj} {k : Nat} {x : AObj} (h : O[k]? = some x) : (O ++ X)[k]? = some x := by
  rw [List.getElem?_append_left (lt_of_getElem? h), h]
theorem at_set_ne {O : List AObj} {k j : Nat} {x y : AObj} (h : O[k]? = some x) (hj : j ≠ k) : (O.set j y)[k]? = some x := by
  rw [List.getElem?_set_ne hj, h]
theorem at_set {O : List AObj} {k : Nat} {x y : AObj} (h : O[k]? = some x) : (O.set k y)[k]? = some y := List.getElem?_set_self (lt_of_getElem? h)
theorem at_newk {O X : List AObj} {k : Nat} : (O ++ X)[O.length + k]? = X[k]? := by
  rw [List.getElem?_append_right (by omega)]
  simp
theorem at_newz {O X : List AObj} : (O ++ X)[O.length]? = X[0]? := at_newk (k := 0)
theorem set_newk {O X : List AObj} {k : Nat} {y : AObj} : (O ++ X).set (O.length + k) y = O ++ X.set k y := by
  rw [List.set_append_right _ _ (by omega)]
  simp
theorem set_newz {O X : List AObj} {y : AObj} : (O ++ X).set O.length y = O ++ X.set 0 y := set_newk (k := 0)
theorem set_zero {a y : AObj} {X : List AObj} : (a :: X).set 0 y = y :: X := rfl
theorem set_succ {a y : AObj} {k : Nat} {X : List AObj} : (a :: X).set (k + 1) y = a :: X.set k y := rfl
theorem take_new {O X : List AObj} : (O ++ X).take O.length = O := by simp
end Go.Proofs.Ytlclgfgmhnmnaaa
section
namespace Go.Av
theorem awp_rel {P : Program} {kb : Nat} {c : Code} {Q : AEx → St → Prop} {σ : St} {F : Prop} (hf : ∀ base a g, Rel base σ a g → F) (h : F → AWP P kb c Q σ) : AWP P kb c Q σ := fun base a g hb hr => h (hf base a g hr) base a g hb hr
theorem awp_len {P : Program} {kb : Nat} {c : Code} {Q : AEx → St → Prop} {n : Nat} {slots : List (Nat × AVal)} {O : List AObj} (s : Nat) {sz : Nat} {xs : List AVal} {o : Own} (hs : look slots s = some (.lst sz xs o))
    (h : xs.length ≤ 2 ^ 62 → AWP P kb c Q ⟨n, slots, O⟩) : AWP P kb c Q ⟨n, slots, O⟩ :=
  awp_rel (fun _ _ _ hr => by
    obtain ⟨u, _, h2⟩ := hr.slot s _ hs
    exact h2.lst_len) h
theorem look_mem : ∀ {l : List (Nat × AVal)} {s : Nat} {x : AVal}, look l s = some x → (s, x) ∈ l
  | (k, y) :: r, s, x, h => by
    simp only [look] at h
    split at h
    · rename_i e
      subst e
      simp only [Option.some.injEq] at h
      subst h
      exact List.mem_cons_self
    exact List.mem_cons_of_mem _ (look_mem h)
theorem awp_trunc' {P : Program} {kb : Nat} {c : Code} {Q : AEx → St → Prop} {n : Nat} {slots : List (Nat × AVal)} {O : List AObj} (k : Nat) (slots' : List (Nat × AVal)) (hk : k ≤ O.length) (hkb : kb ≤ k) (O' : List AObj) (hO' : O.take k = O') (hb : ∀ o ∈ O', o.upto k)
    (hs : Says ⟨n, slots, O⟩ slots') (hsl : ∀ p ∈ slots', p.2.upto k) (h : AWP P kb c Q ⟨n, slots', O'⟩) : AWP P kb c Q ⟨n, slots, O⟩ :=
  awp_trunc k hk hkb slots' (by rw [hO']; exact hb) hs (fun s x hx => hsl _ (look_mem hx)) (by rw [hO']; exact h)
theorem snoc_get {α : Type} (l : List α) (x : α) : (l ++ [x])[l.length]? = some x := by simp
theorem snoc_set {α : Type} (l : List α) (x y : α) : (l ++ [x]).set l.length y = l ++ [y] := by simp
theorem snoc_take {α : Type} (l m : List α) : (l ++ m).take l.length = l := by simp
theorem splice_nil (cs : List AVal) : splice cs 0 [] = cs := by simp [splice]
theorem splice_head (c x : AVal) (cs xs : List AVal) : splice (c :: cs) 0 (x :: xs) = x :: splice cs 0 xs := by simp [splice]
theorem splice_succ (c : AVal) (cs xs : List AVal) (k : Nat) : splice (c :: cs) (k + 1) xs = c :: splice cs k xs := by
  simp only [splice, List.take_succ_cons, List.cons_append, List.cons.injEq, true_and]
  rw [show k + 1 + xs.length = (k + xs.length) + 1 by omega, List.drop_succ_cons]
theorem take_len_map {α β : Type} (f : α → β) (l : List α) : (l.map f).take l.length = l.map f := List.take_of_length_le (by simp)
mutual
theorem AVal.upto_mono {n m : Nat} (h : n ≤ m) : ∀ x : AVal, x.upto n → x.upto m
  | .v _, _ => trivial
  | .agg cs, hx => uptoL_mono h cs hx
  | .lst _ xs o, hx => by
    refine ⟨uptoL_mono h xs hx.1, ?_⟩
    have := hx.2
    cases o <;> first | trivial | exact Nat.lt_of_lt_of_le this h
  | .ip _ cs, hx => uptoL_mono h cs hx
  | .mp _ _, hx => Nat.lt_of_lt_of_le hx h
  | .ms _ _ _ _, hx => Nat.lt_of_lt_of_le hx h
  | .os _ _ _, hx => Nat.lt_of_lt_of_le hx h
  | .raw _ _ _, hx => Nat.lt_of_lt_of_le hx h
  | .mm _, hx => Nat.lt_of_lt_of_le hx h
  | .im _ es, hx => uptoE_mono h es hx
  | .fn _ fs cs, hx => ⟨uptoL_mono h fs hx.1, uptoL_mono h cs hx.2⟩
  | .tup cs, hx => uptoL_mono h cs hx
theorem uptoL_mono {n m : Nat} (h : n ≤ m) : ∀ l : List AVal, uptoL n l → uptoL m l
  | [], _ => trivial
  | x :: r, hx => ⟨AVal.upto_mono h x hx.1, uptoL_mono h r hx.2⟩
theorem uptoE_mono {n m : Nat} (h : n ≤ m) : ∀ l : List (Value × AVal), uptoE n l → uptoE m l
  | [], _ => trivial
  | (k, x) :: r, hx => ⟨AVal.upto_mono h x hx.1, uptoE_mono h r hx.2⟩
end
theorem AObj.upto_mono {n m : Nat} (h : n ≤ m) {o : AObj} (ho : o.upto n) : o.upto m := by
  cases o with
  | cells cs => exact uptoL_mono h cs ho
  | map kt es => exact uptoE_mono h es ho
  | _ => trivial
theorem sub_self (O : List AObj) (x : AVal) : Sub O x x = True := by simp [Sub.refl]
theorem Sub.int {O : List AObj} {k : IntKind} {a b : Int} (h : a = b) : Sub O (.v (.int k a)) (.v (.int k b)) := .of_eq (by rw [h])
theorem Sub.lst {O : List AObj} {sz : Nat} {xs ys : List AVal} {o : Own} (h : xs = ys) : Sub O (.lst sz xs o) (.lst sz ys o) := .of_eq (by rw [h])
theorem later_intro {p : Unit → Prop} {t : Tag p} (h : p ()) : Later p t := h
theorem cells_v (x : Value) : AVal.cells (.v x) = [.v x] := rfl
theorem flat_v (x : Value) : AVal.flat (.v x) = True := rfl
theorem share_v (x : Value) : AVal.share (.v x) = .v x := rfl
theorem shareCell_v (x : Value) : AVal.shareCell (.v x) = .v x := rfl
theorem cells_lst (sz : Nat) (xs : List AVal) (o : Own) : AVal.cells (.lst sz xs o) = [.lst sz xs o] := rfl
theorem flat_lst (sz : Nat) (xs : List AVal) (o : Own) : AVal.flat (.lst sz xs o) = True := rfl
theorem share_lst (sz : Nat) (xs : List AVal) (o : Own) : AVal.share (.lst sz xs o) = .lst sz xs .sh := rfl
theorem shareCell_lst (sz : Nat) (xs : List AVal) (o : Own) : AVal.shareCell (.lst sz xs o) = .lst sz xs .sh := rfl
theorem cells_ip (oa : Option Addr) (cs : List AVal) : AVal.cells (.ip oa cs) = [.ip oa cs] := rfl
theorem flat_ip (oa : Option Addr) (cs : List AVal) : AVal.flat (.ip oa cs) = True := rfl
theorem share_ip (oa : Option Addr) (cs : List AVal) : AVal.share (.ip oa cs) = .ip oa cs := rfl
theorem shareCell_ip (oa : Option Addr) (cs : List AVal) : AVal.shareCell (.ip oa cs) = .ip oa cs := rfl
theorem cells_mp (id off : Nat) : AVal.cells (.mp id off) = [.mp id off] := rfl
theorem flat_mp (id off : Nat) : AVal.flat (.mp id off) = True := rfl
theorem share_mp (id off : Nat) : AVal.share (.mp id off) = .mp id off := rfl
theorem shareCell_mp (id off : Nat) : AVal.shareCell (.mp id off) = .mp id off := rfl
theorem cells_raw (sz n id : Nat) : AVal.cells (.raw sz n id) = [.raw sz n id] := rfl
theorem flat_raw (sz n id : Nat) : AVal.flat (.raw sz n id) = True := rfl
theorem share_raw (sz n id : Nat) : AVal.share (.raw sz n id) = .raw sz n id := rfl
theorem shareCell_raw (sz n id : Nat) : AVal.shareCell (.raw sz n id) = .raw sz n id := rfl
theorem cells_ms (id off len cap : Nat) : AVal.cells (.ms id off len cap) = [.ms id off len cap] := rfl
theorem flat_ms (id off len cap : Nat) : AVal.flat (.ms id off len cap) = True := rfl
theorem share_ms (id off len cap : Nat) : AVal.share (.ms id off len cap) = .ms id off len cap := rfl
theorem shareCell_ms (id off len cap : Nat) : AVal.shareCell (.ms id off len cap) = .ms id off len cap := rfl
theorem cells_mm (id : Nat) : AVal.cells (.mm id) = [.mm id] := rfl
theorem flat_mm (id : Nat) : AVal.flat (.mm id) = True := rfl
theorem share_mm (id : Nat) : AVal.share (.mm id) = .mm id := rfl
theorem shareCell_mm (id : Nat) : AVal.shareCell (.mm id) = .mm id := rfl
theorem cells_im (kt : KT) (es : List (Value × AVal)) : AVal.cells (.im kt es) = [.im kt es] := rfl
theorem flat_im (kt : KT) (es : List (Value × AVal)) : AVal.flat (.im kt es) = True := rfl
theorem share_im (kt : KT) (es : List (Value × AVal)) : AVal.share (.im kt es) = .im kt es := rfl
theorem shareCell_im (kt : KT) (es : List (Value × AVal)) : AVal.shareCell (.im kt es) = .im kt es := rfl
theorem cells_fn (f : Fn) (fs cs : List AVal) : AVal.cells (.fn f fs cs) = [.fn f fs cs] := rfl
theorem flat_fn (f : Fn) (fs cs : List AVal) : AVal.flat (.fn f fs cs) = True := rfl
theorem share_fn (f : Fn) (fs cs : List AVal) : AVal.share (.fn f fs cs) = .fn f fs cs := rfl
theorem shareCell_fn (f : Fn) (fs cs : List AVal) : AVal.shareCell (.fn f fs cs) = .fn f fs cs := rfl
theorem cells_agg (cs : List AVal) : AVal.cells (.agg cs) = cs := rfl
theorem flat_agg (cs : List AVal) : AVal.flat (.agg cs) = True := rfl
theorem share_agg (cs : List AVal) : AVal.share (.agg cs) = .agg (cs.map AVal.shareCell) := rfl
theorem share_tup (cs : List AVal) : AVal.share (.tup cs) = .tup cs := rfl
end Go.Av
end
namespace Go.Av
def vpre := And.intro @vcOps.eq_1 <|
  And.intro @vcOps.eq_2 <|
  And.intro @vcOp.eq_1 <|
  And.intro @vcMove.eq_1 <|
  And.intro @on_some <|
  And.intro @draws_false <|
  And.intro @draws_true <|
  And.intro @vcIf_true <|
  And.intro @vcIf_false <|
  And.intro @vcPick.eq_1 <|
  And.intro @vcFieldAddr.eq_1 <|
  And.intro @vcField.eq_1 <|
  And.intro @vcLoad.eq_1 <|
  And.intro @vcStore.eq_1 <|
  And.intro @vcIndexAddr.eq_1 <|
  And.intro @vcBin.eq_1 <|
  And.intro @vcBin.eq_2 <|
  And.intro @vcBin.eq_3 <|
  And.intro @vcBin.eq_4 <|
  And.intro @vcBin.eq_5 <|
  And.intro @vcBin.eq_6 <|
  And.intro @vcBin.eq_7 <|
  And.intro @vcPtr.eq_1 <|
  And.intro @ptrA.eq_1 <|
  And.intro @ptrA.eq_2 <|
  And.intro @ptrA.eq_3 <|
  And.intro @vcInt.eq_1 <|
  And.intro @vcUn.eq_1 <|
  And.intro @vcUn.eq_2 <|
  And.intro @vcUn.eq_3 <|
  And.intro @bnd.eq_1 <|
  And.intro @bnd.eq_2 <|
  And.intro @vcSlice.eq_1 <|
  And.intro @vcCut.eq_1 <|
  And.intro @vcCut.eq_2 <|
  And.intro @vcBuild.eq_1 <|
  And.intro @vcBuildSlice.eq_1 <|
  And.intro @vcMakeSlice.eq_1 <|
  And.intro @vcLookup.eq_1 <|
  And.intro @vcMapUpdate.eq_1 <|
  And.intro @vcMakeMap.eq_1 <|
  And.intro @vcLen.eq_1 <|
  And.intro @vcAppend.eq_1 <|
  And.intro @vcNil.eq_1 <|
  And.intro @vcCap.eq_1 <|
  And.intro @vcClear.eq_1 <|
  And.intro @vcCall.eq_1 <|
  And.intro @vcCall.eq_2 <|
  And.intro @vcCallOp.eq_1 <|
  And.intro @vcCallOp.eq_2 <|
  And.intro @vcCallOp.eq_3 <|
  And.intro @vcCallOp.eq_4 <|
  And.intro @vcCallOp.eq_5 <|
  And.intro @vcCallOp.eq_6 <|
  And.intro @vcCallOp.eq_7 <|
  And.intro @vcCallOp.eq_8 <|
  And.intro @vcCallOp.eq_9 <|
  And.intro @vcCallOp.eq_10 <|
  And.intro @vcCallOp.eq_11 <|
  And.intro @vcCallOp.eq_12 <|
  And.intro @vcCallOp.eq_13 <|
  And.intro @vcCallOp.eq_14 <|
  And.intro @vcTop.eq_1 <|
  And.intro @vcLow.eq_1 <|
  And.intro @vcNilCheck.eq_1 <|
  And.intro @vcNilCheck.eq_2 <|
  @vcNilCheck.eq_3
def vpos := And.intro @nxt_mk <|
  And.intro @ownAt.eq_1 <|
  And.intro @ownAt.eq_2 <|
  And.intro @ownAt.eq_3 <|
  And.intro @ownAt.eq_4 <|
  And.intro @ownAt.eq_5 <|
  And.intro @cmpAddr.eq_1 <|
  And.intro @cmpAddr.eq_2 <|
  And.intro @isNil.eq_1 <|
  And.intro @isNil.eq_2 <|
  And.intro @St.ev.eq_1 <|
  And.intro @St.ev.eq_2 <|
  And.intro @St.ev.eq_3 <|
  And.intro @St.ev.eq_4 <|
  And.intro @St.get.eq_1 <|
  And.intro @slotAt.eq_1 <|
  And.intro @slotAt.eq_2 <|
  And.intro @addSlot.eq_1 <|
  And.intro @addSlot.eq_2 <|
  And.intro @look.eq_1 <|
  And.intro @look.eq_2 <|
  And.intro @slotsOf.eq_1 <|
  And.intro @slotsOf.eq_2 <|
  And.intro @dstOK.eq_1 <|
  And.intro @dstOK.eq_2 <|
  And.intro @putO.eq_1 <|
  And.intro @putO.eq_2 <|
  And.intro @putS.eq_1 <|
  And.intro @dropS.eq_1 <|
  And.intro @dropS.eq_2 <|
  And.intro @dropO.eq_1 <|
  And.intro @dropO.eq_2 <|
  And.intro @Mode.post.eq_1 <|
  And.intro @Mode.post.eq_2 <|
  And.intro @Mode.post.eq_3 <|
  And.intro @Mode.post.eq_4 <|
  And.intro @Mode.kind.eq_1 <|
  And.intro @Mode.kind.eq_2 <|
  And.intro @Mode.kind.eq_3 <|
  And.intro @Mode.kind.eq_4 <|
  And.intro @Mode.kind.eq_5 <|
  And.intro @Mode.kind.eq_6 <|
  And.intro @cells_v <|
  And.intro @flat_v <|
  And.intro @share_v <|
  And.intro @shareCell_v <|
  And.intro @cells_lst <|
  And.intro @flat_lst <|
  And.intro @share_lst <|
  And.intro @shareCell_lst <|
  And.intro @cells_ip <|
  And.intro @flat_ip <|
  And.intro @share_ip <|
  And.intro @shareCell_ip <|
  And.intro @cells_mp <|
  And.intro @flat_mp <|
  And.intro @share_mp <|
  And.intro @shareCell_mp <|
  And.intro @cells_raw <|
  And.intro @flat_raw <|
  And.intro @share_raw <|
  And.intro @shareCell_raw <|
  And.intro @cells_ms <|
  And.intro @flat_ms <|
  And.intro @share_ms <|
  And.intro @shareCell_ms <|
  And.intro @cells_mm <|
  And.intro @flat_mm <|
  And.intro @share_mm <|
  And.intro @shareCell_mm <|
  And.intro @cells_im <|
  And.intro @flat_im <|
  And.intro @share_im <|
  And.intro @shareCell_im <|
  And.intro @cells_fn <|
  And.intro @flat_fn <|
  And.intro @share_fn <|
  And.intro @shareCell_fn <|
  And.intro @cells_agg <|
  And.intro @flat_agg <|
  And.intro @share_agg <|
  And.intro @share_tup <|
  And.intro @aconst.eq_1 <|
  And.intro @aconst.eq_2 <|
  And.intro @aconst.eq_3 <|
  And.intro @aconst.eq_4 <|
  And.intro @cmpInt.eq_1 <|
  And.intro @cmpInt.eq_2 <|
  And.intro @cmpInt.eq_3 <|
  And.intro @cmpInt.eq_4 <|
  And.intro @cmpInt.eq_5 <|
  And.intro @cmpInt.eq_6 <|
  And.intro @cmpInt.eq_7 <|
  And.intro @arithInt.eq_1 <|
  And.intro @arithInt.eq_2 <|
  And.intro @arithInt.eq_3 <|
  And.intro @arithInt.eq_4 <|
  And.intro @arithInt.eq_5 <|
  And.intro @arithInt.eq_6 <|
  And.intro @arithInt.eq_7 <|
  And.intro @arithInt.eq_8 <|
  And.intro @arithInt.eq_9 <|
  And.intro @shiftInt.eq_1 <|
  And.intro @isShift.eq_1 <|
  And.intro @isShift.eq_2 <|
  And.intro @isShift.eq_3 <|
  And.intro @isShift.eq_4 <|
  And.intro @isShift.eq_5 <|
  And.intro @isShift.eq_6 <|
  And.intro @isShift.eq_7 <|
  And.intro @isShift.eq_8 <|
  And.intro @isShift.eq_9 <|
  And.intro @isShift.eq_10 <|
  And.intro @isShift.eq_11 <|
  And.intro @isShift.eq_12 <|
  And.intro @isShift.eq_13 <|
  And.intro @isShift.eq_14 <|
  And.intro @isShift.eq_15 <|
  And.intro @isShift.eq_16 <|
  And.intro @isShift.eq_17 <|
  And.intro @cmpStr.eq_1 <|
  And.intro @cmpStr.eq_2 <|
  And.intro @cmpStr.eq_3 <|
  And.intro @cmpBool.eq_1 <|
  And.intro @cmpBool.eq_2 <|
  And.intro @cmpBool.eq_3 <|
  And.intro @Bool.and_true <|
  And.intro @Bool.true_and <|
  And.intro @Bool.and_false <|
  And.intro @Bool.false_and <|
  And.intro @Bool.and_self <|
  And.intro @nilA.eq_1 <|
  And.intro @nilA.eq_2 <|
  And.intro @nilA.eq_3 <|
  And.intro @nilA.eq_4 <|
  And.intro @nilTest.eq_1 <|
  And.intro @nilTest.eq_2 <|
  And.intro @nilTest.eq_3 <|
  And.intro @capA.eq_1 <|
  And.intro @capA.eq_2 <|
  And.intro @St.evs.eq_1 <|
  And.intro @St.evs.eq_2 <|
  And.intro @St.evParts.eq_1 <|
  And.intro @St.evParts.eq_2 <|
  And.intro @allFlat.eq_1 <|
  And.intro @allFlat.eq_2 <|
  And.intro @allSize.eq_1 <|
  And.intro @allSize.eq_2 <|
  And.intro @fillA.eq_1 <|
  And.intro @fillA.eq_2 <|
  And.intro @splice_nil <|
  And.intro @splice_head <|
  And.intro @splice_succ <|
  And.intro @seqParts.eq_1 <|
  And.intro @seqParts.eq_2 <|
  And.intro @placesOf.eq_1 <|
  And.intro @placesOf.eq_2 <|
  And.intro @TD.agg.eq_1 <|
  And.intro @TD.agg.eq_2 <|
  And.intro @TD.agg.eq_3 <|
  And.intro @TD.elem.eq_1 <|
  And.intro @TD.elem.eq_2 <|
  And.intro @lenA.eq_1 <|
  And.intro @lenA.eq_2 <|
  And.intro @lenA.eq_3 <|
  And.intro @lookRes.eq_1 <|
  And.intro @zeroOf.eq_1 <|
  And.intro @loK.eq_1 <|
  And.intro @loK.eq_2 <|
  And.intro @loK.eq_3 <|
  And.intro @loK.eq_4 <|
  And.intro @loK.eq_5 <|
  And.intro @hiK.eq_1 <|
  And.intro @hiK.eq_2 <|
  And.intro @hiK.eq_3 <|
  And.intro @hiK.eq_4 <|
  And.intro @hiK.eq_5 <|
  And.intro @hiK.eq_6 <|
  And.intro @hiK.eq_7 <|
  And.intro @hiK.eq_8 <|
  And.intro @and_self <|
  And.intro @true_and <|
  And.intro @and_true <|
  And.intro @not_false_eq_true <|
  And.intro @List.nil_append.{0} <|
  And.intro @List.cons_append.{0} <|
  And.intro @List.append_nil.{0} <|
  And.intro @List.length_nil.{0} <|
  And.intro @List.length_cons.{0} <|
  And.intro @List.getElem?_cons_zero.{0} <|
  And.intro @List.getElem?_cons_succ.{0} <|
  And.intro @List.getElem?_nil.{0} <|
  And.intro @List.take_succ_cons.{0} <|
  And.intro @List.take_zero.{0} <|
  And.intro @List.take_nil.{0} <|
  And.intro @List.drop_succ_cons.{0} <|
  And.intro @List.drop_zero.{0} <|
  And.intro @List.drop_nil.{0} <|
  And.intro @List.set_cons_zero.{0} <|
  And.intro @List.set_cons_succ.{0} <|
  And.intro @List.map_cons.{0,0} <|
  And.intro @List.map_nil.{0,0} <|
  And.intro @Option.map_none.{0,0} <|
  And.intro @Option.map_some.{0,0} <|
  And.intro @Option.isSome_some.{0} <|
  And.intro @Option.isSome_none.{0} <|
  And.intro @Option.bind_some.{0,0} <|
  And.intro @Bool.false_eq_true <|
  And.intro @Bool.not_true <|
  And.intro @Bool.not_false <|
  And.intro @beq_self_eq_true.{0} <|
  And.intro @List.getElem?_toArray.{0} <|
  And.intro @Nat.zero_add <|
  And.intro @Nat.add_zero <|
  And.intro @decide_true <|
  And.intro @decide_false <|
  And.intro @beq_true <|
  And.intro @beq_false <|
  And.intro @Bool.true_beq <|
  And.intro @Bool.false_beq <|
  And.intro @Bool.not_not <|
  And.intro @decide_eq_true_eq <|
  And.intro @decide_eq_false_iff_not <|
  And.intro @Bool.not_eq_true' <|
  And.intro @Bool.not_eq_false' <|
  And.intro @Bool.not_eq_true <|
  And.intro @Bool.not_eq_false <|
  And.intro @Int.toNat_natCast <|
  And.intro @Int.natCast_zero <|
  And.intro @Int.sub_zero <|
  And.intro @Int.add_zero <|
  And.intro @Int.zero_add <|
  And.intro @Int.toNat_zero <|
  And.intro @List.getElem?_map.{0,0} <|
  And.intro @Int.natCast_nonneg <|
  And.intro @List.length_map.{0,0} <|
  And.intro @List.not_mem_nil.{0} <|
  And.intro @false_implies <|
  And.intro @List.length_append.{0} <|
  And.intro @or_false <|
  And.intro @or_true <|
  And.intro @true_or <|
  And.intro @false_or <|
  And.intro @or_self <|
  And.intro @snoc_get <|
  And.intro @snoc_set <|
  And.intro @take_len_map <|
  @Nat.le_refl
def vend := And.intro @seqPost_norm <|
  And.intro @seqPost_exit <|
  And.intro @seqPost_ret <|
  And.intro @blockPost_norm <|
  And.intro @blockPost_ret <|
  And.intro @blockPost_self <|
  And.intro @blockPost_other <|
  And.intro @loopPost_norm <|
  And.intro @loopPost_ret <|
  And.intro @loopPost_exit <|
  @not_false_eq_true
def G.cut (g : G) (n : Nat) : G := ⟨g.w, fun b off => g.fr b off ∨ ∃ (id : Nat) (l : Loc) (o : AObj), n ≤ id ∧ g.env[id]? = some (some l) ∧ g.objs[id]? = some o ∧ o.live ∧ l.block = b ∧ l.lo ≤ off, g.env.take n, g.objs.take n⟩
theorem take_iff {α : Type} {l : List α} {n i : Nat} {x : α} : (l.take n)[i]? = some x ↔ i < n ∧ l[i]? = some x := by
  rw [List.getElem?_take]
  split
  · rename_i h; simp [h]
  rename_i h; simp [h]
theorem cut_own {g : G} {n b off : Nat} : OwnC (g.cut n) b off ↔ OwnC g b off := by
  constructor
  · rintro ((h | ⟨id, l, o, _, h1, h2, h3, h4, h5⟩) | ⟨id, l, o, h1, h2, h3, h4, h5⟩)
    · exact .inl h
    · exact .inr ⟨id, l, o, h1, h2, h3, h4, h5⟩
    exact .inr ⟨id, l, o, (take_iff.1 h1).2, (take_iff.1 h2).2, h3, h4, h5⟩
  rintro (h | ⟨id, l, o, h1, h2, h3, h4, h5⟩)
  · exact .inl (.inl h)
  rcases Nat.lt_or_ge id n with hlt | hge
  · exact .inr ⟨id, l, o, take_iff.2 ⟨hlt, h1⟩, take_iff.2 ⟨hlt, h2⟩, h3, h4, h5⟩
  exact .inl (.inr ⟨id, l, o, hge, h1, h2, h3, h4, h5⟩)
theorem RV.cut {g : G} {n : Nat} (hn0 : n ≤ g.objs.length) {x : AVal} {u : Value} (h : RV g x u) (hb : x.upto n) : RV (g.cut n) x u := by
  induction h with
  | v hx => exact .v hx
  | agg hl hsc _ ih =>
    simp only [AVal.upto, uptoL_iff] at hb
    exact .agg hl hsc fun i c u a b => ih i c u a b (hb c (List.mem_of_getElem? a))
  | nil ho hnn =>
    simp only [AVal.upto] at hb
    refine .nil (fun id e => ?_) hnn
    subst e
    have := hb.2
    simp only at this
    simp only [G.cut, List.length_take]
    omega
  | lst hsz hsc hcap hmax hs f hm hr ho ih =>
    rename_i sz xs o a cap
    simp only [AVal.upto, uptoL_iff] at hb
    refine .lst hsz hsc hcap hmax hs f (fun j c hj => ⟨(hm j c hj).1, fun q => (hm j c hj).2 (cut_own.1 q)⟩) (fun j c hj => ih j c hj ?_) ?_
    · have hc := List.mem_of_getElem? hj
      simp only [cellsAll, List.mem_flatMap] at hc
      obtain ⟨x, hx, hc⟩ := hc
      have := hb.1 x hx
      cases x with
      | agg cs =>
        simp only [AVal.upto, uptoL_iff] at this
        exact this c hc
      | _ => simp only [AVal.cells, List.mem_singleton] at hc; subst hc; exact this
    cases o with
    | sh => trivial
    | nn => trivial
    | ex => exact ho
    | loc a => exact ho
    | tok id =>
      have hid := hb.2
      simp only at hid
      refine ⟨by simp only [G.cut, List.length_take]; omega, fun m hm' => ?_⟩
      obtain ⟨h1, h2⟩ := ho.2 m (take_iff.1 hm').2
      refine ⟨h1, fun e => ?_⟩
      rcases h2 e with q | ⟨l, arr, t, q1, q2⟩
      · exact .inl q
      exact .inr ⟨l, arr, t, take_iff.2 ⟨hid, q1⟩, q2⟩
  | ip ha hsc f hm hr ih =>
    simp only [AVal.upto, uptoL_iff] at hb
    exact .ip ha hsc f (fun j c hj => ⟨(hm j c hj).1, fun q => (hm j c hj).2 (cut_own.1 q)⟩) fun j c hj => ih j c hj (hb c (List.mem_of_getElem? hj))
  | mp he ho hn' =>
    simp only [AVal.upto] at hb
    exact .mp (take_iff.2 ⟨hb, he⟩) (take_iff.2 ⟨hb, ho⟩) hn'
  | ms he ho hn' hc hc' hmax =>
    simp only [AVal.upto] at hb
    exact .ms (take_iff.2 ⟨hb, he⟩) (take_iff.2 ⟨hb, ho⟩) hn' hc hc' hmax
  | os he ho hn' hc hc' hmax =>
    simp only [AVal.upto] at hb
    exact .os (take_iff.2 ⟨hb, he⟩) (take_iff.2 ⟨hb, ho⟩) hn' hc hc' hmax
  | raw hnn ho =>
    rename_i sz n0 id a cap
    have hid : id < n := hb
    refine .raw hnn ⟨by simp only [G.cut, List.length_take]; omega, fun m hm' => ?_⟩
    obtain ⟨h1, h2⟩ := ho.2 m (take_iff.1 hm').2
    refine ⟨h1, fun e => ?_⟩
    rcases h2 e with q | ⟨l, arr, t, q1, q2⟩
    · exact .inl q
    exact .inr ⟨l, arr, t, take_iff.2 ⟨hid, q1⟩, q2⟩
  | mm he ho hn' =>
    simp only [AVal.upto] at hb
    exact .mm (take_iff.2 ⟨hb, he⟩) (take_iff.2 ⟨hb, ho⟩) hn'
  | im hh hn' hl hk hkt _ ih =>
    simp only [AVal.upto, uptoE_iff] at hb
    exact .im hh (fun off q => hn' off (cut_own.1 q)) hl hk hkt fun i e kx a b => ih i e kx a b (hb kx (List.mem_of_getElem? b))
  | fn hl hl' _ _ ih ih' =>
    simp only [AVal.upto, uptoL_iff] at hb
    exact .fn hl hl' (fun i c u a b => ih i c u a b (hb.1 c (List.mem_of_getElem? a))) fun i c u a b => ih' i c u a b (hb.2 c (List.mem_of_getElem? a))
  | tup hl _ ih =>
    simp only [AVal.upto, uptoL_iff] at hb
    exact .tup hl fun i c u a b => ih i c u a b (hb c (List.mem_of_getElem? a))
theorem Good.cut {g : G} (hg : Good g) {n : Nat} (hn : n ≤ g.objs.length) (hb : ∀ o ∈ g.objs.take n, o.upto n) : Good (g.cut n) where
  frlt := fun b off h => by
    rcases h with h | ⟨id, l, o, _, h1, h2, h3, h4, _⟩
    · exact hg.frlt b off h
    exact h4 ▸ hg.loc id l o h1 h2 h3
  frown := fun id l o h1 h2 h3 off h => by
    obtain ⟨q1, h1⟩ := take_iff.1 h1
    obtain ⟨_, h2⟩ := take_iff.1 h2
    rcases h with h | ⟨id', l', o', k0, k1, k2, k3, k4, _⟩
    · exact hg.frown id l o h1 h2 h3 off h
    have := hg.apart id id' l l' o o' h1 h2 h3 k1 k2 k3 k4.symm
    omega
  len := by simp [G.cut, hg.len]
  loc := fun id l o h1 h2 h3 => hg.loc id l o (take_iff.1 h1).2 (take_iff.1 h2).2 h3
  apart := fun id id' l l' o o' h1 h2 h3 k1 k2 k3 => hg.apart id id' l l' o o' (take_iff.1 h1).2 (take_iff.1 h2).2 h3 (take_iff.1 k1).2 (take_iff.1 k2).2 k3
  cells := fun id cs h1 => by
    have hb' := hb _ (List.mem_of_getElem? h1)
    obtain ⟨q, h1⟩ := take_iff.1 h1
    obtain ⟨l, arr, t, e1, e0, e2, e3, e4, e5⟩ := hg.cells id cs h1
    simp only [AObj.upto, uptoL_iff] at hb'
    exact ⟨l, arr, t, take_iff.2 ⟨q, e1⟩, e0, e2, e3, fun j c u a b => (e4 j c u a b).cut hn (hb' c (List.mem_of_getElem? a)), e5⟩
  spare := fun id m l h1 h2 => hg.spare id m l (take_iff.1 h1).2 (take_iff.1 h2).2
  map := fun id kt es h1 => by
    have hb' := hb _ (List.mem_of_getElem? h1)
    obtain ⟨q, h1⟩ := take_iff.1 h1
    obtain ⟨l, arr, clk, e1, e0, e2, e3, e6, e4⟩ := hg.map id kt es h1
    simp only [AObj.upto, uptoE_iff] at hb'
    exact ⟨l, arr, clk, take_iff.2 ⟨q, e1⟩, e0, e2, e3, e6, fun i e kx a b => ⟨(e4 i e kx a b).1, (e4 i e kx a b).2.1, (e4 i e kx a b).2.2.cut hn (hb' kx (List.mem_of_getElem? b))⟩⟩
def G.rejoin (g : G) (n : Nat) (g' : G) : G := ⟨g'.w, g.fr, g'.env ++ g.env.drop n, g'.objs ++ g.objs.drop n⟩
theorem rejoin_some {α : Type} {a l : List α} {n i : Nat} {x : α} (ha : a.length = n) : (a ++ l.drop n)[i]? = some x ↔ (i < n ∧ a[i]? = some x) ∨ (n ≤ i ∧ l[i]? = some x) := by
  rw [List.getElem?_append]
  split
  · rename_i h
    constructor
    · intro e; exact .inl ⟨by omega, e⟩
    rintro (⟨_, e⟩ | ⟨q, _⟩)
    · exact e
    omega
  rename_i h
  rw [List.getElem?_drop, show n + (i - a.length) = i by omega]
  constructor
  · intro e; exact .inr ⟨by omega, e⟩
  rintro (⟨q, _⟩ | ⟨_, e⟩)
  · omega
  exact e
structure Cuts (g : G) (n : Nat) (g' : G) : Prop where
  good : Good g
  le : Le (g.cut n) g'
  good' : Good g'
  lt : n ≤ g.objs.length
  same : g'.objs.length = n
theorem Cuts.env {g g' : G} {n : Nat} (h : Cuts g n g') : g'.env.length = n := h.good'.len.trans h.same
theorem Cuts.ownB {g g' : G} {n b : Nat} (h : Cuts g n g') (hn : OwnLB (g.rejoin n g') b) : OwnLB g' b ∨ ∃ (id : Nat) (l : Loc) (o : AObj), n ≤ id ∧ g.env[id]? = some (some l) ∧ g.objs[id]? = some o ∧ o.live ∧ l.block = b := by
  obtain ⟨id, l, o, h1, h2, h3, h4⟩ := hn
  rcases (rejoin_some h.env).1 h1 with ⟨q1, h1⟩ | ⟨q1, h1⟩
  · rcases (rejoin_some h.same).1 h2 with ⟨q2, h2⟩ | ⟨q2, h2⟩
    · exact .inl ⟨id, l, o, h1, h2, h3, h4⟩
    omega
  rcases (rejoin_some h.same).1 h2 with ⟨q2, h2⟩ | ⟨q2, h2⟩
  · omega
  exact .inr ⟨id, l, o, q1, h1, h2, h3, h4⟩
theorem Cuts.own {g g' : G} {n b off : Nat} (h : Cuts g n g') : OwnC (g.rejoin n g') b off → OwnC g' b off := by
  rintro (hf | ⟨id, l, o, h1, h2, h3, h4, h5⟩)
  · refine .inl ?_
    rw [h.le.fr]
    exact .inl hf
  rcases (rejoin_some h.env).1 h1 with ⟨q1, h1⟩ | ⟨q1, h1⟩
  · rcases (rejoin_some h.same).1 h2 with ⟨q2, h2⟩ | ⟨q2, h2⟩
    · exact .inr ⟨id, l, o, h1, h2, h3, h4, h5⟩
    omega
  rcases (rejoin_some h.same).1 h2 with ⟨q2, h2⟩ | ⟨q2, h2⟩
  · omega
  refine .inl ?_
  rw [h.le.fr]
  exact .inr ⟨id, l, o, q1, h1, h2, h3, h4, h5⟩
theorem cut_ownB {g : G} {n b : Nat} (h : OwnLB (g.cut n) b) : OwnLB g b := by
  obtain ⟨id, l, o, h1, h2, h3, h4⟩ := h
  exact ⟨id, l, o, (take_iff.1 h1).2, (take_iff.1 h2).2, h3, h4⟩
theorem cut_ownL {g : G} {n b off : Nat} (h : OwnL (g.cut n) b off) : OwnL g b off := by
  obtain ⟨id, l, o, h1, h2, h3, h4, h5⟩ := h
  exact ⟨id, l, o, (take_iff.1 h1).2, (take_iff.1 h2).2, h3, h4, h5⟩
theorem Cuts.block {g g' : G} {n : Nat} (h : Cuts g n g') {id : Nat} {l : Loc} {o : AObj} (hid : n ≤ id) (h1 : g.env[id]? = some (some l)) (h2 : g.objs[id]? = some o) (h3 : o.live) : g'.w.heap[l.block]? = g.w.heap[l.block]? := by
  refine (h.le.block l.block (h.good.loc id l o h1 h2 h3) ?_).1
  rintro ⟨id', l', o', k1, k2, k3, k4⟩
  obtain ⟨q, k1⟩ := take_iff.1 k1
  have := h.good.apart id' id l' l o' o k1 (take_iff.1 k2).2 k3 h1 h2 h3 k4
  omega
theorem Cuts.le' {g g' : G} {n : Nat} (h : Cuts g n g') : Le g (g.rejoin n g') where
  os := h.le.os
  tape := h.le.tape
  output := h.le.output
  fr := rfl
  size := h.le.size
  block := fun k hk hh => by
    obtain ⟨q1, q2⟩ := h.le.block k hk (fun q => hh (cut_ownB q))
    refine ⟨q1, fun q => ?_⟩
    rcases h.ownB q with q | ⟨id, l, o, _, q⟩
    · exact q2 q
    exact hh ⟨id, l, o, q⟩
  cell := fun b off x hx hh => by
    obtain ⟨q1, q2⟩ := h.le.cell b off x hx (fun q => hh (cut_ownL q))
    refine ⟨q1, fun q => ?_⟩
    obtain ⟨id, l, o, h1, h2, h3, h4, h5⟩ := q
    rcases (rejoin_some h.env).1 h1 with ⟨e1, h1⟩ | ⟨e1, h1⟩
    · rcases (rejoin_some h.same).1 h2 with ⟨e2, h2⟩ | ⟨e2, h2⟩
      · exact q2 ⟨id, l, o, h1, h2, h3, h4, h5⟩
      omega
    rcases (rejoin_some h.same).1 h2 with ⟨e2, h2⟩ | ⟨e2, h2⟩
    · omega
    exact hh ⟨id, l, o, h1, h2, h3, h4, h5⟩
  len := by
    simp only [G.rejoin, List.length_append, List.length_drop, h.same]
    omega
  spare := fun id m hm => by
    rcases Nat.lt_or_ge id n with q | q
    · rcases h.le.spare id m (take_iff.2 ⟨q, hm⟩) with ⟨m', k1, k2⟩ | ⟨o', k1, k2⟩
      · exact .inl ⟨m', (rejoin_some h.same).2 (.inl ⟨q, k1⟩), k2⟩
      exact .inr ⟨o', (rejoin_some h.same).2 (.inl ⟨q, k1⟩), k2⟩
    exact .inl ⟨m, (rejoin_some h.same).2 (.inr ⟨q, hm⟩), Nat.le_refl _⟩
  plain := fun id o ho hs => by
    have hlt := lt_of_getElem? ho
    have he : g.env[id]? = some (g.env[id]'(by rw [h.good.len]; exact hlt)) := List.getElem?_eq_getElem _
    rcases Nat.lt_or_ge id n with q | q
    · obtain ⟨⟨o', k1, k2⟩, k3⟩ := h.le.plain id o (take_iff.2 ⟨q, ho⟩) hs
      refine ⟨⟨o', (rejoin_some h.same).2 (.inl ⟨q, k1⟩), k2⟩, ?_⟩
      rw [he]
      refine (rejoin_some h.env).2 (.inl ⟨q, ?_⟩)
      rw [k3]
      exact take_iff.2 ⟨q, he⟩
    refine ⟨⟨o, (rejoin_some h.same).2 (.inr ⟨q, ho⟩), hs⟩, ?_⟩
    rw [he]
    exact (rejoin_some h.env).2 (.inr ⟨q, he⟩)
  gone := fun id ho => by
    rcases Nat.lt_or_ge id n with q | q
    · exact (rejoin_some h.same).2 (.inl ⟨q, h.le.gone id (take_iff.2 ⟨q, ho⟩)⟩)
    exact (rejoin_some h.same).2 (.inr ⟨q, ho⟩)
  tok := fun id m hm hm' => by
    have hlt := lt_of_getElem? hm
    have he : g.env[id]? = some (g.env[id]'(by rw [h.good.len]; exact hlt)) := List.getElem?_eq_getElem _
    rcases (rejoin_some h.same).1 hm' with ⟨q, hm'⟩ | ⟨q, hm'⟩
    · obtain ⟨k1, k2⟩ := h.le.tok id m (take_iff.2 ⟨q, hm⟩) hm'
      refine ⟨?_, fun l hl => k2 l (take_iff.2 ⟨q, hl⟩)⟩
      rw [he]
      refine (rejoin_some h.env).2 (.inl ⟨q, ?_⟩)
      rw [k1]
      exact take_iff.2 ⟨q, he⟩
    refine ⟨?_, fun l hl => h.block q hl hm trivial⟩
    rw [he]
    exact (rejoin_some h.env).2 (.inr ⟨q, he⟩)
theorem RV.rejoin {g g' : G} {n : Nat} (hc : Cuts g n g') {x : AVal} {u : Value} (h : RV g' x u) : RV (g.rejoin n g') x u := by
  have hlt : ∀ {id : Nat} {o : AObj}, g'.objs[id]? = some o → id < n := fun ho => by
    have := lt_of_getElem? ho
    rw [hc.same] at this
    exact this
  induction h with
  | v hx => exact .v hx
  | agg hl hsc _ ih => exact .agg hl hsc ih
  | nil ho hnn =>
    refine .nil (fun id e => ?_) hnn
    have := ho id e
    simp only [G.rejoin, List.length_append]
    omega
  | lst hsz hsc hcap hmax hs f hm hr ho ih =>
    rename_i sz xs o a cap
    refine .lst hsz hsc hcap hmax hs f (fun j c hj => ⟨(hm j c hj).1, fun q => (hm j c hj).2 (hc.own q)⟩) ih ?_
    cases o with
    | sh => trivial
    | nn => trivial
    | ex => exact ho
    | loc a => exact ho
    | tok id =>
      have hid := ho.1
      rw [hc.same] at hid
      refine ⟨by simp only [G.rejoin, List.length_append, hc.same]; omega, fun m hm' => ?_⟩
      rcases (rejoin_some hc.same).1 hm' with ⟨q, hm'⟩ | ⟨q, _⟩
      · obtain ⟨h1, h2⟩ := ho.2 m hm'
        refine ⟨h1, fun e => ?_⟩
        rcases h2 e with k | ⟨l, arr, t, k1, k2⟩
        · exact .inl k
        exact .inr ⟨l, arr, t, (rejoin_some hc.env).2 (.inl ⟨q, k1⟩), k2⟩
      omega
  | ip ha hsc f hm hr ih => exact .ip ha hsc f (fun j c hj => ⟨(hm j c hj).1, fun q => (hm j c hj).2 (hc.own q)⟩) ih
  | mp he ho hn' => exact .mp ((rejoin_some hc.env).2 (.inl ⟨hlt ho, he⟩)) ((rejoin_some hc.same).2 (.inl ⟨hlt ho, ho⟩)) hn'
  | ms he ho hn' hc1 hc' hmax => exact .ms ((rejoin_some hc.env).2 (.inl ⟨hlt ho, he⟩)) ((rejoin_some hc.same).2 (.inl ⟨hlt ho, ho⟩)) hn' hc1 hc' hmax
  | os he ho hn' hc1 hc' hmax => exact .os ((rejoin_some hc.env).2 (.inl ⟨hlt ho, he⟩)) ((rejoin_some hc.same).2 (.inl ⟨hlt ho, ho⟩)) hn' hc1 hc' hmax
  | raw hnn ho =>
    rename_i sz n0 id a cap
    have hid := ho.1
    rw [hc.same] at hid
    refine .raw hnn ⟨by simp only [G.rejoin, List.length_append, hc.same]; omega, fun m hm' => ?_⟩
    rcases (rejoin_some hc.same).1 hm' with ⟨q, hm'⟩ | ⟨q, _⟩
    · obtain ⟨h1, h2⟩ := ho.2 m hm'
      refine ⟨h1, fun e => ?_⟩
      rcases h2 e with k | ⟨l, arr, t, k1, k2⟩
      · exact .inl k
      exact .inr ⟨l, arr, t, (rejoin_some hc.env).2 (.inl ⟨q, k1⟩), k2⟩
    omega
  | mm he ho hn' => exact .mm ((rejoin_some hc.env).2 (.inl ⟨hlt ho, he⟩)) ((rejoin_some hc.same).2 (.inl ⟨hlt ho, ho⟩)) hn'
  | im hh hn' hl hk hkt _ ih => exact .im hh (fun off q => hn' off (hc.own q)) hl hk hkt ih
  | fn hl hl' _ _ ih ih' => exact .fn hl hl' ih ih'
  | tup hl _ ih => exact .tup hl ih
theorem Cuts.good'' {g g' : G} {n : Nat} (h : Cuts g n g') : Good (g.rejoin n g') where
  frlt := fun b off hf => Nat.lt_of_lt_of_le (h.good.frlt b off hf) h.le.size
  frown := fun id l o h1 h2 h3 off hf => by
    rcases (rejoin_some h.env).1 h1 with ⟨q, h1⟩ | ⟨q, h1⟩
    · rcases (rejoin_some h.same).1 h2 with ⟨_, h2⟩ | ⟨q2, _⟩
      · refine h.good'.frown id l o h1 h2 h3 off ?_
        rw [h.le.fr]
        exact .inl hf
      omega
    rcases (rejoin_some h.same).1 h2 with ⟨q2, _⟩ | ⟨_, h2⟩
    · omega
    exact h.good.frown id l o h1 h2 h3 off hf
  len := by simp [G.rejoin, h.env, h.same, h.good.len]
  loc := fun id l o h1 h2 h3 => by
    rcases (rejoin_some h.env).1 h1 with ⟨q, h1⟩ | ⟨q, h1⟩
    · rcases (rejoin_some h.same).1 h2 with ⟨_, h2⟩ | ⟨q2, _⟩
      · exact h.good'.loc id l o h1 h2 h3
      omega
    rcases (rejoin_some h.same).1 h2 with ⟨q2, _⟩ | ⟨_, h2⟩
    · omega
    exact Nat.lt_of_lt_of_le (h.good.loc id l o h1 h2 h3) h.le.size
  apart := fun id id' l l' o o' h1 h2 h3 k1 k2 k3 hbl => by
    have hx : ∀ {i : Nat} {l : Loc} {o : AObj}, (g.rejoin n g').env[i]? = some (some l) → (g.rejoin n g').objs[i]? = some o → (i < n ∧ g'.env[i]? = some (some l) ∧ g'.objs[i]? = some o) ∨ (n ≤ i ∧ g.env[i]? = some (some l) ∧ g.objs[i]? = some o) := by
      intro i l o h1 h2
      rcases (rejoin_some h.env).1 h1 with ⟨q, h1⟩ | ⟨q, h1⟩
      · rcases (rejoin_some h.same).1 h2 with ⟨_, h2⟩ | ⟨q2, _⟩
        · exact .inl ⟨q, h1, h2⟩
        omega
      rcases (rejoin_some h.same).1 h2 with ⟨q2, _⟩ | ⟨_, h2⟩
      · omega
      exact .inr ⟨q, h1, h2⟩
    rcases hx h1 h2 with ⟨q, e1, e2⟩ | ⟨q, e1, e2⟩
    · rcases hx k1 k2 with ⟨q', f1, f2⟩ | ⟨q', f1, f2⟩
      · exact h.good'.apart id id' l l' o o' e1 e2 h3 f1 f2 k3 hbl
      refine absurd ?_ (h.good'.frown id l o e1 e2 h3 l'.lo)
      rw [h.le.fr]
      exact .inr ⟨id', l', o', q', f1, f2, k3, hbl.symm, Nat.le_refl _⟩
    rcases hx k1 k2 with ⟨q', f1, f2⟩ | ⟨q', f1, f2⟩
    · refine absurd ?_ (h.good'.frown id' l' o' f1 f2 k3 l.lo)
      rw [h.le.fr]
      exact .inr ⟨id, l, o, q, e1, e2, h3, hbl, Nat.le_refl _⟩
    exact h.good.apart id id' l l' o o' e1 e2 h3 f1 f2 k3 hbl
  cells := fun id cs h1 => by
    rcases (rejoin_some h.same).1 h1 with ⟨q, h1⟩ | ⟨q, h1⟩
    · obtain ⟨l, arr, t, e1, e0, e2, e3, e4, e5⟩ := h.good'.cells id cs h1
      exact ⟨l, arr, t, (rejoin_some h.env).2 (.inl ⟨q, e1⟩), e0, e2, e3, fun j c u a b => (e4 j c u a b).rejoin h, e5⟩
    obtain ⟨l, arr, t, e1, e0, e2, e3, e4, e5⟩ := h.good.cells id cs h1
    exact ⟨l, arr, t, (rejoin_some h.env).2 (.inr ⟨q, e1⟩), e0, (h.block q e1 h1 trivial).trans e2, e3, fun j c u a b => (e4 j c u a b).mono h.le', e5⟩
  spare := fun id m l h1 h2 => by
    rcases (rejoin_some h.same).1 h1 with ⟨q, h1⟩ | ⟨q, h1⟩
    · rcases (rejoin_some h.env).1 h2 with ⟨_, h2⟩ | ⟨q2, _⟩
      · exact h.good'.spare id m l h1 h2
      omega
    rcases (rejoin_some h.env).1 h2 with ⟨q2, _⟩ | ⟨_, h2⟩
    · omega
    obtain ⟨arr, t, e⟩ := h.good.spare id m l h1 h2
    exact ⟨arr, t, (h.block q h2 h1 trivial).trans e⟩
  map := fun id kt es h1 => by
    rcases (rejoin_some h.same).1 h1 with ⟨q, h1⟩ | ⟨q, h1⟩
    · obtain ⟨l, arr, clk, e1, e0, e2, e3, e6, e4⟩ := h.good'.map id kt es h1
      exact ⟨l, arr, clk, (rejoin_some h.env).2 (.inl ⟨q, e1⟩), e0, e2, e3, e6, fun i e kx a b => ⟨(e4 i e kx a b).1, (e4 i e kx a b).2.1, (e4 i e kx a b).2.2.rejoin h⟩⟩
    obtain ⟨l, arr, clk, e1, e0, e2, e3, e6, e4⟩ := h.good.map id kt es h1
    exact ⟨l, arr, clk, (rejoin_some h.env).2 (.inr ⟨q, e1⟩), e0, (h.block q e1 h1 trivial).trans e2, e3, e6, fun i e kx a b => ⟨(e4 i e kx a b).1, (e4 i e kx a b).2.1, (e4 i e kx a b).2.2.mono h.le'⟩⟩
theorem ECall.frame {P : Program} {f : FuncId} {O O' : List AObj} {args : List AVal} {r : AVal} (h : ECall P f O args fun r' O1 => r' = r ∧ O1 = O') (hlen : O'.length = O.length) (hb : uptoL O.length args) (hO : ∀ o ∈ O, o.upto O.length) (X : List AObj) :
    ECall P f (O ++ X) args fun r' O1 => r' = r ∧ O1 = O' ++ X := by
  refine ⟨h.1, ?_⟩
  intro g vs hg ho ha
  have hn : O.length ≤ g.objs.length := by simp [ho]
  have htake : g.objs.take O.length = O := by simp [ho]
  have ha' : RVs (g.cut O.length) args vs := ⟨ha.1, fun j c u a b => (ha.2 j c u a b).cut hn (uptoL_iff.1 hb c (List.mem_of_getElem? a))⟩
  refine (h.2 (g.cut O.length) vs (hg.cut hn (by rw [htake]; exact hO)) htake ha').mono ?_
  rintro e w' ⟨g', v, r', h1, h2, h3, h4, h5, h6, h7⟩
  subst h6
  have hc : Cuts g O.length g' := ⟨hg, h3, h4, hn, by rw [h7, hlen]⟩
  exact ⟨g.rejoin O.length g', v, r', h1, h2, hc.le', hc.good'', h5.rejoin hc, rfl, by simp [G.rejoin, h7, ho]⟩
end Go.Av
namespace Go.Av
open Go.ChangeShapes Go.WideShapes Go.RowKit
def g0 (w : World) : G := ⟨w, fun _ _ => False, [], []⟩
theorem g0_own {w : World} {b off : Nat} : ¬ OwnC (g0 w) b off := by
  rintro (h | ⟨id, l, o, h1, _⟩)
  · exact h
  simp [g0] at h1
theorem g0_ownLB {w : World} {b : Nat} : ¬ OwnLB (g0 w) b := by
  rintro ⟨id, l, o, h1, _⟩
  simp [g0] at h1
theorem g0_good (w : World) : Good (g0 w) where
  frlt := fun _ _ h => h.elim
  frown := fun _ _ _ h => by simp [g0] at h
  len := rfl
  loc := fun _ _ _ h => by simp [g0] at h
  apart := fun _ _ _ _ _ _ h => by simp [g0] at h
  cells := fun _ _ h => by simp [g0] at h
  spare := fun _ _ _ h => by simp [g0] at h
  map := fun _ _ _ h => by simp [g0] at h
def aggT (P : Program) (t : TypeId) : Bool :=
  match P.underlying t with
  | some (.struct _) => true
  | some (.array _ _) => true
  | _ => false
def mkE (P : Program) (e : TypeId) (cs : List AVal) : AVal := if aggT P e then .agg cs else cs.getD 0 (.v (.bool false))
def Cat (S : TypeId → List AVal → Prop) : List TypeId → List AVal → Prop
  | [], cs => cs = []
  | t :: ts, cs => ∃ a b, cs = a ++ b ∧ S t a ∧ Cat S ts b
def Shp (P : Program) : Nat → TypeId → List AVal → Prop
  | 0, _, _ => False
  | n + 1, t, cs => match P.underlying t with
    | some .bool => ∃ b, cs = [.v (.bool b)]
    | some (.int k) => ∃ m : Int, cs = [.v (.int k m)] ∧ k.min ≤ m ∧ m ≤ k.max
    | some .string => ∃ s : ByteArray, cs = [.v (.string s)] ∧ s.size ≤ reachBytes
    | some (.slice e) => ∃ xs : List (List AVal), cs = [.lst (P.cellsOf e) (xs.map (mkE P e)) .sh] ∧ (∀ x ∈ xs, Shp P n e x) ∧ xs.length * P.bytesOf e ≤ reachBytes
    | some (.struct fs) => Cat (Shp P n) (fs.toList.map (·.type)) cs
    | _ => False
def covB (P : Program) (ts : List TypeId) : Bool :=
  ts.all fun t => decide (t < P.types.size) && match P.underlying t with
    | some .bool => true
    | some (.int _) => true
    | some .string => true
    | some (.slice e) => ts.contains e && decide (0 < P.bytesOf e) && decide (0 < P.cellsOf e) && (aggT P e || decide (P.cellsOf e = 1))
    | some (.struct fs) => fs.toList.all fun f => ts.contains f.type
    | _ => false
def RVL (g : G) (ars : List AVal) (us : List Value) : Prop := ars.length = us.length ∧ (∀ c ∈ ars, c.scalar) ∧ ∀ (i : Nat) c u, ars[i]? = some c → us[i]? = some u → RV g c u
theorem RVL.append {g : G} {ars bs : List AVal} {us vs : List Value} (h : RVL g ars us) (k : RVL g bs vs) : RVL g (ars ++ bs) (us ++ vs) := by
  obtain ⟨h1, h2, h3⟩ := h
  obtain ⟨k1, k2, k3⟩ := k
  refine ⟨by simp [h1, k1], fun c hc => (List.mem_append.1 hc).elim (h2 c) (k2 c), fun i c u hc hu => ?_⟩
  rw [List.getElem?_append] at hc hu
  by_cases hi : i < ars.length
  · rw [if_pos hi] at hc
    rw [if_pos (by omega)] at hu
    exact h3 i c u hc hu
  rw [if_neg hi] at hc
  rw [if_neg (by omega), ← h1] at hu
  exact k3 _ c u hc hu
theorem RVL.one {g : G} {a : AVal} {u : Value} (hs : a.scalar) (h : RV g a u) : RVL g [a] [u] := by
  refine ⟨rfl, by simpa using hs, fun i c u' hc hu => ?_⟩
  cases i with
  | zero =>
    simp at hc hu
    subst hc
    subst hu
    exact h
  | succ i => simp at hc
section
variable {H : Type} {enc : TypeId × Value → H} {P : Program} {w : World} {sp : Nat → Bool} {held : Bool}
theorem weights_all {e : TypeId} : ∀ {ds : List (DataW H)} {d : DataW H}, d ∈ ds → ∀ n ∈ d.weights P e, n ∈ DataW.weightsAll P e ds
  | d0 :: ds, d, hd, n, hn => by
    simp only [DataW.weightsAll, List.mem_append]
    rcases List.mem_cons.1 hd with rfl | hd
    · exact .inl hn
    exact .inr (weights_all hd n hn)
theorem mapM_get {α β : Type} {f : α → Option β} : ∀ {l : List α} {r : List β}, l.mapM f = some r → r.length = l.length ∧ ∀ (i : Nat) x y, l[i]? = some x → r[i]? = some y → f x = some y
  | [], r, h => by
    simp at h
    subst h
    exact ⟨rfl, fun i x y hx => by simp at hx⟩
  | a :: l, r, h => by
    rw [List.mapM_cons] at h
    obtain ⟨b, hb, h⟩ := Option.bind_eq_some_iff.1 h
    obtain ⟨r', hr, h⟩ := Option.bind_eq_some_iff.1 h
    cases h
    obtain ⟨h1, h2⟩ := mapM_get hr
    refine ⟨by simp [h1], fun i x y hx hy => ?_⟩
    cases i with
    | zero =>
      simp at hx hy
      subst hx
      subst hy
      exact hb
    | succ i => exact h2 i x y (by simpa using hx) (by simpa using hy)
theorem cells_get {base : Nat} {a : Addr} {n : Nat} {cs : List Value} (h : w.cells? base a n = some cs) : cs.length = n ∧ ∀ (i : Nat) u, cs[i]? = some u → w.cell? (a.add i) = some u := by
  unfold World.cells? at h
  split at h
  · obtain ⟨h1, h2⟩ := mapM_get h
    have hl : cs.length = n := by simpa using h1
    refine ⟨hl, fun i u hu => ?_⟩
    have hi := lt_of_getElem? hu
    exact h2 i i u (by simp [List.getElem?_range (show i < n by omega)]) hu
  cases h
theorem list_choose {α β : Type} {p : α → β → Prop} : ∀ n : Nat, ∀ f : Nat → α, (∀ i, i < n → ∃ b, p (f i) b) → ∃ bs : List β, bs.length = n ∧ ∀ i b, bs[i]? = some b → p (f i) b
  | 0, _, _ => ⟨[], rfl, fun i b h => by simp at h⟩
  | n + 1, f, h => by
    obtain ⟨bs, h1, h2⟩ := list_choose n f (fun i hi => h i (by omega))
    obtain ⟨b, hb⟩ := h n (by omega)
    refine ⟨bs ++ [b], by simp [h1], fun i c hc => ?_⟩
    rcases getElem?_snoc hc with hc | ⟨rfl, rfl⟩
    · exact h2 i c hc
    rw [h1]
    exact hb
theorem cellsAll_mk {e : TypeId} (hagg : aggT P e = true ∨ P.cellsOf e = 1) {xs : List (List AVal)} (hx : ∀ x ∈ xs, x.length = P.cellsOf e ∧ ∀ c ∈ x, c.scalar) : cellsAll (xs.map (mkE P e)) = xs.flatten ∧ ∀ x ∈ xs, (mkE P e x).cells = x := by
  have key : ∀ x ∈ xs, (mkE P e x).cells = x := fun x hxm => by
    unfold mkE
    split
    · rfl
    rename_i hn
    rcases hagg with h | h
    · exact absurd h hn
    obtain ⟨h1, h2⟩ := hx x hxm
    rw [h] at h1
    match x, h1 with
    | [c], _ =>
      have := h2 c (by simp)
      cases c <;> first | rfl | exact this.elim
  refine ⟨?_, key⟩
  clear hx
  induction xs with
  | nil => rfl
  | cons x xs ih =>
    simp only [List.map_cons, cellsAll, List.flatMap_cons, List.flatten_cons]
    rw [key x (by simp)]
    congr 1
    exact ih fun y hy => key y (by simp [hy])
theorem flatten_get {n : Nat} : ∀ {xs : List (List AVal)} (_ : ∀ x ∈ xs, x.length = n) {j : Nat} {c : AVal}, xs.flatten[j]? = some c → ∃ i k x, j = i * n + k ∧ k < n ∧ xs[i]? = some x ∧ x[k]? = some c
  | [], _, j, c, h => by simp at h
  | x :: xs, hx, j, c, h => by
    have hl := hx x (by simp)
    rw [List.flatten_cons, List.getElem?_append] at h
    split at h
    · rename_i hj
      exact ⟨0, j, x, by omega, by omega, by simp, h⟩
    rename_i hj
    obtain ⟨i, k, y, h1, h2, h3, h4⟩ := flatten_get (fun y hy => hx y (by simp [hy])) h
    refine ⟨i + 1, k, y, ?_, h2, by simpa using h3, h4⟩
    rw [Nat.add_mul, Nat.one_mul]
    omega
theorem rvl_fields {n : Nat} {cs : List Value} {S : TypeId → List AVal → Prop} {ts : List TypeId}
    (ih : ∀ t cs' (x : DataW H × List MemPlace), t ∈ ts → DataW.trod enc P w 0 sp held n t cs' = some x → (∀ m ∈ x.1.weights P t, m ≤ reachBytes) → ∃ ars, S t ars ∧ RVL (g0 w) ars cs') :
    ∀ (fl : List Field) (o : Nat) (xs : List (DataW H × List MemPlace)), (∀ f ∈ fl, f.type ∈ ts) → (∀ (j : Nat) f, fl[j]? = some f → f.offset = o + ((fl.take j).map fun f => P.cellsOf f.type).sum) →
      o + (fl.map fun f => P.cellsOf f.type).sum ≤ cs.length → xs.length = fl.length →
      (∀ (i : Nat) f, fl[i]? = some f → DataW.trod enc P w 0 sp held n f.type ((cs.drop f.offset).take (P.cellsOf f.type)) = xs[i]?) →
      (∀ m ∈ DataW.weightsEach P (fl.map (·.type)) (xs.map (·.1)), m ≤ reachBytes) →
      ∃ ars, Cat S (fl.map (·.type)) ars ∧ RVL (g0 w) ars ((cs.drop o).take (fl.map fun f => P.cellsOf f.type).sum)
  | [], o, xs, _, _, _, _, _, _ => ⟨[], rfl, by simp [RVL]⟩
  | f :: fl, o, [], _, _, _, hx, _, _ => by simp at hx
  | f :: fl, o, y :: ys, hts, hoff, hlen, hx, hm, hw => by
    have ho : f.offset = o := by simpa using hoff 0 f rfl
    simp only [List.map_cons, DataW.weightsEach, List.mem_append] at hw
    simp only [List.map_cons, List.sum_cons] at hlen ⊢
    obtain ⟨ars, h1, h2⟩ := ih f.type _ y (hts f (by simp)) (by simpa using hm 0 f rfl) (fun m hm => hw m (.inl hm))
    obtain ⟨bs, k1, k2⟩ := rvl_fields ih fl (o + P.cellsOf f.type) ys (fun g hg => hts g (by simp [hg])) (fun j g hg => by
      have := hoff (j + 1) g (by simpa using hg)
      simp only [List.take_succ_cons, List.map_cons, List.sum_cons] at this
      omega) (cs := cs) (by omega) (by simpa using hx) (fun i g hg => by simpa using hm (i + 1) g (by simpa using hg)) (fun m hm => hw m (.inr hm))
    refine ⟨ars ++ bs, ⟨ars, bs, rfl, h1, k1⟩, ?_⟩
    rw [List.take_add, List.drop_drop]
    rw [ho] at h2
    exact h2.append k2
theorem add_add {a : Addr} (hs : a.spot = none) (m k : Nat) : (a.add m).add k = ⟨a.block, a.off + (m + k), none⟩ := by
  cases a with
  | mk b off spot =>
    subst hs
    unfold Addr.add
    by_cases hm : m = 0 <;> by_cases hk : k = 0 <;> simp [hm, hk, Nat.add_assoc]
theorem spot_of_cell {a : Addr} {u : Value} (h : w.cell? a = some u) : a.spot = none := by
  unfold World.cell? at h
  split at h
  · split at h
    · cases h
    rename_i hs
    simpa using hs
  cases h
theorem rvl_of_trod (hl : laidOutB P = true) {ts : List TypeId} (hc : covB P ts = true) (n : Nat) : ∀ (t : TypeId) (cs : List Value) (x : DataW H × List MemPlace), t ∈ ts →
    DataW.trod enc P w 0 sp held n t cs = some x → (∀ m ∈ x.1.weights P t, m ≤ reachBytes) → ∃ ars, Shp P n t ars ∧ RVL (g0 w) ars cs := by
  induction n with
  | zero => intro _ _ _ _ h; simp [DataW.trod] at h
  | succ n ih =>
    intro t cs x ht h hw
    have hct := List.all_eq_true.1 hc t ht
    simp only [Bool.and_eq_true, decide_eq_true_eq] at hct
    obtain ⟨hsz, hct⟩ := hct
    cases hu : P.underlying t with
    | none => rw [hu] at hct; cases hct
    | some d =>
      rw [hu] at hct
      cases d with
      | bool =>
        obtain ⟨b, rfl, rfl⟩ := DataW.trod_bool hu h
        exact ⟨[.v (.bool b)], by simp only [Shp, hu]; exact ⟨b, rfl⟩, .one trivial (.v trivial)⟩
      | int k =>
        obtain ⟨m, rfl, rfl, hwf⟩ := DataW.trod_int hu h
        simp only [Lit.wf, Bool.and_eq_true, decide_eq_true_eq] at hwf
        exact ⟨[.v (.int k m)], by simp only [Shp, hu]; exact ⟨m, rfl, hwf⟩, .one trivial (.v hwf)⟩
      | string =>
        obtain ⟨s, rfl, rfl, hs⟩ := DataW.trod_string hu h
        have hb : s.size ≤ reachBytes := by
          have := hw s.data.toList.length (by simp [DataW.weights])
          simpa using this
        exact ⟨[.v (.string s)], by simp only [Shp, hu]; exact ⟨s, rfl, hb⟩, .one trivial (.v trivial)⟩
      | slice e =>
        simp only [Bool.and_eq_true, decide_eq_true_eq, Bool.or_eq_true, List.contains_iff_mem] at hct
        obtain ⟨⟨⟨he, hb⟩, hce⟩, hagg⟩ := hct
        rcases DataW.trod_slice hu h with ⟨rfl, rfl⟩ | ⟨a, len, cap, elems, rest, n', hn', rfl, rfl, _, hlc, hcm, hel, hall, _, _⟩
        · exact ⟨[.lst (P.cellsOf e) [] .sh], by simp only [Shp, hu]; exact ⟨[], rfl, by simp, by simp [reachBytes]⟩, .one trivial (.nil (fun id h => by cases h) (by simp))⟩
        cases hn'
        simp only [DataW.weights, hu, List.mem_cons, List.mem_append] at hw
        have hlen : (len + rest.length) * P.bytesOf e ≤ reachBytes := by
          have := hw _ (.inl rfl)
          simpa [hel] using this
        have hlenb : len * P.bytesOf e ≤ reachBytes := Nat.le_trans (Nat.mul_le_mul_right _ (by omega)) hlen
        have hle : len ≤ reachBytes := Nat.le_trans (Nat.le_mul_of_pos_right _ hb) hlenb
        have hone : ∀ i, i < len → ∃ ars : List AVal, Shp P n e ars ∧ ∃ us, RVL (g0 w) ars us ∧ w.cells? 0 (a.add (i * P.cellsOf e)) (P.cellsOf e) = some us := fun i hi => by
          have hy : elems[i]? = some elems[i] := List.getElem?_eq_getElem (by omega)
          have h2 := hall i hi
          rw [hy] at h2
          obtain ⟨us, h3, h4⟩ := Option.bind_eq_some_iff.1 h2
          obtain ⟨ars, k1, k2⟩ := ih e us elems[i] he h4 (fun m hm => hw m (.inr (.inl (weights_all (List.mem_map.2 ⟨elems[i], List.getElem_mem _, rfl⟩) m hm))))
          exact ⟨ars, k1, us, k2, h3⟩
        obtain ⟨xs, hxl, hxs⟩ := list_choose (p := fun (i : Nat) (ars : List AVal) => Shp P n e ars ∧ ∃ us, RVL (g0 w) ars us ∧ w.cells? 0 (a.add (i * P.cellsOf e)) (P.cellsOf e) = some us) len id hone
        have hxc : ∀ y ∈ xs, y.length = P.cellsOf e ∧ ∀ c ∈ y, c.scalar := fun y hy => by
          obtain ⟨i, hi⟩ := List.mem_iff_getElem?.1 hy
          obtain ⟨_, us, h2, h3⟩ := hxs i y hi
          exact ⟨h2.1.trans (cells_get h3).1, h2.2.1⟩
        obtain ⟨hca, hcx⟩ := cellsAll_mk (P := P) (by simpa using hagg) hxc
        have hspot : xs ≠ [] → a.spot = none := fun hne => by
          match xs, hne, hxs, hxc with
          | y :: ys, _, hxs, hxc =>
            obtain ⟨_, us, h2, h3⟩ := hxs 0 y rfl
            obtain ⟨h4, h5⟩ := cells_get h3
            have h6 := h5 0 (us[0]'(by omega)) (List.getElem?_eq_getElem _)
            have := spot_of_cell h6
            simpa [Addr.add] using this
        refine ⟨[.lst (P.cellsOf e) (xs.map (mkE P e)) .sh], ?_, .one trivial ?_⟩
        · simp only [Shp, hu]
          refine ⟨xs, rfl, fun y hy => ?_, by rw [hxl]; exact hlenb⟩
          obtain ⟨i, hi⟩ := List.mem_iff_getElem?.1 hy
          exact (hxs i y hi).1
        have hget : ∀ (j : Nat) (c : AVal), xs.flatten[j]? = some c → ∃ u, w.cell? ⟨a.block, a.off + j, none⟩ = some u ∧ RV (g0 w) c u := fun j c hj => by
          obtain ⟨i, k, y, h1, h2, h3, h4⟩ := flatten_get (n := P.cellsOf e) (fun y hy => (hxc y hy).1) hj
          obtain ⟨_, us, h5, h6⟩ := hxs i y h3
          obtain ⟨h7, h8⟩ := cells_get h6
          have hk : us[k]? = some (us[k]'(by omega)) := List.getElem?_eq_getElem _
          have h9 := h8 k _ hk
          have hne : xs ≠ [] := fun e => by rw [e] at h3; simp at h3
          have hadd : (a.add (id i * P.cellsOf e)).add k = ⟨a.block, a.off + (i * P.cellsOf e + k), none⟩ := add_add (hspot hne) _ _
          rw [hadd, ← h1] at h9
          exact ⟨_, h9, h5.2.2 k c _ h4 hk⟩
        have key := @RV.lst (g0 w) (P.cellsOf e) (xs.map (mkE P e)) .sh a cap (fun x hx => by
          obtain ⟨y, hy, rfl⟩ := List.mem_map.1 hx
          rw [hcx y hy]
          exact (hxc y hy).1) (fun x hx c hc => by
          obtain ⟨y, hy, rfl⟩ := List.mem_map.1 hx
          rw [hcx y hy] at hc
          exact (hxc y hy).2 c hc) (by simp [hxl]; exact hlc) (by simp [hxl]; unfold reachBytes at hle; omega) (fun hne => hspot (fun e => hne (by rw [e]; rfl)))
          (fun j => (w.cell? ⟨a.block, a.off + j, none⟩).getD (.bool false)) (fun j c hj => by
            rw [hca] at hj
            obtain ⟨u, h1, _⟩ := hget j c hj
            refine ⟨?_, g0_own⟩
            show w.cell? _ = _
            rw [h1]
            rfl) (fun j c hj => by
            rw [hca] at hj
            obtain ⟨u, h1, h2⟩ := hget j c hj
            rw [h1]
            exact h2) trivial
        rw [List.length_map, hxl] at key
        exact key
      | struct fs =>
        simp only [List.all_eq_true, List.contains_iff_mem] at hct
        obtain ⟨xs, n', hn', rfl, hcl, hxl, hall⟩ := DataW.trod_struct hu h
        cases hn'
        obtain ⟨k1, k2, k3⟩ := kid_struct hl hsz hu
        simp only [DataW.weights, hu] at hw
        obtain ⟨ars, h1, h2⟩ := rvl_fields ih fs.toList 0 xs hct (fun j f hj => by rw [k3 j f hj]; omega) (by rw [hcl, k2]; omega) (by simpa using hxl) (fun i f hf => hall i f (by simpa using hf)) hw
        refine ⟨ars, by simp only [Shp, hu]; exact h1, ?_⟩
        rw [List.drop_zero, ← k2, ← hcl, List.take_length] at h2
        exact h2
      | _ => cases hct
theorem rv_of_trod (hl : laidOutB P = true) {ts : List TypeId} (hc : covB P ts = true) {t : TypeId} (ht : t ∈ ts) {v : Value} {d : DataW H} {ps : List MemPlace} (h : DataW.Trod enc P w 0 sp held t v d ps)
    (hv : v.cells = #[v]) (hw : ∀ m ∈ d.weights P t, m ≤ reachBytes) : ∃ n a, Shp P n t [a] ∧ RV (g0 w) a v := by
  obtain ⟨n, h⟩ := h
  obtain ⟨ars, h1, h2⟩ := rvl_of_trod hl hc n t _ (d, ps) ht h hw
  rw [hv] at h2
  obtain ⟨h3, h4, h5⟩ := h2
  match ars, h3 with
  | [a], _ => exact ⟨n, a, h1, h5 0 a v rfl rfl⟩
theorem one_int {t : TypeId} {k : IntKind} {r : Reach} {b : Nat} {v : Value} (hu : P.underlying t = some (.int k)) (h : Value.okWide P w r b t v) : v.cells = #[v] := by
  cases v <;> first | rfl | simp [Value.okWide, hu, Cell.okWide, Cell.ok] at h
theorem trodAll_stays (hl : laidOutB P = true) {W W' : World} {sp' : Nat → Bool} : ∀ {ts : List TypeId} {vs : List Value} {ds : List (DataW H)} {ps : List MemPlace}, (∀ t ∈ ts, P.readableRec t = true ∧ t < P.types.size) →
    DataW.TrodAll enc P W 0 (fun _ => true) true ts vs ds ps → (∀ p ∈ ps, W.sameAt W' p) → (∀ p ∈ ps, sp' p.block = true) → DataW.TrodAll enc P W' 0 sp' true ts vs ds ps
  | [], vs, ds, ps, _, h, _, _ => by
    obtain ⟨rfl, rfl, rfl⟩ := trodAll_nil h
    rfl
  | t :: ts, vs, ds, ps, hts, h, h1, h2 => by
    obtain ⟨v, vs', d, ds', p, q, rfl, rfl, rfl, hd, hr⟩ := trodAll_cons h
    obtain ⟨k1, k2⟩ := hts t (by simp)
    exact ⟨p, q, WideElems.Trod_stays hl k1 k2 hd (fun x hx => h1 x (List.mem_append.2 (.inl hx))) (fun x hx => h2 x (List.mem_append.2 (.inl hx))),
      trodAll_stays hl (fun t ht => hts t (by simp [ht])) hr (fun x hx => h1 x (List.mem_append.2 (.inr hx))) (fun x hx => h2 x (List.mem_append.2 (.inr hx))), rfl⟩
theorem post_of_pure (hl : laidOutB P = true) {fn : Func} {s : ChangeSpec} {apart fresh handsOn again : Bool} {W : World} {args : Array Value} {ds gs : List (DataW H)} {before : List MemPlace} {f : FuncId} {xs : List AVal} {tb : TypeId}
    (hpar : ∀ t ∈ fn.params.toList, P.readableRec t = true ∧ t < P.types.size) (hvars : s.vars = []) (hres : fn.resultTypes = #[tb]) (htb : P.underlying tb = some .bool)
    (hW : DataW.Whole enc P fn.params.toList s.vars apart W args.toList ds gs before)
    (hfn : s.fn H (ds ++ gs) = { results := [.lit (.bool true)], args := ds })
    (hpc : PCall P f xs (.v (.bool true))) (hRV : RVs (g0 W) xs args) :
    Calls P f args W fun e W' => ∃ v, e = .returned v ∧ s.post enc P fn apart fresh handsOn again W args v W' := by
  refine (hpc.2 (g0 W) args (g0_good W) rfl hRV).mono fun e W' ⟨g', v, r, h1, h2, h3, _, h5, h6, _⟩ => ?_
  subst h6
  cases h5
  subst h2
  have hbelow : Below W.heap.size W g'.w := ⟨h3.os, h3.tape, h3.output, h3.size, fun k hk => (h3.block k hk g0_ownLB).1⟩
  have hlt := hW.lt
  obtain ⟨p, q, hA, hV, rfl, hfz, hnd⟩ := id hW
  have hq : gs = [] ∧ q = [] := trodVars_none (by rw [hvars] at hV; exact hV)
  obtain ⟨rfl, rfl⟩ := hq
  simp only [List.append_nil] at hlt hfz hnd hfn
  have hsame : ∀ x ∈ p, W.sameAt g'.w x := fun x hx => hbelow.same (hlt x hx)
  have hargs : ∀ sp : Nat → Bool, (∀ x ∈ p, sp x.block = true) → DataW.TrodAll enc P g'.w 0 sp true fn.params.toList args.toList ds p := fun sp hsp => trodAll_stays hl hpar hA hsame hsp
  have hR : ∀ (b : Nat) (sp : Nat → Bool) (hd : Bool), DataW.TrodAll enc P g'.w b sp hd fn.resultTypes.toList ((Value.bool true).resultList fn.resultTypes.size) [.lit (.bool true)] [] := fun b sp hd => by
    rw [hres]
    exact trodAll_mk1 (shut_bool htb true)
  have hvn : ∀ sp : Nat → Bool, DataW.TrodVars enc P g'.w sp s.vars [] [] := fun sp => by
    rw [hvars]
    rfl
  refine ⟨_, h1, ds, [], p ++ [], [], p, [], hW, ?_, ?_, ?_, hbelow.frame _, fun _ => ⟨?_, [.lit (.bool true)] ++ ds, [], ([] ++ p) ++ [], ⟨[] ++ p, [], ?_, hvn _, rfl, ?_, ?_⟩, ?_⟩⟩
  · rw [List.append_nil, hfn]
    exact hR _ _ _
  · rw [List.append_nil, hfn]
    exact hargs _ fun x hx => by simpa using hlt x hx
  · rw [List.append_nil, hfn]
    exact hvn _
  · exact ok_one hres rfl (okWide_bool_mk htb true)
  · exact trodAll_append (hargs (fun _ => true) fun _ _ => rfl) (hR _ _ _)
  · intro b off hx
    simp only [List.nil_append, List.append_nil] at hx
    rw [hbelow.frozen (p := ⟨b, off, none⟩) (hlt _ hx)]
    exact hfz b off hx
  · intro ha
    simpa using hnd ha
  intro x hx _
  simpa using hx
end
section
variable {P : Program} {n : Nat} {t : TypeId} {cs : List AVal}
theorem Shp.int {k : IntKind} (hu : P.underlying t = some (.int k)) (h : Shp P n t cs) : ∃ m : Int, cs = [.v (.int k m)] ∧ k.min ≤ m ∧ m ≤ k.max := by
  cases n with
  | zero => exact h.elim
  | succ n =>
    simp only [Shp, hu] at h
    exact h
theorem Shp.struct {fs : Array Field} (hu : P.underlying t = some (.struct fs)) (h : Shp P n t cs) : ∃ m, n = m + 1 ∧ Cat (Shp P m) (fs.toList.map (·.type)) cs := by
  cases n with
  | zero => exact h.elim
  | succ n =>
    simp only [Shp, hu] at h
    exact ⟨n, rfl, h⟩
theorem Shp.slice {e : TypeId} (hu : P.underlying t = some (.slice e)) (h : Shp P n t cs) : ∃ m, n = m + 1 ∧ ∃ xs : List (List AVal), cs = [.lst (P.cellsOf e) (xs.map (mkE P e)) .sh] ∧ (∀ x ∈ xs, Shp P m e x) ∧ xs.length * P.bytesOf e ≤ reachBytes := by
  cases n with
  | zero => exact h.elim
  | succ n =>
    simp only [Shp, hu] at h
    exact ⟨n, rfl, h⟩
theorem map_told {α : Type} {f : α → AVal} {Q : α → Prop} {g : List AVal → AVal} : ∀ {xs : List (List AVal)}, (∀ x ∈ xs, ∃ a, g x = f a ∧ Q a) → ∃ l : List α, xs.map g = l.map f ∧ ∀ a ∈ l, Q a
  | [], _ => ⟨[], rfl, by simp⟩
  | x :: xs, h => by
    obtain ⟨a, ha, hq⟩ := h x (by simp)
    obtain ⟨l, hl, hql⟩ := map_told (xs := xs) fun y hy => h y (by simp [hy])
    exact ⟨a :: l, by simp [ha, hl], by simpa using ⟨hq, hql⟩⟩
theorem Shp.listQ {α : Type} {f : α → AVal} {Q : α → Prop} {e : TypeId} (hu : P.underlying t = some (.slice e)) (h : Shp P n t cs) (hd : ∀ m, m < n → ∀ x, Shp P m e x → ∃ a, mkE P e x = f a ∧ Q a) :
    ∃ l : List α, cs = [.lst (P.cellsOf e) (l.map f) .sh] ∧ l.length * P.bytesOf e ≤ reachBytes ∧ ∀ a ∈ l, Q a := by
  obtain ⟨m, rfl, xs, rfl, h1, h2⟩ := h.slice hu
  obtain ⟨l, hl, hq⟩ := map_told (f := f) (Q := Q) fun x hx => hd m (by omega) x (h1 x hx)
  refine ⟨l, by rw [hl], ?_, hq⟩
  have : xs.length = l.length := by
    have := congrArg List.length hl
    simpa using this
  rw [← this]
  exact h2
end
end Go.Av
namespace Go.Av
theorem awp_ownCell {P : Program} {kb : Nat} {c : Code} {Q : AEx → St → Prop} {n : Nat} {slots : List (Nat × AVal)} {O : List AObj} (k off : Nat) {sz : Nat} {cs xs : List AVal} (hok : O[k]? = some (.cells cs)) (hnil : cs[off]? = some (.lst sz xs .ex))
    (h : AWP P kb c Q ⟨n, slots, (O ++ [AObj.spare xs.length]).set k (.cells (cs.set off (.lst sz xs (.tok O.length))))⟩) : AWP P kb c Q ⟨n, slots, O⟩ :=
  h.weaken fun base a g hb hr => by
    have hO : g.objs = O := hr.objs
    have hlek := Le.mark hr.good (AObj.spare xs.length)
    have hgk := Good.mark hr.good xs.length
    have hkO : g.objs[k]? = some (.cells cs) := by rw [hO]; exact hok
    have hok1 : (g.mark (AObj.spare xs.length)).objs[k]? = some (.cells cs) := getElem?_snoc_lt hkO
    obtain ⟨l, arr, t, e1, e2, e3, e4, e5, e6⟩ := hgk.cells k cs hok1
    have ht2 : Turns (g.mark (AObj.spare xs.length)) k (.cells cs) (some l) (.cells (cs.set off (.lst sz xs (.tok O.length)))) g.w := {
      obj := hok1
      os := rfl
      tape := rfl
      output := rfl
      size := Nat.le_refl _
      block := fun _ _ _ => rfl
      cell := fun b off x hx _ => hx
      place := fun l1 h1 _ => by
        simp only [Option.some.injEq] at h1
        subst h1
        exact .inr ⟨l, e1, trivial, rfl, Nat.le_refl _⟩
      spare := fun m h => by cases h
      plain := fun _ => ⟨by simp [AObj.isSpare], e1⟩
      gone := by simp }
    have hle2 := Le.turn hgk ht2
    have hgood2 := Good.turn hgk ht2 ⟨l, arr, t, rfl, e2, e3, by simpa using e4, fun j d u hd hu => by
      rw [List.getElem?_set] at hd
      split at hd
      · rename_i hj
        subst hj
        split at hd
        · simp only [Option.some.injEq] at hd
          subst hd
          have hv := (e5 off _ u hnil hu).mono hle2
          cases hv with
          | nil => exact .nil (fun id e => by
            simp only [Own.tok.injEq] at e
            subst e
            simp [G.turn, G.mark, hO]) (by simp)
          | lst hsz hsc hcap hmax hs f hm hr ho =>
            refine .lst hsz hsc hcap hmax hs f hm hr ⟨by simp [G.turn, G.mark, hO], fun m hm' => ?_⟩
            have hne : k ≠ O.length := by
              have := lt_of_getElem? hok
              omega
            have : ((g.mark (AObj.spare xs.length)).turn k (some l) (.cells (cs.set off (.lst sz xs (.tok O.length)))) g.w).objs[O.length]? = some (.spare xs.length) := by
              simp only [G.turn]
              rw [List.getElem?_set_ne hne, ← hO]
              exact objs_new
            rw [this] at hm'
            simp only [Option.some.injEq, AObj.spare.injEq] at hm'
            exact ⟨by omega, fun _ => .inl ho⟩
        cases hd
      · exact (e5 j d u hd hu).mono hle2, fun d hd => by
      rcases List.mem_or_eq_of_mem_set hd with q | q
      · exact e6.1 d q
      subst q
      trivial, e6.2⟩ (fun l1 h1 _ => by
      simp only [Option.some.injEq] at h1
      subst h1
      exact lt_of_getElem?' e3)
    exact ⟨(g.mark (AObj.spare xs.length)).turn k (some l) (.cells (cs.set off (.lst sz xs (.tok O.length)))) g.w, rfl, { le := (hr.le.trans hlek).trans hle2, good := hgood2, objs := by simp [G.mark, G.turn, hO], size := hr.size, defers := hr.defers, slot := fun s y hy => (hr.slot s y hy).imp fun u hu => ⟨hu.1, (hu.2.mono hlek).mono hle2⟩ }⟩
def midPost (τ : St) (Q : AEx → St → Prop) : AEx → St → Prop
  | .norm, σ => Covers σ τ
  | e, σ => Q e σ
theorem awp_mid {P : Program} {kb : Nat} {x y : Code} {Q : AEx → St → Prop} {σ : St} (τ : St) (h1 : AWP P kb x (midPost τ Q) σ) (h2 : AWP P kb y Q τ) : AWP P kb (.seq x y) Q σ :=
  awp_seq (h1.mono fun e σ' h => by cases e <;> first | exact h2.cover h | exact h)
theorem awp_mid2 {P : Program} {kb : Nat} {x y z : Code} {Q : AEx → St → Prop} {σ : St} (τ : St) (h1 : AWP P kb x (midPost τ (seqPost P kb z Q)) σ) (h2 : AWP P kb y (seqPost P kb z Q) τ) : AWP P kb (.seq (.seq x y) z) Q σ :=
  awp_seq (awp_mid τ h1 h2)
theorem awp_mid0 {P : Program} {kb : Nat} {x y : Code} {Q : AEx → St → Prop} {σ : St} (τ : St) (h1 : AWP P kb x (midPost τ Q) σ) (h2 : AWP P kb y Q τ) : AWP P kb x (seqPost P kb y Q) σ :=
  h1.mono fun e σ' h => by cases e <;> first | exact h2.cover h | exact h

def renN (A : List Nat) (N k : Nat) : Nat := if k < A.length then A.getD k 0 else N + (k - A.length)
def Kind.ren (A : List Nat) (N : Nat) : Kind → Kind
  | .rd id => .rd (renN A N id)
  | .wr n l => .wr (renN A N n) (l.map (renN A N))
  | .new id => .new (renN A N id)
  | k => k
def Kind.fresh (m : Nat) : Kind → Bool
  | .wr n _ => decide (m ≤ n)
  | _ => true
theorem renN_inj {A : List Nat} {N : Nat} (hn : A.Nodup) (hA : ∀ a ∈ A, a < N) {i j : Nat} (h : renN A N i = renN A N j) : i = j := by
  unfold renN at h
  have hget : ∀ k, k < A.length → A.getD k 0 ∈ A := fun k hk => by
    rw [List.getD_eq_getElem?_getD, List.getElem?_eq_getElem hk]
    exact List.getElem_mem hk
  split at h <;> split at h
  · rename_i h1 h2
    rw [List.getD_eq_getElem?_getD, List.getElem?_eq_getElem h1, List.getD_eq_getElem?_getD, List.getElem?_eq_getElem h2] at h
    exact (List.getElem_inj hn).1 h
  · rename_i h1 h2
    have := hA _ (hget i h1)
    omega
  · rename_i h1 h2
    have := hA _ (hget j h2)
    omega
  omega
theorem renN_lt {A : List Nat} {N : Nat} (hA : ∀ a ∈ A, a < N) {i n : Nat} (hn : A.length ≤ n) (h : i < n) : renN A N i < renN A N n := by
  unfold renN
  have hget : ∀ k, k < A.length → A.getD k 0 ∈ A := fun k hk => by
    rw [List.getD_eq_getElem?_getD, List.getElem?_eq_getElem hk]
    exact List.getElem_mem hk
  rw [if_neg (show ¬ n < A.length by omega)]
  split
  · rename_i h1
    have := hA _ (hget i h1)
    omega
  omega
theorem kindsApart_ren {A : List Nat} {N : Nat} (hn : A.Nodup) (hA : ∀ a ∈ A, a < N) {k l : Kind} (hk : k.fresh A.length = true) (hl : l.fresh A.length = true) (h : kindsApart k l = true) : kindsApart (k.ren A N) (l.ren A N) = true := by
  have key : ∀ {id n : Nat} {L : List Nat}, A.length ≤ n → id < n → id ∉ L → renN A N id < renN A N n ∧ renN A N id ∉ L.map (renN A N) := fun h1 h2 h3 =>
    ⟨renN_lt hA h1 h2, fun hm => by
      obtain ⟨x, hx, e⟩ := List.mem_map.1 hm
      have := renN_inj hn hA e
      subst this
      exact h3 hx⟩
  cases k <;> cases l <;> first
    | exact h
    | (simp only [kindsApart] at h; cases h)
    | (simp only [Kind.ren, kindsApart, Bool.not_eq_true', decide_eq_false_iff_not] at h ⊢; exact fun e => h (renN_inj hn hA e))
    | (simp only [Kind.fresh, decide_eq_true_eq] at hk hl
       simp only [Kind.ren, kindsApart, Bool.and_eq_true, decide_eq_true_eq, Bool.not_eq_true', List.contains_eq_mem, decide_eq_false_iff_not] at h ⊢
       exact key (by assumption) h.1 h.2)
theorem orderB_ren {ops : Array Oper} {ks : List Kind} (A : List Nat) (N : Nat) (ks' : List Kind) (hn : A.Nodup) (hA : ∀ a ∈ A, a < N) (e : ks'.map (Kind.ren A N) = ks) (hf : ks'.all (Kind.fresh A.length) = true) (h : orderB ops ks' = true) : orderB ops ks = true := by
  subst e
  simp only [orderB, Bool.and_eq_true, List.all_eq_true, Bool.or_eq_true, List.length_map] at h ⊢
  refine ⟨h.1, fun i hi j hj => ?_⟩
  rcases h.2 i hi j hj with q | q
  · exact .inl q
  refine .inr ?_
  have hgd : ∀ i, (ks'.map (Kind.ren A N)).getD i .write = (ks'.getD i .write).ren A N := fun i => by
    rw [List.getD_eq_getElem?_getD, List.getD_eq_getElem?_getD, List.getElem?_map]
    cases ks'[i]? <;> rfl
  have hff : ∀ i, (ks'.getD i .write).fresh A.length = true := fun i => by
    rw [List.getD_eq_getElem?_getD]
    cases hi : ks'[i]? with
    | none => rfl
    | some x => exact List.all_eq_true.1 hf x (List.mem_of_getElem? hi)
  rw [hgd, hgd]
  unfold indep at q ⊢
  split at q
  · rename_i oj oi h1 h2
    simp only [Bool.and_eq_true] at q ⊢
    exact ⟨q.1, kindsApart_ren hn hA (hff j) (hff i) q.2⟩
  cases q
theorem says_of {σ : St} : ∀ {l : List (Nat × AVal)}, (∀ p ∈ l, ∃ x, σ.get p.1 = some x ∧ Sub σ.objs x p.2) → Says σ l
  | [], _ => trivial
  | (s, y) :: r, h => ⟨h (s, y) (by simp), says_of fun p hp => h p (by simp [hp])⟩
theorem awp_localF {P : Program} {kb : Nat} {c : Code} {Q : AEx → St → Prop} {n : Nat} {slots : List (Nat × AVal)} {O : List AObj} {o : AObj} (s : Nat) {x : AVal} (y : AVal) (slots' : List (Nat × AVal)) (hx : look slots s = some x)
    (hp : ¬ o.isSpare) (hl : o.live) (hf : FSub (O ++ [o]) O.length x y) (hkb : kb ≤ O.length) (hs : ∀ p ∈ slots', look (putS s y slots) p.1 = some p.2) (hup : ∀ o ∈ O, o.upto O.length) (hsl : ∀ p ∈ slots', p.2.upto O.length)
    (h : AWP P kb c Q ⟨n, slots', O⟩) : AWP P kb c Q ⟨n, slots, O ++ [o]⟩ := by
  refine awp_freeze1 s O.length (o := o) y (snoc_get _ _) hp hl hx hf ?_
  rw [snoc_set]
  have hmem : ∀ s x, look slots' s = some x → (s, x) ∈ slots' := fun s x hl => look_mem hl
  exact awp_trunc O.length (by simp) hkb slots' (by rw [snoc_take]; exact hup) (says_of fun p hp => ⟨p.2, hs p hp, Sub.refl _⟩) (fun k x hk => hsl (k, x) (hmem k x hk)) (by rw [snoc_take]; exact h)
theorem awp_local {P : Program} {kb : Nat} {c : Code} {Q : AEx → St → Prop} {n : Nat} {slots : List (Nat × AVal)} {O : List AObj} {cs : List AVal} (s : Nat) (ds : List AVal) (slots' : List (Nat × AVal)) (hx : look slots s = some (.mp O.length 0))
    (hds : cs.map AVal.shareCell = ds) (hkb : kb ≤ O.length) (hs : ∀ p ∈ slots', look (putS s (.ip none ds) slots) p.1 = some p.2) (hup : ∀ o ∈ O, o.upto O.length) (hsl : ∀ p ∈ slots', p.2.upto O.length)
    (h : AWP P kb c Q ⟨n, slots', O⟩) : AWP P kb c Q ⟨n, slots, O ++ [.cells cs]⟩ :=
  awp_localF s (.ip none ds) slots' hx (by simp [AObj.isSpare]) trivial (FSub.mp (cs := cs) (snoc_get _ _) (by rw [List.drop_zero, hds])) hkb hs hup hsl h
theorem awp_localS {P : Program} {kb : Nat} {c : Code} {Q : AEx → St → Prop} {n : Nat} {slots : List (Nat × AVal)} {O : List AObj} {cs : List AVal} (s : Nat) {len cap sz : Nat} (xs : List AVal) (slots' : List (Nat × AVal)) (hx : look slots s = some (.ms O.length 0 len cap))
    (hsz : ∀ x ∈ xs, x.cells.length = sz) (hlen : xs.length = len) (hd : (cs.take (len * sz)).map AVal.shareCell = cellsAll xs) (hkb : kb ≤ O.length) (hs : ∀ p ∈ slots', look (putS s (.lst sz xs .sh) slots) p.1 = some p.2) (hup : ∀ o ∈ O, o.upto O.length) (hsl : ∀ p ∈ slots', p.2.upto O.length)
    (h : AWP P kb c Q ⟨n, slots', O⟩) : AWP P kb c Q ⟨n, slots, O ++ [.cells cs]⟩ :=
  awp_localF s (.lst sz xs .sh) slots' hx (by simp [AObj.isSpare]) trivial (FSub.ms (cs := cs) (snoc_get _ _) hsz hlen (by rw [List.drop_zero, hd])) hkb hs hup hsl h
theorem awp_frzk {P : Program} {kb : Nat} {c : Code} {Q : AEx → St → Prop} {n : Nat} {slots : List (Nat × AVal)} {O X : List AObj} {cs : List AVal} (s k : Nat) (ds : List AVal) (hX : X[k]? = some (.cells cs)) (hx : look slots s = some (.mp (O.length + k) 0))
    (hds : cs.map AVal.shareCell = ds) (h : AWP P kb c Q ⟨n, putS s (.ip none ds) slots, O ++ X.set k .gone⟩) : AWP P kb c Q ⟨n, slots, O ++ X⟩ := by
  have hid : (O ++ X)[O.length + k]? = some (.cells cs) := by
    rw [List.getElem?_append_right (by omega), Nat.add_sub_cancel_left, hX]
  refine awp_freeze1 s (O.length + k) (o := .cells cs) (.ip none ds) hid (by simp [AObj.isSpare]) trivial hx (FSub.mp (cs := cs) hid (by rw [List.drop_zero, hds])) ?_
  rw [List.set_append_right _ _ (by omega), Nat.add_sub_cancel_left]
  exact h
theorem awp_cut {P : Program} {kb : Nat} {c : Code} {Q : AEx → St → Prop} {n : Nat} {slots : List (Nat × AVal)} {O X : List AObj} (j : Nat) (Y : List AObj) (slots' : List (Nat × AVal)) (hY : X.take j = Y) (hj : j ≤ X.length) (hkb : kb ≤ O.length) (hs : ∀ p ∈ slots', look slots p.1 = some p.2)
    (hO : ∀ o ∈ O, o.upto (O.length + j)) (hX : ∀ o ∈ Y, o.upto (O.length + j)) (hsl : ∀ p ∈ slots', p.2.upto (O.length + j)) (h : AWP P kb c Q ⟨n, slots', O ++ Y⟩) : AWP P kb c Q ⟨n, slots, O ++ X⟩ := by
  have e : (O ++ X).take (O.length + j) = O ++ Y := by
    rw [List.take_append, List.take_of_length_le (by omega), Nat.add_sub_cancel_left, hY]
  refine awp_trunc (O.length + j) (by simp; omega) (by omega) slots' ?_ (says_of fun p hp => ⟨p.2, hs p hp, Sub.refl _⟩) (fun k x hk => hsl (k, x) (look_mem hk)) (by rw [e]; exact h)
  rw [e]
  intro o ho
  rcases List.mem_append.1 ho with q | q
  · exact hO o q
  exact hX o q
end Go.Av
