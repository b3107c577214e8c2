/-
  Texts bound together by a program of mine: Avx, Avr, Avl, Avm, Avn, Avo, Avq, Avp, Tab, Pa, Pb, Pc, Pd, Pe, Pg, T1, T2, T3, T4.
-/
import Derived.Test.YtakdmelemfnmdaaH1
import Derived.Lib.BufferMore
import Derived.ProofKit
import Derived.Carry
import Derived.SizedLaws
import Derived.Deep.Slices
import Derived.JoinedOf
import Derived.Test.YtakdmelemfnmdaaChecked
import Derived.KernelRfl
set_option linter.all false

section
/-
  The library of abstract values, between parts eleven and twelve: an object that is written no more becomes a value (freeze); nil or not; slices of objects; make and append that give an object.
-/
namespace Go.Av

/-! freezing -/

theorem turns_gone {g : G} {id : Nat} {o : AObj} {l' : Option Loc} (ho : g.objs[id]? = some o) (he : g.env[id]? = some l') (hp : ¬ o.isSpare) (hl : o.live) : Turns g id o l' .gone g.w where
  obj := ho
  os := rfl
  tape := rfl
  output := rfl
  size := Nat.le_refl _
  block := fun _ _ _ => rfl
  cell := fun b off x hx _ => hx
  place := fun _ _ h => h.elim
  spare := fun m h => by subst h; exact absurd trivial hp
  plain := fun _ => ⟨by simp [AObj.isSpare], he⟩
  gone := fun h => by subst h; exact hl

def G.freeze (g : G) (id : Nat) (l' : Option Loc) : G := g.turn id l' .gone g.w

/-- What x tells of a value stays told by y when object id is frozen. -/
def FSub (O : List AObj) (id : Nat) (x y : AVal) : Prop :=
  ∀ (g : G) (u : Value) (l' : Option Loc), Good g → g.objs = O → g.env[id]? = some l' → Le g (g.freeze id l') → RV g x u → RV (g.freeze id l') y u

theorem FSub.refl {O : List AObj} {id : Nat} (x : AVal) : FSub O id x x := fun _ _ _ _ _ _ hle h => h.mono hle
theorem FSub.of_eq {O : List AObj} {id : Nat} {x y : AVal} (h : x = y) : FSub O id x y := h ▸ FSub.refl x
theorem FSub.share {O : List AObj} {id : Nat} {x y : AVal} (h : x.share = y) : FSub O id x y := fun _ _ _ _ _ _ hle k => h ▸ (k.mono hle).share

theorem freeze_own {g : G} (hg : Good g) {id : Nat} {l : Loc} {o : AObj} (he : g.env[id]? = some (some l)) (ho : g.objs[id]? = some o) (hl : o.live) (off : Nat) : ¬ OwnC (g.freeze id (some l)) l.block off := by
  have hlt := lt_of_getElem? ho
  rintro (hf | ⟨id', l', o', h1, h2, h3, h4, _⟩)
  · exact hg.frown id l o he ho hl off hf
  · simp only [G.freeze, G.turn] at h1 h2
    by_cases e : id' = id
    · subst e
      rw [List.getElem?_set_self (by omega)] at h2
      simp only [Option.some.injEq] at h2
      subst h2
      exact h3
    · rw [List.getElem?_set_ne (Ne.symm e)] at h1 h2
      exact e (hg.apart id' id l' l o' o h1 h2 h3 he ho hl h4)

theorem FSub.mp {O : List AObj} {id off : Nat} {cs ds : List AVal} (hid : O[id]? = some (.cells cs)) (hd : (cs.drop off).map AVal.shareCell = ds) : FSub O id (.mp id off) (.ip none ds) := fun g u l' hg hO he hle h => by
  obtain ⟨l, o1, h1, h2, _, eu⟩ := h.mp_inv
  subst eu
  rw [he] at h1
  simp only [Option.some.injEq] at h1
  subst h1
  have hid' : g.objs[id]? = some (.cells cs) := by rw [hO]; exact hid
  obtain ⟨arr, t', hlo, hrow, hlen, hcs, hcsc⟩ := hg.row hid' he
  subst hd
  refine .ip (.inl rfl) (fun c hc => by
    obtain ⟨c', h1, h2⟩ := List.mem_map.1 hc
    subst h2
    exact AVal.scalar_shareCell (hcsc c' (List.mem_of_mem_drop h1))) (fun j => arr.getD (off + j) undef) (fun j c hj => ?_) (fun j c hj => ?_)
  · rw [List.getElem?_map, Option.map_eq_some_iff] at hj
    obtain ⟨c', hj, _⟩ := hj
    rw [List.getElem?_drop] at hj
    have hlt := lt_of_getElem? hj
    refine ⟨?_, freeze_own hg he hid' trivial _⟩
    show g.w.cell? _ = _
    rw [cell_of_row hrow]
    simp [Array.getD_eq_getD_getElem?, show off + j < arr.size by omega]
  · rw [List.getElem?_map, Option.map_eq_some_iff] at hj
    obtain ⟨c', hj, e⟩ := hj
    subst e
    rw [List.getElem?_drop] at hj
    have hlt := lt_of_getElem? hj
    exact ((hcs _ c' _ hj (by simp [Array.getD_eq_getD_getElem?, show off + j < arr.size by omega])).mono hle).shareCell

theorem FSub.ms {O : List AObj} {id off len cap sz : Nat} {cs xs : List AVal} (hid : O[id]? = some (.cells cs)) (hsz : ∀ x ∈ xs, x.cells.length = sz) (hlen : xs.length = len) (hd : ((cs.drop off).take (len * sz)).map AVal.shareCell = cellsAll xs) : FSub O id (.ms id off len cap) (.lst sz xs .sh) := fun g u l' hg hO he hle h => by
  obtain ⟨l, o1, h1, h2, _, hlc, hmax, cap', hcap, eu⟩ := h.ms_inv
  subst eu
  rw [he] at h1
  simp only [Option.some.injEq] at h1
  subst h1
  have hid' : g.objs[id]? = some (.cells cs) := by rw [hO]; exact hid
  obtain ⟨arr, t', hlo, hrow, hal, hcs, hcsc⟩ := hg.row hid' he
  subst hlen
  have key : ∀ (j : Nat) (c : AVal), (cellsAll xs)[j]? = some c → ∃ c', cs[off + j]? = some c' ∧ c'.shareCell = c := fun j c hj => by
    rw [← hd, List.getElem?_map, Option.map_eq_some_iff] at hj
    obtain ⟨c', hj, e⟩ := hj
    have := take_get hj
    rw [List.getElem?_drop] at this
    exact ⟨c', this, e⟩
  refine .lst hsz (fun x hx c hc => ?_) (Nat.le_trans hlc hcap) hmax (fun _ => rfl) (fun j => arr.getD (off + j) undef) (fun j c hj => ?_) (fun j c hj => ?_) trivial
  · have hmem : c ∈ cellsAll xs := by
      simp only [cellsAll, List.mem_flatMap]
      exact ⟨x, hx, hc⟩
    obtain ⟨j, hj⟩ := List.getElem?_of_mem hmem
    obtain ⟨c', hj', e⟩ := key j c hj
    subst e
    exact AVal.scalar_shareCell (hcsc c' (List.mem_of_getElem? hj'))
  · obtain ⟨c', hj', e⟩ := key j c hj
    have hlt := lt_of_getElem? hj'
    refine ⟨?_, freeze_own hg he hid' trivial _⟩
    show g.w.cell? _ = _
    simp only
    rw [cell_of_row hrow]
    simp [Array.getD_eq_getD_getElem?, show off + j < arr.size by omega]
  · obtain ⟨c', hj', e⟩ := key j c hj
    have hlt := lt_of_getElem? hj'
    subst e
    exact ((hcs _ c' _ hj' (by simp [Array.getD_eq_getD_getElem?, show off + j < arr.size by omega])).mono hle).shareCell

theorem FSub.mm {O : List AObj} {id : Nat} {kt : KT} {es : List (Value × AVal)} (hid : O[id]? = some (.map kt es)) : FSub O id (.mm id) (.im kt es) := fun g u l' hg hO he hle h => by
  obtain ⟨l, o1, h1, h2, _, eu⟩ := h.mm_inv
  subst eu
  rw [he] at h1
  simp only [Option.some.injEq] at h1
  subst h1
  have hid' : g.objs[id]? = some (.map kt es) := by rw [hO]; exact hid
  obtain ⟨l2, arr, clk, e1, e2, e3, e4, e5, e6⟩ := hg.map id kt es hid'
  rw [he] at e1
  simp only [Option.some.injEq] at e1
  subst e1
  exact .im (r := l.block) (clk := clk) (arr := arr) e3 (fun off => freeze_own hg he hid' trivial off) e4 (fun i e kx a b => (e6 i e kx a b).1) e5 (fun i e kx a b => (e6 i e kx a b).2.2.mono hle)

theorem FSub.agg {O : List AObj} {id : Nat} {cs ds : List AVal} (hl : cs.length = ds.length) (hs : ∀ d ∈ ds, d.scalar) (h : ∀ (j : Nat) (c d : AVal), cs[j]? = some c → ds[j]? = some d → FSub O id c d) : FSub O id (.agg cs) (.agg ds) := fun g u l' hg hO he hle k => by
  obtain ⟨vs, eu, h1, _, h3⟩ := k.agg_inv
  subst eu
  refine .agg (by omega) hs fun i d u hd hu => ?_
  have hlt := lt_of_getElem? hd
  have hc : cs[i]? = some cs[i] := List.getElem?_eq_getElem (by omega)
  exact h i _ d hc hd g u l' hg hO he hle (h3 i _ u hc hu)

theorem awp_freeze {P : Program} {kb : Nat} {c : Code} {Q : AEx → St → Prop} {n : Nat} {slots : List (Nat × AVal)} {O : List AObj} (id : Nat) {o : AObj} (hid : O[id]? = some o) (hp : ¬ o.isSpare) (hlive : o.live) (slots' : List (Nat × AVal))
    (hs : ∀ s y, look slots' s = some y → ∃ x, look slots s = some x ∧ FSub O id x y) (h : AWP P kb c Q ⟨n, slots', O.set id .gone⟩) : AWP P kb c Q ⟨n, slots, O⟩ :=
  h.weaken fun base a g hb hr => by
    have hO : g.objs = O := hr.objs
    have hid' : g.objs[id]? = some o := by rw [hO]; exact hid
    have hlt := env_lt hr.good hid'
    have he : g.env[id]? = some g.env[id] := List.getElem?_eq_getElem hlt
    have ht := turns_gone hid' he hp hlive
    have hle := Le.turn hr.good ht
    refine ⟨g.freeze id g.env[id], rfl, { le := hr.le.trans hle, good := Good.turn hr.good ht trivial (fun _ _ h => h.elim), objs := by simp [G.freeze, G.turn, hO], size := hr.size, defers := hr.defers, slot := fun s y hy => ?_ }⟩
    obtain ⟨x, h1, h2⟩ := hs s y hy
    obtain ⟨u, h3, h4⟩ := hr.slot s x h1
    exact ⟨u, h3, h2 g u _ hr.good hO he hle h4⟩

/-- One slot is told anew. -/
theorem awp_freeze1 {P : Program} {kb : Nat} {c : Code} {Q : AEx → St → Prop} {n : Nat} {slots : List (Nat × AVal)} {O : List AObj} (s id : Nat) {o : AObj} {x : AVal} (y : AVal) (hid : O[id]? = some o) (hp : ¬ o.isSpare) (hlive : o.live) (hx : look slots s = some x) (hf : FSub O id x y)
    (h : AWP P kb c Q ⟨n, putS s y slots, O.set id .gone⟩) : AWP P kb c Q ⟨n, slots, O⟩ :=
  awp_freeze id hid hp hlive (putS s y slots) (fun k z hz => by
    rw [look_putS] at hz
    split at hz
    · rename_i e
      subst e
      simp only [Option.some.injEq] at hz
      subst hz
      exact ⟨x, hx, hf⟩
    · exact ⟨z, hz, .refl z⟩) h

/-- The cells of another object are told anew. -/
theorem awp_freeze_in {P : Program} {kb : Nat} {c : Code} {Q : AEx → St → Prop} {n : Nat} {slots : List (Nat × AVal)} {O : List AObj} (id : Nat) {o : AObj} (hid : O[id]? = some o) (hp : ¬ o.isSpare) (hlive : o.live) (slots' : List (Nat × AVal))
    (hs : ∀ s y, look slots' s = some y → ∃ x, look slots s = some x ∧ FSub O id x y) (k : Nat) (hk : k ≠ id) (cs ds : List AVal) (hok : O[k]? = some (.cells cs)) (hl : cs.length = ds.length) (hsc : ∀ d ∈ ds, d.scalar)
    (hcs : ∀ (j : Nat) (c d : AVal), cs[j]? = some c → ds[j]? = some d → FSub O id c d) (h : AWP P kb c Q ⟨n, slots', (O.set id .gone).set k (.cells ds)⟩) : AWP P kb c Q ⟨n, slots, O⟩ :=
  h.weaken fun base a g hb hr => by
    have hO : g.objs = O := hr.objs
    have hid' : g.objs[id]? = some o := by rw [hO]; exact hid
    have hlt := env_lt hr.good hid'
    have he : g.env[id]? = some g.env[id] := List.getElem?_eq_getElem hlt
    have ht := turns_gone hid' he hp hlive
    have hle := Le.turn hr.good ht
    have hgood := Good.turn hr.good ht trivial (fun _ _ h => h.elim)
    obtain ⟨l, arr, t, e1, e2, e3, e4, e5, e6⟩ := hr.good.cells k cs (by rw [hO]; exact hok)
    have hok1 : (g.freeze id g.env[id]).objs[k]? = some (.cells cs) := by
      simp only [G.freeze, G.turn]
      rw [List.getElem?_set_ne (Ne.symm hk), hO]
      exact hok
    have hek1 : (g.freeze id g.env[id]).env[k]? = some (some l) := by
      simp only [G.freeze, G.turn]
      rw [List.getElem?_set_ne (Ne.symm hk)]
      exact e1
    have ht2 : Turns (g.freeze id g.env[id]) k (.cells cs) (some l) (.cells ds) g.w := {
      obj := hok1
      os := rfl
      tape := rfl
      output := rfl
      size := Nat.le_refl _
      block := fun _ _ _ => rfl
      cell := fun b off x hx _ => hx
      place := fun l1 h1 _ => by
        simp only [Option.some.injEq] at h1
        subst h1
        exact .inr ⟨l, hek1, trivial, rfl, Nat.le_refl _⟩
      spare := fun m h => by cases h
      plain := fun _ => ⟨by simp [AObj.isSpare], hek1⟩
      gone := by simp }
    have hle2 := Le.turn hgood ht2
    have hgood2 := Good.turn hgood ht2 ⟨l, arr, t, rfl, e2, e3, by omega, fun j d u hd hu => by
      have hlt := lt_of_getElem? hd
      have hc : cs[j]? = some cs[j] := List.getElem?_eq_getElem (by omega)
      exact (hcs j _ d hc hd g u _ hr.good hO he hle (e5 j _ u hc hu)).mono hle2, hsc⟩ (fun l1 h1 _ => by
        simp only [Option.some.injEq] at h1
        subst h1
        exact lt_of_getElem?' e3)
    refine ⟨(g.freeze id g.env[id]).turn k (some l) (.cells ds) g.w, rfl, { le := (hr.le.trans hle).trans hle2, good := hgood2, objs := by simp [G.freeze, G.turn, hO], size := hr.size, defers := hr.defers, slot := fun s y hy => ?_ }⟩
    obtain ⟨x, h1, h2⟩ := hs s y hy
    obtain ⟨u, h3, h4⟩ := hr.slot s x h1
    exact ⟨u, h3, (h2 g u _ hr.good hO he hle h4).mono hle2⟩

/-! nil or not -/

theorem awp_nilsplit {P : Program} {kb : Nat} {c : Code} {Q : AEx → St → Prop} {n : Nat} {slots : List (Nat × AVal)} {O : List AObj} (s : Nat) {sz : Nat} {xs : List AVal} {o : Own} (hs : look slots s = some (.lst sz xs o))
    (h1 : xs = [] → AWP P kb c Q ⟨n, putS s (.v (.slice none 0 0)) slots, O⟩) (h2 : AWP P kb c Q ⟨n, putS s (.lst sz xs .nn) slots, O⟩) : AWP P kb c Q ⟨n, slots, O⟩ := by
  intro base a g hb hr
  obtain ⟨u, e1, e2⟩ := hr.slot s _ hs
  have key : ∀ y, RV g y u → Rel base ⟨n, putS s y slots, O⟩ a g := fun y hy =>
    { le := hr.le, good := hr.good, objs := hr.objs, size := hr.size, defers := hr.defers, slot := fun k x hx => by
        simp only [St.get, look_putS] at hx
        split at hx
        · rename_i e
          subst e
          simp only [Option.some.injEq] at hx
          subst hx
          exact ⟨u, e1, hy⟩
        · exact hr.slot k x hx }
  cases e2 with
  | nil ho hn => exact h1 rfl base a g hb (key _ (.v trivial))
  | lst hsz hsc hcap hmax hs f hm hr ho => exact h2 base a g hb (key _ (.lst hsz hsc hcap hmax hs f hm hr trivial))

theorem run_neq_slice_some_nil {P : Program} (w : World) {t e : TypeId} (a : Addr) (n c : Nat) (ht : P.underlying t = some (.slice e)) :
    (binOp .neq t (.slice (some a) n c) (.slice none 0 0)).run P w = .ok (.bool true) w := by
  have h : ∀ d : Nat, (Op.equalIn (d + 1) t (.slice (some a) n c) (.slice none 0 0)).run P w = .ok false w := fun d => by
    simp [Op.equalIn, run_underlying ht]
  simp only [binOp]
  simp [Op.equal, Op.maxDepth, h 9999]

theorem run_neq_slice_nil_nil {P : Program} (w : World) {t e : TypeId} (n c : Nat) (ht : P.underlying t = some (.slice e)) :
    (binOp .neq t (.slice none n c) (.slice none 0 0)).run P w = .ok (.bool false) w := by
  have h : ∀ d : Nat, (Op.equalIn (d + 1) t (.slice none n c) (.slice none 0 0)).run P w = .ok true w := fun d => by
    simp [Op.equalIn, run_underlying ht]
  simp only [binOp]
  simp [Op.equal, Op.maxDepth, h 9999]

theorem run_nil_test {P : Program} (w : World) {op : BinOp} {t e : TypeId} {u : Value} {b r : Bool} (ht : P.underlying t = some (.slice e)) (hu : (∃ n c, u = .slice none n c ∧ b = true) ∨ (∃ a n c, u = .slice (some a) n c ∧ b = false))
    (hr : (op = .eql ∧ r = b) ∨ (op = .neq ∧ r = !b)) : (binOp op t u (.slice none 0 0)).run P w = .ok (.bool r) w := by
  rcases hu with ⟨n, c, e1, e2⟩ | ⟨a, n, c, e1, e2⟩ <;> rcases hr with ⟨e3, e4⟩ | ⟨e3, e4⟩ <;> subst e1 <;> subst e2 <;> subst e3 <;> subst e4
  · exact Go.Lib.run_eql_slice_nil_nil w n c ht
  · exact run_neq_slice_nil_nil w n c ht
  · exact Go.Lib.run_eql_slice_some_nil w a n c ht
  · exact run_neq_slice_some_nil w a n c ht

theorem cert_eqlNil {P : Program} {tab : Tab} (hT : TabOK P tab) {o : Oper} {σ : St} {t t' e : TypeId} {x : Operand} {ti : TInfo} {y : AVal} {b r : Bool} {op : BinOp}
    (ho : o.op = .binOp op t x (.const (.slice none 0 0)) t') (hd : ∀ d, o.dst = some d → d < σ.n) (ht : tab t = some ti) (hdesc : ti.desc = .slice e) (hx : σ.ev x = some y)
    (hy : (y = .v (.slice none 0 0) ∧ b = true) ∨ (∃ sz xs, y = .lst sz xs .nn ∧ b = false) ∨ (∃ id off len cap, y = .ms id off len cap ∧ b = false)) (hr : (op = .eql ∧ r = b) ∨ (op = .neq ∧ r = !b)) : Cert P o σ (.v (.bool r)) .pure :=
  Cert.ofQuiet .pure (.inl rfl) hd fun a g _ h _ => by
    have hu := slice_desc hT ht hdesc
    have hx' := h x (by simp [ho, Op.operands]) _ hx
    refine ⟨.bool r, ?_, .v trivial⟩
    have hsl : (∃ n c, a.eval x = .slice none n c ∧ b = true) ∨ (∃ ad n c, a.eval x = .slice (some ad) n c ∧ b = false) := by
      rcases hy with ⟨e1, e2⟩ | ⟨sz, xs, e1, e2⟩ | ⟨id, off, len, cap, e1, e2⟩
      · subst e1
        exact .inl ⟨_, _, hx'.v_inv.1, e2⟩
      · subst e1
        cases hv : a.eval x with
        | slice ad len cap =>
          rw [hv] at hx'
          cases hx' with
          | nil ho hn => exact absurd rfl hn
          | lst hsz hsc hcap hmax hs f hm hr ho => exact .inr ⟨_, _, _, rfl, e2⟩
        | _ => rw [hv] at hx'; cases hx'
      · subst e1
        obtain ⟨l, o1, _, _, _, _, _, cap', _, eu⟩ := hx'.ms_inv
        exact .inr ⟨_, _, _, eu, e2⟩
    have hrun := run_nil_test (P := P) g.w hu hsl hr
    have hsl' : ∃ ad n c, a.eval x = .slice ad n c := by
      rcases hsl with ⟨_, _, e, _⟩ | ⟨_, _, _, e, _⟩
      · exact ⟨_, _, _, e⟩
      · exact ⟨_, _, _, e⟩
    obtain ⟨ad, n, c, hsl'⟩ := hsl'
    have hg := run_eqGuard_flat (P := P) op t x (.const (.slice none 0 0)) (.slice ad n c) (.slice none 0 0) g.w (by simp) (by simp)
    rw [hsl'] at hrun
    have hc : a.eval (.const (.slice none 0 0)) = .slice none 0 0 := rfl
    simp [execOp, ho, hsl', hc, hg, hrun]

theorem cert_capEx {P : Program} {tab : Tab} (hT : TabOK P tab) {o : Oper} {σ : St} {t e : TypeId} {x : Operand} {ti : TInfo} {sz : Nat} {xs : List AVal}
    (ho : o.op = .call ⟨.builtin .cap, #[x], #[t]⟩) (hd : ∀ d, o.dst = some d → d < σ.n) (ht : tab t = some ti) (hdesc : ti.desc = .slice e) (hx : σ.ev x = some (.lst sz xs .ex)) : Cert P o σ (.v (.int .i64 xs.length)) .pure :=
  Cert.ofQuiet .pure (.inl rfl) hd fun a g _ h _ => by
    have hu := slice_desc hT ht hdesc
    have hx' := h x (by simp [ho, Op.operands, Call.operands]) _ hx
    have hmax := hx'.lst_len
    have key : ∃ ad, a.eval x = .slice ad xs.length xs.length := by
      rcases hx'.lst_inv with ⟨q1, q2⟩ | ⟨ad, cap, _, q1, _, _, _, _, _, _, _, q2⟩
      · subst q2
        exact ⟨_, q1⟩
      · have q3 : cap = xs.length := q2
        subst q3
        exact ⟨_, q1⟩
    obtain ⟨ad, q1⟩ := key
    refine ⟨.int .i64 xs.length, ?_, .v ?_⟩
    · rw [run_builtin1 ho]
      simp [builtin, Builtin.cap_, q1, run_underlying hu, goInt]
    · simp [flatOK, IntKind.min, IntKind.max, IntKind.bits, IntKind.signed]
      omega

theorem cert_nilCheck {P : Program} {o : Oper} {σ : St} {x : Operand} {y : AVal} (ho : o.op = .nilCheck x) (hd : ∀ d, o.dst = some d → d < σ.n) (hx : σ.ev x = some y)
    (hy : (∃ id off, y = .mp id off) ∨ ∃ oa cs, y = .ip oa cs) : Cert P o σ y .pure :=
  Cert.ofQuiet .pure (.inl rfl) hd fun a g _ h _ => by
    have hx' := h x (by simp [ho, Op.operands]) _ hx
    have key : ∃ ad, a.eval x = .pointer (some ad) := by
      rcases hy with ⟨id, off, e⟩ | ⟨oa, cs, e⟩
      · subst e
        obtain ⟨l, o1, _, _, _, eu⟩ := hx'.mp_inv
        exact ⟨_, eu⟩
      · subst e
        obtain ⟨b, off, f, eu, _⟩ := hx'.ip_inv
        exact ⟨_, eu⟩
    obtain ⟨ad, e⟩ := key
    exact ⟨a.eval x, by simp [execOp, ho, e], hx'⟩

/-! slices of objects -/

/-- A slice cut nowhere. -/
theorem cert_slice_full {P : Program} {tab : Tab} (hT : TabOK P tab) {o : Oper} {σ : St} {t e : TypeId} {x : Operand} {ti te : TInfo} {sz : Nat} {xs : List AVal} {ow : Own} {lo hi : Option Operand}
    (ho : o.op = .slice t x lo hi none) (hd : ∀ d, o.dst = some d → d < σ.n) (ht : tab t = some ti) (hdesc : ti.desc = .slice e) (he : tab e = some te) (hx : σ.ev x = some (.lst sz xs ow))
    (hlo : bndOK σ lo 0 0) (hhi : bndOK σ hi xs.length xs.length) : Cert P o σ (.lst sz xs ow) .pure :=
  Cert.ofQuiet .pure (.inl rfl) hd fun a g _ hh _ => by
    have hu := slice_desc hT ht hdesc
    have hx' := hh x (by cases lo <;> cases hi <;> simp [ho, Op.operands]) _ hx
    have hl : (lo = none) ∨ ∃ q k, lo = some q ∧ a.eval q = .int k (0 : Int) := by
      rcases hlo with q | ⟨q, k, e1, e2⟩
      · exact .inl q.1
      · exact .inr ⟨q, k, e1, (hh q (by subst e1; cases hi <;> simp [ho, Op.operands]) _ e2).v_inv.1⟩
    have hi' : (hi = none) ∨ ∃ q k, hi = some q ∧ a.eval q = .int k (xs.length : Int) := by
      rcases hhi with q | ⟨q, k, e1, e2⟩
      · exact .inl q.1
      · exact .inr ⟨q, k, e1, (hh q (by subst e1; cases lo <;> simp [ho, Op.operands]) _ e2).v_inv.1⟩
    have hexec : execOp a.eval o = (do pure (.value (← Instr.sliceAt t (a.eval x) (lo.map a.eval) (hi.map a.eval) none))) := by
      simp [execOp, ho]
    clear hlo hhi ho
    have bounds : ∀ cap : Nat, xs.length ≤ cap → (Instr.sliceBounds true xs.length cap (lo.map a.eval) (hi.map a.eval) none).run P g.w = .ok (0, xs.length, cap) g.w := by
      intro cap hcap
      rcases hl with e1 | ⟨p, k, e1, hk⟩
      · rcases hi' with e3 | ⟨q, k', e3, hk'⟩
        · subst e1 e3
          simp [Instr.sliceBounds]
        · subst e1 e3
          have := run_sliceBound (P := P) k' xs.length cap .sliceAcap g.w (by omega) (by omega)
          simp [Instr.sliceBounds, hk', this]
      · rcases hi' with e3 | ⟨q, k', e3, hk'⟩
        · subst e1 e3
          have := run_sliceBound (P := P) k 0 xs.length .sliceB g.w (by omega) (by omega)
          simp [Instr.sliceBounds, hk, this]
        · subst e1 e3
          have e1 := run_sliceBound (P := P) k' xs.length cap .sliceAcap g.w (by omega) (by omega)
          have e2 := run_sliceBound (P := P) k 0 xs.length .sliceB g.w (by omega) (by omega)
          simp [Instr.sliceBounds, hk, hk', e1, e2]
    have hsize := (hT e te he).sizeOf g.w
    refine ⟨a.eval x, ?_, hx'⟩
    rw [hexec]
    rcases hx'.lst_inv with ⟨q1, q2⟩ | ⟨ad, cap, f, q1, hsz', hsc, hcap, hmax, hs, hm, hr, _⟩
    · subst q2
      have b := bounds 0 (by simp)
      simp only [List.length_nil] at b
      simp [Instr.sliceAt, run_underlying hu, Instr.slice, q1, hsize, b]
    · have b := bounds cap hcap
      by_cases hc0 : cap = 0
      · subst hc0
        simp [Instr.sliceAt, run_underlying hu, Instr.slice, q1, hsize, b, Addr.add]
      · simp [Instr.sliceAt, run_underlying hu, Instr.slice, q1, hsize, b, hc0, Addr.add]


theorem cert_slice_ms {P : Program} {tab : Tab} (hT : TabOK P tab) {o : Oper} {σ : St} {t e : TypeId} {x : Operand} {ti te : TInfo} {id off len cap : Nat} {lo hi : Option Operand} {l h : Nat}
    (ho : o.op = .slice t x lo hi none) (hd : ∀ d, o.dst = some d → d < σ.n) (ht : tab t = some ti) (hdesc : ti.desc = .slice e) (he : tab e = some te) (hx : σ.ev x = some (.ms id off len cap))
    (hlo : bndOK σ lo 0 l) (hhi : bndOK σ hi len h) (h1 : l ≤ h) (h2 : h ≤ cap) (h3 : l < cap) (h62 : h ≤ 2 ^ 62) : Cert P o σ (.ms id (off + l * te.size) (h - l) (cap - l)) .pure :=
  Cert.ofQuiet .pure (.inl rfl) hd fun a g _ hh _ => by
    have hu := slice_desc hT ht hdesc
    have hx' := hh x (by cases lo <;> cases hi <;> simp [ho, Op.operands]) _ hx
    have hl : (lo = none ∧ l = 0) ∨ ∃ q k, lo = some q ∧ a.eval q = .int k (l : Int) := by
      rcases hlo with q | ⟨q, k, e1, e2⟩
      · exact .inl q
      · exact .inr ⟨q, k, e1, (hh q (by subst e1; cases hi <;> simp [ho, Op.operands]) _ e2).v_inv.1⟩
    have hi' : (hi = none ∧ h = len) ∨ ∃ q k, hi = some q ∧ a.eval q = .int k (h : Int) := by
      rcases hhi with q | ⟨q, k, e1, e2⟩
      · exact .inl q
      · exact .inr ⟨q, k, e1, (hh q (by subst e1; cases lo <;> simp [ho, Op.operands]) _ e2).v_inv.1⟩
    have hexec : execOp a.eval o = (do pure (.value (← Instr.sliceAt t (a.eval x) (lo.map a.eval) (hi.map a.eval) none))) := by
      simp [execOp, ho]
    clear hlo hhi ho
    obtain ⟨lc, o1, q1, q2, q3, hlc, hmax, cap', hcap, eu⟩ := hx'.ms_inv
    have bounds : (Instr.sliceBounds true len cap' (lo.map a.eval) (hi.map a.eval) none).run P g.w = .ok (l, h, cap') g.w := by
      rcases hl with ⟨e1, e2⟩ | ⟨p, k, e1, hk⟩
      · rcases hi' with ⟨e3, e4⟩ | ⟨q, k', e3, hk'⟩
        · subst e1 e2 e3 e4
          simp [Instr.sliceBounds]
        · subst e1 e2 e3
          have := run_sliceBound (P := P) k' h cap' .sliceAcap g.w (by omega) (by omega)
          simp [Instr.sliceBounds, hk', this]
      · rcases hi' with ⟨e3, e4⟩ | ⟨q, k', e3, hk'⟩
        · subst e1 e3 e4
          have := run_sliceBound (P := P) k l h .sliceB g.w (by omega) (by omega)
          simp [Instr.sliceBounds, hk, this]
        · subst e1 e3
          have e1 := run_sliceBound (P := P) k' h cap' .sliceAcap g.w (by omega) (by omega)
          have e2 := run_sliceBound (P := P) k l h .sliceB g.w (by omega) (by omega)
          simp [Instr.sliceBounds, hk, hk', e1, e2]
    have hsize := (hT e te he).sizeOf g.w
    refine ⟨.slice (some ((⟨lc.block, off, none⟩ : Addr).add (l * te.size))) (h - l) (cap' - l), ?_, ?_⟩
    · rw [hexec]
      simp [Instr.sliceAt, run_underlying hu, Instr.slice, eu, bounds, hsize, show cap' ≠ l by omega]
    · rw [addr_add]
      exact .ms q1 q2 q3 (by omega) (by omega) (by omega)

theorem cert_slice_raw {P : Program} {tab : Tab} (hT : TabOK P tab) {o : Oper} {σ : St} {t e : TypeId} {x : Operand} {ti te : TInfo} {id sz len : Nat} {lo hi : Option Operand} 
    (ho : o.op = .slice t x lo hi none) (hd : ∀ d, o.dst = some d → d < σ.n) (ht : tab t = some ti) (hdesc : ti.desc = .slice e) (he : tab e = some te) (hx : σ.ev x = some (.raw sz len id))
    (hlo : bndOK σ lo 0 0) (hhi : bndOK σ hi len 0) (h3 : 0 < len) : Cert P o σ (.lst sz [] (.tok id)) .pure :=
  Cert.ofQuiet .pure (.inl rfl) hd fun a g _ hh _ => by
    have hu := slice_desc hT ht hdesc
    have hx' := hh x (by cases lo <;> cases hi <;> simp [ho, Op.operands]) _ hx
    have hl : (lo = none ∧ (0 : Nat) = 0) ∨ ∃ q k, lo = some q ∧ a.eval q = .int k ((0 : Nat) : Int) := by
      rcases hlo with q | ⟨q, k, e1, e2⟩
      · exact .inl q
      · exact .inr ⟨q, k, e1, (hh q (by subst e1; cases hi <;> simp [ho, Op.operands]) _ e2).v_inv.1⟩
    have hi' : (hi = none ∧ (0 : Nat) = len) ∨ ∃ q k, hi = some q ∧ a.eval q = .int k ((0 : Nat) : Int) := by
      rcases hhi with q | ⟨q, k, e1, e2⟩
      · exact .inl q
      · exact .inr ⟨q, k, e1, (hh q (by subst e1; cases lo <;> simp [ho, Op.operands]) _ e2).v_inv.1⟩
    have hexec : execOp a.eval o = (do pure (.value (← Instr.sliceAt t (a.eval x) (lo.map a.eval) (hi.map a.eval) none))) := by
      simp [execOp, ho]
    clear hlo hhi ho
    obtain ⟨ad, cap', eu, hcap, how⟩ := hx'.raw_inv
    have bounds : (Instr.sliceBounds true len cap' (lo.map a.eval) (hi.map a.eval) none).run P g.w = .ok (0, 0, cap') g.w := by
      rcases hl with ⟨e1, e2⟩ | ⟨p, k, e1, hk⟩
      · rcases hi' with ⟨e3, e4⟩ | ⟨q, k', e3, hk'⟩
        · omega
        · subst e1 e3
          have := run_sliceBound (P := P) k' 0 cap' .sliceAcap g.w (by omega) (by omega)
          simp [Instr.sliceBounds, hk', this]
      · rcases hi' with ⟨e3, e4⟩ | ⟨q, k', e3, hk'⟩
        · omega
        · subst e1 e3
          have e1 := run_sliceBound (P := P) k' 0 cap' .sliceAcap g.w (by omega) (by omega)
          have e2 := run_sliceBound (P := P) k 0 0 .sliceB g.w (by omega) (by omega)
          simp [Instr.sliceBounds, hk, hk', e1, e2]
    have hsize := (hT e te he).sizeOf g.w
    refine ⟨.slice (some (ad.add (0 * te.size))) (0 - 0) (cap' - 0), ?_, ?_⟩
    · rw [hexec]
      simp [Instr.sliceAt, run_underlying hu, Instr.slice, eu, bounds, hsize, show cap' ≠ 0 by omega]
    · rw [Nat.zero_mul, show ad.add 0 = ad by cases ad; rfl]
      exact .lst (xs := []) (by simp) (by simp) (Nat.zero_le _) (Nat.zero_le _) (by simp) (fun _ => undef) (by simp [cellsAll]) (by simp [cellsAll]) how

/-- A list that is not empty is appended to a slice that is full: a new object. -/
theorem cert_append_obj {P : Program} {tab : Tab} (hT : TabOK P tab) {o : Oper} {σ : St} {t e : TypeId} {x y : Operand} {ti te : TInfo} {sz : Nat} {xs ys : List AVal} {ow : Own}
    (ho : o.op = .call ⟨.builtin .append, #[x, y], #[t, t]⟩) (hd : ∀ d, o.dst = some d → d < σ.n) (ht : tab t = some ti) (hdesc : ti.desc = .slice e) (he : tab e = some te) (hsz : te.size = sz) (hx : σ.ev x = some (.lst sz xs .ex)) (hy : σ.ev y = some (.lst sz ys ow))
    (hn : ys.length ≠ 0) (hlen : xs.length + ys.length ≤ 2 ^ 62) (hb : (xs.length + ys.length) * te.bytes ≤ 2 ^ 47) :
    Cert P o σ (.ms σ.objs.length 0 (xs.length + ys.length) (xs.length + ys.length)) (.write (σ.objs ++ [.cells (cellsAll (xs ++ ys.map AVal.share))])) :=
  Cert.ofRun hd fun base σ' a g hrel h ho' => by
    have hO : g.objs = σ.objs := ho'.resolve_left (by simp)
    have hg := hrel.good
    have hu := slice_desc hT ht hdesc
    subst hsz
    have hx' := h x (by simp [ho, Op.operands, Call.operands]) _ hx
    have hy' := h y (by simp [ho, Op.operands, Call.operands]) _ hy
    obtain ⟨adx, capx, olds, ex, hx1, hx2, hx3, hx4, hx5, hx6⟩ := hx'.lst_read (P := P)
    obtain ⟨ady, capy, news, ey, hy1, hy2, hy3, hy4, hy5, hy6⟩ := hy'.lst_read (P := P)
    obtain ⟨⟨i, z, h1, h2, h3, h4, h5, h6, h7, h8, h9⟩, _⟩ := hT e te he
    have hcapx : capx = xs.length := by
      rcases hx'.lst_inv with ⟨q1, q2⟩ | ⟨ad, cap, f, q1, _, _, _, _, _, _, _, q2⟩
      · rw [ex] at q1
        cases q2
        simp at q1
        simp [q1]
      · rw [ex] at q1
        simp only [Value.slice.injEq] at q1
        rw [q1.2.2]
        exact q2
    subst hcapx
    have hexec := run_builtin1 (P := P) ho a g.w
    simp only [builtin, List.map_toArray, List.map_cons, List.map_nil] at hexec
    have hrun := run_append_new (P := P) g.w t o.type e i z hu h1 h4 adx xs.length xs.length ys.length (a.eval y) olds news hy1 (by rw [h2]; exact hy2 g.w.drew rfl) (by rw [h2, ← ex]; exact hx2 g.w.drew rfl) (by omega) hlen (by rw [h3]; exact hb)
    rw [← ex] at hrun
    obtain ⟨cap, hcap⟩ : ∃ cap, cap = grownCap g.w (xs.length + ys.length) xs.length e := ⟨_, rfl⟩
    obtain ⟨rest, hrest⟩ : ∃ rest, rest = Builtin.zeroCells z.cells (cap - (xs.length + ys.length)) := ⟨_, rfl⟩
    have hge := grownCap_ge g.w (xs.length + ys.length) xs.length e
    rw [← hcap] at hrun hge
    rw [← hrest] at hrun
    obtain ⟨arr, harr⟩ : ∃ arr, arr = olds.toArray ++ news.toArray ++ rest := ⟨_, rfl⟩
    rw [← harr] at hrun
    have hgd := hg.heap (w' := g.w.drew) rfl rfl rfl rfl
    have hled := Le.heap (g := g) (w' := g.w.drew) rfl rfl rfl rfl
    obtain ⟨g1, hg1⟩ : ∃ g1 : G, g1 = ⟨g.w.drew, g.fr, g.env, g.objs⟩ := ⟨_, rfl⟩
    rw [← hg1] at hgd hled
    have hw1 : g1.w = g.w.drew := by rw [hg1]
    have ho1 : g1.objs = σ.objs := by rw [hg1]; exact hO
    have hcells := hx3.append hy3.share_list
    rw [← cellsAll_append] at hcells
    have hcl : (cellsAll (xs ++ ys.map AVal.share)).length = (xs.length + ys.length) * te.size := by
      rw [cellsAll_length (sz := te.size) (fun x hx => by
        rcases List.mem_append.1 hx with q | q
        · exact hx4 x q
        · exact map_share_size hy4 x q)]
      simp
    have hasz : (cellsAll (xs ++ ys.map AVal.share)).length ≤ arr.size := by
      rw [hcl, harr]
      simp only [Array.size_append, List.size_toArray, hx6, hy6, ← Nat.add_mul]
      omega
    have hle := hled.trans (Le.alloc hgd (.cells arr e) 0 (.cells (cellsAll (xs ++ ys.map AVal.share))))
    have hobj : Fits (g1.alloc (.cells arr e) 0 (.cells (cellsAll (xs ++ ys.map AVal.share)))) (.cells arr e) (.cells (cellsAll (xs ++ ys.map AVal.share))) := by
      refine ⟨arr, e, rfl, hasz, fun j c u hj hu => ?_, fun c hc => ?_⟩
      · have hlt := lt_of_getElem? hj
        rw [hcl] at hlt
        rw [harr] at hu
        have hu2 := append_cells_get hu (by simp only [List.size_toArray, hx6, hy6, ← Nat.add_mul]; exact hlt)
        exact (hcells.2 j c u hj (by simpa using hu2)).mono hle
      · rw [cellsAll_append] at hc
        rcases List.mem_append.1 hc with q | q
        · exact hx5 c q
        · exact map_share_scalar hy5 c q
    have hgood := Good.alloc hgd (.cells arr e) 0 (.cells (cellsAll (xs ++ ys.map AVal.share))) (.inr rfl) hobj
    refine ⟨.slice (some ⟨g.w.heap.size, 0, none⟩) (xs.length + ys.length) cap, _, .inl ?_, hle, hgood, ?_, ?_⟩
    · rw [hexec]
      simp [hrun, G.alloc, hw1]
    · simp [G.alloc, ho1, Mode.post]
    · rw [← ho1]
      have e1 : (g.w.heap.size) = g1.w.heap.size := by rw [hw1]; rfl
      rw [e1]
      exact .ms (l := ⟨g1.w.heap.size, 0⟩) (env_new hgd) objs_new (by simp [AObj.isSpare]) (Nat.le_refl _) hge hlen

/-- 'append(s[:0], make([]E, n)...)' at a slice without room. -/
theorem run_append_made {P : Program} (w : World) (t t' ty e : TypeId) (i : TypeInfo) (z : Value) (ht : P.underlying t = some (.slice e)) (ht' : P.underlying t' = some (.int .i64)) (hi : P.info? e = some i) (hz : i.zero = some z) (s : Option Addr) (n : Nat)
    (hs : (Builtin.firstCells i.size 0 (.slice s 0 0)).run P w.drew = .ok #[] w.drew) (hn : 0 < n) (h63 : n ≤ 2 ^ 62) (hfit : n * i.bytes ≤ 2 ^ 47) (hsz : 0 < i.size) :
    (Builtin.append_ #[t, t'] ty #[.slice s 0 0, .int .i64 n]).run P w =
      .ok (.slice (some ⟨w.heap.size, 0, none⟩) n (grownCap w n 0 e)) (w.drew.alloc (.cells (Builtin.zeroCells z.cells n ++ Builtin.zeroCells z.cells (grownCap w n 0 e - n)) e)) := by
  have hw : IntKind.i64.wrap (n : Int) = n := wrap_in .i64 n (by simp [IntKind.min, IntKind.bits, IntKind.signed] <;> omega) (by simp [IntKind.max, IntKind.bits, IntKind.signed] <;> omega)
  have h0 : ¬ ((n : Int) < 0) := by omega
  have h48 : ¬ ((2 : Int) ^ 48 < (n : Int) * (i.bytes : Int)) := by
    rw [← Int.natCast_mul]
    omega
  have hns : ¬ (n ≤ 0) := by omega
  have hne : ¬ (n * i.size = 0) := by
    have := Nat.mul_pos hn hsz
    omega
  have h1 : ¬ (9223372036854775807 < (n : Int)) := by omega
  have hcap : Builtin.nextslicecap n 0 = n := by
    unfold Builtin.nextslicecap
    rw [if_pos (by omega)]
  have ha : ∀ w : World, (asInt (.int .i64 (n : Int))).run P w = .ok (n : Int) w := fun _ => rfl
  have h48' : ¬ (281474976710656 < (n : Int) * (i.bytes : Int)) := by
    rw [← Int.natCast_mul]
    omega
  have h48'' : ¬ (281474976710656 < n * i.bytes) := by omega
  have hn0 : ¬ (n = 0) := by omega
  simp [Builtin.append_, run_underlying ht, run_underlying ht', Go.sizeOf, typeInfo, hi, ha, hw, hn0, h48', h48'', hcap, Question.forced, hs, Go.zeroValue, hz, Go.newRow, grownCap, h1]
  rw [if_neg h0, if_neg hne]

theorem cert_append_make {P : Program} {tab : Tab} (hT : TabOK P tab) {o : Oper} {σ : St} {t t' e : TypeId} {x y : Operand} {ti te : TInfo} {sz : Nat} {n : Int}
    (ho : o.op = .call ⟨.builtin .append, #[x, y], #[t, t']⟩) (hd : ∀ d, o.dst = some d → d < σ.n) (ht : tab t = some ti) (hdesc : ti.desc = .slice e) (he : tab e = some te) (ht' : P.underlying t' = some (.int .i64)) (hx : σ.ev x = some (.lst sz [] .ex)) (hy : σ.ev y = some (.v (.int .i64 n)))
    (hn : 0 < n) (hlen : n.toNat ≤ 2 ^ 62) (hb : n.toNat * te.bytes ≤ 2 ^ 47) (hsz : 0 < te.size) :
    Cert P o σ (.ms σ.objs.length 0 n.toNat n.toNat) (.write (σ.objs ++ [.cells (List.replicate n.toNat te.zero).flatten])) :=
  Cert.ofRun hd fun base σ' a g hrel h ho' => by
    have hO : g.objs = σ.objs := ho'.resolve_left (by simp)
    have hg := hrel.good
    have hu := slice_desc hT ht hdesc
    have hx' := h x (by simp [ho, Op.operands, Call.operands]) _ hx
    have ey := (h y (by simp [ho, Op.operands, Call.operands]) _ hy).v_inv.1
    obtain ⟨adx, capx, olds, ex, hx1, hx2, hx3, hx4, hx5, hx6⟩ := hx'.lst_read (P := P)
    obtain ⟨⟨i, z, h1, h2, h3, h4, h5, h6, h7, h8, h9⟩, _⟩ := hT e te he
    obtain ⟨m, rfl⟩ := Int.eq_ofNat_of_zero_le (show 0 ≤ n by omega)
    simp only [Int.toNat_natCast] at *
    have hcapx : capx = 0 := by
      rcases hx'.lst_inv with ⟨q1, q2⟩ | ⟨ad, cap, f, q1, _, _, _, _, _, _, _, q2⟩
      · rw [ex] at q1
        simp at q1
        exact q1.2
      · rw [ex] at q1
        simp only [Value.slice.injEq] at q1
        rw [q1.2.2]
        exact q2
    subst hcapx
    simp only [List.length_nil] at ex
    have hexec := run_builtin1 (P := P) ho a g.w
    simp only [builtin, List.map_toArray, List.map_cons, List.map_nil] at hexec
    have hrun := run_append_made (P := P) g.w t t' o.type e i z hu ht' h1 h4 adx m (by cases adx <;> simp [Builtin.firstCells, loadCells, loadCellsFrom]) (by omega) hlen (by rw [h3]; exact hb) (by omega)
    rw [← ex] at hrun
    obtain ⟨cap, hcap⟩ : ∃ cap, cap = grownCap g.w m 0 e := ⟨_, rfl⟩
    have hge := grownCap_ge g.w m 0 e
    rw [← hcap] at hrun hge
    obtain ⟨rest, hrest⟩ : ∃ rest, rest = Builtin.zeroCells z.cells (cap - m) := ⟨_, rfl⟩
    rw [← hrest] at hrun
    obtain ⟨arr, harr⟩ : ∃ arr, arr = Builtin.zeroCells z.cells m ++ rest := ⟨_, rfl⟩
    rw [← harr] at hrun
    have hgd := hg.heap (w' := g.w.drew) rfl rfl rfl rfl
    have hled := Le.heap (g := g) (w' := g.w.drew) rfl rfl rfl rfl
    obtain ⟨g1, hg1⟩ : ∃ g1 : G, g1 = ⟨g.w.drew, g.fr, g.env, g.objs⟩ := ⟨_, rfl⟩
    rw [← hg1] at hgd hled
    have hw1 : g1.w = g.w.drew := by rw [hg1]
    have ho1 : g1.objs = σ.objs := by rw [hg1]; exact hO
    have hflen : (List.replicate m te.zero).flatten.length = m * te.size := by simp [h6]
    have hget : ∀ (j : Nat) (c : AVal), (List.replicate m te.zero).flatten[j]? = some c → te.zero[j % te.size]? = some c := fun j c => h6 ▸ rep_get te.zero (by omega) m j c
    have hle := hled.trans (Le.alloc hgd (.cells arr e) 0 (.cells (List.replicate m te.zero).flatten))
    have hzs : (Builtin.zeroCells z.cells m).size = m * te.size := by rw [size_zeroCells, h5, h6]
    have hobj : Fits (g1.alloc (.cells arr e) 0 (.cells (List.replicate m te.zero).flatten)) (.cells arr e) (.cells (List.replicate m te.zero).flatten) := by
      refine ⟨arr, e, rfl, by rw [hflen, harr, Array.size_append, hzs]; omega, fun j c u hj hu => ?_, fun c hc => ?_⟩
      · have hj' := hget j c hj
        have hlt := lt_of_getElem? hj
        rw [hflen] at hlt
        rw [harr, Array.getElem?_append, if_pos (by rw [hzs]; exact hlt)] at hu
        have hlt' : j % te.size < z.cells.size := by rw [h5]; exact lt_of_getElem? hj'
        refine h8 _ _ _ _ hj' ?_
        simp only [Builtin.zeroCells, Array.getElem?_map, h5, h6, Array.getElem?_range, if_pos hlt, Option.map_some, Option.some.injEq] at hu
        subst hu
        simp [hlt']
      · rw [List.mem_flatten] at hc
        obtain ⟨l, hl, hc⟩ := hc
        rw [List.mem_replicate] at hl
        exact h9 c (hl.2 ▸ hc)
    have hgood := Good.alloc hgd (.cells arr e) 0 (.cells (List.replicate m te.zero).flatten) (.inr rfl) hobj
    refine ⟨.slice (some ⟨g.w.heap.size, 0, none⟩) m cap, _, .inl ?_, hle, hgood, ?_, ?_⟩
    · rw [hexec, ey]
      simp [hrun, G.alloc, hw1]
    · simp [G.alloc, ho1, Mode.post]
    · rw [← ho1]
      have e1 : (g.w.heap.size) = g1.w.heap.size := by rw [hw1]; rfl
      rw [e1]
      exact .ms (l := ⟨g1.w.heap.size, 0⟩) (env_new hgd) objs_new (by simp [AObj.isSpare]) (Nat.le_refl _) (by omega) hlen

/-- The same, told as room alone. -/
theorem cert_append_raw {P : Program} {tab : Tab} (hT : TabOK P tab) {o : Oper} {σ : St} {t t' e : TypeId} {x y : Operand} {ti te : TInfo} {sz : Nat} {n : Int}
    (ho : o.op = .call ⟨.builtin .append, #[x, y], #[t, t']⟩) (hd : ∀ d, o.dst = some d → d < σ.n) (ht : tab t = some ti) (hdesc : ti.desc = .slice e) (he : tab e = some te) (ht' : P.underlying t' = some (.int .i64)) (hx : σ.ev x = some (.lst sz [] .ex)) (hy : σ.ev y = some (.v (.int .i64 n)))
    (hn : 0 < n) (hlen : n.toNat ≤ 2 ^ 62) (hb : n.toNat * te.bytes ≤ 2 ^ 47) (hsz : 0 < te.size) :
    Cert P o σ (.raw te.size n.toNat σ.objs.length) (.write (σ.objs ++ [.spare 0])) :=
  Cert.ofRun hd fun base σ' a g hrel h ho' => by
    have hO : g.objs = σ.objs := ho'.resolve_left (by simp)
    have hg := hrel.good
    have hu := slice_desc hT ht hdesc
    have hx' := h x (by simp [ho, Op.operands, Call.operands]) _ hx
    have ey := (h y (by simp [ho, Op.operands, Call.operands]) _ hy).v_inv.1
    obtain ⟨adx, capx, olds, ex, hx1, hx2, hx3, hx4, hx5, hx6⟩ := hx'.lst_read (P := P)
    obtain ⟨⟨i, z, h1, h2, h3, h4, h5, h6, h7, h8, h9⟩, _⟩ := hT e te he
    obtain ⟨m, rfl⟩ := Int.eq_ofNat_of_zero_le (show 0 ≤ n by omega)
    simp only [Int.toNat_natCast] at *
    have hcapx : capx = 0 := by
      rcases hx'.lst_inv with ⟨q1, q2⟩ | ⟨ad, cap, f, q1, _, _, _, _, _, _, _, q2⟩
      · rw [ex] at q1
        simp at q1
        exact q1.2
      · rw [ex] at q1
        simp only [Value.slice.injEq] at q1
        rw [q1.2.2]
        exact q2
    subst hcapx
    simp only [List.length_nil] at ex
    have hexec := run_builtin1 (P := P) ho a g.w
    simp only [builtin, List.map_toArray, List.map_cons, List.map_nil] at hexec
    have hrun := run_append_made (P := P) g.w t t' o.type e i z hu ht' h1 h4 adx m (by cases adx <;> simp [Builtin.firstCells, loadCells, loadCellsFrom]) (by omega) hlen (by rw [h3]; exact hb) (by omega)
    rw [← ex] at hrun
    obtain ⟨cap, hcap⟩ : ∃ cap, cap = grownCap g.w m 0 e := ⟨_, rfl⟩
    have hge := grownCap_ge g.w m 0 e
    rw [← hcap] at hrun hge
    obtain ⟨rest, hrest⟩ : ∃ rest, rest = Builtin.zeroCells z.cells (cap - m) := ⟨_, rfl⟩
    rw [← hrest] at hrun
    obtain ⟨arr, harr⟩ : ∃ arr, arr = Builtin.zeroCells z.cells m ++ rest := ⟨_, rfl⟩
    rw [← harr] at hrun
    have hgd := hg.heap (w' := g.w.drew) rfl rfl rfl rfl
    have hled := Le.heap (g := g) (w' := g.w.drew) rfl rfl rfl rfl
    obtain ⟨g1, hg1⟩ : ∃ g1 : G, g1 = ⟨g.w.drew, g.fr, g.env, g.objs⟩ := ⟨_, rfl⟩
    rw [← hg1] at hgd hled
    have hw1 : g1.w = g.w.drew := by rw [hg1]
    have ho1 : g1.objs = σ.objs := by rw [hg1]; exact hO
    have hle := hled.trans (Le.alloc hgd (.cells arr e) 0 (.spare 0))
    have hzs : (Builtin.zeroCells z.cells m).size = m * te.size := by rw [size_zeroCells, h5, h6]
    have hgood := Good.alloc hgd (.cells arr e) 0 (.spare 0) (.inr rfl) ⟨arr, e, rfl⟩
    have hrs : rest.size = (cap - m) * te.size := by rw [hrest, size_zeroCells, h5, h6]
    refine ⟨.slice (some ⟨g.w.heap.size, 0, none⟩) m cap, _, .inl ?_, hle, hgood, ?_, ?_⟩
    · rw [hexec, ey]
      simp [hrun, G.alloc, hw1]
    · simp [G.alloc, ho1, Mode.post]
    · rw [← ho1]
      have e1 : (g.w.heap.size) = g1.w.heap.size := by rw [hw1]; rfl
      rw [e1]
      refine .raw (by omega) ⟨by simp [G.alloc], fun m' hm' => ?_⟩
      have hnew : (g1.alloc (.cells arr e) 0 (.spare 0)).objs[g1.objs.length]? = some (.spare 0) := objs_new
      rw [hnew] at hm'
      simp only [Option.some.injEq, AObj.spare.injEq] at hm'
      subst hm'
      refine ⟨Nat.le_refl _, fun _ => .inr ⟨⟨g1.w.heap.size, 0⟩, arr, e, env_new hgd, rfl, by simp, heap_push_new _ _, ?_⟩⟩
      rw [harr, Array.size_append, hzs, hrs, ← Nat.add_mul]
      exact Nat.mul_le_mul_right _ (by omega)

/-- There is room in the object. -/
theorem cert_append_ms {P : Program} {tab : Tab} (hT : TabOK P tab) {o : Oper} {σ : St} {t e : TypeId} {x y : Operand} {ti te : TInfo} {id off len cap sz : Nat} {cs ys : List AVal} {ow : Own}
    (ho : o.op = .call ⟨.builtin .append, #[x, y], #[t, t]⟩) (hd : ∀ d, o.dst = some d → d < σ.n) (ht : tab t = some ti) (hdesc : ti.desc = .slice e) (he : tab e = some te) (hsz : te.size = sz) (hx : σ.ev x = some (.ms id off len cap)) (hob : σ.objs[id]? = some (.cells cs)) (hy : σ.ev y = some (.lst sz ys ow))
    (hroom : len + ys.length ≤ cap) (h62 : len + ys.length ≤ 2 ^ 62) (hin : off + (len + ys.length) * sz ≤ cs.length) :
    Cert P o σ (.ms id off (len + ys.length) cap) (.write (σ.objs.set id (.cells (splice cs (off + len * sz) (cellsAll (ys.map AVal.share)))))) :=
  Cert.ofRun hd fun base σ' a g hrel h ho' => by
    have hO : g.objs = σ.objs := ho'.resolve_left (by simp)
    have hg := hrel.good
    have hu := slice_desc hT ht hdesc
    subst hsz
    have hx' := h x (by simp [ho, Op.operands, Call.operands]) _ hx
    have hy' := h y (by simp [ho, Op.operands, Call.operands]) _ hy
    obtain ⟨l, o1, q1, q2, q3, hlc, hmax, cap', hcap, eu⟩ := hx'.ms_inv
    obtain ⟨ady, capy, news, ey, hy1, hy2, hy3, hy4, hy5, hy6⟩ := hy'.lst_read (P := P)
    obtain ⟨⟨i, z, h1, h2, h3, h4, h5, h6, h7, h8, h9⟩, _⟩ := hT e te he
    have hob' : g.objs[id]? = some (.cells cs) := by rw [hO]; exact hob
    obtain ⟨arr, t', hlo, hrow, hlen, hcs, hcsc⟩ := hg.row hob' q1
    have hexec := run_builtin1 (P := P) ho a g.w
    simp only [builtin, List.map_toArray, List.map_cons, List.map_nil] at hexec
    obtain ⟨arr', harr'⟩ : ∃ arr', arr' = (arr.toList.take (off + len * te.size) ++ news ++ arr.toList.drop (off + len * te.size + news.length)).toArray := ⟨_, rfl⟩
    have hmul : off + (len + ys.length) * te.size = off + len * te.size + ys.length * te.size := by rw [Nat.add_mul]; omega
    have hst := run_storeCells_at P l.block (off + len * te.size) t' news 0 arr g.w hrow (by rw [hy6]; omega) (fun u hu => by
      obtain ⟨j, hj⟩ := List.getElem?_of_mem hu
      have hlt := lt_of_getElem? hj
      have hsz := hy3.1
      simp only [List.size_toArray] at hsz
      rw [hsz] at hlt
      have hc := List.getElem?_eq_getElem hlt
      exact ((hy3.2 j _ u hc (by simpa using hj)).scalar_cell (hy5 _ (List.mem_of_getElem? hc))).1)
    simp only [Nat.add_zero] at hst
    rw [← harr'] at hst
    have hrun := run_append_in (P := P) g.w (g.w.setRow l.block arr') t o.type e i hu h1 ⟨l.block, off, none⟩ len cap' ys.length (a.eval y) news hy1 (by rw [h2]; exact hy2 g.w rfl) (by omega) (by rw [addr_add, h2]; exact hst)
    rw [← eu] at hrun
    have hturn := turns_cells (cs' := splice cs (off + len * te.size) (cellsAll (ys.map AVal.share))) hob' q1 hlo arr'
    have hle := Le.turn hg hturn
    have hsh := hy3.share_list
    have hcl : (cellsAll (ys.map AVal.share)).length = ys.length * te.size := by
      rw [cellsAll_length (map_share_size hy4)]
      simp
    have hsp := RVs.splice ⟨hlen, hcs⟩ hsh (off := off + len * te.size) (by rw [hcl]; omega)
    simp only at hsp
    rw [← harr'] at hsp
    refine ⟨.slice (some ⟨l.block, off, none⟩) (len + ys.length) cap', g.turn id (some l) (.cells (splice cs (off + len * te.size) (cellsAll (ys.map AVal.share)))) (g.w.setRow l.block arr'), .inl ?_, hle, Good.turn hg hturn ?_ ?_, ?_, ?_⟩
    · rw [hexec]
      simp [hrun, G.turn]
    · refine ⟨l, arr', t', rfl, hlo, ?_, hsp.1, fun j c u a b => (hsp.2 j c u a b).mono hle, fun c hc => ?_⟩
      · exact setRow_heap g.w l.block arr arr' t' (0, 0) hrow
      · simp only [splice, List.mem_append] at hc
        rcases hc with hc | hc | hc
        · exact hcsc c (List.mem_of_mem_take hc)
        · exact map_share_scalar hy5 c hc
        · exact hcsc c (List.mem_of_mem_drop hc)
    · intro l1 h1 _
      simp only [Option.some.injEq] at h1
      subst h1
      rw [setRow_size]
      exact lt_of_getElem?' hrow
    · simp only [G.turn, Mode.post, hO]
    · have hlt : id < g.objs.length := lt_of_getElem? hob'
      have hlt2 := env_lt hg hob'
      refine .ms (l := l) (o := .cells (splice cs (off + len * te.size) (cellsAll (ys.map AVal.share)))) ?_ ?_ (by simp [AObj.isSpare]) hroom hcap h62
      · simp only [G.turn]
        rw [List.getElem?_set_self hlt2]
      · simp only [G.turn]
        rw [List.getElem?_set_self hlt]

theorem cert_clear_ms {P : Program} {tab : Tab} (hT : TabOK P tab) {o : Oper} {σ : St} {t e : TypeId} {x : Operand} {ti te : TInfo} {id off len cap : Nat} {cs : List AVal}
    (ho : o.op = .call ⟨.builtin .clear, #[x], #[t]⟩) (hd : o.dst = none) (ht : tab t = some ti) (hdesc : ti.desc = .slice e) (he : tab e = some te) (hx : σ.ev x = some (.ms id off len cap)) (hob : σ.objs[id]? = some (.cells cs))
    (hpos : 0 < len) (hz : 0 < te.size) (hin : off + len * te.size ≤ cs.length) :
    Cert P o σ (.tup []) (.write (σ.objs.set id (.cells (splice cs off (List.replicate len te.zero).flatten)))) :=
  Cert.ofRun (by simp [hd]) fun base σ' a g hrel h ho' => by
    have hO : g.objs = σ.objs := ho'.resolve_left (by simp)
    have hg := hrel.good
    have hu := slice_desc hT ht hdesc
    have hx' := h x (by simp [ho, Op.operands, Call.operands]) _ hx
    obtain ⟨l, o1, q1, q2, q3, hlc, hmax, cap', hcap, eu⟩ := hx'.ms_inv
    obtain ⟨⟨i, z, h1, h2, h3, h4, h5, h6, h7, h8, h9⟩, _⟩ := hT e te he
    have hob' : g.objs[id]? = some (.cells cs) := by rw [hO]; exact hob
    obtain ⟨arr, t', hlo, hrow, hlen, hcs, hcsc⟩ := hg.row hob' q1
    have hexec := run_builtin1 (P := P) ho a g.w
    simp only [builtin, List.map_toArray, List.map_cons, List.map_nil] at hexec
    have hzs : (Builtin.zeroCells z.cells len).size = len * te.size := by rw [size_zeroCells, h5, h6]
    have hflen : (List.replicate len te.zero).flatten.length = len * te.size := by simp [h6]
    have hget : ∀ (j : Nat) (c : AVal), (List.replicate len te.zero).flatten[j]? = some c → te.zero[j % te.size]? = some c := fun j c => h6 ▸ rep_get te.zero (by omega) len j c
    have hzr : RVs g (List.replicate len te.zero).flatten (Builtin.zeroCells z.cells len) := ⟨by rw [hzs, hflen], fun j c u hj hu => by
      have hj' := hget j c hj
      have hlt := lt_of_getElem? hj
      rw [hflen] at hlt
      have hlt' : j % te.size < z.cells.size := by rw [h5]; exact lt_of_getElem? hj'
      refine h8 _ _ _ _ hj' ?_
      simp only [Builtin.zeroCells, Array.getElem?_map, h5, h6, Array.getElem?_range, if_pos hlt, Option.map_some, Option.some.injEq] at hu
      subst hu
      simp [hlt']⟩
    have hzsc : ∀ c ∈ (List.replicate len te.zero).flatten, c.scalar := fun c hc => by
      rw [List.mem_flatten] at hc
      obtain ⟨l, hl, hc⟩ := hc
      rw [List.mem_replicate] at hl
      exact h9 c (hl.2 ▸ hc)
    obtain ⟨news, hnews⟩ : ∃ news, news = (Builtin.zeroCells z.cells len).toList := ⟨_, rfl⟩
    have hnl : news.length = len * te.size := by rw [hnews, Array.length_toList, hzs]
    obtain ⟨arr', harr'⟩ : ∃ arr', arr' = (arr.toList.take off ++ news ++ arr.toList.drop (off + news.length)).toArray := ⟨_, rfl⟩
    have hst := run_storeCells_at P l.block off t' news 0 arr g.w hrow (by rw [hnl]; omega) (fun u hu => by
      obtain ⟨j, hj⟩ := List.getElem?_of_mem hu
      have hlt := lt_of_getElem? hj
      rw [hnl, ← hflen] at hlt
      have hc := List.getElem?_eq_getElem hlt
      exact ((hzr.2 j _ u hc (by rw [hnews] at hj; simpa using hj)).scalar_cell (hzsc _ (List.mem_of_getElem? hc))).1)
    simp only [Nat.add_zero] at hst
    rw [← harr'] at hst
    have hrun : (Builtin.clear_ #[t] o.type #[a.eval x]).run P g.w = .ok (.tuple #[]) (g.w.setRow l.block arr') := by
      obtain ⟨k, rfl⟩ : ∃ k, len = k + 1 := ⟨len - 1, by omega⟩
      rw [eu]
      simp [Builtin.clear_, run_underlying hu, Go.zeroValue, typeInfo, h1, h4, ← hnews, hst]
    have hturn := turns_cells (cs' := splice cs off (List.replicate len te.zero).flatten) hob' q1 hlo arr'
    have hle := Le.turn hg hturn
    have hsp := RVs.splice ⟨hlen, hcs⟩ hzr (off := off) (by rw [hflen]; omega)
    rw [← hnews, ← harr'] at hsp
    refine ⟨.tuple #[], g.turn id (some l) (.cells (splice cs off (List.replicate len te.zero).flatten)) (g.w.setRow l.block arr'), ?_, hle, Good.turn hg hturn ?_ ?_, ?_, .tup rfl (by simp)⟩
    · refine .inl ?_
      rw [hexec]
      simp [hrun, G.turn]
    · refine ⟨l, arr', t', rfl, hlo, ?_, hsp.1, fun j c u a b => (hsp.2 j c u a b).mono hle, fun c hc => ?_⟩
      · exact setRow_heap g.w l.block arr arr' t' (0, 0) hrow
      · simp only [splice, List.mem_append] at hc
        rcases hc with hc | hc | hc
        · exact hcsc c (List.mem_of_mem_take hc)
        · exact hzsc c hc
        · exact hcsc c (List.mem_of_mem_drop hc)
    · intro l1 h1 _
      simp only [Option.some.injEq] at h1
      subst h1
      rw [setRow_size]
      exact lt_of_getElem?' hrow
    · simp only [G.turn, Mode.post, hO]

end Go.Av
end

section
/-
  The library of abstract values, part eighteen: a slice that is nil, in an object, may be told as one that owns what is appended.
-/
namespace Go.Av

theorem awp_ownNil {P : Program} {kb : Nat} {c : Code} {Q : AEx → St → Prop} {n : Nat} {slots : List (Nat × AVal)} {O : List AObj} (k off sz : Nat) {cs : List AVal} (hok : O[k]? = some (.cells cs)) (hnil : cs[off]? = some (.v (.slice none 0 0)))
    (h : AWP P kb c Q ⟨n, slots, (O ++ [AObj.spare 0]).set k (.cells (cs.set off (.lst sz [] (.tok O.length))))⟩) : AWP P kb c Q ⟨n, slots, O⟩ :=
  h.weaken fun base a g hb hr => by
    have hO : g.objs = O := hr.objs
    have hlek := Le.mark hr.good (AObj.spare 0)
    have hgk := Good.mark hr.good 0
    have hkO : g.objs[k]? = some (.cells cs) := by rw [hO]; exact hok
    have hok1 : (g.mark (AObj.spare 0)).objs[k]? = some (.cells cs) := getElem?_snoc_lt hkO
    obtain ⟨l, arr, t, e1, e2, e3, e4, e5, e6⟩ := hgk.cells k cs hok1
    have ht2 : Turns (g.mark (AObj.spare 0)) k (.cells cs) (some l) (.cells (cs.set off (.lst sz [] (.tok O.length)))) g.w := {
      obj := hok1
      os := rfl
      tape := rfl
      output := rfl
      size := Nat.le_refl _
      block := fun _ _ _ => rfl
      cell := fun b off x hx _ => hx
      place := fun l1 h1 _ => by
        simp only [Option.some.injEq] at h1
        subst h1
        exact .inr ⟨l, e1, trivial, rfl, Nat.le_refl _⟩
      spare := fun m h => by cases h
      plain := fun _ => ⟨by simp [AObj.isSpare], e1⟩
      gone := by simp }
    have hle2 := Le.turn hgk ht2
    have hgood2 := Good.turn hgk ht2 ⟨l, arr, t, rfl, e2, e3, by simpa using e4, fun j d u hd hu => by
      rw [List.getElem?_set] at hd
      split at hd
      · rename_i hj
        subst hj
        split at hd
        · simp only [Option.some.injEq] at hd
          subst hd
          have hv := (e5 off _ u hnil hu).v_inv.1
          subst hv
          exact .nil (fun id e => by
            simp only [Own.tok.injEq] at e
            subst e
            simp [G.turn, G.mark, hO]) (by simp)
        · cases hd
      · exact (e5 j d u hd hu).mono hle2, fun d hd => by
      rcases List.mem_or_eq_of_mem_set hd with q | q
      · exact e6 d q
      · subst q
        trivial⟩ (fun l1 h1 _ => by
        simp only [Option.some.injEq] at h1
        subst h1
        exact lt_of_getElem?' e3)
    exact ⟨(g.mark (AObj.spare 0)).turn k (some l) (.cells (cs.set off (.lst sz [] (.tok O.length)))) g.w, rfl, { le := (hr.le.trans hlek).trans hle2, good := hgood2, objs := by simp [G.mark, G.turn, hO], size := hr.size, defers := hr.defers, slot := fun s y hy => (hr.slot s y hy).imp fun u hu => ⟨hu.1, (hu.2.mono hlek).mono hle2⟩ }⟩

/-- An address beside nil. -/
theorem cert_eqPtrNil {P : Program} {o : Oper} {σ : St} {op : BinOp} {t t' e : TypeId} {x y : Operand} {x' : AVal} {b r : Bool}
    (ho : o.op = .binOp op t x y t') (hd : ∀ d, o.dst = some d → d < σ.n) (ht : P.underlying t = some (.pointer e)) (hx : σ.ev x = some x') (hy : σ.ev y = some (.v (.pointer none)))
    (hb : (x' = .v (.pointer none) ∧ b = true) ∨ (∃ oa cs, x' = .ip oa cs ∧ b = false) ∨ (∃ id off, x' = .mp id off ∧ b = false))
    (hr : (op = .eql ∧ r = b) ∨ (op = .neq ∧ r = !b)) : Cert P o σ (.v (.bool r)) .pure :=
  Cert.ofQuiet .pure (.inl rfl) hd fun a g _ h _ => by
    have hx' := h x (by simp [ho, Op.operands]) _ hx
    have ey := (h y (by simp [ho, Op.operands]) _ hy).v_inv.1
    have ex : ∃ q : Option Addr, a.eval x = .pointer q ∧ b = q.isNone := by
      rcases hb with ⟨e1, e2⟩ | ⟨oa, cs, e1, e2⟩ | ⟨id, off, e1, e2⟩
      · subst e1
        exact ⟨none, hx'.v_inv.1, e2⟩
      · subst e1
        obtain ⟨bb, off, _, e3, _⟩ := hx'.ip_inv
        exact ⟨some ⟨bb, off, none⟩, e3, e2⟩
      · subst e1
        obtain ⟨l, o1, _, _, _, e3⟩ := hx'.mp_inv
        exact ⟨_, e3, e2⟩
    obtain ⟨q, ex, eb⟩ := ex
    have hg := run_eqGuard_flat (P := P) op t x y (.pointer q) (.pointer none) g.w (by simp) (by simp)
    refine ⟨.bool r, ?_, .v trivial⟩
    have he : (Op.equal t (.pointer q) (.pointer none)).run P g.w = .ok q.isNone g.w := by
      have e : ∃ d, Op.equal t (.pointer q) (.pointer none) = Op.equalIn (d + 1) t (.pointer q) (.pointer none) := ⟨9999, rfl⟩
      obtain ⟨d, e⟩ := e
      rw [e]
      cases q <;> simp [Op.equalIn, Sem.run_bind, run_underlying ht]
    rcases hr with ⟨e1, e2⟩ | ⟨e1, e2⟩ <;> subst e1 <;> subst e2 <;> simp [execOp, ho, ex, ey, hg, binOp, he, eb]

def cmpAddr : BinOp → Addr → Addr → Option Bool
  | .eql, a, b => some (decide (a = b))
  | .neq, a, b => some (!decide (a = b))
  | _, _, _ => none

/-- Two addresses in one block. -/
theorem cert_eqAddr {P : Program} {o : Oper} {σ : St} {op : BinOp} {t t' e : TypeId} {n : Nat} {x y : Operand} {a b : Addr} {cs ds : List AVal} {r : Bool}
    (ho : o.op = .binOp op t x y t') (hd : ∀ d, o.dst = some d → d < σ.n) (ht : P.underlying t = some (.pointer e)) (hn : ∀ w, (sizeOf e).run P w = .ok n w) (hn0 : n ≠ 0) (hx : σ.ev x = some (.ip (some a) cs)) (hy : σ.ev y = some (.ip (some b) ds)) (hab : a.block = b.block)
    (hr : cmpAddr op a b = some r) : Cert P o σ (.v (.bool r)) .pure :=
  Cert.ofQuiet .pure (.inl rfl) hd fun ac g _ h _ => by
    have ex : ac.eval x = .pointer (some a) := by
      obtain ⟨b1, off, f, e1, e2, _⟩ := (h x (by simp [ho, Op.operands]) _ hx).ip_inv
      rcases e2 with e2 | e2
      · cases e2
      · rw [e1, e2]
    have ey : ac.eval y = .pointer (some b) := by
      obtain ⟨b1, off, f, e1, e2, _⟩ := (h y (by simp [ho, Op.operands]) _ hy).ip_inv
      rcases e2 with e2 | e2
      · cases e2
      · rw [e1, e2]
    have hg := run_eqGuard_flat (P := P) op t x y (.pointer (some a)) (.pointer (some b)) g.w (by simp) (by simp)
    refine ⟨.bool r, ?_, .v trivial⟩
    have he : (Op.equal t (.pointer (some a)) (.pointer (some b))).run P g.w = .ok (decide (a = b)) g.w := by
      have e0 : ∃ d, Op.equal t (.pointer (some a)) (.pointer (some b)) = Op.equalIn (d + 1) t (.pointer (some a)) (.pointer (some b)) := ⟨9999, rfl⟩
      obtain ⟨d, e0⟩ := e0
      rw [e0]
      simp [Op.equalIn, Sem.run_bind, run_underlying ht, hn, hn0, sameAddr, hab]
      first
        | rfl
        | exact beq_eq_decide
        | (rw [Bool.eq_iff_iff]
           simp)
    have hr' : (op = .eql ∧ r = decide (a = b)) ∨ (op = .neq ∧ r = !decide (a = b)) := by
      cases op <;> simp [cmpAddr] at hr <;> simp [hr]
    rcases hr' with ⟨e1, e2⟩ | ⟨e1, e2⟩ <;> subst e1 <;> subst e2 <;> simp [execOp, ho, ex, ey, hg, binOp, he]

end Go.Av
end

section
/-
  The library of abstract values, part twelve: the conditions of an operation, of a region, of a function's end, as propositions that simp computes.
-/
namespace Go.Av

/-- A mark: simp does not look into what it marks. -/
structure Tag {α : Type} (a : α) : Type where

def on {α : Type} (x : Option α) (f : α → Prop) (_t : Tag f := {}) : Prop :=
  match x with
  | some y => f y
  | none => False

theorem on_some {α : Type} (y : α) (f : α → Prop) (t : Tag f) : on (some y) f t = f y := rfl
theorem on_none {α : Type} (f : α → Prop) (t : Tag f) : on none f t = False := rfl

theorem on_elim {α : Type} {x : Option α} {f : α → Prop} {t : Tag f} (h : on x f t) : ∃ y, x = some y ∧ f y := by
  cases x with
  | none => exact h.elim
  | some y => exact ⟨y, rfl, h⟩

theorem on_intro {α : Type} {x : Option α} {f : α → Prop} {t : Tag f} {y : α} (hx : x = some y) (h : f y) : on x f t := by
  subst hx
  exact h

/-- A condition that is looked into later. -/
def Later (p : Unit → Prop) (_t : Tag p := {}) : Prop := p ()

/-- A state, and what is asked of it. -/
def At (σ : St) (f : St → Prop) (_t : Tag f := {}) : Prop := f σ
theorem at_intro {σ : St} {f : St → Prop} {t : Tag f} (h : f σ) : At σ f t := h

/-- A branch, looked into when it is known. -/
def vcIf (b : Bool) (X Y : Unit → Prop) (_t : Tag X := {}) (_t' : Tag Y := {}) : Prop := if b then X () else Y ()
theorem vcIf_true (X Y : Unit → Prop) (t : Tag X) (t' : Tag Y) : vcIf true X Y t t' = X () := rfl
theorem vcIf_false (X Y : Unit → Prop) (t : Tag X) (t' : Tag Y) : vcIf false X Y t t' = Y () := rfl
theorem vcIf_split {b : Bool} {X Y : Unit → Prop} {t : Tag X} {t' : Tag Y} (h : b = true → X ()) (k : b = false → Y ()) : vcIf b X Y t t' := by
  cases b
  · exact k rfl
  · exact h rfl

abbrev Kont := AVal → Mode → Prop

def isNil : Operand → Bool
  | .const (.slice none 0 0) => true
  | _ => false

def vcMove (tab : Tab) (ty : TypeId) (x : Operand) (σ : St) (K : Kont) : Prop :=
  match isNil x with
  | true => on (tab ty) fun ti => match ti.desc with
    | .slice e => on (tab e) fun te => K (.lst te.size [] .ex) .pure
    | _ => False
  | false => on (σ.ev x) fun y => K y .pure

def vcPick (σ : St) (c x z : Operand) (K : Kont) : Prop :=
  on (σ.ev c) fun
    | .v (.bool b) => vcIf b (fun _ => on (σ.ev x) fun y => K y .pure) (fun _ => on (σ.ev z) fun y => K y .pure)
    | _ => False

def vcFieldAddr (tab : Tab) (s : TypeId) (k : Nat) (x : AVal) (K : Kont) : Prop :=
  on (tab s) fun ti => match ti.desc with
    | .struct fs => on fs[k]? fun f => on (tab f.2) fun tf => tf.size ≠ 0 ∧
      match x with
      | .ip oa cs => K (.ip (oa.map (·.add f.1)) (cs.drop f.1)) .pure
      | .mp id off => K (.mp id (off + f.1)) .pure
      | _ => False
    | _ => False

def vcField (tab : Tab) (s : TypeId) (k : Nat) (x : AVal) (K : Kont) : Prop :=
  on (tab s) fun ti => match ti.desc with
    | .struct fs => on fs[k]? fun f => on (tab f.2) fun tf => match x with
      | .agg cs => vcIf tf.desc.agg (fun _ => K (.agg ((cs.drop f.1).take tf.size)) .pure) (fun _ => on cs[f.1]? fun r => K r .pure)
      | _ => False
    | _ => False

def vcLoad (tab : Tab) (O : List AObj) (t : TypeId) (x : AVal) (K : Kont) : Prop :=
  on (tab t) fun ti =>
    match x with
    | .ip _ cs => vcIf ti.desc.agg (fun _ => ti.size ≤ cs.length ∧ K (.agg (cs.take ti.size)) .pure) (fun _ => on cs[0]? fun c => K c .pure)
    | .mp id off => on O[id]? fun
      | .cells os => vcIf ti.desc.agg (fun _ => off + ti.size ≤ os.length ∧ K (.agg ((os.drop off).take ti.size)) (.rd id)) (fun _ => on os[off]? fun c => K c (.rd id))
      | _ => False
    | _ => False

def vcStore (tab : Tab) (O : List AObj) (t : TypeId) (x y : AVal) (K : Kont) : Prop :=
  on (tab t) fun ti =>
    match x with
    | .mp id off => on O[id]? fun
      | .cells os => y.flat ∧ y.cells.length = ti.size ∧ off + ti.size ≤ os.length ∧ K (.v (.bool false)) (.wr O.length [id] (O.set id (.cells (splice os off y.cells))))
      | _ => False
    | _ => False

def vcIndexAddr (tab : Tab) (t : TypeId) (x i : AVal) (K : Kont) : Prop :=
  on (tab t) fun ti => match ti.desc with
    | .slice e => on (tab e) fun te =>
      match i with
      | .v (.int _ n) =>
        (match x with
        | .lst sz xs ow => te.size = sz ∧ 0 ≤ n ∧ on xs[n.toNat]? fun y => K (.ip (ownAt ow (n.toNat * te.size)) y.cells) .pure
        | .ms id off len _ => 0 ≤ n ∧ n < len ∧ K (.mp id (off + n.toNat * te.size)) .pure
        | _ => False)
      | _ => False
    | _ => False

def cmpStr : BinOp → ByteArray → ByteArray → Option Bool
  | .eql, a, b => some (decide (a = b))
  | .neq, a, b => some (!decide (a = b))
  | _, _, _ => none

def cmpBool : BinOp → Bool → Bool → Option Bool
  | .eql, a, b => some (a == b)
  | .neq, a, b => some (!(a == b))
  | _, _, _ => none

def vcInt (op : BinOp) (k : IntKind) (m n : Int) (K : Kont) : Prop :=
  vcIf (cmpInt op m n).isSome (fun _ => on (cmpInt op m n) fun b => K (.v (.bool b)) .pure) (fun _ => on (arithInt k op m n) fun r => loK k ≤ r ∧ r ≤ hiK k ∧ K (.v (.int k r)) .pure)

def nilTest : BinOp → Bool → Option Bool
  | .eql, b => some b
  | .neq, b => some (!b)
  | _, _ => none

def ptrA : AVal → Option Bool
  | .v (.pointer none) => some true
  | .ip _ _ => some false
  | .mp _ _ => some false
  | _ => none

theorem ptrA_spec {x : AVal} {b : Bool} (h : ptrA x = some b) : (x = .v (.pointer none) ∧ b = true) ∨ (∃ oa cs, x = .ip oa cs ∧ b = false) ∨ (∃ id off, x = .mp id off ∧ b = false) := by
  unfold ptrA at h
  split at h
  · exact .inl ⟨rfl, by simpa using h.symm⟩
  · exact .inr (.inl ⟨_, _, rfl, by simpa using h.symm⟩)
  · exact .inr (.inr ⟨_, _, rfl, by simpa using h.symm⟩)
  · cases h

def vcPtr (P : Program) (op : BinOp) (t : TypeId) (x : AVal) (K : Kont) : Prop :=
  (∃ e, P.underlying t = some (.pointer e)) ∧ on (ptrA x) fun b => on (nilTest op b) fun r => K (.v (.bool r)) .pure

def vcBin (P : Program) (op : BinOp) (t : TypeId) (x y : AVal) (K : Kont) : Prop :=
  match x, y with
  | .v (.int k m), .v (.int k' n) => vcIf (isShift op) (fun _ => 0 ≤ n ∧ loK k ≤ shiftInt k op m n ∧ shiftInt k op m n ≤ hiK k ∧ K (.v (.int k (shiftInt k op m n))) .pure) (fun _ => k = k' ∧ vcInt op k m n K)
  | .v (.string a), .v (.string b) => on (cmpStr op a b) fun r => K (.v (.bool r)) .pure
  | .v (.bool a), .v (.bool b) => P.underlying t = some .bool ∧ on (cmpBool op a b) fun r => K (.v (.bool r)) .pure
  | x, .v (.pointer none) => vcPtr P op t x K
  | .ip (some a) _, .ip (some b) _ => (∃ e n, P.underlying t = some (.pointer e) ∧ (∀ w, (sizeOf e).run P w = .ok n w) ∧ n ≠ 0) ∧ a.block = b.block ∧ on (cmpAddr op a b) fun r => K (.v (.bool r)) .pure
  | _, _ => False

def TD.elem : TD → Option TypeId
  | .slice e => some e
  | _ => none

theorem TD.elem_spec {d : TD} {e : TypeId} (h : d.elem = some e) : d = .slice e := by
  cases d <;> simp [TD.elem] at h
  rw [h]

def nilA : AVal → Option Bool
  | .v (.slice none 0 0) => some true
  | .lst _ _ .nn => some false
  | .ms _ _ _ _ => some false
  | _ => none

def vcNil (tab : Tab) (op : BinOp) (t : TypeId) (x : AVal) (K : Kont) : Prop :=
  on (tab t) fun ti => on ti.desc.elem fun _ => on (nilA x) fun b => on (nilTest op b) fun r => K (.v (.bool r)) .pure

def vcUn (op : UnOp) (x : AVal) (K : Kont) : Prop :=
  match op, x with
  | .not, .v (.bool b) => K (.v (.bool !b)) .pure
  | .neg, .v (.int k n) => loK k ≤ -n ∧ -n ≤ hiK k ∧ K (.v (.int k (-n))) .pure
  | _, _ => False

def bnd (σ : St) (p : Option Operand) (dflt : Nat) (K : Nat → Prop) : Prop :=
  match p with
  | none => K dflt
  | some q => on (σ.ev q) fun
    | .v (.int _ n) => 0 ≤ n ∧ K n.toNat
    | _ => False

def vcCut (sz : Nat) (xs : List AVal) (o : Own) (l h : Nat) (K : Kont) : Prop :=
  match o with
  | .ex => vcIf (decide (l = 0) && decide (h = xs.length)) (fun _ => K (.lst sz xs .ex) .pure) (fun _ => K (.lst sz ((xs.take h).drop l) .sh) .pure)
  | _ => K (.lst sz ((xs.take h).drop l) .sh) .pure

theorem vcCut_elim {sz : Nat} {xs : List AVal} {o : Own} {l h : Nat} {K : Kont} (k : vcCut sz xs o l h K) : (o = .ex ∧ l = 0 ∧ h = xs.length ∧ K (.lst sz xs .ex) .pure) ∨ K (.lst sz ((xs.take h).drop l) .sh) .pure := by
  unfold vcCut at k
  split at k
  · by_cases hf : (decide (l = 0) && decide (h = xs.length)) = true
    · rw [hf, vcIf_true] at k
      simp only [Bool.and_eq_true, decide_eq_true_eq] at hf
      exact .inl ⟨rfl, hf.1, hf.2, k⟩
    · rw [show (decide (l = 0) && decide (h = xs.length)) = false by simpa using hf, vcIf_false] at k
      exact .inr k
  · exact .inr k

def vcSlice (tab : Tab) (σ : St) (t : TypeId) (x : AVal) (lo hi mx : Option Operand) (K : Kont) : Prop :=
  on (tab t) fun ti => match ti.desc with
    | .slice e => on (tab e) fun te =>
      match x, mx with
      | .lst sz xs ow, none => te.size = sz ∧ bnd σ lo 0 fun l => bnd σ hi xs.length fun h => l ≤ h ∧ h ≤ xs.length ∧ vcCut sz xs ow l h K
      | .ms id off len cap, none => bnd σ lo 0 fun l => bnd σ hi len fun h => l ≤ h ∧ h ≤ cap ∧ l < cap ∧ h ≤ 2 ^ 62 ∧ K (.ms id (off + l * te.size) (h - l) (cap - l)) .pure
      | .raw sz len id, none => 0 < len ∧ bnd σ lo 0 fun l => bnd σ hi len fun h => l = 0 ∧ h = 0 ∧ K (.lst sz [] (.tok id)) .pure
      | _, _ => False
    | _ => False

def allFlat : List (Nat × AVal) → Prop
  | [] => True
  | p :: r => p.2.flat ∧ allFlat r

def allSize (n : Nat) : List AVal → Prop
  | [] => True
  | x :: r => x.cells.length = n ∧ allSize n r

def vcBuild (tab : Tab) (σ : St) (t : TypeId) (parts : Array (Nat × Operand)) (K : Kont) : Prop :=
  on (tab t) fun ti => match ti.desc with
    | .struct fs => on (placesOf tab fs) fun pl => on (σ.evParts parts.toList) fun ps => allFlat ps ∧ on (fillA (fun i => pl[i]?) ti.zero ps) fun cs => K (.agg cs) .pure
    | _ => False

def vcBuildSlice (tab : Tab) (σ : St) (t : TypeId) (len : Nat) (parts : Array (Nat × Operand)) (K : Kont) : Prop :=
  on (tab t) fun ti => match ti.desc with
    | .slice e => on (tab e) fun te => on (σ.evParts parts.toList) fun ps => allFlat ps ∧ on (seqParts 0 ps) fun xs => 0 < te.size ∧ xs.length = len ∧ allSize te.size xs ∧ len * te.size ≤ 2 ^ 24 ∧ K (.lst te.size (xs.map AVal.share) .ex) .pure
    | _ => False

/-- How a region is told: an append to a full slice gives an object; what make makes is told by value. -/
structure Md where
  app : Bool
  made : Bool

def vcMakeSlice (mk : Bool) (tab : Tab) (O : List AObj) (t : TypeId) (x y : AVal) (K : Kont) : Prop :=
  on (tab t) fun ti => match ti.desc with
    | .slice e => on (tab e) fun te =>
      match x, y with
      | .v (.int _ n), .v (.int _ n') => n' = n ∧ 0 ≤ n ∧ te.bytes * n.toNat ≤ 2 ^ 48 ∧ n.toNat ≤ 2 ^ 62 ∧ 0 < te.size ∧
          vcIf mk (fun _ => (te.desc.agg = true ∨ te.size = 1) ∧ K (.lst te.size (List.replicate n.toNat (zeroOf te).share) .ex) .pure)
            (fun _ => K (.ms O.length 0 n.toNat n.toNat) (.wr O.length [] (O ++ [.cells (List.replicate n.toNat te.zero).flatten])))
      | _, _ => False
    | _ => False

def ktOf (P : Program) (k : TypeId) : Option KT :=
  match P.underlying k with
  | some .string => some .str
  | some (.int k) => some (.int k)
  | _ => none

def vcLookup (P : Program) (tab : Tab) (O : List AObj) (t : TypeId) (x y : AVal) (ok : Bool) (K : Kont) : Prop :=
  on (tab t) fun ti => match ti.desc with
    | .map k e => on (ktOf P k) fun kt => on (tab e) fun te => (te.desc.agg = true ∨ te.size = 1) ∧
      match y with
      | .v key => kt.ok key ∧
        (match x with
        | .im kt' es => kt' = kt ∧ K (lookRes ok (lookV es key) (zeroOf te)) .pure
        | .mm id => on O[id]? fun
          | .map kt' es => kt' = kt ∧ K (lookRes ok (lookV es key) (zeroOf te)) (.rd id)
          | _ => False
        | .v (.map none) => K (lookRes ok none (zeroOf te)) .pure
        | _ => False)
      | _ => False
    | _ => False

def vcMapUpdate (P : Program) (tab : Tab) (O : List AObj) (t : TypeId) (x y v : AVal) (K : Kont) : Prop :=
  on (tab t) fun ti => match ti.desc with
    | .map k _ => on (ktOf P k) fun kt =>
      match x, y with
      | .mm id, .v key => kt.ok key ∧ on O[id]? fun
        | .map kt' es => kt' = kt ∧ K (.v (.bool false)) (.wr O.length [id] (O.set id (.map kt (putV es key v))))
        | _ => False
      | _, _ => False
    | _ => False

def vcMakeMap (P : Program) (tab : Tab) (O : List AObj) (t : TypeId) (K : Kont) : Prop :=
  on (tab t) fun ti => match ti.desc with
    | .map k _ => on (ktOf P k) fun kt => K (.mm O.length) (.wr O.length [] (O ++ [.map kt []]))
    | _ => False

def lenA : AVal → Option Nat
  | .lst _ xs _ => some xs.length
  | .ms _ _ len _ => some len
  | _ => none

def vcLen (tab : Tab) (t : TypeId) (x : AVal) (K : Kont) : Prop :=
  on (tab t) fun ti => on ti.desc.elem fun _ => on (lenA x) fun n => K (.v (.int .i64 n)) .pure

theorem lenA_spec {x : AVal} {n : Nat} (h : lenA x = some n) : (∃ sz xs ow, x = .lst sz xs ow ∧ n = xs.length) ∨ ∃ id off cap, x = .ms id off n cap := by
  cases x <;> simp [lenA] at h
  · exact .inl ⟨_, _, _, rfl, h.symm⟩
  · subst h
    exact .inr ⟨_, _, _, rfl⟩

def vcAppend (P : Program) (md : Bool) (tab : Tab) (O : List AObj) (t t' : TypeId) (x y : AVal) (K : Kont) : Prop :=
  on (tab t) fun ti => on ti.desc.elem fun e => on (tab e) fun te =>
      match x, y with
      | .lst sz xs .ex, .lst sz' ys _ => t' = t ∧ te.size = sz ∧ sz' = sz ∧ xs.length + ys.length ≤ 2 ^ 62 ∧ (xs.length + ys.length) * te.bytes ≤ 2 ^ 47 ∧
          vcIf md (fun _ => ys.length ≠ 0 ∧ K (.ms O.length 0 (xs.length + ys.length) (xs.length + ys.length)) (.wr O.length [] (O ++ [.cells (cellsAll (xs ++ ys.map AVal.share))])))
            (fun _ => K (.lst sz (xs ++ ys.map AVal.share) (.tok O.length)) (.wr O.length [] (O ++ [.spare (xs.length + ys.length)])))
      | .lst sz xs (.tok id), .lst sz' ys _ => t' = t ∧ te.size = sz ∧ sz' = sz ∧ O[id]? = some (.spare xs.length) ∧ xs.length + ys.length ≤ 2 ^ 62 ∧ (xs.length + ys.length) * te.bytes ≤ 2 ^ 47 ∧
          K (.lst sz (xs ++ ys.map AVal.share) (.tok id)) (.wr O.length [id] (O.set id (.spare (xs.length + ys.length))))
      | .lst _ xs .ex, .v (.int k n) => xs = [] ∧ k = .i64 ∧ P.underlying t' = some (.int .i64) ∧ 0 < n ∧ n.toNat ≤ 2 ^ 62 ∧ n.toNat * te.bytes ≤ 2 ^ 47 ∧ 0 < te.size ∧
          vcIf md (fun _ => K (.raw te.size n.toNat O.length) (.wr O.length [] (O ++ [.spare 0])))
            (fun _ => K (.ms O.length 0 n.toNat n.toNat) (.wr O.length [] (O ++ [.cells (List.replicate n.toNat te.zero).flatten])))
      | .ms id off len cap, .lst sz ys _ => t' = t ∧ te.size = sz ∧ on O[id]? fun
        | .cells cs => len + ys.length ≤ cap ∧ len + ys.length ≤ 2 ^ 62 ∧ off + (len + ys.length) * sz ≤ cs.length ∧
          K (.ms id off (len + ys.length) cap) (.wr O.length [id] (O.set id (.cells (splice cs (off + len * sz) (cellsAll (ys.map AVal.share))))))
        | _ => False
      | _, _ => False

def capA : AVal → Option Nat
  | .lst _ xs .ex => some xs.length
  | _ => none

theorem capA_spec {x : AVal} {n : Nat} (h : capA x = some n) : ∃ sz xs, x = .lst sz xs .ex ∧ n = xs.length := by
  unfold capA at h
  split at h
  · exact ⟨_, _, rfl, by simpa using h.symm⟩
  · cases h

def vcCap (tab : Tab) (t : TypeId) (x : AVal) (K : Kont) : Prop :=
  on (tab t) fun ti => on ti.desc.elem fun _ => on (capA x) fun n => K (.v (.int .i64 n)) .pure

def vcClear (tab : Tab) (O : List AObj) (t : TypeId) (x : AVal) (K : Kont) : Prop :=
  on (tab t) fun ti => on ti.desc.elem fun e => on (tab e) fun te => match x with
    | .ms id off len _ => on O[id]? fun
      | .cells cs => 0 < len ∧ 0 < te.size ∧ off + len * te.size ≤ cs.length ∧ K (.tup []) (.wr O.length [id] (O.set id (.cells (splice cs off (List.replicate len te.zero).flatten))))
      | _ => False
    | _ => False

/-- The greater, or the smaller, of two integers. -/
def vcTop (x y : AVal) (K : Kont) : Prop :=
  match x, y with
  | .v (.int .i64 m), .v (.int .i64 n) => K (.v (.int .i64 (max m n))) .pure
  | _, _ => False

def vcLow (x y : AVal) (K : Kont) : Prop :=
  match x, y with
  | .v (.int .i64 m), .v (.int .i64 n) => K (.v (.int .i64 (min m n))) .pure
  | _, _ => False

theorem cert_top {P : Program} {o : Oper} {σ : St} {ats : Array TypeId} {x y : Operand} {m n : Int}
    (ho : o.op = .call ⟨.builtin .max, #[x, y], ats⟩) (hd : ∀ d, o.dst = some d → d < σ.n) (hx : σ.ev x = some (.v (.int .i64 m))) (hy : σ.ev y = some (.v (.int .i64 n))) : Cert P o σ (.v (.int .i64 (max m n))) .pure :=
  Cert.ofQuiet .pure (.inl rfl) hd fun a g _ h _ => by
    obtain ⟨ex, fx⟩ := (h x (by simp [ho, Op.operands, Call.operands]) _ hx).v_inv
    obtain ⟨ey, fy⟩ := (h y (by simp [ho, Op.operands, Call.operands]) _ hy).v_inv
    refine ⟨.int .i64 (max m n), ?_, .v ?_⟩
    · rw [run_builtin1 ho]
      have e : (if n > m then n else m) = max m n := by
        split <;> omega
      simp [builtin, Builtin.max_, Builtin.max2, ex, ey, e]
    · rcases Int.le_total m n with q | q
      · rw [Int.max_eq_right q]
        exact fy
      · rw [Int.max_eq_left q]
        exact fx

theorem cert_low {P : Program} {o : Oper} {σ : St} {ats : Array TypeId} {x y : Operand} {m n : Int}
    (ho : o.op = .call ⟨.builtin .min, #[x, y], ats⟩) (hd : ∀ d, o.dst = some d → d < σ.n) (hx : σ.ev x = some (.v (.int .i64 m))) (hy : σ.ev y = some (.v (.int .i64 n))) : Cert P o σ (.v (.int .i64 (min m n))) .pure :=
  Cert.ofQuiet .pure (.inl rfl) hd fun a g _ h _ => by
    obtain ⟨ex, fx⟩ := (h x (by simp [ho, Op.operands, Call.operands]) _ hx).v_inv
    obtain ⟨ey, fy⟩ := (h y (by simp [ho, Op.operands, Call.operands]) _ hy).v_inv
    refine ⟨.int .i64 (min m n), ?_, .v ?_⟩
    · rw [run_builtin1 ho]
      have e : (if n < m then n else m) = min m n := by
        split <;> omega
      simp [builtin, Builtin.min_, Builtin.min2, ex, ey, e]
    · rcases Int.le_total m n with q | q
      · rw [Int.min_eq_left q]
        exact fx
      · rw [Int.min_eq_right q]
        exact fy

/-- A call of a function: it only computes; or it is told with the objects; or it only reads them. -/
def vcCall (P : Program) (O : List AObj) (f : AVal) (ars : List AVal) (K : Kont) : Prop :=
  match f with
  | .fn (.func id) fs cs =>
    (∃ r, PCall P id ((fs ++ ars ++ cs).map AVal.share) r ∧ uptoL 0 ((fs ++ ars ++ cs).map AVal.share) ∧ Later fun _ => K r .pure) ∨
    (∃ r O', (ECall P id O (fs ++ ars ++ cs) fun r' O1 => r' = r ∧ O1 = O') ∧ ((Later fun _ => K r (.write O')) ∨ ∃ n l, (∀ i, i < n → i ∉ l → O'[i]? = O[i]?) ∧ Later fun _ => K r (.wr n l O'))) ∨
    (∃ r, (ECall P id O (fs ++ ars ++ cs) fun r' O1 => r' = r ∧ O1 = O) ∧ Later fun _ => K r .read)
  | _ => False

def vcCallOp (P : Program) (tab : Tab) (md : Md) (dst : Option Nat) (σ : St) (callee : Callee) (args : List Operand) (ats : List TypeId) (K : Kont) : Prop :=
  match callee with
  | .value f => on (σ.ev f) fun f => on (σ.evs args) fun ars => vcCall P σ.objs f ars K
  | .builtin .len =>
    (match args, ats with
    | [x], [t] => on (σ.ev x) fun x => vcLen tab t x K
    | _, _ => False)
  | .builtin .append =>
    (match args, ats with
    | [x, y], [t, t'] => on (σ.ev x) fun x => on (σ.ev y) fun y => vcAppend P md.app tab σ.objs t t' x y K
    | _, _ => False)
  | .builtin .cap =>
    (match args, ats with
    | [x], [t] => on (σ.ev x) fun x => vcCap tab t x K
    | _, _ => False)
  | .builtin .clear =>
    (match args, ats with
    | [x], [t] => dst = none ∧ on (σ.ev x) fun x => vcClear tab σ.objs t x K
    | _, _ => False)
  | .builtin .max =>
    (match args with
    | [x, y] => on (σ.ev x) fun x => on (σ.ev y) fun y => vcTop x y K
    | _ => False)
  | .builtin .min =>
    (match args with
    | [x, y] => on (σ.ev x) fun x => on (σ.ev y) fun y => vcLow x y K
    | _ => False)
  | _ => False

def vcNilCheck (y : AVal) (K : Kont) : Prop :=
  match y with
  | .mp id off => K (.mp id off) .pure
  | .ip oa cs => K (.ip oa cs) .pure
  | _ => False

def vcOp (P : Program) (tab : Tab) (md : Md) (o : Oper) (σ : St) (K : Kont) : Prop :=
  match o.op with
  | .move x => vcMove tab o.type x σ K
  | .assign x => vcMove tab o.type x σ K
  | .pick c x z => vcPick σ c x z K
  | .fieldAddr s x k => on (σ.ev x) fun x => vcFieldAddr tab s k x K
  | .field s x k => on (σ.ev x) fun x => vcField tab s k x K
  | .load t x => on (σ.ev x) fun x => vcLoad tab σ.objs t x K
  | .store t x y => o.dst = none ∧ on (σ.ev x) fun x => on (σ.ev y) fun y => vcStore tab σ.objs t x y K
  | .indexAddr t x i => on (σ.ev x) fun x => on (σ.ev i) fun i => vcIndexAddr tab t x i K
  | .binOp op t x y _ => vcIf (isNil y) (fun _ => on (σ.ev x) fun x => vcNil tab op t x K) (fun _ => on (σ.ev x) fun x => on (σ.ev y) fun y => vcBin P op t x y K)
  | .unOp op _ x => on (σ.ev x) fun x => vcUn op x K
  | .slice t x lo hi mx => on (σ.ev x) fun x => vcSlice tab σ t x lo hi mx K
  | .build t parts => vcBuild tab σ t parts K
  | .buildSlice t len parts => vcBuildSlice tab σ t len parts K
  | .alloc t => on (tab t) fun ti => K (.mp σ.objs.length 0) (.wr σ.objs.length [] (σ.objs ++ [.cells ti.zero]))
  | .box _ x => on (σ.ev x) fun y => y.flat ∧ K (.mp σ.objs.length 0) (.wr σ.objs.length [] (σ.objs ++ [.cells y.cells]))
  | .makeMap t none => vcMakeMap P tab σ.objs t K
  | .makeSlice t x y => on (σ.ev x) fun x => on (σ.ev y) fun y => vcMakeSlice md.made tab σ.objs t x y K
  | .makeFunc f first captured => on (σ.evs first.toList) fun fs => on (σ.evs captured.toList) fun cs => K (.fn f fs cs) .pure
  | .lookup t x y ok => on (σ.ev x) fun x => on (σ.ev y) fun y => vcLookup P tab σ.objs t x y ok K
  | .mapUpdate t x y v => o.dst = none ∧ on (σ.ev x) fun x => on (σ.ev y) fun y => on (σ.ev v) fun v => vcMapUpdate P tab σ.objs t x y v K
  | .insert t x y v => o.dst = none ∧ on (σ.ev x) fun x => on (σ.ev y) fun y => on (σ.ev v) fun v => vcMapUpdate P tab σ.objs t x y v K
  | .extract x k => on (σ.ev x) fun
    | .tup cs => on cs[k]? fun r => K r .pure
    | _ => False
  | .call c => vcCallOp P tab md o.dst σ c.callee c.args.toList c.argTypes.toList K
  | .nilCheck x => on (σ.ev x) fun y => vcNilCheck y K
  | _ => False

theorem keep_append {O X : List AObj} : ∀ i, i < O.length → i ∉ ([] : List Nat) → (O ++ X)[i]? = O[i]? := fun _ hi _ => List.getElem?_append_left hi

theorem keep_set {O : List AObj} {id : Nat} {x : AObj} : ∀ i, i < O.length → i ∉ [id] → (O.set id x)[i]? = O[i]? := fun i _ hl => List.getElem?_set_ne (fun e => hl (by simp [e]))

theorem isNil_spec {x : Operand} (hn : isNil x = true) : x = .const (.slice none 0 0) := by
  unfold isNil at hn
  split at hn
  · rfl
  · cases hn

theorem nilA_spec {y : AVal} {b : Bool} (h : nilA y = some b) : (y = .v (.slice none 0 0) ∧ b = true) ∨ (∃ sz xs, y = .lst sz xs .nn ∧ b = false) ∨ (∃ id off len cap, y = .ms id off len cap ∧ b = false) := by
  unfold nilA at h
  split at h
  · exact .inl ⟨rfl, by simpa using h.symm⟩
  · exact .inr (.inl ⟨_, _, rfl, by simpa using h.symm⟩)
  · exact .inr (.inr ⟨_, _, _, _, rfl, by simpa using h.symm⟩)
  · cases h

theorem nilTest_spec {op : BinOp} {b r : Bool} (h : nilTest op b = some r) : (op = .eql ∧ r = b) ∨ (op = .neq ∧ r = !b) := by
  unfold nilTest at h
  split at h
  · exact .inl ⟨rfl, by simpa using h.symm⟩
  · exact .inr ⟨rfl, by simpa using h.symm⟩
  · cases h

theorem vcMove_sound {P : Program} {tab : Tab} {o : Oper} {σ : St} {x : Operand} {K : Kont} (ho : o.op = .move x ∨ o.op = .assign x) (hd : ∀ d, o.dst = some d → d < σ.n) (h : vcMove tab o.type x σ K) : ∃ r m, Cert P o σ r m ∧ K r m := by
  unfold vcMove at h
  cases hn : isNil x with
  | true =>
    have hx : x = .const (.slice none 0 0) := by
      unfold isNil at hn
      split at hn
      · rfl
      · cases hn
    subst hx
    simp only [hn] at h
    obtain ⟨ti, _, h⟩ := on_elim h
    split at h
    · obtain ⟨te, _, h⟩ := on_elim h
      exact ⟨_, _, cert_nil te.size ho hd, h⟩
    · exact h.elim
  | false =>
    simp only [hn] at h
    obtain ⟨y, hy, h⟩ := on_elim h
    exact ⟨_, _, cert_move ho hd hy, h⟩

theorem ktOf_spec {P : Program} {k : TypeId} {kt : KT} (h : ktOf P k = some kt) : ∃ d, P.underlying k = some d ∧ kt.desc d := by
  unfold ktOf at h
  split at h
  · simp only [Option.some.injEq] at h
    subst h
    exact ⟨_, by assumption, rfl⟩
  · simp only [Option.some.injEq] at h
    subst h
    exact ⟨_, by assumption, rfl⟩
  · cases h

theorem allFlat_spec : ∀ {l : List (Nat × AVal)}, allFlat l → ∀ p ∈ l, p.2.flat
  | [], _, p, hp => by cases hp
  | q :: r, h, p, hp => by
    rcases List.mem_cons.1 hp with e | e
    · subst e
      exact h.1
    · exact allFlat_spec h.2 p e

theorem allSize_spec {n : Nat} : ∀ {l : List AVal}, allSize n l → ∀ x ∈ l, x.cells.length = n
  | [], _, p, hp => by cases hp
  | q :: r, h, p, hp => by
    rcases List.mem_cons.1 hp with e | e
    · subst e
      exact h.1
    · exact allSize_spec h.2 p e

theorem bnd_spec {σ : St} {p : Option Operand} {dflt : Nat} {K : Nat → Prop} (h : bnd σ p dflt K) : ∃ n, bndOK σ p dflt n ∧ K n := by
  unfold bnd at h
  split at h
  · exact ⟨dflt, .inl ⟨rfl, rfl⟩, h⟩
  · rename_i q
    obtain ⟨y, hy, h⟩ := on_elim h
    split at h
    · rename_i k n
      obtain ⟨h1, h2⟩ := h
      exact ⟨n.toNat, .inr ⟨q, k, rfl, by rw [Int.toNat_of_nonneg h1]; exact hy⟩, h2⟩
    · exact h.elim

theorem vcInt_sound {P : Program} {o : Oper} {σ : St} {op : BinOp} {t t' : TypeId} {x y : Operand} {k : IntKind} {m n : Int} {K : Kont} (ho : o.op = .binOp op t x y t') (hd : ∀ d, o.dst = some d → d < σ.n) (hx : σ.ev x = some (.v (.int k m))) (hy : σ.ev y = some (.v (.int k n)))
    (h : vcInt op k m n K) : ∃ r m, Cert P o σ r m ∧ K r m := by
  unfold vcInt at h
  cases hcmp : cmpInt op m n with
  | some b =>
    simp only [hcmp, Option.isSome_some, vcIf_true, on_some] at h
    exact ⟨_, _, cert_cmpInt ho hd hx hy hcmp, h⟩
  | none =>
    simp only [hcmp, Option.isSome_none, vcIf_false] at h
    obtain ⟨r, hr, h1, h2, h⟩ := on_elim h
    rw [loK_eq] at h1
    rw [hiK_eq] at h2
    exact ⟨_, _, cert_arithInt ho hd hx hy hr h1 h2, h⟩

theorem vcOp_sound {P : Program} {tab : Tab} {md : Md} (hT : TabOK P tab) {o : Oper} {σ : St} {K : Kont} (hd : ∀ d, o.dst = some d → d < σ.n) (h : vcOp P tab md o σ K) : ∃ r m, Cert P o σ r m ∧ K r m := by
  unfold vcOp at h
  split at h
  case h_1 x ho => exact vcMove_sound (.inl ho) hd h
  case h_2 x ho => exact vcMove_sound (.inr ho) hd h
  case h_3 c x z ho =>
    unfold vcPick at h
    obtain ⟨y, hy, h⟩ := on_elim h
    split at h
    · rename_i b
      cases b
      · rw [vcIf_false] at h
        obtain ⟨r, hr, h⟩ := on_elim h
        exact ⟨_, _, cert_pick ho hd hy (by simp) (fun _ => hr), h⟩
      · rw [vcIf_true] at h
        obtain ⟨r, hr, h⟩ := on_elim h
        exact ⟨_, _, cert_pick ho hd hy (fun _ => hr) (by simp), h⟩
    · exact h.elim
  case h_4 s x k ho =>
    obtain ⟨y, hy, h⟩ := on_elim h
    unfold vcFieldAddr at h
    obtain ⟨ti, ht, h⟩ := on_elim h
    split at h
    · rename_i fs hdesc
      obtain ⟨f, hf, h⟩ := on_elim h
      obtain ⟨tf, htf, hz, h⟩ := on_elim h
      split at h
      · exact ⟨_, _, cert_fieldAddr_ip hT ho hd ht hdesc hf htf hz hy, h⟩
      · exact ⟨_, _, cert_fieldAddr_mp hT ho hd ht hdesc hf htf hz hy, h⟩
      · exact h.elim
    · exact h.elim
  case h_5 s x k ho =>
    obtain ⟨y, hy, h⟩ := on_elim h
    unfold vcField at h
    obtain ⟨ti, ht, h⟩ := on_elim h
    split at h
    · rename_i fs hdesc
      obtain ⟨f, hf, h⟩ := on_elim h
      obtain ⟨tf, htf, h⟩ := on_elim h
      split at h
      · cases hagg : tf.desc.agg with
        | true =>
          simp only [hagg, vcIf_true] at h
          exact ⟨_, _, cert_field hT ho hd ht hdesc hf htf hy (by rw [if_pos hagg]), h⟩
        | false =>
          simp only [hagg, vcIf_false] at h
          obtain ⟨r, hr, h⟩ := on_elim h
          exact ⟨_, _, cert_field hT ho hd ht hdesc hf htf hy (by rw [if_neg (by simp [hagg])]; exact hr), h⟩
      · exact h.elim
    · exact h.elim
  case h_6 t x ho =>
    obtain ⟨y, hy, h⟩ := on_elim h
    unfold vcLoad at h
    obtain ⟨ti, ht, h⟩ := on_elim h
    split at h
    · cases hagg : ti.desc.agg with
      | true =>
        simp only [hagg, vcIf_true] at h
        exact ⟨_, _, cert_load_ip hT ho hd ht hy hagg h.1, h.2⟩
      | false =>
        simp only [hagg, vcIf_false] at h
        obtain ⟨c, hc, h⟩ := on_elim h
        exact ⟨_, _, cert_load_ip1 hT ho hd ht hy hagg hc, h⟩
    · obtain ⟨os, hos, h⟩ := on_elim h
      split at h
      · cases hagg : ti.desc.agg with
        | true =>
          simp only [hagg, vcIf_true] at h
          exact ⟨_, _, cert_load_mp hT ho hd ht hy hos hagg h.1, h.2⟩
        | false =>
          simp only [hagg, vcIf_false] at h
          obtain ⟨c, hc, h⟩ := on_elim h
          exact ⟨_, _, cert_load_mp1 hT ho hd ht hy hos hagg hc, h⟩
      · exact h.elim
    · exact h.elim
  case h_7 t x y ho =>
    obtain ⟨hdst, h⟩ := h
    obtain ⟨x', hx, h⟩ := on_elim h
    obtain ⟨y', hy, h⟩ := on_elim h
    unfold vcStore at h
    obtain ⟨ti, ht, h⟩ := on_elim h
    split at h
    · obtain ⟨os, hos, h⟩ := on_elim h
      split at h
      · obtain ⟨h1, h2, h3, h⟩ := h
        exact ⟨_, _, (cert_store hT ho hdst ht hx hos hy h1 h2 h3).close keep_set, h⟩
      · exact h.elim
    · exact h.elim
  case h_8 t x i ho =>
    obtain ⟨x', hx, h⟩ := on_elim h
    obtain ⟨i', hi, h⟩ := on_elim h
    unfold vcIndexAddr at h
    obtain ⟨ti, ht, h⟩ := on_elim h
    split at h
    · rename_i e hdesc
      obtain ⟨te, he, h⟩ := on_elim h
      split at h
      · split at h
        · obtain ⟨h1, h2, h⟩ := h
          obtain ⟨y, h3, h⟩ := on_elim h
          exact ⟨_, _, cert_indexAddr_lst hT ho hd ht hdesc he h1 hx hi h2 h3, h⟩
        · obtain ⟨h1, h2, h⟩ := h
          exact ⟨_, _, cert_indexAddr_ms hT ho hd ht hdesc he hx hi h1 h2, h⟩
        · exact h.elim
      · exact h.elim
    · exact h.elim
  case h_9 op t x y t' ho =>
    cases hn : isNil y with
    | true =>
      simp only [hn, vcIf_true] at h
      have hy := isNil_spec hn
      subst hy
      obtain ⟨x', hx, h⟩ := on_elim h
      unfold vcNil at h
      obtain ⟨ti, ht, h⟩ := on_elim h
      obtain ⟨e, hdesc, h⟩ := on_elim h
      obtain ⟨b, hb, h⟩ := on_elim h
      obtain ⟨r, hr, h⟩ := on_elim h
      exact ⟨_, _, cert_eqlNil hT ho hd ht (TD.elem_spec hdesc) hx (nilA_spec hb) (nilTest_spec hr), h⟩
    | false =>
    simp only [hn, vcIf_false] at h
    obtain ⟨x', hx, h⟩ := on_elim h
    obtain ⟨y', hy, h⟩ := on_elim h
    unfold vcBin at h
    split at h
    · cases hs : isShift op with
      | true =>
        simp only [hs, vcIf_true] at h
        obtain ⟨h0, h1, h2, h⟩ := h
        rw [loK_eq] at h1
        rw [hiK_eq] at h2
        exact ⟨_, _, cert_shiftInt ho hd hx hy hs h0 h1 h2, h⟩
      | false =>
        simp only [hs, vcIf_false] at h
        obtain ⟨hk, h⟩ := h
        subst hk
        exact vcInt_sound ho hd hx hy h
    · obtain ⟨r, hr, h⟩ := on_elim h
      refine ⟨_, _, cert_eqString ho hd hx hy ?_, h⟩
      cases op <;> simp [cmpStr] at hr <;> simp [hr]
    · obtain ⟨hb, h⟩ := h
      obtain ⟨r, hr, h⟩ := on_elim h
      refine ⟨_, _, cert_eqBool ho hd hb hx hy ?_, h⟩
      cases op <;> simp [cmpBool] at hr <;> simp [hr]
    · obtain ⟨⟨e, he⟩, h⟩ := h
      obtain ⟨b, hb, h⟩ := on_elim h
      obtain ⟨r, hr, h⟩ := on_elim h
      exact ⟨_, _, cert_eqPtrNil ho hd he hx hy (ptrA_spec hb) (nilTest_spec hr), h⟩
    · obtain ⟨⟨e, n, he, hn, hn0⟩, hab, h⟩ := h
      obtain ⟨r, hr, h⟩ := on_elim h
      exact ⟨_, _, cert_eqAddr ho hd he hn hn0 hx hy hab hr, h⟩
    · exact h.elim
  case h_10 op t x ho =>
    obtain ⟨x', hx, h⟩ := on_elim h
    unfold vcUn at h
    split at h
    · exact ⟨_, _, cert_not ho hd hx, h⟩
    · obtain ⟨h1, h2, h⟩ := h
      rw [loK_eq] at h1
      rw [hiK_eq] at h2
      exact ⟨_, _, cert_neg ho hd hx h1 h2, h⟩
    · exact h.elim
  case h_11 t x lo hi mx ho =>
    obtain ⟨x', hx, h⟩ := on_elim h
    unfold vcSlice at h
    obtain ⟨ti, ht, h⟩ := on_elim h
    split at h
    · rename_i e hdesc
      obtain ⟨te, he, h⟩ := on_elim h
      split at h
      · obtain ⟨h1, h⟩ := h
        obtain ⟨l, hl, h⟩ := bnd_spec h
        obtain ⟨hh, hhi, h2, h3, h⟩ := bnd_spec h
        rcases vcCut_elim h with ⟨e1, e2, e3, hq⟩ | hq
        · subst e1
          subst e2
          subst e3
          exact ⟨_, _, cert_slice_full hT ho hd ht hdesc he hx hl hhi, hq⟩
        · exact ⟨_, _, cert_slice hT ho hd ht hdesc he h1 hx hl hhi h2 h3, hq⟩
      · obtain ⟨l, hl, h⟩ := bnd_spec h
        obtain ⟨hh, hhi, h2, h3, h4, h5, h⟩ := bnd_spec h
        exact ⟨_, _, cert_slice_ms hT ho hd ht hdesc he hx hl hhi h2 h3 h4 h5, h⟩
      · obtain ⟨h1, h⟩ := h
        obtain ⟨l, hl, hq⟩ := bnd_spec h
        obtain ⟨hh, hhi, h2, h3, hz⟩ := bnd_spec hq
        subst h2
        subst h3
        exact ⟨_, _, cert_slice_raw hT ho hd ht hdesc he hx hl hhi h1, hz⟩
      · exact h.elim
    · exact h.elim
  case h_12 t parts ho =>
    unfold vcBuild at h
    obtain ⟨ti, ht, h⟩ := on_elim h
    split at h
    · rename_i fs hdesc
      obtain ⟨pl, hpl, h⟩ := on_elim h
      obtain ⟨ps, hps, hfl, h⟩ := on_elim h
      obtain ⟨cs, hcs, h⟩ := on_elim h
      exact ⟨_, _, cert_build hT ho hd ht hdesc hpl hps (allFlat_spec hfl) hcs, h⟩
    · exact h.elim
  case h_13 t len parts ho =>
    unfold vcBuildSlice at h
    obtain ⟨ti, ht, h⟩ := on_elim h
    split at h
    · rename_i e hdesc
      obtain ⟨te, he, h⟩ := on_elim h
      obtain ⟨ps, hps, hfl, h⟩ := on_elim h
      obtain ⟨xs, hxs, h1, h2, h3, h4, h⟩ := on_elim h
      exact ⟨_, _, cert_buildSlice hT ho hd ht hdesc he h1 hps (allFlat_spec hfl) hxs h2 (allSize_spec h3) h4, h⟩
    · exact h.elim
  case h_14 t ho =>
    obtain ⟨ti, ht, h⟩ := on_elim h
    exact ⟨_, _, (cert_alloc hT ho hd ht).close keep_append, h⟩
  case h_15 t x ho =>
    obtain ⟨y, hy, hf, h⟩ := on_elim h
    exact ⟨_, _, (cert_box ho hd hy hf).close keep_append, h⟩
  case h_16 t ho =>
    unfold vcMakeMap at h
    obtain ⟨ti, ht, h⟩ := on_elim h
    split at h
    · obtain ⟨kt, hkt, h⟩ := on_elim h
      exact ⟨_, _, (cert_makeMap kt ho hd).close keep_append, h⟩
    · exact h.elim
  case h_17 t x y ho =>
    obtain ⟨x', hx, h⟩ := on_elim h
    obtain ⟨y', hy, h⟩ := on_elim h
    unfold vcMakeSlice at h
    obtain ⟨ti, ht, h⟩ := on_elim h
    split at h
    · rename_i e hdesc
      obtain ⟨te, he, h⟩ := on_elim h
      split at h
      · obtain ⟨e1, h1, h2, h3, h4, hq⟩ := h
        subst e1
        by_cases hmk : md.made = true
        · rw [hmk, vcIf_true] at hq
          exact ⟨_, _, cert_makeSliceV hT ho hd ht hdesc he hx hy h1 h2 h3 h4 hq.1, hq.2⟩
        · rw [show md.made = false by simpa using hmk, vcIf_false] at hq
          exact ⟨_, _, (cert_makeSlice hT ho hd ht hdesc he hx hy h1 h2 h3 h4).close keep_append, hq⟩
      · exact h.elim
    · exact h.elim
  case h_18 f first captured ho =>
    obtain ⟨fs, hfs, h⟩ := on_elim h
    obtain ⟨cs, hcs, h⟩ := on_elim h
    exact ⟨_, _, cert_makeFunc ho hd hfs hcs, h⟩
  case h_19 t x y ok ho =>
    obtain ⟨x', hx, h⟩ := on_elim h
    obtain ⟨y', hy, h⟩ := on_elim h
    unfold vcLookup at h
    obtain ⟨ti, ht, h⟩ := on_elim h
    split at h
    · rename_i k e hdesc
      obtain ⟨kt, hkt, h⟩ := on_elim h
      obtain ⟨d, hk, hkd⟩ := ktOf_spec hkt
      obtain ⟨te, he, hsz, h⟩ := on_elim h
      split at h
      · obtain ⟨hkk, h⟩ := h
        split at h
        · obtain ⟨e1, hq⟩ := h
          subst e1
          exact ⟨_, _, cert_lookup_im hT ho hd ht hdesc hk hkd he hsz hx hy hkk, hq⟩
        · obtain ⟨es, hes, h⟩ := on_elim h
          split at h
          case h_2 => exact h.elim
          obtain ⟨e1, hq⟩ := h
          subst e1
          exact ⟨_, _, cert_lookup_mm hT ho hd ht hdesc hk hkd he hsz hx hes hy hkk, hq⟩
        · exact ⟨_, _, cert_lookup_nil hT ho hd ht hdesc hk hkd he hsz hx hy, h⟩
        · exact h.elim
      · exact h.elim
    · exact h.elim
  case h_20 t x y v ho =>
    obtain ⟨hdst, h⟩ := h
    obtain ⟨x', hx, h⟩ := on_elim h
    obtain ⟨y', hy, h⟩ := on_elim h
    obtain ⟨v', hv, h⟩ := on_elim h
    unfold vcMapUpdate at h
    obtain ⟨ti, ht, h⟩ := on_elim h
    split at h
    · rename_i k e hdesc
      obtain ⟨kt, hkt, h⟩ := on_elim h
      obtain ⟨d, hk, hkd⟩ := ktOf_spec hkt
      split at h
      · obtain ⟨hkk, h⟩ := h
        obtain ⟨es, hes, h⟩ := on_elim h
        split at h
        · obtain ⟨e1, hq⟩ := h
          subst e1
          exact ⟨_, _, (cert_mapUpdate hT (.inl ho) hdst ht hdesc hk hkd hx hes hy hkk hv).close keep_set, hq⟩
        · exact h.elim
      · exact h.elim
    · exact h.elim
  case h_21 t x y v ho =>
    obtain ⟨hdst, h⟩ := h
    obtain ⟨x', hx, h⟩ := on_elim h
    obtain ⟨y', hy, h⟩ := on_elim h
    obtain ⟨v', hv, h⟩ := on_elim h
    unfold vcMapUpdate at h
    obtain ⟨ti, ht, h⟩ := on_elim h
    split at h
    · rename_i k e hdesc
      obtain ⟨kt, hkt, h⟩ := on_elim h
      obtain ⟨d, hk, hkd⟩ := ktOf_spec hkt
      split at h
      · obtain ⟨hkk, h⟩ := h
        obtain ⟨es, hes, h⟩ := on_elim h
        split at h
        · obtain ⟨e1, hq⟩ := h
          subst e1
          exact ⟨_, _, (cert_mapUpdate hT (.inr ho) hdst ht hdesc hk hkd hx hes hy hkk hv).close keep_set, hq⟩
        · exact h.elim
      · exact h.elim
    · exact h.elim
  case h_22 x k ho =>
    obtain ⟨x', hx, h⟩ := on_elim h
    split at h
    · obtain ⟨r, hr, h⟩ := on_elim h
      exact ⟨_, _, cert_extract ho hd hx hr, h⟩
    · exact h.elim
  case h_23 c ho =>
    obtain ⟨callee, args, ats⟩ := c
    simp only at h
    unfold vcCallOp at h
    split at h
    · obtain ⟨f', hf, h⟩ := on_elim h
      obtain ⟨ars, has, h⟩ := on_elim h
      unfold vcCall at h
      split at h
      · rcases h with ⟨r, h1, h2, h⟩ | ⟨r, O', h1, h | ⟨n, l, hk, h⟩⟩ | ⟨r, h1, h⟩
        · exact ⟨_, _, cert_pcall ho hd hf has h1 h2, h⟩
        · exact ⟨_, _, cert_ecall ho hd hf has h1, h⟩
        · exact ⟨_, _, (cert_ecall ho hd hf has h1).close hk, h⟩
        · exact ⟨_, _, cert_rcall ho hd hf has h1, h⟩
      · exact h.elim
    · split at h
      · rename_i x t e1 e2
        have ea : args = #[x] := Array.toList_inj.1 e1
        have et : ats = #[t] := Array.toList_inj.1 e2
        subst ea
        subst et
        obtain ⟨x', hx, h⟩ := on_elim h
        unfold vcLen at h
        obtain ⟨ti, ht, h⟩ := on_elim h
        obtain ⟨e, hdesc, h⟩ := on_elim h
        obtain ⟨n, hn, h⟩ := on_elim h
        exact ⟨_, _, cert_len hT ho hd ht (TD.elem_spec hdesc) hx (lenA_spec hn), h⟩
      · exact h.elim
    · split at h
      · rename_i x y t t' e1 e2
        have ea : args = #[x, y] := Array.toList_inj.1 e1
        have et : ats = #[t, t'] := Array.toList_inj.1 e2
        subst ea
        subst et
        obtain ⟨x', hx, h⟩ := on_elim h
        obtain ⟨y', hy, h⟩ := on_elim h
        unfold vcAppend at h
        obtain ⟨ti, ht, h⟩ := on_elim h
        obtain ⟨e, hdesc, h⟩ := on_elim h
        have hdesc := TD.elem_spec hdesc
        obtain ⟨te, he, h⟩ := on_elim h
        split at h
        · obtain ⟨h0, h1, h2, h3, h4, hq⟩ := h
          subst h0
          subst h2
          by_cases hmd : md.app = true
          · rw [hmd, vcIf_true] at hq
            exact ⟨_, _, (cert_append_obj hT ho hd ht hdesc he h1 hx hy hq.1 h3 h4).close keep_append, hq.2⟩
          · rw [show md.app = false by simpa using hmd, vcIf_false] at hq
            exact ⟨_, _, (cert_append_ex hT ho hd ht hdesc he h1 hx hy h3 h4).close keep_append, hq⟩
        · obtain ⟨h0, h1, h2, h3, h4, h5, hq⟩ := h
          subst h0
          subst h2
          exact ⟨_, _, (cert_append_tok hT ho hd ht hdesc he h1 hx hy h3 h4 h5).close keep_set, hq⟩
        · obtain ⟨h0, h1, h2, h3, h4, h5, h6, hq⟩ := h
          subst h0
          subst h1
          cases hmd : md.app with
          | true =>
            rw [hmd, vcIf_true] at hq
            exact ⟨_, _, (cert_append_raw hT ho hd ht hdesc he h2 hx hy h3 h4 h5 h6).close keep_append, hq⟩
          | false =>
            rw [hmd, vcIf_false] at hq
            exact ⟨_, _, (cert_append_make hT ho hd ht hdesc he h2 hx hy h3 h4 h5 h6).close keep_append, hq⟩
        · obtain ⟨h0, h1, hq⟩ := h
          subst h0
          obtain ⟨o1, ho1, hq⟩ := on_elim hq
          split at hq
          · obtain ⟨h2, h3, h4, hq⟩ := hq
            exact ⟨_, _, (cert_append_ms hT ho hd ht hdesc he h1 hx ho1 hy h2 h3 h4).close keep_set, hq⟩
          · exact hq.elim
        · exact h.elim
      · exact h.elim
    · split at h
      · rename_i x t e1 e2
        have ea : args = #[x] := Array.toList_inj.1 e1
        have et : ats = #[t] := Array.toList_inj.1 e2
        subst ea
        subst et
        obtain ⟨x', hx, h⟩ := on_elim h
        unfold vcCap at h
        obtain ⟨ti, ht, h⟩ := on_elim h
        obtain ⟨e, hdesc, h⟩ := on_elim h
        obtain ⟨n, hn, h⟩ := on_elim h
        obtain ⟨sz, xs, e3, e4⟩ := capA_spec hn
        subst e3
        subst e4
        exact ⟨_, _, cert_capEx hT ho hd ht (TD.elem_spec hdesc) hx, h⟩
      · exact h.elim
    · split at h
      · rename_i x t e1 e2
        have ea : args = #[x] := Array.toList_inj.1 e1
        have et : ats = #[t] := Array.toList_inj.1 e2
        subst ea
        subst et
        obtain ⟨hdst, h⟩ := h
        obtain ⟨x', hx, h⟩ := on_elim h
        unfold vcClear at h
        obtain ⟨ti, ht, h⟩ := on_elim h
        obtain ⟨e, hdesc, h⟩ := on_elim h
        obtain ⟨te, he, h⟩ := on_elim h
        split at h
        · obtain ⟨o1, ho1, h⟩ := on_elim h
          split at h
          · obtain ⟨h2, h3, h4, h⟩ := h
            exact ⟨_, _, (cert_clear_ms hT ho hdst ht (TD.elem_spec hdesc) he hx ho1 h2 h3 h4).close keep_set, h⟩
          · exact h.elim
        · exact h.elim
      · exact h.elim
    · split at h
      · rename_i x y e1
        have ea : args = #[x, y] := Array.toList_inj.1 e1
        subst ea
        obtain ⟨x', hx, h⟩ := on_elim h
        obtain ⟨y', hy, h⟩ := on_elim h
        unfold vcTop at h
        split at h
        · exact ⟨_, _, cert_top ho hd hx hy, h⟩
        · exact h.elim
      · exact h.elim
    · split at h
      · rename_i x y e1
        have ea : args = #[x, y] := Array.toList_inj.1 e1
        subst ea
        obtain ⟨x', hx, h⟩ := on_elim h
        obtain ⟨y', hy, h⟩ := on_elim h
        unfold vcLow at h
        split at h
        · exact ⟨_, _, cert_low ho hd hx hy, h⟩
        · exact h.elim
      · exact h.elim
    · exact h.elim
  case h_24 x ho =>
    obtain ⟨y, hy, h⟩ := on_elim h
    unfold vcNilCheck at h
    split at h
    · exact ⟨_, _, cert_nilCheck ho hd hy (.inl ⟨_, _, rfl⟩), h⟩
    · exact ⟨_, _, cert_nilCheck ho hd hy (.inr ⟨_, _, rfl⟩), h⟩
    · exact h.elim
  case h_25 => exact h.elim

/-! regions -/

def dstOK (d : Option Nat) (n : Nat) : Prop :=
  match d with
  | some d => d < n
  | none => True

/-- The slot that an operation of the region has written, by the operation's number. -/
def slotAt : List (Nat × Nat) → Nat → Option Nat
  | [], _ => none
  | (k, d) :: r, j => if k = j then some d else slotAt r j

def addSlot (i : Nat) (d : Option Nat) (ds : List (Nat × Nat)) : List (Nat × Nat) :=
  match d with
  | some d => (i, d) :: ds
  | none => ds

/-- The next operation's state, told out before it is used. -/
def Nxt (σ : St) (f : St → Prop) (_t : Tag f := {}) : Prop := f σ
theorem nxt_mk (n : Nat) (s : List (Nat × AVal)) (O : List AObj) (f : St → Prop) (t : Tag f) : Nxt ⟨n, s, O⟩ f t = f ⟨n, s, O⟩ := rfl

def vcOps (P : Program) (tab : Tab) (md : Md) : List Oper → Nat → List (Nat × Nat) → St → List Kind → (St → List Kind → Prop) → Prop
  | [], _, _, σ, ks, K => K σ ks
  | o :: r, i, ds, σ, ks, K => dstOK o.dst σ.n ∧
    match o.guard with
    | none => vcOp P tab md o σ fun x m => Nxt ⟨σ.n, putO o.dst x σ.slots, m.post σ.objs⟩ fun τ => vcOps P tab md r (i + 1) (addSlot i o.dst ds) τ (m.kind :: ks) K
    | some (j, want) => on (slotAt ds j) fun t => on (σ.get t) fun
      | .v (.bool b) => vcIf (b == want)
        (fun _ => vcOp P tab md o ⟨σ.n, putS t (.v (.bool want)) σ.slots, σ.objs⟩ fun x m => Nxt ⟨σ.n, putO o.dst x (putS t (.v (.bool want)) σ.slots), m.post σ.objs⟩ fun τ => vcOps P tab md r (i + 1) (addSlot i o.dst ds) τ (m.kind :: ks) K)
        (fun _ => Nxt ⟨σ.n, dropO σ.n o.dst (putS t (.v (.bool !want)) σ.slots), σ.objs⟩ fun τ => vcOps P tab md r (i + 1) (addSlot i o.dst ds) τ (.pure :: ks) K)
      | .tup [] => Nxt ⟨σ.n, dropO σ.n o.dst σ.slots, σ.objs⟩ fun τ => vcOps P tab md r (i + 1) (addSlot i o.dst ds) τ (.pure :: ks) K
      | _ => False

theorem addSlot_ok {all : Array Oper} {i : Nat} {o : Oper} (ho : all[i]? = some o) {ds : List (Nat × Nat)} (h : ∀ j t, slotAt ds j = some t → (all[j]?).bind (·.dst) = some t) : ∀ j t, slotAt (addSlot i o.dst ds) j = some t → (all[j]?).bind (·.dst) = some t := by
  intro j t hj
  cases hd : o.dst with
  | none =>
    rw [hd] at hj
    exact h j t hj
  | some d =>
    rw [hd] at hj
    simp only [addSlot, slotAt] at hj
    split at hj
    · rename_i e
      subst e
      simp only [Option.some.injEq] at hj
      subst hj
      simp [ho, hd]
    · exact h j t hj

theorem same_put {σ : St} {t : Nat} {x : AVal} (h : σ.get t = some x) : Same ⟨σ.n, putS t x σ.slots, σ.objs⟩ σ := by
  refine ⟨rfl, rfl, fun s => ?_⟩
  simp only [St.get, look_putS]
  split
  · rename_i e
    subst e
    exact h.symm
  · rfl

theorem chain_append {P : Program} {ops : Array Oper} : ∀ {l l' : List (Nat × Kind)} {σ τ ρ : St}, Chain P ops l σ τ → Chain P ops l' τ ρ → Chain P ops (l ++ l') σ ρ
  | [], _, _, _, _, h, k => k.same h.symm
  | (i, q) :: r, _, _, _, _, h, k => by
    obtain ⟨σ', h1, h2⟩ := h
    exact ⟨σ', h1, chain_append h2 k⟩

theorem vcOps_sound {P : Program} {tab : Tab} {md : Md} (hT : TabOK P tab) {all : Array Oper} {K : St → List Kind → Prop} : ∀ (l : List Oper) (k : Nat) (ds : List (Nat × Nat)) (σ : St) (ks : List Kind), (∀ j, l[j]? = all[k + j]?) → (∀ j t, slotAt ds j = some t → (all[j]?).bind (·.dst) = some t) → vcOps P tab md l k ds σ ks K →
    ∃ (τ : St) (ks' : List Kind), Chain P all (ks'.zipIdx k |>.map fun p => (p.2, p.1)) σ τ ∧ ks'.length = l.length ∧ K τ (ks'.reverse ++ ks)
  | [], k, _, σ, ks, _, _, h => ⟨σ, [], Same.refl σ, rfl, h⟩
  | o :: r, k, ds, σ, ks, hl, hds, h => by
    obtain ⟨hd, h⟩ := h
    have hd' : ∀ d, o.dst = some d → d < σ.n := fun d e => by
      rw [e] at hd
      exact hd
    have ho : all[k]? = some o := by
      have := hl 0
      simpa using this.symm
    have hds' := addSlot_ok ho hds
    have hr : ∀ j, r[j]? = all[k + 1 + j]? := fun j => by
      have := hl (j + 1)
      rw [show k + 1 + j = k + (j + 1) by omega]
      simpa using this
    cases hg : o.guard with
    | none =>
      simp only [hg] at h
      obtain ⟨x, m, hc, h⟩ := vcOp_sound hT hd' h
      obtain ⟨τ, ks', h1, h2, h3⟩ := vcOps_sound hT r (k + 1) _ _ _ hr hds' h
      refine ⟨τ, m.kind :: ks', ?_, by simp [h2], by simpa using h3⟩
      simp only [List.zipIdx_cons, List.map_cons]
      exact ⟨_, ⟨o, ho, .inl ⟨by simp [wantedA, hg], x, m, hc, rfl, rfl⟩⟩, h1⟩
    | some p =>
      obtain ⟨j, want⟩ := p
      simp only [hg] at h
      obtain ⟨t, ht0, h⟩ := on_elim h
      have ht := hds j t ht0
      obtain ⟨y, hy, h⟩ := on_elim h
      split at h
      · rename_i b
        by_cases hb : b = want
        · rw [show (b == want) = true by simp [hb], vcIf_true] at h
          have hs := same_put (hb ▸ hy)
          obtain ⟨x, m, hc, h⟩ := vcOp_sound hT (σ := ⟨σ.n, putS t (.v (.bool want)) σ.slots, σ.objs⟩) hd' h
          obtain ⟨τ, ks', h1, h2, h3⟩ := vcOps_sound hT r (k + 1) _ _ _ hr hds' h
          refine ⟨τ, m.kind :: ks', ?_, by simp [h2], by simpa using h3⟩
          simp only [List.zipIdx_cons, List.map_cons]
          have hst : StepOK P all k m.kind ⟨σ.n, putS t (.v (.bool want)) σ.slots, σ.objs⟩ (St.put ⟨σ.n, putS t (.v (.bool want)) σ.slots, σ.objs⟩ o.dst x (m.post σ.objs)) :=
            ⟨o, ho, .inl ⟨by simp [wantedA, hg, ht, St.get, look_putS], x, m, hc, rfl, rfl⟩⟩
          obtain ⟨σ', q1, q2⟩ := hst.same hs
          exact ⟨σ', q1, h1.same q2⟩
        · rw [show (b == want) = false by simp [hb], vcIf_false] at h
          have hb' : b = !want := by cases b <;> cases want <;> simp_all
          have hs := same_put (hb' ▸ hy)
          obtain ⟨τ, ks', h1, h2, h3⟩ := vcOps_sound hT r (k + 1) _ _ _ hr hds' h
          refine ⟨τ, .pure :: ks', ?_, by simp [h2], by simpa using h3⟩
          simp only [List.zipIdx_cons, List.map_cons]
          have hst : StepOK P all k .pure ⟨σ.n, putS t (.v (.bool !want)) σ.slots, σ.objs⟩ (St.skip ⟨σ.n, putS t (.v (.bool !want)) σ.slots, σ.objs⟩ o.dst) :=
            ⟨o, ho, .inr ⟨by cases want <;> simp [wantedA, hg, ht, St.get, look_putS], rfl, rfl⟩⟩
          obtain ⟨σ', q1, q2⟩ := hst.same hs
          exact ⟨σ', q1, h1.same q2⟩
      · obtain ⟨τ, ks', h1, h2, h3⟩ := vcOps_sound hT r (k + 1) _ _ _ hr hds' h
        refine ⟨τ, .pure :: ks', ?_, by simp [h2], by simpa using h3⟩
        simp only [List.zipIdx_cons, List.map_cons]
        exact ⟨_, ⟨o, ho, .inr ⟨by simp [wantedA, hg, ht, hy], rfl, rfl⟩⟩, h1⟩
      · exact h.elim

/-- The order of the region does not count. -/
def OrderOK (ops : Array Oper) (ks : List Kind) : Prop := orderB ops ks = true

def Draws (draw : Bool) (p : Unit → Prop) (_t : Tag p := {}) : Prop := draw = true → p ()
theorem draws_false (p : Unit → Prop) (t : Tag p) : Draws false p t = True := by simp [Draws]
theorem draws_true (p : Unit → Prop) (t : Tag p) : Draws true p t = p () := by simp [Draws]

theorem awp_region_any {P : Program} {kb : Nat} {tab : Tab} (md : Md) (hT : TabOK P tab) (hm : P.follows .mixedOrders = true) {id : Nat} {l : List Oper} {draw : Bool} {Q : AEx → St → Prop} {σ : St}
    (h : vcOps P tab md l 0 [] σ [] fun τ ks => Draws draw (fun _ => OrderOK l.toArray ks.reverse) ∧ At τ (Q .norm)) : AWP P kb (.region id l.toArray draw) Q σ := by
  obtain ⟨ops, hops⟩ : ∃ ops, ops = l.toArray := ⟨_, rfl⟩
  have hl : l = ops.toList := by rw [hops]
  rw [← hops] at h ⊢
  rw [hl] at h
  clear hops hl
  obtain ⟨τ, ks, h1, h2, h3, h4⟩ := vcOps_sound (all := ops) hT ops.toList 0 [] σ [] (fun j => by simp) (fun j t hj => by simp [slotAt] at hj) h
  intro base a g hb hr
  have hch : Chain P ops ((List.range ops.size).map fun i => (i, ks.getD i .write)) σ τ := by
    have e : (ks.zipIdx 0).map (fun p => (p.2, p.1)) = (List.range ops.size).map fun i => (i, ks.getD i .write) := by
      apply List.ext_getElem?
      intro i
      simp only [List.getElem?_map]
      have hlen : ks.length = ops.size := by simpa using h2
      by_cases hi : i < ops.size
      · rw [List.getElem?_range hi]
        simp [hlen, hi]
      · rw [List.getElem?_eq_none (by simp only [List.length_zipIdx]; omega), List.getElem?_eq_none (by simp only [List.length_range]; omega)]
        rfl
    rw [← e]
    exact h1
  cases draw with
  | false => exact wp_region_lex hch hr fun a g hr' => ⟨g, τ, rfl, hr', h4⟩
  | true =>
    have hB := h3 rfl
    simp only [List.append_nil, List.reverse_reverse] at hB
    exact wp_region_chain hm hB hch hr fun a g hr' => ⟨g, τ, rfl, hr', h4⟩

theorem awp_region {P : Program} {kb : Nat} {tab : Tab} (hT : TabOK P tab) (hm : P.follows .mixedOrders = true) {id : Nat} {l : List Oper} {draw : Bool} {Q : AEx → St → Prop} {σ : St}
    (h : vcOps P tab ⟨false, false⟩ l 0 [] σ [] fun τ ks => Draws draw (fun _ => OrderOK l.toArray ks.reverse) ∧ At τ (Q .norm)) : AWP P kb (.region id l.toArray draw) Q σ := awp_region_any ⟨false, false⟩ hT hm h

/-- An append to a full slice gives an object. -/
theorem awp_regionM {P : Program} {kb : Nat} {tab : Tab} (hT : TabOK P tab) (hm : P.follows .mixedOrders = true) {id : Nat} {l : List Oper} {draw : Bool} {Q : AEx → St → Prop} {σ : St}
    (h : vcOps P tab ⟨true, false⟩ l 0 [] σ [] fun τ ks => Draws draw (fun _ => OrderOK l.toArray ks.reverse) ∧ At τ (Q .norm)) : AWP P kb (.region id l.toArray draw) Q σ := awp_region_any ⟨true, false⟩ hT hm h

/-- What make makes is told by value. -/
theorem awp_regionV {P : Program} {kb : Nat} {tab : Tab} (hT : TabOK P tab) (hm : P.follows .mixedOrders = true) {id : Nat} {l : List Oper} {draw : Bool} {Q : AEx → St → Prop} {σ : St}
    (h : vcOps P tab ⟨false, true⟩ l 0 [] σ [] fun τ ks => Draws draw (fun _ => OrderOK l.toArray ks.reverse) ∧ At τ (Q .norm)) : AWP P kb (.region id l.toArray draw) Q σ := awp_region_any ⟨false, true⟩ hT hm h

/-! functions -/

def slotsOf : Nat → List AVal → List (Nat × AVal)
  | _, [] => []
  | k, x :: r => (k, x) :: slotsOf (k + 1) r

theorem look_slotsOf : ∀ (l : List AVal) (k s : Nat) (x : AVal), look (slotsOf k l) s = some x → k ≤ s ∧ l[s - k]? = some x
  | [], k, s, x, h => by cases h
  | y :: r, k, s, x, h => by
    simp only [slotsOf, look] at h
    split at h
    · rename_i e
      subst e
      simp only [Option.some.injEq] at h
      subst h
      simp
    · obtain ⟨h1, h2⟩ := look_slotsOf r (k + 1) s x h
      refine ⟨by omega, ?_⟩
      rw [show s - k = (s - (k + 1)) + 1 by omega]
      simpa using h2

def retVal (tab : Tab) (σ : St) : ResultVar → Option AVal
  | .tmp t => σ.get t
  | .cell a ty =>
    match σ.get a, tab ty with
    | some (.mp id off), some ti =>
      match σ.objs[id]? with
      | some (.cells cs) => if ti.desc.agg then (if off + ti.size ≤ cs.length then some (.agg ((cs.drop off).take ti.size)) else none) else cs[off]?
      | _ => none
    | _, _ => none

def retVals (tab : Tab) (σ : St) : List ResultVar → Option (List AVal)
  | [] => some []
  | v :: r =>
    match retVal tab σ v, retVals tab σ r with
    | some x, some xs => some (x :: xs)
    | _, _ => none

def mkRet : List AVal → AVal
  | [x] => x
  | xs => .tup xs

def retSem (a : Act) : ResultVar → Sem Value
  | .tmp t => pure (a.tmps.getD t undef)
  | .cell c t => do loadVar t (← asAddr (a.tmps.getD c undef))

theorem retVal_spec {P : Program} {tab : Tab} (hT : TabOK P tab) {σ : St} {base : G} {a : Act} {g : G} (hr : Rel base σ a g) {v : ResultVar} {x : AVal} (h : retVal tab σ v = some x) :
    ∃ u, (retSem a v).run P g.w = .ok u g.w ∧ RV g x u := by
  cases v with
  | tmp t =>
    obtain ⟨u, h1, h2⟩ := hr.slot t x h
    exact ⟨u, by simp [retSem, Array.getD_eq_getD_getElem?, h1], h2⟩
  | cell c ty =>
    simp only [retVal] at h
    split at h
    · rename_i id off ti hc hti
      obtain ⟨u, h1, h2⟩ := hr.slot c _ hc
      obtain ⟨l, o1, he, ho, _, eu⟩ := h2.mp_inv
      split at h
      · rename_i cs hcs
        have hcs' : g.objs[id]? = some (.cells cs) := by rw [hr.objs]; exact hcs
        obtain ⟨arr, t', _, hrow, hlen, hrv, hsc⟩ := hr.good.row hcs' he
        subst eu
        split at h
        · rename_i hagg
          split at h
          · rename_i hs
            simp only [Option.some.injEq] at h
            subst h
            obtain ⟨f, hf⟩ : ∃ f : Nat → Value, ∀ j, off + j < arr.size → arr[off + j]? = some (f j) := ⟨fun j => arr.getD (off + j) undef, fun j hj => by simp [Array.getD_eq_getD_getElem?, hj]⟩
            have hrun := (hT ty ti hti).loadVar_agg hagg g.w l.block off f (fun j hj => by
              rw [cell_of_row hrow]
              exact hf j (by omega))
            refine ⟨.agg ((List.range ti.size).map f).toArray, by simp [retSem, Array.getD_eq_getD_getElem?, h1, asAddr, hrun], ?_⟩
            have hl : ((cs.drop off).take ti.size).length = ti.size := by simp; omega
            have := RV.ofRow (g := g) ((cs.drop off).take ti.size) f (fun c hc => hsc c (List.mem_of_mem_drop (List.mem_of_mem_take hc))) (fun j c hj => by
              have hj' := take_get hj
              rw [List.getElem?_drop] at hj'
              have hlt := lt_of_getElem? hj'
              exact hrv (off + j) c _ hj' (hf j (by omega)))
            rw [hl] at this
            exact this
          · cases h
        · rename_i hagg
          have hlt := lt_of_getElem? h
          have hcell : g.w.cell? ⟨l.block, off, none⟩ = some arr[off] := by
            rw [cell_of_row hrow]
            simp [show off < arr.size by omega]
          have hrun := (hT ty ti hti).loadVar_cell (by simpa using hagg) g.w ⟨l.block, off, none⟩ _ hcell
          exact ⟨arr[off], by simp [retSem, Array.getD_eq_getD_getElem?, h1, asAddr, hrun], hrv off x _ h (by simp [show off < arr.size by omega])⟩
      · cases h
    · cases h

theorem retVals_spec {P : Program} {tab : Tab} (hT : TabOK P tab) {σ : St} {base : G} {a : Act} {g : G} (hr : Rel base σ a g) : ∀ {vs : List ResultVar} {xs : List AVal}, retVals tab σ vs = some xs →
    ∃ us : List Value, (vs.mapM (retSem a)).run P g.w = .ok us g.w ∧ RVs g xs us.toArray
  | [], xs, h => by
    simp only [retVals, Option.some.injEq] at h
    subst h
    exact ⟨[], by simp, ⟨rfl, by simp⟩⟩
  | v :: r, xs, h => by
    simp only [retVals] at h
    cases hv : retVal tab σ v with
    | none => simp [hv] at h
    | some x =>
      cases hrs : retVals tab σ r with
      | none => simp [hv, hrs] at h
      | some ys =>
        simp only [hv, hrs, Option.some.injEq] at h
        subst h
        obtain ⟨u, h1, h2⟩ := retVal_spec hT hr hv
        obtain ⟨us, h3, h4, h5⟩ := retVals_spec hT hr hrs
        refine ⟨u :: us, ?_, by simpa using h4, fun j c w e1 e2 => ?_⟩
        · rw [List.mapM_cons]
          simp only [Sem.run_bind, h1, Result.andThen_ok, h3, Sem.run_pure]
        · cases j with
          | zero =>
            simp at e1 e2
            subst e1
            subst e2
            exact h2
          | succ j => exact h5 j c w (by simpa using e1) (by simpa using e2)

/-- What a function hands back: r, and of its objects the first k. -/
def RetTo (tab : Tab) (rv : List ResultVar) (sh : Bool) (k : Nat) (R : AVal → List AObj → Prop) : AEx → St → Prop
  | .exit _, _ => False
  | _, σ => on (retVals tab σ rv) fun rs => k ≤ σ.objs.length ∧ (∀ o ∈ σ.objs.take k, o.upto k) ∧ (mkRet (if sh then rs.map AVal.share else rs)).upto k ∧ R (mkRet (if sh then rs.map AVal.share else rs)) (σ.objs.take k)

theorem RV.mkRet {g : G} {xs : List AVal} {us : List Value} (h : RVs g xs us.toArray) : RV g (mkRet xs) (if h : us.toArray.size = 1 then us.toArray[0] else .tuple us.toArray) := by
  obtain ⟨h1, h2⟩ := h
  match xs, us, h1, h2 with
  | [], [], _, h2 => exact .tup rfl (by simp)
  | [x], [u], _, h2 =>
    simp only [List.size_toArray, List.length_singleton, dite_true]
    exact h2 0 x u rfl rfl
  | x :: y :: r, u0 :: u1 :: s, h1, h2 =>
    rw [dif_neg (by simp)]
    exact .tup h1 h2
  | [], _ :: _, h1, _ => simp at h1
  | _ :: _, [], h1, _ => simp at h1
  | [_], _ :: _ :: _, h1, _ => simp at h1
  | _ :: _ :: _, [_], h1, _ => simp at h1

theorem ecall_of {P : Program} {tab : Tab} (hT : TabOK P tab) {f : FuncId} {fn : Func} {c : Code} {O : List AObj} {args : List AVal} {R : AVal → List AObj → Prop} (sh : Bool) (k : Nat) (hf : P.funcs[f]? = some fn) (hb : fn.body = some c)
    (hname : (fn.name == "runtime.NumGoroutine") = false) (hn : args.length ≤ fn.ntmps) (hk : O.length ≤ k) (h : AWP P O.length c (RetTo tab fn.results.toList sh k R) ⟨fn.ntmps, slotsOf 0 args, O⟩) : ECall P f O args R := by
  refine ⟨⟨fn, hf, hname, by simp [hb]⟩, fun g vs hg ho ha => ?_⟩
  refine calls_of_wp hf hb ?_
  have hrel : Rel g ⟨fn.ntmps, slotsOf 0 args, O⟩ { tmps := vs ++ Array.replicate (fn.ntmps - vs.size) undef, defers := [] } g := {
    le := Le.refl g
    good := hg
    objs := ho
    size := by
      have := ha.1
      simp only [Array.size_append, Array.size_replicate]
      omega
    defers := rfl
    slot := fun s x hx => by
      obtain ⟨_, h1⟩ := look_slotsOf args 0 s x hx
      simp only [Nat.sub_zero] at h1
      have hlt := lt_of_getElem? h1
      have hlt' : s < vs.size := by rw [ha.1]; exact hlt
      refine ⟨vs[s], ?_, ha.2 s x _ h1 (by simp [hlt'])⟩
      simp only
      rw [Array.getElem?_append, if_pos hlt']
      simp [hlt'] }
  refine wp_mono (h g _ g (by rw [ho]; exact Nat.le_refl _) hrel) fun e a w hp => ?_
  have key : ∀ g' σ', g'.w = w → Rel g σ' a g' → (on (retVals tab σ' fn.results.toList) fun rs => k ≤ σ'.objs.length ∧ (∀ o ∈ σ'.objs.take k, o.upto k) ∧ (Av.mkRet (if sh then rs.map AVal.share else rs)).upto k ∧ R (Av.mkRet (if sh then rs.map AVal.share else rs)) (σ'.objs.take k)) →
      a.defers = [] ∧ ∃ v, (results fn a.tmps).run P w = .ok v w ∧ ∃ g' v' r, Ending.returned v = .returned v' ∧ g'.w = w ∧ Le g g' ∧ Good g' ∧ RV g' r v' ∧ R r g'.objs := by
    intro g' σ' hw hr hq
    subst hw
    obtain ⟨rs, hrs, h1, h2, h3, h4⟩ := on_elim hq
    obtain ⟨us, q1, q2⟩ := retVals_spec hT hr hrs
    have hO : g'.objs = σ'.objs := hr.objs
    refine ⟨hr.defers, (if h : us.toArray.size = 1 then us.toArray[0] else .tuple us.toArray), ?_, g'.trunc k, _, _, rfl, rfl, hr.le.trunc (by rw [ho]; exact hk), hr.good.trunc (by rw [hO]; exact h1) (by rw [hO]; exact h2), ?_, by simp only [G.trunc, hO]; exact h4⟩
    · have hm : fn.results.mapM (retSem a) = Functor.map List.toArray (fn.results.toList.mapM (retSem a)) := Array.mapM_eq_mapM_toList
      have hres : results fn a.tmps = (do
        let vs ← fn.results.mapM (retSem a)
        pure (if h : vs.size = 1 then vs[0] else .tuple vs)) := rfl
      rw [hres, hm]
      simp only [Sem.run_bind, Sem.run_map, q1, Result.andThen_ok, Sem.run_pure]
    · have hsh : RVs g' (if sh then rs.map AVal.share else rs) us.toArray := by
        cases sh
        · exact q2
        · exact q2.share
      exact (RV.mkRet hsh).trunc (by rw [hO]; exact h1) h3
  cases e with
  | normal =>
    obtain ⟨g', σ', h1, h2, h3⟩ := hp
    exact key g' σ' h1 h2 h3
  | ret =>
    obtain ⟨g', σ', h1, h2, h3⟩ := hp
    exact key g' σ' h1 h2 h3
  | exit id =>
    obtain ⟨g', σ', h1, h2, h3⟩ := hp
    exact h3.elim
  | goto l => exact hp.elim
  | panic c => exact hp.elim
  | outgrown => exact hp.elim

theorem seqPost_norm (P : Program) (kb : Nat) (c : Code) (Q : AEx → St → Prop) (σ : St) : seqPost P kb c Q .norm σ = AWP P kb c Q σ := rfl
theorem seqPost_ret (P : Program) (kb : Nat) (c : Code) (Q : AEx → St → Prop) (σ : St) : seqPost P kb c Q .ret σ = Q .ret σ := rfl
theorem seqPost_exit (P : Program) (kb : Nat) (c : Code) (Q : AEx → St → Prop) (σ : St) (id : Nat) : seqPost P kb c Q (.exit id) σ = Q (.exit id) σ := rfl
theorem blockPost_norm (id : Nat) (Q : AEx → St → Prop) (σ : St) : blockPost id Q .norm σ = Q .norm σ := rfl
theorem blockPost_ret (id : Nat) (Q : AEx → St → Prop) (σ : St) : blockPost id Q .ret σ = Q .ret σ := rfl
theorem blockPost_self (id : Nat) (Q : AEx → St → Prop) (σ : St) : blockPost id Q (.exit id) σ = Q .norm σ := by simp [blockPost]
theorem blockPost_other {id id' : Nat} (h : id' ≠ id) (Q : AEx → St → Prop) (σ : St) : blockPost id Q (.exit id') σ = Q (.exit id') σ := by simp [blockPost, h]
theorem loopPost_norm {ι : Type} (L : ι → St) (μ : ι → Nat) (i : ι) (Q : AEx → St → Prop) (σ : St) : loopPost L μ i Q .norm σ = ∃ j, μ j < μ i ∧ Covers σ (L j) := rfl
theorem loopPost_ret {ι : Type} (L : ι → St) (μ : ι → Nat) (i : ι) (Q : AEx → St → Prop) (σ : St) : loopPost L μ i Q .ret σ = Q .ret σ := rfl
theorem loopPost_exit {ι : Type} (L : ι → St) (μ : ι → Nat) (i : ι) (Q : AEx → St → Prop) (σ : St) (id : Nat) : loopPost L μ i Q (.exit id) σ = Q (.exit id) σ := rfl

end Go.Av
end

section
/-
  The library of abstract values, part thirteen: a table of types is held against the program's by computation.
-/
namespace Go.Av

def zmatch : AVal → Value → Bool
  | .v (.int k n), .int k' n' => decide (k = k') && decide (n = n') && decide (k.min ≤ n) && decide (n ≤ k.max)
  | .v (.bool b), .bool b' => b == b'
  | .v (.string s), .string s' => decide (s = s')
  | .v (.pointer none), .pointer none => true
  | .v (.map none), .map none => true
  | .v .nilFunc, .nilFunc => true
  | .v .nilIface, .nilIface => true
  | .lst _ [] .ex, .slice none 0 0 => true
  | _, _ => false

theorem zmatch_spec {x : AVal} {u : Value} (h : zmatch x u = true) : (∀ g : G, RV g x u) ∧ x.scalar := by
  unfold zmatch at h
  split at h
  · simp only [Bool.and_eq_true, decide_eq_true_eq] at h
    obtain ⟨⟨⟨h1, h2⟩, h3⟩, h4⟩ := h
    subst h1
    subst h2
    exact ⟨fun g => .v ⟨h3, h4⟩, trivial⟩
  · simp only [beq_iff_eq] at h
    subst h
    exact ⟨fun g => .v trivial, trivial⟩
  · simp only [decide_eq_true_eq] at h
    subst h
    exact ⟨fun g => .v trivial, trivial⟩
  · exact ⟨fun g => .v trivial, trivial⟩
  · exact ⟨fun g => .v trivial, trivial⟩
  · exact ⟨fun g => .v trivial, trivial⟩
  · exact ⟨fun g => .v trivial, trivial⟩
  · exact ⟨fun g => .nil (fun id e => by cases e) (by simp), trivial⟩
  · cases h

def zmatchL : List AVal → List Value → Bool
  | [], [] => true
  | x :: xs, u :: us => zmatch x u && zmatchL xs us
  | _, _ => false

theorem zmatchL_spec : ∀ {xs : List AVal} {us : List Value}, zmatchL xs us = true → us.length = xs.length ∧ (∀ g : G, ∀ (j : Nat) (c : AVal) (u : Value), xs[j]? = some c → us[j]? = some u → RV g c u) ∧ ∀ c ∈ xs, c.scalar
  | [], [], _ => ⟨rfl, by simp, by simp⟩
  | x :: xs, u :: us, h => by
    simp only [zmatchL, Bool.and_eq_true] at h
    obtain ⟨h1, h2⟩ := zmatch_spec h.1
    obtain ⟨h3, h4, h5⟩ := zmatchL_spec h.2
    refine ⟨by simp [h3], fun g j c w a b => ?_, fun c hc => ?_⟩
    · cases j with
      | zero =>
        simp at a b
        subst a
        subst b
        exact h1 g
      | succ j => exact h4 g j c w (by simpa using a) (by simpa using b)
    · rcases List.mem_cons.1 hc with e | e
      · subst e
        exact h2
      · exact h5 c e
  | [], _ :: _, h => by simp [zmatchL] at h
  | _ :: _, [], h => by simp [zmatchL] at h

def fieldsB : List Field → List (Nat × TypeId) → Bool
  | [], [] => true
  | f :: r, p :: q => decide (f.offset = p.1) && decide (f.type = p.2) && fieldsB r q
  | _, _ => false

theorem fieldsB_spec : ∀ {fs : List Field} {ps : List (Nat × TypeId)}, fieldsB fs ps = true → fs.map (fun f => (f.offset, f.type)) = ps
  | [], [], _ => rfl
  | f :: r, p :: q, h => by
    simp only [fieldsB, Bool.and_eq_true, decide_eq_true_eq] at h
    obtain ⟨⟨h1, h2⟩, h3⟩ := h
    rw [List.map_cons, fieldsB_spec h3, h1, h2]
  | [], _ :: _, h => by simp [fieldsB] at h
  | _ :: _, [], h => by simp [fieldsB] at h

def descB : TypeDesc → TD → Bool
  | .struct fields, .struct fs => fieldsB fields.toList fs
  | .slice e, .slice e' => decide (e = e')
  | .array n e, .array n' e' => decide (n = n') && decide (e = e')
  | .map k e, .map k' e' => decide (k = k') && decide (e = e')
  | .struct _, .other => false
  | .array _ _, .other => false
  | _, .other => true
  | _, _ => false

theorem descB_spec {d : TypeDesc} {td : TD} (h : descB d td = true) : descIs d td := by
  unfold descB at h
  split at h
  · exact ⟨_, rfl, fieldsB_spec h⟩
  · simp only [decide_eq_true_eq] at h
    subst h
    rfl
  · simp only [Bool.and_eq_true, decide_eq_true_eq] at h
    obtain ⟨h1, h2⟩ := h
    subst h1
    subst h2
    rfl
  · simp only [Bool.and_eq_true, decide_eq_true_eq] at h
    obtain ⟨h1, h2⟩ := h
    subst h1
    subst h2
    rfl
  · cases h
  · cases h
  · rename_i h1 h2
    cases d <;> first | trivial | exact (h1 _ rfl).elim | exact (h2 _ _ rfl).elim
  · cases h

def shapeB (agg : Bool) : Value → Bool
  | .agg _ => agg
  | _ => !agg

def tokB (P : Program) (t : TypeId) (ti : TInfo) : Bool :=
  match P.info? t, P.underlying t with
  | some i, some d => decide (i.size = ti.size) && decide (i.bytes = ti.bytes) && descB d ti.desc && decide (ti.zero.length = ti.size) &&
    (match i.zero with
    | some z => zmatchL ti.zero z.cells.toList && shapeB ti.desc.agg z
    | none => false)
  | _, _ => false

theorem tok_of_B {P : Program} {t : TypeId} {ti : TInfo} (h : tokB P t ti = true) : TOK P t ti := by
  unfold tokB at h
  split at h
  · rename_i i d hi hd
    split at h
    · rename_i z hz
      simp only [Bool.and_eq_true, decide_eq_true_eq] at h
      obtain ⟨⟨⟨⟨h1, h2⟩, h3⟩, h4⟩, h5, h6⟩ := h
      obtain ⟨q1, q2, q3⟩ := zmatchL_spec h5
      refine ⟨⟨i, z, hi, h1, h2, hz, by simpa using q1, h4, ⟨fun ha => ?_, fun ha => ?_⟩, fun g j c u a b => q2 g j c u a (by simpa using b), q3⟩, d, hd, descB_spec h3⟩
      · cases z with
        | agg cs => exact ⟨cs, rfl⟩
        | _ => simp [shapeB, ha] at h6
      · cases z with
        | agg cs => simp [shapeB, ha] at h6
        | _ => rfl
    · simp at h
  · cases h

end Go.Av
end

section
/-
  The library of abstract values, part fourteen: what a state says of lengths; short words for the walks.
-/
namespace Go.Av

theorem awp_rel {P : Program} {kb : Nat} {c : Code} {Q : AEx → St → Prop} {σ : St} {F : Prop} (hf : ∀ base a g, Rel base σ a g → F) (h : F → AWP P kb c Q σ) : AWP P kb c Q σ := fun base a g hb hr => h (hf base a g hr) base a g hb hr

theorem awp_len {P : Program} {kb : Nat} {c : Code} {Q : AEx → St → Prop} {n : Nat} {slots : List (Nat × AVal)} {O : List AObj} (s : Nat) {sz : Nat} {xs : List AVal} {o : Own} (hs : look slots s = some (.lst sz xs o))
    (h : xs.length ≤ 2 ^ 62 → AWP P kb c Q ⟨n, slots, O⟩) : AWP P kb c Q ⟨n, slots, O⟩ :=
  awp_rel (fun _ _ _ hr => by
    obtain ⟨u, _, h2⟩ := hr.slot s _ hs
    exact h2.lst_len) h

theorem look_mem : ∀ {l : List (Nat × AVal)} {s : Nat} {x : AVal}, look l s = some x → (s, x) ∈ l
  | (k, y) :: r, s, x, h => by
    simp only [look] at h
    split at h
    · rename_i e
      subst e
      simp only [Option.some.injEq] at h
      subst h
      exact List.mem_cons_self
    · exact List.mem_cons_of_mem _ (look_mem h)

theorem awp_trunc' {P : Program} {kb : Nat} {c : Code} {Q : AEx → St → Prop} {n : Nat} {slots : List (Nat × AVal)} {O : List AObj} (k : Nat) (slots' : List (Nat × AVal)) (hk : k ≤ O.length) (hkb : kb ≤ k) (O' : List AObj) (hO' : O.take k = O') (hb : ∀ o ∈ O', o.upto k)
    (hs : Says ⟨n, slots, O⟩ slots') (hsl : ∀ p ∈ slots', p.2.upto k) (h : AWP P kb c Q ⟨n, slots', O'⟩) : AWP P kb c Q ⟨n, slots, O⟩ :=
  awp_trunc k hk hkb slots' (by rw [hO']; exact hb) hs (fun s x hx => hsl _ (look_mem hx)) (by rw [hO']; exact h)

theorem snoc_get {α : Type} (l : List α) (x : α) : (l ++ [x])[l.length]? = some x := by simp
theorem snoc_set {α : Type} (l : List α) (x y : α) : (l ++ [x]).set l.length y = l ++ [y] := by simp
theorem snoc_take {α : Type} (l m : List α) : (l ++ m).take l.length = l := by simp
theorem snoc_old {α : Type} {l : List α} {i : Nat} {y : α} (h : l[i]? = some y) (m : List α) : (l ++ m)[i]? = some y := by
  rw [List.getElem?_append, if_pos (lt_of_getElem? h)]
  exact h
theorem snoc_set_old {α : Type} {l : List α} {i : Nat} {y : α} (h : l[i]? = some y) (m : List α) (z : α) : (l ++ m).set i z = l.set i z ++ m := by
  rw [List.set_append, if_pos (lt_of_getElem? h)]

theorem splice_nil (cs : List AVal) : splice cs 0 [] = cs := by simp [splice]
theorem splice_head (c x : AVal) (cs xs : List AVal) : splice (c :: cs) 0 (x :: xs) = x :: splice cs 0 xs := by simp [splice]
theorem splice_succ (c : AVal) (cs xs : List AVal) (k : Nat) : splice (c :: cs) (k + 1) xs = c :: splice cs k xs := by
  simp only [splice, List.take_succ_cons, List.cons_append, List.cons.injEq, true_and]
  rw [show k + 1 + xs.length = (k + xs.length) + 1 by omega, List.drop_succ_cons]

theorem take_len_map {α β : Type} (f : α → β) (l : List α) : (l.map f).take l.length = l.map f := List.take_of_length_le (by simp)

mutual
theorem AVal.upto_mono {n m : Nat} (h : n ≤ m) : ∀ x : AVal, x.upto n → x.upto m
  | .v _, _ => trivial
  | .agg cs, hx => uptoL_mono h cs hx
  | .lst _ xs o, hx => by
    refine ⟨uptoL_mono h xs hx.1, ?_⟩
    have := hx.2
    cases o <;> first | trivial | exact Nat.lt_of_lt_of_le this h
  | .ip _ cs, hx => uptoL_mono h cs hx
  | .mp _ _, hx => Nat.lt_of_lt_of_le hx h
  | .ms _ _ _ _, hx => Nat.lt_of_lt_of_le hx h
  | .raw _ _ _, hx => Nat.lt_of_lt_of_le hx h
  | .mm _, hx => Nat.lt_of_lt_of_le hx h
  | .im _ es, hx => uptoE_mono h es hx
  | .fn _ fs cs, hx => ⟨uptoL_mono h fs hx.1, uptoL_mono h cs hx.2⟩
  | .tup cs, hx => uptoL_mono h cs hx
theorem uptoL_mono {n m : Nat} (h : n ≤ m) : ∀ l : List AVal, uptoL n l → uptoL m l
  | [], _ => trivial
  | x :: r, hx => ⟨AVal.upto_mono h x hx.1, uptoL_mono h r hx.2⟩
theorem uptoE_mono {n m : Nat} (h : n ≤ m) : ∀ l : List (Value × AVal), uptoE n l → uptoE m l
  | [], _ => trivial
  | (k, x) :: r, hx => ⟨AVal.upto_mono h x hx.1, uptoE_mono h r hx.2⟩
end

theorem AObj.upto_mono {n m : Nat} (h : n ≤ m) {o : AObj} (ho : o.upto n) : o.upto m := by
  cases o with
  | cells cs => exact uptoL_mono h cs ho
  | map kt es => exact uptoE_mono h es ho
  | _ => trivial

/-- A list, told whole, of which nobody appends in place. -/
abbrev lstOf {α : Type} (sz : Nat) (f : α → AVal) (l : List α) : AVal := .lst sz (l.map f) .sh

theorem upto_lstOf {α : Type} {n sz : Nat} {f : α → AVal} {l : List α} (h : ∀ x ∈ l, (f x).upto n) : (lstOf sz f l).upto n := by
  simp only [AVal.upto, uptoL_iff, List.mem_map, and_true]
  rintro _ ⟨x, hx, rfl⟩
  exact h x hx

theorem sub_self (O : List AObj) (x : AVal) : Sub O x x = True := by simp [Sub.refl]
theorem Sub.int {O : List AObj} {k : IntKind} {a b : Int} (h : a = b) : Sub O (.v (.int k a)) (.v (.int k b)) := .of_eq (by rw [h])
theorem Sub.lst {O : List AObj} {sz : Nat} {xs ys : List AVal} {o : Own} (h : xs = ys) : Sub O (.lst sz xs o) (.lst sz ys o) := .of_eq (by rw [h])

theorem later_intro {p : Unit → Prop} {t : Tag p} (h : p ()) : Later p t := h

/-! the parts of a value, by its kind -/

theorem cells_v (x : Value) : AVal.cells (.v x) = [.v x] := rfl
theorem flat_v (x : Value) : AVal.flat (.v x) = True := rfl
theorem share_v (x : Value) : AVal.share (.v x) = .v x := rfl
theorem shareCell_v (x : Value) : AVal.shareCell (.v x) = .v x := rfl
theorem cells_lst (sz : Nat) (xs : List AVal) (o : Own) : AVal.cells (.lst sz xs o) = [.lst sz xs o] := rfl
theorem flat_lst (sz : Nat) (xs : List AVal) (o : Own) : AVal.flat (.lst sz xs o) = True := rfl
theorem share_lst (sz : Nat) (xs : List AVal) (o : Own) : AVal.share (.lst sz xs o) = .lst sz xs .sh := rfl
theorem shareCell_lst (sz : Nat) (xs : List AVal) (o : Own) : AVal.shareCell (.lst sz xs o) = .lst sz xs .sh := rfl
theorem cells_ip (oa : Option Addr) (cs : List AVal) : AVal.cells (.ip oa cs) = [.ip oa cs] := rfl
theorem flat_ip (oa : Option Addr) (cs : List AVal) : AVal.flat (.ip oa cs) = True := rfl
theorem share_ip (oa : Option Addr) (cs : List AVal) : AVal.share (.ip oa cs) = .ip oa cs := rfl
theorem shareCell_ip (oa : Option Addr) (cs : List AVal) : AVal.shareCell (.ip oa cs) = .ip oa cs := rfl
theorem cells_mp (id off : Nat) : AVal.cells (.mp id off) = [.mp id off] := rfl
theorem flat_mp (id off : Nat) : AVal.flat (.mp id off) = True := rfl
theorem share_mp (id off : Nat) : AVal.share (.mp id off) = .mp id off := rfl
theorem shareCell_mp (id off : Nat) : AVal.shareCell (.mp id off) = .mp id off := rfl
theorem cells_raw (sz n id : Nat) : AVal.cells (.raw sz n id) = [.raw sz n id] := rfl
theorem flat_raw (sz n id : Nat) : AVal.flat (.raw sz n id) = True := rfl
theorem share_raw (sz n id : Nat) : AVal.share (.raw sz n id) = .raw sz n id := rfl
theorem shareCell_raw (sz n id : Nat) : AVal.shareCell (.raw sz n id) = .raw sz n id := rfl
theorem cells_ms (id off len cap : Nat) : AVal.cells (.ms id off len cap) = [.ms id off len cap] := rfl
theorem flat_ms (id off len cap : Nat) : AVal.flat (.ms id off len cap) = True := rfl
theorem share_ms (id off len cap : Nat) : AVal.share (.ms id off len cap) = .ms id off len cap := rfl
theorem shareCell_ms (id off len cap : Nat) : AVal.shareCell (.ms id off len cap) = .ms id off len cap := rfl
theorem cells_mm (id : Nat) : AVal.cells (.mm id) = [.mm id] := rfl
theorem flat_mm (id : Nat) : AVal.flat (.mm id) = True := rfl
theorem share_mm (id : Nat) : AVal.share (.mm id) = .mm id := rfl
theorem shareCell_mm (id : Nat) : AVal.shareCell (.mm id) = .mm id := rfl
theorem cells_im (kt : KT) (es : List (Value × AVal)) : AVal.cells (.im kt es) = [.im kt es] := rfl
theorem flat_im (kt : KT) (es : List (Value × AVal)) : AVal.flat (.im kt es) = True := rfl
theorem share_im (kt : KT) (es : List (Value × AVal)) : AVal.share (.im kt es) = .im kt es := rfl
theorem shareCell_im (kt : KT) (es : List (Value × AVal)) : AVal.shareCell (.im kt es) = .im kt es := rfl
theorem cells_fn (f : Fn) (fs cs : List AVal) : AVal.cells (.fn f fs cs) = [.fn f fs cs] := rfl
theorem flat_fn (f : Fn) (fs cs : List AVal) : AVal.flat (.fn f fs cs) = True := rfl
theorem share_fn (f : Fn) (fs cs : List AVal) : AVal.share (.fn f fs cs) = .fn f fs cs := rfl
theorem shareCell_fn (f : Fn) (fs cs : List AVal) : AVal.shareCell (.fn f fs cs) = .fn f fs cs := rfl
theorem cells_agg (cs : List AVal) : AVal.cells (.agg cs) = cs := rfl
theorem flat_agg (cs : List AVal) : AVal.flat (.agg cs) = True := rfl
theorem share_agg (cs : List AVal) : AVal.share (.agg cs) = .agg (cs.map AVal.shareCell) := rfl
theorem share_tup (cs : List AVal) : AVal.share (.tup cs) = .tup cs := rfl

end Go.Av
end

section
/-
  The laws of the library of abstract values, bound together: what the walks hand to simp. Nothing new is said here.
-/
set_option linter.defProp false
namespace Go.Av

/-- The equations that compute a step, told ahead. -/
def vpre := And.intro @vcOps.eq_1 <|
  And.intro @vcOps.eq_2 <|
  And.intro @vcOp.eq_1 <|
  And.intro @vcMove.eq_1 <|
  And.intro @on_some <|
  And.intro @draws_false <|
  And.intro @draws_true <|
  And.intro @vcIf_true <|
  And.intro @vcIf_false <|
  And.intro @vcPick.eq_1 <|
  And.intro @vcFieldAddr.eq_1 <|
  And.intro @vcField.eq_1 <|
  And.intro @vcLoad.eq_1 <|
  And.intro @vcStore.eq_1 <|
  And.intro @vcIndexAddr.eq_1 <|
  And.intro @vcBin.eq_1 <|
  And.intro @vcBin.eq_2 <|
  And.intro @vcBin.eq_3 <|
  And.intro @vcBin.eq_4 <|
  And.intro @vcBin.eq_5 <|
  And.intro @vcBin.eq_6 <|
  And.intro @vcPtr.eq_1 <|
  And.intro @ptrA.eq_1 <|
  And.intro @ptrA.eq_2 <|
  And.intro @ptrA.eq_3 <|
  And.intro @vcInt.eq_1 <|
  And.intro @vcUn.eq_1 <|
  And.intro @vcUn.eq_2 <|
  And.intro @vcUn.eq_3 <|
  And.intro @bnd.eq_1 <|
  And.intro @bnd.eq_2 <|
  And.intro @vcSlice.eq_1 <|
  And.intro @vcCut.eq_1 <|
  And.intro @vcCut.eq_2 <|
  And.intro @vcBuild.eq_1 <|
  And.intro @vcBuildSlice.eq_1 <|
  And.intro @vcMakeSlice.eq_1 <|
  And.intro @vcLookup.eq_1 <|
  And.intro @vcMapUpdate.eq_1 <|
  And.intro @vcMakeMap.eq_1 <|
  And.intro @vcLen.eq_1 <|
  And.intro @vcAppend.eq_1 <|
  And.intro @vcNil.eq_1 <|
  And.intro @vcCap.eq_1 <|
  And.intro @vcClear.eq_1 <|
  And.intro @vcCall.eq_1 <|
  And.intro @vcCall.eq_2 <|
  And.intro @vcCallOp.eq_1 <|
  And.intro @vcCallOp.eq_2 <|
  And.intro @vcCallOp.eq_3 <|
  And.intro @vcCallOp.eq_4 <|
  And.intro @vcCallOp.eq_5 <|
  And.intro @vcCallOp.eq_6 <|
  And.intro @vcCallOp.eq_7 <|
  And.intro @vcCallOp.eq_8 <|
  And.intro @vcCallOp.eq_9 <|
  And.intro @vcCallOp.eq_10 <|
  And.intro @vcCallOp.eq_11 <|
  And.intro @vcCallOp.eq_12 <|
  And.intro @vcCallOp.eq_13 <|
  And.intro @vcCallOp.eq_14 <|
  And.intro @vcTop.eq_1 <|
  And.intro @vcLow.eq_1 <|
  And.intro @vcNilCheck.eq_1 <|
  And.intro @vcNilCheck.eq_2 <|
  @vcNilCheck.eq_3

/-- The equations that compute values. -/
def vpos := And.intro @nxt_mk <|
  And.intro @ownAt.eq_1 <|
  And.intro @ownAt.eq_2 <|
  And.intro @ownAt.eq_3 <|
  And.intro @ownAt.eq_4 <|
  And.intro @ownAt.eq_5 <|
  And.intro @cmpAddr.eq_1 <|
  And.intro @cmpAddr.eq_2 <|
  And.intro @isNil.eq_1 <|
  And.intro @isNil.eq_2 <|
  And.intro @St.ev.eq_1 <|
  And.intro @St.ev.eq_2 <|
  And.intro @St.ev.eq_3 <|
  And.intro @St.ev.eq_4 <|
  And.intro @St.get.eq_1 <|
  And.intro @slotAt.eq_1 <|
  And.intro @slotAt.eq_2 <|
  And.intro @addSlot.eq_1 <|
  And.intro @addSlot.eq_2 <|
  And.intro @look.eq_1 <|
  And.intro @look.eq_2 <|
  And.intro @slotsOf.eq_1 <|
  And.intro @slotsOf.eq_2 <|
  And.intro @dstOK.eq_1 <|
  And.intro @dstOK.eq_2 <|
  And.intro @putO.eq_1 <|
  And.intro @putO.eq_2 <|
  And.intro @putS.eq_1 <|
  And.intro @dropS.eq_1 <|
  And.intro @dropS.eq_2 <|
  And.intro @dropO.eq_1 <|
  And.intro @dropO.eq_2 <|
  And.intro @Mode.post.eq_1 <|
  And.intro @Mode.post.eq_2 <|
  And.intro @Mode.post.eq_3 <|
  And.intro @Mode.kind.eq_1 <|
  And.intro @Mode.kind.eq_2 <|
  And.intro @Mode.kind.eq_3 <|
  And.intro @Mode.kind.eq_4 <|
  And.intro @Mode.kind.eq_5 <|
  And.intro @cells_v <|
  And.intro @flat_v <|
  And.intro @share_v <|
  And.intro @shareCell_v <|
  And.intro @cells_lst <|
  And.intro @flat_lst <|
  And.intro @share_lst <|
  And.intro @shareCell_lst <|
  And.intro @cells_ip <|
  And.intro @flat_ip <|
  And.intro @share_ip <|
  And.intro @shareCell_ip <|
  And.intro @cells_mp <|
  And.intro @flat_mp <|
  And.intro @share_mp <|
  And.intro @shareCell_mp <|
  And.intro @cells_raw <|
  And.intro @flat_raw <|
  And.intro @share_raw <|
  And.intro @shareCell_raw <|
  And.intro @cells_ms <|
  And.intro @flat_ms <|
  And.intro @share_ms <|
  And.intro @shareCell_ms <|
  And.intro @cells_mm <|
  And.intro @flat_mm <|
  And.intro @share_mm <|
  And.intro @shareCell_mm <|
  And.intro @cells_im <|
  And.intro @flat_im <|
  And.intro @share_im <|
  And.intro @shareCell_im <|
  And.intro @cells_fn <|
  And.intro @flat_fn <|
  And.intro @share_fn <|
  And.intro @shareCell_fn <|
  And.intro @cells_agg <|
  And.intro @flat_agg <|
  And.intro @share_agg <|
  And.intro @share_tup <|
  And.intro @aconst.eq_1 <|
  And.intro @aconst.eq_2 <|
  And.intro @aconst.eq_3 <|
  And.intro @aconst.eq_4 <|
  And.intro @cmpInt.eq_1 <|
  And.intro @cmpInt.eq_2 <|
  And.intro @cmpInt.eq_3 <|
  And.intro @cmpInt.eq_4 <|
  And.intro @cmpInt.eq_5 <|
  And.intro @cmpInt.eq_6 <|
  And.intro @cmpInt.eq_7 <|
  And.intro @arithInt.eq_1 <|
  And.intro @arithInt.eq_2 <|
  And.intro @arithInt.eq_3 <|
  And.intro @arithInt.eq_4 <|
  And.intro @arithInt.eq_5 <|
  And.intro @arithInt.eq_6 <|
  And.intro @arithInt.eq_7 <|
  And.intro @arithInt.eq_8 <|
  And.intro @arithInt.eq_9 <|
  And.intro @shiftInt.eq_1 <|
  And.intro @isShift.eq_1 <|
  And.intro @isShift.eq_2 <|
  And.intro @isShift.eq_3 <|
  And.intro @isShift.eq_4 <|
  And.intro @isShift.eq_5 <|
  And.intro @isShift.eq_6 <|
  And.intro @isShift.eq_7 <|
  And.intro @isShift.eq_8 <|
  And.intro @isShift.eq_9 <|
  And.intro @isShift.eq_10 <|
  And.intro @isShift.eq_11 <|
  And.intro @isShift.eq_12 <|
  And.intro @isShift.eq_13 <|
  And.intro @isShift.eq_14 <|
  And.intro @isShift.eq_15 <|
  And.intro @isShift.eq_16 <|
  And.intro @isShift.eq_17 <|
  And.intro @cmpStr.eq_1 <|
  And.intro @cmpStr.eq_2 <|
  And.intro @cmpStr.eq_3 <|
  And.intro @cmpBool.eq_1 <|
  And.intro @cmpBool.eq_2 <|
  And.intro @cmpBool.eq_3 <|
  And.intro @Bool.and_true <|
  And.intro @Bool.true_and <|
  And.intro @Bool.and_false <|
  And.intro @Bool.false_and <|
  And.intro @Bool.and_self <|
  And.intro @nilA.eq_1 <|
  And.intro @nilA.eq_2 <|
  And.intro @nilA.eq_3 <|
  And.intro @nilA.eq_4 <|
  And.intro @nilTest.eq_1 <|
  And.intro @nilTest.eq_2 <|
  And.intro @nilTest.eq_3 <|
  And.intro @capA.eq_1 <|
  And.intro @capA.eq_2 <|
  And.intro @St.evs.eq_1 <|
  And.intro @St.evs.eq_2 <|
  And.intro @St.evParts.eq_1 <|
  And.intro @St.evParts.eq_2 <|
  And.intro @allFlat.eq_1 <|
  And.intro @allFlat.eq_2 <|
  And.intro @allSize.eq_1 <|
  And.intro @allSize.eq_2 <|
  And.intro @fillA.eq_1 <|
  And.intro @fillA.eq_2 <|
  And.intro @splice_nil <|
  And.intro @splice_head <|
  And.intro @splice_succ <|
  And.intro @seqParts.eq_1 <|
  And.intro @seqParts.eq_2 <|
  And.intro @placesOf.eq_1 <|
  And.intro @placesOf.eq_2 <|
  And.intro @TD.agg.eq_1 <|
  And.intro @TD.agg.eq_2 <|
  And.intro @TD.agg.eq_3 <|
  And.intro @TD.elem.eq_1 <|
  And.intro @TD.elem.eq_2 <|
  And.intro @lenA.eq_1 <|
  And.intro @lenA.eq_2 <|
  And.intro @lenA.eq_3 <|
  And.intro @lookRes.eq_1 <|
  And.intro @zeroOf.eq_1 <|
  And.intro @loK.eq_1 <|
  And.intro @loK.eq_2 <|
  And.intro @loK.eq_3 <|
  And.intro @loK.eq_4 <|
  And.intro @loK.eq_5 <|
  And.intro @hiK.eq_1 <|
  And.intro @hiK.eq_2 <|
  And.intro @hiK.eq_3 <|
  And.intro @hiK.eq_4 <|
  And.intro @hiK.eq_5 <|
  And.intro @hiK.eq_6 <|
  And.intro @hiK.eq_7 <|
  And.intro @hiK.eq_8 <|
  And.intro @and_self <|
  And.intro @true_and <|
  And.intro @and_true <|
  And.intro @not_false_eq_true <|
  And.intro @List.nil_append.{0} <|
  And.intro @List.cons_append.{0} <|
  And.intro @List.append_nil.{0} <|
  And.intro @List.length_nil.{0} <|
  And.intro @List.length_cons.{0} <|
  And.intro @List.getElem?_cons_zero.{0} <|
  And.intro @List.getElem?_cons_succ.{0} <|
  And.intro @List.getElem?_nil.{0} <|
  And.intro @List.take_succ_cons.{0} <|
  And.intro @List.take_zero.{0} <|
  And.intro @List.take_nil.{0} <|
  And.intro @List.drop_succ_cons.{0} <|
  And.intro @List.drop_zero.{0} <|
  And.intro @List.drop_nil.{0} <|
  And.intro @List.set_cons_zero.{0} <|
  And.intro @List.set_cons_succ.{0} <|
  And.intro @List.map_cons.{0,0} <|
  And.intro @List.map_nil.{0,0} <|
  And.intro @Option.map_none.{0,0} <|
  And.intro @Option.map_some.{0,0} <|
  And.intro @Option.isSome_some.{0} <|
  And.intro @Option.isSome_none.{0} <|
  And.intro @Option.bind_some.{0,0} <|
  And.intro @Bool.false_eq_true <|
  And.intro @Bool.not_true <|
  And.intro @Bool.not_false <|
  And.intro @beq_self_eq_true.{0} <|
  And.intro @List.getElem?_toArray.{0} <|
  And.intro @Nat.zero_add <|
  And.intro @Nat.add_zero <|
  And.intro @decide_true <|
  And.intro @decide_false <|
  And.intro @beq_true <|
  And.intro @beq_false <|
  And.intro @Bool.true_beq <|
  And.intro @Bool.false_beq <|
  And.intro @Bool.not_not <|
  And.intro @decide_eq_true_eq <|
  And.intro @decide_eq_false_iff_not <|
  And.intro @Bool.not_eq_true' <|
  And.intro @Bool.not_eq_false' <|
  And.intro @Bool.not_eq_true <|
  And.intro @Bool.not_eq_false <|
  And.intro @Int.toNat_natCast <|
  And.intro @Int.natCast_zero <|
  And.intro @Int.sub_zero <|
  And.intro @Int.add_zero <|
  And.intro @Int.zero_add <|
  And.intro @Int.toNat_zero <|
  And.intro @List.getElem?_map.{0,0} <|
  And.intro @Int.natCast_nonneg <|
  And.intro @List.length_map.{0,0} <|
  And.intro @List.not_mem_nil.{0} <|
  And.intro @false_implies <|
  And.intro @List.length_append.{0} <|
  And.intro @or_false <|
  And.intro @or_true <|
  And.intro @true_or <|
  And.intro @false_or <|
  And.intro @or_self <|
  And.intro @snoc_get <|
  And.intro @snoc_set <|
  And.intro @take_len_map <|
  @Nat.le_refl

/-- What stands behind a piece of code. -/
def vend := And.intro @seqPost_norm <|
  And.intro @seqPost_exit <|
  And.intro @seqPost_ret <|
  And.intro @blockPost_norm <|
  And.intro @blockPost_ret <|
  And.intro @blockPost_self <|
  And.intro @blockPost_other <|
  And.intro @loopPost_norm <|
  And.intro @loopPost_ret <|
  And.intro @loopPost_exit <|
  @not_false_eq_true

end Go.Av
end

section
/-
  The library of abstract values, part seventeen: a call that is told over the first objects alone, in the middle of more.
-/
namespace Go.Av

/-- Of what is owned all but the first n objects is another's. -/
def G.cut (g : G) (n : Nat) : G := ⟨g.w, fun b off => g.fr b off ∨ ∃ (id : Nat) (l : Loc) (o : AObj), n ≤ id ∧ g.env[id]? = some (some l) ∧ g.objs[id]? = some o ∧ o.live ∧ l.block = b ∧ l.lo ≤ off, g.env.take n, g.objs.take n⟩

theorem take_iff {α : Type} {l : List α} {n i : Nat} {x : α} : (l.take n)[i]? = some x ↔ i < n ∧ l[i]? = some x := by
  rw [List.getElem?_take]
  split
  · rename_i h; simp [h]
  · rename_i h; simp [h]

theorem cut_own {g : G} {n b off : Nat} : OwnC (g.cut n) b off ↔ OwnC g b off := by
  constructor
  · rintro ((h | ⟨id, l, o, _, h1, h2, h3, h4, h5⟩) | ⟨id, l, o, h1, h2, h3, h4, h5⟩)
    · exact .inl h
    · exact .inr ⟨id, l, o, h1, h2, h3, h4, h5⟩
    · exact .inr ⟨id, l, o, (take_iff.1 h1).2, (take_iff.1 h2).2, h3, h4, h5⟩
  · rintro (h | ⟨id, l, o, h1, h2, h3, h4, h5⟩)
    · exact .inl (.inl h)
    · rcases Nat.lt_or_ge id n with hlt | hge
      · exact .inr ⟨id, l, o, take_iff.2 ⟨hlt, h1⟩, take_iff.2 ⟨hlt, h2⟩, h3, h4, h5⟩
      · exact .inl (.inr ⟨id, l, o, hge, h1, h2, h3, h4, h5⟩)

theorem RV.cut {g : G} {n : Nat} (hn0 : n ≤ g.objs.length) {x : AVal} {u : Value} (h : RV g x u) (hb : x.upto n) : RV (g.cut n) x u := by
  induction h with
  | v hx => exact .v hx
  | agg hl hsc _ ih =>
    simp only [AVal.upto, uptoL_iff] at hb
    exact .agg hl hsc fun i c u a b => ih i c u a b (hb c (List.mem_of_getElem? a))
  | nil ho hnn =>
    simp only [AVal.upto] at hb
    refine .nil (fun id e => ?_) hnn
    subst e
    have := hb.2
    simp only at this
    simp only [G.cut, List.length_take]
    omega
  | lst hsz hsc hcap hmax hs f hm hr ho ih =>
    rename_i sz xs o a cap
    simp only [AVal.upto, uptoL_iff] at hb
    refine .lst hsz hsc hcap hmax hs f (fun j c hj => ⟨(hm j c hj).1, fun q => (hm j c hj).2 (cut_own.1 q)⟩) (fun j c hj => ih j c hj ?_) ?_
    · have hc := List.mem_of_getElem? hj
      simp only [cellsAll, List.mem_flatMap] at hc
      obtain ⟨x, hx, hc⟩ := hc
      have := hb.1 x hx
      cases x with
      | agg cs =>
        simp only [AVal.upto, uptoL_iff] at this
        exact this c hc
      | _ => simp only [AVal.cells, List.mem_singleton] at hc; subst hc; exact this
    · cases o with
      | sh => trivial
      | nn => trivial
      | ex => exact ho
      | loc a => exact ho
      | tok id =>
        have hid := hb.2
        simp only at hid
        refine ⟨by simp only [G.cut, List.length_take]; omega, fun m hm' => ?_⟩
        obtain ⟨h1, h2⟩ := ho.2 m (take_iff.1 hm').2
        refine ⟨h1, fun e => ?_⟩
        rcases h2 e with q | ⟨l, arr, t, q1, q2⟩
        · exact .inl q
        · exact .inr ⟨l, arr, t, take_iff.2 ⟨hid, q1⟩, q2⟩
  | ip ha hsc f hm hr ih =>
    simp only [AVal.upto, uptoL_iff] at hb
    exact .ip ha hsc f (fun j c hj => ⟨(hm j c hj).1, fun q => (hm j c hj).2 (cut_own.1 q)⟩) fun j c hj => ih j c hj (hb c (List.mem_of_getElem? hj))
  | mp he ho hn' =>
    simp only [AVal.upto] at hb
    exact .mp (take_iff.2 ⟨hb, he⟩) (take_iff.2 ⟨hb, ho⟩) hn'
  | ms he ho hn' hc hc' hmax =>
    simp only [AVal.upto] at hb
    exact .ms (take_iff.2 ⟨hb, he⟩) (take_iff.2 ⟨hb, ho⟩) hn' hc hc' hmax
  | raw hnn ho =>
    rename_i sz n0 id a cap
    have hid : id < n := hb
    refine .raw hnn ⟨by simp only [G.cut, List.length_take]; omega, fun m hm' => ?_⟩
    obtain ⟨h1, h2⟩ := ho.2 m (take_iff.1 hm').2
    refine ⟨h1, fun e => ?_⟩
    rcases h2 e with q | ⟨l, arr, t, q1, q2⟩
    · exact .inl q
    · exact .inr ⟨l, arr, t, take_iff.2 ⟨hid, q1⟩, q2⟩
  | mm he ho hn' =>
    simp only [AVal.upto] at hb
    exact .mm (take_iff.2 ⟨hb, he⟩) (take_iff.2 ⟨hb, ho⟩) hn'
  | im hh hn' hl hk hkt _ ih =>
    simp only [AVal.upto, uptoE_iff] at hb
    exact .im hh (fun off q => hn' off (cut_own.1 q)) hl hk hkt fun i e kx a b => ih i e kx a b (hb kx (List.mem_of_getElem? b))
  | fn hl hl' _ _ ih ih' =>
    simp only [AVal.upto, uptoL_iff] at hb
    exact .fn hl hl' (fun i c u a b => ih i c u a b (hb.1 c (List.mem_of_getElem? a))) fun i c u a b => ih' i c u a b (hb.2 c (List.mem_of_getElem? a))
  | tup hl _ ih =>
    simp only [AVal.upto, uptoL_iff] at hb
    exact .tup hl fun i c u a b => ih i c u a b (hb c (List.mem_of_getElem? a))

theorem Good.cut {g : G} (hg : Good g) {n : Nat} (hn : n ≤ g.objs.length) (hb : ∀ o ∈ g.objs.take n, o.upto n) : Good (g.cut n) where
  frlt := fun b off h => by
    rcases h with h | ⟨id, l, o, _, h1, h2, h3, h4, _⟩
    · exact hg.frlt b off h
    · exact h4 ▸ hg.loc id l o h1 h2 h3
  frown := fun id l o h1 h2 h3 off h => by
    obtain ⟨q1, h1⟩ := take_iff.1 h1
    obtain ⟨_, h2⟩ := take_iff.1 h2
    rcases h with h | ⟨id', l', o', k0, k1, k2, k3, k4, _⟩
    · exact hg.frown id l o h1 h2 h3 off h
    · have := hg.apart id id' l l' o o' h1 h2 h3 k1 k2 k3 k4.symm
      omega
  len := by simp [G.cut, hg.len]
  loc := fun id l o h1 h2 h3 => hg.loc id l o (take_iff.1 h1).2 (take_iff.1 h2).2 h3
  apart := fun id id' l l' o o' h1 h2 h3 k1 k2 k3 => hg.apart id id' l l' o o' (take_iff.1 h1).2 (take_iff.1 h2).2 h3 (take_iff.1 k1).2 (take_iff.1 k2).2 k3
  cells := fun id cs h1 => by
    have hb' := hb _ (List.mem_of_getElem? h1)
    obtain ⟨q, h1⟩ := take_iff.1 h1
    obtain ⟨l, arr, t, e1, e0, e2, e3, e4, e5⟩ := hg.cells id cs h1
    simp only [AObj.upto, uptoL_iff] at hb'
    exact ⟨l, arr, t, take_iff.2 ⟨q, e1⟩, e0, e2, e3, fun j c u a b => (e4 j c u a b).cut hn (hb' c (List.mem_of_getElem? a)), e5⟩
  spare := fun id m l h1 h2 => hg.spare id m l (take_iff.1 h1).2 (take_iff.1 h2).2
  map := fun id kt es h1 => by
    have hb' := hb _ (List.mem_of_getElem? h1)
    obtain ⟨q, h1⟩ := take_iff.1 h1
    obtain ⟨l, arr, clk, e1, e0, e2, e3, e6, e4⟩ := hg.map id kt es h1
    simp only [AObj.upto, uptoE_iff] at hb'
    exact ⟨l, arr, clk, take_iff.2 ⟨q, e1⟩, e0, e2, e3, e6, fun i e kx a b => ⟨(e4 i e kx a b).1, (e4 i e kx a b).2.1, (e4 i e kx a b).2.2.cut hn (hb' kx (List.mem_of_getElem? b))⟩⟩

/-- Behind the call the others' objects are there again. -/
def G.rejoin (g : G) (n : Nat) (g' : G) : G := ⟨g'.w, g.fr, g'.env ++ g.env.drop n, g'.objs ++ g.objs.drop n⟩

theorem rejoin_some {α : Type} {a l : List α} {n i : Nat} {x : α} (ha : a.length = n) : (a ++ l.drop n)[i]? = some x ↔ (i < n ∧ a[i]? = some x) ∨ (n ≤ i ∧ l[i]? = some x) := by
  rw [List.getElem?_append]
  split
  · rename_i h
    constructor
    · intro e; exact .inl ⟨by omega, e⟩
    · rintro (⟨_, e⟩ | ⟨q, _⟩)
      · exact e
      · omega
  · rename_i h
    rw [List.getElem?_drop, show n + (i - a.length) = i by omega]
    constructor
    · intro e; exact .inr ⟨by omega, e⟩
    · rintro (⟨q, _⟩ | ⟨_, e⟩)
      · omega
      · exact e

structure Cuts (g : G) (n : Nat) (g' : G) : Prop where
  good : Good g
  le : Le (g.cut n) g'
  good' : Good g'
  lt : n ≤ g.objs.length
  same : g'.objs.length = n

theorem Cuts.env {g g' : G} {n : Nat} (h : Cuts g n g') : g'.env.length = n := h.good'.len.trans h.same

theorem Cuts.ownB {g g' : G} {n b : Nat} (h : Cuts g n g') (hn : OwnLB (g.rejoin n g') b) : OwnLB g' b ∨ ∃ (id : Nat) (l : Loc) (o : AObj), n ≤ id ∧ g.env[id]? = some (some l) ∧ g.objs[id]? = some o ∧ o.live ∧ l.block = b := by
  obtain ⟨id, l, o, h1, h2, h3, h4⟩ := hn
  rcases (rejoin_some h.env).1 h1 with ⟨q1, h1⟩ | ⟨q1, h1⟩
  · rcases (rejoin_some h.same).1 h2 with ⟨q2, h2⟩ | ⟨q2, h2⟩
    · exact .inl ⟨id, l, o, h1, h2, h3, h4⟩
    · omega
  · rcases (rejoin_some h.same).1 h2 with ⟨q2, h2⟩ | ⟨q2, h2⟩
    · omega
    · exact .inr ⟨id, l, o, q1, h1, h2, h3, h4⟩

theorem Cuts.own {g g' : G} {n b off : Nat} (h : Cuts g n g') : OwnC (g.rejoin n g') b off → OwnC g' b off := by
  rintro (hf | ⟨id, l, o, h1, h2, h3, h4, h5⟩)
  · refine .inl ?_
    rw [h.le.fr]
    exact .inl hf
  · rcases (rejoin_some h.env).1 h1 with ⟨q1, h1⟩ | ⟨q1, h1⟩
    · rcases (rejoin_some h.same).1 h2 with ⟨q2, h2⟩ | ⟨q2, h2⟩
      · exact .inr ⟨id, l, o, h1, h2, h3, h4, h5⟩
      · omega
    · rcases (rejoin_some h.same).1 h2 with ⟨q2, h2⟩ | ⟨q2, h2⟩
      · omega
      · refine .inl ?_
        rw [h.le.fr]
        exact .inr ⟨id, l, o, q1, h1, h2, h3, h4, h5⟩

theorem cut_ownB {g : G} {n b : Nat} (h : OwnLB (g.cut n) b) : OwnLB g b := by
  obtain ⟨id, l, o, h1, h2, h3, h4⟩ := h
  exact ⟨id, l, o, (take_iff.1 h1).2, (take_iff.1 h2).2, h3, h4⟩

theorem cut_ownL {g : G} {n b off : Nat} (h : OwnL (g.cut n) b off) : OwnL g b off := by
  obtain ⟨id, l, o, h1, h2, h3, h4, h5⟩ := h
  exact ⟨id, l, o, (take_iff.1 h1).2, (take_iff.1 h2).2, h3, h4, h5⟩

/-- The others' blocks are as they were. -/
theorem Cuts.block {g g' : G} {n : Nat} (h : Cuts g n g') {id : Nat} {l : Loc} {o : AObj} (hid : n ≤ id) (h1 : g.env[id]? = some (some l)) (h2 : g.objs[id]? = some o) (h3 : o.live) : g'.w.heap[l.block]? = g.w.heap[l.block]? := by
  refine (h.le.block l.block (h.good.loc id l o h1 h2 h3) ?_).1
  rintro ⟨id', l', o', k1, k2, k3, k4⟩
  obtain ⟨q, k1⟩ := take_iff.1 k1
  have := h.good.apart id' id l' l o' o k1 (take_iff.1 k2).2 k3 h1 h2 h3 k4
  omega

theorem Cuts.le' {g g' : G} {n : Nat} (h : Cuts g n g') : Le g (g.rejoin n g') where
  os := h.le.os
  tape := h.le.tape
  output := h.le.output
  fr := rfl
  size := h.le.size
  block := fun k hk hh => by
    obtain ⟨q1, q2⟩ := h.le.block k hk (fun q => hh (cut_ownB q))
    refine ⟨q1, fun q => ?_⟩
    rcases h.ownB q with q | ⟨id, l, o, _, q⟩
    · exact q2 q
    · exact hh ⟨id, l, o, q⟩
  cell := fun b off x hx hh => by
    obtain ⟨q1, q2⟩ := h.le.cell b off x hx (fun q => hh (cut_ownL q))
    refine ⟨q1, fun q => ?_⟩
    obtain ⟨id, l, o, h1, h2, h3, h4, h5⟩ := q
    rcases (rejoin_some h.env).1 h1 with ⟨e1, h1⟩ | ⟨e1, h1⟩
    · rcases (rejoin_some h.same).1 h2 with ⟨e2, h2⟩ | ⟨e2, h2⟩
      · exact q2 ⟨id, l, o, h1, h2, h3, h4, h5⟩
      · omega
    · rcases (rejoin_some h.same).1 h2 with ⟨e2, h2⟩ | ⟨e2, h2⟩
      · omega
      · exact hh ⟨id, l, o, h1, h2, h3, h4, h5⟩
  len := by
    simp only [G.rejoin, List.length_append, List.length_drop, h.same]
    omega
  spare := fun id m hm => by
    rcases Nat.lt_or_ge id n with q | q
    · rcases h.le.spare id m (take_iff.2 ⟨q, hm⟩) with ⟨m', k1, k2⟩ | k
      · exact .inl ⟨m', (rejoin_some h.same).2 (.inl ⟨q, k1⟩), k2⟩
      · exact .inr ((rejoin_some h.same).2 (.inl ⟨q, k⟩))
    · exact .inl ⟨m, (rejoin_some h.same).2 (.inr ⟨q, hm⟩), Nat.le_refl _⟩
  plain := fun id o ho hs => by
    have hlt := lt_of_getElem? ho
    have he : g.env[id]? = some (g.env[id]'(by rw [h.good.len]; exact hlt)) := List.getElem?_eq_getElem _
    rcases Nat.lt_or_ge id n with q | q
    · obtain ⟨⟨o', k1, k2⟩, k3⟩ := h.le.plain id o (take_iff.2 ⟨q, ho⟩) hs
      refine ⟨⟨o', (rejoin_some h.same).2 (.inl ⟨q, k1⟩), k2⟩, ?_⟩
      rw [he]
      refine (rejoin_some h.env).2 (.inl ⟨q, ?_⟩)
      rw [k3]
      exact take_iff.2 ⟨q, he⟩
    · refine ⟨⟨o, (rejoin_some h.same).2 (.inr ⟨q, ho⟩), hs⟩, ?_⟩
      rw [he]
      exact (rejoin_some h.env).2 (.inr ⟨q, he⟩)
  gone := fun id ho => by
    rcases Nat.lt_or_ge id n with q | q
    · exact (rejoin_some h.same).2 (.inl ⟨q, h.le.gone id (take_iff.2 ⟨q, ho⟩)⟩)
    · exact (rejoin_some h.same).2 (.inr ⟨q, ho⟩)
  tok := fun id m hm hm' => by
    have hlt := lt_of_getElem? hm
    have he : g.env[id]? = some (g.env[id]'(by rw [h.good.len]; exact hlt)) := List.getElem?_eq_getElem _
    rcases (rejoin_some h.same).1 hm' with ⟨q, hm'⟩ | ⟨q, hm'⟩
    · obtain ⟨k1, k2⟩ := h.le.tok id m (take_iff.2 ⟨q, hm⟩) hm'
      refine ⟨?_, fun l hl => k2 l (take_iff.2 ⟨q, hl⟩)⟩
      rw [he]
      refine (rejoin_some h.env).2 (.inl ⟨q, ?_⟩)
      rw [k1]
      exact take_iff.2 ⟨q, he⟩
    · refine ⟨?_, fun l hl => h.block q hl hm trivial⟩
      rw [he]
      exact (rejoin_some h.env).2 (.inr ⟨q, he⟩)

theorem RV.rejoin {g g' : G} {n : Nat} (hc : Cuts g n g') {x : AVal} {u : Value} (h : RV g' x u) : RV (g.rejoin n g') x u := by
  have hlt : ∀ {id : Nat} {o : AObj}, g'.objs[id]? = some o → id < n := fun ho => by
    have := lt_of_getElem? ho
    rw [hc.same] at this
    exact this
  induction h with
  | v hx => exact .v hx
  | agg hl hsc _ ih => exact .agg hl hsc ih
  | nil ho hnn =>
    refine .nil (fun id e => ?_) hnn
    have := ho id e
    simp only [G.rejoin, List.length_append]
    omega
  | lst hsz hsc hcap hmax hs f hm hr ho ih =>
    rename_i sz xs o a cap
    refine .lst hsz hsc hcap hmax hs f (fun j c hj => ⟨(hm j c hj).1, fun q => (hm j c hj).2 (hc.own q)⟩) ih ?_
    cases o with
    | sh => trivial
    | nn => trivial
    | ex => exact ho
    | loc a => exact ho
    | tok id =>
      have hid := ho.1
      rw [hc.same] at hid
      refine ⟨by simp only [G.rejoin, List.length_append, hc.same]; omega, fun m hm' => ?_⟩
      rcases (rejoin_some hc.same).1 hm' with ⟨q, hm'⟩ | ⟨q, _⟩
      · obtain ⟨h1, h2⟩ := ho.2 m hm'
        refine ⟨h1, fun e => ?_⟩
        rcases h2 e with k | ⟨l, arr, t, k1, k2⟩
        · exact .inl k
        · exact .inr ⟨l, arr, t, (rejoin_some hc.env).2 (.inl ⟨q, k1⟩), k2⟩
      · omega
  | ip ha hsc f hm hr ih => exact .ip ha hsc f (fun j c hj => ⟨(hm j c hj).1, fun q => (hm j c hj).2 (hc.own q)⟩) ih
  | mp he ho hn' => exact .mp ((rejoin_some hc.env).2 (.inl ⟨hlt ho, he⟩)) ((rejoin_some hc.same).2 (.inl ⟨hlt ho, ho⟩)) hn'
  | ms he ho hn' hc1 hc' hmax => exact .ms ((rejoin_some hc.env).2 (.inl ⟨hlt ho, he⟩)) ((rejoin_some hc.same).2 (.inl ⟨hlt ho, ho⟩)) hn' hc1 hc' hmax
  | raw hnn ho =>
    rename_i sz n0 id a cap
    have hid := ho.1
    rw [hc.same] at hid
    refine .raw hnn ⟨by simp only [G.rejoin, List.length_append, hc.same]; omega, fun m hm' => ?_⟩
    rcases (rejoin_some hc.same).1 hm' with ⟨q, hm'⟩ | ⟨q, _⟩
    · obtain ⟨h1, h2⟩ := ho.2 m hm'
      refine ⟨h1, fun e => ?_⟩
      rcases h2 e with k | ⟨l, arr, t, k1, k2⟩
      · exact .inl k
      · exact .inr ⟨l, arr, t, (rejoin_some hc.env).2 (.inl ⟨q, k1⟩), k2⟩
    · omega
  | mm he ho hn' => exact .mm ((rejoin_some hc.env).2 (.inl ⟨hlt ho, he⟩)) ((rejoin_some hc.same).2 (.inl ⟨hlt ho, ho⟩)) hn'
  | im hh hn' hl hk hkt _ ih => exact .im hh (fun off q => hn' off (hc.own q)) hl hk hkt ih
  | fn hl hl' _ _ ih ih' => exact .fn hl hl' ih ih'
  | tup hl _ ih => exact .tup hl ih

theorem Cuts.good'' {g g' : G} {n : Nat} (h : Cuts g n g') : Good (g.rejoin n g') where
  frlt := fun b off hf => Nat.lt_of_lt_of_le (h.good.frlt b off hf) h.le.size
  frown := fun id l o h1 h2 h3 off hf => by
    rcases (rejoin_some h.env).1 h1 with ⟨q, h1⟩ | ⟨q, h1⟩
    · rcases (rejoin_some h.same).1 h2 with ⟨_, h2⟩ | ⟨q2, _⟩
      · refine h.good'.frown id l o h1 h2 h3 off ?_
        rw [h.le.fr]
        exact .inl hf
      · omega
    · rcases (rejoin_some h.same).1 h2 with ⟨q2, _⟩ | ⟨_, h2⟩
      · omega
      · exact h.good.frown id l o h1 h2 h3 off hf
  len := by simp [G.rejoin, h.env, h.same, h.good.len]
  loc := fun id l o h1 h2 h3 => by
    rcases (rejoin_some h.env).1 h1 with ⟨q, h1⟩ | ⟨q, h1⟩
    · rcases (rejoin_some h.same).1 h2 with ⟨_, h2⟩ | ⟨q2, _⟩
      · exact h.good'.loc id l o h1 h2 h3
      · omega
    · rcases (rejoin_some h.same).1 h2 with ⟨q2, _⟩ | ⟨_, h2⟩
      · omega
      · exact Nat.lt_of_lt_of_le (h.good.loc id l o h1 h2 h3) h.le.size
  apart := fun id id' l l' o o' h1 h2 h3 k1 k2 k3 hbl => by
    have hx : ∀ {i : Nat} {l : Loc} {o : AObj}, (g.rejoin n g').env[i]? = some (some l) → (g.rejoin n g').objs[i]? = some o → (i < n ∧ g'.env[i]? = some (some l) ∧ g'.objs[i]? = some o) ∨ (n ≤ i ∧ g.env[i]? = some (some l) ∧ g.objs[i]? = some o) := by
      intro i l o h1 h2
      rcases (rejoin_some h.env).1 h1 with ⟨q, h1⟩ | ⟨q, h1⟩
      · rcases (rejoin_some h.same).1 h2 with ⟨_, h2⟩ | ⟨q2, _⟩
        · exact .inl ⟨q, h1, h2⟩
        · omega
      · rcases (rejoin_some h.same).1 h2 with ⟨q2, _⟩ | ⟨_, h2⟩
        · omega
        · exact .inr ⟨q, h1, h2⟩
    rcases hx h1 h2 with ⟨q, e1, e2⟩ | ⟨q, e1, e2⟩
    · rcases hx k1 k2 with ⟨q', f1, f2⟩ | ⟨q', f1, f2⟩
      · exact h.good'.apart id id' l l' o o' e1 e2 h3 f1 f2 k3 hbl
      · refine absurd ?_ (h.good'.frown id l o e1 e2 h3 l'.lo)
        rw [h.le.fr]
        exact .inr ⟨id', l', o', q', f1, f2, k3, hbl.symm, Nat.le_refl _⟩
    · rcases hx k1 k2 with ⟨q', f1, f2⟩ | ⟨q', f1, f2⟩
      · refine absurd ?_ (h.good'.frown id' l' o' f1 f2 k3 l.lo)
        rw [h.le.fr]
        exact .inr ⟨id, l, o, q, e1, e2, h3, hbl, Nat.le_refl _⟩
      · exact h.good.apart id id' l l' o o' e1 e2 h3 f1 f2 k3 hbl
  cells := fun id cs h1 => by
    rcases (rejoin_some h.same).1 h1 with ⟨q, h1⟩ | ⟨q, h1⟩
    · obtain ⟨l, arr, t, e1, e0, e2, e3, e4, e5⟩ := h.good'.cells id cs h1
      exact ⟨l, arr, t, (rejoin_some h.env).2 (.inl ⟨q, e1⟩), e0, e2, e3, fun j c u a b => (e4 j c u a b).rejoin h, e5⟩
    · obtain ⟨l, arr, t, e1, e0, e2, e3, e4, e5⟩ := h.good.cells id cs h1
      exact ⟨l, arr, t, (rejoin_some h.env).2 (.inr ⟨q, e1⟩), e0, (h.block q e1 h1 trivial).trans e2, e3, fun j c u a b => (e4 j c u a b).mono h.le', e5⟩
  spare := fun id m l h1 h2 => by
    rcases (rejoin_some h.same).1 h1 with ⟨q, h1⟩ | ⟨q, h1⟩
    · rcases (rejoin_some h.env).1 h2 with ⟨_, h2⟩ | ⟨q2, _⟩
      · exact h.good'.spare id m l h1 h2
      · omega
    · rcases (rejoin_some h.env).1 h2 with ⟨q2, _⟩ | ⟨_, h2⟩
      · omega
      · obtain ⟨arr, t, e⟩ := h.good.spare id m l h1 h2
        exact ⟨arr, t, (h.block q h2 h1 trivial).trans e⟩
  map := fun id kt es h1 => by
    rcases (rejoin_some h.same).1 h1 with ⟨q, h1⟩ | ⟨q, h1⟩
    · obtain ⟨l, arr, clk, e1, e0, e2, e3, e6, e4⟩ := h.good'.map id kt es h1
      exact ⟨l, arr, clk, (rejoin_some h.env).2 (.inl ⟨q, e1⟩), e0, e2, e3, e6, fun i e kx a b => ⟨(e4 i e kx a b).1, (e4 i e kx a b).2.1, (e4 i e kx a b).2.2.rejoin h⟩⟩
    · obtain ⟨l, arr, clk, e1, e0, e2, e3, e6, e4⟩ := h.good.map id kt es h1
      exact ⟨l, arr, clk, (rejoin_some h.env).2 (.inr ⟨q, e1⟩), e0, (h.block q e1 h1 trivial).trans e2, e3, e6, fun i e kx a b => ⟨(e4 i e kx a b).1, (e4 i e kx a b).2.1, (e4 i e kx a b).2.2.mono h.le'⟩⟩

/-- A call that is told over some objects, over more. -/
theorem ECall.frame {P : Program} {f : FuncId} {O O' : List AObj} {args : List AVal} {r : AVal} (h : ECall P f O args fun r' O1 => r' = r ∧ O1 = O') (hlen : O'.length = O.length) (hb : uptoL O.length args) (hO : ∀ o ∈ O, o.upto O.length) (X : List AObj) :
    ECall P f (O ++ X) args fun r' O1 => r' = r ∧ O1 = O' ++ X := by
  refine ⟨h.1, ?_⟩
  intro g vs hg ho ha
  have hn : O.length ≤ g.objs.length := by simp [ho]
  have htake : g.objs.take O.length = O := by simp [ho]
  have ha' : RVs (g.cut O.length) args vs := ⟨ha.1, fun j c u a b => (ha.2 j c u a b).cut hn (uptoL_iff.1 hb c (List.mem_of_getElem? a))⟩
  refine (h.2 (g.cut O.length) vs (hg.cut hn (by rw [htake]; exact hO)) htake ha').mono ?_
  rintro e w' ⟨g', v, r', h1, h2, h3, h4, h5, h6, h7⟩
  subst h6
  have hc : Cuts g O.length g' := ⟨hg, h3, h4, hn, by rw [h7, hlen]⟩
  exact ⟨g.rejoin O.length g', v, r', h1, h2, hc.le', hc.good'', h5.rejoin hc, rfl, by simp [G.rejoin, h7, ho]⟩

theorem keep_frame {O O' X : List AObj} (h : O'.length = O.length) : ∀ i, i < (O ++ X).length → i ∉ List.range O.length → (O' ++ X)[i]? = (O ++ X)[i]? := fun i _ hl => by
  have : O.length ≤ i := by simpa using hl
  rw [List.getElem?_append_right (by omega), List.getElem?_append_right this, h]

end Go.Av
end

section
/-
  The library of abstract values, the bridge: what the statement's reading of an argument says is told as a tree; and what a pure contract gives for the statement.
-/
namespace Go.Av
open Go.ChangeShapes Go.WideShapes Go.RowKit

/-- Nothing is owned: all memory is the caller's. -/
def g0 (w : World) : G := ⟨w, fun _ _ => False, [], []⟩

theorem g0_own {w : World} {b off : Nat} : ¬ OwnC (g0 w) b off := by
  rintro (h | ⟨id, l, o, h1, _⟩)
  · exact h
  · simp [g0] at h1

theorem g0_ownLB {w : World} {b : Nat} : ¬ OwnLB (g0 w) b := by
  rintro ⟨id, l, o, h1, _⟩
  simp [g0] at h1

theorem g0_good (w : World) : Good (g0 w) where
  frlt := fun _ _ h => h.elim
  frown := fun _ _ _ h => by simp [g0] at h
  len := rfl
  loc := fun _ _ _ h => by simp [g0] at h
  apart := fun _ _ _ _ _ _ h => by simp [g0] at h
  cells := fun _ _ h => by simp [g0] at h
  spare := fun _ _ _ h => by simp [g0] at h
  map := fun _ _ _ h => by simp [g0] at h

def aggT (P : Program) (t : TypeId) : Bool :=
  match P.underlying t with
  | some (.struct _) => true
  | some (.array _ _) => true
  | _ => false

def mkE (P : Program) (e : TypeId) (cs : List AVal) : AVal := if aggT P e then .agg cs else cs.getD 0 (.v (.bool false))

/-- A list is made of pieces, one for each type. -/
def Cat (S : TypeId → List AVal → Prop) : List TypeId → List AVal → Prop
  | [], cs => cs = []
  | t :: ts, cs => ∃ a b, cs = a ++ b ∧ S t a ∧ Cat S ts b

/-- The cells of a value of a type, as a tree of bounded height. -/
def Shp (P : Program) : Nat → TypeId → List AVal → Prop
  | 0, _, _ => False
  | n + 1, t, cs => match P.underlying t with
    | some .bool => ∃ b, cs = [.v (.bool b)]
    | some (.int k) => ∃ m : Int, cs = [.v (.int k m)] ∧ k.min ≤ m ∧ m ≤ k.max
    | some .string => ∃ s : ByteArray, cs = [.v (.string s)] ∧ s.size ≤ reachBytes
    | some (.slice e) => ∃ xs : List (List AVal), cs = [.lst (P.cellsOf e) (xs.map (mkE P e)) .sh] ∧ (∀ x ∈ xs, Shp P n e x) ∧ xs.length * P.bytesOf e ≤ reachBytes
    | some (.struct fs) => Cat (Shp P n) (fs.toList.map (·.type)) cs
    | _ => False

/-- The types that are covered: closed under their parts. -/
def covB (P : Program) (ts : List TypeId) : Bool :=
  ts.all fun t => decide (t < P.types.size) && match P.underlying t with
    | some .bool => true
    | some (.int _) => true
    | some .string => true
    | some (.slice e) => ts.contains e && decide (0 < P.bytesOf e) && decide (0 < P.cellsOf e) && (aggT P e || decide (P.cellsOf e = 1))
    | some (.struct fs) => fs.toList.all fun f => ts.contains f.type
    | _ => false

def RVL (g : G) (ars : List AVal) (us : List Value) : Prop := ars.length = us.length ∧ (∀ c ∈ ars, c.scalar) ∧ ∀ (i : Nat) c u, ars[i]? = some c → us[i]? = some u → RV g c u

theorem RVL.append {g : G} {ars bs : List AVal} {us vs : List Value} (h : RVL g ars us) (k : RVL g bs vs) : RVL g (ars ++ bs) (us ++ vs) := by
  obtain ⟨h1, h2, h3⟩ := h
  obtain ⟨k1, k2, k3⟩ := k
  refine ⟨by simp [h1, k1], fun c hc => (List.mem_append.1 hc).elim (h2 c) (k2 c), fun i c u hc hu => ?_⟩
  rw [List.getElem?_append] at hc hu
  by_cases hi : i < ars.length
  · rw [if_pos hi] at hc
    rw [if_pos (by omega)] at hu
    exact h3 i c u hc hu
  · rw [if_neg hi] at hc
    rw [if_neg (by omega), ← h1] at hu
    exact k3 _ c u hc hu

theorem RVL.one {g : G} {a : AVal} {u : Value} (hs : a.scalar) (h : RV g a u) : RVL g [a] [u] := by
  refine ⟨rfl, by simpa using hs, fun i c u' hc hu => ?_⟩
  cases i with
  | zero =>
    simp at hc hu
    subst hc
    subst hu
    exact h
  | succ i => simp at hc

section
variable {H : Type} {enc : TypeId × Value → H} {P : Program} {w : World} {sp : Nat → Bool} {held : Bool}

theorem weights_all {e : TypeId} : ∀ {ds : List (DataW H)} {d : DataW H}, d ∈ ds → ∀ n ∈ d.weights P e, n ∈ DataW.weightsAll P e ds
  | d0 :: ds, d, hd, n, hn => by
    simp only [DataW.weightsAll, List.mem_append]
    rcases List.mem_cons.1 hd with rfl | hd
    · exact .inl hn
    · exact .inr (weights_all hd n hn)

theorem mapM_get {α β : Type} {f : α → Option β} : ∀ {l : List α} {r : List β}, l.mapM f = some r → r.length = l.length ∧ ∀ (i : Nat) x y, l[i]? = some x → r[i]? = some y → f x = some y
  | [], r, h => by
    simp at h
    subst h
    exact ⟨rfl, fun i x y hx => by simp at hx⟩
  | a :: l, r, h => by
    rw [List.mapM_cons] at h
    obtain ⟨b, hb, h⟩ := Option.bind_eq_some_iff.1 h
    obtain ⟨r', hr, h⟩ := Option.bind_eq_some_iff.1 h
    cases h
    obtain ⟨h1, h2⟩ := mapM_get hr
    refine ⟨by simp [h1], fun i x y hx hy => ?_⟩
    cases i with
    | zero =>
      simp at hx hy
      subst hx
      subst hy
      exact hb
    | succ i => exact h2 i x y (by simpa using hx) (by simpa using hy)

theorem cells_get {base : Nat} {a : Addr} {n : Nat} {cs : List Value} (h : w.cells? base a n = some cs) : cs.length = n ∧ ∀ (i : Nat) u, cs[i]? = some u → w.cell? (a.add i) = some u := by
  unfold World.cells? at h
  split at h
  · obtain ⟨h1, h2⟩ := mapM_get h
    have hl : cs.length = n := by simpa using h1
    refine ⟨hl, fun i u hu => ?_⟩
    have hi := lt_of_getElem? hu
    exact h2 i i u (by simp [List.getElem?_range (show i < n by omega)]) hu
  · cases h

theorem list_choose {α β : Type} {p : α → β → Prop} : ∀ n : Nat, ∀ f : Nat → α, (∀ i, i < n → ∃ b, p (f i) b) → ∃ bs : List β, bs.length = n ∧ ∀ i b, bs[i]? = some b → p (f i) b
  | 0, _, _ => ⟨[], rfl, fun i b h => by simp at h⟩
  | n + 1, f, h => by
    obtain ⟨bs, h1, h2⟩ := list_choose n f (fun i hi => h i (by omega))
    obtain ⟨b, hb⟩ := h n (by omega)
    refine ⟨bs ++ [b], by simp [h1], fun i c hc => ?_⟩
    rcases getElem?_snoc hc with hc | ⟨rfl, rfl⟩
    · exact h2 i c hc
    · rw [h1]
      exact hb

theorem cellsAll_mk {e : TypeId} (hagg : aggT P e = true ∨ P.cellsOf e = 1) {xs : List (List AVal)} (hx : ∀ x ∈ xs, x.length = P.cellsOf e ∧ ∀ c ∈ x, c.scalar) : cellsAll (xs.map (mkE P e)) = xs.flatten ∧ ∀ x ∈ xs, (mkE P e x).cells = x := by
  have key : ∀ x ∈ xs, (mkE P e x).cells = x := fun x hxm => by
    unfold mkE
    split
    · rfl
    · rename_i hn
      rcases hagg with h | h
      · exact absurd h hn
      · obtain ⟨h1, h2⟩ := hx x hxm
        rw [h] at h1
        match x, h1 with
        | [c], _ =>
          have := h2 c (by simp)
          cases c <;> first | rfl | exact this.elim
  refine ⟨?_, key⟩
  clear hx
  induction xs with
  | nil => rfl
  | cons x xs ih =>
    simp only [List.map_cons, cellsAll, List.flatMap_cons, List.flatten_cons]
    rw [key x (by simp)]
    congr 1
    exact ih fun y hy => key y (by simp [hy])

theorem flatten_get {n : Nat} : ∀ {xs : List (List AVal)} (_ : ∀ x ∈ xs, x.length = n) {j : Nat} {c : AVal}, xs.flatten[j]? = some c → ∃ i k x, j = i * n + k ∧ k < n ∧ xs[i]? = some x ∧ x[k]? = some c
  | [], _, j, c, h => by simp at h
  | x :: xs, hx, j, c, h => by
    have hl := hx x (by simp)
    rw [List.flatten_cons, List.getElem?_append] at h
    split at h
    · rename_i hj
      exact ⟨0, j, x, by omega, by omega, by simp, h⟩
    · rename_i hj
      obtain ⟨i, k, y, h1, h2, h3, h4⟩ := flatten_get (fun y hy => hx y (by simp [hy])) h
      refine ⟨i + 1, k, y, ?_, h2, by simpa using h3, h4⟩
      rw [Nat.add_mul, Nat.one_mul]
      omega

theorem rvl_fields {n : Nat} {cs : List Value} {S : TypeId → List AVal → Prop} {ts : List TypeId}
    (ih : ∀ t cs' (x : DataW H × List MemPlace), t ∈ ts → DataW.trod enc P w 0 sp held n t cs' = some x → (∀ m ∈ x.1.weights P t, m ≤ reachBytes) → ∃ ars, S t ars ∧ RVL (g0 w) ars cs') :
    ∀ (fl : List Field) (o : Nat) (xs : List (DataW H × List MemPlace)), (∀ f ∈ fl, f.type ∈ ts) → (∀ (j : Nat) f, fl[j]? = some f → f.offset = o + ((fl.take j).map fun f => P.cellsOf f.type).sum) →
      o + (fl.map fun f => P.cellsOf f.type).sum ≤ cs.length → xs.length = fl.length →
      (∀ (i : Nat) f, fl[i]? = some f → DataW.trod enc P w 0 sp held n f.type ((cs.drop f.offset).take (P.cellsOf f.type)) = xs[i]?) →
      (∀ m ∈ DataW.weightsEach P (fl.map (·.type)) (xs.map (·.1)), m ≤ reachBytes) →
      ∃ ars, Cat S (fl.map (·.type)) ars ∧ RVL (g0 w) ars ((cs.drop o).take (fl.map fun f => P.cellsOf f.type).sum)
  | [], o, xs, _, _, _, _, _, _ => ⟨[], rfl, by simp [RVL]⟩
  | f :: fl, o, [], _, _, _, hx, _, _ => by simp at hx
  | f :: fl, o, y :: ys, hts, hoff, hlen, hx, hm, hw => by
    have ho : f.offset = o := by simpa using hoff 0 f rfl
    simp only [List.map_cons, DataW.weightsEach, List.mem_append] at hw
    simp only [List.map_cons, List.sum_cons] at hlen ⊢
    obtain ⟨ars, h1, h2⟩ := ih f.type _ y (hts f (by simp)) (by simpa using hm 0 f rfl) (fun m hm => hw m (.inl hm))
    obtain ⟨bs, k1, k2⟩ := rvl_fields ih fl (o + P.cellsOf f.type) ys (fun g hg => hts g (by simp [hg])) (fun j g hg => by
      have := hoff (j + 1) g (by simpa using hg)
      simp only [List.take_succ_cons, List.map_cons, List.sum_cons] at this
      omega) (cs := cs) (by omega) (by simpa using hx) (fun i g hg => by simpa using hm (i + 1) g (by simpa using hg)) (fun m hm => hw m (.inr hm))
    refine ⟨ars ++ bs, ⟨ars, bs, rfl, h1, k1⟩, ?_⟩
    rw [List.take_add, List.drop_drop]
    rw [ho] at h2
    exact h2.append k2

theorem add_add {a : Addr} (hs : a.spot = none) (m k : Nat) : (a.add m).add k = ⟨a.block, a.off + (m + k), none⟩ := by
  cases a with
  | mk b off spot =>
    subst hs
    unfold Addr.add
    by_cases hm : m = 0 <;> by_cases hk : k = 0 <;> simp [hm, hk, Nat.add_assoc]

theorem spot_of_cell {a : Addr} {u : Value} (h : w.cell? a = some u) : a.spot = none := by
  unfold World.cell? at h
  split at h
  · split at h
    · cases h
    · rename_i hs
      simpa using hs
  · cases h

/-- What is read is told. -/
theorem rvl_of_trod (hl : laidOutB P = true) {ts : List TypeId} (hc : covB P ts = true) (n : Nat) : ∀ (t : TypeId) (cs : List Value) (x : DataW H × List MemPlace), t ∈ ts →
    DataW.trod enc P w 0 sp held n t cs = some x → (∀ m ∈ x.1.weights P t, m ≤ reachBytes) → ∃ ars, Shp P n t ars ∧ RVL (g0 w) ars cs := by
  induction n with
  | zero => intro _ _ _ _ h; simp [DataW.trod] at h
  | succ n ih =>
    intro t cs x ht h hw
    have hct := List.all_eq_true.1 hc t ht
    simp only [Bool.and_eq_true, decide_eq_true_eq] at hct
    obtain ⟨hsz, hct⟩ := hct
    cases hu : P.underlying t with
    | none => rw [hu] at hct; cases hct
    | some d =>
      rw [hu] at hct
      cases d with
      | bool =>
        obtain ⟨b, rfl, rfl⟩ := DataW.trod_bool hu h
        exact ⟨[.v (.bool b)], by simp only [Shp, hu]; exact ⟨b, rfl⟩, .one trivial (.v trivial)⟩
      | int k =>
        obtain ⟨m, rfl, rfl, hwf⟩ := DataW.trod_int hu h
        simp only [Lit.wf, Bool.and_eq_true, decide_eq_true_eq] at hwf
        exact ⟨[.v (.int k m)], by simp only [Shp, hu]; exact ⟨m, rfl, hwf⟩, .one trivial (.v hwf)⟩
      | string =>
        obtain ⟨s, rfl, rfl, hs⟩ := DataW.trod_string hu h
        have hb : s.size ≤ reachBytes := by
          have := hw s.data.toList.length (by simp [DataW.weights])
          simpa using this
        exact ⟨[.v (.string s)], by simp only [Shp, hu]; exact ⟨s, rfl, hb⟩, .one trivial (.v trivial)⟩
      | slice e =>
        simp only [Bool.and_eq_true, decide_eq_true_eq, Bool.or_eq_true, List.contains_iff_mem] at hct
        obtain ⟨⟨⟨he, hb⟩, hce⟩, hagg⟩ := hct
        rcases DataW.trod_slice hu h with ⟨rfl, rfl⟩ | ⟨a, len, cap, elems, rest, n', hn', rfl, rfl, _, hlc, hcm, hel, hall, _, _⟩
        · exact ⟨[.lst (P.cellsOf e) [] .sh], by simp only [Shp, hu]; exact ⟨[], rfl, by simp, by simp [reachBytes]⟩, .one trivial (.nil (fun id h => by cases h) (by simp))⟩
        · cases hn'
          simp only [DataW.weights, hu, List.mem_cons, List.mem_append] at hw
          have hlen : (len + rest.length) * P.bytesOf e ≤ reachBytes := by
            have := hw _ (.inl rfl)
            simpa [hel] using this
          have hlenb : len * P.bytesOf e ≤ reachBytes := Nat.le_trans (Nat.mul_le_mul_right _ (by omega)) hlen
          have hle : len ≤ reachBytes := Nat.le_trans (Nat.le_mul_of_pos_right _ hb) hlenb
          have hone : ∀ i, i < len → ∃ ars : List AVal, Shp P n e ars ∧ ∃ us, RVL (g0 w) ars us ∧ w.cells? 0 (a.add (i * P.cellsOf e)) (P.cellsOf e) = some us := fun i hi => by
            have hy : elems[i]? = some elems[i] := List.getElem?_eq_getElem (by omega)
            have h2 := hall i hi
            rw [hy] at h2
            obtain ⟨us, h3, h4⟩ := Option.bind_eq_some_iff.1 h2
            obtain ⟨ars, k1, k2⟩ := ih e us elems[i] he h4 (fun m hm => hw m (.inr (.inl (weights_all (List.mem_map.2 ⟨elems[i], List.getElem_mem _, rfl⟩) m hm))))
            exact ⟨ars, k1, us, k2, h3⟩
          obtain ⟨xs, hxl, hxs⟩ := list_choose (p := fun (i : Nat) (ars : List AVal) => Shp P n e ars ∧ ∃ us, RVL (g0 w) ars us ∧ w.cells? 0 (a.add (i * P.cellsOf e)) (P.cellsOf e) = some us) len id hone
          have hxc : ∀ y ∈ xs, y.length = P.cellsOf e ∧ ∀ c ∈ y, c.scalar := fun y hy => by
            obtain ⟨i, hi⟩ := List.mem_iff_getElem?.1 hy
            obtain ⟨_, us, h2, h3⟩ := hxs i y hi
            exact ⟨h2.1.trans (cells_get h3).1, h2.2.1⟩
          obtain ⟨hca, hcx⟩ := cellsAll_mk (P := P) (by simpa using hagg) hxc
          have hspot : xs ≠ [] → a.spot = none := fun hne => by
            match xs, hne, hxs, hxc with
            | y :: ys, _, hxs, hxc =>
              obtain ⟨_, us, h2, h3⟩ := hxs 0 y rfl
              obtain ⟨h4, h5⟩ := cells_get h3
              have h6 := h5 0 (us[0]'(by omega)) (List.getElem?_eq_getElem _)
              have := spot_of_cell h6
              simpa [Addr.add] using this
          refine ⟨[.lst (P.cellsOf e) (xs.map (mkE P e)) .sh], ?_, .one trivial ?_⟩
          · simp only [Shp, hu]
            refine ⟨xs, rfl, fun y hy => ?_, by rw [hxl]; exact hlenb⟩
            obtain ⟨i, hi⟩ := List.mem_iff_getElem?.1 hy
            exact (hxs i y hi).1
          · have hget : ∀ (j : Nat) (c : AVal), xs.flatten[j]? = some c → ∃ u, w.cell? ⟨a.block, a.off + j, none⟩ = some u ∧ RV (g0 w) c u := fun j c hj => by
              obtain ⟨i, k, y, h1, h2, h3, h4⟩ := flatten_get (n := P.cellsOf e) (fun y hy => (hxc y hy).1) hj
              obtain ⟨_, us, h5, h6⟩ := hxs i y h3
              obtain ⟨h7, h8⟩ := cells_get h6
              have hk : us[k]? = some (us[k]'(by omega)) := List.getElem?_eq_getElem _
              have h9 := h8 k _ hk
              have hne : xs ≠ [] := fun e => by rw [e] at h3; simp at h3
              have hadd : (a.add (id i * P.cellsOf e)).add k = ⟨a.block, a.off + (i * P.cellsOf e + k), none⟩ := add_add (hspot hne) _ _
              rw [hadd, ← h1] at h9
              exact ⟨_, h9, h5.2.2 k c _ h4 hk⟩
            have key := @RV.lst (g0 w) (P.cellsOf e) (xs.map (mkE P e)) .sh a cap (fun x hx => by
              obtain ⟨y, hy, rfl⟩ := List.mem_map.1 hx
              rw [hcx y hy]
              exact (hxc y hy).1) (fun x hx c hc => by
              obtain ⟨y, hy, rfl⟩ := List.mem_map.1 hx
              rw [hcx y hy] at hc
              exact (hxc y hy).2 c hc) (by simp [hxl]; exact hlc) (by simp [hxl]; unfold reachBytes at hle; omega) (fun hne => hspot (fun e => hne (by rw [e]; rfl)))
              (fun j => (w.cell? ⟨a.block, a.off + j, none⟩).getD (.bool false)) (fun j c hj => by
                rw [hca] at hj
                obtain ⟨u, h1, _⟩ := hget j c hj
                refine ⟨?_, g0_own⟩
                show w.cell? _ = _
                rw [h1]
                rfl) (fun j c hj => by
                rw [hca] at hj
                obtain ⟨u, h1, h2⟩ := hget j c hj
                rw [h1]
                exact h2) trivial
            rw [List.length_map, hxl] at key
            exact key
      | struct fs =>
        simp only [List.all_eq_true, List.contains_iff_mem] at hct
        obtain ⟨xs, n', hn', rfl, hcl, hxl, hall⟩ := DataW.trod_struct hu h
        cases hn'
        obtain ⟨k1, k2, k3⟩ := kid_struct hl hsz hu
        simp only [DataW.weights, hu] at hw
        obtain ⟨ars, h1, h2⟩ := rvl_fields ih fs.toList 0 xs hct (fun j f hj => by rw [k3 j f hj]; omega) (by rw [hcl, k2]; omega) (by simpa using hxl) (fun i f hf => hall i f (by simpa using hf)) hw
        refine ⟨ars, by simp only [Shp, hu]; exact h1, ?_⟩
        rw [List.drop_zero, ← k2, ← hcl, List.take_length] at h2
        exact h2
      | _ => cases hct

/-- An argument that reads is told. -/
theorem rv_of_trod (hl : laidOutB P = true) {ts : List TypeId} (hc : covB P ts = true) {t : TypeId} (ht : t ∈ ts) {v : Value} {d : DataW H} {ps : List MemPlace} (h : DataW.Trod enc P w 0 sp held t v d ps)
    (hv : v.cells = #[v]) (hw : ∀ m ∈ d.weights P t, m ≤ reachBytes) : ∃ n a, Shp P n t [a] ∧ RV (g0 w) a v := by
  obtain ⟨n, h⟩ := h
  obtain ⟨ars, h1, h2⟩ := rvl_of_trod hl hc n t _ (d, ps) ht h hw
  rw [hv] at h2
  obtain ⟨h3, h4, h5⟩ := h2
  match ars, h3 with
  | [a], _ => exact ⟨n, a, h1, h5 0 a v rfl rfl⟩

theorem one_slice {t e : TypeId} {r : Reach} {b : Nat} {v : Value} (hu : P.underlying t = some (.slice e)) (h : Value.okWide P w r b t v) : v.cells = #[v] := by
  cases v <;> first | rfl | simp [Value.okWide, hu, Cell.okWide, Cell.ok] at h

theorem one_int {t : TypeId} {k : IntKind} {r : Reach} {b : Nat} {v : Value} (hu : P.underlying t = some (.int k)) (h : Value.okWide P w r b t v) : v.cells = #[v] := by
  cases v <;> first | rfl | simp [Value.okWide, hu, Cell.okWide, Cell.ok] at h

theorem trodAll_stays (hl : laidOutB P = true) {W W' : World} {sp' : Nat → Bool} : ∀ {ts : List TypeId} {vs : List Value} {ds : List (DataW H)} {ps : List MemPlace}, (∀ t ∈ ts, P.readableRec t = true ∧ t < P.types.size) →
    DataW.TrodAll enc P W 0 (fun _ => true) true ts vs ds ps → (∀ p ∈ ps, W.sameAt W' p) → (∀ p ∈ ps, sp' p.block = true) → DataW.TrodAll enc P W' 0 sp' true ts vs ds ps
  | [], vs, ds, ps, _, h, _, _ => by
    obtain ⟨rfl, rfl, rfl⟩ := trodAll_nil h
    rfl
  | t :: ts, vs, ds, ps, hts, h, h1, h2 => by
    obtain ⟨v, vs', d, ds', p, q, rfl, rfl, rfl, hd, hr⟩ := trodAll_cons h
    obtain ⟨k1, k2⟩ := hts t (by simp)
    exact ⟨p, q, WideElems.Trod_stays hl k1 k2 hd (fun x hx => h1 x (List.mem_append.2 (.inl hx))) (fun x hx => h2 x (List.mem_append.2 (.inl hx))),
      trodAll_stays hl (fun t ht => hts t (by simp [ht])) hr (fun x hx => h1 x (List.mem_append.2 (.inr hx))) (fun x hx => h2 x (List.mem_append.2 (.inr hx))), rfl⟩

/-- A pure call that answers true keeps the statement. -/
theorem post_of_pure (hl : laidOutB P = true) {fn : Func} {s : ChangeSpec} {apart fresh handsOn again : Bool} {W : World} {args : Array Value} {ds gs : List (DataW H)} {before : List MemPlace} {f : FuncId} {xs : List AVal} {tb : TypeId}
    (hpar : ∀ t ∈ fn.params.toList, P.readableRec t = true ∧ t < P.types.size) (hvars : s.vars = []) (hres : fn.resultTypes = #[tb]) (htb : P.underlying tb = some .bool)
    (hW : DataW.Whole enc P fn.params.toList s.vars apart W args.toList ds gs before)
    (hfn : s.fn H (ds ++ gs) = { results := [.lit (.bool true)], args := ds })
    (hpc : PCall P f xs (.v (.bool true))) (hRV : RVs (g0 W) xs args) :
    Calls P f args W fun e W' => ∃ v, e = .returned v ∧ s.post enc P fn apart fresh handsOn again W args v W' := by
  refine (hpc.2 (g0 W) args (g0_good W) rfl hRV).mono fun e W' ⟨g', v, r, h1, h2, h3, _, h5, h6, _⟩ => ?_
  subst h6
  cases h5
  subst h2
  have hbelow : Below W.heap.size W g'.w := ⟨h3.os, h3.tape, h3.output, h3.size, fun k hk => (h3.block k hk g0_ownLB).1⟩
  have hlt := hW.lt
  obtain ⟨p, q, hA, hV, rfl, hfz, hnd⟩ := id hW
  have hq : gs = [] ∧ q = [] := trodVars_none (by rw [hvars] at hV; exact hV)
  obtain ⟨rfl, rfl⟩ := hq
  simp only [List.append_nil] at hlt hfz hnd hfn
  have hsame : ∀ x ∈ p, W.sameAt g'.w x := fun x hx => hbelow.same (hlt x hx)
  have hargs : ∀ sp : Nat → Bool, (∀ x ∈ p, sp x.block = true) → DataW.TrodAll enc P g'.w 0 sp true fn.params.toList args.toList ds p := fun sp hsp => trodAll_stays hl hpar hA hsame hsp
  have hR : ∀ (b : Nat) (sp : Nat → Bool) (hd : Bool), DataW.TrodAll enc P g'.w b sp hd fn.resultTypes.toList ((Value.bool true).resultList fn.resultTypes.size) [.lit (.bool true)] [] := fun b sp hd => by
    rw [hres]
    exact trodAll_mk1 (shut_bool htb true)
  have hvn : ∀ sp : Nat → Bool, DataW.TrodVars enc P g'.w sp s.vars [] [] := fun sp => by
    rw [hvars]
    rfl
  refine ⟨_, h1, ds, [], p ++ [], [], p, [], hW, ?_, ?_, ?_, hbelow.frame _, fun _ => ⟨?_, [.lit (.bool true)] ++ ds, [], ([] ++ p) ++ [], ⟨[] ++ p, [], ?_, hvn _, rfl, ?_, ?_⟩, ?_⟩⟩
  · rw [List.append_nil, hfn]
    exact hR _ _ _
  · rw [List.append_nil, hfn]
    exact hargs _ fun x hx => by simpa using hlt x hx
  · rw [List.append_nil, hfn]
    exact hvn _
  · exact ok_one hres rfl (okWide_bool_mk htb true)
  · exact trodAll_append (hargs (fun _ => true) fun _ _ => rfl) (hR _ _ _)
  · intro b off hx
    simp only [List.nil_append, List.append_nil] at hx
    rw [hbelow.frozen (p := ⟨b, off, none⟩) (hlt _ hx)]
    exact hfz b off hx
  · intro ha
    simpa using hnd ha
  · intro x hx _
    simpa using hx

end
/-! What is told is of a shape. -/
section
variable {P : Program} {n : Nat} {t : TypeId} {cs : List AVal}

theorem Shp.int {k : IntKind} (hu : P.underlying t = some (.int k)) (h : Shp P n t cs) : ∃ m : Int, cs = [.v (.int k m)] ∧ k.min ≤ m ∧ m ≤ k.max := by
  cases n with
  | zero => exact h.elim
  | succ n =>
    simp only [Shp, hu] at h
    exact h

theorem Shp.bool (hu : P.underlying t = some .bool) (h : Shp P n t cs) : ∃ b, cs = [.v (.bool b)] := by
  cases n with
  | zero => exact h.elim
  | succ n =>
    simp only [Shp, hu] at h
    exact h

theorem Shp.string (hu : P.underlying t = some .string) (h : Shp P n t cs) : ∃ s : ByteArray, cs = [.v (.string s)] ∧ s.size ≤ reachBytes := by
  cases n with
  | zero => exact h.elim
  | succ n =>
    simp only [Shp, hu] at h
    exact h

theorem Shp.struct {fs : Array Field} (hu : P.underlying t = some (.struct fs)) (h : Shp P n t cs) : ∃ m, n = m + 1 ∧ Cat (Shp P m) (fs.toList.map (·.type)) cs := by
  cases n with
  | zero => exact h.elim
  | succ n =>
    simp only [Shp, hu] at h
    exact ⟨n, rfl, h⟩

theorem Shp.slice {e : TypeId} (hu : P.underlying t = some (.slice e)) (h : Shp P n t cs) : ∃ m, n = m + 1 ∧ ∃ xs : List (List AVal), cs = [.lst (P.cellsOf e) (xs.map (mkE P e)) .sh] ∧ (∀ x ∈ xs, Shp P m e x) ∧ xs.length * P.bytesOf e ≤ reachBytes := by
  cases n with
  | zero => exact h.elim
  | succ n =>
    simp only [Shp, hu] at h
    exact ⟨n, rfl, h⟩

theorem map_told {α : Type} {f : α → AVal} {Q : α → Prop} {g : List AVal → AVal} : ∀ {xs : List (List AVal)}, (∀ x ∈ xs, ∃ a, g x = f a ∧ Q a) → ∃ l : List α, xs.map g = l.map f ∧ ∀ a ∈ l, Q a
  | [], _ => ⟨[], rfl, by simp⟩
  | x :: xs, h => by
    obtain ⟨a, ha, hq⟩ := h x (by simp)
    obtain ⟨l, hl, hql⟩ := map_told (xs := xs) fun y hy => h y (by simp [hy])
    exact ⟨a :: l, by simp [ha, hl], by simpa using ⟨hq, hql⟩⟩

/-- A slice whose elements are told. -/
theorem Shp.listQ {α : Type} {f : α → AVal} {Q : α → Prop} {e : TypeId} (hu : P.underlying t = some (.slice e)) (h : Shp P n t cs) (hd : ∀ m, m < n → ∀ x, Shp P m e x → ∃ a, mkE P e x = f a ∧ Q a) :
    ∃ l : List α, cs = [.lst (P.cellsOf e) (l.map f) .sh] ∧ l.length * P.bytesOf e ≤ reachBytes ∧ ∀ a ∈ l, Q a := by
  obtain ⟨m, rfl, xs, rfl, h1, h2⟩ := h.slice hu
  obtain ⟨l, hl, hq⟩ := map_told (f := f) (Q := Q) fun x hx => hd m (by omega) x (h1 x hx)
  refine ⟨l, by rw [hl], ?_, hq⟩
  have : xs.length = l.length := by
    have := congrArg List.length hl
    simpa using this
  rw [← this]
  exact h2

theorem Shp.list {α : Type} {f : α → AVal} {e : TypeId} (hu : P.underlying t = some (.slice e)) (h : Shp P n t cs) (hd : ∀ m, m < n → ∀ x, Shp P m e x → ∃ a, mkE P e x = f a) :
    ∃ l : List α, cs = [.lst (P.cellsOf e) (l.map f) .sh] ∧ l.length * P.bytesOf e ≤ reachBytes := by
  obtain ⟨l, h1, h2, _⟩ := h.listQ (Q := fun _ => True) hu fun m hm x hx => by
    obtain ⟨a, ha⟩ := hd m hm x hx
    exact ⟨a, ha, trivial⟩
  exact ⟨l, h1, h2⟩

end
end Go.Av
end

section
/-
  The table of the types of this seat's program, as the library of abstract values takes it. Printed by gentab.py.
-/
namespace Go.Proofs.Ytakdmelemfnmdaa
open Go.Av

def tab : Tab
  | 1 => some ⟨1, 8, [.v .nilFunc], .other⟩
  | 2 => some ⟨1, 8, [.v (.int .i64 0)], .other⟩
  | 3 => some ⟨1, 8, [.v (.int .i64 0)], .other⟩
  | 4 => some ⟨1, 1, [.v (.bool false)], .other⟩
  | 5 => some ⟨1, 1, [.v (.int .u8 0)], .other⟩
  | 6 => some ⟨1, 1, [.v (.int .u8 0)], .other⟩
  | 7 => some ⟨4, 24, [.v (.int .i64 0), .v (.int .i64 0), .v (.bool false), .v (.int .u8 0)], .struct [(0, 2), (1, 3), (2, 4), (3, 6)]⟩
  | 8 => some ⟨4, 24, [.v (.int .i64 0), .v (.int .i64 0), .v (.bool false), .v (.int .u8 0)], .struct [(0, 2), (1, 3), (2, 4), (3, 6)]⟩
  | 9 => some ⟨1, 16, [.v (.string ByteArray.empty)], .other⟩
  | 10 => some ⟨1, 16, [.v (.string ByteArray.empty)], .other⟩
  | 11 => some ⟨1, 16, [.v (.string ByteArray.empty)], .other⟩
  | 12 => some ⟨1, 8, [.v (.int .u64 0)], .other⟩
  | 13 => some ⟨2, 24, [.v (.string ByteArray.empty), .v (.int .u64 0)], .struct [(0, 9), (1, 12)]⟩
  | 14 => some ⟨2, 24, [.v (.string ByteArray.empty), .v (.int .u64 0)], .struct [(0, 9), (1, 12)]⟩
  | 15 => some ⟨1, 8, [.v (.pointer none)], .other⟩
  | 16 => some ⟨1, 8, [.v (.pointer none)], .other⟩
  | 17 => some ⟨1, 8, [.v (.pointer none)], .other⟩
  | 18 => some ⟨1, 8, [.v (.pointer none)], .struct [(0, 17)]⟩
  | 19 => some ⟨1, 8, [.v (.pointer none)], .struct [(0, 17)]⟩
  | 21 => some ⟨1, 4, [.v (.int .i32 0)], .other⟩
  | 22 => some ⟨1, 24, [.lst 3 [] .ex], .slice 62⟩
  | 23 => some ⟨1, 24, [.lst 1 [] .ex], .slice 25⟩
  | 24 => some ⟨1, 8, [.v .nilFunc], .other⟩
  | 25 => some ⟨1, 24, [.lst 4 [] .ex], .slice 30⟩
  | 26 => some ⟨1, 8, [.v (.int .i64 0)], .other⟩
  | 28 => some ⟨1, 8, [.v .nilFunc], .other⟩
  | 29 => some ⟨4, 56, [.v (.int .i64 0), .v (.string ByteArray.empty), .v (.int .i64 0), .lst 4 [] .ex], .struct [(0, 3), (1, 9), (2, 3), (3, 25)]⟩
  | 30 => some ⟨4, 56, [.v (.int .i64 0), .v (.string ByteArray.empty), .v (.int .i64 0), .lst 4 [] .ex], .struct [(0, 3), (1, 9), (2, 3), (3, 25)]⟩
  | 31 => some ⟨1, 8, [.v .nilFunc], .other⟩
  | 32 => some ⟨1, 24, [.lst 1 [] .ex], .slice 3⟩
  | 34 => some ⟨1, 8, [.v .nilFunc], .other⟩
  | 35 => some ⟨1, 8, [.v .nilFunc], .other⟩
  | 36 => some ⟨1, 8, [.v .nilFunc], .other⟩
  | 37 => some ⟨1, 8, [.v .nilFunc], .other⟩
  | 38 => some ⟨1, 8, [.v .nilFunc], .other⟩
  | 39 => some ⟨1, 8, [.v .nilFunc], .other⟩
  | 40 => some ⟨1, 24, [.lst 6 [] .ex], .slice 49⟩
  | 42 => some ⟨1, 8, [.v .nilFunc], .other⟩
  | 43 => some ⟨1, 8, [.v .nilFunc], .other⟩
  | 44 => some ⟨1, 8, [.v .nilFunc], .other⟩
  | 45 => some ⟨1, 24, [.lst 1 [] .ex], .slice 4⟩
  | 46 => some ⟨1, 8, [.v .nilFunc], .other⟩
  | 47 => some ⟨1, 24, [.lst 1 [] .ex], .slice 9⟩
  | 48 => some ⟨6, 112, [.v (.int .i64 0), .v (.int .i64 0), .lst 1 [] .ex, .lst 1 [] .ex, .lst 1 [] .ex, .lst 1 [] .ex], .struct [(0, 3), (1, 3), (2, 32), (3, 47), (4, 32), (5, 32)]⟩
  | 49 => some ⟨6, 112, [.v (.int .i64 0), .v (.int .i64 0), .lst 1 [] .ex, .lst 1 [] .ex, .lst 1 [] .ex, .lst 1 [] .ex], .struct [(0, 3), (1, 3), (2, 32), (3, 47), (4, 32), (5, 32)]⟩
  | 50 => some ⟨1, 8, [.v .nilFunc], .other⟩
  | 51 => some ⟨1, 8, [.v .nilFunc], .other⟩
  | 52 => some ⟨1, 8, [.v .nilFunc], .other⟩
  | 53 => some ⟨1, 8, [.v .nilFunc], .other⟩
  | 55 => some ⟨1, 8, [.v .nilFunc], .other⟩
  | 56 => some ⟨1, 8, [.v .nilFunc], .other⟩
  | 57 => some ⟨1, 24, [.lst 4 [] .ex], .slice 152⟩
  | 58 => some ⟨2, 40, [.v (.string ByteArray.empty), .lst 4 [] .ex], .struct [(0, 9), (1, 57)]⟩
  | 59 => some ⟨2, 40, [.v (.string ByteArray.empty), .lst 4 [] .ex], .struct [(0, 9), (1, 57)]⟩
  | 60 => some ⟨1, 24, [.lst 2 [] .ex], .slice 59⟩
  | 61 => some ⟨3, 48, [.v (.string ByteArray.empty), .v (.int .i64 0), .lst 2 [] .ex], .struct [(0, 9), (1, 3), (2, 60)]⟩
  | 62 => some ⟨3, 48, [.v (.string ByteArray.empty), .v (.int .i64 0), .lst 2 [] .ex], .struct [(0, 9), (1, 3), (2, 60)]⟩
  | 63 => some ⟨1, 8, [.v (.map none)], .map 9 95⟩
  | 64 => some ⟨2, 32, [.lst 3 [] .ex, .v (.map none)], .struct [(0, 22), (1, 63)]⟩
  | 65 => some ⟨2, 32, [.lst 3 [] .ex, .v (.map none)], .struct [(0, 22), (1, 63)]⟩
  | 67 => some ⟨1, 8, [.v .nilFunc], .other⟩
  | 69 => some ⟨1, 8, [.v .nilFunc], .other⟩
  | 70 => some ⟨1, 8, [.v .nilFunc], .other⟩
  | 71 => some ⟨1, 8, [.v (.map none)], .map 9 100⟩
  | 73 => some ⟨1, 8, [.v .nilFunc], .other⟩
  | 74 => some ⟨1, 8, [.v (.pointer none)], .other⟩
  | 75 => some ⟨4, 48, [.v (.map none), .lst 6 [] .ex, .v (.int .i64 0), .v (.bool false)], .struct [(0, 71), (1, 40), (2, 3), (3, 4)]⟩
  | 76 => some ⟨4, 48, [.v (.map none), .lst 6 [] .ex, .v (.int .i64 0), .v (.bool false)], .struct [(0, 71), (1, 40), (2, 3), (3, 4)]⟩
  | 77 => some ⟨1, 24, [.lst 2 [] .ex], .slice 80⟩
  | 78 => some ⟨1, 24, [.lst 1 [] .ex], .slice 32⟩
  | 79 => some ⟨2, 32, [.v (.int .i64 0), .lst 4 [] .ex], .struct [(0, 3), (1, 25)]⟩
  | 80 => some ⟨2, 32, [.v (.int .i64 0), .lst 4 [] .ex], .struct [(0, 3), (1, 25)]⟩
  | 81 => some ⟨1, 8, [.v .nilFunc], .other⟩
  | 82 => some ⟨1, 8, [.v .nilFunc], .other⟩
  | 83 => some ⟨1, 8, [.v .nilFunc], .other⟩
  | 84 => some ⟨1, 8, [.v .nilFunc], .other⟩
  | 86 => some ⟨1, 8, [.v .nilFunc], .other⟩
  | 87 => some ⟨1, 8, [.v .nilFunc], .other⟩
  | 88 => some ⟨1, 8, [.v .nilFunc], .other⟩
  | 89 => some ⟨1, 8, [.v .nilFunc], .other⟩
  | 90 => some ⟨1, 8, [.v .nilFunc], .other⟩
  | 91 => some ⟨1, 8, [.v .nilFunc], .other⟩
  | 92 => some ⟨1, 8, [.v .nilFunc], .other⟩
  | 93 => some ⟨1, 8, [.v .nilFunc], .other⟩
  | 94 => some ⟨3, 24, [.v (.int .i64 0), .v (.int .i64 0), .v (.int .i64 0)], .struct [(0, 3), (1, 3), (2, 3)]⟩
  | 95 => some ⟨3, 24, [.v (.int .i64 0), .v (.int .i64 0), .v (.int .i64 0)], .struct [(0, 3), (1, 3), (2, 3)]⟩
  | 96 => some ⟨1, 8, [.v .nilFunc], .other⟩
  | 97 => some ⟨1, 8, [.v .nilFunc], .other⟩
  | 98 => some ⟨1, 8, [.v .nilFunc], .other⟩
  | 99 => some ⟨1, 8, [.v .nilFunc], .other⟩
  | 100 => some ⟨1, 8, [.v (.pointer none)], .other⟩
  | 101 => some ⟨1, 8, [.v .nilFunc], .other⟩
  | 102 => some ⟨1, 8, [.v .nilFunc], .other⟩
  | 103 => some ⟨1, 8, [.v .nilFunc], .other⟩
  | 104 => some ⟨1, 8, [.v .nilFunc], .other⟩
  | 105 => some ⟨1, 8, [.v .nilFunc], .other⟩
  | 106 => some ⟨1, 8, [.v .nilFunc], .other⟩
  | 107 => some ⟨1, 8, [.v .nilFunc], .other⟩
  | 108 => some ⟨1, 8, [.v .nilFunc], .other⟩
  | 109 => some ⟨1, 8, [.v .nilFunc], .other⟩
  | 110 => some ⟨1, 8, [.v .nilFunc], .other⟩
  | 111 => some ⟨1, 8, [.v .nilFunc], .other⟩
  | 112 => some ⟨1, 8, [.v .nilFunc], .other⟩
  | 113 => some ⟨1, 8, [.v .nilFunc], .other⟩
  | 114 => some ⟨1, 8, [.v .nilFunc], .other⟩
  | 115 => some ⟨1, 8, [.v .nilFunc], .other⟩
  | 116 => some ⟨1, 8, [.v (.pointer none)], .other⟩
  | 117 => some ⟨1, 8, [.v .nilFunc], .other⟩
  | 118 => some ⟨1, 8, [.v .nilFunc], .other⟩
  | 120 => some ⟨1, 8, [.v .nilFunc], .other⟩
  | 121 => some ⟨1, 8, [.v .nilFunc], .other⟩
  | 122 => some ⟨1, 8, [.v .nilFunc], .other⟩
  | 123 => some ⟨1, 8, [.v .nilFunc], .other⟩
  | 124 => some ⟨1, 8, [.v .nilFunc], .other⟩
  | 125 => some ⟨1, 8, [.v .nilFunc], .other⟩
  | 126 => some ⟨1, 8, [.v .nilFunc], .other⟩
  | 127 => some ⟨1, 8, [.v .nilFunc], .other⟩
  | 128 => some ⟨1, 8, [.v .nilFunc], .other⟩
  | 129 => some ⟨1, 8, [.v .nilFunc], .other⟩
  | 130 => some ⟨1, 8, [.v .nilFunc], .other⟩
  | 131 => some ⟨1, 8, [.v .nilFunc], .other⟩
  | 132 => some ⟨1, 8, [.v .nilFunc], .other⟩
  | 133 => some ⟨1, 24, [.lst 1 [] .ex], .slice 78⟩
  | 134 => some ⟨1, 8, [.v .nilFunc], .other⟩
  | 135 => some ⟨1, 8, [.v .nilFunc], .other⟩
  | 136 => some ⟨4, 40, [.v (.pointer none), .v (.pointer none), .v (.pointer none), .v (.string ByteArray.empty)], .struct [(0, 17), (1, 17), (2, 17), (3, 9)]⟩
  | 137 => some ⟨4, 40, [.v (.pointer none), .v (.pointer none), .v (.pointer none), .v (.string ByteArray.empty)], .struct [(0, 17), (1, 17), (2, 17), (3, 9)]⟩
  | 141 => some ⟨1, 8, [.v .nilFunc], .other⟩
  | 142 => some ⟨1, 4, [.v (.int .u32 0)], .other⟩
  | 143 => some ⟨1, 1, [.v (.int .u8 0)], .other⟩
  | 144 => some ⟨1, 1, [.v (.int .u8 0)], .other⟩
  | 145 => some ⟨1, 8, [.v .nilFunc], .other⟩
  | 146 => some ⟨1, 8, [.v (.pointer none)], .other⟩
  | 147 => some ⟨1, 4, [.v (.int .i32 0)], .other⟩
  | 148 => some ⟨1, 4, [.v (.int .i32 0)], .other⟩
  | 149 => some ⟨11, 48, [.v (.int .u64 0), .v (.int .u64 0), .v (.int .u32 0), .v (.int .u8 0), .v (.int .u8 0), .v (.int .u8 0), .v (.int .u8 0), .v .nilFunc, .v (.pointer none), .v (.int .i32 0), .v (.int .i32 0)], .struct [(0, 12), (1, 12), (2, 142), (3, 143), (4, 5), (5, 5), (6, 144), (7, 145), (8, 146), (9, 147), (10, 148)]⟩
  | 150 => some ⟨11, 48, [.v (.int .u64 0), .v (.int .u64 0), .v (.int .u32 0), .v (.int .u8 0), .v (.int .u8 0), .v (.int .u8 0), .v (.int .u8 0), .v .nilFunc, .v (.pointer none), .v (.int .i32 0), .v (.int .i32 0)], .struct [(0, 12), (1, 12), (2, 142), (3, 143), (4, 5), (5, 5), (6, 144), (7, 145), (8, 146), (9, 147), (10, 148)]⟩
  | 151 => some ⟨4, 56, [.v (.int .i64 0), .v (.string ByteArray.empty), .v (.int .i64 0), .lst 4 [] .ex], .struct [(0, 3), (1, 9), (2, 3), (3, 57)]⟩
  | 152 => some ⟨4, 56, [.v (.int .i64 0), .v (.string ByteArray.empty), .v (.int .i64 0), .lst 4 [] .ex], .struct [(0, 3), (1, 9), (2, 3), (3, 57)]⟩
  | _ => none

theorem tab_1 : tab 1 = some ⟨1, 8, [.v .nilFunc], .other⟩ := rfl
theorem tab_2 : tab 2 = some ⟨1, 8, [.v (.int .i64 0)], .other⟩ := rfl
theorem tab_3 : tab 3 = some ⟨1, 8, [.v (.int .i64 0)], .other⟩ := rfl
theorem tab_4 : tab 4 = some ⟨1, 1, [.v (.bool false)], .other⟩ := rfl
theorem tab_5 : tab 5 = some ⟨1, 1, [.v (.int .u8 0)], .other⟩ := rfl
theorem tab_6 : tab 6 = some ⟨1, 1, [.v (.int .u8 0)], .other⟩ := rfl
theorem tab_7 : tab 7 = some ⟨4, 24, [.v (.int .i64 0), .v (.int .i64 0), .v (.bool false), .v (.int .u8 0)], .struct [(0, 2), (1, 3), (2, 4), (3, 6)]⟩ := rfl
theorem tab_8 : tab 8 = some ⟨4, 24, [.v (.int .i64 0), .v (.int .i64 0), .v (.bool false), .v (.int .u8 0)], .struct [(0, 2), (1, 3), (2, 4), (3, 6)]⟩ := rfl
theorem tab_9 : tab 9 = some ⟨1, 16, [.v (.string ByteArray.empty)], .other⟩ := rfl
theorem tab_10 : tab 10 = some ⟨1, 16, [.v (.string ByteArray.empty)], .other⟩ := rfl
theorem tab_11 : tab 11 = some ⟨1, 16, [.v (.string ByteArray.empty)], .other⟩ := rfl
theorem tab_12 : tab 12 = some ⟨1, 8, [.v (.int .u64 0)], .other⟩ := rfl
theorem tab_13 : tab 13 = some ⟨2, 24, [.v (.string ByteArray.empty), .v (.int .u64 0)], .struct [(0, 9), (1, 12)]⟩ := rfl
theorem tab_14 : tab 14 = some ⟨2, 24, [.v (.string ByteArray.empty), .v (.int .u64 0)], .struct [(0, 9), (1, 12)]⟩ := rfl
theorem tab_15 : tab 15 = some ⟨1, 8, [.v (.pointer none)], .other⟩ := rfl
theorem tab_16 : tab 16 = some ⟨1, 8, [.v (.pointer none)], .other⟩ := rfl
theorem tab_17 : tab 17 = some ⟨1, 8, [.v (.pointer none)], .other⟩ := rfl
theorem tab_18 : tab 18 = some ⟨1, 8, [.v (.pointer none)], .struct [(0, 17)]⟩ := rfl
theorem tab_19 : tab 19 = some ⟨1, 8, [.v (.pointer none)], .struct [(0, 17)]⟩ := rfl
theorem tab_21 : tab 21 = some ⟨1, 4, [.v (.int .i32 0)], .other⟩ := rfl
theorem tab_22 : tab 22 = some ⟨1, 24, [.lst 3 [] .ex], .slice 62⟩ := rfl
theorem tab_23 : tab 23 = some ⟨1, 24, [.lst 1 [] .ex], .slice 25⟩ := rfl
theorem tab_24 : tab 24 = some ⟨1, 8, [.v .nilFunc], .other⟩ := rfl
theorem tab_25 : tab 25 = some ⟨1, 24, [.lst 4 [] .ex], .slice 30⟩ := rfl
theorem tab_26 : tab 26 = some ⟨1, 8, [.v (.int .i64 0)], .other⟩ := rfl
theorem tab_28 : tab 28 = some ⟨1, 8, [.v .nilFunc], .other⟩ := rfl
theorem tab_29 : tab 29 = some ⟨4, 56, [.v (.int .i64 0), .v (.string ByteArray.empty), .v (.int .i64 0), .lst 4 [] .ex], .struct [(0, 3), (1, 9), (2, 3), (3, 25)]⟩ := rfl
theorem tab_30 : tab 30 = some ⟨4, 56, [.v (.int .i64 0), .v (.string ByteArray.empty), .v (.int .i64 0), .lst 4 [] .ex], .struct [(0, 3), (1, 9), (2, 3), (3, 25)]⟩ := rfl
theorem tab_31 : tab 31 = some ⟨1, 8, [.v .nilFunc], .other⟩ := rfl
theorem tab_32 : tab 32 = some ⟨1, 24, [.lst 1 [] .ex], .slice 3⟩ := rfl
theorem tab_34 : tab 34 = some ⟨1, 8, [.v .nilFunc], .other⟩ := rfl
theorem tab_35 : tab 35 = some ⟨1, 8, [.v .nilFunc], .other⟩ := rfl
theorem tab_36 : tab 36 = some ⟨1, 8, [.v .nilFunc], .other⟩ := rfl
theorem tab_37 : tab 37 = some ⟨1, 8, [.v .nilFunc], .other⟩ := rfl
theorem tab_38 : tab 38 = some ⟨1, 8, [.v .nilFunc], .other⟩ := rfl
theorem tab_39 : tab 39 = some ⟨1, 8, [.v .nilFunc], .other⟩ := rfl
theorem tab_40 : tab 40 = some ⟨1, 24, [.lst 6 [] .ex], .slice 49⟩ := rfl
theorem tab_42 : tab 42 = some ⟨1, 8, [.v .nilFunc], .other⟩ := rfl
theorem tab_43 : tab 43 = some ⟨1, 8, [.v .nilFunc], .other⟩ := rfl
theorem tab_44 : tab 44 = some ⟨1, 8, [.v .nilFunc], .other⟩ := rfl
theorem tab_45 : tab 45 = some ⟨1, 24, [.lst 1 [] .ex], .slice 4⟩ := rfl
theorem tab_46 : tab 46 = some ⟨1, 8, [.v .nilFunc], .other⟩ := rfl
theorem tab_47 : tab 47 = some ⟨1, 24, [.lst 1 [] .ex], .slice 9⟩ := rfl
theorem tab_48 : tab 48 = some ⟨6, 112, [.v (.int .i64 0), .v (.int .i64 0), .lst 1 [] .ex, .lst 1 [] .ex, .lst 1 [] .ex, .lst 1 [] .ex], .struct [(0, 3), (1, 3), (2, 32), (3, 47), (4, 32), (5, 32)]⟩ := rfl
theorem tab_49 : tab 49 = some ⟨6, 112, [.v (.int .i64 0), .v (.int .i64 0), .lst 1 [] .ex, .lst 1 [] .ex, .lst 1 [] .ex, .lst 1 [] .ex], .struct [(0, 3), (1, 3), (2, 32), (3, 47), (4, 32), (5, 32)]⟩ := rfl
theorem tab_50 : tab 50 = some ⟨1, 8, [.v .nilFunc], .other⟩ := rfl
theorem tab_51 : tab 51 = some ⟨1, 8, [.v .nilFunc], .other⟩ := rfl
theorem tab_52 : tab 52 = some ⟨1, 8, [.v .nilFunc], .other⟩ := rfl
theorem tab_53 : tab 53 = some ⟨1, 8, [.v .nilFunc], .other⟩ := rfl
theorem tab_55 : tab 55 = some ⟨1, 8, [.v .nilFunc], .other⟩ := rfl
theorem tab_56 : tab 56 = some ⟨1, 8, [.v .nilFunc], .other⟩ := rfl
theorem tab_57 : tab 57 = some ⟨1, 24, [.lst 4 [] .ex], .slice 152⟩ := rfl
theorem tab_58 : tab 58 = some ⟨2, 40, [.v (.string ByteArray.empty), .lst 4 [] .ex], .struct [(0, 9), (1, 57)]⟩ := rfl
theorem tab_59 : tab 59 = some ⟨2, 40, [.v (.string ByteArray.empty), .lst 4 [] .ex], .struct [(0, 9), (1, 57)]⟩ := rfl
theorem tab_60 : tab 60 = some ⟨1, 24, [.lst 2 [] .ex], .slice 59⟩ := rfl
theorem tab_61 : tab 61 = some ⟨3, 48, [.v (.string ByteArray.empty), .v (.int .i64 0), .lst 2 [] .ex], .struct [(0, 9), (1, 3), (2, 60)]⟩ := rfl
theorem tab_62 : tab 62 = some ⟨3, 48, [.v (.string ByteArray.empty), .v (.int .i64 0), .lst 2 [] .ex], .struct [(0, 9), (1, 3), (2, 60)]⟩ := rfl
theorem tab_63 : tab 63 = some ⟨1, 8, [.v (.map none)], .map 9 95⟩ := rfl
theorem tab_64 : tab 64 = some ⟨2, 32, [.lst 3 [] .ex, .v (.map none)], .struct [(0, 22), (1, 63)]⟩ := rfl
theorem tab_65 : tab 65 = some ⟨2, 32, [.lst 3 [] .ex, .v (.map none)], .struct [(0, 22), (1, 63)]⟩ := rfl
theorem tab_67 : tab 67 = some ⟨1, 8, [.v .nilFunc], .other⟩ := rfl
theorem tab_69 : tab 69 = some ⟨1, 8, [.v .nilFunc], .other⟩ := rfl
theorem tab_70 : tab 70 = some ⟨1, 8, [.v .nilFunc], .other⟩ := rfl
theorem tab_71 : tab 71 = some ⟨1, 8, [.v (.map none)], .map 9 100⟩ := rfl
theorem tab_73 : tab 73 = some ⟨1, 8, [.v .nilFunc], .other⟩ := rfl
theorem tab_74 : tab 74 = some ⟨1, 8, [.v (.pointer none)], .other⟩ := rfl
theorem tab_75 : tab 75 = some ⟨4, 48, [.v (.map none), .lst 6 [] .ex, .v (.int .i64 0), .v (.bool false)], .struct [(0, 71), (1, 40), (2, 3), (3, 4)]⟩ := rfl
theorem tab_76 : tab 76 = some ⟨4, 48, [.v (.map none), .lst 6 [] .ex, .v (.int .i64 0), .v (.bool false)], .struct [(0, 71), (1, 40), (2, 3), (3, 4)]⟩ := rfl
theorem tab_77 : tab 77 = some ⟨1, 24, [.lst 2 [] .ex], .slice 80⟩ := rfl
theorem tab_78 : tab 78 = some ⟨1, 24, [.lst 1 [] .ex], .slice 32⟩ := rfl
theorem tab_79 : tab 79 = some ⟨2, 32, [.v (.int .i64 0), .lst 4 [] .ex], .struct [(0, 3), (1, 25)]⟩ := rfl
theorem tab_80 : tab 80 = some ⟨2, 32, [.v (.int .i64 0), .lst 4 [] .ex], .struct [(0, 3), (1, 25)]⟩ := rfl
theorem tab_81 : tab 81 = some ⟨1, 8, [.v .nilFunc], .other⟩ := rfl
theorem tab_82 : tab 82 = some ⟨1, 8, [.v .nilFunc], .other⟩ := rfl
theorem tab_83 : tab 83 = some ⟨1, 8, [.v .nilFunc], .other⟩ := rfl
theorem tab_84 : tab 84 = some ⟨1, 8, [.v .nilFunc], .other⟩ := rfl
theorem tab_86 : tab 86 = some ⟨1, 8, [.v .nilFunc], .other⟩ := rfl
theorem tab_87 : tab 87 = some ⟨1, 8, [.v .nilFunc], .other⟩ := rfl
theorem tab_88 : tab 88 = some ⟨1, 8, [.v .nilFunc], .other⟩ := rfl
theorem tab_89 : tab 89 = some ⟨1, 8, [.v .nilFunc], .other⟩ := rfl
theorem tab_90 : tab 90 = some ⟨1, 8, [.v .nilFunc], .other⟩ := rfl
theorem tab_91 : tab 91 = some ⟨1, 8, [.v .nilFunc], .other⟩ := rfl
theorem tab_92 : tab 92 = some ⟨1, 8, [.v .nilFunc], .other⟩ := rfl
theorem tab_93 : tab 93 = some ⟨1, 8, [.v .nilFunc], .other⟩ := rfl
theorem tab_94 : tab 94 = some ⟨3, 24, [.v (.int .i64 0), .v (.int .i64 0), .v (.int .i64 0)], .struct [(0, 3), (1, 3), (2, 3)]⟩ := rfl
theorem tab_95 : tab 95 = some ⟨3, 24, [.v (.int .i64 0), .v (.int .i64 0), .v (.int .i64 0)], .struct [(0, 3), (1, 3), (2, 3)]⟩ := rfl
theorem tab_96 : tab 96 = some ⟨1, 8, [.v .nilFunc], .other⟩ := rfl
theorem tab_97 : tab 97 = some ⟨1, 8, [.v .nilFunc], .other⟩ := rfl
theorem tab_98 : tab 98 = some ⟨1, 8, [.v .nilFunc], .other⟩ := rfl
theorem tab_99 : tab 99 = some ⟨1, 8, [.v .nilFunc], .other⟩ := rfl
theorem tab_100 : tab 100 = some ⟨1, 8, [.v (.pointer none)], .other⟩ := rfl
theorem tab_101 : tab 101 = some ⟨1, 8, [.v .nilFunc], .other⟩ := rfl
theorem tab_102 : tab 102 = some ⟨1, 8, [.v .nilFunc], .other⟩ := rfl
theorem tab_103 : tab 103 = some ⟨1, 8, [.v .nilFunc], .other⟩ := rfl
theorem tab_104 : tab 104 = some ⟨1, 8, [.v .nilFunc], .other⟩ := rfl
theorem tab_105 : tab 105 = some ⟨1, 8, [.v .nilFunc], .other⟩ := rfl
theorem tab_106 : tab 106 = some ⟨1, 8, [.v .nilFunc], .other⟩ := rfl
theorem tab_107 : tab 107 = some ⟨1, 8, [.v .nilFunc], .other⟩ := rfl
theorem tab_108 : tab 108 = some ⟨1, 8, [.v .nilFunc], .other⟩ := rfl
theorem tab_109 : tab 109 = some ⟨1, 8, [.v .nilFunc], .other⟩ := rfl
theorem tab_110 : tab 110 = some ⟨1, 8, [.v .nilFunc], .other⟩ := rfl
theorem tab_111 : tab 111 = some ⟨1, 8, [.v .nilFunc], .other⟩ := rfl
theorem tab_112 : tab 112 = some ⟨1, 8, [.v .nilFunc], .other⟩ := rfl
theorem tab_113 : tab 113 = some ⟨1, 8, [.v .nilFunc], .other⟩ := rfl
theorem tab_114 : tab 114 = some ⟨1, 8, [.v .nilFunc], .other⟩ := rfl
theorem tab_115 : tab 115 = some ⟨1, 8, [.v .nilFunc], .other⟩ := rfl
theorem tab_116 : tab 116 = some ⟨1, 8, [.v (.pointer none)], .other⟩ := rfl
theorem tab_117 : tab 117 = some ⟨1, 8, [.v .nilFunc], .other⟩ := rfl
theorem tab_118 : tab 118 = some ⟨1, 8, [.v .nilFunc], .other⟩ := rfl
theorem tab_120 : tab 120 = some ⟨1, 8, [.v .nilFunc], .other⟩ := rfl
theorem tab_121 : tab 121 = some ⟨1, 8, [.v .nilFunc], .other⟩ := rfl
theorem tab_122 : tab 122 = some ⟨1, 8, [.v .nilFunc], .other⟩ := rfl
theorem tab_123 : tab 123 = some ⟨1, 8, [.v .nilFunc], .other⟩ := rfl
theorem tab_124 : tab 124 = some ⟨1, 8, [.v .nilFunc], .other⟩ := rfl
theorem tab_125 : tab 125 = some ⟨1, 8, [.v .nilFunc], .other⟩ := rfl
theorem tab_126 : tab 126 = some ⟨1, 8, [.v .nilFunc], .other⟩ := rfl
theorem tab_127 : tab 127 = some ⟨1, 8, [.v .nilFunc], .other⟩ := rfl
theorem tab_128 : tab 128 = some ⟨1, 8, [.v .nilFunc], .other⟩ := rfl
theorem tab_129 : tab 129 = some ⟨1, 8, [.v .nilFunc], .other⟩ := rfl
theorem tab_130 : tab 130 = some ⟨1, 8, [.v .nilFunc], .other⟩ := rfl
theorem tab_131 : tab 131 = some ⟨1, 8, [.v .nilFunc], .other⟩ := rfl
theorem tab_132 : tab 132 = some ⟨1, 8, [.v .nilFunc], .other⟩ := rfl
theorem tab_133 : tab 133 = some ⟨1, 24, [.lst 1 [] .ex], .slice 78⟩ := rfl
theorem tab_134 : tab 134 = some ⟨1, 8, [.v .nilFunc], .other⟩ := rfl
theorem tab_135 : tab 135 = some ⟨1, 8, [.v .nilFunc], .other⟩ := rfl
theorem tab_136 : tab 136 = some ⟨4, 40, [.v (.pointer none), .v (.pointer none), .v (.pointer none), .v (.string ByteArray.empty)], .struct [(0, 17), (1, 17), (2, 17), (3, 9)]⟩ := rfl
theorem tab_137 : tab 137 = some ⟨4, 40, [.v (.pointer none), .v (.pointer none), .v (.pointer none), .v (.string ByteArray.empty)], .struct [(0, 17), (1, 17), (2, 17), (3, 9)]⟩ := rfl
theorem tab_141 : tab 141 = some ⟨1, 8, [.v .nilFunc], .other⟩ := rfl
theorem tab_142 : tab 142 = some ⟨1, 4, [.v (.int .u32 0)], .other⟩ := rfl
theorem tab_143 : tab 143 = some ⟨1, 1, [.v (.int .u8 0)], .other⟩ := rfl
theorem tab_144 : tab 144 = some ⟨1, 1, [.v (.int .u8 0)], .other⟩ := rfl
theorem tab_145 : tab 145 = some ⟨1, 8, [.v .nilFunc], .other⟩ := rfl
theorem tab_146 : tab 146 = some ⟨1, 8, [.v (.pointer none)], .other⟩ := rfl
theorem tab_147 : tab 147 = some ⟨1, 4, [.v (.int .i32 0)], .other⟩ := rfl
theorem tab_148 : tab 148 = some ⟨1, 4, [.v (.int .i32 0)], .other⟩ := rfl
theorem tab_149 : tab 149 = some ⟨11, 48, [.v (.int .u64 0), .v (.int .u64 0), .v (.int .u32 0), .v (.int .u8 0), .v (.int .u8 0), .v (.int .u8 0), .v (.int .u8 0), .v .nilFunc, .v (.pointer none), .v (.int .i32 0), .v (.int .i32 0)], .struct [(0, 12), (1, 12), (2, 142), (3, 143), (4, 5), (5, 5), (6, 144), (7, 145), (8, 146), (9, 147), (10, 148)]⟩ := rfl
theorem tab_150 : tab 150 = some ⟨11, 48, [.v (.int .u64 0), .v (.int .u64 0), .v (.int .u32 0), .v (.int .u8 0), .v (.int .u8 0), .v (.int .u8 0), .v (.int .u8 0), .v .nilFunc, .v (.pointer none), .v (.int .i32 0), .v (.int .i32 0)], .struct [(0, 12), (1, 12), (2, 142), (3, 143), (4, 5), (5, 5), (6, 144), (7, 145), (8, 146), (9, 147), (10, 148)]⟩ := rfl
theorem tab_151 : tab 151 = some ⟨4, 56, [.v (.int .i64 0), .v (.string ByteArray.empty), .v (.int .i64 0), .lst 4 [] .ex], .struct [(0, 3), (1, 9), (2, 3), (3, 57)]⟩ := rfl
theorem tab_152 : tab 152 = some ⟨4, 56, [.v (.int .i64 0), .v (.string ByteArray.empty), .v (.int .i64 0), .lst 4 [] .ex], .struct [(0, 3), (1, 9), (2, 3), (3, 57)]⟩ := rfl

theorem tokB_1 : tokB Try.prog 1 ⟨1, 8, [.v .nilFunc], .other⟩ = true := by kernel_rfl
theorem tokB_2 : tokB Try.prog 2 ⟨1, 8, [.v (.int .i64 0)], .other⟩ = true := by kernel_rfl
theorem tokB_3 : tokB Try.prog 3 ⟨1, 8, [.v (.int .i64 0)], .other⟩ = true := by kernel_rfl
theorem tokB_4 : tokB Try.prog 4 ⟨1, 1, [.v (.bool false)], .other⟩ = true := by kernel_rfl
theorem tokB_5 : tokB Try.prog 5 ⟨1, 1, [.v (.int .u8 0)], .other⟩ = true := by kernel_rfl
theorem tokB_6 : tokB Try.prog 6 ⟨1, 1, [.v (.int .u8 0)], .other⟩ = true := by kernel_rfl
theorem tokB_7 : tokB Try.prog 7 ⟨4, 24, [.v (.int .i64 0), .v (.int .i64 0), .v (.bool false), .v (.int .u8 0)], .struct [(0, 2), (1, 3), (2, 4), (3, 6)]⟩ = true := by kernel_rfl
theorem tokB_8 : tokB Try.prog 8 ⟨4, 24, [.v (.int .i64 0), .v (.int .i64 0), .v (.bool false), .v (.int .u8 0)], .struct [(0, 2), (1, 3), (2, 4), (3, 6)]⟩ = true := by kernel_rfl
theorem tokB_9 : tokB Try.prog 9 ⟨1, 16, [.v (.string ByteArray.empty)], .other⟩ = true := by kernel_rfl
theorem tokB_10 : tokB Try.prog 10 ⟨1, 16, [.v (.string ByteArray.empty)], .other⟩ = true := by kernel_rfl
theorem tokB_11 : tokB Try.prog 11 ⟨1, 16, [.v (.string ByteArray.empty)], .other⟩ = true := by kernel_rfl
theorem tokB_12 : tokB Try.prog 12 ⟨1, 8, [.v (.int .u64 0)], .other⟩ = true := by kernel_rfl
theorem tokB_13 : tokB Try.prog 13 ⟨2, 24, [.v (.string ByteArray.empty), .v (.int .u64 0)], .struct [(0, 9), (1, 12)]⟩ = true := by kernel_rfl
theorem tokB_14 : tokB Try.prog 14 ⟨2, 24, [.v (.string ByteArray.empty), .v (.int .u64 0)], .struct [(0, 9), (1, 12)]⟩ = true := by kernel_rfl
theorem tokB_15 : tokB Try.prog 15 ⟨1, 8, [.v (.pointer none)], .other⟩ = true := by kernel_rfl
theorem tokB_16 : tokB Try.prog 16 ⟨1, 8, [.v (.pointer none)], .other⟩ = true := by kernel_rfl
theorem tokB_17 : tokB Try.prog 17 ⟨1, 8, [.v (.pointer none)], .other⟩ = true := by kernel_rfl
theorem tokB_18 : tokB Try.prog 18 ⟨1, 8, [.v (.pointer none)], .struct [(0, 17)]⟩ = true := by kernel_rfl
theorem tokB_19 : tokB Try.prog 19 ⟨1, 8, [.v (.pointer none)], .struct [(0, 17)]⟩ = true := by kernel_rfl
theorem tokB_21 : tokB Try.prog 21 ⟨1, 4, [.v (.int .i32 0)], .other⟩ = true := by kernel_rfl
theorem tokB_22 : tokB Try.prog 22 ⟨1, 24, [.lst 3 [] .ex], .slice 62⟩ = true := by kernel_rfl
theorem tokB_23 : tokB Try.prog 23 ⟨1, 24, [.lst 1 [] .ex], .slice 25⟩ = true := by kernel_rfl
theorem tokB_24 : tokB Try.prog 24 ⟨1, 8, [.v .nilFunc], .other⟩ = true := by kernel_rfl
theorem tokB_25 : tokB Try.prog 25 ⟨1, 24, [.lst 4 [] .ex], .slice 30⟩ = true := by kernel_rfl
theorem tokB_26 : tokB Try.prog 26 ⟨1, 8, [.v (.int .i64 0)], .other⟩ = true := by kernel_rfl
theorem tokB_28 : tokB Try.prog 28 ⟨1, 8, [.v .nilFunc], .other⟩ = true := by kernel_rfl
theorem tokB_29 : tokB Try.prog 29 ⟨4, 56, [.v (.int .i64 0), .v (.string ByteArray.empty), .v (.int .i64 0), .lst 4 [] .ex], .struct [(0, 3), (1, 9), (2, 3), (3, 25)]⟩ = true := by kernel_rfl
theorem tokB_30 : tokB Try.prog 30 ⟨4, 56, [.v (.int .i64 0), .v (.string ByteArray.empty), .v (.int .i64 0), .lst 4 [] .ex], .struct [(0, 3), (1, 9), (2, 3), (3, 25)]⟩ = true := by kernel_rfl
theorem tokB_31 : tokB Try.prog 31 ⟨1, 8, [.v .nilFunc], .other⟩ = true := by kernel_rfl
theorem tokB_32 : tokB Try.prog 32 ⟨1, 24, [.lst 1 [] .ex], .slice 3⟩ = true := by kernel_rfl
theorem tokB_34 : tokB Try.prog 34 ⟨1, 8, [.v .nilFunc], .other⟩ = true := by kernel_rfl
theorem tokB_35 : tokB Try.prog 35 ⟨1, 8, [.v .nilFunc], .other⟩ = true := by kernel_rfl
theorem tokB_36 : tokB Try.prog 36 ⟨1, 8, [.v .nilFunc], .other⟩ = true := by kernel_rfl
theorem tokB_37 : tokB Try.prog 37 ⟨1, 8, [.v .nilFunc], .other⟩ = true := by kernel_rfl
theorem tokB_38 : tokB Try.prog 38 ⟨1, 8, [.v .nilFunc], .other⟩ = true := by kernel_rfl
theorem tokB_39 : tokB Try.prog 39 ⟨1, 8, [.v .nilFunc], .other⟩ = true := by kernel_rfl
theorem tokB_40 : tokB Try.prog 40 ⟨1, 24, [.lst 6 [] .ex], .slice 49⟩ = true := by kernel_rfl
theorem tokB_42 : tokB Try.prog 42 ⟨1, 8, [.v .nilFunc], .other⟩ = true := by kernel_rfl
theorem tokB_43 : tokB Try.prog 43 ⟨1, 8, [.v .nilFunc], .other⟩ = true := by kernel_rfl
theorem tokB_44 : tokB Try.prog 44 ⟨1, 8, [.v .nilFunc], .other⟩ = true := by kernel_rfl
theorem tokB_45 : tokB Try.prog 45 ⟨1, 24, [.lst 1 [] .ex], .slice 4⟩ = true := by kernel_rfl
theorem tokB_46 : tokB Try.prog 46 ⟨1, 8, [.v .nilFunc], .other⟩ = true := by kernel_rfl
theorem tokB_47 : tokB Try.prog 47 ⟨1, 24, [.lst 1 [] .ex], .slice 9⟩ = true := by kernel_rfl
theorem tokB_48 : tokB Try.prog 48 ⟨6, 112, [.v (.int .i64 0), .v (.int .i64 0), .lst 1 [] .ex, .lst 1 [] .ex, .lst 1 [] .ex, .lst 1 [] .ex], .struct [(0, 3), (1, 3), (2, 32), (3, 47), (4, 32), (5, 32)]⟩ = true := by kernel_rfl
theorem tokB_49 : tokB Try.prog 49 ⟨6, 112, [.v (.int .i64 0), .v (.int .i64 0), .lst 1 [] .ex, .lst 1 [] .ex, .lst 1 [] .ex, .lst 1 [] .ex], .struct [(0, 3), (1, 3), (2, 32), (3, 47), (4, 32), (5, 32)]⟩ = true := by kernel_rfl
theorem tokB_50 : tokB Try.prog 50 ⟨1, 8, [.v .nilFunc], .other⟩ = true := by kernel_rfl
theorem tokB_51 : tokB Try.prog 51 ⟨1, 8, [.v .nilFunc], .other⟩ = true := by kernel_rfl
theorem tokB_52 : tokB Try.prog 52 ⟨1, 8, [.v .nilFunc], .other⟩ = true := by kernel_rfl
theorem tokB_53 : tokB Try.prog 53 ⟨1, 8, [.v .nilFunc], .other⟩ = true := by kernel_rfl
theorem tokB_55 : tokB Try.prog 55 ⟨1, 8, [.v .nilFunc], .other⟩ = true := by kernel_rfl
theorem tokB_56 : tokB Try.prog 56 ⟨1, 8, [.v .nilFunc], .other⟩ = true := by kernel_rfl
theorem tokB_57 : tokB Try.prog 57 ⟨1, 24, [.lst 4 [] .ex], .slice 152⟩ = true := by kernel_rfl
theorem tokB_58 : tokB Try.prog 58 ⟨2, 40, [.v (.string ByteArray.empty), .lst 4 [] .ex], .struct [(0, 9), (1, 57)]⟩ = true := by kernel_rfl
theorem tokB_59 : tokB Try.prog 59 ⟨2, 40, [.v (.string ByteArray.empty), .lst 4 [] .ex], .struct [(0, 9), (1, 57)]⟩ = true := by kernel_rfl
theorem tokB_60 : tokB Try.prog 60 ⟨1, 24, [.lst 2 [] .ex], .slice 59⟩ = true := by kernel_rfl
theorem tokB_61 : tokB Try.prog 61 ⟨3, 48, [.v (.string ByteArray.empty), .v (.int .i64 0), .lst 2 [] .ex], .struct [(0, 9), (1, 3), (2, 60)]⟩ = true := by kernel_rfl
theorem tokB_62 : tokB Try.prog 62 ⟨3, 48, [.v (.string ByteArray.empty), .v (.int .i64 0), .lst 2 [] .ex], .struct [(0, 9), (1, 3), (2, 60)]⟩ = true := by kernel_rfl
theorem tokB_63 : tokB Try.prog 63 ⟨1, 8, [.v (.map none)], .map 9 95⟩ = true := by kernel_rfl
theorem tokB_64 : tokB Try.prog 64 ⟨2, 32, [.lst 3 [] .ex, .v (.map none)], .struct [(0, 22), (1, 63)]⟩ = true := by kernel_rfl
theorem tokB_65 : tokB Try.prog 65 ⟨2, 32, [.lst 3 [] .ex, .v (.map none)], .struct [(0, 22), (1, 63)]⟩ = true := by kernel_rfl
theorem tokB_67 : tokB Try.prog 67 ⟨1, 8, [.v .nilFunc], .other⟩ = true := by kernel_rfl
theorem tokB_69 : tokB Try.prog 69 ⟨1, 8, [.v .nilFunc], .other⟩ = true := by kernel_rfl
theorem tokB_70 : tokB Try.prog 70 ⟨1, 8, [.v .nilFunc], .other⟩ = true := by kernel_rfl
theorem tokB_71 : tokB Try.prog 71 ⟨1, 8, [.v (.map none)], .map 9 100⟩ = true := by kernel_rfl
theorem tokB_73 : tokB Try.prog 73 ⟨1, 8, [.v .nilFunc], .other⟩ = true := by kernel_rfl
theorem tokB_74 : tokB Try.prog 74 ⟨1, 8, [.v (.pointer none)], .other⟩ = true := by kernel_rfl
theorem tokB_75 : tokB Try.prog 75 ⟨4, 48, [.v (.map none), .lst 6 [] .ex, .v (.int .i64 0), .v (.bool false)], .struct [(0, 71), (1, 40), (2, 3), (3, 4)]⟩ = true := by kernel_rfl
theorem tokB_76 : tokB Try.prog 76 ⟨4, 48, [.v (.map none), .lst 6 [] .ex, .v (.int .i64 0), .v (.bool false)], .struct [(0, 71), (1, 40), (2, 3), (3, 4)]⟩ = true := by kernel_rfl
theorem tokB_77 : tokB Try.prog 77 ⟨1, 24, [.lst 2 [] .ex], .slice 80⟩ = true := by kernel_rfl
theorem tokB_78 : tokB Try.prog 78 ⟨1, 24, [.lst 1 [] .ex], .slice 32⟩ = true := by kernel_rfl
theorem tokB_79 : tokB Try.prog 79 ⟨2, 32, [.v (.int .i64 0), .lst 4 [] .ex], .struct [(0, 3), (1, 25)]⟩ = true := by kernel_rfl
theorem tokB_80 : tokB Try.prog 80 ⟨2, 32, [.v (.int .i64 0), .lst 4 [] .ex], .struct [(0, 3), (1, 25)]⟩ = true := by kernel_rfl
theorem tokB_81 : tokB Try.prog 81 ⟨1, 8, [.v .nilFunc], .other⟩ = true := by kernel_rfl
theorem tokB_82 : tokB Try.prog 82 ⟨1, 8, [.v .nilFunc], .other⟩ = true := by kernel_rfl
theorem tokB_83 : tokB Try.prog 83 ⟨1, 8, [.v .nilFunc], .other⟩ = true := by kernel_rfl
theorem tokB_84 : tokB Try.prog 84 ⟨1, 8, [.v .nilFunc], .other⟩ = true := by kernel_rfl
theorem tokB_86 : tokB Try.prog 86 ⟨1, 8, [.v .nilFunc], .other⟩ = true := by kernel_rfl
theorem tokB_87 : tokB Try.prog 87 ⟨1, 8, [.v .nilFunc], .other⟩ = true := by kernel_rfl
theorem tokB_88 : tokB Try.prog 88 ⟨1, 8, [.v .nilFunc], .other⟩ = true := by kernel_rfl
theorem tokB_89 : tokB Try.prog 89 ⟨1, 8, [.v .nilFunc], .other⟩ = true := by kernel_rfl
theorem tokB_90 : tokB Try.prog 90 ⟨1, 8, [.v .nilFunc], .other⟩ = true := by kernel_rfl
theorem tokB_91 : tokB Try.prog 91 ⟨1, 8, [.v .nilFunc], .other⟩ = true := by kernel_rfl
theorem tokB_92 : tokB Try.prog 92 ⟨1, 8, [.v .nilFunc], .other⟩ = true := by kernel_rfl
theorem tokB_93 : tokB Try.prog 93 ⟨1, 8, [.v .nilFunc], .other⟩ = true := by kernel_rfl
theorem tokB_94 : tokB Try.prog 94 ⟨3, 24, [.v (.int .i64 0), .v (.int .i64 0), .v (.int .i64 0)], .struct [(0, 3), (1, 3), (2, 3)]⟩ = true := by kernel_rfl
theorem tokB_95 : tokB Try.prog 95 ⟨3, 24, [.v (.int .i64 0), .v (.int .i64 0), .v (.int .i64 0)], .struct [(0, 3), (1, 3), (2, 3)]⟩ = true := by kernel_rfl
theorem tokB_96 : tokB Try.prog 96 ⟨1, 8, [.v .nilFunc], .other⟩ = true := by kernel_rfl
theorem tokB_97 : tokB Try.prog 97 ⟨1, 8, [.v .nilFunc], .other⟩ = true := by kernel_rfl
theorem tokB_98 : tokB Try.prog 98 ⟨1, 8, [.v .nilFunc], .other⟩ = true := by kernel_rfl
theorem tokB_99 : tokB Try.prog 99 ⟨1, 8, [.v .nilFunc], .other⟩ = true := by kernel_rfl
theorem tokB_100 : tokB Try.prog 100 ⟨1, 8, [.v (.pointer none)], .other⟩ = true := by kernel_rfl
theorem tokB_101 : tokB Try.prog 101 ⟨1, 8, [.v .nilFunc], .other⟩ = true := by kernel_rfl
theorem tokB_102 : tokB Try.prog 102 ⟨1, 8, [.v .nilFunc], .other⟩ = true := by kernel_rfl
theorem tokB_103 : tokB Try.prog 103 ⟨1, 8, [.v .nilFunc], .other⟩ = true := by kernel_rfl
theorem tokB_104 : tokB Try.prog 104 ⟨1, 8, [.v .nilFunc], .other⟩ = true := by kernel_rfl
theorem tokB_105 : tokB Try.prog 105 ⟨1, 8, [.v .nilFunc], .other⟩ = true := by kernel_rfl
theorem tokB_106 : tokB Try.prog 106 ⟨1, 8, [.v .nilFunc], .other⟩ = true := by kernel_rfl
theorem tokB_107 : tokB Try.prog 107 ⟨1, 8, [.v .nilFunc], .other⟩ = true := by kernel_rfl
theorem tokB_108 : tokB Try.prog 108 ⟨1, 8, [.v .nilFunc], .other⟩ = true := by kernel_rfl
theorem tokB_109 : tokB Try.prog 109 ⟨1, 8, [.v .nilFunc], .other⟩ = true := by kernel_rfl
theorem tokB_110 : tokB Try.prog 110 ⟨1, 8, [.v .nilFunc], .other⟩ = true := by kernel_rfl
theorem tokB_111 : tokB Try.prog 111 ⟨1, 8, [.v .nilFunc], .other⟩ = true := by kernel_rfl
theorem tokB_112 : tokB Try.prog 112 ⟨1, 8, [.v .nilFunc], .other⟩ = true := by kernel_rfl
theorem tokB_113 : tokB Try.prog 113 ⟨1, 8, [.v .nilFunc], .other⟩ = true := by kernel_rfl
theorem tokB_114 : tokB Try.prog 114 ⟨1, 8, [.v .nilFunc], .other⟩ = true := by kernel_rfl
theorem tokB_115 : tokB Try.prog 115 ⟨1, 8, [.v .nilFunc], .other⟩ = true := by kernel_rfl
theorem tokB_116 : tokB Try.prog 116 ⟨1, 8, [.v (.pointer none)], .other⟩ = true := by kernel_rfl
theorem tokB_117 : tokB Try.prog 117 ⟨1, 8, [.v .nilFunc], .other⟩ = true := by kernel_rfl
theorem tokB_118 : tokB Try.prog 118 ⟨1, 8, [.v .nilFunc], .other⟩ = true := by kernel_rfl
theorem tokB_120 : tokB Try.prog 120 ⟨1, 8, [.v .nilFunc], .other⟩ = true := by kernel_rfl
theorem tokB_121 : tokB Try.prog 121 ⟨1, 8, [.v .nilFunc], .other⟩ = true := by kernel_rfl
theorem tokB_122 : tokB Try.prog 122 ⟨1, 8, [.v .nilFunc], .other⟩ = true := by kernel_rfl
theorem tokB_123 : tokB Try.prog 123 ⟨1, 8, [.v .nilFunc], .other⟩ = true := by kernel_rfl
theorem tokB_124 : tokB Try.prog 124 ⟨1, 8, [.v .nilFunc], .other⟩ = true := by kernel_rfl
theorem tokB_125 : tokB Try.prog 125 ⟨1, 8, [.v .nilFunc], .other⟩ = true := by kernel_rfl
theorem tokB_126 : tokB Try.prog 126 ⟨1, 8, [.v .nilFunc], .other⟩ = true := by kernel_rfl
theorem tokB_127 : tokB Try.prog 127 ⟨1, 8, [.v .nilFunc], .other⟩ = true := by kernel_rfl
theorem tokB_128 : tokB Try.prog 128 ⟨1, 8, [.v .nilFunc], .other⟩ = true := by kernel_rfl
theorem tokB_129 : tokB Try.prog 129 ⟨1, 8, [.v .nilFunc], .other⟩ = true := by kernel_rfl
theorem tokB_130 : tokB Try.prog 130 ⟨1, 8, [.v .nilFunc], .other⟩ = true := by kernel_rfl
theorem tokB_131 : tokB Try.prog 131 ⟨1, 8, [.v .nilFunc], .other⟩ = true := by kernel_rfl
theorem tokB_132 : tokB Try.prog 132 ⟨1, 8, [.v .nilFunc], .other⟩ = true := by kernel_rfl
theorem tokB_133 : tokB Try.prog 133 ⟨1, 24, [.lst 1 [] .ex], .slice 78⟩ = true := by kernel_rfl
theorem tokB_134 : tokB Try.prog 134 ⟨1, 8, [.v .nilFunc], .other⟩ = true := by kernel_rfl
theorem tokB_135 : tokB Try.prog 135 ⟨1, 8, [.v .nilFunc], .other⟩ = true := by kernel_rfl
theorem tokB_136 : tokB Try.prog 136 ⟨4, 40, [.v (.pointer none), .v (.pointer none), .v (.pointer none), .v (.string ByteArray.empty)], .struct [(0, 17), (1, 17), (2, 17), (3, 9)]⟩ = true := by kernel_rfl
theorem tokB_137 : tokB Try.prog 137 ⟨4, 40, [.v (.pointer none), .v (.pointer none), .v (.pointer none), .v (.string ByteArray.empty)], .struct [(0, 17), (1, 17), (2, 17), (3, 9)]⟩ = true := by kernel_rfl
theorem tokB_141 : tokB Try.prog 141 ⟨1, 8, [.v .nilFunc], .other⟩ = true := by kernel_rfl
theorem tokB_142 : tokB Try.prog 142 ⟨1, 4, [.v (.int .u32 0)], .other⟩ = true := by kernel_rfl
theorem tokB_143 : tokB Try.prog 143 ⟨1, 1, [.v (.int .u8 0)], .other⟩ = true := by kernel_rfl
theorem tokB_144 : tokB Try.prog 144 ⟨1, 1, [.v (.int .u8 0)], .other⟩ = true := by kernel_rfl
theorem tokB_145 : tokB Try.prog 145 ⟨1, 8, [.v .nilFunc], .other⟩ = true := by kernel_rfl
theorem tokB_146 : tokB Try.prog 146 ⟨1, 8, [.v (.pointer none)], .other⟩ = true := by kernel_rfl
theorem tokB_147 : tokB Try.prog 147 ⟨1, 4, [.v (.int .i32 0)], .other⟩ = true := by kernel_rfl
theorem tokB_148 : tokB Try.prog 148 ⟨1, 4, [.v (.int .i32 0)], .other⟩ = true := by kernel_rfl
theorem tokB_149 : tokB Try.prog 149 ⟨11, 48, [.v (.int .u64 0), .v (.int .u64 0), .v (.int .u32 0), .v (.int .u8 0), .v (.int .u8 0), .v (.int .u8 0), .v (.int .u8 0), .v .nilFunc, .v (.pointer none), .v (.int .i32 0), .v (.int .i32 0)], .struct [(0, 12), (1, 12), (2, 142), (3, 143), (4, 5), (5, 5), (6, 144), (7, 145), (8, 146), (9, 147), (10, 148)]⟩ = true := by kernel_rfl
theorem tokB_150 : tokB Try.prog 150 ⟨11, 48, [.v (.int .u64 0), .v (.int .u64 0), .v (.int .u32 0), .v (.int .u8 0), .v (.int .u8 0), .v (.int .u8 0), .v (.int .u8 0), .v .nilFunc, .v (.pointer none), .v (.int .i32 0), .v (.int .i32 0)], .struct [(0, 12), (1, 12), (2, 142), (3, 143), (4, 5), (5, 5), (6, 144), (7, 145), (8, 146), (9, 147), (10, 148)]⟩ = true := by kernel_rfl
theorem tokB_151 : tokB Try.prog 151 ⟨4, 56, [.v (.int .i64 0), .v (.string ByteArray.empty), .v (.int .i64 0), .lst 4 [] .ex], .struct [(0, 3), (1, 9), (2, 3), (3, 57)]⟩ = true := by kernel_rfl
theorem tokB_152 : tokB Try.prog 152 ⟨4, 56, [.v (.int .i64 0), .v (.string ByteArray.empty), .v (.int .i64 0), .lst 4 [] .ex], .struct [(0, 3), (1, 9), (2, 3), (3, 57)]⟩ = true := by kernel_rfl

theorem hT : TabOK Try.prog tab := by
  intro t ti h
  unfold tab at h
  split at h
  · cases h
    exact tok_of_B tokB_1
  · cases h
    exact tok_of_B tokB_2
  · cases h
    exact tok_of_B tokB_3
  · cases h
    exact tok_of_B tokB_4
  · cases h
    exact tok_of_B tokB_5
  · cases h
    exact tok_of_B tokB_6
  · cases h
    exact tok_of_B tokB_7
  · cases h
    exact tok_of_B tokB_8
  · cases h
    exact tok_of_B tokB_9
  · cases h
    exact tok_of_B tokB_10
  · cases h
    exact tok_of_B tokB_11
  · cases h
    exact tok_of_B tokB_12
  · cases h
    exact tok_of_B tokB_13
  · cases h
    exact tok_of_B tokB_14
  · cases h
    exact tok_of_B tokB_15
  · cases h
    exact tok_of_B tokB_16
  · cases h
    exact tok_of_B tokB_17
  · cases h
    exact tok_of_B tokB_18
  · cases h
    exact tok_of_B tokB_19
  · cases h
    exact tok_of_B tokB_21
  · cases h
    exact tok_of_B tokB_22
  · cases h
    exact tok_of_B tokB_23
  · cases h
    exact tok_of_B tokB_24
  · cases h
    exact tok_of_B tokB_25
  · cases h
    exact tok_of_B tokB_26
  · cases h
    exact tok_of_B tokB_28
  · cases h
    exact tok_of_B tokB_29
  · cases h
    exact tok_of_B tokB_30
  · cases h
    exact tok_of_B tokB_31
  · cases h
    exact tok_of_B tokB_32
  · cases h
    exact tok_of_B tokB_34
  · cases h
    exact tok_of_B tokB_35
  · cases h
    exact tok_of_B tokB_36
  · cases h
    exact tok_of_B tokB_37
  · cases h
    exact tok_of_B tokB_38
  · cases h
    exact tok_of_B tokB_39
  · cases h
    exact tok_of_B tokB_40
  · cases h
    exact tok_of_B tokB_42
  · cases h
    exact tok_of_B tokB_43
  · cases h
    exact tok_of_B tokB_44
  · cases h
    exact tok_of_B tokB_45
  · cases h
    exact tok_of_B tokB_46
  · cases h
    exact tok_of_B tokB_47
  · cases h
    exact tok_of_B tokB_48
  · cases h
    exact tok_of_B tokB_49
  · cases h
    exact tok_of_B tokB_50
  · cases h
    exact tok_of_B tokB_51
  · cases h
    exact tok_of_B tokB_52
  · cases h
    exact tok_of_B tokB_53
  · cases h
    exact tok_of_B tokB_55
  · cases h
    exact tok_of_B tokB_56
  · cases h
    exact tok_of_B tokB_57
  · cases h
    exact tok_of_B tokB_58
  · cases h
    exact tok_of_B tokB_59
  · cases h
    exact tok_of_B tokB_60
  · cases h
    exact tok_of_B tokB_61
  · cases h
    exact tok_of_B tokB_62
  · cases h
    exact tok_of_B tokB_63
  · cases h
    exact tok_of_B tokB_64
  · cases h
    exact tok_of_B tokB_65
  · cases h
    exact tok_of_B tokB_67
  · cases h
    exact tok_of_B tokB_69
  · cases h
    exact tok_of_B tokB_70
  · cases h
    exact tok_of_B tokB_71
  · cases h
    exact tok_of_B tokB_73
  · cases h
    exact tok_of_B tokB_74
  · cases h
    exact tok_of_B tokB_75
  · cases h
    exact tok_of_B tokB_76
  · cases h
    exact tok_of_B tokB_77
  · cases h
    exact tok_of_B tokB_78
  · cases h
    exact tok_of_B tokB_79
  · cases h
    exact tok_of_B tokB_80
  · cases h
    exact tok_of_B tokB_81
  · cases h
    exact tok_of_B tokB_82
  · cases h
    exact tok_of_B tokB_83
  · cases h
    exact tok_of_B tokB_84
  · cases h
    exact tok_of_B tokB_86
  · cases h
    exact tok_of_B tokB_87
  · cases h
    exact tok_of_B tokB_88
  · cases h
    exact tok_of_B tokB_89
  · cases h
    exact tok_of_B tokB_90
  · cases h
    exact tok_of_B tokB_91
  · cases h
    exact tok_of_B tokB_92
  · cases h
    exact tok_of_B tokB_93
  · cases h
    exact tok_of_B tokB_94
  · cases h
    exact tok_of_B tokB_95
  · cases h
    exact tok_of_B tokB_96
  · cases h
    exact tok_of_B tokB_97
  · cases h
    exact tok_of_B tokB_98
  · cases h
    exact tok_of_B tokB_99
  · cases h
    exact tok_of_B tokB_100
  · cases h
    exact tok_of_B tokB_101
  · cases h
    exact tok_of_B tokB_102
  · cases h
    exact tok_of_B tokB_103
  · cases h
    exact tok_of_B tokB_104
  · cases h
    exact tok_of_B tokB_105
  · cases h
    exact tok_of_B tokB_106
  · cases h
    exact tok_of_B tokB_107
  · cases h
    exact tok_of_B tokB_108
  · cases h
    exact tok_of_B tokB_109
  · cases h
    exact tok_of_B tokB_110
  · cases h
    exact tok_of_B tokB_111
  · cases h
    exact tok_of_B tokB_112
  · cases h
    exact tok_of_B tokB_113
  · cases h
    exact tok_of_B tokB_114
  · cases h
    exact tok_of_B tokB_115
  · cases h
    exact tok_of_B tokB_116
  · cases h
    exact tok_of_B tokB_117
  · cases h
    exact tok_of_B tokB_118
  · cases h
    exact tok_of_B tokB_120
  · cases h
    exact tok_of_B tokB_121
  · cases h
    exact tok_of_B tokB_122
  · cases h
    exact tok_of_B tokB_123
  · cases h
    exact tok_of_B tokB_124
  · cases h
    exact tok_of_B tokB_125
  · cases h
    exact tok_of_B tokB_126
  · cases h
    exact tok_of_B tokB_127
  · cases h
    exact tok_of_B tokB_128
  · cases h
    exact tok_of_B tokB_129
  · cases h
    exact tok_of_B tokB_130
  · cases h
    exact tok_of_B tokB_131
  · cases h
    exact tok_of_B tokB_132
  · cases h
    exact tok_of_B tokB_133
  · cases h
    exact tok_of_B tokB_134
  · cases h
    exact tok_of_B tokB_135
  · cases h
    exact tok_of_B tokB_136
  · cases h
    exact tok_of_B tokB_137
  · cases h
    exact tok_of_B tokB_141
  · cases h
    exact tok_of_B tokB_142
  · cases h
    exact tok_of_B tokB_143
  · cases h
    exact tok_of_B tokB_144
  · cases h
    exact tok_of_B tokB_145
  · cases h
    exact tok_of_B tokB_146
  · cases h
    exact tok_of_B tokB_147
  · cases h
    exact tok_of_B tokB_148
  · cases h
    exact tok_of_B tokB_149
  · cases h
    exact tok_of_B tokB_150
  · cases h
    exact tok_of_B tokB_151
  · cases h
    exact tok_of_B tokB_152
  · cases h

theorem hm : Try.prog.follows .mixedOrders = true := by kernel_rfl

end Go.Proofs.Ytakdmelemfnmdaa
end

section
/-
  Patterns as trees, what memory tells of them, and what simp needs to compute with that.
-/
namespace Go.Proofs.Ytakdmelemfnmdaa
open Go.Av

inductive Pat where
  | mk (kind : Int) (name : ByteArray) (n : Int) (args : List Pat)

namespace Pat
def kind : Pat → Int | mk k _ _ _ => k
def name : Pat → ByteArray | mk _ s _ _ => s
def n : Pat → Int | mk _ _ n _ => n
def args : Pat → List Pat | mk _ _ _ l => l

mutual
def enc : Pat → AVal
  | mk k s n l => .agg [.v (.int .i64 k), .v (.string s), .v (.int .i64 n), .lst 4 (encL l) .sh]
def encL : List Pat → List AVal
  | [] => []
  | p :: r => p.enc :: encL r
end

theorem encL_map : ∀ l : List Pat, encL l = l.map enc
  | [] => by simp [encL]
  | p :: r => by simp [encL, encL_map r]

theorem enc_eq (p : Pat) : p.enc = .agg [.v (.int .i64 p.kind), .v (.string p.name), .v (.int .i64 p.n), lstOf 4 enc p.args] := by
  cases p with
  | mk k s n l => simp [enc, kind, name, Pat.n, args, encL_map]

theorem fold (p : Pat) : AVal.agg [.v (.int .i64 p.kind), .v (.string p.name), .v (.int .i64 p.n), .lst 4 (p.args.map enc) .sh] = p.enc := (enc_eq p).symm
theorem enc_cells (p : Pat) : p.enc.cells = [.v (.int .i64 p.kind), .v (.string p.name), .v (.int .i64 p.n), .lst 4 (p.args.map enc) .sh] := by
  rw [enc_eq]
  rfl
theorem enc_share (p : Pat) : p.enc.share = p.enc := by
  rw [enc_eq]
  rfl
theorem enc_flat (p : Pat) : p.enc.flat := by
  rw [enc_eq]
  simp [AVal.flat]
mutual
theorem enc_upto (n : Nat) : ∀ p : Pat, p.enc.upto n
  | mk k s m l => by simp [enc, AVal.upto, uptoL, encL_upto n l]
theorem encL_upto (n : Nat) : ∀ l : List Pat, uptoL n (encL l)
  | [] => by simp [encL, uptoL]
  | p :: r => by simp [encL, uptoL, enc_upto n p, encL_upto n r]
end
theorem map_upto (n : Nat) (l : List Pat) : uptoL n (l.map enc) := by
  rw [← encL_map]
  exact encL_upto n l
theorem map_share (l : List Pat) : (l.map enc).map AVal.share = l.map enc := by
  rw [List.map_map]
  apply List.map_congr_left
  intro p _
  simp [enc_share]
theorem cells_upto (n : Nat) (l : List Pat) : uptoL n (cellsAll (l.map enc)) := by
  rw [uptoL_iff]
  intro c hc
  simp only [cellsAll, List.mem_flatMap, List.mem_map] at hc
  obtain ⟨_, ⟨p, _, rfl⟩, hc⟩ := hc
  have := enc_upto n p
  rw [enc_eq] at this
  rw [enc_cells] at hc
  simp only [AVal.upto, uptoL_iff] at this
  exact this c hc

theorem cells_len (p : Pat) : p.enc.cells.length = 4 := by
  rw [enc_cells]
  rfl

theorem row_len (l : List Pat) : (cellsAll (l.map enc)).length = l.length * 4 := by
  rw [cellsAll_length (sz := 4) (fun x hx => by
    obtain ⟨p, _, rfl⟩ := List.mem_map.1 hx
    exact p.cells_len)]
  simp

theorem row_get : ∀ {l : List Pat} {k : Nat} {p : Pat}, l[k]? = some p → ((cellsAll (l.map enc)).drop (k * 4)).take 4 = p.enc.cells
  | q :: r, 0, p, h => by
    simp only [List.getElem?_cons_zero, Option.some.injEq] at h
    subst h
    simp only [List.map_cons, cellsAll, List.flatMap_cons, Nat.zero_mul, List.drop_zero]
    rw [List.take_append_of_le_length (by rw [cells_len]; exact Nat.le_refl _), List.take_of_length_le (by rw [cells_len]; exact Nat.le_refl _)]
  | q :: r, k + 1, p, h => by
    have ih := row_get (l := r) (k := k) (p := p) (by simpa using h)
    simp only [List.map_cons, cellsAll, List.flatMap_cons] at ih ⊢
    rw [List.drop_append, List.drop_of_length_le (by rw [cells_len]; omega), cells_len, show (k + 1) * 4 - 4 = k * 4 by omega]
    exact ih

theorem row_set {l : List Pat} {k : Nat} (h : k < l.length) (q : Pat) : splice (cellsAll (l.map enc)) (k * 4) q.enc.cells = cellsAll ((l.set k q).map enc) := by
  induction l generalizing k with
  | nil => simp at h
  | cons p r ih =>
    cases k with
    | zero =>
      simp only [List.set_cons_zero, List.map_cons, cellsAll, List.flatMap_cons, splice, Nat.zero_mul, List.take_zero, List.nil_append, Nat.zero_add, cells_len]
      rw [List.drop_append_of_le_length (by rw [cells_len]; exact Nat.le_refl _), List.drop_of_length_le (by rw [cells_len]; exact Nat.le_refl _)]
      rfl
    | succ k =>
      have := ih (k := k) (by simpa using h)
      simp only [List.set_cons_succ, List.map_cons, cellsAll, List.flatMap_cons, splice, cells_len] at this ⊢
      rw [List.take_append, List.drop_append, cells_len, List.take_of_length_le (by rw [cells_len]; omega), List.drop_of_length_le (by rw [cells_len]; omega), show (k + 1) * 4 - 4 = k * 4 by omega, show (k + 1) * 4 + 4 - 4 = k * 4 + 4 by omega, List.nil_append, List.append_assoc, this]

theorem agg_cells (p : Pat) : AVal.agg p.enc.cells = p.enc := by
  rw [enc_cells]
  exact fold p
end Pat

/-- A row of patterns; rows of them. -/
abbrev eR (l : List Pat) : AVal := .lst 4 (l.map Pat.enc) .sh
abbrev eRR (l : List (List Pat)) : AVal := .lst 1 (l.map eR) .sh

end Go.Proofs.Ytakdmelemfnmdaa
end

section
/-
  Constructors and data types as trees, what memory tells of them, and what simp needs to compute with that.
-/
namespace Go.Proofs.Ytakdmelemfnmdaa
open Go.Av

/-- A constructor; its types are laid as patterns are. -/
structure Con where
  name : ByteArray
  args : List Pat

structure Data where
  name : ByteArray
  params : Int
  cons : List Con

def Con.enc (c : Con) : AVal := .agg [.v (.string c.name), .lst 4 (c.args.map Pat.enc) .sh]
def Data.enc (d : Data) : AVal := .agg [.v (.string d.name), .v (.int .i64 d.params), .lst 2 (d.cons.map Con.enc) .sh]

theorem Con.fold (c : Con) : AVal.agg [.v (.string c.name), .lst 4 (c.args.map Pat.enc) .sh] = c.enc := rfl
theorem Con.enc_cells (c : Con) : c.enc.cells = [.v (.string c.name), .lst 4 (c.args.map Pat.enc) .sh] := rfl
theorem Con.enc_share (c : Con) : c.enc.share = c.enc := rfl
theorem Con.enc_flat (c : Con) : c.enc.flat := trivial
theorem Con.enc_upto (n : Nat) (c : Con) : c.enc.upto n := by
  simp [Con.enc, AVal.upto, uptoL, Pat.map_upto]
theorem Con.map_upto (n : Nat) (l : List Con) : uptoL n (l.map Con.enc) := by
  rw [uptoL_iff]
  intro x hx
  obtain ⟨c, _, rfl⟩ := List.mem_map.1 hx
  exact c.enc_upto n
theorem Con.map_share (l : List Con) : (l.map Con.enc).map AVal.share = l.map Con.enc := by
  rw [List.map_map]
  rfl

theorem Data.fold (d : Data) : AVal.agg [.v (.string d.name), .v (.int .i64 d.params), .lst 2 (d.cons.map Con.enc) .sh] = d.enc := rfl
theorem Data.enc_cells (d : Data) : d.enc.cells = [.v (.string d.name), .v (.int .i64 d.params), .lst 2 (d.cons.map Con.enc) .sh] := rfl
theorem Data.enc_share (d : Data) : d.enc.share = d.enc := rfl
theorem Data.enc_flat (d : Data) : d.enc.flat := trivial
theorem Data.enc_upto (n : Nat) (d : Data) : d.enc.upto n := by
  simp [Data.enc, AVal.upto, uptoL, Con.map_upto]
theorem Data.map_upto (n : Nat) (l : List Data) : uptoL n (l.map Data.enc) := by
  rw [uptoL_iff]
  intro x hx
  obtain ⟨c, _, rfl⟩ := List.mem_map.1 hx
  exact c.enc_upto n
theorem Data.map_share (l : List Data) : (l.map Data.enc).map AVal.share = l.map Data.enc := by
  rw [List.map_map]
  rfl

abbrev eC (l : List Con) : AVal := .lst 2 (l.map Con.enc) .sh
abbrev eD (l : List Data) : AVal := .lst 3 (l.map Data.enc) .sh

end Go.Proofs.Ytakdmelemfnmdaa
end

section
/-
  The table of constructors as a list, and what memory tells of it.
-/
namespace Go.Proofs.Ytakdmelemfnmdaa
open Go.Av

/-- What the table tells of a constructor: its data type, its index, its number of fields. -/
structure K where
  data : Nat
  pos : Nat
  many : Nat

structure Tbl where
  datas : List Data
  cons : List (ByteArray × K)

def K.enc (k : K) : AVal := .agg [.v (.int .i64 k.data), .v (.int .i64 k.pos), .v (.int .i64 k.many)]
def entry (p : ByteArray × K) : Value × AVal := (.string p.1, p.2.enc)
def Tbl.enc (t : Tbl) : AVal := .agg [.lst 3 (t.datas.map Data.enc) .sh, .im .str (t.cons.map entry)]

def find : List (ByteArray × K) → ByteArray → Option K
  | [], _ => none
  | (n, k) :: r, s => if n = s then some k else find r s

theorem look_entry : ∀ (l : List (ByteArray × K)) (s : ByteArray), lookV (l.map entry) (.string s) = (find l s).map K.enc
  | [], _ => rfl
  | (n, k) :: r, s => by
    simp only [List.map_cons, entry, lookV, find, look_entry r s]
    have : eqKey (.string n) (.string s) = decide (n = s) := by
      simp [eqKey]
    rw [this]
    by_cases h : n = s <;> simp [h]

theorem put_entry : ∀ (l : List (ByteArray × K)) (s : ByteArray) (k : K), find l s = none → putV (l.map entry) (.string s) k.enc = (l ++ [(s, k)]).map entry
  | [], _, _, _ => rfl
  | (n, k') :: r, s, k, h => by
    simp only [find] at h
    split at h
    · cases h
    · rename_i hn
      have : eqKey (.string n) (.string s) = decide (n = s) := by
        simp [eqKey]
      simp only [List.map_cons, List.cons_append, entry, putV, this, hn, decide_false, Bool.false_eq_true, if_false]
      have ih := put_entry r s k h
      rw [ih]

theorem kt_9 : ktOf Try.prog 9 = some .str := by
  simp [ktOf, Try.underlying9]

theorem KT.ok_str (s : ByteArray) : KT.ok .str (.string s) = True := by simp [KT.ok]

theorem K.fold (k : K) : AVal.agg [.v (.int .i64 k.data), .v (.int .i64 k.pos), .v (.int .i64 k.many)] = k.enc := rfl
theorem K.enc_cells (k : K) : k.enc.cells = [.v (.int .i64 k.data), .v (.int .i64 k.pos), .v (.int .i64 k.many)] := rfl
theorem K.enc_flat (k : K) : k.enc.flat = True := rfl
theorem K.enc_share (k : K) : k.enc.share = k.enc := rfl
theorem Tbl.fold (t : Tbl) : AVal.agg [.lst 3 (t.datas.map Data.enc) .sh, .im .str (t.cons.map entry)] = t.enc := rfl
theorem Tbl.enc_cells (t : Tbl) : t.enc.cells = [.lst 3 (t.datas.map Data.enc) .sh, .im .str (t.cons.map entry)] := rfl
theorem Tbl.enc_flat (t : Tbl) : t.enc.flat = True := rfl
theorem Tbl.enc_share (t : Tbl) : t.enc.share = t.enc := rfl
theorem entry_upto (n : Nat) (l : List (ByteArray × K)) : uptoE n (l.map entry) := by
  rw [uptoE_iff]
  intro x hx
  obtain ⟨p, _, rfl⟩ := List.mem_map.1 hx
  simp [entry, K.enc, AVal.upto, uptoL]
theorem Tbl.enc_upto (n : Nat) (t : Tbl) : t.enc.upto n := by
  simp [Tbl.enc, AVal.upto, uptoL, Data.map_upto, entry_upto]

/-- What a look-up that finds nothing gives. -/
def K.zero : K := ⟨0, 0, 0⟩

theorem look_zero (l : List (ByteArray × K)) (s : ByteArray) (z : AVal) (hz : z = K.zero.enc) : ((find l s).map K.enc).getD z = ((find l s).getD K.zero).enc := by
  subst hz
  cases find l s <;> rfl

end Go.Proofs.Ytakdmelemfnmdaa
end

section
/-
  The laws of this program's types and trees, bound together: what the walks hand to simp. Nothing new is said here.
-/
set_option linter.defProp false
namespace Go.Proofs.Ytakdmelemfnmdaa
open Go.Av

/-- What computes with the types and trees of this program. -/
def vtab := And.intro @tab_1 <|
  And.intro @tab_2 <|
  And.intro @tab_3 <|
  And.intro @tab_4 <|
  And.intro @tab_5 <|
  And.intro @tab_6 <|
  And.intro @tab_7 <|
  And.intro @tab_8 <|
  And.intro @tab_9 <|
  And.intro @tab_10 <|
  And.intro @tab_11 <|
  And.intro @tab_12 <|
  And.intro @tab_13 <|
  And.intro @tab_14 <|
  And.intro @tab_15 <|
  And.intro @tab_16 <|
  And.intro @tab_17 <|
  And.intro @tab_18 <|
  And.intro @tab_19 <|
  And.intro @tab_21 <|
  And.intro @tab_22 <|
  And.intro @tab_23 <|
  And.intro @tab_24 <|
  And.intro @tab_25 <|
  And.intro @tab_26 <|
  And.intro @tab_28 <|
  And.intro @tab_29 <|
  And.intro @tab_30 <|
  And.intro @tab_31 <|
  And.intro @tab_32 <|
  And.intro @tab_34 <|
  And.intro @tab_35 <|
  And.intro @tab_36 <|
  And.intro @tab_37 <|
  And.intro @tab_38 <|
  And.intro @tab_39 <|
  And.intro @tab_40 <|
  And.intro @tab_42 <|
  And.intro @tab_43 <|
  And.intro @tab_44 <|
  And.intro @tab_45 <|
  And.intro @tab_46 <|
  And.intro @tab_47 <|
  And.intro @tab_48 <|
  And.intro @tab_49 <|
  And.intro @tab_50 <|
  And.intro @tab_51 <|
  And.intro @tab_52 <|
  And.intro @tab_53 <|
  And.intro @tab_55 <|
  And.intro @tab_56 <|
  And.intro @tab_57 <|
  And.intro @tab_58 <|
  And.intro @tab_59 <|
  And.intro @tab_60 <|
  And.intro @tab_61 <|
  And.intro @tab_62 <|
  And.intro @tab_63 <|
  And.intro @tab_64 <|
  And.intro @tab_65 <|
  And.intro @tab_67 <|
  And.intro @tab_69 <|
  And.intro @tab_70 <|
  And.intro @tab_71 <|
  And.intro @tab_73 <|
  And.intro @tab_74 <|
  And.intro @tab_75 <|
  And.intro @tab_76 <|
  And.intro @tab_77 <|
  And.intro @tab_78 <|
  And.intro @tab_79 <|
  And.intro @tab_80 <|
  And.intro @tab_81 <|
  And.intro @tab_82 <|
  And.intro @tab_83 <|
  And.intro @tab_84 <|
  And.intro @tab_86 <|
  And.intro @tab_87 <|
  And.intro @tab_88 <|
  And.intro @tab_89 <|
  And.intro @tab_90 <|
  And.intro @tab_91 <|
  And.intro @tab_92 <|
  And.intro @tab_93 <|
  And.intro @tab_94 <|
  And.intro @tab_95 <|
  And.intro @tab_96 <|
  And.intro @tab_97 <|
  And.intro @tab_98 <|
  And.intro @tab_99 <|
  And.intro @tab_100 <|
  And.intro @tab_101 <|
  And.intro @tab_102 <|
  And.intro @tab_103 <|
  And.intro @tab_104 <|
  And.intro @tab_105 <|
  And.intro @tab_106 <|
  And.intro @tab_107 <|
  And.intro @tab_108 <|
  And.intro @tab_109 <|
  And.intro @tab_110 <|
  And.intro @tab_111 <|
  And.intro @tab_112 <|
  And.intro @tab_113 <|
  And.intro @tab_114 <|
  And.intro @tab_115 <|
  And.intro @tab_116 <|
  And.intro @tab_117 <|
  And.intro @tab_118 <|
  And.intro @tab_120 <|
  And.intro @tab_121 <|
  And.intro @tab_122 <|
  And.intro @tab_123 <|
  And.intro @tab_124 <|
  And.intro @tab_125 <|
  And.intro @tab_126 <|
  And.intro @tab_127 <|
  And.intro @tab_128 <|
  And.intro @tab_129 <|
  And.intro @tab_130 <|
  And.intro @tab_131 <|
  And.intro @tab_132 <|
  And.intro @tab_133 <|
  And.intro @tab_134 <|
  And.intro @tab_135 <|
  And.intro @tab_136 <|
  And.intro @tab_137 <|
  And.intro @tab_141 <|
  And.intro @tab_142 <|
  And.intro @tab_143 <|
  And.intro @tab_144 <|
  And.intro @tab_145 <|
  And.intro @tab_146 <|
  And.intro @tab_147 <|
  And.intro @tab_148 <|
  And.intro @tab_149 <|
  And.intro @tab_150 <|
  And.intro @tab_151 <|
  And.intro @tab_152 <|
  And.intro @Pat.enc_cells <|
  And.intro @Pat.fold <|
  And.intro @Pat.enc_share <|
  And.intro @Pat.map_share <|
  And.intro @Pat.enc_upto <|
  And.intro @Pat.map_upto <|
  And.intro @Pat.enc_flat <|
  And.intro @Con.enc_cells <|
  And.intro @Con.fold <|
  And.intro @Con.enc_share <|
  And.intro @Con.map_share <|
  And.intro @Con.enc_upto <|
  And.intro @Con.map_upto <|
  And.intro @Con.enc_flat <|
  And.intro @Data.enc_cells <|
  And.intro @Data.fold <|
  And.intro @Data.enc_share <|
  And.intro @Data.map_share <|
  And.intro @Data.enc_upto <|
  And.intro @Data.map_upto <|
  And.intro @Data.enc_flat <|
  And.intro @K.enc_cells <|
  And.intro @K.enc_flat <|
  And.intro @K.enc_share <|
  And.intro @Tbl.enc_cells <|
  And.intro @Tbl.enc_flat <|
  And.intro @Tbl.enc_share <|
  And.intro @Tbl.fold <|
  And.intro @kt_9 <|
  And.intro @KT.ok_str <|
  @look_entry

/-- What computes with values, bound together; with what no value speaks of objects. -/
def zp := And.intro vpos <| And.intro @ne_eq.{1} <| And.intro @implies_true.{0} <| And.intro @implies_true.{1} <| vtab
def zt := And.intro and_true <| And.intro true_and and_self
def zu := And.intro @Pat.enc_upto <| And.intro @Pat.map_upto <| And.intro @Con.enc_upto <| And.intro @Con.map_upto <| And.intro @Data.enc_upto <| And.intro @Data.map_upto <| And.intro @Tbl.enc_upto <| @entry_upto

/-! Short names of the steps. -/
theorem zg0 {kb : Nat} {id : Nat} {l : List Oper} {draw : Bool} {Q : AEx → St → Prop} {σ : St} (h : vcOps Try.prog tab ⟨false, false⟩ l 0 [] σ [] fun τ ks => Draws draw (fun _ => OrderOK l.toArray ks.reverse) ∧ At τ (Q .norm)) : AWP Try.prog kb (.region id l.toArray draw) Q σ := awp_region_any _ hT hm h
theorem zg1 {kb : Nat} {id : Nat} {l : List Oper} {draw : Bool} {Q : AEx → St → Prop} {σ : St} {x : Code} (h : vcOps Try.prog tab ⟨false, false⟩ l 0 [] σ [] fun τ ks => Draws draw (fun _ => OrderOK l.toArray ks.reverse) ∧ At τ (seqPost Try.prog kb x Q .norm)) : AWP Try.prog kb (.seq (.region id l.toArray draw) x) Q σ := awp_seq (zg0 h)
theorem zg2 {kb : Nat} {id : Nat} {l : List Oper} {draw : Bool} {Q : AEx → St → Prop} {σ : St} {x y : Code} (h : vcOps Try.prog tab ⟨false, false⟩ l 0 [] σ [] fun τ ks => Draws draw (fun _ => OrderOK l.toArray ks.reverse) ∧ At τ (seqPost Try.prog kb x (seqPost Try.prog kb y Q) .norm)) : AWP Try.prog kb (.seq (.seq (.region id l.toArray draw) x) y) Q σ := awp_seq (zg1 h)
theorem zg3 {kb : Nat} {id : Nat} {l : List Oper} {draw : Bool} {Q : AEx → St → Prop} {σ : St} {x y z : Code} (h : vcOps Try.prog tab ⟨false, false⟩ l 0 [] σ [] fun τ ks => Draws draw (fun _ => OrderOK l.toArray ks.reverse) ∧ At τ (seqPost Try.prog kb x (seqPost Try.prog kb y (seqPost Try.prog kb z Q)) .norm)) : AWP Try.prog kb (.seq (.seq (.seq (.region id l.toArray draw) x) y) z) Q σ := awp_seq (zg2 h)
theorem zm0 {kb : Nat} {id : Nat} {l : List Oper} {draw : Bool} {Q : AEx → St → Prop} {σ : St} (h : vcOps Try.prog tab ⟨true, false⟩ l 0 [] σ [] fun τ ks => Draws draw (fun _ => OrderOK l.toArray ks.reverse) ∧ At τ (Q .norm)) : AWP Try.prog kb (.region id l.toArray draw) Q σ := awp_region_any _ hT hm h
theorem zm1 {kb : Nat} {id : Nat} {l : List Oper} {draw : Bool} {Q : AEx → St → Prop} {σ : St} {x : Code} (h : vcOps Try.prog tab ⟨true, false⟩ l 0 [] σ [] fun τ ks => Draws draw (fun _ => OrderOK l.toArray ks.reverse) ∧ At τ (seqPost Try.prog kb x Q .norm)) : AWP Try.prog kb (.seq (.region id l.toArray draw) x) Q σ := awp_seq (zm0 h)
theorem zm2 {kb : Nat} {id : Nat} {l : List Oper} {draw : Bool} {Q : AEx → St → Prop} {σ : St} {x y : Code} (h : vcOps Try.prog tab ⟨true, false⟩ l 0 [] σ [] fun τ ks => Draws draw (fun _ => OrderOK l.toArray ks.reverse) ∧ At τ (seqPost Try.prog kb x (seqPost Try.prog kb y Q) .norm)) : AWP Try.prog kb (.seq (.seq (.region id l.toArray draw) x) y) Q σ := awp_seq (zm1 h)
theorem zm3 {kb : Nat} {id : Nat} {l : List Oper} {draw : Bool} {Q : AEx → St → Prop} {σ : St} {x y z : Code} (h : vcOps Try.prog tab ⟨true, false⟩ l 0 [] σ [] fun τ ks => Draws draw (fun _ => OrderOK l.toArray ks.reverse) ∧ At τ (seqPost Try.prog kb x (seqPost Try.prog kb y (seqPost Try.prog kb z Q)) .norm)) : AWP Try.prog kb (.seq (.seq (.seq (.region id l.toArray draw) x) y) z) Q σ := awp_seq (zm2 h)
theorem zv0 {kb : Nat} {id : Nat} {l : List Oper} {draw : Bool} {Q : AEx → St → Prop} {σ : St} (h : vcOps Try.prog tab ⟨false, true⟩ l 0 [] σ [] fun τ ks => Draws draw (fun _ => OrderOK l.toArray ks.reverse) ∧ At τ (Q .norm)) : AWP Try.prog kb (.region id l.toArray draw) Q σ := awp_region_any _ hT hm h
theorem zv1 {kb : Nat} {id : Nat} {l : List Oper} {draw : Bool} {Q : AEx → St → Prop} {σ : St} {x : Code} (h : vcOps Try.prog tab ⟨false, true⟩ l 0 [] σ [] fun τ ks => Draws draw (fun _ => OrderOK l.toArray ks.reverse) ∧ At τ (seqPost Try.prog kb x Q .norm)) : AWP Try.prog kb (.seq (.region id l.toArray draw) x) Q σ := awp_seq (zv0 h)
theorem zv2 {kb : Nat} {id : Nat} {l : List Oper} {draw : Bool} {Q : AEx → St → Prop} {σ : St} {x y : Code} (h : vcOps Try.prog tab ⟨false, true⟩ l 0 [] σ [] fun τ ks => Draws draw (fun _ => OrderOK l.toArray ks.reverse) ∧ At τ (seqPost Try.prog kb x (seqPost Try.prog kb y Q) .norm)) : AWP Try.prog kb (.seq (.seq (.region id l.toArray draw) x) y) Q σ := awp_seq (zv1 h)
theorem zv3 {kb : Nat} {id : Nat} {l : List Oper} {draw : Bool} {Q : AEx → St → Prop} {σ : St} {x y z : Code} (h : vcOps Try.prog tab ⟨false, true⟩ l 0 [] σ [] fun τ ks => Draws draw (fun _ => OrderOK l.toArray ks.reverse) ∧ At τ (seqPost Try.prog kb x (seqPost Try.prog kb y (seqPost Try.prog kb z Q)) .norm)) : AWP Try.prog kb (.seq (.seq (.seq (.region id l.toArray draw) x) y) z) Q σ := awp_seq (zv2 h)
theorem zk0 {kb : Nat} {c : Operand} {x y : Code} {Q : AEx → St → Prop} {σ : St} {b : Bool} (hc : σ.ev c = some (.v (.bool b))) (ht : b = true → AWP Try.prog kb x Q σ) (hf : b = false → AWP Try.prog kb y Q σ) : AWP Try.prog kb (.cond c x y) Q σ := awp_cond hc ht hf
theorem zk1 {kb : Nat} {c : Operand} {x y z : Code} {Q : AEx → St → Prop} {σ : St} {b : Bool} (hc : σ.ev c = some (.v (.bool b))) (ht : b = true → AWP Try.prog kb x (seqPost Try.prog kb z Q) σ) (hf : b = false → AWP Try.prog kb y (seqPost Try.prog kb z Q) σ) : AWP Try.prog kb (.seq (.cond c x y) z) Q σ := awp_seq (awp_cond hc ht hf)
theorem zk2 {kb : Nat} {c : Operand} {x y z w : Code} {Q : AEx → St → Prop} {σ : St} {b : Bool} (hc : σ.ev c = some (.v (.bool b))) (ht : b = true → AWP Try.prog kb x (seqPost Try.prog kb z (seqPost Try.prog kb w Q)) σ) (hf : b = false → AWP Try.prog kb y (seqPost Try.prog kb z (seqPost Try.prog kb w Q)) σ) :
    AWP Try.prog kb (.seq (.seq (.cond c x y) z) w) Q σ := awp_seq (awp_seq (awp_cond hc ht hf))

end Go.Proofs.Ytakdmelemfnmdaa
end

section
/-
  What the statement's reading tells of data types and rows of patterns, as trees.
-/
namespace Go.Proofs.Ytakdmelemfnmdaa
open Go.Av

theorem cells30 : Try.prog.cellsOf 30 = 4 := by kernel_rfl
theorem cells152 : Try.prog.cellsOf 152 = 4 := by kernel_rfl
theorem cells25 : Try.prog.cellsOf 25 = 1 := by kernel_rfl
theorem cells59 : Try.prog.cellsOf 59 = 2 := by kernel_rfl
theorem cells62 : Try.prog.cellsOf 62 = 3 := by kernel_rfl
theorem agg30 : aggT Try.prog 30 = true := by kernel_rfl
theorem agg152 : aggT Try.prog 152 = true := by kernel_rfl
theorem agg25 : aggT Try.prog 25 = false := by kernel_rfl
theorem agg59 : aggT Try.prog 59 = true := by kernel_rfl
theorem agg62 : aggT Try.prog 62 = true := by kernel_rfl

theorem pat_told (n : Nat) : ∀ (x : List AVal), Shp Try.prog n 30 x → ∃ p : Pat, x = p.enc.cells := by
    induction n using Nat.strongRecOn with
    | _ n ih =>
    intro x h
    obtain ⟨m, rfl, hc⟩ := h.struct Try.underlying30
    simp only [List.map_cons, List.map_nil, Cat] at hc
    obtain ⟨a, b, rfl, h1, c, d, rfl, h2, e, f, rfl, h3, g, i, rfl, h4, rfl⟩ := hc
    obtain ⟨k, rfl, _⟩ := h1.int Try.underlying3
    obtain ⟨s, rfl, _⟩ := h2.string Try.underlying9
    obtain ⟨q, rfl, _⟩ := h3.int Try.underlying3
    obtain ⟨l, rfl, _⟩ := h4.list (f := Pat.enc) Try.underlying25 fun j hj y hy => by
      obtain ⟨p, hp⟩ := ih j (by omega) y hy
      exact ⟨p, by rw [mkE, agg30, if_pos rfl, hp, p.agg_cells]⟩
    refine ⟨.mk k s q l, ?_⟩
    rw [Pat.enc_cells, cells30]
    rfl

theorem type_told (n : Nat) : ∀ (x : List AVal), Shp Try.prog n 152 x → ∃ p : Pat, x = p.enc.cells := by
    induction n using Nat.strongRecOn with
    | _ n ih =>
    intro x h
    obtain ⟨m, rfl, hc⟩ := h.struct Try.underlying152
    simp only [List.map_cons, List.map_nil, Cat] at hc
    obtain ⟨a, b, rfl, h1, c, d, rfl, h2, e, f, rfl, h3, g, i, rfl, h4, rfl⟩ := hc
    obtain ⟨k, rfl, _⟩ := h1.int Try.underlying3
    obtain ⟨s, rfl, _⟩ := h2.string Try.underlying9
    obtain ⟨q, rfl, _⟩ := h3.int Try.underlying3
    obtain ⟨l, rfl, _⟩ := h4.list (f := Pat.enc) Try.underlying57 fun j hj y hy => by
      obtain ⟨p, hp⟩ := ih j (by omega) y hy
      exact ⟨p, by rw [mkE, agg152, if_pos rfl, hp, p.agg_cells]⟩
    refine ⟨.mk k s q l, ?_⟩
    rw [Pat.enc_cells, cells152]
    rfl

theorem pats_told {n : Nat} {x : List AVal} (h : Shp Try.prog n 25 x) : ∃ l : List Pat, x = [eR l] := by
  obtain ⟨l, rfl, _⟩ := h.list (f := Pat.enc) Try.underlying25 fun j hj y hy => by
    obtain ⟨p, hp⟩ := pat_told j y hy
    exact ⟨p, by rw [mkE, agg30, if_pos rfl, hp, p.agg_cells]⟩
  exact ⟨l, by rw [cells30]⟩

theorem rows_told {n : Nat} {a : AVal} (h : Shp Try.prog n 23 [a]) : ∃ l : List (List Pat), a = eRR l := by
  obtain ⟨l, e, _⟩ := h.list (f := eR) Try.underlying23 fun j hj y hy => by
    obtain ⟨p, hp⟩ := pats_told hy
    exact ⟨p, by rw [mkE, agg25, hp]; rfl⟩
  exact ⟨l, by rw [cells25] at e; simpa using e⟩

theorem bytes152 : Try.prog.bytesOf 152 = 56 := by kernel_rfl

theorem con_told {n : Nat} {x : List AVal} (h : Shp Try.prog n 59 x) : ∃ c : Con, x = c.enc.cells ∧ c.args.length ≤ 2513169434843 := by
  obtain ⟨m, rfl, hc⟩ := h.struct Try.underlying59
  simp only [List.map_cons, List.map_nil, Cat] at hc
  obtain ⟨a, b, rfl, h1, c, d, rfl, h2, rfl⟩ := hc
  obtain ⟨s, rfl, _⟩ := h1.string Try.underlying9
  obtain ⟨l, rfl, hb⟩ := h2.list (f := Pat.enc) Try.underlying57 fun j hj y hy => by
    obtain ⟨p, hp⟩ := type_told j y hy
    exact ⟨p, by rw [mkE, agg152, if_pos rfl, hp, p.agg_cells]⟩
  rw [bytes152, reachBytes] at hb
  exact ⟨⟨s, l⟩, by rw [Con.enc_cells, cells152]; rfl, by show l.length ≤ _; omega⟩

theorem data_told {n : Nat} {x : List AVal} (h : Shp Try.prog n 62 x) : ∃ c : Data, x = c.enc.cells ∧ ∀ k ∈ c.cons, k.args.length ≤ 2513169434843 := by
  obtain ⟨m, rfl, hc⟩ := h.struct Try.underlying62
  simp only [List.map_cons, List.map_nil, Cat] at hc
  obtain ⟨a, b, rfl, h1, c, d, rfl, h2, e, f, rfl, h3, rfl⟩ := hc
  obtain ⟨s, rfl, _⟩ := h1.string Try.underlying9
  obtain ⟨k, rfl, _⟩ := h2.int Try.underlying3
  obtain ⟨l, rfl, _, hq⟩ := h3.listQ (f := Con.enc) (Q := fun k => k.args.length ≤ 2513169434843) Try.underlying60 fun j hj y hy => by
    obtain ⟨p, hp, hb⟩ := con_told hy
    exact ⟨p, by rw [mkE, agg59, if_pos rfl, hp]; rfl, hb⟩
  exact ⟨⟨s, k, l⟩, by rw [Data.enc_cells, cells59]; rfl, hq⟩

theorem datas_told {n : Nat} {a : AVal} (h : Shp Try.prog n 22 [a]) : ∃ l : List Data, a = eD l ∧ ∀ d ∈ l, ∀ k ∈ d.cons, k.args.length ≤ 2513169434843 := by
  obtain ⟨l, e, _, hq⟩ := h.listQ (f := Data.enc) (Q := fun d => ∀ k ∈ d.cons, k.args.length ≤ 2513169434843) Try.underlying22 fun j hj y hy => by
    obtain ⟨p, hp, hb⟩ := data_told hy
    exact ⟨p, by rw [mkE, agg62, if_pos rfl, hp]; rfl, hb⟩
  exact ⟨l, by rw [cells62] at e; simpa using e, hq⟩

theorem pats_told1 {n : Nat} {a : AVal} (h : Shp Try.prog n 25 [a]) : ∃ l : List Pat, a = eR l := by
  obtain ⟨l, e⟩ := pats_told h
  exact ⟨l, by simpa using e⟩

theorem int_told {n : Nat} {a : AVal} (h : Shp Try.prog n 3 [a]) : ∃ m : Int, a = .v (.int .i64 m) ∧ IntKind.min .i64 ≤ m ∧ m ≤ IntKind.max .i64 := by
  obtain ⟨m, e, h1⟩ := h.int Try.underlying3
  exact ⟨m, by simpa using e, h1⟩

def covT : List TypeId := [3, 9, 22, 23, 25, 30, 57, 59, 60, 62, 152]
theorem cov : covB Try.prog covT = true := by kernel_rfl
theorem laid : laidOutB Try.prog = true := by kernel_rfl

end Go.Proofs.Ytakdmelemfnmdaa
end

section
/-
  Rows that a statement reads are not too many for memory.
-/
namespace Go.Proofs.Ytakdmelemfnmdaa
open Go.Av

theorem bytes25 : Try.prog.bytesOf 25 = 24 := by kernel_rfl

theorem rows_told_fit {n : Nat} {a : AVal} (h : Shp Try.prog n 23 [a]) : ∃ l : List (List Pat), a = eRR l ∧ l.length * 24 ≤ 140737488351232 := by
  obtain ⟨l, e, hb⟩ := h.list (f := eR) Try.underlying23 fun j hj y hy => by
    obtain ⟨p, hp⟩ := pats_told hy
    exact ⟨p, by rw [mkE, agg25, hp]; rfl⟩
  rw [bytes25] at hb
  have hb : l.length * 24 ≤ 0x7ffffffff000 := hb
  exact ⟨l, by rw [cells25] at e; simpa using e, by omega⟩

end Go.Proofs.Ytakdmelemfnmdaa
end

section
set_option linter.unusedSimpArgs false
-- !tab vtab
namespace Go.Proofs.Ytakdmelemfnmdaa
open Go.Av

def Pat.free (p : Pat) : Bool := decide (p.kind = 0) || decide (p.kind = 1)

theorem free_spec (p : Pat) : PCall Try.prog 48 [p.enc] (.v (.bool p.free)) := by
 refine ecall_of hT true 0 Try.func48 rfl (by kernel_rfl) (by simp [Try.ntmps48]) (by simp) ?_
 show AWP Try.prog _ _ _ ⟨11, _, _⟩
 dsimp only [Tmp, TypeId, slotsOf]
 first | refine zg1 ?_ | refine zg0 ?_ | refine zg2 ?_ | refine zg3 ?_
 simp -dsimp only [simprocAttr, ↓vpre, zp]
 refine at_intro ?_
 simp -dsimp only [vend, ne_eq, Nat.reduceEqDiff, reduceCtorEq]
 first | refine zg1 ?_ | refine zg0 ?_ | refine zg2 ?_ | refine zg3 ?_
 simp -dsimp only [simprocAttr, ↓vpre, zp]
 refine vcIf_split (fun h => ?_) (fun h => ?_)
 ·simp -dsimp only [simprocAttr, ↓vpre, zp, h]
  refine at_intro ?_
  simp -dsimp only [vend, ne_eq, Nat.reduceEqDiff, reduceCtorEq]
  refine awp_ret ?_
  simp -dsimp only [simprocAttr, ↓vpre, zp, RetTo, Try.results48, retVals, retVal, mkRet, AVal.upto, Nat.zero_le, Nat.le_refl, seqPost_ret, blockPost_ret, loopPost_ret]
  simp_all [Pat.free]
 ·simp -dsimp only [simprocAttr, ↓vpre, zp, h]
  refine at_intro ?_
  simp -dsimp only [vend, ne_eq, Nat.reduceEqDiff, reduceCtorEq]
  refine awp_ret ?_
  simp -dsimp only [simprocAttr, ↓vpre, zp, RetTo, Try.results48, retVals, retVal, mkRet, AVal.upto, Nat.zero_le, Nat.le_refl, seqPost_ret, blockPost_ret, loopPost_ret]
  simp_all [Pat.free]
end Go.Proofs.Ytakdmelemfnmdaa
end

section
set_option linter.unusedSimpArgs false
-- !tab vtab
-- !upto Pat.enc_upto Pat.map_upto
namespace Go.Proofs.Ytakdmelemfnmdaa
open Go.Av

def firsts : List (List Pat) → List Pat
 | [] => []
 | [] :: r => firsts r
 | (p :: _) :: r => if p.free then firsts r else p :: firsts r

theorem firsts_len : ∀ rows : List (List Pat), (firsts rows).length ≤ rows.length
 | [] => by simp [firsts]
 | [] :: r => by
  have := firsts_len r
  simp [firsts]
  omega
 | (p :: _) :: r => by
  have := firsts_len r
  simp only [firsts]
  split <;> simp <;> omega

theorem firsts_append : ∀ a b : List (List Pat), firsts (a ++ b) = firsts a ++ firsts b
 | [], b => by simp [firsts]
 | [] :: r, b => by simp [firsts, firsts_append r b]
 | (p :: _) :: r, b => by
  simp only [List.cons_append, firsts, firsts_append r b]
  split <;> simp

theorem take_next {α : Type} {l : List α} {k : Nat} {x : α} (h : l[k]? = some x) : l.take (k + 1) = l.take k ++ [x] := by
 rw [List.take_add_one, h]
 rfl

theorem first_spec (rows : List (List Pat)) (hb : rows.length ≤ 2 ^ 30) (hne : ∀ r ∈ rows, r ≠ []) : PCall Try.prog 42 [eRR rows] (eR (firsts rows)) := by
 refine ecall_of hT true 0 Try.func42 rfl (by kernel_rfl) (by simp [Try.ntmps42]) (by simp) ?_
 show AWP Try.prog _ _ _ ⟨25, _, _⟩
 dsimp only [Tmp, TypeId, slotsOf]
 first | refine zg1 ?_ | refine zg0 ?_ | refine zg2 ?_ | refine zg3 ?_
 simp -dsimp only [simprocAttr, ↓vpre, zp]
 refine at_intro ?_
 simp -dsimp only [vend, ne_eq, Nat.reduceEqDiff, reduceCtorEq]
 first | refine zg1 ?_ | refine zg0 ?_ | refine zg2 ?_ | refine zg3 ?_
 simp -dsimp only [simprocAttr, ↓vpre, zp]
 refine at_intro ?_
 simp -dsimp only [vend, ne_eq, Nat.reduceEqDiff, reduceCtorEq]
 first | refine zg1 ?_ | refine zg0 ?_ | refine zg2 ?_ | refine zg3 ?_
 simp -dsimp only [simprocAttr, ↓vpre, zp]
 refine at_intro ?_
 simp -dsimp only [vend, ne_eq, Nat.reduceEqDiff, reduceCtorEq]
 refine awp_own 3 rfl ?_
 simp -dsimp only [simprocAttr, ↓vpre, zp]
 refine awp_len 0 rfl (fun hlen => ?_)
 first | refine awp_block (awp_loop (ι := {k : Nat // k ≤ rows.length}) (fun k => ⟨25, [(6, eRR rows), (7, .v (.int .i64 rows.length)), (8, .v (.int .i64 k)), (3, .lst 4 ((firsts (rows.take k)).map Pat.enc) (.tok 0))], [.spare (firsts (rows.take k)).length]⟩) (fun k => rows.length - k) ⟨0, by omega⟩ ?_ ?_) | refine awp_seq (awp_block (awp_loop (ι := {k : Nat // k ≤ rows.length}) (fun k => ⟨25, [(6, eRR rows), (7, .v (.int .i64 rows.length)), (8, .v (.int .i64 k)), (3, .lst 4 ((firsts (rows.take k)).map Pat.enc) (.tok 0))], [.spare (firsts (rows.take k)).length]⟩) (fun k => rows.length - k) ⟨0, by omega⟩ ?_ ?_))
 ·refine ⟨rfl, ?_, ?_⟩
  rotate_left
  simp -dsimp only [simprocAttr, ↓vpre, zp, Says, exists_eq_left', Option.some.injEq, sub_self, and_assoc, true_and, and_true]
  ·exact Sub.lst (by simp [firsts])
  ·simp [firsts]
 ·rintro ⟨k, hk⟩
  first | refine zg1 ?_ | refine zg0 ?_ | refine zg2 ?_ | refine zg3 ?_
  simp -dsimp only [simprocAttr, ↓vpre, zp]
  refine at_intro ?_
  simp -dsimp only [vend, ne_eq, Nat.reduceEqDiff, reduceCtorEq]
  first | refine zk1 rfl (fun h => ?_) (fun h => ?_) | refine zk0 rfl (fun h => ?_) (fun h => ?_) | refine zk2 rfl (fun h => ?_) (fun h => ?_)
  ·refine awp_skip ?_
   simp -dsimp only [vend, ne_eq, Nat.reduceEqDiff, reduceCtorEq]
   have hlt : k < rows.length := by simpa using h
   obtain ⟨r, hr⟩ : ∃ r, rows[k]? = some r := ⟨rows[k], by simp [hlt]⟩
   first | refine awp_seq (awp_block ?_) | refine awp_block ?_
   first | refine zg1 ?_ | refine zg0 ?_ | refine zg2 ?_ | refine zg3 ?_
   simp -dsimp only [simprocAttr, ↓vpre, zp, hr]
   refine at_intro ?_
   simp -dsimp only [vend, ne_eq, Nat.reduceEqDiff, reduceCtorEq]
   obtain ⟨p, r', rfl⟩ : ∃ p r', r = p :: r' := List.exists_cons_of_ne_nil (hne r (List.mem_of_getElem? hr))
   first | refine zg1 ?_ | refine zg0 ?_ | refine zg2 ?_ | refine zg3 ?_
   simp -dsimp only [simprocAttr, ↓vpre, zp]
   refine .inl ⟨_, free_spec p, by first | (simp only [uptoL, AVal.upto, zt, zu]; done) | (simp [uptoL, AVal.upto, zu]; done), later_intro ?_⟩
   simp -dsimp only [simprocAttr, ↓vpre, zp]
   refine at_intro ?_
   simp -dsimp only [vend, ne_eq, Nat.reduceEqDiff, reduceCtorEq]
   first | refine zk1 rfl (fun h => ?_) (fun h => ?_) | refine zk0 rfl (fun h => ?_) (fun h => ?_) | refine zk2 rfl (fun h => ?_) (fun h => ?_)
   ·have hf := firsts_len (rows.take k)
    simp only [List.length_take] at hf
    first | refine zg1 ?_ | refine zg0 ?_ | refine zg2 ?_ | refine zg3 ?_
    simp -dsimp only [simprocAttr, ↓vpre, zp]
    refine ⟨by omega, by omega, ?_⟩
    refine at_intro ?_
    simp -dsimp only [vend, ne_eq, Nat.reduceEqDiff, reduceCtorEq]
    first | refine zg1 ?_ | refine zg0 ?_ | refine zg2 ?_ | refine zg3 ?_
    simp -dsimp only [simprocAttr, ↓vpre, zp]
    refine ⟨by omega, by omega, ?_⟩
    refine at_intro ?_
    simp -dsimp only [vend, ne_eq, Nat.reduceEqDiff, reduceCtorEq]
    refine ⟨⟨k + 1, hlt⟩, by simp; omega, ?_⟩
    have e : firsts (rows.take (k + 1)) = firsts (rows.take k) ++ [p] := by
     have : p.free = false := by simpa using h
     simp [take_next hr, firsts_append, firsts, this]
    refine ⟨rfl, ?_, ?_⟩
    rotate_left
    simp -dsimp only [simprocAttr, ↓vpre, zp, Says, exists_eq_left', Option.some.injEq, sub_self, and_assoc, true_and, and_true]
    ·exact ⟨Sub.int (by simp), Sub.lst (by simp [e])⟩
    ·simp [e]
   ·refine awp_skip ?_
    simp -dsimp only [vend, ne_eq, Nat.reduceEqDiff, reduceCtorEq]
    first | refine zg1 ?_ | refine zg0 ?_ | refine zg2 ?_ | refine zg3 ?_
    simp -dsimp only [simprocAttr, ↓vpre, zp]
    refine ⟨by omega, by omega, ?_⟩
    refine at_intro ?_
    simp -dsimp only [vend, ne_eq, Nat.reduceEqDiff, reduceCtorEq]
    refine ⟨⟨k + 1, hlt⟩, by simp; omega, ?_⟩
    have e : firsts (rows.take (k + 1)) = firsts (rows.take k) := by
     have : p.free = true := by simpa using h
     simp [take_next hr, firsts_append, firsts, this]
    refine ⟨rfl, ?_, ?_⟩
    rotate_left
    simp -dsimp only [simprocAttr, ↓vpre, zp, Says, exists_eq_left', Option.some.injEq, sub_self, and_assoc, true_and, and_true]
    ·exact ⟨Sub.int (by simp), Sub.lst (by rw [e])⟩
    ·simp [e]
  ·refine awp_exit ?_
   simp -dsimp only [vend, ne_eq, Nat.reduceEqDiff, reduceCtorEq]
   have hlt : k = rows.length := by simp at h; omega
   subst hlt
   first | refine zg1 ?_ | refine zg0 ?_ | refine zg2 ?_ | refine zg3 ?_
   simp -dsimp only [simprocAttr, ↓vpre, zp]
   refine at_intro ?_
   simp -dsimp only [vend, ne_eq, Nat.reduceEqDiff, reduceCtorEq]
   refine awp_ret ?_
   simp -dsimp only [simprocAttr, ↓vpre, zp, RetTo, Try.results42, retVals, retVal, mkRet, AVal.upto, Nat.zero_le, Nat.le_refl, seqPost_ret, blockPost_ret, loopPost_ret, List.take_length]
end Go.Proofs.Ytakdmelemfnmdaa
end

section
set_option linter.unusedSimpArgs false
-- !tab vtab
-- !upto Pat.enc_upto Pat.map_upto
namespace Go.Proofs.Ytakdmelemfnmdaa
open Go.Av

/-- The pattern that matches everything. -/
def Pat.any : Pat := .mk 0 ByteArray.empty 0 []

theorem flatten_rep_any (n : Nat) : ((List.replicate n [AVal.v (.int .i64 0), .v (.string ByteArray.empty), .v (.int .i64 0), .lst 4 [] .ex]).flatten).map AVal.shareCell = cellsAll (List.replicate n Pat.any.enc) := by
 induction n with
 | zero => rfl
 | succ n ih =>
  simp only [List.replicate_succ, List.flatten_cons, List.map_append, ih, cellsAll, List.flatMap_cons]
  rfl

theorem anys_spec (n : Nat) (hn : n ≤ 2513169434843) : PCall Try.prog 49 [.v (.int .i64 n)] (eR (List.replicate n Pat.any)) := by
 refine ecall_of hT true 0 Try.func49 rfl (by kernel_rfl) (by simp [Try.ntmps49]) (by simp) ?_
 show AWP Try.prog _ _ _ ⟨5, _, _⟩
 dsimp only [Tmp, TypeId, slotsOf]
 first | refine zg1 ?_ | refine zg0 ?_ | refine zg2 ?_ | refine zg3 ?_
 simp -dsimp only [simprocAttr, ↓vpre, zp]
 refine at_intro ?_
 simp -dsimp only [vend, ne_eq, Nat.reduceEqDiff, reduceCtorEq]
 first | refine zg1 ?_ | refine zg0 ?_ | refine zg2 ?_ | refine zg3 ?_
 simp -dsimp only [simprocAttr, ↓vpre, zp]
 refine ⟨by omega, by omega, ?_⟩
 refine at_intro ?_
 simp -dsimp only [vend, ne_eq, Nat.reduceEqDiff, reduceCtorEq]
 refine awp_freeze1 2 0 (.lst 4 (List.replicate n Pat.any.enc) .sh) rfl (by simp [AObj.isSpare]) trivial rfl ?_ ?_
 rotate_left
 simp -dsimp only [simprocAttr, ↓vpre, zp]
 ·refine awp_ret ?_
  simp -dsimp only [simprocAttr, ↓vpre, zp, RetTo, Try.results49, retVals, retVal, mkRet, AVal.upto, Nat.zero_le, Nat.le_refl, seqPost_ret, blockPost_ret, loopPost_ret, List.map_replicate]
  exact ⟨by simpa [List.map_replicate] using Pat.map_upto 0 (List.replicate n Pat.any), by simp [eR, List.map_replicate]⟩
 ·refine FSub.ms rfl ?_ (by simp) ?_
  ·simp [Pat.enc_cells]
  ·rw [← flatten_rep_any, List.drop_zero, List.take_of_length_le (by simp)]

def idx {α : Type} (f : α → Bool) (l : List α) : Int := match l.findIdx? f with | some k => (k : Int) | none => -1

theorem idx_some {α : Type} {f : α → Bool} {l : List α} {k : Nat} {p : α} (h : l[k]? = some p) (hp : f p = true) (hall : ∀ j q, j < k → l[j]? = some q → f q = false) : idx f l = k := by
 have hlt := lt_of_getElem? h
 have : l.findIdx? f = some k := by
  rw [List.findIdx?_eq_some_iff_getElem]
  refine ⟨hlt, ?_, fun j hj => ?_⟩
  ·rw [List.getElem?_eq_getElem hlt] at h
   simp only [Option.some.injEq] at h
   rw [h]
   exact hp
  ·have := hall j l[j] hj (List.getElem?_eq_getElem (by omega))
   simp [this]
 simp [idx, this]

theorem idx_none {α : Type} {f : α → Bool} {l : List α} (hall : ∀ j q, j < l.length → l[j]? = some q → f q = false) : idx f l = -1 := by
 have : l.findIdx? f = none := by
  rw [List.findIdx?_eq_none_iff]
  intro x hx
  obtain ⟨j, hj⟩ := List.getElem?_of_mem hx
  exact hall j x (lt_of_getElem? hj) hj
 simp [idx, this]

theorem idx_any {α : Type} (f : α → Bool) (l : List α) : decide (0 ≤ idx f l) = l.any f := by
 unfold idx
 cases h : l.findIdx? f with
 | none =>
  rw [List.findIdx?_eq_none_iff] at h
  simp
  exact h
 | some k =>
  rw [List.findIdx?_eq_some_iff_getElem] at h
  obtain ⟨h1, h2, _⟩ := h
  simp
  exact ⟨l[k], by simp, h2⟩

theorem indexFunc_spec (f : Pat → Bool) (id : Nat) (fs cs : List AVal) (O : List AObj) (hO : ∀ o ∈ O, o.upto O.length) (l : List Pat)
  (hf : ∀ p ∈ l, ECall Try.prog id O (fs ++ [p.enc] ++ cs) fun r O' => r = .v (.bool (f p)) ∧ O' = O) :
  ECall Try.prog 51 O [eR l, .fn (.func id) fs cs] fun r O' => r = .v (.int .i64 (idx f l)) ∧ O' = O := by
 refine ecall_of hT true O.length Try.func51 rfl (by kernel_rfl) (by simp [Try.ntmps51]) (by simp) ?_
 show AWP Try.prog _ _ _ ⟨19, _, _⟩
 dsimp only [Tmp, TypeId, slotsOf]
 first | refine zg1 ?_ | refine zg0 ?_ | refine zg2 ?_ | refine zg3 ?_
 simp -dsimp only [simprocAttr, ↓vpre, zp]
 refine at_intro ?_
 simp -dsimp only [vend, ne_eq, Nat.reduceEqDiff, reduceCtorEq]
 refine awp_len 0 rfl (fun hlen => ?_)
 simp only [List.length_map] at hlen
 first | refine zg1 ?_ | refine zg0 ?_ | refine zg2 ?_ | refine zg3 ?_
 simp -dsimp only [simprocAttr, ↓vpre, zp]
 refine at_intro ?_
 simp -dsimp only [vend, ne_eq, Nat.reduceEqDiff, reduceCtorEq]
 first | refine awp_block (awp_loop (ι := {k : Nat // k ≤ l.length ∧ ∀ j p, j < k → l[j]? = some p → f p = false}) (fun k => ⟨19, [(0, eR l), (1, .fn (.func id) fs cs), (7, .v (.int .i64 l.length)), (8, .v (.int .i64 k.1))], O⟩) (fun k => l.length - k.1) ⟨0, by omega, by intros; omega⟩ ?_ ?_) | refine awp_seq (awp_block (awp_loop (ι := {k : Nat // k ≤ l.length ∧ ∀ j p, j < k → l[j]? = some p → f p = false}) (fun k => ⟨19, [(0, eR l), (1, .fn (.func id) fs cs), (7, .v (.int .i64 l.length)), (8, .v (.int .i64 k.1))], O⟩) (fun k => l.length - k.1) ⟨0, by omega, by intros; omega⟩ ?_ ?_))
 ·refine ⟨rfl, ?_, ?_⟩
  rotate_left
  simp -dsimp only [simprocAttr, ↓vpre, zp, Says, exists_eq_left', Option.some.injEq, sub_self, and_assoc, true_and, and_true]
  rfl
 ·rintro ⟨k, hk, hall⟩
  first | refine zg1 ?_ | refine zg0 ?_ | refine zg2 ?_ | refine zg3 ?_
  simp -dsimp only [simprocAttr, ↓vpre, zp]
  refine at_intro ?_
  simp -dsimp only [vend, ne_eq, Nat.reduceEqDiff, reduceCtorEq]
  first | refine zk1 rfl (fun h => ?_) (fun h => ?_) | refine zk0 rfl (fun h => ?_) (fun h => ?_) | refine zk2 rfl (fun h => ?_) (fun h => ?_)
  ·refine awp_skip ?_
   simp -dsimp only [vend, ne_eq, Nat.reduceEqDiff, reduceCtorEq]
   have hlt : k < l.length := by simpa using h
   obtain ⟨p, hp⟩ : ∃ p, l[k]? = some p := ⟨l[k], by simp [hlt]⟩
   have hmem := List.mem_of_getElem? hp
   first | refine awp_seq (awp_block ?_) | refine awp_block ?_
   first | refine zg1 ?_ | refine zg0 ?_ | refine zg2 ?_ | refine zg3 ?_
   simp -dsimp only [simprocAttr, ↓vpre, zp]
   refine at_intro ?_
   simp -dsimp only [vend, ne_eq, Nat.reduceEqDiff, reduceCtorEq]
   first | refine zg1 ?_ | refine zg0 ?_ | refine zg2 ?_ | refine zg3 ?_
   simp -dsimp only [simprocAttr, ↓vpre, zp, hp]
   refine .inr (.inr ⟨_, (hf p hmem), later_intro ?_⟩)
   simp -dsimp only [simprocAttr, ↓vpre, zp]
   refine at_intro ?_
   simp -dsimp only [vend, ne_eq, Nat.reduceEqDiff, reduceCtorEq]
   first | refine zk1 rfl (fun h => ?_) (fun h => ?_) | refine zk0 rfl (fun h => ?_) (fun h => ?_) | refine zk2 rfl (fun h => ?_) (fun h => ?_)
   ·first | refine zg1 ?_ | refine zg0 ?_ | refine zg2 ?_ | refine zg3 ?_
    simp -dsimp only [simprocAttr, ↓vpre, zp]
    refine at_intro ?_
    simp -dsimp only [vend, ne_eq, Nat.reduceEqDiff, reduceCtorEq]
    refine awp_ret ?_
    simp -dsimp only [simprocAttr, ↓vpre, zp, RetTo, Try.results51, retVals, retVal, mkRet, AVal.upto, Nat.zero_le, Nat.le_refl, seqPost_ret, blockPost_ret, loopPost_ret, List.take_length]
    rw [idx_some hp h hall]
    simpa using hO
   ·refine awp_skip ?_
    simp -dsimp only [vend, ne_eq, Nat.reduceEqDiff, reduceCtorEq]
    have hb : f p = false := by simpa using h
    first | refine zg1 ?_ | refine zg0 ?_ | refine zg2 ?_ | refine zg3 ?_
    simp -dsimp only [simprocAttr, ↓vpre, zp]
    refine ⟨by omega, by omega, ?_⟩
    refine at_intro ?_
    simp -dsimp only [vend, ne_eq, Nat.reduceEqDiff, reduceCtorEq]
    refine ⟨⟨k + 1, hlt, fun j q hj hq => ?_⟩, by simp; omega, ?_⟩
    ·rcases Nat.lt_succ_iff_lt_or_eq.1 hj with hj | hj
     ·exact hall j q hj hq
     ·subst hj
      rw [hp] at hq
      simp only [Option.some.injEq] at hq
      rw [← hq]
      exact hb
    refine ⟨rfl, ?_, ?_⟩
    rotate_left
    simp -dsimp only [simprocAttr, ↓vpre, zp, Says, exists_eq_left', Option.some.injEq, sub_self, and_assoc, true_and, and_true]
    ·exact Sub.int (by simp)
    ·rfl
  ·refine awp_exit ?_
   simp -dsimp only [vend, ne_eq, Nat.reduceEqDiff, reduceCtorEq]
   have hlt : k = l.length := by simp at h; omega
   subst hlt
   first | refine zg1 ?_ | refine zg0 ?_ | refine zg2 ?_ | refine zg3 ?_
   simp -dsimp only [simprocAttr, ↓vpre, zp]
   refine at_intro ?_
   simp -dsimp only [vend, ne_eq, Nat.reduceEqDiff, reduceCtorEq]
   refine awp_ret ?_
   simp -dsimp only [simprocAttr, ↓vpre, zp, RetTo, Try.results51, retVals, retVal, mkRet, AVal.upto, Nat.zero_le, Nat.le_refl, seqPost_ret, blockPost_ret, loopPost_ret, List.take_length]
   rw [idx_none hall]
   simpa using hO

end Go.Proofs.Ytakdmelemfnmdaa
end

section
set_option linter.unusedSimpArgs false
-- !tab vtab
-- !upto Pat.enc_upto Pat.map_upto
namespace Go.Proofs.Ytakdmelemfnmdaa
open Go.Av

theorem containsFunc_spec (f : Pat → Bool) (id : Nat) (fs cs : List AVal) (O : List AObj) (hO : ∀ o ∈ O, o.upto O.length) (l : List Pat)
  (hf : ∀ p ∈ l, ECall Try.prog id O (fs ++ [p.enc] ++ cs) fun r O' => r = .v (.bool (f p)) ∧ O' = O) :
  ECall Try.prog 75 O [eR l, .fn (.func id) fs cs] fun r O' => r = .v (.bool (l.any f)) ∧ O' = O := by
 refine ecall_of hT true O.length Try.func75 rfl (by kernel_rfl) (by simp [Try.ntmps75]) (by simp) ?_
 show AWP Try.prog _ _ _ ⟨9, _, _⟩
 dsimp only [Tmp, TypeId, slotsOf]
 first | refine zg1 ?_ | refine zg0 ?_ | refine zg2 ?_ | refine zg3 ?_
 simp -dsimp only [simprocAttr, ↓vpre, zp]
 refine at_intro ?_
 simp -dsimp only [vend, ne_eq, Nat.reduceEqDiff, reduceCtorEq]
 first | refine zg1 ?_ | refine zg0 ?_ | refine zg2 ?_ | refine zg3 ?_
 simp -dsimp only [simprocAttr, ↓vpre, zp]
 refine .inr (.inr ⟨_, (indexFunc_spec f id fs cs O hO l hf), later_intro ?_⟩)
 simp -dsimp only [simprocAttr, ↓vpre, zp]
 refine at_intro ?_
 simp -dsimp only [vend, ne_eq, Nat.reduceEqDiff, reduceCtorEq]
 refine awp_ret ?_
 simp -dsimp only [simprocAttr, ↓vpre, zp, RetTo, Try.results75, retVals, retVal, mkRet, AVal.upto, Nat.zero_le, Nat.le_refl, seqPost_ret, blockPost_ret, loopPost_ret, List.take_length]
 rw [idx_any]
 simpa using hO

theorem clone_nil (O : List AObj) (hO : ∀ o ∈ O, o.upto O.length) : ECall Try.prog 46 O [eR []] fun r O' => r = eR [] ∧ O' = O := by
 refine ecall_of hT true O.length Try.func46 rfl (by kernel_rfl) (by simp [Try.ntmps46]) (by simp) ?_
 show AWP Try.prog _ _ _ ⟨8, _, _⟩
 dsimp only [Tmp, TypeId, slotsOf]
 first | refine zg1 ?_ | refine zg0 ?_ | refine zg2 ?_ | refine zg3 ?_
 simp -dsimp only [simprocAttr, ↓vpre, zp]
 refine at_intro ?_
 simp -dsimp only [vend, ne_eq, Nat.reduceEqDiff, reduceCtorEq]
 refine awp_nilsplit 0 rfl (fun _ => ?_) ?_
 ·simp -dsimp only [simprocAttr, ↓vpre, zp]
  first | refine zg1 ?_ | refine zg0 ?_ | refine zg2 ?_ | refine zg3 ?_
  simp -dsimp only [simprocAttr, ↓vpre, zp]
  refine at_intro ?_
  simp -dsimp only [vend, ne_eq, Nat.reduceEqDiff, reduceCtorEq]
  first | refine zk1 rfl (fun h => ?_) (fun h => ?_) | refine zk0 rfl (fun h => ?_) (fun h => ?_) | refine zk2 rfl (fun h => ?_) (fun h => ?_)
  ·first | refine zg1 ?_ | refine zg0 ?_ | refine zg2 ?_ | refine zg3 ?_
   simp -dsimp only [simprocAttr, ↓vpre, zp]
   refine at_intro ?_
   simp -dsimp only [vend, ne_eq, Nat.reduceEqDiff, reduceCtorEq]
   refine awp_ret ?_
   simp -dsimp only [simprocAttr, ↓vpre, zp, RetTo, Try.results46, retVals, retVal, mkRet, AVal.upto, Nat.zero_le, Nat.le_refl, seqPost_ret, blockPost_ret, loopPost_ret, List.take_length]
   simpa [uptoL] using hO
  ·cases h
 ·simp -dsimp only [simprocAttr, ↓vpre, zp]
  first | refine zg1 ?_ | refine zg0 ?_ | refine zg2 ?_ | refine zg3 ?_
  simp -dsimp only [simprocAttr, ↓vpre, zp]
  refine at_intro ?_
  simp -dsimp only [vend, ne_eq, Nat.reduceEqDiff, reduceCtorEq]
  first | refine zk1 rfl (fun h => ?_) (fun h => ?_) | refine zk0 rfl (fun h => ?_) (fun h => ?_) | refine zk2 rfl (fun h => ?_) (fun h => ?_)
  ·cases h
  ·refine awp_skip ?_
   simp -dsimp only [vend, ne_eq, Nat.reduceEqDiff, reduceCtorEq]
   first | refine zg1 ?_ | refine zg0 ?_ | refine zg2 ?_ | refine zg3 ?_
   simp -dsimp only [simprocAttr, ↓vpre, zp]
   refine at_intro ?_
   simp -dsimp only [vend, ne_eq, Nat.reduceEqDiff, reduceCtorEq]
   refine awp_ret ?_
   simp -dsimp only [simprocAttr, ↓vpre, zp, RetTo, Try.results46, retVals, retVal, mkRet, AVal.upto, Nat.zero_le, Nat.le_refl, seqPost_ret, blockPost_ret, loopPost_ret]
   simpa [uptoL] using hO

theorem clone_spec (l : List Pat) (hl : l ≠ []) (hb : l.length ≤ 2 ^ 30) (O : List AObj) (hO : ∀ o ∈ O, o.upto (O.length + 1)) :
  ECall Try.prog 46 O [eR l] fun r O' => r = .ms O.length 0 l.length l.length ∧ O' = O ++ [.cells (cellsAll (l.map Pat.enc))] := by
 refine ecall_of hT true (O.length+1) Try.func46 rfl (by kernel_rfl) (by simp [Try.ntmps46]) (by simp) ?_
 show AWP Try.prog _ _ _ ⟨8, _, _⟩
 dsimp only [Tmp, TypeId, slotsOf]
 first | refine zg1 ?_ | refine zg0 ?_ | refine zg2 ?_ | refine zg3 ?_
 simp -dsimp only [simprocAttr, ↓vpre, zp]
 refine at_intro ?_
 simp -dsimp only [vend, ne_eq, Nat.reduceEqDiff, reduceCtorEq]
 refine awp_nilsplit 0 rfl (fun h => ?_) ?_
 ·exact absurd (List.map_eq_nil_iff.1 h) hl
 ·simp -dsimp only [simprocAttr, ↓vpre, zp]
  first | refine zg1 ?_ | refine zg0 ?_ | refine zg2 ?_ | refine zg3 ?_
  simp -dsimp only [simprocAttr, ↓vpre, zp]
  refine at_intro ?_
  simp -dsimp only [vend, ne_eq, Nat.reduceEqDiff, reduceCtorEq]
  first | refine zk1 rfl (fun h => ?_) (fun h => ?_) | refine zk0 rfl (fun h => ?_) (fun h => ?_) | refine zk2 rfl (fun h => ?_) (fun h => ?_)
  ·cases h
  ·refine awp_skip ?_
   simp -dsimp only [vend, ne_eq, Nat.reduceEqDiff, reduceCtorEq]
   first | refine zm1 ?_ | refine zm0 ?_ | refine zm2 ?_
   simp -dsimp only [simprocAttr, ↓vpre, zp]
   refine ⟨by omega, by omega, by simpa using hl, ?_⟩
   refine at_intro ?_
   simp -dsimp only [vend, ne_eq, Nat.reduceEqDiff, reduceCtorEq]
   refine awp_ret ?_
   simp -dsimp only [simprocAttr, ↓vpre, zp, RetTo, Try.results46, retVals, retVal, mkRet, AVal.upto, Nat.zero_le, Nat.le_refl, seqPost_ret, blockPost_ret, loopPost_ret]
   have e : ∀ x : AObj, (O ++ [x]).take (O.length + 1) = O ++ [x] := fun x => List.take_of_length_le (by simp)
   rw [e]
   refine ⟨fun o ho => ?_, by omega, rfl⟩
   rcases List.mem_append.1 ho with ho | ho
   ·exact hO o ho
   ·rw [List.mem_singleton.1 ho]
    exact Pat.cells_upto _ _

theorem indexFuncM_spec (f : Pat → Bool) (id : Nat) (fs cs : List AVal) (O : List AObj) (hO : ∀ o ∈ O, o.upto O.length) (ob : Nat) (l : List Pat) (cap : Nat) (hob : O[ob]? = some (.cells (cellsAll (l.map Pat.enc))))
  (hb : l.length ≤ 2 ^ 30) (hf : ∀ p ∈ l, ECall Try.prog id O (fs ++ [p.enc] ++ cs) fun r O' => r = .v (.bool (f p)) ∧ O' = O) :
  ECall Try.prog 51 O [.ms ob 0 l.length cap, .fn (.func id) fs cs] fun r O' => r = .v (.int .i64 (idx f l)) ∧ O' = O := by
 refine ecall_of hT true O.length Try.func51 rfl (by kernel_rfl) (by simp [Try.ntmps51]) (by simp) ?_
 show AWP Try.prog _ _ _ ⟨19, _, _⟩
 dsimp only [Tmp, TypeId, slotsOf]
 first | refine zg1 ?_ | refine zg0 ?_ | refine zg2 ?_ | refine zg3 ?_
 simp -dsimp only [simprocAttr, ↓vpre, zp]
 refine at_intro ?_
 simp -dsimp only [vend, ne_eq, Nat.reduceEqDiff, reduceCtorEq]
 first | refine zg1 ?_ | refine zg0 ?_ | refine zg2 ?_ | refine zg3 ?_
 simp -dsimp only [simprocAttr, ↓vpre, zp]
 refine at_intro ?_
 simp -dsimp only [vend, ne_eq, Nat.reduceEqDiff, reduceCtorEq]
 first | refine awp_block (awp_loop (ι := {k : Nat // k ≤ l.length ∧ ∀ j p, j < k → l[j]? = some p → f p = false}) (fun k => ⟨19, [(0, .ms ob 0 l.length cap), (1, .fn (.func id) fs cs), (7, .v (.int .i64 l.length)), (8, .v (.int .i64 k.1))], O⟩) (fun k => l.length - k.1) ⟨0, by omega, by intros; omega⟩ ?_ ?_) | refine awp_seq (awp_block (awp_loop (ι := {k : Nat // k ≤ l.length ∧ ∀ j p, j < k → l[j]? = some p → f p = false}) (fun k => ⟨19, [(0, .ms ob 0 l.length cap), (1, .fn (.func id) fs cs), (7, .v (.int .i64 l.length)), (8, .v (.int .i64 k.1))], O⟩) (fun k => l.length - k.1) ⟨0, by omega, by intros; omega⟩ ?_ ?_))
 ·refine ⟨rfl, ?_, ?_⟩
  rotate_left
  simp -dsimp only [simprocAttr, ↓vpre, zp, Says, exists_eq_left', Option.some.injEq, sub_self, and_assoc, true_and, and_true]
  rfl
 ·rintro ⟨k, hk, hall⟩
  first | refine zg1 ?_ | refine zg0 ?_ | refine zg2 ?_ | refine zg3 ?_
  simp -dsimp only [simprocAttr, ↓vpre, zp]
  refine at_intro ?_
  simp -dsimp only [vend, ne_eq, Nat.reduceEqDiff, reduceCtorEq]
  first | refine zk1 rfl (fun h => ?_) (fun h => ?_) | refine zk0 rfl (fun h => ?_) (fun h => ?_) | refine zk2 rfl (fun h => ?_) (fun h => ?_)
  ·refine awp_skip ?_
   simp -dsimp only [vend, ne_eq, Nat.reduceEqDiff, reduceCtorEq]
   have hlt : k < l.length := by simpa using h
   obtain ⟨p, hp⟩ : ∃ p, l[k]? = some p := ⟨l[k], by simp [hlt]⟩
   have hmem := List.mem_of_getElem? hp
   first | refine awp_seq (awp_block ?_) | refine awp_block ?_
   first | refine zg1 ?_ | refine zg0 ?_ | refine zg2 ?_ | refine zg3 ?_
   simp -dsimp only [simprocAttr, ↓vpre, zp]
   refine at_intro ?_
   simp -dsimp only [vend, ne_eq, Nat.reduceEqDiff, reduceCtorEq]
   first | refine zg1 ?_ | refine zg0 ?_ | refine zg2 ?_ | refine zg3 ?_
   simp -dsimp only [simprocAttr, ↓vpre, zp, hob, Pat.row_get hp, Pat.row_len, Pat.agg_cells]
   refine ⟨by omega, by omega, ?_⟩
   refine .inr (.inr ⟨_, (hf p hmem), later_intro ?_⟩)
   simp -dsimp only [simprocAttr, ↓vpre, zp]
   refine at_intro ?_
   simp -dsimp only [vend, ne_eq, Nat.reduceEqDiff, reduceCtorEq]
   first | refine zk1 rfl (fun h => ?_) (fun h => ?_) | refine zk0 rfl (fun h => ?_) (fun h => ?_) | refine zk2 rfl (fun h => ?_) (fun h => ?_)
   ·first | refine zg1 ?_ | refine zg0 ?_ | refine zg2 ?_ | refine zg3 ?_
    simp -dsimp only [simprocAttr, ↓vpre, zp]
    refine at_intro ?_
    simp -dsimp only [vend, ne_eq, Nat.reduceEqDiff, reduceCtorEq]
    refine awp_ret ?_
    simp -dsimp only [simprocAttr, ↓vpre, zp, RetTo, Try.results51, retVals, retVal, mkRet, AVal.upto, Nat.zero_le, Nat.le_refl, seqPost_ret, blockPost_ret, loopPost_ret, List.take_length]
    rw [idx_some hp h hall]
    simpa using hO
   ·refine awp_skip ?_
    simp -dsimp only [vend, ne_eq, Nat.reduceEqDiff, reduceCtorEq]
    have hb : f p = false := by simpa using h
    first | refine zg1 ?_ | refine zg0 ?_ | refine zg2 ?_ | refine zg3 ?_
    simp -dsimp only [simprocAttr, ↓vpre, zp]
    refine ⟨by omega, by omega, ?_⟩
    refine at_intro ?_
    simp -dsimp only [vend, ne_eq, Nat.reduceEqDiff, reduceCtorEq]
    refine ⟨⟨k + 1, hlt, fun j q hj hq => ?_⟩, by simp; omega, ?_⟩
    ·rcases Nat.lt_succ_iff_lt_or_eq.1 hj with hj | hj
     ·exact hall j q hj hq
     ·subst hj
      rw [hp] at hq
      simp only [Option.some.injEq] at hq
      rw [← hq]
      exact hb
    refine ⟨rfl, ?_, ?_⟩
    rotate_left
    simp -dsimp only [simprocAttr, ↓vpre, zp, Says, exists_eq_left', Option.some.injEq, sub_self, and_assoc, true_and, and_true]
    ·exact Sub.int (by simp)
    ·rfl
  ·refine awp_exit ?_
   simp -dsimp only [vend, ne_eq, Nat.reduceEqDiff, reduceCtorEq]
   have hlt : k = l.length := by simp at h; omega
   subst hlt
   first | refine zg1 ?_ | refine zg0 ?_ | refine zg2 ?_ | refine zg3 ?_
   simp -dsimp only [simprocAttr, ↓vpre, zp]
   refine at_intro ?_
   simp -dsimp only [vend, ne_eq, Nat.reduceEqDiff, reduceCtorEq]
   refine awp_ret ?_
   simp -dsimp only [simprocAttr, ↓vpre, zp, RetTo, Try.results51, retVals, retVal, mkRet, AVal.upto, Nat.zero_le, Nat.le_refl, seqPost_ret, blockPost_ret, loopPost_ret, List.take_length]
   rw [idx_none hall]
   simpa using hO

end Go.Proofs.Ytakdmelemfnmdaa
end
