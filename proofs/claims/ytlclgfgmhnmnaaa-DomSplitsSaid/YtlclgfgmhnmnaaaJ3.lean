/-
  Texts bound together by a program of mine: YtlclgfgmhnmnaaaPd, YtlclgfgmhnmnaaaPdz, YtlclgfgmhnmnaaaPe, YtlclgfgmhnmnaaaT1, YtlclgfgmhnmnaaaT2, YtlclgfgmhnmnaaaT3, YtlclgfgmhnmnaaaT30, YtlclgfgmhnmnaaaPo, YtlclgfgmhnmnaaaT24, YtlclgfgmhnmnaaaT25, YtlclgfgmhnmnaaaT4, YtlclgfgmhnmnaaaT5, YtlclgfgmhnmnaaaT6, YtlclgfgmhnmnaaaT7, YtlclgfgmhnmnaaaT8, YtlclgfgmhnmnaaaT9, YtlclgfgmhnmnaaaT10, YtlclgfgmhnmnaaaT26, YtlclgfgmhnmnaaaT11, YtlclgfgmhnmnaaaT12, YtlclgfgmhnmnaaaT13, YtlclgfgmhnmnaaaT14, YtlclgfgmhnmnaaaT15, YtlclgfgmhnmnaaaT16, YtlclgfgmhnmnaaaT17, YtlclgfgmhnmnaaaT27, YtlclgfgmhnmnaaaT28, YtlclgfgmhnmnaaaT29, YtlclgfgmhnmnaaaT31.
-/
import Derived.Test.YtlclgfgmhnmnaaaJ2
set_option linter.all false
set_option maxRecDepth 100000
set_option maxHeartbeats 4000000

namespace Go.Proofs.Ytlclgfgmhnmnaaa
open Go.Av
def vtab := And.intro @tab_1 <|
  And.intro @tab_2 <|
  And.intro @tab_3 <|
  And.intro @tab_4 <|
  And.intro @tab_5 <|
  And.intro @tab_9 <|
  And.intro @tab_22 <|
  And.intro @tab_24 <|
  And.intro @tab_26 <|
  And.intro @tab_33 <|
  And.intro @tab_38 <|
  And.intro @tab_41 <|
  And.intro @tab_42 <|
  And.intro @tab_44 <|
  And.intro @tab_45 <|
  And.intro @tab_47 <|
  And.intro @tab_61 <|
  And.intro @tab_65 <|
  And.intro @tab_69 <|
  And.intro @tab_75 <|
  And.intro @tab_77 <|
  And.intro @tab_78 <|
  And.intro @tab_80 <|
  And.intro @tab_82 <|
  And.intro @tab_84 <|
  And.intro @tab_88 <|
  And.intro @tab_89 <|
  And.intro @tab_92 <|
  And.intro @tab_94 <|
  And.intro @tab_97 <|
  And.intro @tab_104 <|
  And.intro @tab_105 <|
  And.intro @tab_107 <|
  And.intro @tab_110 <|
  And.intro @tab_114 <|
  And.intro @tab_119 <|
  And.intro @tab_124 <|
  And.intro @tab_132 <|
  And.intro @tab_133 <|
  And.intro @tab_135 <|
  And.intro @tab_136 <|
  And.intro @tab_138 <|
  And.intro @tab_140 <|
  And.intro @tab_144 <|
  And.intro @tab_147 <|
  And.intro @tab_150 <|
  And.intro @tab_151 <|
  And.intro @tab_153 <|
  And.intro @tab_162 <|
  And.intro @tab_163 <|
  And.intro @tab_164 <|
  And.intro @tab_166 <|
  And.intro @tab_167 <|
  And.intro @tab_169 <|
  And.intro @tab_176 <|
  And.intro @tab_177 <|
  And.intro @tab_178 <|
  And.intro @tab_198 <|
  And.intro @tab_202 <|
  And.intro @tab_207 <|
  And.intro @Ins.enc_cells <|
  And.intro @Ins.fold <|
  And.intro @Ins.enc_share <|
  And.intro @Ins.map_share <|
  And.intro @Ins.enc_upto <|
  And.intro @Ins.map_upto <|
  And.intro @Ins.enc_flat <|
  And.intro @Edge.enc_cells <|
  And.intro @Edge.fold <|
  And.intro @Edge.enc_share <|
  And.intro @Edge.map_share <|
  And.intro @Edge.enc_upto <|
  And.intro @Edge.map_upto <|
  And.intro @Edge.enc_flat <|
  And.intro @Term.enc_cells <|
  And.intro @Term.fold <|
  And.intro @Term.enc_share <|
  And.intro @Term.map_share <|
  And.intro @Term.enc_upto <|
  And.intro @Term.map_upto <|
  And.intro @Term.enc_flat <|
  And.intro @Block.enc_cells <|
  And.intro @Block.fold <|
  And.intro @Block.enc_share <|
  And.intro @Block.map_share <|
  And.intro @Block.enc_upto <|
  And.intro @Block.map_upto <|
  And.intro @Block.enc_flat <|
  And.intro @Func.enc_cells <|
  And.intro @Func.fold <|
  And.intro @Func.enc_share <|
  And.intro @Func.map_share <|
  And.intro @Func.enc_upto <|
  And.intro @Func.map_upto <|
  And.intro @Func.enc_flat <|
  And.intro @Unt.enc_cells <|
  And.intro @Unt.fold <|
  And.intro @Unt.enc_share <|
  And.intro @Unt.map_share <|
  And.intro @Unt.enc_upto <|
  And.intro @Unt.map_upto <|
  And.intro @Unt.enc_flat <|
  And.intro @SV.enc_mk <|
  And.intro @SV.enc_cells <|
  And.intro @SV.fold <|
  And.intro @SV.enc_share <|
  And.intro @SV.map_share <|
  And.intro @SV.enc_flat <|
  And.intro @SV.agg_cells <|
  And.intro @eP_shareCell <|
  And.intro @eP_scalar <|
  And.intro @aI_share <|
  And.intro @aI_upto <|
  And.intro @kt_3 <|
  And.intro @ktok_i64 <|
  And.intro @at_newk <|
  And.intro @at_newz <|
  And.intro @set_newk <|
  And.intro @set_newz <|
  And.intro @set_zero <|
  And.intro @set_succ <|
  And.intro @take_new <|
  And.intro @List.take_length.{0} <|
  And.intro @List.append_assoc.{0} <|
  And.intro @List.cons_append.{0} <|
  @List.nil_append.{0}
def zp := And.intro vpos <| And.intro @ne_eq.{1} <| And.intro @implies_true.{0} <| And.intro @implies_true.{1} <| vtab
def zt := And.intro and_true <| And.intro true_and and_self
def zu := And.intro @Ins.enc_upto <| And.intro @Ins.map_upto <| And.intro @Edge.enc_upto <| And.intro @Edge.map_upto <| And.intro @Term.enc_upto <| And.intro @Term.map_upto <| And.intro @Block.enc_upto <| And.intro @Block.map_upto <| And.intro @Func.enc_upto <| And.intro @Func.map_upto <| And.intro @Unt.enc_upto <| And.intro @Unt.map_upto <| @aI_upto
theorem zg0 {kb : Nat} {id : Nat} {l : List Oper} {draw : Bool} {Q : AEx → St → Prop} {σ : St} (h : vcOps Try.prog tab ⟨false, false⟩ l 0 [] σ [] fun τ ks => Draws draw (fun _ => OrderOK l.toArray ks.reverse) ∧ At τ (Q .norm)) : AWP Try.prog kb (.region id l.toArray draw) Q σ := awp_region_any _ hT hm h
theorem zg1 {kb : Nat} {id : Nat} {l : List Oper} {draw : Bool} {Q : AEx → St → Prop} {σ : St} {x : Code} (h : vcOps Try.prog tab ⟨false, false⟩ l 0 [] σ [] fun τ ks => Draws draw (fun _ => OrderOK l.toArray ks.reverse) ∧ At τ (seqPost Try.prog kb x Q .norm)) : AWP Try.prog kb (.seq (.region id l.toArray draw) x) Q σ := awp_seq (zg0 h)
theorem zg2 {kb : Nat} {id : Nat} {l : List Oper} {draw : Bool} {Q : AEx → St → Prop} {σ : St} {x y : Code} (h : vcOps Try.prog tab ⟨false, false⟩ l 0 [] σ [] fun τ ks => Draws draw (fun _ => OrderOK l.toArray ks.reverse) ∧ At τ (seqPost Try.prog kb x (seqPost Try.prog kb y Q) .norm)) : AWP Try.prog kb (.seq (.seq (.region id l.toArray draw) x) y) Q σ := awp_seq (zg1 h)
theorem zg3 {kb : Nat} {id : Nat} {l : List Oper} {draw : Bool} {Q : AEx → St → Prop} {σ : St} {x y z : Code} (h : vcOps Try.prog tab ⟨false, false⟩ l 0 [] σ [] fun τ ks => Draws draw (fun _ => OrderOK l.toArray ks.reverse) ∧ At τ (seqPost Try.prog kb x (seqPost Try.prog kb y (seqPost Try.prog kb z Q)) .norm)) : AWP Try.prog kb (.seq (.seq (.seq (.region id l.toArray draw) x) y) z) Q σ := awp_seq (zg2 h)
theorem zm0 {kb : Nat} {id : Nat} {l : List Oper} {draw : Bool} {Q : AEx → St → Prop} {σ : St} (h : vcOps Try.prog tab ⟨true, false⟩ l 0 [] σ [] fun τ ks => Draws draw (fun _ => OrderOK l.toArray ks.reverse) ∧ At τ (Q .norm)) : AWP Try.prog kb (.region id l.toArray draw) Q σ := awp_region_any _ hT hm h
theorem zm1 {kb : Nat} {id : Nat} {l : List Oper} {draw : Bool} {Q : AEx → St → Prop} {σ : St} {x : Code} (h : vcOps Try.prog tab ⟨true, false⟩ l 0 [] σ [] fun τ ks => Draws draw (fun _ => OrderOK l.toArray ks.reverse) ∧ At τ (seqPost Try.prog kb x Q .norm)) : AWP Try.prog kb (.seq (.region id l.toArray draw) x) Q σ := awp_seq (zm0 h)
theorem zm2 {kb : Nat} {id : Nat} {l : List Oper} {draw : Bool} {Q : AEx → St → Prop} {σ : St} {x y : Code} (h : vcOps Try.prog tab ⟨true, false⟩ l 0 [] σ [] fun τ ks => Draws draw (fun _ => OrderOK l.toArray ks.reverse) ∧ At τ (seqPost Try.prog kb x (seqPost Try.prog kb y Q) .norm)) : AWP Try.prog kb (.seq (.seq (.region id l.toArray draw) x) y) Q σ := awp_seq (zm1 h)
theorem zs0 {kb : Nat} {id : Nat} {l : List Oper} {draw : Bool} {Q : AEx → St → Prop} {σ : St} (h : vcOps Try.prog tab ⟨true, true⟩ l 0 [] σ [] fun τ ks => Draws draw (fun _ => OrderOK l.toArray ks.reverse) ∧ At τ (Q .norm)) : AWP Try.prog kb (.region id l.toArray draw) Q σ := awp_region_any _ hT hm h
theorem zs1 {kb : Nat} {id : Nat} {l : List Oper} {draw : Bool} {Q : AEx → St → Prop} {σ : St} {x : Code} (h : vcOps Try.prog tab ⟨true, true⟩ l 0 [] σ [] fun τ ks => Draws draw (fun _ => OrderOK l.toArray ks.reverse) ∧ At τ (seqPost Try.prog kb x Q .norm)) : AWP Try.prog kb (.seq (.region id l.toArray draw) x) Q σ := awp_seq (zs0 h)
theorem zs2 {kb : Nat} {id : Nat} {l : List Oper} {draw : Bool} {Q : AEx → St → Prop} {σ : St} {x y : Code} (h : vcOps Try.prog tab ⟨true, true⟩ l 0 [] σ [] fun τ ks => Draws draw (fun _ => OrderOK l.toArray ks.reverse) ∧ At τ (seqPost Try.prog kb x (seqPost Try.prog kb y Q) .norm)) : AWP Try.prog kb (.seq (.seq (.region id l.toArray draw) x) y) Q σ := awp_seq (zs1 h)
theorem zk0 {kb : Nat} {c : Operand} {x y : Code} {Q : AEx → St → Prop} {σ : St} {b : Bool} (hc : σ.ev c = some (.v (.bool b))) (ht : b = true → AWP Try.prog kb x Q σ) (hf : b = false → AWP Try.prog kb y Q σ) : AWP Try.prog kb (.cond c x y) Q σ := awp_cond hc ht hf
theorem zk1 {kb : Nat} {c : Operand} {x y z : Code} {Q : AEx → St → Prop} {σ : St} {b : Bool} (hc : σ.ev c = some (.v (.bool b))) (ht : b = true → AWP Try.prog kb x (seqPost Try.prog kb z Q) σ) (hf : b = false → AWP Try.prog kb y (seqPost Try.prog kb z Q) σ) : AWP Try.prog kb (.seq (.cond c x y) z) Q σ := awp_seq (awp_cond hc ht hf)
theorem zk2 {kb : Nat} {c : Operand} {x y z w : Code} {Q : AEx → St → Prop} {σ : St} {b : Bool} (hc : σ.ev c = some (.v (.bool b))) (ht : b = true → AWP Try.prog kb x (seqPost Try.prog kb z (seqPost Try.prog kb w Q)) σ) (hf : b = false → AWP Try.prog kb y (seqPost Try.prog kb z (seqPost Try.prog kb w Q)) σ) :
    AWP Try.prog kb (.seq (.seq (.cond c x y) z) w) Q σ := awp_seq (awp_seq (awp_cond hc ht hf))
theorem za0 {kb : Nat} {c : Code} {Q : AEx → St → Prop} {σ : St} (h : AWP Try.prog kb c Q σ) : At σ (seqPost Try.prog kb c Q .norm) := h
theorem zb0 {kb : Nat} {c : Code} {Q : AEx → St → Prop} {σ : St} {kb' : Nat} (h : AWP Try.prog kb c Q σ) : AWP Try.prog kb' .skip (seqPost Try.prog kb c Q) σ := awp_skip h
theorem za1 {kb : Nat} {c : Code} {Q : AEx → St → Prop} {σ : St} {b0 : Nat} (h : AWP Try.prog kb c Q σ) : At σ (blockPost b0 (seqPost Try.prog kb c Q) .norm) := h
theorem zb1 {kb : Nat} {c : Code} {Q : AEx → St → Prop} {σ : St} {b0 : Nat} {kb' : Nat} (h : AWP Try.prog kb c Q σ) : AWP Try.prog kb' .skip (blockPost b0 (seqPost Try.prog kb c Q)) σ := awp_skip h
theorem za2 {kb : Nat} {c : Code} {Q : AEx → St → Prop} {σ : St} {b0 : Nat} {b1 : Nat} (h : AWP Try.prog kb c Q σ) : At σ (blockPost b1 (blockPost b0 (seqPost Try.prog kb c Q)) .norm) := h
theorem zb2 {kb : Nat} {c : Code} {Q : AEx → St → Prop} {σ : St} {b0 : Nat} {b1 : Nat} {kb' : Nat} (h : AWP Try.prog kb c Q σ) : AWP Try.prog kb' .skip (blockPost b1 (blockPost b0 (seqPost Try.prog kb c Q))) σ := awp_skip h
theorem za3 {kb : Nat} {c : Code} {Q : AEx → St → Prop} {σ : St} {b0 : Nat} {b1 : Nat} {b2 : Nat} (h : AWP Try.prog kb c Q σ) : At σ (blockPost b2 (blockPost b1 (blockPost b0 (seqPost Try.prog kb c Q))) .norm) := h
theorem zb3 {kb : Nat} {c : Code} {Q : AEx → St → Prop} {σ : St} {b0 : Nat} {b1 : Nat} {b2 : Nat} {kb' : Nat} (h : AWP Try.prog kb c Q σ) : AWP Try.prog kb' .skip (blockPost b2 (blockPost b1 (blockPost b0 (seqPost Try.prog kb c Q)))) σ := awp_skip h
theorem zl0 {ι : Type} {L : ι → St} {μ : ι → Nat} {i : ι} {Q : AEx → St → Prop} {σ : St} (h : ∃ j, μ j < μ i ∧ Covers σ (L j)) : At σ (loopPost L μ i Q .norm) := h
theorem zn0 {ι : Type} {L : ι → St} {μ : ι → Nat} {i : ι} {Q : AEx → St → Prop} {σ : St} {kb' : Nat} (h : ∃ j, μ j < μ i ∧ Covers σ (L j)) : AWP Try.prog kb' .skip (loopPost L μ i Q) σ := awp_skip h
theorem zl1 {ι : Type} {L : ι → St} {μ : ι → Nat} {i : ι} {Q : AEx → St → Prop} {σ : St} {b0 : Nat} (h : ∃ j, μ j < μ i ∧ Covers σ (L j)) : At σ (blockPost b0 (loopPost L μ i Q) .norm) := h
theorem zn1 {ι : Type} {L : ι → St} {μ : ι → Nat} {i : ι} {Q : AEx → St → Prop} {σ : St} {b0 : Nat} {kb' : Nat} (h : ∃ j, μ j < μ i ∧ Covers σ (L j)) : AWP Try.prog kb' .skip (blockPost b0 (loopPost L μ i Q)) σ := awp_skip h
theorem zl2 {ι : Type} {L : ι → St} {μ : ι → Nat} {i : ι} {Q : AEx → St → Prop} {σ : St} {b0 : Nat} {b1 : Nat} (h : ∃ j, μ j < μ i ∧ Covers σ (L j)) : At σ (blockPost b1 (blockPost b0 (loopPost L μ i Q)) .norm) := h
theorem zn2 {ι : Type} {L : ι → St} {μ : ι → Nat} {i : ι} {Q : AEx → St → Prop} {σ : St} {b0 : Nat} {b1 : Nat} {kb' : Nat} (h : ∃ j, μ j < μ i ∧ Covers σ (L j)) : AWP Try.prog kb' .skip (blockPost b1 (blockPost b0 (loopPost L μ i Q))) σ := awp_skip h
theorem zl3 {ι : Type} {L : ι → St} {μ : ι → Nat} {i : ι} {Q : AEx → St → Prop} {σ : St} {b0 : Nat} {b1 : Nat} {b2 : Nat} (h : ∃ j, μ j < μ i ∧ Covers σ (L j)) : At σ (blockPost b2 (blockPost b1 (blockPost b0 (loopPost L μ i Q))) .norm) := h
theorem zn3 {ι : Type} {L : ι → St} {μ : ι → Nat} {i : ι} {Q : AEx → St → Prop} {σ : St} {b0 : Nat} {b1 : Nat} {b2 : Nat} {kb' : Nat} (h : ∃ j, μ j < μ i ∧ Covers σ (L j)) : AWP Try.prog kb' .skip (blockPost b2 (blockPost b1 (blockPost b0 (loopPost L μ i Q)))) σ := awp_skip h
end Go.Proofs.Ytlclgfgmhnmnaaa
section
/-
  Short forms of steps that occur often; the packed texts of a claim use them (squeeze.py).
-/
namespace Go.Proofs.Ytlclgfgmhnmnaaa
open Go.Av

theorem retTo_ret (tab : Tab) (rv : List ResultVar) (sh : Bool) (k : Nat) (R : AVal → List AObj → Prop) (σ : St) : RetTo tab rv sh k R .ret σ = on (retVals tab σ rv) fun rs => k ≤ σ.objs.length ∧ (∀ o ∈ σ.objs.take k, o.upto k) ∧ (mkRet (if sh then rs.map AVal.share else rs)).upto k ∧ R (mkRet (if sh then rs.map AVal.share else rs)) (σ.objs.take k) := rfl
theorem retTo_norm (tab : Tab) (rv : List ResultVar) (sh : Bool) (k : Nat) (R : AVal → List AObj → Prop) (σ : St) : RetTo tab rv sh k R .norm σ = on (retVals tab σ rv) fun rs => k ≤ σ.objs.length ∧ (∀ o ∈ σ.objs.take k, o.upto k) ∧ (mkRet (if sh then rs.map AVal.share else rs)).upto k ∧ R (mkRet (if sh then rs.map AVal.share else rs)) (σ.objs.take k) := rfl
theorem mkRet_nil : mkRet [] = .tup [] := rfl
theorem mkRet_two (x y : AVal) (r : List AVal) : mkRet (x :: y :: r) = .tup (x :: y :: r) := rfl
theorem upto_v (n : Nat) (x : Value) : AVal.upto n (.v x) = True := rfl
def zr := And.intro @retTo_ret <| And.intro @retTo_norm <| And.intro @retVals.eq_1 <| And.intro @retVals.eq_2 <| And.intro @retVal.eq_1 <| And.intro @retVal.eq_2 <| And.intro @mkRet.eq_1 <| And.intro @mkRet_nil <| And.intro @mkRet_two <|
  And.intro @AVal.upto.eq_1 <| And.intro @AVal.upto.eq_2 <| And.intro @AVal.upto.eq_3 <| And.intro @AVal.upto.eq_4 <| And.intro @AVal.upto.eq_5 <| And.intro @AVal.upto.eq_6 <| And.intro @AVal.upto.eq_7 <| And.intro @AVal.upto.eq_8 <| And.intro @AVal.upto.eq_9 <| And.intro @AVal.upto.eq_10 <| And.intro @AVal.upto.eq_11 <| And.intro @AVal.upto.eq_12 <| And.intro @AVal.upto.eq_13 <|
  And.intro @Nat.zero_le <| And.intro @Nat.le_refl <| And.intro @Nat.le_add_right <| And.intro @seqPost_ret <| And.intro @blockPost_ret @loopPost_ret
def zc := And.intro @Says.eq_1 <| And.intro @Says.eq_2 <| And.intro @exists_eq_left'.{1} <| And.intro @Option.some.injEq.{0} <| And.intro @sub_self <| And.intro @and_assoc <| And.intro true_and and_true

theorem ab {p q : Prop} [Decidable p] (h : decide p = true) (n : ¬p) : q := absurd (of_decide_eq_true h) n
theorem af {p q : Prop} [Decidable p] (h : decide p = false) (n : p) : q := absurd n (of_decide_eq_false h)
theorem ob {a : Array Oper} {k : List Kind} (h : orderB a k = true) : OrderOK a k := h
theorem zf {f : FuncId} {fn : Go.Func} {c : Code} {O : List AObj} {args : List AVal} {R : AVal → List AObj → Prop} {m : Nat} (sh : Bool) (k : Nat) (hf : Try.prog.funcs[f]? = some fn) (hm : fn.ntmps = m) (h : AWP Try.prog O.length c (RetTo tab fn.results.toList sh k R) ⟨m, slotsOf 0 args, O⟩) (hb : fn.body = some c := by rfl)
    (hname : (fn.name == "runtime.NumGoroutine") = false := by kernel_rfl) (hn : args.length ≤ m := by simp) (hk : O.length ≤ k := by simp) : ECall Try.prog f O args R := by
  subst hm
  exact ecall_of hT sh k hf hb hname hn hk h
theorem zq {σ τ : St} (h1 : σ.n = τ.n) (h3 : Says σ τ.slots) (h2 : σ.objs = τ.objs) : Covers σ τ := ⟨h1, h2, h3⟩

theorem zh0 {kb : Nat} {id : Nat} {l : List Oper} {draw : Bool} {Q : AEx → St → Prop} {σ : St} {q : Prop} (h : q) (e : (vcOps Try.prog tab ⟨false, false⟩ l 0 [] σ [] fun τ ks => Draws draw (fun _ => OrderOK l.toArray ks.reverse) ∧ At τ (Q .norm)) = q := by simp -dsimp only [simprocAttr, ↓vpre, zp]; rfl) : AWP Try.prog kb (.region id l.toArray draw) Q σ := zg0 (e ▸ h)
theorem zh1 {kb : Nat} {id : Nat} {l : List Oper} {draw : Bool} {Q : AEx → St → Prop} {σ : St} {x : Code} {q : Prop} (h : q) (e : (vcOps Try.prog tab ⟨false, false⟩ l 0 [] σ [] fun τ ks => Draws draw (fun _ => OrderOK l.toArray ks.reverse) ∧ At τ (seqPost Try.prog kb x Q .norm)) = q := by simp -dsimp only [simprocAttr, ↓vpre, zp]; rfl) : AWP Try.prog kb (.seq (.region id l.toArray draw) x) Q σ := zg1 (e ▸ h)
theorem zh2 {kb : Nat} {id : Nat} {l : List Oper} {draw : Bool} {Q : AEx → St → Prop} {σ : St} {x y : Code} {q : Prop} (h : q) (e : (vcOps Try.prog tab ⟨false, false⟩ l 0 [] σ [] fun τ ks => Draws draw (fun _ => OrderOK l.toArray ks.reverse) ∧ At τ (seqPost Try.prog kb x (seqPost Try.prog kb y Q) .norm)) = q := by simp -dsimp only [simprocAttr, ↓vpre, zp]; rfl) : AWP Try.prog kb (.seq (.seq (.region id l.toArray draw) x) y) Q σ := zg2 (e ▸ h)
theorem zh3 {kb : Nat} {id : Nat} {l : List Oper} {draw : Bool} {Q : AEx → St → Prop} {σ : St} {x y z : Code} {q : Prop} (h : q) (e : (vcOps Try.prog tab ⟨false, false⟩ l 0 [] σ [] fun τ ks => Draws draw (fun _ => OrderOK l.toArray ks.reverse) ∧ At τ (seqPost Try.prog kb x (seqPost Try.prog kb y (seqPost Try.prog kb z Q)) .norm)) = q := by simp -dsimp only [simprocAttr, ↓vpre, zp]; rfl) : AWP Try.prog kb (.seq (.seq (.seq (.region id l.toArray draw) x) y) z) Q σ := zg3 (e ▸ h)
theorem zu0 {kb : Nat} {c : Operand} {x y : Code} {Q : AEx → St → Prop} {σ : St} (hc : σ.ev c = some (.v (.bool false))) (hf : AWP Try.prog kb y Q σ) : AWP Try.prog kb (.cond c x y) Q σ := awp_cond hc (fun h => by cases h) fun _ => hf
theorem zu1 {kb : Nat} {c : Operand} {x y z : Code} {Q : AEx → St → Prop} {σ : St} (hc : σ.ev c = some (.v (.bool false))) (hf : AWP Try.prog kb y (seqPost Try.prog kb z Q) σ) : AWP Try.prog kb (.seq (.cond c x y) z) Q σ := awp_seq (zu0 hc hf)
theorem zu2 {kb : Nat} {c : Operand} {x y z w : Code} {Q : AEx → St → Prop} {σ : St} (hc : σ.ev c = some (.v (.bool false))) (hf : AWP Try.prog kb y (seqPost Try.prog kb z (seqPost Try.prog kb w Q)) σ) : AWP Try.prog kb (.seq (.seq (.cond c x y) z) w) Q σ := awp_seq (zu1 hc hf)
theorem zw0 {kb : Nat} {c : Operand} {x y : Code} {Q : AEx → St → Prop} {σ : St} (hc : σ.ev c = some (.v (.bool true))) (ht : AWP Try.prog kb x Q σ) : AWP Try.prog kb (.cond c x y) Q σ := awp_cond hc (fun _ => ht) fun h => by cases h
theorem zw1 {kb : Nat} {c : Operand} {x y z : Code} {Q : AEx → St → Prop} {σ : St} (hc : σ.ev c = some (.v (.bool true))) (ht : AWP Try.prog kb x (seqPost Try.prog kb z Q) σ) : AWP Try.prog kb (.seq (.cond c x y) z) Q σ := awp_seq (zw0 hc ht)
theorem zw2 {kb : Nat} {c : Operand} {x y z w : Code} {Q : AEx → St → Prop} {σ : St} (hc : σ.ev c = some (.v (.bool true))) (ht : AWP Try.prog kb x (seqPost Try.prog kb z (seqPost Try.prog kb w Q)) σ) : AWP Try.prog kb (.seq (.seq (.cond c x y) z) w) Q σ := awp_seq (zw1 hc ht)
theorem zi {id : FuncId} {args : List AVal} {r : AVal} {K : AVal → Prop} {B q : Prop} (hc : PCall Try.prog id args r) (h : q) (hu : uptoL 0 args := by simp only [uptoL, AVal.upto, zt, zu]) (e : K r = q := by simp -dsimp only [simprocAttr, ↓vpre, zp]; rfl) : (∃ r, PCall Try.prog id args r ∧ uptoL 0 args ∧ Later fun _ => K r) ∨ B := .inl ⟨r, hc, hu, later_intro (e ▸ h)⟩
theorem zj {p q : Prop} (h : q) (e : p = q := by simp -dsimp only [simprocAttr, ↓vpre, zp]; rfl) : p := e ▸ h
end Go.Proofs.Ytlclgfgmhnmnaaa
end
namespace Go.Av
section
variable {P : Program} {w : World} {H : Type} {enc : TypeId × Value → H} {sp : Nat → Bool} {held : Bool}
theorem agg_of_trod (hl : laidOutB P = true) {ts : List TypeId} (hc : covB P ts = true) {t : TypeId} (ht : t ∈ ts) {v : Value} {d : DataW H} {ps : List MemPlace} (h : DataW.Trod enc P w 0 sp held t v d ps)
    (hv : ∃ vs, v = .agg vs) (hw : ∀ m ∈ d.weights P t, m ≤ reachBytes) : ∃ n ars, Shp P n t ars ∧ RV (g0 w) (.agg ars) v := by
  obtain ⟨vs, rfl⟩ := hv
  obtain ⟨n, h⟩ := h
  obtain ⟨ars, h1, h3, h4, h5⟩ := rvl_of_trod hl hc n t _ (d, ps) ht h hw
  exact ⟨n, ars, h1, .agg (by simpa [Value.cells] using h3.symm) h4 fun i c u hc hu => h5 i c u hc (by simpa [Value.cells] using hu)⟩
theorem one_struct {t : TypeId} {fs : Array Field} {r : Reach} {b : Nat} {v : Value} (hu : P.underlying t = some (.struct fs)) (h : Value.okWide P w r b t v) : ∃ vs, v = .agg vs := by
  cases v <;> first | exact ⟨_, rfl⟩ | simp [Value.okWide, hu, Cell.okWide, Cell.ok] at h
end
end Go.Av
namespace Go.Proofs.Ytlclgfgmhnmnaaa
open Go.Av
theorem cells3 : Try.prog.cellsOf 3 = 1 := by kernel_rfl
theorem cells48 : Try.prog.cellsOf 119 = 4 := by kernel_rfl
theorem cells50 : Try.prog.cellsOf 82 = 2 := by kernel_rfl
theorem cells46 : Try.prog.cellsOf 80 = 7 := by kernel_rfl
theorem cells39 : Try.prog.cellsOf 24 = 2 := by kernel_rfl
theorem bytes3 : Try.prog.bytesOf 3 = 8 := by kernel_rfl
theorem bytes48 : Try.prog.bytesOf 119 = 48 := by kernel_rfl
theorem bytes50 : Try.prog.bytesOf 82 = 32 := by kernel_rfl
theorem bytes46 : Try.prog.bytesOf 80 = 120 := by kernel_rfl
theorem bytes39 : Try.prog.bytesOf 24 = 32 := by kernel_rfl
theorem agg3 : aggT Try.prog 3 = false := by kernel_rfl
theorem agg48 : aggT Try.prog 119 = true := by kernel_rfl
theorem agg50 : aggT Try.prog 82 = true := by kernel_rfl
theorem agg46 : aggT Try.prog 80 = true := by kernel_rfl
theorem agg39 : aggT Try.prog 24 = true := by kernel_rfl
theorem int_told {n : Nat} {x : List AVal} (h : Shp Try.prog n 3 x) : ∃ m : Int, x = [aI m] ∧ fitI m := by
  obtain ⟨m, e, h1⟩ := h.int Try.underlying3
  exact ⟨m, e, h1⟩
theorem ints_told {n : Nat} {x : List AVal} (h : Shp Try.prog n 45 x) : ∃ l : List Int, x = [eIs l] ∧ fitIs l ∧ l.length ≤ 2 ^ 47 := by
  obtain ⟨l, e, hb, hq⟩ := h.listQ (f := aI) (Q := fitI) Try.underlying45 fun j hj y hy => by
    obtain ⟨m, rfl, hm⟩ := int_told hy
    exact ⟨m, by rw [mkE, agg3]; rfl, hm⟩
  rw [bytes3, reachBytes] at hb
  exact ⟨l, by rw [e, cells3], hq, by omega⟩
theorem ins_told {n : Nat} {x : List AVal} (h : Shp Try.prog n 119 x) : ∃ i : Ins, x = i.enc.cells ∧ i.fit := by
  obtain ⟨m, rfl, hc⟩ := h.struct Try.underlying119
  simp only [List.map_cons, List.map_nil, Cat] at hc
  obtain ⟨a, b, rfl, h1, c, d, rfl, h2, e, f, rfl, h3, g, k, rfl, h4, rfl⟩ := hc
  obtain ⟨x1, rfl, q1⟩ := int_told h1
  obtain ⟨x2, rfl, q2⟩ := int_told h2
  obtain ⟨x3, rfl, q3⟩ := int_told h3
  obtain ⟨x4, rfl, q4, q5⟩ := ints_told h4
  exact ⟨⟨x1, x2, x3, x4⟩, rfl, q1, q2, q3, q4, q5⟩
theorem inss_told {n : Nat} {x : List AVal} (h : Shp Try.prog n 78 x) : ∃ l : List Ins, x = [eInss l] ∧ (∀ i ∈ l, i.fit) ∧ l.length ≤ 2 ^ 47 := by
  obtain ⟨l, e, hb, hq⟩ := h.listQ (f := Ins.enc) (Q := Ins.fit) Try.underlying78 fun j hj y hy => by
    obtain ⟨m, rfl, hm⟩ := ins_told hy
    exact ⟨m, by rw [mkE, agg48]; rfl, hm⟩
  rw [bytes48, reachBytes] at hb
  exact ⟨l, by rw [e, cells48], hq, by omega⟩
theorem edge_told {n : Nat} {x : List AVal} (h : Shp Try.prog n 82 x) : ∃ i : Edge, x = i.enc.cells ∧ i.fit := by
  obtain ⟨m, rfl, hc⟩ := h.struct Try.underlying82
  simp only [List.map_cons, List.map_nil, Cat] at hc
  obtain ⟨a, b, rfl, h1, g, k, rfl, h4, rfl⟩ := hc
  obtain ⟨x1, rfl, q1⟩ := int_told h1
  obtain ⟨x4, rfl, q4, q5⟩ := ints_told h4
  exact ⟨⟨x1, x4⟩, rfl, q1, q4, q5⟩
theorem edges_told {n : Nat} {x : List AVal} (h : Shp Try.prog n 75 x) : ∃ l : List Edge, x = [eEdges l] ∧ (∀ i ∈ l, i.fit) ∧ l.length ≤ 2 ^ 47 := by
  obtain ⟨l, e, hb, hq⟩ := h.listQ (f := Edge.enc) (Q := Edge.fit) Try.underlying75 fun j hj y hy => by
    obtain ⟨m, rfl, hm⟩ := edge_told hy
    exact ⟨m, by rw [mkE, agg50]; rfl, hm⟩
  rw [bytes50, reachBytes] at hb
  exact ⟨l, by rw [e, cells50], hq, by omega⟩
theorem term_told {n : Nat} {x : List AVal} (h : Shp Try.prog n 77 x) : ∃ t : Term, x = t.enc.cells ∧ t.fit := by
  obtain ⟨m, rfl, hc⟩ := h.struct Try.underlying77
  simp only [List.map_cons, List.map_nil, Cat] at hc
  obtain ⟨a, b, rfl, h1, c, d, rfl, h2, e, f, rfl, h3, g, k, rfl, h4, g', k', rfl, h5, rfl⟩ := hc
  obtain ⟨x1, rfl, q1⟩ := int_told h1
  obtain ⟨x2, rfl, q2⟩ := int_told h2
  obtain ⟨x3, rfl, q3⟩ := int_told h3
  obtain ⟨x4, rfl, q4, q5⟩ := ints_told h4
  obtain ⟨x5, rfl, q6, q7⟩ := edges_told h5
  exact ⟨⟨x1, x2, x3, x4, x5⟩, rfl, q1, q2, q3, q4, q5, q7, q6⟩
theorem block_told {n : Nat} {x : List AVal} (h : Shp Try.prog n 80 x) : ∃ b : Block, x = b.enc.cells ∧ b.fit := by
  obtain ⟨m, rfl, hc⟩ := h.struct Try.underlying80
  simp only [List.map_cons, List.map_nil, Cat] at hc
  obtain ⟨a, b, rfl, h1, c, d, rfl, h2, e, f, rfl, h3, rfl⟩ := hc
  obtain ⟨x1, rfl, q1, q2⟩ := ints_told h1
  obtain ⟨x2, rfl, q3, q4⟩ := inss_told h2
  obtain ⟨x3, rfl, q5⟩ := term_told h3
  exact ⟨⟨x1, x2, x3⟩, rfl, q1, q2, q4, q3, q5⟩
theorem func_told {n : Nat} {x : List AVal} (h : Shp Try.prog n 24 x) : ∃ f : Func, x = f.enc.cells ∧ f.fit := by
  obtain ⟨m, rfl, hc⟩ := h.struct Try.underlying24
  simp only [List.map_cons, List.map_nil, Cat] at hc
  obtain ⟨a, b, rfl, h1, c, d, rfl, h2, rfl⟩ := hc
  obtain ⟨x1, rfl, q1⟩ := int_told h1
  obtain ⟨l, rfl, hb, hq⟩ := h2.listQ (f := Block.enc) (Q := Block.fit) Try.underlying22 fun j hj y hy => by
    obtain ⟨m, rfl, hm⟩ := block_told hy
    exact ⟨m, by rw [mkE, agg46]; rfl, hm⟩
  rw [bytes46, reachBytes] at hb
  exact ⟨⟨x1, l⟩, by rw [cells46]; rfl, q1, by show l.length ≤ _; omega, hq⟩
theorem unit_told {n : Nat} {x : List AVal} (h : Shp Try.prog n 44 x) : ∃ u : Unt, .agg x = u.enc ∧ u.fit := by
  obtain ⟨m, rfl, hc⟩ := h.struct Try.underlying44
  simp only [List.map_cons, List.map_nil, Cat] at hc
  obtain ⟨a, b, rfl, h1, c, d, rfl, h2, rfl⟩ := hc
  obtain ⟨l, rfl, hb, hq⟩ := h1.listQ (f := Func.enc) (Q := Func.fit) Try.underlying42 fun j hj y hy => by
    obtain ⟨m, rfl, hm⟩ := func_told hy
    exact ⟨m, by rw [mkE, agg39]; rfl, hm⟩
  obtain ⟨x1, rfl, q1⟩ := int_told h2
  rw [bytes39, reachBytes] at hb
  exact ⟨⟨l, x1⟩, by rw [cells39]; rfl, q1, by show l.length ≤ _; omega, hq⟩
theorem fn_told {n : Nat} {x : List AVal} (h : Shp Try.prog n 24 x) : ∃ f : Func, .agg x = f.enc ∧ f.fit := by
  obtain ⟨f, rfl, hf⟩ := func_told h
  exact ⟨f, rfl, hf⟩
theorem num_told {n : Nat} {a : AVal} (h : Shp Try.prog n 3 [a]) : ∃ m : Int, a = aI m ∧ fitI m := by
  obtain ⟨m, e, h1⟩ := int_told h
  exact ⟨m, by simpa using e, h1⟩
def covT : List TypeId := [3, 22, 24, 42, 44, 45, 75, 77, 78, 80, 82, 119]
theorem cov : covB Try.prog covT = true := by kernel_rfl
theorem laid : laidOutB Try.prog = true := by kernel_rfl
def within (n low high : Int) : Bool := decide (low ≤ n) && decide (n ≤ high)
theorem within_spec (n low high : Int) : PCall Try.prog 53 [aI n, aI low, aI high] (.v (.bool (within n low high))) := by
 refine zf true 0 Try.func53 Try.ntmps53 ?_
 dsimp only [Tmp, TypeId, slotsOf]
 refine zh1 (za0 ?_)
 refine zh1 ?_
 refine vcIf_split (fun h => ?_) (fun h => ?_)
 ·simp -dsimp only [simprocAttr, ↓vpre, zp, h]
  refine za0 ?_
  refine awp_ret ?_
  simp -dsimp only [simprocAttr, ↓vpre, zp, zr, Try.results53]
  simp_all [within]
 simp -dsimp only [simprocAttr, ↓vpre, zp, h]
 refine za0 ?_
 refine awp_ret ?_
 simp -dsimp only [simprocAttr, ↓vpre, zp, zr, Try.results53]
 simp_all [within]
 omega
theorem wrapW_range (n : Int) : -1073741824 ≤ wrapW n ∧ wrapW n ≤ 1073741823 := by
 unfold wrapW
 omega
theorem and_low (x : Int) : bitsOf .i64 (fun x y => x &&& y) x 2147483647 = x % 2147483648 := by
 have h : (BitVec.ofInt 64 x &&& BitVec.ofInt 64 2147483647).toNat = (x % 2147483648).toNat := by
  rw [BitVec.toNat_and, show (BitVec.ofInt 64 2147483647).toNat = 2 ^ 31 - 1 by decide, Nat.and_two_pow_sub_one_eq_mod, BitVec.toNat_ofInt]
  omega
 show IntKind.i64.wrap (((BitVec.ofInt 64 x &&& BitVec.ofInt 64 2147483647).toNat : Nat) : Int) = _
 rw [h, wrap_in .i64 _ (by simp [IntKind.min, IntKind.bits, IntKind.signed]; omega) (by simp [IntKind.max, IntKind.bits, IntKind.signed]; omega)]
 omega
theorem wrap_spec (n : Int) (h1 : -9223372036854775808 ≤ n) (h2 : n ≤ 9223372035781033983) : PCall Try.prog 146 [aI n] (aI (wrapW n)) := by
 have q := wrapW_range n
 have e : bitsOf .i64 (fun x y => x &&& y) (n + 1073741824) 2147483647 = wrapW n + 1073741824 := by
  rw [and_low]
  unfold wrapW
  omega
 refine zf true 0 Try.func146 Try.ntmps146 ?_
 dsimp only [Tmp, TypeId, slotsOf]
 refine zh1 (za0 ?_)
 refine zh1 ?_
 refine ⟨by omega, by omega, ?_⟩
 simp -dsimp only [simprocAttr, ↓vpre, zp, e]
 refine ⟨by omega, by omega, by omega, by omega, ?_⟩
 refine za0 ?_
 refine awp_ret ?_
 simp -dsimp only [simprocAttr, ↓vpre, zp, zr, Try.results146]
 rw [Int.add_sub_cancel]
theorem wrapW_of {n : Int} (h : isW n) : wrapW n = n := by
 unfold isW at h
 unfold wrapW
 omega
theorem add_spec (a b : Int) (ha : isW a) (hb : isW b) : PCall Try.prog 138 [aI a, aI b] (aI (wrapW (a + b))) := by
 unfold isW at ha hb
 refine zf true 0 Try.func138 Try.ntmps138 ?_
 dsimp only [Tmp, TypeId, slotsOf]
 refine zh1 (za0 ?_)
 refine zh1 ?_
 refine ⟨by omega, by omega, ?_⟩
 refine .inl ⟨_, (wrap_spec (a + b) (by omega) (by omega)), by simp only [uptoL, AVal.upto, zt], later_intro ?_⟩
 refine za0 ?_
 refine awp_ret ?_
 simp -dsimp only [simprocAttr, ↓vpre, zp, zr, Try.results138]
theorem sub_spec (a b : Int) (ha : isW a) (hb : isW b) : PCall Try.prog 139 [aI a, aI b] (aI (wrapW (a - b))) := by
 unfold isW at ha hb
 refine zf true 0 Try.func139 Try.ntmps139 ?_
 dsimp only [Tmp, TypeId, slotsOf]
 refine zh1 (za0 ?_)
 refine zh1 ?_
 refine ⟨by omega, by omega, ?_⟩
 refine .inl ⟨_, (wrap_spec (a - b) (by omega) (by omega)), by simp only [uptoL, AVal.upto, zt], later_intro ?_⟩
 refine za0 ?_
 refine awp_ret ?_
 simp -dsimp only [simprocAttr, ↓vpre, zp, zr, Try.results139]
theorem prod_range {a b : Int} (ha : isW a) (hb : isW b) : -1152921504606846976 ≤ a * b ∧ a * b ≤ 1152921504606846976 := by
 unfold isW at ha hb
 have h : (a * b).natAbs ≤ 1152921504606846976 := by
  rw [Int.natAbs_mul]
  have := Nat.mul_le_mul (show a.natAbs ≤ 1073741824 by omega) (show b.natAbs ≤ 1073741824 by omega)
  omega
 omega
theorem mul_spec (a b : Int) (ha : isW a) (hb : isW b) : PCall Try.prog 140 [aI a, aI b] (aI (wrapW (a * b))) := by
 have q := prod_range ha hb
 have ea := wrapW_of ha
 have eb := wrapW_of hb
 have wa := wrap_spec a (by unfold isW at ha; omega) (by unfold isW at ha; omega)
 have wb := wrap_spec b (by unfold isW at hb; omega) (by unfold isW at hb; omega)
 have wc := wrap_spec (a * b) (by omega) (by omega)
 rw [ea] at wa
 rw [eb] at wb
 generalize hc : a * b = c at *
 refine zf true 0 Try.func140 Try.ntmps140 ?_
 dsimp only [Tmp, TypeId, slotsOf]
 refine zh1 (za0 ?_)
 refine zh1 ?_
 refine .inl ⟨_, wa, by simp only [uptoL, AVal.upto, zt], later_intro ?_⟩
 refine .inl ⟨_, wb, by simp only [uptoL, AVal.upto, zt], later_intro ?_⟩
 simp -dsimp only [simprocAttr, ↓vpre, zp, hc]
 refine ⟨by omega, by omega, ?_⟩
 refine .inl ⟨_, wc, by simp only [uptoL, AVal.upto, zt], later_intro ?_⟩
 refine za0 ?_
 refine awp_ret ?_
 simp -dsimp only [simprocAttr, ↓vpre, zp, zr, Try.results140]
theorem tdiv_range {a b : Int} (ha : isW a) : -1073741824 ≤ a.tdiv b ∧ a.tdiv b ≤ 1073741824 := by
 unfold isW at ha
 have h : (a.tdiv b).natAbs ≤ a.natAbs := by
  rw [Int.natAbs_tdiv]
  exact Nat.div_le_self _ _
 omega
theorem tmod_range {a b : Int} (hb : isW b) (h0 : b ≠ 0) : isW (a.tmod b) := by
 unfold isW at *
 have h : (a.tmod b).natAbs < b.natAbs := by
  rw [Int.natAbs_tmod]
  exact Nat.mod_lt _ (by omega)
 omega
theorem div_spec (a b : Int) (ha : isW a) (hb : isW b) (h0 : b ≠ 0) : PCall Try.prog 142 [aI a, aI b] (.tup [aI (wrapW (a.tdiv b)), aI 0]) := by
 have q := tdiv_range (b := b) ha
 have wa := wrap_spec a (by unfold isW at ha; omega) (by unfold isW at ha; omega)
 have wb := wrap_spec b (by unfold isW at hb; omega) (by unfold isW at hb; omega)
 have wc := wrap_spec (a.tdiv b) (by omega) (by omega)
 rw [wrapW_of ha] at wa
 rw [wrapW_of hb] at wb
 have h1 : (b = 0) = False := by simpa using h0
 generalize hc : a.tdiv b = c at *
 refine zf true 0 Try.func142 Try.ntmps142 ?_
 dsimp only [Tmp, TypeId, slotsOf]
 refine zh1 (za0 ?_)
 refine zh2 ?_
 refine .inl ⟨_, wb, by simp only [uptoL, AVal.upto, zt], later_intro ?_⟩
 simp -dsimp only [simprocAttr, ↓vpre, zp, h0]
 refine za0 ?_
 refine zu0 rfl ?_
 refine zb0 ?_
 refine zh1 ?_
 refine .inl ⟨_, wa, by simp only [uptoL, AVal.upto, zt], later_intro ?_⟩
 refine .inl ⟨_, wb, by simp only [uptoL, AVal.upto, zt], later_intro ?_⟩
 simp -dsimp only [simprocAttr, ↓vpre, zp, h1, if_false, hc]
 refine ⟨by omega, by omega, ?_⟩
 refine .inl ⟨_, wc, by simp only [uptoL, AVal.upto, zt], later_intro ?_⟩
 refine za0 ?_
 refine awp_ret ?_
 simp -dsimp only [simprocAttr, ↓vpre, zp, zr, Try.results142]
 simp [uptoL, AVal.upto]
theorem mod_spec (a b : Int) (ha : isW a) (hb : isW b) (h0 : b ≠ 0) : PCall Try.prog 143 [aI a, aI b] (.tup [aI (a.tmod b), aI 0]) := by
 have q := tmod_range (a := a) hb h0
 unfold isW at q
 have wa := wrap_spec a (by unfold isW at ha; omega) (by unfold isW at ha; omega)
 have wb := wrap_spec b (by unfold isW at hb; omega) (by unfold isW at hb; omega)
 rw [wrapW_of ha] at wa
 rw [wrapW_of hb] at wb
 have h1 : (b = 0) = False := by simpa using h0
 generalize hc : a.tmod b = c at *
 refine zf true 0 Try.func143 Try.ntmps143 ?_
 dsimp only [Tmp, TypeId, slotsOf]
 refine zh1 (za0 ?_)
 refine zh2 ?_
 refine .inl ⟨_, wb, by simp only [uptoL, AVal.upto, zt], later_intro ?_⟩
 simp -dsimp only [simprocAttr, ↓vpre, zp, h0]
 refine za0 ?_
 refine zu0 rfl ?_
 refine zb0 ?_
 refine zh1 ?_
 refine .inl ⟨_, wa, by simp only [uptoL, AVal.upto, zt], later_intro ?_⟩
 refine .inl ⟨_, wb, by simp only [uptoL, AVal.upto, zt], later_intro ?_⟩
 simp -dsimp only [simprocAttr, ↓vpre, zp, h1, if_false, hc]
 refine ⟨by omega, by omega, ?_⟩
 refine za0 ?_
 refine awp_ret ?_
 simp -dsimp only [simprocAttr, ↓vpre, zp, zr, Try.results143]
 simp [uptoL, AVal.upto]
structure Bs where
 a : Nat
 b : Nat
 deriving DecidableEq
namespace Bs
def enc (s : Bs) : AVal := .agg [.v (.int .u64 s.a), .v (.int .u64 s.b)]
def fit (s : Bs) : Prop := s.a < 2 ^ 64 ∧ s.b < 2 ^ 64
def has (s : Bs) (k : Nat) : Bool := if k < 64 then s.a.testBit k else s.b.testBit (k - 64)
def add (s : Bs) (k : Nat) : Bs := if k < 64 then ⟨s.a ||| 1 <<< k, s.b⟩ else ⟨s.a, s.b ||| 1 <<< (k - 64)⟩
def meet (s t : Bs) : Bs := ⟨s.a &&& t.a, s.b &&& t.b⟩
def none : Bs := ⟨0, 0⟩
theorem enc_share (s : Bs) : s.enc.share = s.enc := rfl
theorem enc_flat (s : Bs) : s.enc.flat := trivial
theorem enc_cells (s : Bs) : s.enc.cells = [.v (.int .u64 s.a), .v (.int .u64 s.b)] := rfl
theorem enc_upto (n : Nat) (s : Bs) : s.enc.upto n := ⟨trivial, trivial, trivial⟩
end Bs
theorem wrap_u64 {n : Nat} (h : n < 2 ^ 64) : IntKind.u64.wrap (n : Int) = (n : Int) := by
 rw [wrap_in .u64 _ (by simp [IntKind.min, IntKind.signed]) (by simp [IntKind.max, IntKind.bits, IntKind.signed]; omega)]
theorem and_u64 {m n : Nat} (hm : m < 2 ^ 64) (hn : n < 2 ^ 64) : bitsOf .u64 (fun x y => x &&& y) (m : Int) (n : Int) = ((m &&& n : Nat) : Int) := by
 have h : (BitVec.ofInt 64 (m : Int) &&& BitVec.ofInt 64 (n : Int)).toNat = m &&& n := by
  rw [BitVec.toNat_and, BitVec.toNat_ofInt, BitVec.toNat_ofInt]
  congr 1 <;> omega
 show IntKind.u64.wrap (((BitVec.ofInt 64 (m : Int) &&& BitVec.ofInt 64 (n : Int)).toNat : Nat) : Int) = _
 rw [h]
 exact wrap_u64 (Nat.lt_of_le_of_lt Nat.and_le_left hm)
theorem or_u64 {m n : Nat} (hm : m < 2 ^ 64) (hn : n < 2 ^ 64) : bitsOf .u64 (fun x y => x ||| y) (m : Int) (n : Int) = ((m ||| n : Nat) : Int) := by
 have h : (BitVec.ofInt 64 (m : Int) ||| BitVec.ofInt 64 (n : Int)).toNat = m ||| n := by
  rw [BitVec.toNat_or, BitVec.toNat_ofInt, BitVec.toNat_ofInt]
  congr 1 <;> omega
 show IntKind.u64.wrap (((BitVec.ofInt 64 (m : Int) ||| BitVec.ofInt 64 (n : Int)).toNat : Nat) : Int) = _
 rw [h]
 exact wrap_u64 (Nat.or_lt_two_pow hm hn)
theorem shr_u64 (m k : Nat) (hk : k < 64) : shiftInt .u64 .shr (m : Int) (k : Int) = ((m >>> k : Nat) : Int) := by
 simp only [shiftInt, Int.toNat_natCast, IntKind.bits]
 rw [Nat.min_eq_left (by omega), Nat.shiftRight_eq_div_pow, Int.fdiv_eq_ediv_of_nonneg _ (by exact Int.le_of_lt (Int.pow_pos (by omega)))]
 simp
theorem shl_u64 (k : Nat) (hk : k < 64) : shiftInt .u64 .shl 1 (k : Int) = ((1 <<< k : Nat) : Int) := by
 simp only [shiftInt, Int.toNat_natCast, IntKind.bits]
 have hlt : 1 <<< k < 2 ^ 64 := by
  rw [Nat.one_shiftLeft]
  exact Nat.pow_lt_pow_right (by omega) hk
 have he : (1 : Int) * (2 : Int) ^ k = ((1 <<< k : Nat) : Int) := by
  rw [Nat.one_shiftLeft]
  simp
 rw [Nat.min_eq_left (by omega), he]
 exact wrap_u64 hlt
theorem bit_iff (m k : Nat) : decide (((m >>> k &&& 1 : Nat) : Int) = 1) = m.testBit k := by
 rw [Nat.testBit_eq_decide_div_mod_eq, Nat.and_one_is_mod, Nat.shiftRight_eq_div_pow]
 congr 1
 apply propext
 omega
theorem shr_lt {m k : Nat} (h : m < 2 ^ 64) : m >>> k < 2 ^ 64 := by
 rw [Nat.shiftRight_eq_div_pow]
 exact Nat.lt_of_le_of_lt (Nat.div_le_self _ _) h
theorem quo64 {k : Nat} : (k : Int).tdiv 64 = ((k / 64 : Nat) : Int) := by
 rw [Int.tdiv_eq_ediv_of_nonneg (by omega)]
 omega
theorem rem64 {k : Nat} : (k : Int).tmod 64 = ((k % 64 : Nat) : Int) := by
 rw [Int.tmod_eq_emod_of_nonneg (by omega)]
 omega
theorem one_cast : ((1 : Nat) : Int) = 1 := rfl
theorem has_spec (s : Bs) (hs : s.fit) (k : Nat) (hk : k < 128) : PCall Try.prog 93 [s.enc, aI k] (.v (.bool (s.has k))) := by
 obtain ⟨ha, hb⟩ := hs
 have z64 : ((64 : Int) = 0) = False := by simp
 have hmod : k % 64 < 64 := Nat.mod_lt _ (by omega)
 have q1 := quo64 (k := k)
 have q2 := rem64 (k := k)
 obtain ⟨x, hx, hxe⟩ : ∃ x : Nat, x < 2 ^ 64 ∧ x = if k < 64 then s.a else s.b := by
  split
  ·exact ⟨_, ha, rfl⟩
  exact ⟨_, hb, rfl⟩
 have hr : s.has k = x.testBit (k % 64) := by
  rw [hxe]
  unfold Bs.has
  split
  ·rw [Nat.mod_eq_of_lt (by assumption)]
  rw [show k % 64 = k - 64 by omega]
 have e1 := shr_u64 x (k % 64) hmod
 have hsl := shr_lt (k := k % 64) hx
 have e2 := and_u64 (m := x >>> (k % 64)) (n := 1) hsl (by omega)
 have e3 := bit_iff x (k % 64)
 rw [one_cast] at e2
 have hal : x >>> (k % 64) &&& 1 ≤ 1 := Nat.and_le_right
 rw [hr, ← e3]
 generalize hy : x >>> (k % 64) = y at *
 generalize hw : y &&& 1 = w at *
 rcases (show k / 64 = 0 ∧ x = s.a ∨ k / 64 = 1 ∧ x = s.b by
  by_cases h : k < 64
  ·exact .inl ⟨by omega, by rw [hxe, if_pos h]⟩
  exact .inr ⟨by omega, by rw [hxe, if_neg h]⟩) with ⟨hq, hxs⟩ | ⟨hq, hxs⟩
 all_goals
  rw [hq] at q1
  subst hxs
  refine zf true 0 Try.func93 Try.ntmps93 ?_
  dsimp only [Tmp, TypeId, slotsOf]
  refine zg1 ?_
  simp -dsimp only [simprocAttr, ↓vpre, zp, Bs.enc_cells, Bs.enc_flat]
  refine za0 ?_
  refine zg1 ?_
  simp -dsimp only [simprocAttr, ↓vpre, zp, q1, q2, z64, if_false, e1, e2]
  repeat (refine ⟨by omega, ?_⟩)
  refine za0 ?_
  refine awp_ret ?_
  simp -dsimp only [simprocAttr, ↓vpre, zp, zr, Try.results93]
theorem both_spec (s t : Bs) (hs : s.fit) (ht : t.fit) : PCall Try.prog 122 [s.enc, t.enc] (s.meet t).enc := by
 obtain ⟨ha, hb⟩ := hs
 obtain ⟨hc, hd⟩ := ht
 have e1 := and_u64 ha hc
 have e2 := and_u64 hb hd
 have l1 : s.a &&& t.a < 2 ^ 64 := Nat.lt_of_le_of_lt Nat.and_le_left ha
 have l2 : s.b &&& t.b < 2 ^ 64 := Nat.lt_of_le_of_lt Nat.and_le_left hb
 unfold Bs.meet
 generalize s.a &&& t.a = p at *
 generalize s.b &&& t.b = q at *
 refine zf true 0 Try.func122 Try.ntmps122 ?_
 dsimp only [Tmp, TypeId, slotsOf]
 refine zg1 ?_
 simp -dsimp only [simprocAttr, ↓vpre, zp, Bs.enc_cells, Bs.enc_flat]
 refine za0 ?_
 refine zg1 ?_
 simp -dsimp only [simprocAttr, ↓vpre, zp, e1, e2]
 repeat (refine ⟨by omega, ?_⟩)
 refine za0 ?_
 refine awp_ret ?_
 simp -dsimp only [simprocAttr, ↓vpre, zp, zr, Try.results122]
 exact ⟨⟨trivial, trivial, trivial⟩, rfl⟩
theorem with_spec (s : Bs) (hs : s.fit) (k : Nat) (hk : k < 128) : PCall Try.prog 121 [s.enc, aI k] (s.add k).enc := by
 obtain ⟨ha, hb⟩ := hs
 have z64 : ((64 : Int) = 0) = False := by simp
 have hmod : k % 64 < 64 := Nat.mod_lt _ (by omega)
 have q1 := quo64 (k := k)
 have q2 := rem64 (k := k)
 have e1 := shl_u64 (k % 64) hmod
 have hlt : 1 <<< (k % 64) < 2 ^ 64 := by
  rw [Nat.one_shiftLeft]
  exact Nat.pow_lt_pow_right (by omega) hmod
 rcases (show k < 64 ∨ 64 ≤ k by omega) with h | h
 ·have hq : k / 64 = 0 := by omega
  have hr : s.add k = ⟨s.a ||| 1 <<< (k % 64), s.b⟩ := by
   simp [Bs.add, h, Nat.mod_eq_of_lt h]
  have e2 := or_u64 ha hlt
  have l1 : s.a ||| 1 <<< (k % 64) < 2 ^ 64 := Nat.or_lt_two_pow ha hlt
  rw [hr]
  rw [hq] at q1
  generalize hy : 1 <<< (k % 64) = y at *
  generalize hw : s.a ||| y = w at *
  refine zf true 0 Try.func121 Try.ntmps121 ?_
  dsimp only [Tmp, TypeId, slotsOf]
  refine zg1 ?_
  simp -dsimp only [simprocAttr, ↓vpre, zp, Bs.enc_cells, Bs.enc_flat]
  refine za0 ?_
  refine zg1 ?_
  simp -dsimp only [simprocAttr, ↓vpre, zp, q1, q2, z64, if_false, e1, e2]
  repeat (refine ⟨by omega, ?_⟩)
  refine ⟨ob (by kernel_rfl), ?_⟩
  refine za0 ?_
  refine zh1 (za0 ?_)
  refine awp_ret ?_
  simp -dsimp only [simprocAttr, ↓vpre, zp, zr, Try.results121]
  exact ⟨⟨trivial, trivial, trivial⟩, rfl⟩
 have hq : k / 64 = 1 := by omega
 have hr : s.add k = ⟨s.a, s.b ||| 1 <<< (k % 64)⟩ := by
  have hne : ¬ k < 64 := by omega
  simp [Bs.add, hne, show k % 64 = k - 64 by omega]
 have e2 := or_u64 hb hlt
 have l1 : s.b ||| 1 <<< (k % 64) < 2 ^ 64 := Nat.or_lt_two_pow hb hlt
 rw [hr]
 rw [hq] at q1
 generalize hy : 1 <<< (k % 64) = y at *
 generalize hw : s.b ||| y = w at *
 refine zf true 0 Try.func121 Try.ntmps121 ?_
 dsimp only [Tmp, TypeId, slotsOf]
 refine zg1 ?_
 simp -dsimp only [simprocAttr, ↓vpre, zp, Bs.enc_cells, Bs.enc_flat]
 refine za0 ?_
 refine zg1 ?_
 simp -dsimp only [simprocAttr, ↓vpre, zp, q1, q2, z64, if_false, e1, e2]
 repeat (refine ⟨by omega, ?_⟩)
 refine ⟨ob (by kernel_rfl), ?_⟩
 refine za0 ?_
 refine zh1 (za0 ?_)
 refine awp_ret ?_
 simp -dsimp only [simprocAttr, ↓vpre, zp, zr, Try.results121]
 exact ⟨⟨trivial, trivial, trivial⟩, rfl⟩
namespace Bs
theorem has_meet (s t : Bs) (k : Nat) : (s.meet t).has k = (s.has k && t.has k) := by
  unfold has meet
  split <;> simp [Nat.testBit_and]
theorem has_add (s : Bs) (j k : Nat) (hj : j < 128) (hk : k < 128) : (s.add j).has k = (s.has k || decide (k = j)) := by
  unfold has add
  by_cases h1 : j < 64 <;> by_cases h2 : k < 64
  · simp only [h1, h2, if_true, Nat.testBit_or, Nat.one_shiftLeft, Nat.testBit_two_pow]
    congr 1
    apply decide_eq_decide.2
    omega
  · simp only [h1, h2, if_true, if_false]
    have : ¬ k = j := by omega
    simp [this]
  · simp only [h1, h2, if_true, if_false]
    have : ¬ k = j := by omega
    simp [this]
  simp only [h1, h2, if_false, Nat.testBit_or, Nat.one_shiftLeft, Nat.testBit_two_pow]
  congr 1
  apply decide_eq_decide.2
  omega
theorem fit_meet {s t : Bs} (h : s.fit) : (s.meet t).fit := ⟨Nat.lt_of_le_of_lt Nat.and_le_left h.1, Nat.lt_of_le_of_lt Nat.and_le_left h.2⟩
theorem fit_add {s : Bs} (h : s.fit) {k : Nat} (hk : k < 128) : (s.add k).fit := by
  unfold add
  split
  · refine ⟨Nat.or_lt_two_pow h.1 ?_, h.2⟩
    rw [Nat.one_shiftLeft]
    exact Nat.pow_lt_pow_right (by omega) (by assumption)
  refine ⟨h.1, Nat.or_lt_two_pow h.2 ?_⟩
  rw [Nat.one_shiftLeft]
  exact Nat.pow_lt_pow_right (by omega) (by omega)
theorem fit_none : none.fit := ⟨by decide, by decide⟩
theorem ext {s t : Bs} (hs : s.fit) (ht : t.fit) (h : ∀ k, k < 128 → s.has k = t.has k) : s = t := by
  obtain ⟨a, b⟩ := s
  obtain ⟨c, d⟩ := t
  obtain ⟨s1, s2⟩ := hs
  obtain ⟨t1, t2⟩ := ht
  simp only at s1 s2 t1 t2
  have hlt : ∀ {m k : Nat}, m < 2 ^ 64 → 64 ≤ k → m.testBit k = false := fun hm hk => Nat.testBit_lt_two_pow (Nat.lt_of_lt_of_le hm (Nat.pow_le_pow_right (by omega) hk))
  congr 1
  · apply Nat.eq_of_testBit_eq
    intro k
    by_cases hk : k < 64
    · have := h k (by omega)
      simpa [has, hk] using this
    rw [hlt s1 (by omega), hlt t1 (by omega)]
  apply Nat.eq_of_testBit_eq
  intro k
  by_cases hk : k < 64
  · have := h (k + 64) (by omega)
    simpa [has, show ¬ k + 64 < 64 by omega] using this
  rw [hlt s2 (by omega), hlt t2 (by omega)]
def size (s : Bs) : Nat := (List.range 128).countP s.has
theorem countP_le {p q : Nat → Bool} (h : ∀ k, k < 128 → p k = true → q k = true) : ∀ n ≤ 128, (List.range n).countP p ≤ (List.range n).countP q
  | 0, _ => by simp
  | n + 1, hn => by
    have ih := countP_le h n (by omega)
    rw [List.range_succ, List.countP_append, List.countP_append]
    have : [n].countP p ≤ [n].countP q := by
      simp only [List.countP_singleton]
      by_cases hp : p n = true
      · simp [hp, h n (by omega) hp]
      simp [hp]
    omega
theorem countP_lt {p q : Nat → Bool} (h : ∀ k, k < 128 → p k = true → q k = true) {j : Nat} (hq : q j = true) (hp : p j = false) : ∀ n ≤ 128, j < n → (List.range n).countP p < (List.range n).countP q
  | 0, _, hj => by omega
  | n + 1, hn, hj => by
    rw [List.range_succ, List.countP_append, List.countP_append]
    by_cases e : j = n
    · subst e
      have := countP_le h j (by omega)
      simp only [List.countP_singleton, hq, hp]
      simp
      omega
    have ih := countP_lt h hq hp n (by omega) (by omega)
    have : [n].countP p ≤ [n].countP q := by
      simp only [List.countP_singleton]
      by_cases hpn : p n = true
      · simp [hpn, h n (by omega) hpn]
      simp [hpn]
    omega
theorem size_lt {s t : Bs} (hs : s.fit) (ht : t.fit) (h : ∀ k, k < 128 → s.has k = true → t.has k = true) (hne : s ≠ t) : s.size < t.size := by
  by_cases hall : ∀ k, k < 128 → t.has k = true → s.has k = true
  · exfalso
    apply hne
    apply ext hs ht
    intro k hk
    cases h1 : s.has k <;> cases h2 : t.has k
    · rfl
    · exact absurd (hall k hk h2) (by simp [h1])
    · exact absurd (h k hk h1) (by simp [h2])
    rfl
  obtain ⟨j, hj, h2, h1⟩ : ∃ j, j < 128 ∧ t.has j = true ∧ ¬ s.has j = true := by
    refine Classical.byContradiction fun q => hall fun k hk h2 => ?_
    refine Classical.byContradiction fun h1 => q ⟨k, hk, h2, h1⟩
  exact countP_lt h h2 (by simpa using h1) 128 (Nat.le_refl _) hj
theorem size_le_all (s : Bs) : s.size ≤ 128 := by
  have := List.countP_le_length (p := s.has) (l := List.range 128)
  simpa [size] using this
end Bs
structure Ds where
  over : List Bs
  seen : Bs
  again : Bool
def Ds.at_ (S : Ds) (k : Nat) : Bs := S.over[k]?.getD .none
def domE (k : Nat) (S : Ds) (e : Edge) : Ds :=
  let next := ((S.at_ e.block.toNat).meet (S.at_ k)).add e.block.toNat
  if next ≠ S.at_ e.block.toNat ∨ S.seen.has e.block.toNat = false then ⟨S.over.set e.block.toNat next, S.seen.add e.block.toNat, true⟩ else S
def domB (k : Nat) (S : Ds) (b : Block) : Ds := if S.seen.has k = false then S else b.term.to.foldl (domE k) S
def domR : Nat → Ds → List Block → Ds
  | _, S, [] => S
  | k, S, b :: r => domR (k + 1) (domB k S b) r
def domI (f : Func) : Nat → Ds → Ds
  | 0, S => S
  | n + 1, S => if S.again then domI f n (domR 0 ⟨S.over, S.seen, false⟩ f.blocks) else S
def allB : Nat → Bs
  | 0 => .none
  | n + 1 => (allB n).add n
def domS (f : Func) : Ds := ⟨(List.replicate f.blocks.length (allB f.blocks.length)).set 0 (Bs.none.add 0), Bs.none.add 0, true⟩
def domM (f : Func) : List Bs × Bs := ((domI f 20000 (domS f)).over, (domI f 20000 (domS f)).seen)
structure DsOK (n : Nat) (S : Ds) : Prop where
  few : n ≤ 128
  len : S.over.length = n
  fit : ∀ s ∈ S.over, s.fit
  seen : S.seen.fit
  self : ∀ k, k < n → (S.at_ k).has k = true
def Ds.weight (S : Ds) : Nat := (S.over.map Bs.size).sum + (128 - S.seen.size)
theorem DsOK.at_fit {n : Nat} {S : Ds} (h : DsOK n S) (k : Nat) : (S.at_ k).fit := by
  unfold Ds.at_
  cases hk : S.over[k]? with
  | none => exact Bs.fit_none
  | some s => exact h.fit s (List.mem_of_getElem? hk)
theorem sum_set {l : List Nat} {k x y : Nat} (h : l[k]? = some y) : (l.set k x).sum + y = l.sum + x := by
  induction l generalizing k with
  | nil => simp at h
  | cons a r ih =>
    cases k with
    | zero =>
      simp only [List.getElem?_cons_zero, Option.some.injEq] at h
      simp only [List.set_cons_zero, List.sum_cons]
      omega
    | succ k =>
      have := ih (k := k) (by simpa using h)
      simp only [List.set_cons_succ, List.sum_cons]
      omega
theorem domE_ok {n : Nat} {S : Ds} (h : DsOK n S) {k : Nat} {e : Edge} (he0 : 0 ≤ e.block) (he1 : e.block.toNat < n) : DsOK n (domE k S e) ∧ (domE k S e).weight ≤ S.weight ∧ ((domE k S e).again = true → S.again = true ∨ (domE k S e).weight < S.weight) := by
  have hj : e.block.toNat < 128 := Nat.lt_of_lt_of_le he1 h.few
  unfold domE
  simp only
  generalize e.block.toNat = j at *
  have hfj := h.at_fit j
  have hfn : (((S.at_ j).meet (S.at_ k)).add j).fit := Bs.fit_add (Bs.fit_meet hfj) hj
  have hsub : ∀ i, i < 128 → (((S.at_ j).meet (S.at_ k)).add j).has i = true → (S.at_ j).has i = true := fun i hi q => by
    rw [Bs.has_add _ _ _ hj hi, Bs.has_meet] at q
    by_cases e : i = j
    · subst e
      exact h.self i he1
    simp [e] at q
    exact q.1
  have hat : S.over[j]? = some (S.at_ j) := by
    have : j < S.over.length := by rw [h.len]; exact he1
    simp [Ds.at_, this]
  split
  · rename_i hc
    refine ⟨⟨h.few, by simp [h.len], fun s hs => ?_, Bs.fit_add h.seen hj, fun i hi => ?_⟩, ?_⟩
    · rcases List.mem_or_eq_of_mem_set hs with q | q
      · exact h.fit s q
      rw [q]
      exact hfn
    · unfold Ds.at_
      by_cases e : i = j
      · subst e
        rw [List.getElem?_set_self (by rw [h.len]; exact hi)]
        simp only [Option.getD_some]
        rw [Bs.has_add _ _ _ hj hj]
        simp
      rw [List.getElem?_set_ne (Ne.symm e)]
      exact h.self i hi
    have hw1 := sum_set (l := S.over.map Bs.size) (k := j) (x := (((S.at_ j).meet (S.at_ k)).add j).size) (y := (S.at_ j).size) (by simp [hat])
    rw [← List.map_set] at hw1
    have hle : (((S.at_ j).meet (S.at_ k)).add j).size ≤ (S.at_ j).size := Bs.countP_le hsub 128 (Nat.le_refl _)
    have hsl : S.seen.size ≤ (S.seen.add j).size := Bs.countP_le (fun i hi q => by rw [Bs.has_add _ _ _ hj hi, q]; rfl) 128 (Nat.le_refl _)
    have ha := Bs.size_le_all (S.seen.add j)
    have hlt : (((S.at_ j).meet (S.at_ k)).add j).size < (S.at_ j).size ∨ S.seen.size < (S.seen.add j).size := by
      rcases hc with hc | hc
      · exact .inl (Bs.size_lt hfn hfj hsub hc)
      refine .inr (Bs.countP_lt (fun i hi q => by rw [Bs.has_add _ _ _ hj hi, q]; rfl) (j := j) ?_ hc 128 (Nat.le_refl _) hj)
      rw [Bs.has_add _ _ _ hj hj]
      simp
    simp only [Ds.weight]
    refine ⟨by omega, fun _ => .inr (by omega)⟩
  exact ⟨h, Nat.le_refl _, fun q => .inl q⟩
theorem domF_ok {n : Nat} {k : Nat} : ∀ (l : List Edge) {S : Ds}, DsOK n S → (∀ e ∈ l, 0 ≤ e.block ∧ e.block.toNat < n) → DsOK n (l.foldl (domE k) S) ∧ (l.foldl (domE k) S).weight ≤ S.weight ∧ ((l.foldl (domE k) S).again = true → S.again = true ∨ (l.foldl (domE k) S).weight < S.weight)
  | [], S, h, _ => ⟨h, Nat.le_refl _, fun q => .inl q⟩
  | e :: r, S, h, he => by
    obtain ⟨a1, a2, a3⟩ := domE_ok (k := k) h (he e (by simp)).1 (he e (by simp)).2
    obtain ⟨b1, b2, b3⟩ := domF_ok r a1 (fun x hx => he x (by simp [hx]))
    simp only [List.foldl_cons]
    refine ⟨b1, by omega, fun q => ?_⟩
    rcases b3 q with q | q
    · rcases a3 q with q | q
      · exact .inl q
      exact .inr (by omega)
    exact .inr (by omega)
theorem domB_ok {n : Nat} {k : Nat} {b : Block} {S : Ds} (h : DsOK n S) (he : ∀ e ∈ b.term.to, 0 ≤ e.block ∧ e.block.toNat < n) : DsOK n (domB k S b) ∧ (domB k S b).weight ≤ S.weight ∧ ((domB k S b).again = true → S.again = true ∨ (domB k S b).weight < S.weight) := by
  unfold domB
  split
  · exact ⟨h, Nat.le_refl _, fun q => .inl q⟩
  exact domF_ok _ h he
theorem domR_ok {n : Nat} : ∀ (l : List Block) {k : Nat} {S : Ds}, DsOK n S → (∀ b ∈ l, ∀ e ∈ b.term.to, 0 ≤ e.block ∧ e.block.toNat < n) → DsOK n (domR k S l) ∧ (domR k S l).weight ≤ S.weight ∧ ((domR k S l).again = true → S.again = true ∨ (domR k S l).weight < S.weight)
  | [], k, S, h, _ => ⟨h, Nat.le_refl _, fun q => .inl q⟩
  | b :: r, k, S, h, he => by
    obtain ⟨a1, a2, a3⟩ := domB_ok (k := k) h (he b (by simp))
    obtain ⟨b1, b2, b3⟩ := domR_ok r (k := k + 1) a1 (fun x hx => he x (by simp [hx]))
    simp only [domR]
    refine ⟨b1, by omega, fun q => ?_⟩
    rcases b3 q with q | q
    · rcases a3 q with q | q
      · exact .inl q
      exact .inr (by omega)
    exact .inr (by omega)
instance (n : Int) : Decidable (isW n) := by
 unfold isW
 infer_instance
theorem isWord_spec (n : Int) : PCall Try.prog 120 [aI n] (.v (.bool (decide (isW n)))) := by
 have hw := within_spec n (-1073741824) 1073741823
 refine zf true 0 Try.func120 Try.ntmps120 ?_
 dsimp only [Tmp, TypeId, slotsOf]
 refine zh1 (za0 ?_)
 refine zh1 ?_
 refine zi hw ?_
 refine za0 ?_
 refine awp_ret ?_
 simp -dsimp only [simprocAttr, ↓vpre, zp, zr, Try.results120]
 simp only [within, isW]
 by_cases h1 : -1073741824 ≤ n <;> by_cases h2 : n ≤ 1073741823 <;> simp [h1, h2]
def operandsM (i : Ins) : Int × Bool :=
 if i.op = 0 then (0, true)
 else if (1 ≤ i.op ∧ i.op ≤ 7) ∨ i.op = 16 ∨ i.op = 18 ∨ i.op = 19 ∨ i.op = 21 ∨ i.op = 23 then (2, true)
 else if i.op = 20 then (3, true)
 else if i.op = 10 ∨ i.op = 11 ∨ i.op = 12 ∨ i.op = 15 ∨ i.op = 17 ∨ i.op = 24 then (1, true)
 else if i.op = 8 ∨ i.op = 9 ∨ i.op = 13 ∨ i.op = 14 then (-1, true)
 else if i.op = 22 then (i.n, decide (i.n = 2 ∨ i.n = 4))
 else (0, false)
def numberM (i : Ins) : Bool :=
 if i.op = 0 then decide (isW i.n)
 else if i.op = 8 then within i.n 0 255
 else if i.op = 11 then within i.n 0 15
 else if i.op = 9 ∨ i.op = 13 then within i.n 0 255
 else if i.op = 23 then decide (i.n = 1 ∨ i.n = 2 ∨ i.n = 3)
 else if i.op = 24 then within i.n 0 3
 else if i.op = 22 then true
 else decide (i.n = 0)
theorem operands_0 (i : Ins) (hop : i.op = 0) : PCall Try.prog 117 [i.enc] (.tup [aI (operandsM i).1, .v (.bool (operandsM i).2)]) := by
 have hr : operandsM i = (0, true) := by
  unfold operandsM
  rw [if_pos (by omega)]
 rw [hr]
 refine zf true 0 Try.func117 Try.ntmps117 ?_
 dsimp only [Tmp, TypeId, slotsOf]
 refine zh1 (za0 ?_)
 refine zh2 (za0 ?_)
 refine awp_block ?_
 refine zh1 (za0 ?_)
 apply zk0 rfl <;> intro h
 ·refine zh1 (za0 ?_)
  refine awp_ret ?_
  simp -dsimp only [simprocAttr, ↓vpre, zp, zr, Try.results117]
  simp [uptoL, AVal.upto]
 exact af h (by omega)
theorem operands_1 (i : Ins) (hop : (1 ≤ i.op ∧ i.op ≤ 7) ∨ i.op = 16 ∨ i.op = 18 ∨ i.op = 19 ∨ i.op = 21 ∨ i.op = 23) : PCall Try.prog 117 [i.enc] (.tup [aI (operandsM i).1, .v (.bool (operandsM i).2)]) := by
 have hr : operandsM i = (2, true) := by
  unfold operandsM
  rw [if_neg (by omega), if_pos (by omega)]
 rw [hr]
 refine zf true 0 Try.func117 Try.ntmps117 ?_
 dsimp only [Tmp, TypeId, slotsOf]
 refine zh1 (za0 ?_)
 refine zh2 (za0 ?_)
 refine awp_block ?_
 refine zh1 (za0 ?_)
 apply zk0 rfl <;> intro h
 ·exact ab h (by omega)
 refine zh2 (za0 ?_)
 refine awp_mid0 (⟨47, [(1, .mp 0 0), (2, aI 0), (3, .v (.bool false)), (5, aI i.op), (8, .v (.bool true))], [.cells [aI i.to, aI i.op, aI i.n, eIs i.args]]⟩) ?_ ?_
 ·apply zk0 rfl <;> intro h
  ·refine awp_skip ?_
   show Covers _ _
   refine zq rfl ?_ ?_
   simp -dsimp only [simprocAttr, ↓vpre, zp, zc]
   ·exact Sub.of_eq (by rw [h])
   rfl
  refine zh1 (za0 ?_)
  apply zk0 rfl <;> intro h
  ·refine awp_skip ?_
   show Covers _ _
   refine zq rfl ?_ ?_
   simp -dsimp only [simprocAttr, ↓vpre, zp, zc]
   ·exact Sub.of_eq (by rw [h])
   rfl
  refine zh1 (za0 ?_)
  apply zk0 rfl <;> intro h
  ·refine awp_skip ?_
   show Covers _ _
   refine zq rfl ?_ ?_
   simp -dsimp only [simprocAttr, ↓vpre, zp, zc]
   ·exact Sub.of_eq (by rw [h])
   rfl
  refine zh1 (za0 ?_)
  apply zk0 rfl <;> intro h
  ·refine awp_skip ?_
   show Covers _ _
   refine zq rfl ?_ ?_
   simp -dsimp only [simprocAttr, ↓vpre, zp, zc]
   ·exact Sub.of_eq (by rw [h])
   rfl
  refine zh1 (za0 ?_)
  apply zk0 rfl <;> intro h
  ·refine awp_skip ?_
   show Covers _ _
   refine zq rfl ?_ ?_
   simp -dsimp only [simprocAttr, ↓vpre, zp, zc]
   ·exact Sub.of_eq (by rw [h])
   rfl
  refine zh1 (za0 ?_)
  apply zk0 rfl <;> intro h
  ·refine awp_skip ?_
   show Covers _ _
   refine zq rfl ?_ ?_
   simp -dsimp only [simprocAttr, ↓vpre, zp, zc]
   ·exact Sub.of_eq (by rw [h])
   rfl
  refine zh1 (za0 ?_)
  apply zk0 rfl <;> intro h
  ·refine awp_skip ?_
   show Covers _ _
   refine zq rfl ?_ ?_
   simp -dsimp only [simprocAttr, ↓vpre, zp, zc]
   ·exact Sub.of_eq (by rw [h])
   rfl
  refine zh1 (za0 ?_)
  apply zk0 rfl <;> intro h
  ·refine awp_skip ?_
   show Covers _ _
   refine zq rfl ?_ ?_
   simp -dsimp only [simprocAttr, ↓vpre, zp, zc]
   ·exact Sub.of_eq (by rw [h])
   rfl
  refine zh1 (za0 ?_)
  apply zk0 rfl <;> intro h
  ·refine awp_skip ?_
   show Covers _ _
   refine zq rfl ?_ ?_
   simp -dsimp only [simprocAttr, ↓vpre, zp, zc]
   ·exact Sub.of_eq (by rw [h])
   rfl
  refine zh1 (za0 ?_)
  apply zk0 rfl <;> intro h
  ·refine awp_skip ?_
   show Covers _ _
   refine zq rfl ?_ ?_
   simp -dsimp only [simprocAttr, ↓vpre, zp, zc]
   ·exact Sub.of_eq (by rw [h])
   rfl
  refine zh1 (za0 ?_)
  apply zk0 rfl <;> intro h
  ·refine awp_skip ?_
   show Covers _ _
   refine zq rfl ?_ ?_
   simp -dsimp only [simprocAttr, ↓vpre, zp, zc]
   ·exact Sub.of_eq (by rw [h])
   rfl
  refine zh0 ?_
  refine at_intro ?_
  show Covers _ _
  refine zq rfl ?_ ?_
  simp -dsimp only [simprocAttr, ↓vpre, zp, zc]
  ·exact Sub.of_eq (by rw [decide_eq_true (show i.op = 23 by simp only [decide_eq_false_iff_not] at *; omega)])
  rfl
 refine zw0 rfl ?_
 refine zh1 (za0 ?_)
 refine awp_ret ?_
 simp -dsimp only [simprocAttr, ↓vpre, zp, zr, Try.results117]
 simp [uptoL, AVal.upto]
theorem operands_2 (i : Ins) (hop : i.op = 20) : PCall Try.prog 117 [i.enc] (.tup [aI (operandsM i).1, .v (.bool (operandsM i).2)]) := by
 have hr : operandsM i = (3, true) := by
  unfold operandsM
  rw [if_neg (by omega), if_neg (by omega), if_pos (by omega)]
 rw [hr]
 refine zf true 0 Try.func117 Try.ntmps117 ?_
 dsimp only [Tmp, TypeId, slotsOf]
 refine zh1 (za0 ?_)
 refine zh2 (za0 ?_)
 refine awp_block ?_
 refine zh1 (za0 ?_)
 apply zk0 rfl <;> intro h
 ·exact ab h (by omega)
 refine zh2 (za0 ?_)
 apply zk0 rfl <;> intro h
 ·exact ab h (by omega)
 refine zh1 (za0 ?_)
 apply zk0 rfl <;> intro h
 ·exact ab h (by omega)
 refine zh1 (za0 ?_)
 apply zk0 rfl <;> intro h
 ·exact ab h (by omega)
 refine zh1 (za0 ?_)
 apply zk0 rfl <;> intro h
 ·exact ab h (by omega)
 refine zh1 (za0 ?_)
 apply zk0 rfl <;> intro h
 ·exact ab h (by omega)
 refine zh1 (za0 ?_)
 apply zk0 rfl <;> intro h
 ·exact ab h (by omega)
 refine zh1 (za0 ?_)
 apply zk0 rfl <;> intro h
 ·exact ab h (by omega)
 refine zh1 (za0 ?_)
 apply zk0 rfl <;> intro h
 ·exact ab h (by omega)
 refine zh1 (za0 ?_)
 apply zk0 rfl <;> intro h
 ·exact ab h (by omega)
 refine zh1 (za0 ?_)
 apply zk0 rfl <;> intro h
 ·exact ab h (by omega)
 refine zh1 (za0 ?_)
 apply zk0 rfl <;> intro h
 ·exact ab h (by omega)
 refine zh0 (za0 ?_)
 apply zk0 rfl <;> intro h
 ·exact ab h (by omega)
 refine zh1 (za0 ?_)
 apply zk0 rfl <;> intro h
 ·refine zh1 (za0 ?_)
  refine awp_ret ?_
  simp -dsimp only [simprocAttr, ↓vpre, zp, zr, Try.results117]
  simp [uptoL, AVal.upto]
 exact af h (by omega)
theorem operands_3 (i : Ins) (hop : i.op = 10 ∨ i.op = 11 ∨ i.op = 12 ∨ i.op = 15 ∨ i.op = 17 ∨ i.op = 24) : PCall Try.prog 117 [i.enc] (.tup [aI (operandsM i).1, .v (.bool (operandsM i).2)]) := by
 have hr : operandsM i = (1, true) := by
  unfold operandsM
  rw [if_neg (by omega), if_neg (by omega), if_neg (by omega), if_pos (by omega)]
 rw [hr]
 refine zf true 0 Try.func117 Try.ntmps117 ?_
 dsimp only [Tmp, TypeId, slotsOf]
 refine zh1 (za0 ?_)
 refine zh2 (za0 ?_)
 refine awp_block ?_
 refine zh1 (za0 ?_)
 apply zk0 rfl <;> intro h
 ·exact ab h (by omega)
 refine zh2 (za0 ?_)
 apply zk0 rfl <;> intro h
 ·exact ab h (by omega)
 refine zh1 (za0 ?_)
 apply zk0 rfl <;> intro h
 ·exact ab h (by omega)
 refine zh1 (za0 ?_)
 apply zk0 rfl <;> intro h
 ·exact ab h (by omega)
 refine zh1 (za0 ?_)
 apply zk0 rfl <;> intro h
 ·exact ab h (by omega)
 refine zh1 (za0 ?_)
 apply zk0 rfl <;> intro h
 ·exact ab h (by omega)
 refine zh1 (za0 ?_)
 apply zk0 rfl <;> intro h
 ·exact ab h (by omega)
 refine zh1 (za0 ?_)
 apply zk0 rfl <;> intro h
 ·exact ab h (by omega)
 refine zh1 (za0 ?_)
 apply zk0 rfl <;> intro h
 ·exact ab h (by omega)
 refine zh1 (za0 ?_)
 apply zk0 rfl <;> intro h
 ·exact ab h (by omega)
 refine zh1 (za0 ?_)
 apply zk0 rfl <;> intro h
 ·exact ab h (by omega)
 refine zh1 (za0 ?_)
 apply zk0 rfl <;> intro h
 ·exact ab h (by omega)
 refine zh0 (za0 ?_)
 apply zk0 rfl <;> intro h
 ·exact ab h (by omega)
 refine zh1 (za0 ?_)
 apply zk0 rfl <;> intro h
 ·exact ab h (by omega)
 refine zh2 (za0 ?_)
 refine awp_mid0 (⟨47, [(1, .mp 0 0), (2, aI 0), (3, .v (.bool false)), (5, aI i.op), (23, .v (.bool true))], [.cells [aI i.to, aI i.op, aI i.n, eIs i.args]]⟩) ?_ ?_
 ·apply zk0 rfl <;> intro h
  ·refine awp_skip ?_
   show Covers _ _
   refine zq rfl ?_ ?_
   simp -dsimp only [simprocAttr, ↓vpre, zp, zc]
   ·exact Sub.of_eq (by rw [h])
   rfl
  refine zh1 (za0 ?_)
  apply zk0 rfl <;> intro h
  ·refine awp_skip ?_
   show Covers _ _
   refine zq rfl ?_ ?_
   simp -dsimp only [simprocAttr, ↓vpre, zp, zc]
   ·exact Sub.of_eq (by rw [h])
   rfl
  refine zh1 (za0 ?_)
  apply zk0 rfl <;> intro h
  ·refine awp_skip ?_
   show Covers _ _
   refine zq rfl ?_ ?_
   simp -dsimp only [simprocAttr, ↓vpre, zp, zc]
   ·exact Sub.of_eq (by rw [h])
   rfl
  refine zh1 (za0 ?_)
  apply zk0 rfl <;> intro h
  ·refine awp_skip ?_
   show Covers _ _
   refine zq rfl ?_ ?_
   simp -dsimp only [simprocAttr, ↓vpre, zp, zc]
   ·exact Sub.of_eq (by rw [h])
   rfl
  refine zh1 (za0 ?_)
  apply zk0 rfl <;> intro h
  ·refine awp_skip ?_
   show Covers _ _
   refine zq rfl ?_ ?_
   simp -dsimp only [simprocAttr, ↓vpre, zp, zc]
   ·exact Sub.of_eq (by rw [h])
   rfl
  refine zh0 ?_
  refine at_intro ?_
  show Covers _ _
  refine zq rfl ?_ ?_
  simp -dsimp only [simprocAttr, ↓vpre, zp, zc]
  ·exact Sub.of_eq (by rw [decide_eq_true (show i.op = 24 by simp only [decide_eq_false_iff_not] at *; omega)])
  rfl
 refine zw0 rfl ?_
 refine zh1 (za0 ?_)
 refine awp_ret ?_
 simp -dsimp only [simprocAttr, ↓vpre, zp, zr, Try.results117]
 simp [uptoL, AVal.upto]
theorem operands_4 (i : Ins) (hop : i.op = 8 ∨ i.op = 9 ∨ i.op = 13 ∨ i.op = 14) : PCall Try.prog 117 [i.enc] (.tup [aI (operandsM i).1, .v (.bool (operandsM i).2)]) := by
 have hr : operandsM i = (-1, true) := by
  unfold operandsM
  rw [if_neg (by omega), if_neg (by omega), if_neg (by omega), if_neg (by omega), if_pos (by omega)]
 rw [hr]
 refine zf true 0 Try.func117 Try.ntmps117 ?_
 dsimp only [Tmp, TypeId, slotsOf]
 refine zh1 (za0 ?_)
 refine zh2 (za0 ?_)
 refine awp_block ?_
 refine zh1 (za0 ?_)
 apply zk0 rfl <;> intro h
 ·exact ab h (by omega)
 refine zh2 (za0 ?_)
 apply zk0 rfl <;> intro h
 ·exact ab h (by omega)
 refine zh1 (za0 ?_)
 apply zk0 rfl <;> intro h
 ·exact ab h (by omega)
 refine zh1 (za0 ?_)
 apply zk0 rfl <;> intro h
 ·exact ab h (by omega)
 refine zh1 (za0 ?_)
 apply zk0 rfl <;> intro h
 ·exact ab h (by omega)
 refine zh1 (za0 ?_)
 apply zk0 rfl <;> intro h
 ·exact ab h (by omega)
 refine zh1 (za0 ?_)
 apply zk0 rfl <;> intro h
 ·exact ab h (by omega)
 refine zh1 (za0 ?_)
 apply zk0 rfl <;> intro h
 ·exact ab h (by omega)
 refine zh1 (za0 ?_)
 apply zk0 rfl <;> intro h
 ·exact ab h (by omega)
 refine zh1 (za0 ?_)
 apply zk0 rfl <;> intro h
 ·exact ab h (by omega)
 refine zh1 (za0 ?_)
 apply zk0 rfl <;> intro h
 ·exact ab h (by omega)
 refine zh1 (za0 ?_)
 apply zk0 rfl <;> intro h
 ·exact ab h (by omega)
 refine zh0 (za0 ?_)
 apply zk0 rfl <;> intro h
 ·exact ab h (by omega)
 refine zh1 (za0 ?_)
 apply zk0 rfl <;> intro h
 ·exact ab h (by omega)
 refine zh2 (za0 ?_)
 apply zk0 rfl <;> intro h
 ·exact ab h (by omega)
 refine zh1 (za0 ?_)
 apply zk0 rfl <;> intro h
 ·exact ab h (by omega)
 refine zh1 (za0 ?_)
 apply zk0 rfl <;> intro h
 ·exact ab h (by omega)
 refine zh1 (za0 ?_)
 apply zk0 rfl <;> intro h
 ·exact ab h (by omega)
 refine zh1 (za0 ?_)
 apply zk0 rfl <;> intro h
 ·exact ab h (by omega)
 refine zh0 (za0 ?_)
 apply zk0 rfl <;> intro h
 ·exact ab h (by omega)
 refine zh2 (za0 ?_)
 refine awp_mid0 (⟨47, [(1, .mp 0 0), (2, aI 0), (3, .v (.bool false)), (5, aI i.op), (30, .v (.bool true))], [.cells [aI i.to, aI i.op, aI i.n, eIs i.args]]⟩) ?_ ?_
 ·apply zk0 rfl <;> intro h
  ·refine awp_skip ?_
   show Covers _ _
   refine zq rfl ?_ ?_
   simp -dsimp only [simprocAttr, ↓vpre, zp, zc]
   ·exact Sub.of_eq (by rw [h])
   rfl
  refine zh1 (za0 ?_)
  apply zk0 rfl <;> intro h
  ·refine awp_skip ?_
   show Covers _ _
   refine zq rfl ?_ ?_
   simp -dsimp only [simprocAttr, ↓vpre, zp, zc]
   ·exact Sub.of_eq (by rw [h])
   rfl
  refine zh1 (za0 ?_)
  apply zk0 rfl <;> intro h
  ·refine awp_skip ?_
   show Covers _ _
   refine zq rfl ?_ ?_
   simp -dsimp only [simprocAttr, ↓vpre, zp, zc]
   ·exact Sub.of_eq (by rw [h])
   rfl
  refine zh0 ?_
  refine at_intro ?_
  show Covers _ _
  refine zq rfl ?_ ?_
  simp -dsimp only [simprocAttr, ↓vpre, zp, zc]
  ·exact Sub.of_eq (by rw [decide_eq_true (show i.op = 14 by simp only [decide_eq_false_iff_not] at *; omega)])
  rfl
 refine zw0 rfl ?_
 refine zh1 (za0 ?_)
 refine awp_ret ?_
 simp -dsimp only [simprocAttr, ↓vpre, zp, zr, Try.results117]
 simp [uptoL, AVal.upto]
theorem operands_5 (i : Ins) (hop : i.op = 22) : PCall Try.prog 117 [i.enc] (.tup [aI (operandsM i).1, .v (.bool (operandsM i).2)]) := by
 have hr : operandsM i = (i.n, decide (i.n = 2 ∨ i.n = 4)) := by
  unfold operandsM
  rw [if_neg (by omega), if_neg (by omega), if_neg (by omega), if_neg (by omega), if_neg (by omega), if_pos (by omega)]
 rw [hr]
 by_cases h2 : i.n = 2
 ·have hd2 : decide (i.n = 2) = true := decide_eq_true h2
  refine zf true 0 Try.func117 Try.ntmps117 ?_
  dsimp only [Tmp, TypeId, slotsOf]
  refine zh1 (za0 ?_)
  refine zh2 (za0 ?_)
  refine awp_block ?_
  refine zh1 (za0 ?_)
  apply zk0 rfl <;> intro h
  ·exact ab h (by omega)
  refine zh2 (za0 ?_)
  apply zk0 rfl <;> intro h
  ·exact ab h (by omega)
  refine zh1 (za0 ?_)
  apply zk0 rfl <;> intro h
  ·exact ab h (by omega)
  refine zh1 (za0 ?_)
  apply zk0 rfl <;> intro h
  ·exact ab h (by omega)
  refine zh1 (za0 ?_)
  apply zk0 rfl <;> intro h
  ·exact ab h (by omega)
  refine zh1 (za0 ?_)
  apply zk0 rfl <;> intro h
  ·exact ab h (by omega)
  refine zh1 (za0 ?_)
  apply zk0 rfl <;> intro h
  ·exact ab h (by omega)
  refine zh1 (za0 ?_)
  apply zk0 rfl <;> intro h
  ·exact ab h (by omega)
  refine zh1 (za0 ?_)
  apply zk0 rfl <;> intro h
  ·exact ab h (by omega)
  refine zh1 (za0 ?_)
  apply zk0 rfl <;> intro h
  ·exact ab h (by omega)
  refine zh1 (za0 ?_)
  apply zk0 rfl <;> intro h
  ·exact ab h (by omega)
  refine zh1 (za0 ?_)
  apply zk0 rfl <;> intro h
  ·exact ab h (by omega)
  refine zh0 (za0 ?_)
  apply zk0 rfl <;> intro h
  ·exact ab h (by omega)
  refine zh1 (za0 ?_)
  apply zk0 rfl <;> intro h
  ·exact ab h (by omega)
  refine zh2 (za0 ?_)
  apply zk0 rfl <;> intro h
  ·exact ab h (by omega)
  refine zh1 (za0 ?_)
  apply zk0 rfl <;> intro h
  ·exact ab h (by omega)
  refine zh1 (za0 ?_)
  apply zk0 rfl <;> intro h
  ·exact ab h (by omega)
  refine zh1 (za0 ?_)
  apply zk0 rfl <;> intro h
  ·exact ab h (by omega)
  refine zh1 (za0 ?_)
  apply zk0 rfl <;> intro h
  ·exact ab h (by omega)
  refine zh0 (za0 ?_)
  apply zk0 rfl <;> intro h
  ·exact ab h (by omega)
  refine zh2 (za0 ?_)
  apply zk0 rfl <;> intro h
  ·exact ab h (by omega)
  refine zh1 (za0 ?_)
  apply zk0 rfl <;> intro h
  ·exact ab h (by omega)
  refine zh1 (za0 ?_)
  apply zk0 rfl <;> intro h
  ·exact ab h (by omega)
  refine zh0 (za0 ?_)
  apply zk0 rfl <;> intro h
  ·exact ab h (by omega)
  refine zh1 (za0 ?_)
  apply zk0 rfl <;> intro h
  ·refine zg1 ?_
   simp -dsimp only [simprocAttr, ↓vpre, zp, hd2]
   refine ⟨ob (by kernel_rfl), ?_⟩
   refine za0 ?_
   refine awp_ret ?_
   simp -dsimp only [simprocAttr, ↓vpre, zp, zr, Try.results117]
   simp [uptoL, AVal.upto, h2]
  exact af h (by omega)
 have hd2 : decide (i.n = 2) = false := decide_eq_false h2
 by_cases h4 : i.n = 4
 ·have hd4 : decide (i.n = 4) = true := decide_eq_true h4
  refine zf true 0 Try.func117 Try.ntmps117 ?_
  dsimp only [Tmp, TypeId, slotsOf]
  refine zh1 (za0 ?_)
  refine zh2 (za0 ?_)
  refine awp_block ?_
  refine zh1 (za0 ?_)
  apply zk0 rfl <;> intro h
  ·exact ab h (by omega)
  refine zh2 (za0 ?_)
  apply zk0 rfl <;> intro h
  ·exact ab h (by omega)
  refine zh1 (za0 ?_)
  apply zk0 rfl <;> intro h
  ·exact ab h (by omega)
  refine zh1 (za0 ?_)
  apply zk0 rfl <;> intro h
  ·exact ab h (by omega)
  refine zh1 (za0 ?_)
  apply zk0 rfl <;> intro h
  ·exact ab h (by omega)
  refine zh1 (za0 ?_)
  apply zk0 rfl <;> intro h
  ·exact ab h (by omega)
  refine zh1 (za0 ?_)
  apply zk0 rfl <;> intro h
  ·exact ab h (by omega)
  refine zh1 (za0 ?_)
  apply zk0 rfl <;> intro h
  ·exact ab h (by omega)
  refine zh1 (za0 ?_)
  apply zk0 rfl <;> intro h
  ·exact ab h (by omega)
  refine zh1 (za0 ?_)
  apply zk0 rfl <;> intro h
  ·exact ab h (by omega)
  refine zh1 (za0 ?_)
  apply zk0 rfl <;> intro h
  ·exact ab h (by omega)
  refine zh1 (za0 ?_)
  apply zk0 rfl <;> intro h
  ·exact ab h (by omega)
  refine zh0 (za0 ?_)
  apply zk0 rfl <;> intro h
  ·exact ab h (by omega)
  refine zh1 (za0 ?_)
  apply zk0 rfl <;> intro h
  ·exact ab h (by omega)
  refine zh2 (za0 ?_)
  apply zk0 rfl <;> intro h
  ·exact ab h (by omega)
  refine zh1 (za0 ?_)
  apply zk0 rfl <;> intro h
  ·exact ab h (by omega)
  refine zh1 (za0 ?_)
  apply zk0 rfl <;> intro h
  ·exact ab h (by omega)
  refine zh1 (za0 ?_)
  apply zk0 rfl <;> intro h
  ·exact ab h (by omega)
  refine zh1 (za0 ?_)
  apply zk0 rfl <;> intro h
  ·exact ab h (by omega)
  refine zh0 (za0 ?_)
  apply zk0 rfl <;> intro h
  ·exact ab h (by omega)
  refine zh2 (za0 ?_)
  apply zk0 rfl <;> intro h
  ·exact ab h (by omega)
  refine zh1 (za0 ?_)
  apply zk0 rfl <;> intro h
  ·exact ab h (by omega)
  refine zh1 (za0 ?_)
  apply zk0 rfl <;> intro h
  ·exact ab h (by omega)
  refine zh0 (za0 ?_)
  apply zk0 rfl <;> intro h
  ·exact ab h (by omega)
  refine zh1 (za0 ?_)
  apply zk0 rfl <;> intro h
  ·refine zg1 ?_
   simp -dsimp only [simprocAttr, ↓vpre, zp, hd2, hd4]
   refine ⟨ob (by kernel_rfl), ?_⟩
   refine za0 ?_
   refine awp_ret ?_
   simp -dsimp only [simprocAttr, ↓vpre, zp, zr, Try.results117]
   simp [uptoL, AVal.upto, h4]
  exact af h (by omega)
 have hd4 : decide (i.n = 4) = false := decide_eq_false h4
 refine zf true 0 Try.func117 Try.ntmps117 ?_
 dsimp only [Tmp, TypeId, slotsOf]
 refine zh1 (za0 ?_)
 refine zh2 (za0 ?_)
 refine awp_block ?_
 refine zh1 (za0 ?_)
 apply zk0 rfl <;> intro h
 ·exact ab h (by omega)
 refine zh2 (za0 ?_)
 apply zk0 rfl <;> intro h
 ·exact ab h (by omega)
 refine zh1 (za0 ?_)
 apply zk0 rfl <;> intro h
 ·exact ab h (by omega)
 refine zh1 (za0 ?_)
 apply zk0 rfl <;> intro h
 ·exact ab h (by omega)
 refine zh1 (za0 ?_)
 apply zk0 rfl <;> intro h
 ·exact ab h (by omega)
 refine zh1 (za0 ?_)
 apply zk0 rfl <;> intro h
 ·exact ab h (by omega)
 refine zh1 (za0 ?_)
 apply zk0 rfl <;> intro h
 ·exact ab h (by omega)
 refine zh1 (za0 ?_)
 apply zk0 rfl <;> intro h
 ·exact ab h (by omega)
 refine zh1 (za0 ?_)
 apply zk0 rfl <;> intro h
 ·exact ab h (by omega)
 refine zh1 (za0 ?_)
 apply zk0 rfl <;> intro h
 ·exact ab h (by omega)
 refine zh1 (za0 ?_)
 apply zk0 rfl <;> intro h
 ·exact ab h (by omega)
 refine zh1 (za0 ?_)
 apply zk0 rfl <;> intro h
 ·exact ab h (by omega)
 refine zh0 (za0 ?_)
 apply zk0 rfl <;> intro h
 ·exact ab h (by omega)
 refine zh1 (za0 ?_)
 apply zk0 rfl <;> intro h
 ·exact ab h (by omega)
 refine zh2 (za0 ?_)
 apply zk0 rfl <;> intro h
 ·exact ab h (by omega)
 refine zh1 (za0 ?_)
 apply zk0 rfl <;> intro h
 ·exact ab h (by omega)
 refine zh1 (za0 ?_)
 apply zk0 rfl <;> intro h
 ·exact ab h (by omega)
 refine zh1 (za0 ?_)
 apply zk0 rfl <;> intro h
 ·exact ab h (by omega)
 refine zh1 (za0 ?_)
 apply zk0 rfl <;> intro h
 ·exact ab h (by omega)
 refine zh0 (za0 ?_)
 apply zk0 rfl <;> intro h
 ·exact ab h (by omega)
 refine zh2 (za0 ?_)
 apply zk0 rfl <;> intro h
 ·exact ab h (by omega)
 refine zh1 (za0 ?_)
 apply zk0 rfl <;> intro h
 ·exact ab h (by omega)
 refine zh1 (za0 ?_)
 apply zk0 rfl <;> intro h
 ·exact ab h (by omega)
 refine zh0 (za0 ?_)
 apply zk0 rfl <;> intro h
 ·exact ab h (by omega)
 refine zh1 (za0 ?_)
 apply zk0 rfl <;> intro h
 ·refine zg1 ?_
  simp -dsimp only [simprocAttr, ↓vpre, zp, hd2, hd4]
  refine ⟨ob (by kernel_rfl), ?_⟩
  refine za0 ?_
  refine awp_ret ?_
  simp -dsimp only [simprocAttr, ↓vpre, zp, zr, Try.results117]
  simp [uptoL, AVal.upto, h2, h4]
 exact af h (by omega)
theorem operands_spec (i : Ins) : PCall Try.prog 117 [i.enc] (.tup [aI (operandsM i).1, .v (.bool (operandsM i).2)]) := by
 by_cases h0 : i.op = 0
 ·exact operands_0 i h0
 by_cases h1 : (1 ≤ i.op ∧ i.op ≤ 7) ∨ i.op = 16 ∨ i.op = 18 ∨ i.op = 19 ∨ i.op = 21 ∨ i.op = 23
 ·exact operands_1 i h1
 by_cases h2 : i.op = 20
 ·exact operands_2 i h2
 by_cases h3 : i.op = 10 ∨ i.op = 11 ∨ i.op = 12 ∨ i.op = 15 ∨ i.op = 17 ∨ i.op = 24
 ·exact operands_3 i h3
 by_cases h4 : i.op = 8 ∨ i.op = 9 ∨ i.op = 13 ∨ i.op = 14
 ·exact operands_4 i h4
 by_cases h5 : i.op = 22
 ·exact operands_5 i h5
 have hr : operandsM i = (0, false) := by
  unfold operandsM
  rw [if_neg (by omega), if_neg (by omega), if_neg (by omega), if_neg (by omega), if_neg (by omega), if_neg (by omega)]
 rw [hr]
 refine zf true 0 Try.func117 Try.ntmps117 ?_
 dsimp only [Tmp, TypeId, slotsOf]
 refine zh1 (za0 ?_)
 refine zh2 (za0 ?_)
 refine awp_block ?_
 refine zh1 (za0 ?_)
 apply zk0 rfl <;> intro h
 ·exact ab h (by omega)
 refine zh2 (za0 ?_)
 apply zk0 rfl <;> intro h
 ·exact ab h (by omega)
 refine zh1 (za0 ?_)
 apply zk0 rfl <;> intro h
 ·exact ab h (by omega)
 refine zh1 (za0 ?_)
 apply zk0 rfl <;> intro h
 ·exact ab h (by omega)
 refine zh1 (za0 ?_)
 apply zk0 rfl <;> intro h
 ·exact ab h (by omega)
 refine zh1 (za0 ?_)
 apply zk0 rfl <;> intro h
 ·exact ab h (by omega)
 refine zh1 (za0 ?_)
 apply zk0 rfl <;> intro h
 ·exact ab h (by omega)
 refine zh1 (za0 ?_)
 apply zk0 rfl <;> intro h
 ·exact ab h (by omega)
 refine zh1 (za0 ?_)
 apply zk0 rfl <;> intro h
 ·exact ab h (by omega)
 refine zh1 (za0 ?_)
 apply zk0 rfl <;> intro h
 ·exact ab h (by omega)
 refine zh1 (za0 ?_)
 apply zk0 rfl <;> intro h
 ·exact ab h (by omega)
 refine zh1 (za0 ?_)
 apply zk0 rfl <;> intro h
 ·exact ab h (by omega)
 refine zh0 (za0 ?_)
 apply zk0 rfl <;> intro h
 ·exact ab h (by omega)
 refine zh1 (za0 ?_)
 apply zk0 rfl <;> intro h
 ·exact ab h (by omega)
 refine zh2 (za0 ?_)
 apply zk0 rfl <;> intro h
 ·exact ab h (by omega)
 refine zh1 (za0 ?_)
 apply zk0 rfl <;> intro h
 ·exact ab h (by omega)
 refine zh1 (za0 ?_)
 apply zk0 rfl <;> intro h
 ·exact ab h (by omega)
 refine zh1 (za0 ?_)
 apply zk0 rfl <;> intro h
 ·exact ab h (by omega)
 refine zh1 (za0 ?_)
 apply zk0 rfl <;> intro h
 ·exact ab h (by omega)
 refine zh0 (za0 ?_)
 apply zk0 rfl <;> intro h
 ·exact ab h (by omega)
 refine zh2 (za0 ?_)
 apply zk0 rfl <;> intro h
 ·exact ab h (by omega)
 refine zh1 (za0 ?_)
 apply zk0 rfl <;> intro h
 ·exact ab h (by omega)
 refine zh1 (za0 ?_)
 apply zk0 rfl <;> intro h
 ·exact ab h (by omega)
 refine zh0 (za0 ?_)
 apply zk0 rfl <;> intro h
 ·exact ab h (by omega)
 refine zh1 (za0 ?_)
 apply zk0 rfl <;> intro h
 ·exact ab h (by omega)
 refine zb1 ?_
 refine zh1 (za0 ?_)
 refine awp_ret ?_
 simp -dsimp only [simprocAttr, ↓vpre, zp, zr, Try.results117]
 simp [uptoL, AVal.upto]
theorem number_0 (i : Ins) (hop : i.op = 0) : PCall Try.prog 118 [i.enc] (.v (.bool (numberM i))) := by
 have hr : numberM i = decide (isW i.n) := by
  unfold numberM
  rw [if_pos (by omega)]
 rw [hr]
 refine zf true 0 Try.func118 Try.ntmps118 ?_
 dsimp only [Tmp, TypeId, slotsOf]
 refine zh1 (za0 ?_)
 refine zh2 (za0 ?_)
 refine awp_block ?_
 refine zh1 (za0 ?_)
 apply zk0 rfl <;> intro h
 ·refine zh1 ?_
  refine zi (isWord_spec i.n) ?_
  refine za0 ?_
  refine awp_ret ?_
  simp -dsimp only [simprocAttr, ↓vpre, zp, zr, Try.results118]
 exact af h (by omega)
theorem number_1 (i : Ins) (hop : i.op = 8) : PCall Try.prog 118 [i.enc] (.v (.bool (numberM i))) := by
 have hr : numberM i = within i.n 0 255 := by
  unfold numberM
  rw [if_neg (by omega), if_pos (by omega)]
 rw [hr]
 refine zf true 0 Try.func118 Try.ntmps118 ?_
 dsimp only [Tmp, TypeId, slotsOf]
 refine zh1 (za0 ?_)
 refine zh2 (za0 ?_)
 refine awp_block ?_
 refine zh1 (za0 ?_)
 apply zk0 rfl <;> intro h
 ·exact ab h (by omega)
 refine zh1 (za0 ?_)
 apply zk0 rfl <;> intro h
 ·refine zh1 ?_
  refine zi (within_spec i.n 0 255) ?_
  refine za0 ?_
  refine awp_ret ?_
  simp -dsimp only [simprocAttr, ↓vpre, zp, zr, Try.results118]
 exact af h (by omega)
theorem number_2 (i : Ins) (hop : i.op = 11) : PCall Try.prog 118 [i.enc] (.v (.bool (numberM i))) := by
 have hr : numberM i = within i.n 0 15 := by
  unfold numberM
  rw [if_neg (by omega), if_neg (by omega), if_pos (by omega)]
 rw [hr]
 refine zf true 0 Try.func118 Try.ntmps118 ?_
 dsimp only [Tmp, TypeId, slotsOf]
 refine zh1 (za0 ?_)
 refine zh2 (za0 ?_)
 refine awp_block ?_
 refine zh1 (za0 ?_)
 apply zk0 rfl <;> intro h
 ·exact ab h (by omega)
 refine zh1 (za0 ?_)
 apply zk0 rfl <;> intro h
 ·exact ab h (by omega)
 refine zh1 (za0 ?_)
 apply zk0 rfl <;> intro h
 ·refine zh1 ?_
  refine zi (within_spec i.n 0 15) ?_
  refine za0 ?_
  refine awp_ret ?_
  simp -dsimp only [simprocAttr, ↓vpre, zp, zr, Try.results118]
 exact af h (by omega)
theorem number_3 (i : Ins) (hop : i.op = 9 ∨ i.op = 13) : PCall Try.prog 118 [i.enc] (.v (.bool (numberM i))) := by
 have hr : numberM i = within i.n 0 255 := by
  unfold numberM
  rw [if_neg (by omega), if_neg (by omega), if_neg (by omega), if_pos (by omega)]
 rw [hr]
 refine zf true 0 Try.func118 Try.ntmps118 ?_
 dsimp only [Tmp, TypeId, slotsOf]
 refine zh1 (za0 ?_)
 refine zh2 (za0 ?_)
 refine awp_block ?_
 refine zh1 (za0 ?_)
 apply zk0 rfl <;> intro h
 ·exact ab h (by omega)
 refine zh1 (za0 ?_)
 apply zk0 rfl <;> intro h
 ·exact ab h (by omega)
 refine zh1 (za0 ?_)
 apply zk0 rfl <;> intro h
 ·exact ab h (by omega)
 refine zh2 (za0 ?_)
 refine awp_mid0 (⟨51, [(1, .mp 0 0), (2, .v (.bool false)), (4, aI i.op), (20, .v (.bool true))], [.cells [aI i.to, aI i.op, aI i.n, eIs i.args]]⟩) ?_ ?_
 ·apply zk0 rfl <;> intro h
  ·refine awp_skip ?_
   show Covers _ _
   refine zq rfl ?_ ?_
   simp -dsimp only [simprocAttr, ↓vpre, zp, zc]
   ·exact Sub.of_eq (by rw [h])
   rfl
  refine zh0 ?_
  refine at_intro ?_
  show Covers _ _
  refine zq rfl ?_ ?_
  simp -dsimp only [simprocAttr, ↓vpre, zp, zc]
  ·exact Sub.of_eq (by rw [decide_eq_true (show i.op = 13 by simp only [decide_eq_false_iff_not] at *; omega)])
  rfl
 refine zw0 rfl ?_
 refine zh1 ?_
 refine zi (within_spec i.n 0 255) ?_
 refine za0 ?_
 refine awp_ret ?_
 simp -dsimp only [simprocAttr, ↓vpre, zp, zr, Try.results118]
theorem number_4 (i : Ins) (hop : i.op = 23) : PCall Try.prog 118 [i.enc] (.v (.bool (numberM i))) := by
 have hr : numberM i = decide (i.n = 1 ∨ i.n = 2 ∨ i.n = 3) := by
  unfold numberM
  rw [if_neg (by omega), if_neg (by omega), if_neg (by omega), if_neg (by omega), if_pos (by omega)]
 rw [hr]
 by_cases h1 : i.n = 1
 ·have hd1 : decide (i.n = 1) = true := decide_eq_true h1
  refine zf true 0 Try.func118 Try.ntmps118 ?_
  dsimp only [Tmp, TypeId, slotsOf]
  refine zh1 (za0 ?_)
  refine zh2 (za0 ?_)
  refine awp_block ?_
  refine zh1 (za0 ?_)
  apply zk0 rfl <;> intro h
  ·exact ab h (by omega)
  refine zh1 (za0 ?_)
  apply zk0 rfl <;> intro h
  ·exact ab h (by omega)
  refine zh1 (za0 ?_)
  apply zk0 rfl <;> intro h
  ·exact ab h (by omega)
  refine zh2 (za0 ?_)
  apply zk0 rfl <;> intro h
  ·exact ab h (by omega)
  refine zh0 (za0 ?_)
  apply zk0 rfl <;> intro h
  ·exact ab h (by omega)
  refine zh1 (za0 ?_)
  apply zk0 rfl <;> intro h
  ·refine zg1 ?_
   simp -dsimp only [simprocAttr, ↓vpre, zp, hd1]
   refine za0 ?_
   refine awp_ret ?_
   simp -dsimp only [simprocAttr, ↓vpre, zp, zr, Try.results118]
   simp [h1]
  exact af h (by omega)
 have hd1 : decide (i.n = 1) = false := decide_eq_false h1
 by_cases h2 : i.n = 2
 ·have hd2 : decide (i.n = 2) = true := decide_eq_true h2
  refine zf true 0 Try.func118 Try.ntmps118 ?_
  dsimp only [Tmp, TypeId, slotsOf]
  refine zh1 (za0 ?_)
  refine zh2 (za0 ?_)
  refine awp_block ?_
  refine zh1 (za0 ?_)
  apply zk0 rfl <;> intro h
  ·exact ab h (by omega)
  refine zh1 (za0 ?_)
  apply zk0 rfl <;> intro h
  ·exact ab h (by omega)
  refine zh1 (za0 ?_)
  apply zk0 rfl <;> intro h
  ·exact ab h (by omega)
  refine zh2 (za0 ?_)
  apply zk0 rfl <;> intro h
  ·exact ab h (by omega)
  refine zh0 (za0 ?_)
  apply zk0 rfl <;> intro h
  ·exact ab h (by omega)
  refine zh1 (za0 ?_)
  apply zk0 rfl <;> intro h
  ·refine zg1 ?_
   simp -dsimp only [simprocAttr, ↓vpre, zp, hd1, hd2]
   refine za0 ?_
   refine awp_ret ?_
   simp -dsimp only [simprocAttr, ↓vpre, zp, zr, Try.results118]
   simp [h2]
  exact af h (by omega)
 have hd2 : decide (i.n = 2) = false := decide_eq_false h2
 refine zf true 0 Try.func118 Try.ntmps118 ?_
 dsimp only [Tmp, TypeId, slotsOf]
 refine zh1 (za0 ?_)
 refine zh2 (za0 ?_)
 refine awp_block ?_
 refine zh1 (za0 ?_)
 apply zk0 rfl <;> intro h
 ·exact ab h (by omega)
 refine zh1 (za0 ?_)
 apply zk0 rfl <;> intro h
 ·exact ab h (by omega)
 refine zh1 (za0 ?_)
 apply zk0 rfl <;> intro h
 ·exact ab h (by omega)
 refine zh2 (za0 ?_)
 apply zk0 rfl <;> intro h
 ·exact ab h (by omega)
 refine zh0 (za0 ?_)
 apply zk0 rfl <;> intro h
 ·exact ab h (by omega)
 refine zh1 (za0 ?_)
 apply zk0 rfl <;> intro h
 ·refine zg1 ?_
  simp -dsimp only [simprocAttr, ↓vpre, zp, hd1, hd2]
  refine za0 ?_
  refine awp_ret ?_
  simp -dsimp only [simprocAttr, ↓vpre, zp, zr, Try.results118]
  simp [h1, h2]
 exact af h (by omega)
theorem number_5 (i : Ins) (hop : i.op = 24) : PCall Try.prog 118 [i.enc] (.v (.bool (numberM i))) := by
 have hr : numberM i = within i.n 0 3 := by
  unfold numberM
  rw [if_neg (by omega), if_neg (by omega), if_neg (by omega), if_neg (by omega), if_neg (by omega), if_pos (by omega)]
 rw [hr]
 refine zf true 0 Try.func118 Try.ntmps118 ?_
 dsimp only [Tmp, TypeId, slotsOf]
 refine zh1 (za0 ?_)
 refine zh2 (za0 ?_)
 refine awp_block ?_
 refine zh1 (za0 ?_)
 apply zk0 rfl <;> intro h
 ·exact ab h (by omega)
 refine zh1 (za0 ?_)
 apply zk0 rfl <;> intro h
 ·exact ab h (by omega)
 refine zh1 (za0 ?_)
 apply zk0 rfl <;> intro h
 ·exact ab h (by omega)
 refine zh2 (za0 ?_)
 apply zk0 rfl <;> intro h
 ·exact ab h (by omega)
 refine zh0 (za0 ?_)
 apply zk0 rfl <;> intro h
 ·exact ab h (by omega)
 refine zh1 (za0 ?_)
 apply zk0 rfl <;> intro h
 ·exact ab h (by omega)
 refine zh1 (za0 ?_)
 apply zk0 rfl <;> intro h
 ·refine zh1 ?_
  refine zi (within_spec i.n 0 3) ?_
  refine za0 ?_
  refine awp_ret ?_
  simp -dsimp only [simprocAttr, ↓vpre, zp, zr, Try.results118]
 exact af h (by omega)
theorem number_6 (i : Ins) (hop : i.op = 22) : PCall Try.prog 118 [i.enc] (.v (.bool (numberM i))) := by
 have hr : numberM i = true := by
  unfold numberM
  rw [if_neg (by omega), if_neg (by omega), if_neg (by omega), if_neg (by omega), if_neg (by omega), if_neg (by omega), if_pos (by omega)]
 rw [hr]
 refine zf true 0 Try.func118 Try.ntmps118 ?_
 dsimp only [Tmp, TypeId, slotsOf]
 refine zh1 (za0 ?_)
 refine zh2 (za0 ?_)
 refine awp_block ?_
 refine zh1 (za0 ?_)
 apply zk0 rfl <;> intro h
 ·exact ab h (by omega)
 refine zh1 (za0 ?_)
 apply zk0 rfl <;> intro h
 ·exact ab h (by omega)
 refine zh1 (za0 ?_)
 apply zk0 rfl <;> intro h
 ·exact ab h (by omega)
 refine zh2 (za0 ?_)
 apply zk0 rfl <;> intro h
 ·exact ab h (by omega)
 refine zh0 (za0 ?_)
 apply zk0 rfl <;> intro h
 ·exact ab h (by omega)
 refine zh1 (za0 ?_)
 apply zk0 rfl <;> intro h
 ·exact ab h (by omega)
 refine zh1 (za0 ?_)
 apply zk0 rfl <;> intro h
 ·exact ab h (by omega)
 refine zh1 (za0 ?_)
 apply zk0 rfl <;> intro h
 ·refine zh1 (za0 ?_)
  refine awp_ret ?_
  simp -dsimp only [simprocAttr, ↓vpre, zp, zr, Try.results118]
 exact af h (by omega)
theorem number_spec (i : Ins) : PCall Try.prog 118 [i.enc] (.v (.bool (numberM i))) := by
 by_cases h0 : i.op = 0
 ·exact number_0 i h0
 by_cases h1 : i.op = 8
 ·exact number_1 i h1
 by_cases h2 : i.op = 11
 ·exact number_2 i h2
 by_cases h3 : i.op = 9 ∨ i.op = 13
 ·exact number_3 i h3
 by_cases h4 : i.op = 23
 ·exact number_4 i h4
 by_cases h5 : i.op = 24
 ·exact number_5 i h5
 by_cases h6 : i.op = 22
 ·exact number_6 i h6
 have hr : numberM i = decide (i.n = 0) := by
  unfold numberM
  rw [if_neg (by omega), if_neg (by omega), if_neg (by omega), if_neg (by omega), if_neg (by omega), if_neg (by omega), if_neg (by omega)]
 rw [hr]
 refine zf true 0 Try.func118 Try.ntmps118 ?_
 dsimp only [Tmp, TypeId, slotsOf]
 refine zh1 (za0 ?_)
 refine zh2 (za0 ?_)
 refine awp_block ?_
 refine zh1 (za0 ?_)
 apply zk0 rfl <;> intro h
 ·exact ab h (by omega)
 refine zh1 (za0 ?_)
 apply zk0 rfl <;> intro h
 ·exact ab h (by omega)
 refine zh1 (za0 ?_)
 apply zk0 rfl <;> intro h
 ·exact ab h (by omega)
 refine zh2 (za0 ?_)
 apply zk0 rfl <;> intro h
 ·exact ab h (by omega)
 refine zh0 (za0 ?_)
 apply zk0 rfl <;> intro h
 ·exact ab h (by omega)
 refine zh1 (za0 ?_)
 apply zk0 rfl <;> intro h
 ·exact ab h (by omega)
 refine zh1 (za0 ?_)
 apply zk0 rfl <;> intro h
 ·exact ab h (by omega)
 refine zh1 (za0 ?_)
 apply zk0 rfl <;> intro h
 ·exact ab h (by omega)
 refine zb1 ?_
 refine zh1 (za0 ?_)
 refine awp_ret ?_
 simp -dsimp only [simprocAttr, ↓vpre, zp, zr, Try.results118]
def formA (i : Ins) (many : Int) (known : Bool) : Bool := (!known || (decide (0 ≤ many) && !decide ((i.args.length : Int) = many))) || (decide (i.op = 14) && decide ((i.args.length : Int) = 0))
def formB (i : Ins) : Bool := (decide (i.op = 8) || decide (i.op = 9)) && decide ((16 : Int) < i.args.length)
def formC (i : Ins) : Bool := (decide (i.op = 13) || decide (i.op = 14)) && decide ((6 : Int) < i.args.length)
def formE (i : Ins) : Int := if formA i (operandsM i).1 (operandsM i).2 then 3 else if formB i || formC i then 2 else if numberM i then 0 else 4
theorem form_spec (i : Ins) : PCall Try.prog 89 [i.enc] (aI (formE i)) := by
 have hop := operands_spec i
 have hnum := number_spec i
 unfold formE
 generalize operandsM i = r at *
 obtain ⟨many, known⟩ := r
 simp only at hop ⊢
 generalize numberM i = nb at *
 refine zf true 0 Try.func89 Try.ntmps89 ?_
 dsimp only [Tmp, TypeId, slotsOf]
 refine zh1 (za0 ?_)
 refine zh1 ?_
 refine zi hop ?_
 refine za0 ?_
 refine awp_seq (awp_block ?_)
 refine awp_mid (⟨68, [(1, .mp 0 0), (2, aI 0), (10, .v (.bool (formA i many known)))], [.cells [aI i.to, aI i.op, aI i.n, eIs i.args]]⟩) ?_ ?_
 ·cases known <;> cases hA : decide ((0 : Int) ≤ many) <;> cases hB : decide ((i.args.length : Int) = many) <;> cases hC : decide (i.op = 14) <;> cases hD : decide ((i.args.length : Int) = 0)
  all_goals
   refine awp_region hT hm ?_
   simp -dsimp only [simprocAttr, ↓vpre, zp, hA, hB, hC, hD]
   refine at_intro ?_
   show Covers _ _
   refine zq rfl ?_ ?_
   simp -dsimp only [simprocAttr, ↓vpre, zp, zc]
   ·exact Sub.of_eq (by unfold formA; rw [hA, hB, hC, hD]; rfl)
   rfl
 cases hfa : formA i many known
 ·refine zu0 rfl ?_
  refine awp_mid (⟨68, [(1, .mp 0 0), (2, aI 0), (35, .v (.bool (formB i || formC i)))], [.cells [aI i.to, aI i.op, aI i.n, eIs i.args]]⟩) ?_ ?_
  ·refine awp_mid (⟨68, [(1, .mp 0 0), (2, aI 0), (35, .v (.bool (formB i)))], [.cells [aI i.to, aI i.op, aI i.n, eIs i.args]]⟩) ?_ ?_
   ·cases hA : decide (i.op = 8) <;> cases hB : decide (i.op = 9) <;> cases hC : decide ((16 : Int) < i.args.length)
    all_goals
     refine awp_region hT hm ?_
     simp -dsimp only [simprocAttr, ↓vpre, zp, hA, hB, hC]
     refine at_intro ?_
     show Covers _ _
     refine zq rfl ?_ ?_
     simp -dsimp only [simprocAttr, ↓vpre, zp, zc]
     ·exact Sub.of_eq (by unfold formB; rw [hA, hB, hC]; rfl)
     rfl
   cases hfb : formB i
   ·refine zu0 rfl ?_
    cases hA : decide (i.op = 13) <;> cases hB : decide (i.op = 14) <;> cases hC : decide ((6 : Int) < i.args.length)
    all_goals
     refine awp_region hT hm ?_
     simp -dsimp only [simprocAttr, ↓vpre, zp, hA, hB, hC]
     refine at_intro ?_
     show Covers _ _
     refine zq rfl ?_ ?_
     simp -dsimp only [simprocAttr, ↓vpre, zp, zc]
     ·exact Sub.of_eq (by unfold formC; rw [hA, hB, hC]; rfl)
     rfl
   refine zw0 rfl ?_
   refine awp_skip ?_
   show Covers _ _
   refine zq rfl ?_ ?_
   simp -dsimp only [simprocAttr, ↓vpre, zp, zc]
   ·exact Sub.refl _
   rfl
  cases hbc : (formB i || formC i)
  ·refine zu0 rfl ?_
   refine zh1 ?_
   refine zi hnum ?_
   refine za0 ?_
   cases hnb : nb
   ·refine zw0 rfl ?_
    refine zh1 (za0 ?_)
    refine awp_ret ?_
    simp -dsimp only [simprocAttr, ↓vpre, zp, zr, Try.results89]
   refine zu0 rfl ?_
   refine zb1 ?_
   refine zh1 (za0 ?_)
   refine awp_ret ?_
   simp -dsimp only [simprocAttr, ↓vpre, zp, zr, Try.results89]
  refine zw0 rfl ?_
  refine zh1 (za0 ?_)
  refine awp_ret ?_
  simp -dsimp only [simprocAttr, ↓vpre, zp, zr, Try.results89]
 refine zw0 rfl ?_
 refine zh1 (za0 ?_)
 refine awp_ret ?_
 simp -dsimp only [simprocAttr, ↓vpre, zp, zr, Try.results89]
theorem set_self {O : List AObj} {k : Nat} {y : AObj} (h : O[k]? = some y) (x : AObj) : (O.set k x)[k]? = some x := List.getElem?_set_self (lt_of_getElem? h)
theorem uptoO_cells {O : List AObj} {n k : Nat} {cs ds : List AVal} (h : ∀ o ∈ O, o.upto n) (hk : O[k]? = some (.cells cs)) (hd : uptoL n cs → uptoL n ds) : ∀ o ∈ O.set k (.cells ds), o.upto n :=
 uptoO_set h (hd (h _ (List.mem_of_getElem? hk)))
theorem mcells_upto {n : Nat} {u v : Unt} {m p : Mach} (h : uptoL n (mcells u m)) (hs : p.sid = m.sid) : uptoL n (mcells v p) := by
 simp only [mcells, uptoL, AVal.upto, aI_upto, Func.map_upto, true_and, and_true] at h ⊢
 rw [hs]
 exact h
theorem pay_sid (m : Mach) (n : Int) : (m.pay n).sid = m.sid := by
 unfold Mach.pay
 split <;> rfl
theorem pay_spec {u : Unt} {m : Mach} {O : List AObj} (hup : ∀ o ∈ O, o.upto O.length) (h0 : O[2]? = some (.cells (mcells u m))) (n : Int) (h1 : 0 ≤ m.left) (h2 : m.left ≤ 2 ^ 40) (h3 : 0 ≤ n) :
  ECall Try.prog 81 O [.mp 2 0, aI n] (fun r O' => r = .tup [] ∧ O' = O.set 2 (.cells (mcells u (m.pay n)))) := by
 have hs := set_self h0
 have hup' := uptoO_cells hup h0 (ds := mcells u (m.pay n)) (fun h => mcells_upto h (pay_sid m n))
 have htk := take_set_len (O := O) (k := 2) (x := .cells (mcells u (m.pay n)))
 unfold mcells at h0
 by_cases hc : m.left < n
 ·have hd : decide (m.left < n) = true := decide_eq_true hc
  have hp : [eFuncs u.fns, aI u.main, .os m.sid m.frames.length 1, aI m.left, .v (.bool true), .v (.bool true), .lst 1 (m.out.map aI) (.tok 3), aI m.fin, aI m.val] = mcells u (m.pay n) := by
   simp [Mach.pay, hc, mcells]
  refine zf true O.length Try.func81 Try.ntmps81 ?_
  dsimp only [Tmp, TypeId, slotsOf]
  refine zg2 ?_
  simp -dsimp only [simprocAttr, ↓vpre, zp, h0]
  refine za0 ?_
  apply zk0 rfl <;> intro h
  ·refine zg1 ?_
   simp -dsimp only [simprocAttr, ↓vpre, zp, h0, hs, List.set_set, hp]
   refine za0 ?_
   refine awp_ret ?_
   simp -dsimp only [simprocAttr, ↓vpre, zp, zr, Try.results81, htk, List.length_set]
   exact ⟨hup', trivial⟩
  simp [hd] at h
 have hd : decide (m.left < n) = false := decide_eq_false hc
 have hp : [eFuncs u.fns, aI u.main, .os m.sid m.frames.length 1, aI (m.left - n), .v (.bool m.short), .v (.bool m.over), .lst 1 (m.out.map aI) (.tok 3), aI m.fin, aI m.val] = mcells u (m.pay n) := by
  simp [Mach.pay, hc, mcells]
 refine zf true O.length Try.func81 Try.ntmps81 ?_
 dsimp only [Tmp, TypeId, slotsOf]
 refine zg2 ?_
 simp -dsimp only [simprocAttr, ↓vpre, zp, h0]
 refine za0 ?_
 apply zk0 rfl <;> intro h
 ·simp [hd] at h
 refine zb0 ?_
 refine zg0 ?_
 simp -dsimp only [simprocAttr, ↓vpre, zp, h0, hs, List.set_set, hp]
 repeat (refine ⟨by omega, ?_⟩)
 refine at_intro ?_
 simp -dsimp only [simprocAttr, ↓vpre, zp, zr, Try.results81, htk, List.length_set]
 exact ⟨hup', trivial⟩
theorem stop_spec {u : Unt} {m : Mach} {O : List AObj} (hup : ∀ o ∈ O, o.upto O.length) (h0 : O[2]? = some (.cells (mcells u m))) (e n : Int) :
  ECall Try.prog 105 O [.mp 2 0, aI e, aI n] (fun r O' => r = .tup [] ∧ O' = O.set 2 (.cells (mcells u (m.stop e n)))) := by
 have hs := set_self h0
 have hup' := uptoO_cells hup h0 (ds := mcells u (m.stop e n)) (fun h => mcells_upto h rfl)
 have htk := take_set_len (O := O) (k := 2) (x := .cells (mcells u (m.stop e n)))
 unfold mcells at h0
 have hp : [eFuncs u.fns, aI u.main, .os m.sid m.frames.length 1, aI m.left, .v (.bool m.short), .v (.bool true), .lst 1 (m.out.map aI) (.tok 3), aI e, aI n] = mcells u (m.stop e n) := rfl
 refine zf true O.length Try.func105 Try.ntmps105 ?_
 dsimp only [Tmp, TypeId, slotsOf]
 refine zg1 ?_
 simp -dsimp only [simprocAttr, ↓vpre, zp, h0]
 refine za0 ?_
 refine zg0 ?_
 simp -dsimp only [simprocAttr, ↓vpre, zp, hs, List.set_set, hp]
 refine at_intro ?_
 simp -dsimp only [simprocAttr, ↓vpre, zp, zr, Try.results105, htk, List.length_set]
 exact ⟨hup', trivial⟩
theorem cellsAll_set {sz : Nat} {xs : List AVal} (h : ∀ x ∈ xs, x.cells.length = sz) {k : Nat} (hk : k < xs.length) {y : AVal} (hy : y.cells.length = sz) : splice (cellsAll xs) (k * sz) y.cells = cellsAll (xs.set k y) := by
 induction xs generalizing k with
 | nil => simp at hk
 | cons p r ih =>
  have hp := h p (by simp)
  cases k with
  | zero =>
   simp only [List.set_cons_zero, cellsAll, List.flatMap_cons, splice, Nat.zero_mul, List.take_zero, List.nil_append, Nat.zero_add, hy]
   rw [List.drop_append_of_le_length (by omega), List.drop_of_length_le (by omega)]
   rfl
  | succ k =>
   have := ih (fun x hx => h x (by simp [hx])) (k := k) (by simpa using hk)
   have e1 : (k + 1) * sz - sz = k * sz := by rw [Nat.succ_mul]; omega
   have e2 : (k + 1) * sz + sz - sz = k * sz + sz := by rw [Nat.succ_mul]; omega
   have e3 : sz ≤ (k + 1) * sz := by rw [Nat.succ_mul]; omega
   simp only [List.set_cons_succ, cellsAll, List.flatMap_cons, splice, hy] at this ⊢
   rw [List.take_append, List.drop_append, hp, List.take_of_length_le (by omega), List.drop_of_length_le (by omega), e1, e2, List.nil_append, List.append_assoc, this]
def rawS (es : List (Int × SV)) (k : Int) : AVal := (Option.map SV.enc (lookS es k)).getD (.agg [aI 0, aI 0, .lst 4 [] .ex, .v (.pointer none)])
theorem rawS_share (es : List (Int × SV)) (k : Int) : (rawS es k).share = (getS es k).enc := by
 unfold rawS getS
 cases lookS es k with
 | none => rfl
 | some v => exact v.enc_share
theorem rawS_len (es : List (Int × SV)) (k : Int) : (rawS es k).cells.length = 4 := by
 unfold rawS
 cases lookS es k with
 | none => rfl
 | some v => exact v.cells_len
theorem rawS_flat (es : List (Int × SV)) (k : Int) : (rawS es k).flat := by
 unfold rawS
 cases lookS es k with
 | none => trivial
 | some v => exact v.enc_flat
def rowT (es : List (Int × SV)) (l : List Int) (k : Nat) : List AVal := (l.take k).map (rawS es) ++ List.replicate (l.length - k) (.agg [aI 0, aI 0, .lst 4 [] .ex, .v (.pointer none)])
theorem rowT_len {es : List (Int × SV)} {l : List Int} {k : Nat} (h : k ≤ l.length) : (rowT es l k).length = l.length := by
 simp [rowT]
 omega
theorem rowT_cells {es : List (Int × SV)} {l : List Int} {k : Nat} : ∀ x ∈ rowT es l k, x.cells.length = 4 := fun x hx => by
 simp only [rowT, List.mem_append, List.mem_map, List.mem_replicate] at hx
 rcases hx with ⟨v, _, rfl⟩ | ⟨_, rfl⟩
 ·exact rawS_len es v
 rfl
theorem rowT_zero (es : List (Int × SV)) (l : List Int) : cellsAll (rowT es l 0) = (List.replicate l.length [aI 0, aI 0, .lst 4 [] .ex, .v (.pointer none)]).flatten := by
 simp [rowT, cellsAll, List.flatMap, AVal.cells]
theorem rowT_succ {es : List (Int × SV)} {l : List Int} {k : Nat} {v : Int} (h : l[k]? = some v) : (rowT es l k).set k (rawS es v) = rowT es l (k + 1) := by
 have hlt := lt_of_getElem? h
 obtain ⟨j, hj⟩ : ∃ j, l.length - k = j + 1 := ⟨l.length - k - 1, by omega⟩
 have e : l.take (k + 1) = l.take k ++ [v] := by rw [List.take_add_one, h]; rfl
 have ek : ((l.take k).map (rawS es)).length = k := by simp; omega
 unfold rowT
 rw [e, hj, show l.length - (k + 1) = j by omega, List.set_append_right _ _ (by omega), ek, Nat.sub_self]
 simp [List.replicate_succ]
theorem rowT_all (es : List (Int × SV)) (l : List Int) : (cellsAll (rowT es l l.length)).map AVal.shareCell = cellsAll ((takeS es l).map SV.enc) := by
 rw [← cellsAll_share]
 simp only [rowT, Nat.sub_self, List.replicate_zero, List.append_nil, List.take_length, takeS, List.map_map]
 congr 1
 apply List.map_congr_left
 intro v _
 exact rawS_share es v
theorem getS_under {es : List (Int × SV)} {n : Nat} (h : ∀ e ∈ es, SV.Under n e.2) (k : Int) : SV.Under n (getS es k) := by
 unfold getS
 cases hl : lookS es k with
 | none => exact .mk (by simp) (by simp)
 | some v =>
  obtain ⟨e, h1, rfl⟩ := mem_lookS hl
  exact h e h1
theorem takeS_under {es : List (Int × SV)} {n : Nat} (h : ∀ e ∈ es, SV.Under n e.2) (l : List Int) : ∀ v ∈ takeS es l, SV.Under n v := fun v hv => by
 obtain ⟨k, _, rfl⟩ := List.mem_map.1 hv
 exact getS_under h k
theorem take_spec {f : Fr} {O : List AObj} (hup : ∀ o ∈ O, o.upto O.length) (hf : O[f.fid]? = some (.cells (fcells f))) (hv : O[f.mid]? = some (.map (.int .i64) (f.vals.map ent))) (hu : ∀ e ∈ f.vals, SV.Under O.length e.2) (l : List Int) (hl : l.length ≤ 4096) :
  ECall Try.prog 104 O [.mp f.fid 0, eIs l] (fun r O' => r = .lst 4 ((takeS f.vals l).map SV.enc) .sh ∧ O' = O) := by
 have hres := SV.map_upto (takeS_under hu l)
 have hfl : ∀ X : List AObj, (O ++ X)[f.fid]? = some (.cells (fcells f)) := fun X => at_left hf
 have hvl : ∀ X : List AObj, (O ++ X)[f.mid]? = some (.map (.int .i64) (f.vals.map ent)) := fun X => at_left hv
 unfold fcells at hfl
 refine zf true O.length Try.func104 Try.ntmps104 ?_
 dsimp only [Tmp, TypeId, slotsOf]
 refine zh1 (za0 ?_)
 refine zh1 ?_
 repeat (refine ⟨by omega, ?_⟩)
 refine za0 ?_
 refine zh2 (za0 ?_)
 refine awp_block (awp_loop (ι := {k : Nat // k ≤ l.length}) (fun k => ⟨29, [(0, .mp f.fid 0), (5, .ms O.length 0 l.length l.length), (11, eIs l), (12, aI l.length), (13, aI k.1)], O ++ [.cells (cellsAll (rowT f.vals l k.1))]⟩) (fun k => l.length - k.1) ⟨0, by omega⟩ ?_ ?_)
 ·refine zq rfl ?_ ?_
  simp -dsimp only [simprocAttr, ↓vpre, zp, zc]
  rw [rowT_zero]
 rintro ⟨k, hk⟩
 refine zh1 (za0 ?_)
 apply zk1 rfl <;> intro h
 ·refine zb0 ?_
  have hlt : k < l.length := by simpa using h
  obtain ⟨v, hv1⟩ : ∃ v, l[k]? = some v := ⟨l[k], by simp [hlt]⟩
  have hraw : (Option.map SV.enc (lookS f.vals v)).getD (.agg [aI 0, aI 0, .lst 4 [] .ex, .v (.pointer none)]) = rawS f.vals v := rfl
  have hrow := cellsAll_length (rowT_cells (es := f.vals) (l := l) (k := k))
  rw [rowT_len hk] at hrow
  have hset := cellsAll_set (rowT_cells (es := f.vals) (l := l) (k := k)) (k := k) (by rw [rowT_len hk]; exact hlt) (rawS_len f.vals v)
  rw [rowT_succ hv1] at hset
  have hn := snoc_get O (AObj.cells (cellsAll (rowT f.vals l k)))
  have hst := fun y => snoc_set O (AObj.cells (cellsAll (rowT f.vals l k))) y
  refine awp_seq (awp_block ?_)
  refine zg1 ?_
  simp -dsimp only [simprocAttr, ↓vpre, zp, hv1]
  refine za0 ?_
  refine zg0 ?_
  simp -dsimp only [simprocAttr, ↓vpre, zp, hfl, hvl, look_ent, hraw, hn, hst, rawS_flat, rawS_len, hrow, hset]
  repeat (refine ⟨by omega, ?_⟩)
  refine za0 ?_
  refine zh0 ?_
  repeat (refine ⟨by omega, ?_⟩)
  refine zl0 ?_
  refine ⟨⟨k + 1, hlt⟩, by simp; omega, ?_⟩
  refine zq rfl ?_ ?_
  simp -dsimp only [simprocAttr, ↓vpre, zp, zc]
  ·exact Sub.int (by simp)
  rfl
 refine awp_exit ?_
 simp -dsimp only [vend, ne_eq, Nat.reduceEqDiff, reduceCtorEq]
 have hkk : k = l.length := by simp at h; omega
 subst hkk
 refine awp_localS 5 (sz := 4) ((takeS f.vals l).map SV.enc) [(5, .lst 4 ((takeS f.vals l).map SV.enc) .sh)] rfl ?_ ?_ ?_ (by omega) (by simp [putS, dropS, Go.Av.look]) ?_ ?_ ?_
 ·intro x hx
  obtain ⟨y, _, rfl⟩ := List.mem_map.1 hx
  exact y.cells_len
 ·simp [takeS]
 ·rw [← rowT_all, List.take_of_length_le]
  rw [cellsAll_length rowT_cells, rowT_len hk]
  exact Nat.le_refl _
 ·exact hup
 ·intro p hp
  simp only [List.mem_singleton] at hp
  subst hp
  exact ⟨hres, trivial⟩
 refine zh1 (za0 ?_)
 refine awp_ret ?_
 simp -dsimp only [simprocAttr, ↓vpre, zp, zr, Try.results104, List.take_length]
 exact ⟨hup, hres⟩
theorem wordOf_spec (n : Int) : PCall Try.prog 127 [aI n] (SV.word n).enc := by
 refine zf true 0 Try.func127 Try.ntmps127 ?_
 dsimp only [Tmp, TypeId, slotsOf]
 refine zh1 (za0 ?_)
 refine zh1 (za0 ?_)
 refine awp_ret ?_
 simp -dsimp only [simprocAttr, ↓vpre, zp, zr, Try.results127]
 simp [SV.word, SV.enc_mk, eP, uptoL, AVal.upto]
theorem truth_spec (b : Bool) : PCall Try.prog 141 [.v (.bool b)] (SV.word (if b then 1 else 0)).enc := by
 have h1 := wordOf_spec 1
 have h0 := wordOf_spec 0
 have c1 : (SV.word 1).enc.cells = [aI 0, aI 1, .lst 4 [] .sh, .v (.pointer none)] := rfl
 have c0 : (SV.word 0).enc.cells = [aI 0, aI 0, .lst 4 [] .sh, .v (.pointer none)] := rfl
 refine zf true 0 Try.func141 Try.ntmps141 ?_
 dsimp only [Tmp, TypeId, slotsOf]
 refine zh1 (za0 ?_)
 refine zh2 (za0 ?_)
 apply zk0 rfl <;> intro h
 ·refine zh1 ?_
  refine .inl ⟨_, h1, by simp only [uptoL, AVal.upto, zt], later_intro ?_⟩
  simp -dsimp only [simprocAttr, ↓vpre, zp, c1]
  refine za0 ?_
  refine awp_ret ?_
  simp -dsimp only [simprocAttr, ↓vpre, zp, zr, Try.results141]
  subst h
  exact ⟨by simp [uptoL, AVal.upto], rfl⟩
 refine zb0 ?_
 refine zh1 ?_
 refine .inl ⟨_, h0, by simp only [uptoL, AVal.upto, zt], later_intro ?_⟩
 simp -dsimp only [simprocAttr, ↓vpre, zp, c0]
 refine za0 ?_
 refine awp_ret ?_
 simp -dsimp only [simprocAttr, ↓vpre, zp, zr, Try.results141]
 subst h
 exact ⟨by simp [uptoL, AVal.upto], rfl⟩
theorem all_spec {O : List AObj} (hup : ∀ o ∈ O, o.upto O.length) (l : List SV) (hl : ∀ v ∈ l, SV.Under O.length v) (k : Int) : ECall Try.prog 128 O [.lst 4 (l.map SV.enc) .sh, aI k] (fun r O' => r = .v (.bool (allK l k)) ∧ O' = O) := by
 refine zf true O.length Try.func128 Try.ntmps128 ?_
 dsimp only [Tmp, TypeId, slotsOf]
 refine zh1 (za0 ?_)
 refine zh2 (za0 ?_)
 refine awp_len 7 rfl (fun hlen => ?_)
 simp only [List.length_map] at hlen
 refine awp_block (awp_loop (ι := {j : Nat // j ≤ l.length ∧ ∀ v ∈ l.take j, v.kind = k}) (fun j => ⟨18, [(1, aI k), (4, .v (.bool false)), (7, .lst 4 (l.map SV.enc) .sh), (8, aI l.length), (9, aI j.1)], O⟩) (fun j => l.length - j.1) ⟨0, by omega, by simp⟩ ?_ ?_)
 ·refine zq rfl ?_ ?_
  simp -dsimp only [simprocAttr, ↓vpre, zp, zc]
  rfl
 rintro ⟨j, hj, hall⟩
 refine zh1 (za0 ?_)
 apply zk1 rfl <;> intro h
 ·refine zb0 ?_
  have hlt : j < l.length := by simpa using h
  obtain ⟨v, hv⟩ : ∃ v, l[j]? = some v := ⟨l[j], by simp [hlt]⟩
  have hvu := (hl v (List.mem_of_getElem? hv)).enc_upto
  rw [SV.enc_eq] at hvu
  refine awp_seq (awp_block ?_)
  refine zg1 ?_
  simp -dsimp only [simprocAttr, ↓vpre, zp, hv]
  refine za0 ?_
  refine awp_local 6 ([aI v.kind, aI v.n, .lst 4 (v.list.map SV.enc) .sh, eP v.arr]) [(1, aI k), (4, .v (.bool false)), (6, .ip none [aI v.kind, aI v.n, .lst 4 (v.list.map SV.enc) .sh, eP v.arr]), (7, .lst 4 (l.map SV.enc) .sh), (8, aI l.length), (9, aI j)] rfl (by simp only [List.map_cons, List.map_nil, shareCell_v, shareCell_lst, shareCell_mm, shareCell_mp, shareCell_ip, shareCell_fn, shareCell_im, eP_shareCell]) (by omega) (by simp [putS, dropS, Go.Av.look]) ?_ ?_ ?_
  ·exact hup
  ·intro p hp
   simp only [List.mem_cons, List.mem_nil_iff, or_false] at hp
   have hlu := SV.map_upto hl
   rcases hp with rfl | rfl | rfl | rfl | rfl | rfl
   ·trivial
   ·trivial
   ·exact hvu
   ·exact ⟨hlu, trivial⟩
   ·trivial
   trivial
  refine zh1 (za0 ?_)
  apply zk0 rfl <;> intro h
  ·refine zh1 (za0 ?_)
   refine awp_ret ?_
   simp -dsimp only [simprocAttr, ↓vpre, zp, zr, Try.results128]
   have hk : v.kind ≠ k := by simpa using h
   refine ⟨hup, ?_⟩
   have : allK l k = false := by
    simp only [allK, List.all_eq_false, decide_eq_true_eq]
    exact ⟨v, List.mem_of_getElem? hv, hk⟩
   rw [this]
  refine zb1 ?_
  have hk : v.kind = k := by simpa using h
  refine zh0 ?_
  repeat (refine ⟨by omega, ?_⟩)
  refine zl0 ?_
  refine ⟨⟨j + 1, hlt, fun w hw => ?_⟩, by simp; omega, ?_⟩
  ·rw [List.take_add_one, hv] at hw
   simp only [Option.toList_some, List.mem_append, List.mem_singleton] at hw
   rcases hw with hw | rfl
   ·exact hall w hw
   exact hk
  refine zq rfl ?_ ?_
  simp -dsimp only [simprocAttr, ↓vpre, zp, zc]
  ·exact Sub.int (by simp)
  rfl
 refine awp_exit ?_
 simp -dsimp only [vend, ne_eq, Nat.reduceEqDiff, reduceCtorEq]
 have hkk : j = l.length := by simp at h; omega
 subst hkk
 refine zh1 (za0 ?_)
 refine awp_ret ?_
 simp -dsimp only [simprocAttr, ↓vpre, zp, zr, Try.results128]
 rw [List.take_length] at hall
 refine ⟨hup, ?_⟩
 have : allK l k = true := by
  simp only [allK, List.all_eq_true, decide_eq_true_eq]
  exact hall
 rw [this]
theorem all_at {O : List AObj} (hup : ∀ o ∈ O, o.upto O.length) (l : List SV) (hl : ∀ v ∈ l, SV.Under O.length v) (k : Int) (X : List AObj) : ECall Try.prog 128 (O ++ X) [.lst 4 (l.map SV.enc) .sh, aI k] (fun r O' => r = .v (.bool (allK l k)) ∧ O' = O ++ X) :=
 ECall.frame (all_spec hup l hl k) rfl ⟨⟨SV.map_upto hl, trivial⟩, trivial, trivial⟩ hup X
theorem word_cells (n : Int) : (SV.word n).enc.cells = [aI 0, aI n, .lst 4 [] .sh, .v (.pointer none)] := rfl
theorem word_under (k : Nat) (n : Int) : SV.Under k (SV.word n) := .mk (by simp) (by simp)
theorem zero_under (k : Nat) : SV.Under k SV.zero := .mk (by simp) (by simp)
theorem wordW {k : Nat} {n m : Int} : uptoL k [(SV.word n).enc, .v (.int .i64 m)] := ⟨(word_under k n).enc_upto, trivial, trivial⟩
theorem zeroW {k : Nat} {m : Int} : uptoL k [SV.zero.enc, .v (.int .i64 m)] := ⟨(zero_under k).enc_upto, trivial, trivial⟩
theorem word_agg (n : Int) : AVal.agg [aI 0, aI n, .lst 4 [] .sh, .v (.pointer none)] = (SV.word n).enc := rfl
theorem zero_agg : AVal.agg [aI 0, aI 0, .lst 4 [] .sh, .v (.pointer none)] = SV.zero.enc := rfl
theorem binary_spec (op a b : Int) (ha : isW a) (hb : isW b) : PCall Try.prog 129 [aI op, aI a, aI b] (.tup [(binaryM op a b).1.enc, aI (binaryM op a b).2]) := by
 have q1 := add_spec a b ha hb
 have q2 := sub_spec a b ha hb
 have q3 := mul_spec a b ha hb
 have q4 := fun h => div_spec a b ha hb h
 have q5 := fun h => mod_spec a b ha hb h
 refine zf true 0 Try.func129 Try.ntmps129 ?_
 dsimp only [Tmp, TypeId, slotsOf]
 refine zh1 (za0 ?_)
 refine zh2 (za0 ?_)
 refine awp_block ?_
 refine zh1 (za0 ?_)
 apply zk0 rfl <;> intro h
 ·have e : op = 1 := by simpa using h
  refine zh1 ?_
  refine .inl ⟨_, q1, by simp only [uptoL, AVal.upto, zt], later_intro ?_⟩
  refine .inl ⟨_, wordOf_spec _, by simp [uptoL, AVal.upto, share_v], later_intro ?_⟩
  simp -dsimp only [simprocAttr, ↓vpre, zp, word_cells]
  refine za0 ?_
  refine awp_ret ?_
  simp -dsimp only [simprocAttr, ↓vpre, zp, zr, Try.results129, word_agg]
  simp [binaryM, e, wordW]
 have e1 : op ≠ 1 := by simpa using h
 refine zh1 (za0 ?_)
 apply zk0 rfl <;> intro h
 ·have e : op = 2 := by simpa using h
  refine zh1 ?_
  refine .inl ⟨_, q2, by simp only [uptoL, AVal.upto, zt], later_intro ?_⟩
  refine .inl ⟨_, wordOf_spec _, by simp [uptoL, AVal.upto, share_v], later_intro ?_⟩
  simp -dsimp only [simprocAttr, ↓vpre, zp, word_cells]
  refine za0 ?_
  refine awp_ret ?_
  simp -dsimp only [simprocAttr, ↓vpre, zp, zr, Try.results129, word_agg]
  simp [binaryM, e, wordW]
 have e2 : op ≠ 2 := by simpa using h
 refine zh1 (za0 ?_)
 apply zk0 rfl <;> intro h
 ·have e : op = 3 := by simpa using h
  refine zh1 ?_
  refine .inl ⟨_, q3, by simp only [uptoL, AVal.upto, zt], later_intro ?_⟩
  refine .inl ⟨_, wordOf_spec _, by simp [uptoL, AVal.upto, share_v], later_intro ?_⟩
  simp -dsimp only [simprocAttr, ↓vpre, zp, word_cells]
  refine za0 ?_
  refine awp_ret ?_
  simp -dsimp only [simprocAttr, ↓vpre, zp, zr, Try.results129, word_agg]
  simp [binaryM, e, wordW]
 have e3 : op ≠ 3 := by simpa using h
 refine zh1 (za0 ?_)
 apply zk0 rfl <;> intro h
 ·have e : op = 6 := by simpa using h
  refine zh1 ?_
  refine .inl ⟨_, truth_spec _, by simp only [uptoL, AVal.upto, zt], later_intro ?_⟩
  simp -dsimp only [simprocAttr, ↓vpre, zp, word_cells]
  refine za0 ?_
  refine awp_ret ?_
  simp -dsimp only [simprocAttr, ↓vpre, zp, zr, Try.results129, word_agg]
  simp [binaryM, e, wordW]
 have e6 : op ≠ 6 := by simpa using h
 refine zh1 (za0 ?_)
 apply zk0 rfl <;> intro h
 ·have e : op = 7 := by simpa using h
  refine zh1 ?_
  refine .inl ⟨_, truth_spec _, by simp only [uptoL, AVal.upto, zt], later_intro ?_⟩
  simp -dsimp only [simprocAttr, ↓vpre, zp, word_cells]
  refine za0 ?_
  refine awp_ret ?_
  simp -dsimp only [simprocAttr, ↓vpre, zp, zr, Try.results129, word_agg]
  simp [binaryM, e, wordW]
 have e7 : op ≠ 7 := by simpa using h
 refine zb1 ?_
 refine zh2 (za0 ?_)
 apply zk0 rfl <;> intro h
 ·have e : b = 0 := by simpa using h
  refine zh1 (za0 ?_)
  refine awp_ret ?_
  simp -dsimp only [simprocAttr, ↓vpre, zp, zr, Try.results129, zero_agg]
  simp [binaryM, e1, e2, e3, e6, e7, e, zeroW]
 have e0 : b ≠ 0 := by simpa using h
 refine zb0 ?_
 refine zh2 (za0 ?_)
 apply zk0 rfl <;> intro h
 ·have e : op = 4 := by simpa using h
  refine zh1 ?_
  refine zi (q4 e0) ?_
  refine za0 ?_
  refine zh1 ?_
  refine .inl ⟨_, wordOf_spec _, by simp only [uptoL, AVal.upto, zt], later_intro ?_⟩
  simp -dsimp only [simprocAttr, ↓vpre, zp, word_cells]
  refine za0 ?_
  refine awp_ret ?_
  simp -dsimp only [simprocAttr, ↓vpre, zp, zr, Try.results129, word_agg]
  simp [binaryM, e, wordW, e0]
 have e4 : op ≠ 4 := by simpa using h
 refine zb0 ?_
 refine zh1 ?_
 refine zi (q5 e0) ?_
 refine za0 ?_
 refine zh1 ?_
 refine .inl ⟨_, wordOf_spec _, by simp only [uptoL, AVal.upto, zt], later_intro ?_⟩
 simp -dsimp only [simprocAttr, ↓vpre, zp, word_cells]
 refine za0 ?_
 refine awp_ret ?_
 simp -dsimp only [simprocAttr, ↓vpre, zp, zr, Try.results129, word_agg]
 simp [binaryM, e1, e2, e3, e4, e6, e7, wordW, e0]
theorem argS_of {l : List SV} {k : Nat} {v : SV} (h : l[k]? = some v) : argS l k = v := by simp [argS, h]
theorem resW {k : Nat} {v : SV} {m : Int} (h : SV.Under k v) : uptoL k [v.enc, .v (.int .i64 m)] := ⟨h.enc_upto, trivial, trivial⟩
theorem under_list {k : Nat} {v : SV} (h : SV.Under k v) : ∀ x ∈ v.list, SV.Under k x := by cases h; assumption
theorem object_spec {O : List AObj} (hup : ∀ o ∈ O, o.upto O.length) (i : Ins) (args : List SV) (hl : ∀ v ∈ args, SV.Under O.length v) (o : SV) (h0 : args[0]? = some o)
  (hp : i.op ≠ 10 → i.op ≠ 11 → i.op ≠ 12 → ∃ p, args[1]? = some p) (hn : i.op = 11 → 0 ≤ i.n) :
  ECall Try.prog 130 O [i.enc, .lst 4 (args.map SV.enc) .sh] (fun r O' => r = .tup [(objectM i args).1.enc, aI (objectM i args).2] ∧ O' = O) := by
 have hou := hl o (List.mem_of_getElem? h0)
 have ha := argS_of h0
 refine zf true O.length Try.func130 Try.ntmps130 ?_
 dsimp only [Tmp, TypeId, slotsOf]
 refine zh1 (za0 ?_)
 refine zg1 ?_
 simp -dsimp only [simprocAttr, ↓vpre, zp, h0]
 refine za0 ?_
 refine awp_seq (awp_block ?_)
 refine zh1 (za0 ?_)
 apply zk0 rfl <;> intro h
 ·have e : i.op = 11 := by simpa using h
  by_cases hk : o.kind = 1 ∨ o.kind = 2
  ·have hd : (decide (o.kind = 1) = true) ∨ (decide (o.kind = 1) = false ∧ decide (o.kind = 2) = true) := by
    rcases hk with hk | hk
    ·exact .inl (decide_eq_true hk)
    exact .inr ⟨decide_eq_false (by omega), decide_eq_true hk⟩
   have hnk : ¬ (o.kind ≠ 1 ∧ o.kind ≠ 2) := by omega
   have hn0 := hn e
   by_cases hlen : (o.list.length : Int) ≤ i.n
   ·have hdl : decide ((o.list.length : Int) ≤ i.n) = true := decide_eq_true hlen
    rcases hd with hd | ⟨hd, hd2⟩
    ·refine zg2 ?_
     simp -dsimp only [simprocAttr, ↓vpre, zp, hd, hdl]
     refine za0 ?_
     refine zw0 rfl ?_
     refine zh1 (za0 ?_)
     refine awp_ret ?_
     simp -dsimp only [simprocAttr, ↓vpre, zp, zr, Try.results130, zero_agg]
     refine ⟨hup, zeroW, ?_⟩
     simp [objectM, e, ha, hlen]
    refine zg2 ?_
    simp -dsimp only [simprocAttr, ↓vpre, zp, hd, hd2, hdl]
    refine za0 ?_
    refine zw0 rfl ?_
    refine zh1 (za0 ?_)
    refine awp_ret ?_
    simp -dsimp only [simprocAttr, ↓vpre, zp, zr, Try.results130, zero_agg]
    refine ⟨hup, zeroW, ?_⟩
    simp [objectM, e, ha, hlen]
   have hdl : decide ((o.list.length : Int) ≤ i.n) = false := decide_eq_false hlen
   obtain ⟨x, hx⟩ : ∃ x, o.list[i.n.toNat]? = some x := ⟨o.list[i.n.toNat]'(by omega), List.getElem?_eq_getElem _⟩
   have hxu := under_list hou x (List.mem_of_getElem? hx)
   have hax := argS_of hx
   rcases hd with hd | ⟨hd, hd2⟩
   ·refine zg2 ?_
    simp -dsimp only [simprocAttr, ↓vpre, zp, hd, hdl]
    refine za0 ?_
    refine zu0 rfl ?_
    refine zb0 ?_
    refine zg1 ?_
    simp -dsimp only [simprocAttr, ↓vpre, zp, hx]
    repeat (refine ⟨by omega, ?_⟩)
    refine za0 ?_
    refine awp_ret ?_
    simp -dsimp only [simprocAttr, ↓vpre, zp, zr, Try.results130]
    refine ⟨hup, resW hxu, ?_⟩
    simp [objectM, e, ha, hlen, hax, hnk]
   refine zg2 ?_
   simp -dsimp only [simprocAttr, ↓vpre, zp, hd, hd2, hdl]
   refine za0 ?_
   refine zu0 rfl ?_
   refine zb0 ?_
   refine zg1 ?_
   simp -dsimp only [simprocAttr, ↓vpre, zp, hx]
   repeat (refine ⟨by omega, ?_⟩)
   refine za0 ?_
   refine awp_ret ?_
   simp -dsimp only [simprocAttr, ↓vpre, zp, zr, Try.results130]
   refine ⟨hup, resW hxu, ?_⟩
   simp [objectM, e, ha, hlen, hax, hnk]
  have hk1 : decide (o.kind = 1) = false := decide_eq_false (by omega)
  have hk2 : decide (o.kind = 2) = false := decide_eq_false (by omega)
  have hnk : o.kind ≠ 1 ∧ o.kind ≠ 2 := by omega
  refine zg2 ?_
  simp -dsimp only [simprocAttr, ↓vpre, zp, hk1, hk2]
  refine za0 ?_
  refine zw0 rfl ?_
  refine zh1 (za0 ?_)
  refine awp_ret ?_
  simp -dsimp only [simprocAttr, ↓vpre, zp, zr, Try.results130, zero_agg]
  refine ⟨hup, zeroW, ?_⟩
  simp [objectM, e, ha, hnk]
 have e11 : i.op ≠ 11 := by simpa using h
 refine zh1 (za0 ?_)
 apply zk0 rfl <;> intro h
 ·have hk : o.kind ≠ 1 := by simpa using h
  refine zh1 (za0 ?_)
  refine awp_ret ?_
  simp -dsimp only [simprocAttr, ↓vpre, zp, zr, Try.results130, zero_agg]
  refine ⟨hup, zeroW, ?_⟩
  simp [objectM, e11, ha, hk]
 have hk : o.kind = 1 := by simpa using h
 refine zh1 (za0 ?_)
 apply zk0 rfl <;> intro h
 ·have e10 : i.op = 10 := by simpa using h
  refine zh1 ?_
  refine .inl ⟨_, wordOf_spec o.n, by simp only [uptoL, AVal.upto, zt], later_intro ?_⟩
  simp -dsimp only [simprocAttr, ↓vpre, zp, word_cells]
  refine za0 ?_
  refine awp_ret ?_
  simp -dsimp only [simprocAttr, ↓vpre, zp, zr, Try.results130, word_agg]
  refine ⟨hup, wordW, ?_⟩
  simp [objectM, e10, ha, hk]
 have e10 : i.op ≠ 10 := by simpa using h
 refine zh1 (za0 ?_)
 apply zk0 rfl <;> intro h
 ·have e12 : i.op = 12 := by simpa using h
  refine zh1 ?_
  refine .inl ⟨_, wordOf_spec o.list.length, by simp only [uptoL, AVal.upto, zt], later_intro ?_⟩
  simp -dsimp only [simprocAttr, ↓vpre, zp, word_cells]
  refine za0 ?_
  refine awp_ret ?_
  simp -dsimp only [simprocAttr, ↓vpre, zp, zr, Try.results130, word_agg]
  refine ⟨hup, wordW, ?_⟩
  simp [objectM, e12, ha, hk]
 have e12 : i.op ≠ 12 := by simpa using h
 obtain ⟨p, h1⟩ := hp e10 e11 e12
 have hb := argS_of h1
 refine zg1 ?_
 simp -dsimp only [simprocAttr, ↓vpre, zp, h1]
 refine za0 ?_
 apply zk0 rfl <;> intro h
 ·have hpk : p.kind ≠ 0 := by simpa using h
  refine zh1 (za0 ?_)
  refine awp_ret ?_
  simp -dsimp only [simprocAttr, ↓vpre, zp, zr, Try.results130, zero_agg]
  refine ⟨hup, zeroW, ?_⟩
  simp [objectM, e10, e11, e12, ha, hb, hk, hpk]
 have hpk : p.kind = 0 := by simpa using h
 by_cases hlo : p.n < 0
 ·have hdl : decide (p.n < 0) = true := decide_eq_true hlo
  refine zg1 ?_
  simp -dsimp only [simprocAttr, ↓vpre, zp, h1, hdl]
  refine ⟨ob (by kernel_rfl), ?_⟩
  refine za0 ?_
  refine zw0 rfl ?_
  refine zh1 (za0 ?_)
  refine awp_ret ?_
  simp -dsimp only [simprocAttr, ↓vpre, zp, zr, Try.results130, zero_agg]
  refine ⟨hup, zeroW, ?_⟩
  simp [objectM, e10, e11, e12, ha, hb, hk, hpk, hlo]
 have hdl : decide (p.n < 0) = false := decide_eq_false hlo
 by_cases hlen : (o.list.length : Int) ≤ p.n
 ·have hdn : decide ((o.list.length : Int) ≤ p.n) = true := decide_eq_true hlen
  refine zg1 ?_
  simp -dsimp only [simprocAttr, ↓vpre, zp, h1, hdl, hdn]
  refine ⟨ob (by kernel_rfl), ?_⟩
  refine za0 ?_
  refine zw0 rfl ?_
  refine zh1 (za0 ?_)
  refine awp_ret ?_
  simp -dsimp only [simprocAttr, ↓vpre, zp, zr, Try.results130, zero_agg]
  refine ⟨hup, zeroW, ?_⟩
  simp [objectM, e10, e11, e12, ha, hb, hk, hpk, hlo, hlen]
 have hdn : decide ((o.list.length : Int) ≤ p.n) = false := decide_eq_false hlen
 obtain ⟨x, hx⟩ : ∃ x, o.list[p.n.toNat]? = some x := ⟨o.list[p.n.toNat]'(by omega), List.getElem?_eq_getElem _⟩
 have hxu := under_list hou x (List.mem_of_getElem? hx)
 have hax := argS_of hx
 refine zg1 ?_
 simp -dsimp only [simprocAttr, ↓vpre, zp, h1, hdl, hdn]
 refine ⟨ob (by kernel_rfl), ?_⟩
 refine za0 ?_
 refine zu0 rfl ?_
 refine zb1 ?_
 refine zg1 ?_
 simp -dsimp only [simprocAttr, ↓vpre, zp, h1, hx]
 repeat (refine ⟨by omega, ?_⟩)
 refine ⟨ob (by kernel_rfl), ?_⟩
 refine za0 ?_
 refine awp_ret ?_
 simp -dsimp only [simprocAttr, ↓vpre, zp, zr, Try.results130]
 refine ⟨hup, resW hxu, ?_⟩
 simp [objectM, e10, e11, e12, ha, hb, hk, hpk, hlo, hlen, hax]
theorem zipM_snoc {op : Int} : ∀ {l r : List SV} {k : Nat} {x y : SV}, l[k]? = some x → r[k]? = some y → zipM op (l.take (k + 1)) (r.take (k + 1)) = zipM op (l.take k) (r.take k) ++ [(binaryM op x.n y.n).1]
 | a :: l, b :: r, 0, x, y, h1, h2 => by
  simp only [List.getElem?_cons_zero, Option.some.injEq] at h1 h2
  subst h1
  subst h2
  simp [zipM]
 | a :: l, b :: r, k + 1, x, y, h1, h2 => by
  have ih := zipM_snoc (op := op) (l := l) (r := r) (k := k) (by simpa using h1) (by simpa using h2)
  simp only [List.take_succ_cons, zipM, List.cons_append]
  rw [ih]
theorem zipM_len {op : Int} : ∀ (l r : List SV), (zipM op l r).length = min l.length r.length
 | [], _ => by simp [zipM]
 | _ :: _, [] => by simp [zipM]
 | a :: l, b :: r => by simp [zipM, zipM_len l r]
theorem binaryM_under (k : Nat) (op a b : Int) : SV.Under k (binaryM op a b).1 := by
 unfold binaryM
 repeat' split
 all_goals exact word_under _ _
theorem zipM_under {op : Int} {k : Nat} : ∀ (l r : List SV), ∀ v ∈ zipM op l r, SV.Under k v
 | [], _, v, h => by simp [zipM] at h
 | _ :: _, [], v, h => by simp [zipM] at h
 | a :: l, b :: r, v, h => by
  simp only [zipM, List.mem_cons] at h
  rcases h with rfl | h
  ·exact binaryM_under _ _ _ _
  exact zipM_under l r v h
theorem vector_spec {O : List AObj} (hup : ∀ o ∈ O, o.upto O.length) (i : Ins) (args : List SV) (hl : ∀ v ∈ args, SV.Under O.length v) (h1 : i.op = 24 → ∃ x, args[0]? = some x) (h2 : i.op ≠ 22 → i.op ≠ 24 → ∃ x y, args = [x, y])
  (hn : i.op = 24 → 0 ≤ i.n) (hw : ∀ v ∈ args, v.kind = 4 → v.list.length ≤ 1000 ∧ ∀ x ∈ v.list, isW x.n) :
  ECall Try.prog 131 O [i.enc, .lst 4 (args.map SV.enc) .sh] (fun r O' => r = .tup [(vectorM i args).1.enc, aI (vectorM i args).2] ∧ O' = O) := by
 have hmk : ∀ l : List SV, AVal.agg [aI 4, aI 0, .lst 4 (l.map SV.enc) .sh, .v (.pointer none)] = (SV.mk 4 0 l none).enc := fun l => (SV.enc_mk 4 0 l none).symm
 refine zf true O.length Try.func131 Try.ntmps131 ?_
 dsimp only [Tmp, TypeId, slotsOf]
 refine zh1 (za0 ?_)
 refine awp_frzk 2 0 ([aI i.to, aI i.op, aI i.n, eIs i.args]) rfl rfl (by rfl) ?_
 simp -dsimp only [simprocAttr, ↓vpre, zp]
 refine zh2 (za0 ?_)
 refine awp_block ?_
 refine zh1 (za0 ?_)
 apply zk0 rfl <;> intro h
 ·have e : i.op = 22 := by simpa using h
  refine zh2 ?_
  refine .inr (.inr ⟨_, all_at hup args hl 0 _, later_intro (zj ?_)⟩)
  refine za0 ?_
  cases hall : allK args 0 with
  | true =>
   apply zk0 rfl <;> intro h
   ·simp [hall] at h
   refine zb0 ?_
   refine zh1 (za0 ?_)
   refine awp_ret ?_
   simp -dsimp only [simprocAttr, ↓vpre, zp, zr, Try.results131, hmk]
   have hz := (SV.Under.mk (k := 4) (m := 0) (a := none) (by simp) hl).enc_upto
   rw [SV.enc_mk] at hz
   refine ⟨hup, ⟨hz, trivial, trivial⟩, ?_⟩
   simp [vectorM, e, hall, SV.enc_mk]
  | false =>
   apply zk0 rfl <;> intro h
   ·refine zh1 (za0 ?_)
    refine awp_ret ?_
    simp -dsimp only [simprocAttr, ↓vpre, zp, zr, Try.results131, zero_agg]
    refine ⟨hup, zeroW, ?_⟩
    simp [vectorM, e, hall]
   simp [hall] at h
 have e22 : i.op ≠ 22 := by simpa using h
 refine zh1 (za0 ?_)
 apply zk0 rfl <;> intro h
 ·have e : i.op = 24 := by simpa using h
  obtain ⟨x, hx⟩ := h1 e
  have hax := argS_of hx
  have hn0 := hn e
  have hxu := hl x (List.mem_of_getElem? hx)
  by_cases hk : x.kind = 4
  ·have hd : decide (x.kind = 4) = true := decide_eq_true hk
   by_cases hlen : (x.list.length : Int) ≤ i.n
   ·have hdl : decide ((x.list.length : Int) ≤ i.n) = true := decide_eq_true hlen
    refine zg2 ?_
    simp -dsimp only [simprocAttr, ↓vpre, zp, hx, hd, hdl]
    refine ⟨ob (by kernel_rfl), ?_⟩
    refine za0 ?_
    refine zw0 rfl ?_
    refine zh1 (za0 ?_)
    refine awp_ret ?_
    simp -dsimp only [simprocAttr, ↓vpre, zp, zr, Try.results131, zero_agg]
    refine ⟨hup, zeroW, ?_⟩
    simp [vectorM, e, hax, hlen]
   have hdl : decide ((x.list.length : Int) ≤ i.n) = false := decide_eq_false hlen
   obtain ⟨z, hz⟩ : ∃ z, x.list[i.n.toNat]? = some z := ⟨x.list[i.n.toNat]'(by omega), List.getElem?_eq_getElem _⟩
   have hzu := under_list hxu z (List.mem_of_getElem? hz)
   have haz := argS_of hz
   refine zg2 ?_
   simp -dsimp only [simprocAttr, ↓vpre, zp, hx, hd, hdl]
   refine ⟨ob (by kernel_rfl), ?_⟩
   refine za0 ?_
   refine zu0 rfl ?_
   refine zb0 ?_
   refine zg1 ?_
   simp -dsimp only [simprocAttr, ↓vpre, zp, hx, hz]
   repeat (refine ⟨by omega, ?_⟩)
   refine ⟨ob (by kernel_rfl), ?_⟩
   refine za0 ?_
   refine awp_ret ?_
   simp -dsimp only [simprocAttr, ↓vpre, zp, zr, Try.results131]
   refine ⟨hup, resW hzu, ?_⟩
   simp [vectorM, e, hax, hlen, hk, haz]
  have hd : decide (x.kind = 4) = false := decide_eq_false hk
  refine zg2 ?_
  simp -dsimp only [simprocAttr, ↓vpre, zp, hx, hd]
  refine ⟨ob (by kernel_rfl), ?_⟩
  refine za0 ?_
  refine zw0 rfl ?_
  refine zh1 (za0 ?_)
  refine awp_ret ?_
  simp -dsimp only [simprocAttr, ↓vpre, zp, zr, Try.results131, zero_agg]
  refine ⟨hup, zeroW, ?_⟩
  simp [vectorM, e, hax, hk]
 have e24 : i.op ≠ 24 := by simpa using h
 obtain ⟨x, y, e⟩ := h2 e22 e24
 subst e
 have hall := all_at hup [x, y] hl 4
 cases hk : allK [x, y] 4 with
 | false =>
  simp only [hk, List.map_cons, List.map_nil] at hall
  refine zb1 ?_
  refine zh2 ?_
  refine .inr (.inr ⟨_, hall _, later_intro (zj ?_)⟩)
  refine ⟨ob (by kernel_rfl), ?_⟩
  refine za0 ?_
  refine zw0 rfl ?_
  refine zh1 (za0 ?_)
  refine awp_ret ?_
  simp -dsimp only [simprocAttr, ↓vpre, zp, zr, Try.results131, zero_agg]
  refine ⟨hup, zeroW, ?_⟩
  simp [vectorM, e22, e24, hk]
 | true =>
  simp only [hk, List.map_cons, List.map_nil] at hall
  by_cases hlen : x.list.length = y.list.length
  ·have hd : decide ((x.list.length : Int) = y.list.length) = true := decide_eq_true (by omega)
   refine zb1 ?_
   refine zh2 ?_
   refine .inr (.inr ⟨_, hall _, later_intro ?_⟩)
   simp -dsimp only [simprocAttr, ↓vpre, zp, hd]
   refine ⟨ob (by kernel_rfl), ?_⟩
   refine za0 ?_
   apply zk0 rfl <;> intro h
   ·cases h
   refine zb0 ?_
   refine zh1 (za0 ?_)
   refine awp_ownCell (O.length + 2) 2 (by rw [at_newk]; rfl) rfl ?_
   simp -dsimp only [simprocAttr, ↓vpre, zp]
   refine zh2 (za0 ?_)
   refine awp_len 68 rfl (fun hlenx => ?_)
   simp only [List.length_map] at hlenx
   have hkk : x.kind = 4 ∧ y.kind = 4 := by simpa [allK] using hk
   obtain ⟨hxl, hxw⟩ := hw x (by simp) hkk.1
   obtain ⟨hyl, hyw⟩ := hw y (by simp) hkk.2
   refine awp_block (awp_loop (ι := {j : Nat // j ≤ x.list.length}) (fun j => ⟨99, [(1, .lst 4 [x.enc, y.enc] .sh), (2, .ip none [aI i.to, aI i.op, aI i.n, eIs i.args]), (4, .mp (O.length + 1) 0), (5, aI 0), (6, .mp (O.length + 2) 0), (68, .lst 4 (x.list.map SV.enc) .sh), (69, aI x.list.length), (70, aI j.1)], O ++ [.gone, .cells [aI 0, aI 0, .lst 4 [] .ex, .v (.pointer none)], .cells [aI 4, aI 0, .lst 4 ((zipM i.n (x.list.take j.1) (y.list.take j.1)).map SV.enc) (.tok (O.length + 3)), .v (.pointer none)], .spare j.1]⟩) (fun j => x.list.length - j.1) ⟨0, by omega⟩ ?_ ?_)
   ·refine zq rfl ?_ ?_
    simp -dsimp only [simprocAttr, ↓vpre, zp, zc]
    simp [zipM]
   rintro ⟨j, hj⟩
   have hzl : (zipM i.n (x.list.take j) (y.list.take j)).length = j := by
    rw [zipM_len, List.length_take, List.length_take]
    omega
   refine zh1 (za0 ?_)
   apply zk1 rfl <;> intro h
   ·refine zb0 ?_
    have hlt : j < x.list.length := by simpa using h
    obtain ⟨a, ha⟩ : ∃ a, x.list[j]? = some a := ⟨x.list[j], by simp [hlt]⟩
    obtain ⟨b, hb⟩ : ∃ b, y.list[j]? = some b := ⟨y.list[j]'(by omega), List.getElem?_eq_getElem _⟩
    have haw := hxw a (List.mem_of_getElem? ha)
    have hbw := hyw b (List.mem_of_getElem? hb)
    refine awp_seq (awp_block ?_)
    refine zg1 ?_
    simp -dsimp only [simprocAttr, ↓vpre, zp, ha]
    refine za0 ?_
    refine awp_frzk 8 4 ([aI a.kind, aI a.n, .lst 4 (a.list.map SV.enc) .sh, eP a.arr]) rfl rfl (by simp only [List.map_cons, List.map_nil, shareCell_v, shareCell_lst, shareCell_mm, shareCell_mp, shareCell_ip, shareCell_fn, shareCell_im, eP_shareCell]) ?_
    simp -dsimp only [simprocAttr, ↓vpre, zp]
    refine zg1 ?_
    simp -dsimp only [simprocAttr, ↓vpre, zp, hb]
    refine zi (binary_spec i.n a.n b.n haw hbw) ?_
    refine ⟨ob (by kernel_rfl), ?_⟩
    refine za0 ?_
    generalize hB : (binaryM i.n a.n b.n).1 = B
    refine awp_frzk 9 5 ([aI B.kind, aI B.n, .lst 4 (B.list.map SV.enc) .sh, eP B.arr]) rfl rfl (by simp only [List.map_cons, List.map_nil, shareCell_v, shareCell_lst, shareCell_mm, shareCell_mp, shareCell_ip, shareCell_fn, shareCell_im, eP_shareCell]) ?_
    simp -dsimp only [simprocAttr, ↓vpre, zp]
    refine zg0 ?_
    simp -dsimp only [simprocAttr, ↓vpre, zp, hzl]
    repeat (refine ⟨by omega, ?_⟩)
    refine za0 ?_
    have hzs := zipM_snoc (op := i.n) ha hb
    rw [hB] at hzs
    have hxu := (hl x (by simp)).mono (show O.length ≤ O.length + 4 by omega)
    have hyu := (hl y (by simp)).mono (show O.length ≤ O.length + 4 by omega)
    have hzu := SV.map_upto (n := O.length + 4) (zipM_under (op := i.n) (x.list.take (j + 1)) (y.list.take (j + 1)))
    rw [hzs, List.map_append, List.map_cons, List.map_nil] at hzu
    have hxl' := SV.map_upto (under_list hxu)
    refine awp_cut 4 ([.gone, .cells [aI 0, aI 0, .lst 4 [] .ex, .v (.pointer none)], .cells [aI 4, aI 0, .lst 4 ((zipM i.n (x.list.take j) (y.list.take j)).map SV.enc ++ [B.enc]) (.tok (O.length + 3)), .v (.pointer none)], .spare (j + 1)]) [(1, .lst 4 [x.enc, y.enc] .sh), (2, .ip none [aI i.to, aI i.op, aI i.n, eIs i.args]), (4, .mp (O.length + 1) 0), (5, aI 0), (6, .mp (O.length + 2) 0), (68, .lst 4 (x.list.map SV.enc) .sh), (69, aI x.list.length), (70, aI j)] rfl (by simp) (by omega) (by simp [putS, dropS, Go.Av.look]) ?_ ?_ ?_ ?_
    ·exact fun o ho => AObj.upto_mono (by omega) (hup o ho)
    ·simp [AObj.upto, uptoL, AVal.upto, hzu]
    ·simp [uptoL, AVal.upto, aI_upto, hxu.enc_upto, hyu.enc_upto, hxl']
    refine zh0 ?_
    repeat (refine ⟨by omega, ?_⟩)
    refine zl0 ?_
    refine ⟨⟨j + 1, hlt⟩, by simp; omega, ?_⟩
    refine zq rfl ?_ ?_
    simp -dsimp only [simprocAttr, ↓vpre, zp, zc]
    ·exact Sub.int (by simp)
    simp only [hzs, List.map_append, List.map_cons, List.map_nil]
   refine awp_exit ?_
   simp -dsimp only [vend, ne_eq, Nat.reduceEqDiff, reduceCtorEq]
   have hjj : j = x.list.length := by simp at h; omega
   subst hjj
   have hy : y.list.take x.list.length = y.list := by rw [hlen, List.take_length]
   have hz := (SV.Under.mk (k := 4) (m := 0) (a := none) (n := O.length) (l := zipM i.n x.list y.list) (by simp) (zipM_under _ _)).enc_upto
   rw [SV.enc_mk] at hz
   refine zh1 (za0 ?_)
   refine awp_ret ?_
   simp -dsimp only [simprocAttr, ↓vpre, zp, zr, Try.results131, hy]
   refine ⟨hup, ⟨hz, trivial, trivial⟩, ?_⟩
   have hargs : argS [x, y] 0 = x ∧ argS [x, y] 1 = y := ⟨rfl, rfl⟩
   simp [vectorM, e22, e24, hk, hlen, SV.enc_mk, hargs, eP]
  have hd : decide ((x.list.length : Int) = y.list.length) = false := decide_eq_false (by omega)
  refine zb1 ?_
  refine zh2 ?_
  refine .inr (.inr ⟨_, hall _, later_intro ?_⟩)
  simp -dsimp only [simprocAttr, ↓vpre, zp, hd]
  refine ⟨ob (by kernel_rfl), ?_⟩
  refine za0 ?_
  refine zw0 rfl ?_
  refine zh1 (za0 ?_)
  refine awp_ret ?_
  simp -dsimp only [simprocAttr, ↓vpre, zp, zr, Try.results131, zero_agg]
  refine ⟨hup, zeroW, ?_⟩
  simp [vectorM, e22, e24, hk, hlen, argS]
def idxI (l : List Int) (n : Int) : Int := if l.findIdx (· == n) < l.length then (l.findIdx (· == n) : Nat) else -1
theorem findIdx_at {l : List Int} {n : Int} {k : Nat} (hk : l[k]? = some n) (h : ∀ x ∈ l.take k, x ≠ n) : l.findIdx (· == n) = k := by
 have hlt := lt_of_getElem? hk
 have e : l = l.take k ++ n :: l.drop (k + 1) := by
  rw [List.getElem?_eq_getElem hlt] at hk
  simp only [Option.some.injEq] at hk
  conv => lhs; rw [← List.take_append_drop k l, List.drop_eq_getElem_cons hlt, hk]
 have hn : (l.take k).findIdx (· == n) = (l.take k).length := by
  rw [List.findIdx_eq_length]
  intro x hx
  simpa using h x hx
 rw [e, List.findIdx_append, hn]
 simp [List.findIdx_cons]
 omega
theorem index_spec (l : List Int) (n : Int) : PCall Try.prog 55 [eIs l, aI n] (aI (idxI l n)) := by
 refine zf true 0 Try.func55 Try.ntmps55 ?_
 dsimp only [Tmp, TypeId, slotsOf]
 refine zh1 (za0 ?_)
 refine awp_len 0 rfl (fun hlen => ?_)
 simp only [List.length_map] at hlen
 refine zh2 (za0 ?_)
 refine awp_block (awp_loop (ι := {j : Nat // j ≤ l.length ∧ ∀ x ∈ l.take j, x ≠ n}) (fun j => ⟨19, [(0, eIs l), (1, aI n), (4, aI 0), (7, aI l.length), (8, aI j.1)], []⟩) (fun j => l.length - j.1) ⟨0, by omega, by simp⟩ ?_ ?_)
 ·refine zq rfl ?_ ?_
  simp -dsimp only [simprocAttr, ↓vpre, zp, zc]
  rfl
 rintro ⟨j, hj, hall⟩
 refine zh1 (za0 ?_)
 apply zk1 rfl <;> intro h
 ·refine zb0 ?_
  have hlt : j < l.length := by simpa using h
  obtain ⟨v, hv⟩ : ∃ v, l[j]? = some v := ⟨l[j], by simp [hlt]⟩
  refine awp_seq (awp_block ?_)
  refine zh1 (za0 ?_)
  refine zg1 ?_
  simp -dsimp only [simprocAttr, ↓vpre, zp, hv]
  repeat (refine ⟨by omega, ?_⟩)
  refine za0 ?_
  apply zk0 rfl <;> intro h
  ·have hk : n = v := by simpa using h
   refine zh1 (za0 ?_)
   refine awp_ret ?_
   simp -dsimp only [simprocAttr, ↓vpre, zp, zr, Try.results55]
   subst hk
   have := findIdx_at hv hall
   simp [idxI, this, hlt]
  refine zb1 ?_
  have hk : n ≠ v := by simpa using h
  refine zh0 ?_
  repeat (refine ⟨by omega, ?_⟩)
  refine zl0 ?_
  refine ⟨⟨j + 1, hlt, fun w hw => ?_⟩, by simp; omega, ?_⟩
  ·rw [List.take_add_one, hv] at hw
   simp only [Option.toList_some, List.mem_append, List.mem_singleton] at hw
   rcases hw with hw | rfl
   ·exact hall w hw
   exact fun e => hk e.symm
  refine zq rfl ?_ ?_
  simp -dsimp only [simprocAttr, ↓vpre, zp, zc]
  ·exact Sub.int (by simp)
  rfl
 refine awp_exit ?_
 simp -dsimp only [vend, ne_eq, Nat.reduceEqDiff, reduceCtorEq]
 have hkk : j = l.length := by simp at h; omega
 subst hkk
 refine zh1 (za0 ?_)
 refine awp_ret ?_
 simp -dsimp only [simprocAttr, ↓vpre, zp, zr, Try.results55]
 rw [List.take_length] at hall
 have : l.findIdx (· == n) = l.length := by
  rw [List.findIdx_eq_length]
  intro x hx
  simpa using hall x hx
 simp [idxI, this]
theorem choice_spec (t : Term) (n : Int) (ht : t.cases.length ≤ 2 ^ 60) : PCall Try.prog 126 [t.enc, aI n] (aI (choiceM t n)) := by
 have hix := index_spec t.cases n
 have hle : t.cases.findIdx (· == n) ≤ t.cases.length := List.findIdx_le_length
 refine zf true 0 Try.func126 Try.ntmps126 ?_
 dsimp only [Tmp, TypeId, slotsOf]
 refine zh1 (za0 ?_)
 refine zh2 (za0 ?_)
 apply zk0 rfl <;> intro h
 ·have e : t.kind = 2 := by simpa using h
  refine zh2 (za0 ?_)
  apply zk0 rfl <;> intro h
  ·have e0 : n ≠ 0 := by simpa using h
   refine zh1 (za0 ?_)
   refine awp_ret ?_
   simp -dsimp only [simprocAttr, ↓vpre, zp, zr, Try.results126]
   simp [choiceM, e, e0]
  have e0 : n = 0 := by simpa using h
  refine zb0 ?_
  refine zh1 (za0 ?_)
  refine awp_ret ?_
  simp -dsimp only [simprocAttr, ↓vpre, zp, zr, Try.results126]
  simp [choiceM, e, e0]
 have e : t.kind ≠ 2 := by simpa using h
 refine zb0 ?_
 by_cases hf : t.cases.findIdx (· == n) < t.cases.length
 ·have hI : idxI t.cases n = (t.cases.findIdx (· == n) : Nat) := by simp [idxI, hf]
  rw [hI] at hix
  generalize hq : t.cases.findIdx (· == n) = q at hix
  refine zh2 ?_
  refine zi hix ?_
  refine za0 ?_
  refine zh1 (za0 ?_)
  apply zk0 rfl <;> intro h
  ·refine zh1 (za0 ?_)
   refine awp_ret ?_
   simp -dsimp only [simprocAttr, ↓vpre, zp, zr, Try.results126]
   simp [choiceM, e, hq]
  simp at h
 have hI : idxI t.cases n = -1 := by simp [idxI, hf]
 rw [hI] at hix
 have hq : t.cases.findIdx (· == n) = t.cases.length := by omega
 refine zh2 ?_
 refine zi hix ?_
 refine za0 ?_
 refine zh1 (za0 ?_)
 apply zk0 rfl <;> intro h
 ·simp at h
 refine zb0 ?_
 refine zh1 (za0 ?_)
 refine awp_ret ?_
 simp -dsimp only [simprocAttr, ↓vpre, zp, zr, Try.results126]
 simp [choiceM, e, hq]
def edgesM (t : Term) : Int := if t.kind = 1 then 1 else if t.kind = 2 then 2 else if t.kind = 3 then (t.cases.length : Int) + 1 else 0
def argM (t : Term) : Bool := decide (t.kind = 0) || (decide (t.kind = 2) || decide (t.kind = 3))
def shapeM (t : Term) : Bool := (decide (0 ≤ t.kind) && decide (t.kind ≤ 4)) && (((decide ((t.to.length : Int) = edgesM t) && (argM t || decide (t.arg = 0))) && (decide (t.kind = 4) || decide (t.n = 0))) && (decide (t.kind = 3) || decide ((t.cases.length : Int) = 0)))
theorem shape_0 (t : Term) (hk : t.kind = 0) (hcl : t.cases.length ≤ 2 ^ 60) : PCall Try.prog 119 [t.enc] (.v (.bool (shapeM t))) := by
 have he : edgesM t = 0 := by simp [edgesM, hk]
 have ha : argM t = true := by simp [argM, hk]
 unfold shapeM
 rw [he, ha]
 have h0 : decide (t.kind = 0) = true := decide_eq_true hk
 have h4 : decide (t.kind = 4) = false := decide_eq_false (by omega)
 have h3 : decide (t.kind = 3) = false := decide_eq_false (by omega)
 have hlo : decide (0 ≤ t.kind) = true := decide_eq_true (by omega)
 have hhi : decide (t.kind ≤ 4) = true := decide_eq_true (by omega)
 rw [hlo, hhi, h3, h4]
 refine zf true 0 Try.func119 Try.ntmps119 ?_
 dsimp only [Tmp, TypeId, slotsOf]
 refine zh1 (za0 ?_)
 refine zh1 (za0 ?_)
 refine zh2 (za0 ?_)
 refine awp_block ?_
 refine zg1 ?_
 simp -dsimp only [simprocAttr, ↓vpre, zp, h0]
 refine za0 ?_
 refine zw0 rfl ?_
 refine zh0 (za0 ?_)
 cases hA : decide ((t.to.length : Int) = 0) <;> cases hB : decide (t.arg = 0) <;> cases hC : decide (t.n = 0) <;> cases hD : decide ((t.cases.length : Int) = 0)
 all_goals
  refine zg1 ?_
  simp -dsimp only [simprocAttr, ↓vpre, zp, hA, hB, hC, hD]
  refine za0 ?_
  refine awp_ret ?_
  simp -dsimp only [simprocAttr, ↓vpre, zp, zr, Try.results119, Bool.true_or, Bool.false_or, Bool.or_true, Bool.or_false, Bool.true_and, Bool.false_and, Bool.and_true, Bool.and_false]
theorem shape_1 (t : Term) (hk : t.kind = 1) (hcl : t.cases.length ≤ 2 ^ 60) : PCall Try.prog 119 [t.enc] (.v (.bool (shapeM t))) := by
 have he : edgesM t = 1 := by simp [edgesM, hk]
 have ha : argM t = false := by simp [argM, hk]
 unfold shapeM
 rw [he, ha]
 have h0 : decide (t.kind = 0) = false := decide_eq_false (by omega)
 have h1 : decide (t.kind = 1) = true := decide_eq_true hk
 have h4 : decide (t.kind = 4) = false := decide_eq_false (by omega)
 have h3 : decide (t.kind = 3) = false := decide_eq_false (by omega)
 have hlo : decide (0 ≤ t.kind) = true := decide_eq_true (by omega)
 have hhi : decide (t.kind ≤ 4) = true := decide_eq_true (by omega)
 rw [hlo, hhi, h3, h4]
 refine zf true 0 Try.func119 Try.ntmps119 ?_
 dsimp only [Tmp, TypeId, slotsOf]
 refine zh1 (za0 ?_)
 refine zh1 (za0 ?_)
 refine zh2 (za0 ?_)
 refine awp_block ?_
 refine zg1 ?_
 simp -dsimp only [simprocAttr, ↓vpre, zp, h0]
 refine za0 ?_
 refine zu0 rfl ?_
 refine zg1 ?_
 simp -dsimp only [simprocAttr, ↓vpre, zp, h1]
 refine za0 ?_
 refine zw0 rfl ?_
 refine zh0 (za0 ?_)
 cases hA : decide ((t.to.length : Int) = 1) <;> cases hB : decide (t.arg = 0) <;> cases hC : decide (t.n = 0) <;> cases hD : decide ((t.cases.length : Int) = 0)
 all_goals
  refine zg1 ?_
  simp -dsimp only [simprocAttr, ↓vpre, zp, hA, hB, hC, hD]
  refine za0 ?_
  refine awp_ret ?_
  simp -dsimp only [simprocAttr, ↓vpre, zp, zr, Try.results119, Bool.true_or, Bool.false_or, Bool.or_true, Bool.or_false, Bool.true_and, Bool.false_and, Bool.and_true, Bool.and_false]
theorem shape_2 (t : Term) (hk : t.kind = 2) (hcl : t.cases.length ≤ 2 ^ 60) : PCall Try.prog 119 [t.enc] (.v (.bool (shapeM t))) := by
 have he : edgesM t = 2 := by simp [edgesM, hk]
 have ha : argM t = true := by simp [argM, hk]
 unfold shapeM
 rw [he, ha]
 have h0 : decide (t.kind = 0) = false := decide_eq_false (by omega)
 have h1 : decide (t.kind = 1) = false := decide_eq_false (by omega)
 have h2 : decide (t.kind = 2) = true := decide_eq_true hk
 have h4 : decide (t.kind = 4) = false := decide_eq_false (by omega)
 have h3 : decide (t.kind = 3) = false := decide_eq_false (by omega)
 have hlo : decide (0 ≤ t.kind) = true := decide_eq_true (by omega)
 have hhi : decide (t.kind ≤ 4) = true := decide_eq_true (by omega)
 rw [hlo, hhi, h3, h4]
 refine zf true 0 Try.func119 Try.ntmps119 ?_
 dsimp only [Tmp, TypeId, slotsOf]
 refine zh1 (za0 ?_)
 refine zh1 (za0 ?_)
 refine zh2 (za0 ?_)
 refine awp_block ?_
 refine zg1 ?_
 simp -dsimp only [simprocAttr, ↓vpre, zp, h0]
 refine za0 ?_
 refine zu0 rfl ?_
 refine zg1 ?_
 simp -dsimp only [simprocAttr, ↓vpre, zp, h1]
 refine za0 ?_
 refine zu0 rfl ?_
 refine zg1 ?_
 simp -dsimp only [simprocAttr, ↓vpre, zp, h2]
 refine za0 ?_
 refine zw0 rfl ?_
 refine zh0 (za0 ?_)
 cases hA : decide ((t.to.length : Int) = 2) <;> cases hB : decide (t.arg = 0) <;> cases hC : decide (t.n = 0) <;> cases hD : decide ((t.cases.length : Int) = 0)
 all_goals
  refine zg1 ?_
  simp -dsimp only [simprocAttr, ↓vpre, zp, hA, hB, hC, hD]
  refine za0 ?_
  refine awp_ret ?_
  simp -dsimp only [simprocAttr, ↓vpre, zp, zr, Try.results119, Bool.true_or, Bool.false_or, Bool.or_true, Bool.or_false, Bool.true_and, Bool.false_and, Bool.and_true, Bool.and_false]
theorem shape_3 (t : Term) (hk : t.kind = 3) (hcl : t.cases.length ≤ 2 ^ 60) : PCall Try.prog 119 [t.enc] (.v (.bool (shapeM t))) := by
 have he : edgesM t = (t.cases.length : Int) + 1 := by simp [edgesM, hk]
 have ha : argM t = true := by simp [argM, hk]
 unfold shapeM
 rw [he, ha]
 have h0 : decide (t.kind = 0) = false := decide_eq_false (by omega)
 have h1 : decide (t.kind = 1) = false := decide_eq_false (by omega)
 have h2 : decide (t.kind = 2) = false := decide_eq_false (by omega)
 have h3 : decide (t.kind = 3) = true := decide_eq_true hk
 have h4 : decide (t.kind = 4) = false := decide_eq_false (by omega)
 have hlo : decide (0 ≤ t.kind) = true := decide_eq_true (by omega)
 have hhi : decide (t.kind ≤ 4) = true := decide_eq_true (by omega)
 rw [hlo, hhi, h3, h4]
 refine zf true 0 Try.func119 Try.ntmps119 ?_
 dsimp only [Tmp, TypeId, slotsOf]
 refine zh1 (za0 ?_)
 refine zh1 (za0 ?_)
 refine zh2 (za0 ?_)
 refine awp_block ?_
 refine zg1 ?_
 simp -dsimp only [simprocAttr, ↓vpre, zp, h0]
 refine za0 ?_
 refine zu0 rfl ?_
 refine zg1 ?_
 simp -dsimp only [simprocAttr, ↓vpre, zp, h1]
 refine za0 ?_
 refine zu0 rfl ?_
 refine zg1 ?_
 simp -dsimp only [simprocAttr, ↓vpre, zp, h2]
 refine za0 ?_
 refine zu0 rfl ?_
 refine zg1 ?_
 simp -dsimp only [simprocAttr, ↓vpre, zp, h3]
 refine za0 ?_
 refine zw0 rfl ?_
 refine zh0 ?_
 repeat (refine ⟨by omega, ?_⟩)
 refine za0 ?_
 cases hA : decide ((t.to.length : Int) = (t.cases.length : Int) + 1) <;> cases hB : decide (t.arg = 0) <;> cases hC : decide (t.n = 0) <;> cases hD : decide ((t.cases.length : Int) = 0)
 all_goals
  refine zg1 ?_
  simp -dsimp only [simprocAttr, ↓vpre, zp, hA, hB, hC, hD]
  refine za0 ?_
  refine awp_ret ?_
  simp -dsimp only [simprocAttr, ↓vpre, zp, zr, Try.results119, Bool.true_or, Bool.false_or, Bool.or_true, Bool.or_false, Bool.true_and, Bool.false_and, Bool.and_true, Bool.and_false]
theorem shape_4 (t : Term) (hk : t.kind = 4) (hcl : t.cases.length ≤ 2 ^ 60) : PCall Try.prog 119 [t.enc] (.v (.bool (shapeM t))) := by
 have he : edgesM t = 0 := by simp [edgesM, hk]
 have ha : argM t = false := by simp [argM, hk]
 unfold shapeM
 rw [he, ha]
 have h0 : decide (t.kind = 0) = false := decide_eq_false (by omega)
 have h1 : decide (t.kind = 1) = false := decide_eq_false (by omega)
 have h2 : decide (t.kind = 2) = false := decide_eq_false (by omega)
 have h3 : decide (t.kind = 3) = false := decide_eq_false (by omega)
 have h4 : decide (t.kind = 4) = true := decide_eq_true hk
 have hlo : decide (0 ≤ t.kind) = true := decide_eq_true (by omega)
 have hhi : decide (t.kind ≤ 4) = true := decide_eq_true (by omega)
 rw [hlo, hhi, h3, h4]
 refine zf true 0 Try.func119 Try.ntmps119 ?_
 dsimp only [Tmp, TypeId, slotsOf]
 refine zh1 (za0 ?_)
 refine zh1 (za0 ?_)
 refine zh2 (za0 ?_)
 refine awp_block ?_
 refine zg1 ?_
 simp -dsimp only [simprocAttr, ↓vpre, zp, h0]
 refine za0 ?_
 refine zu0 rfl ?_
 refine zg1 ?_
 simp -dsimp only [simprocAttr, ↓vpre, zp, h1]
 refine za0 ?_
 refine zu0 rfl ?_
 refine zg1 ?_
 simp -dsimp only [simprocAttr, ↓vpre, zp, h2]
 refine za0 ?_
 refine zu0 rfl ?_
 refine zg1 ?_
 simp -dsimp only [simprocAttr, ↓vpre, zp, h3]
 refine za0 ?_
 refine zu0 rfl ?_
 refine zg1 ?_
 simp -dsimp only [simprocAttr, ↓vpre, zp, h4]
 refine za0 ?_
 refine zw0 rfl ?_
 refine zh0 (za0 ?_)
 cases hA : decide ((t.to.length : Int) = 0) <;> cases hB : decide (t.arg = 0) <;> cases hC : decide (t.n = 0) <;> cases hD : decide ((t.cases.length : Int) = 0)
 all_goals
  refine zg1 ?_
  simp -dsimp only [simprocAttr, ↓vpre, zp, hA, hB, hC, hD]
  refine za0 ?_
  refine awp_ret ?_
  simp -dsimp only [simprocAttr, ↓vpre, zp, zr, Try.results119, Bool.true_or, Bool.false_or, Bool.or_true, Bool.or_false, Bool.true_and, Bool.false_and, Bool.and_true, Bool.and_false]
theorem shape_other (t : Term) (hk : ¬ (0 ≤ t.kind ∧ t.kind ≤ 4)) : PCall Try.prog 119 [t.enc] (.v (.bool (shapeM t))) := by
 have hr : shapeM t = false := by
  unfold shapeM
  have : (decide (0 ≤ t.kind) && decide (t.kind ≤ 4)) = false := by
   by_cases h0 : 0 ≤ t.kind <;> by_cases h4 : t.kind ≤ 4 <;> simp [h0, h4] <;> omega
  rw [this]
  rfl
 rw [hr]
 have h0 : decide (t.kind = 0) = false := decide_eq_false (by omega)
 have h1 : decide (t.kind = 1) = false := decide_eq_false (by omega)
 have h2 : decide (t.kind = 2) = false := decide_eq_false (by omega)
 have h3 : decide (t.kind = 3) = false := decide_eq_false (by omega)
 have h4 : decide (t.kind = 4) = false := decide_eq_false (by omega)
 refine zf true 0 Try.func119 Try.ntmps119 ?_
 dsimp only [Tmp, TypeId, slotsOf]
 refine zh1 (za0 ?_)
 refine zh1 (za0 ?_)
 refine zh2 (za0 ?_)
 refine awp_block ?_
 refine zg1 ?_
 simp -dsimp only [simprocAttr, ↓vpre, zp, h0]
 refine za0 ?_
 refine zu0 rfl ?_
 refine zg1 ?_
 simp -dsimp only [simprocAttr, ↓vpre, zp, h1]
 refine za0 ?_
 refine zu0 rfl ?_
 refine zg1 ?_
 simp -dsimp only [simprocAttr, ↓vpre, zp, h2]
 refine za0 ?_
 refine zu0 rfl ?_
 refine zg1 ?_
 simp -dsimp only [simprocAttr, ↓vpre, zp, h3]
 refine za0 ?_
 refine zu0 rfl ?_
 refine zg1 ?_
 simp -dsimp only [simprocAttr, ↓vpre, zp, h4]
 refine za0 ?_
 refine zu0 rfl ?_
 refine zh1 (za0 ?_)
 refine awp_ret ?_
 simp -dsimp only [simprocAttr, ↓vpre, zp, zr, Try.results119]
theorem shape_spec (t : Term) (hcl : t.cases.length ≤ 2 ^ 60) : PCall Try.prog 119 [t.enc] (.v (.bool (shapeM t))) := by
 by_cases hk : 0 ≤ t.kind ∧ t.kind ≤ 4
 ·rcases (show t.kind = 0 ∨ t.kind = 1 ∨ t.kind = 2 ∨ t.kind = 3 ∨ t.kind = 4 by omega) with h | h | h | h | h
  ·exact shape_0 t h hcl
  ·exact shape_1 t h hcl
  ·exact shape_2 t h hcl
  ·exact shape_3 t h hcl
  exact shape_4 t h hcl
 exact shape_other t hk
def hasI (l : List Int) (n : Int) : Bool := decide (l.findIdx (· == n) < l.length)
theorem contains_spec (l : List Int) (n : Int) : PCall Try.prog 60 [eIs l, aI n] (.v (.bool (hasI l n))) := by
 have hix := index_spec l n
 have hd : decide (0 ≤ idxI l n) = hasI l n := by
  unfold idxI hasI
  by_cases h : l.findIdx (· == n) < l.length
  ·rw [if_pos h]
   simp [h]
  rw [if_neg h]
  simp [h]
 generalize idxI l n = r at *
 refine zf true 0 Try.func60 Try.ntmps60 ?_
 dsimp only [Tmp, TypeId, slotsOf]
 refine zh1 (za0 ?_)
 refine zh1 ?_
 refine .inl ⟨_, hix, by simp only [uptoL, AVal.upto, zt, zu, aI_upto], later_intro ?_⟩
 simp -dsimp only [simprocAttr, ↓vpre, zp, hd]
 refine za0 ?_
 refine awp_ret ?_
 simp -dsimp only [simprocAttr, ↓vpre, zp, zr, Try.results60]
theorem allocate_stay {u : Unt} {m : Mach} {O : List AObj} (hup : ∀ o ∈ O, o.upto O.length) (h0 : O[2]? = some (.cells (mcells u m))) (size fill : SV) (hs : SV.Under O.length size) (hf : SV.Under O.length fill) (h1 : 0 ≤ m.left) (h2 : m.left ≤ 2 ^ 40) (hov : m.short = false)
  (hne : ∀ x, ((m.allocate size fill).2.1).arr ≠ some x) :
  ECall Try.prog 144 O [.mp 2 0, size.enc, fill.enc] (fun r O' => r = .tup [(m.allocate size fill).2.1.enc, aI (m.allocate size fill).2.2] ∧ O' = O.set 2 (.cells (mcells u (m.allocate size fill).1))) := by
 have hset : O.set 2 (.cells (mcells u m)) = O := by
  obtain ⟨hlt, e⟩ := List.getElem?_eq_some_iff.1 h0
  rw [← e, List.set_getElem_self]
 by_cases hk : size.kind = 0
 ·by_cases hn : size.n < 0 ∨ 1024 < size.n
  ·have hd : decide (size.kind = 0) = true := decide_eq_true hk
   rcases (show size.n < 0 ∨ (¬ size.n < 0 ∧ 1024 < size.n) by omega) with hn1 | ⟨hn1, hn2⟩
   ·have hd1 : decide (size.n < 0) = true := decide_eq_true hn1
    refine zf true O.length Try.func144 Try.ntmps144 ?_
    dsimp only [Tmp, TypeId, slotsOf]
    refine zh1 (za0 ?_)
    refine awp_seq (awp_block ?_)
    refine zg1 ?_
    simp -dsimp only [simprocAttr, ↓vpre, zp, hd]
    refine za0 ?_
    refine zu0 rfl ?_
    refine zg1 ?_
    simp -dsimp only [simprocAttr, ↓vpre, zp, hd1]
    refine za0 ?_
    refine zw0 rfl ?_
    refine zh1 (za0 ?_)
    refine awp_ret ?_
    simp -dsimp only [simprocAttr, ↓vpre, zp, zr, Try.results144, zero_agg]
    refine ⟨hup, zeroW, ?_⟩
    simp [Mach.allocate, hk, hn, hset]
   have hd1 : decide (size.n < 0) = false := decide_eq_false hn1
   have hd2 : decide (1024 < size.n) = true := decide_eq_true hn2
   refine zf true O.length Try.func144 Try.ntmps144 ?_
   dsimp only [Tmp, TypeId, slotsOf]
   refine zh1 (za0 ?_)
   refine awp_seq (awp_block ?_)
   refine zg1 ?_
   simp -dsimp only [simprocAttr, ↓vpre, zp, hd]
   refine za0 ?_
   refine zu0 rfl ?_
   refine zg1 ?_
   simp -dsimp only [simprocAttr, ↓vpre, zp, hd1, hd2]
   refine za0 ?_
   refine zw0 rfl ?_
   refine zh1 (za0 ?_)
   refine awp_ret ?_
   simp -dsimp only [simprocAttr, ↓vpre, zp, zr, Try.results144, zero_agg]
   refine ⟨hup, zeroW, ?_⟩
   simp [Mach.allocate, hk, hn, hset]
  have hd : decide (size.kind = 0) = true := decide_eq_true hk
  have hd1 : decide (size.n < 0) = false := decide_eq_false (by omega)
  have hd2 : decide (1024 < size.n) = false := decide_eq_false (by omega)
  by_cases hp : m.left < size.n
  ·have hsh : (m.pay size.n).short = true := by simp [Mach.pay, hp]
   have hpay := ECall.frame (pay_spec hup h0 size.n h1 h2 (by omega)) (by simp) ⟨lt_of_getElem? h0, trivial, trivial⟩ hup
   have h01 := set_self h0 (.cells (mcells u (m.pay size.n)))
   have hup1 := uptoO_cells hup h0 (ds := mcells u (m.pay size.n)) (fun h => mcells_upto h (pay_sid m size.n))
   obtain ⟨O1, hO1⟩ : ∃ O1, O1 = O.set 2 (.cells (mcells u (m.pay size.n))) := ⟨_, rfl⟩
   have hlen : O.length = O1.length := by rw [hO1]; simp
   have hres : (m.allocate size fill) = (m.pay size.n, .zero, 0) := by simp [Mach.allocate, hk, hn, hsh]
   rw [hres]
   simp only [← hO1] at hpay h01 hup1 ⊢
   have h01' : ∀ X, (O1 ++ X)[2]? = some (.cells (mcells u (m.pay size.n))) := fun X => at_left h01
   unfold mcells at h01'
   rw [hsh] at h01'
   rw [hlen] at hup1
   refine zf true O.length Try.func144 Try.ntmps144 ?_
   dsimp only [Tmp, TypeId, slotsOf]
   refine zh1 (za0 ?_)
   refine awp_seq (awp_block ?_)
   refine zg1 ?_
   simp -dsimp only [simprocAttr, ↓vpre, zp, hd]
   refine za0 ?_
   refine zu0 rfl ?_
   refine zg1 ?_
   simp -dsimp only [simprocAttr, ↓vpre, zp, hd1, hd2]
   refine za0 ?_
   refine zu0 rfl ?_
   refine zb1 ?_
   refine zh1 ?_
   refine .inr (.inl ⟨_, _, hpay _, .inl (later_intro (zj ?_))⟩)
   refine za0 ?_
   refine zg2 ?_
   simp -dsimp only [simprocAttr, ↓vpre, zp, h01']
   refine za0 ?_
   refine zw0 rfl ?_
   refine zg1 ?_
   simp -dsimp only [simprocAttr, ↓vpre, zp, hlen]
   refine za0 ?_
   refine awp_ret ?_
   simp -dsimp only [simprocAttr, ↓vpre, zp, zr, Try.results144, zero_agg, hlen]
   exact ⟨hup1, zeroW⟩
  exfalso
  have hsh : (m.pay size.n).short = false := by simp [Mach.pay, hp, hov]
  refine hne (m.next + 8) ?_
  simp [Mach.allocate, hk, hn, hsh, SV.arr]
 have hd : decide (size.kind = 0) = false := decide_eq_false hk
 refine zf true O.length Try.func144 Try.ntmps144 ?_
 dsimp only [Tmp, TypeId, slotsOf]
 refine zh1 (za0 ?_)
 refine awp_seq (awp_block ?_)
 refine zg1 ?_
 simp -dsimp only [simprocAttr, ↓vpre, zp, hd]
 refine za0 ?_
 refine zw0 rfl ?_
 refine zh1 (za0 ?_)
 refine awp_ret ?_
 simp -dsimp only [simprocAttr, ↓vpre, zp, zr, Try.results144, zero_agg]
 refine ⟨hup, zeroW, ?_⟩
 simp [Mach.allocate, hk, hset]
theorem take_newk {O X : List AObj} {k : Nat} : (O ++ X).take (O.length + k) = O ++ X.take k := by
 rw [List.take_append, List.take_of_length_le (by omega), Nat.add_sub_cancel_left]
def rowA (v : SV) (n k : Nat) : List AVal := List.replicate k v.enc ++ List.replicate (n - k) (.agg [aI 0, aI 0, .lst 4 [] .ex, .v (.pointer none)])
theorem rowA_len {v : SV} {n k : Nat} (h : k ≤ n) : (rowA v n k).length = n := by
 simp [rowA]
 omega
theorem rowA_cells {v : SV} {n k : Nat} : ∀ x ∈ rowA v n k, x.cells.length = 4 := fun x hx => by
 simp only [rowA, List.mem_append, List.mem_replicate] at hx
 rcases hx with ⟨_, rfl⟩ | ⟨_, rfl⟩
 ·exact v.cells_len
 rfl
theorem rowA_zero (v : SV) (n : Nat) : cellsAll (rowA v n 0) = (List.replicate n [aI 0, aI 0, .lst 4 [] .ex, .v (.pointer none)]).flatten := by
 simp [rowA, cellsAll, List.flatMap, AVal.cells]
theorem rowA_succ {v : SV} {n k : Nat} (h : k < n) : (rowA v n k).set k v.enc = rowA v n (k + 1) := by
 obtain ⟨j, hj⟩ : ∃ j, n - k = j + 1 := ⟨n - k - 1, by omega⟩
 unfold rowA
 rw [hj, show n - (k + 1) = j by omega, List.set_append_right _ _ (by simp), List.replicate_succ' (n := k)]
 simp [List.replicate_succ]
theorem rowA_all (v : SV) (n : Nat) : rowA v n n = (List.replicate n v).map SV.enc := by simp [rowA]
theorem allocate_go {u : Unt} {m : Mach} {O : List AObj} (hup : ∀ o ∈ O, o.upto O.length) (h0 : O[2]? = some (.cells (mcells u m))) (size fill : SV) (hs : SV.Under O.length size) (hf : SV.Under O.length fill) (h1 : 0 ≤ m.left) (h2 : m.left ≤ 2 ^ 40) (hov : m.short = false)
  (hk : size.kind = 0) (hn1 : 0 ≤ size.n) (hn2 : size.n ≤ 1024) (hp : size.n ≤ m.left) :
  ECall Try.prog 144 O [.mp 2 0, size.enc, fill.enc] (fun r O' => r = .tup [.agg [aI 3, aI 0, .lst 4 [] .sh, .mp (O.length + 4) 0], aI 0] ∧ O' = O.set 2 (.cells (mcells u (m.pay size.n))) ++
   [.gone, .gone, .cells [aI 3, aI 0, .lst 4 [] .ex, .mp (O.length + 4) 0], .cells (cellsAll ((List.replicate size.n.toNat fill).map SV.enc)), .cells [.ms (O.length + 3) 0 size.n.toNat size.n.toNat]]) := by
 have hd : decide (size.kind = 0) = true := decide_eq_true hk
 have hd1 : decide (size.n < 0) = false := decide_eq_false (by omega)
 have hd2 : decide (1024 < size.n) = false := decide_eq_false (by omega)
 have hsh : (m.pay size.n).short = false := by simp [Mach.pay, hov, show ¬ m.left < size.n by omega]
 have hpay := ECall.frame (pay_spec hup h0 size.n h1 h2 (by omega)) (by simp) ⟨lt_of_getElem? h0, trivial, trivial⟩ hup
 have h01 := set_self h0 (.cells (mcells u (m.pay size.n)))
 have hup1 := uptoO_cells hup h0 (ds := mcells u (m.pay size.n)) (fun h => mcells_upto h (pay_sid m size.n))
 obtain ⟨O1, hO1⟩ : ∃ O1, O1 = O.set 2 (.cells (mcells u (m.pay size.n))) := ⟨_, rfl⟩
 have hlen : O.length = O1.length := by rw [hO1]; simp
 simp only [← hO1] at hpay h01 hup1 ⊢
 have h01' : ∀ X, (O1 ++ X)[2]? = some (.cells (mcells u (m.pay size.n))) := fun X => at_left h01
 unfold mcells at h01'
 rw [hsh] at h01'
 rw [hlen] at hup1
 obtain ⟨n, hn⟩ : ∃ n : Nat, size.n = n := ⟨size.n.toNat, by omega⟩
 refine zf true (O.length+5) Try.func144 Try.ntmps144 ?_
 dsimp only [Tmp, TypeId, slotsOf]
 refine zh1 (za0 ?_)
 refine awp_frzk 4 0 ([aI size.kind, aI size.n, .lst 4 (size.list.map SV.enc) .sh, eP size.arr]) rfl rfl (by simp only [List.map_cons, List.map_nil, shareCell_v, shareCell_lst, shareCell_mm, shareCell_mp, shareCell_ip, shareCell_fn, shareCell_im, eP_shareCell]) ?_
 simp -dsimp only [simprocAttr, ↓vpre, zp]
 refine awp_frzk 5 1 ([aI fill.kind, aI fill.n, .lst 4 (fill.list.map SV.enc) .sh, eP fill.arr]) rfl rfl (by simp only [List.map_cons, List.map_nil, shareCell_v, shareCell_lst, shareCell_mm, shareCell_mp, shareCell_ip, shareCell_fn, shareCell_im, eP_shareCell]) ?_
 simp -dsimp only [simprocAttr, ↓vpre, zp]
 refine awp_seq (awp_block ?_)
 refine zg1 ?_
 simp -dsimp only [simprocAttr, ↓vpre, zp, hd]
 refine za0 ?_
 apply zk0 rfl <;> intro h
 ·cases h
 refine zg1 ?_
 simp -dsimp only [simprocAttr, ↓vpre, zp, hd1, hd2]
 refine za0 ?_
 apply zk0 rfl <;> intro h
 ·cases h
 refine zb1 ?_
 refine zh1 ?_
 refine .inr (.inl ⟨_, _, hpay _, .inl (later_intro (zj ?_))⟩)
 refine za0 ?_
 refine zg2 ?_
 simp -dsimp only [simprocAttr, ↓vpre, zp, h01']
 refine za0 ?_
 apply zk0 rfl <;> intro h
 ·cases h
 refine zb0 ?_
 refine zg1 ?_
 simp -dsimp only [simprocAttr, ↓vpre, zp, hlen, hn]
 repeat (refine ⟨by omega, ?_⟩)
 refine za0 ?_
 refine zg2 ?_
 simp -dsimp only [simprocAttr, ↓vpre, zp, hlen, hn]
 refine za0 ?_
 refine awp_block (awp_loop (ι := {j : Nat // j ≤ n}) (fun j => ⟨48, [(5, .ip none [aI fill.kind, aI fill.n, .lst 4 (fill.list.map SV.enc) .sh, eP fill.arr]), (6, .mp (O1.length + 2) 0), (7, aI 0), (8, .mp (O1.length + 4) 0), (38, aI n), (39, aI j.1)], O1 ++ [.gone, .gone, .cells [aI 0, aI 0, .lst 4 [] .ex, .v (.pointer none)], .cells (cellsAll (rowA fill n j.1)), .cells [.ms (O1.length + 3) 0 n n]]⟩) (fun j => n - j.1) ⟨0, by omega⟩ ?_ ?_)
 ·refine zq rfl ?_ ?_
  simp -dsimp only [simprocAttr, ↓vpre, zp, zc]
  rw [rowA_zero]
 rintro ⟨j, hj⟩
 refine zh1 (za0 ?_)
 apply zk1 rfl <;> intro h
 ·refine zb0 ?_
  have hlt : j < n := by simpa using h
  have hrow := cellsAll_length (rowA_cells (v := fill) (n := n) (k := j))
  rw [rowA_len hj] at hrow
  have hset := cellsAll_set (rowA_cells (v := fill) (n := n) (k := j)) (k := j) (by rw [rowA_len hj]; exact hlt) fill.cells_len
  rw [rowA_succ hlt, SV.enc_cells] at hset
  refine awp_seq (awp_block ?_)
  refine zh1 (za0 ?_)
  refine zg0 ?_
  simp -dsimp only [simprocAttr, ↓vpre, zp, hrow, hset]
  repeat (refine ⟨by omega, ?_⟩)
  refine za0 ?_
  refine zh0 ?_
  repeat (refine ⟨by omega, ?_⟩)
  refine zl0 ?_
  refine ⟨⟨j + 1, hlt⟩, by simp; omega, ?_⟩
  refine zq rfl ?_ ?_
  simp -dsimp only [simprocAttr, ↓vpre, zp, zc]
  ·exact Sub.int (by simp)
  rfl
 refine awp_exit ?_
 simp -dsimp only [vend, ne_eq, Nat.reduceEqDiff, reduceCtorEq]
 have hjj : j = n := by simp at h; omega
 subst hjj
 refine zh1 (za0 ?_)
 refine awp_ret ?_
 simp -dsimp only [simprocAttr, ↓vpre, zp, zr, Try.results144, hlen]
 have hj2 : size.n.toNat = j := by omega
 have hmem : ∀ v ∈ List.replicate j fill, SV.Under (O1.length + 5) v := fun v hv => by
  rw [(List.mem_replicate.1 hv).2]
  exact hf.mono (by omega)
 rw [take_newk, hj2, rowA_all]
 refine ⟨fun o ho => ?_, by simp [uptoL, AVal.upto], rfl⟩
 rcases List.mem_append.1 ho with ho | ho
 ·exact AObj.upto_mono (by omega) (hup1 o ho)
 have hc := SV.cells_upto hmem
 simp only [List.take_succ_cons, List.take_zero, List.mem_cons, List.mem_nil_iff, or_false] at ho
 rcases ho with rfl | rfl | rfl | rfl | rfl
 ·trivial
 ·trivial
 ·simp [AObj.upto, uptoL, AVal.upto]
 ·exact hc
 simp [AObj.upto, uptoL, AVal.upto]
theorem set_left {O X : List AObj} {k : Nat} {x y : AObj} (h : O[k]? = some x) : (O ++ X).set k y = O.set k y ++ X := by
 rw [List.set_append_left _ _ (lt_of_getElem? h)]
theorem set_same {O : List AObj} {k : Nat} {x : AObj} (h : O[k]? = some x) : O.set k x = O := by
 obtain ⟨hlt, e⟩ := List.getElem?_eq_some_iff.1 h
 rw [← e, List.set_getElem_self]
theorem effect_print {u : Unt} {m : Mach} {O : List AObj} (hup : ∀ o ∈ O, o.upto O.length) (h0 : O[2]? = some (.cells (mcells u m))) (hs1 : O[3]? = some (.spare m.out.length)) (i : Ins) (args : List SV) (hl : ∀ v ∈ args, SV.Under O.length v)
  (hop : i.op = 15) (x : SV) (hx : args[0]? = some x) (ho : m.out.length ≤ 1000) :
  ECall Try.prog 132 O [.mp 2 0, i.enc, .lst 4 (args.map SV.enc) .sh] (fun r O' => r = .tup [(m.effect i args).2.1.enc, aI (m.effect i args).2.2] ∧ O' = (O.set 3 (.spare (m.effect i args).1.out.length)).set 2 (.cells (mcells u (m.effect i args).1))) := by
 have hax := argS_of hx
 have hd15 : decide (i.op = 15) = true := decide_eq_true hop
 have hsame : (O.set 3 (.spare m.out.length)).set 2 (.cells (mcells u m)) = O := by rw [set_same hs1, set_same h0]
 have h0' : ∀ X, (O ++ X)[2]? = some (.cells (mcells u m)) := fun X => at_left h0
 have h1' : ∀ X, (O ++ X)[3]? = some (.spare m.out.length) := fun X => at_left hs1
 unfold mcells at h0'
 by_cases hk : x.kind = 0
 ·have hd : decide (x.kind = 0) = true := decide_eq_true hk
  by_cases hf : m.out.length = 1000
  ·have hdf : decide ((m.out.length : Int) = 1000) = true := decide_eq_true (by omega)
   have hres : m.effect i args = (m, .zero, 6) := by simp [Mach.effect, hop, hax, hk, hf]
   rw [hres]
   refine zf true O.length Try.func132 Try.ntmps132 ?_
   dsimp only [Tmp, TypeId, slotsOf]
   refine zh1 (za0 ?_)
   refine awp_frzk 4 0 ([aI i.to, aI i.op, aI i.n, eIs i.args]) rfl rfl (by rfl) ?_
   simp -dsimp only [simprocAttr, ↓vpre, zp]
   refine zg2 ?_
   simp -dsimp only [simprocAttr, ↓vpre, zp, hd15]
   refine za0 ?_
   refine awp_block ?_
   refine zg1 ?_
   simp -dsimp only [simprocAttr, ↓vpre, zp, hd15]
   refine za0 ?_
   refine zw0 rfl ?_
   refine zg2 ?_
   simp -dsimp only [simprocAttr, ↓vpre, zp, hx, hd]
   refine za0 ?_
   refine zu0 rfl ?_
   refine zb0 ?_
   refine zg2 ?_
   simp -dsimp only [simprocAttr, ↓vpre, zp, h0', hdf]
   refine za0 ?_
   refine zw0 rfl ?_
   refine zh1 (za0 ?_)
   refine awp_ret ?_
   simp -dsimp only [simprocAttr, ↓vpre, zp, zr, Try.results132, zero_agg, hsame]
   exact ⟨hup, zeroW⟩
  have hdf : decide ((m.out.length : Int) = 1000) = false := decide_eq_false (by omega)
  have hres : m.effect i args = ({ m with out := m.out ++ [x.n] }, .word 0, 0) := by simp [Mach.effect, hop, hax, hk, hf]
  rw [hres]
  obtain ⟨m', hm'⟩ : ∃ m', m' = { m with out := m.out ++ [x.n] } := ⟨_, rfl⟩
  have hs0 := at_set_ne (k := 2) (j := 3) (y := .spare (m.out.length + 1)) h0 (by omega)
  have hp : [eFuncs u.fns, aI u.main, .os m.sid m.frames.length 1, aI m.left, .v (.bool m.short), .v (.bool m.over), .lst 1 (m.out.map aI ++ [aI x.n]) (.tok 3), aI m.fin, aI m.val] = mcells u m' := by
   rw [hm']
   simp [mcells]
  obtain ⟨O2, hO2⟩ : ∃ O2, O2 = (O.set 3 (.spare (m.out.length + 1))).set 2 (.cells (mcells u m')) := ⟨_, rfl⟩
  have hlen : O.length = O2.length := by rw [hO2]; simp
  have hup2 : ∀ o ∈ O2, o.upto O2.length := by
   rw [← hlen, hO2]
   exact uptoO_cells (uptoO_set hup trivial) hs0 (fun h => mcells_upto h (by rw [hm']))
  have e1 : ∀ X, (O ++ X).set 3 (.spare (m.out.length + 1)) = O.set 3 (.spare (m.out.length + 1)) ++ X := fun X => set_left hs1
  have e2 : ∀ X y, (O.set 3 (.spare (m.out.length + 1)) ++ X).set 2 y = (O.set 3 (.spare (m.out.length + 1))).set 2 y ++ X := fun X y => set_left hs0
  have e3 : ∀ X, (O.set 3 (.spare (m.out.length + 1)) ++ X)[2]? = some (.cells (mcells u m)) := fun X => at_left hs0
  unfold mcells at e3
  have hml : m'.out.length = m.out.length + 1 := by rw [hm']; simp
  rw [← hm']
  simp only [hml, ← hO2]
  refine zf true O.length Try.func132 Try.ntmps132 ?_
  dsimp only [Tmp, TypeId, slotsOf]
  refine zh1 (za0 ?_)
  refine awp_frzk 4 0 ([aI i.to, aI i.op, aI i.n, eIs i.args]) rfl rfl (by rfl) ?_
  simp -dsimp only [simprocAttr, ↓vpre, zp]
  refine zg2 ?_
  simp -dsimp only [simprocAttr, ↓vpre, zp, hd15]
  refine za0 ?_
  refine awp_block ?_
  refine zg1 ?_
  simp -dsimp only [simprocAttr, ↓vpre, zp, hd15]
  refine za0 ?_
  refine zw0 rfl ?_
  refine zg2 ?_
  simp -dsimp only [simprocAttr, ↓vpre, zp, hx, hd]
  refine za0 ?_
  refine zu0 rfl ?_
  refine zb0 ?_
  refine zg2 ?_
  simp -dsimp only [simprocAttr, ↓vpre, zp, h0', hdf]
  refine za0 ?_
  refine zu0 rfl ?_
  refine zb0 ?_
  refine zg1 ?_
  simp -dsimp only [simprocAttr, ↓vpre, zp, h0', hx, h1', e1, e2, e3, hp, ← hO2]
  repeat (refine ⟨by omega, ?_⟩)
  refine ⟨ob (by kernel_rfl), ?_⟩
  refine za0 ?_
  refine zg1 ?_
  simp -dsimp only [simprocAttr, ↓vpre, zp, hlen]
  refine .inl ⟨_, wordOf_spec 0, by simp only [uptoL, AVal.upto, zt, zu, aI_upto], later_intro ?_⟩
  simp -dsimp only [simprocAttr, ↓vpre, zp, word_cells]
  refine za0 ?_
  refine awp_ret ?_
  simp -dsimp only [simprocAttr, ↓vpre, zp, zr, Try.results132, word_agg, hlen]
  exact ⟨hup2, wordW⟩
 have hd : decide (x.kind = 0) = false := decide_eq_false hk
 have hres : m.effect i args = (m, .zero, 5) := by simp [Mach.effect, hop, hax, hk]
 rw [hres]
 refine zf true O.length Try.func132 Try.ntmps132 ?_
 dsimp only [Tmp, TypeId, slotsOf]
 refine zh1 (za0 ?_)
 refine awp_frzk 4 0 ([aI i.to, aI i.op, aI i.n, eIs i.args]) rfl rfl (by rfl) ?_
 simp -dsimp only [simprocAttr, ↓vpre, zp]
 refine zg2 ?_
 simp -dsimp only [simprocAttr, ↓vpre, zp, hd15]
 refine za0 ?_
 refine awp_block ?_
 refine zg1 ?_
 simp -dsimp only [simprocAttr, ↓vpre, zp, hd15]
 refine za0 ?_
 refine zw0 rfl ?_
 refine zg2 ?_
 simp -dsimp only [simprocAttr, ↓vpre, zp, hx, hd]
 refine za0 ?_
 refine zw0 rfl ?_
 refine zh1 (za0 ?_)
 refine awp_ret ?_
 simp -dsimp only [simprocAttr, ↓vpre, zp, zr, Try.results132, zero_agg, hsame]
 exact ⟨hup, zeroW⟩
theorem effect_stay {u : Unt} {m : Mach} {O : List AObj} (hup : ∀ o ∈ O, o.upto O.length) (h0 : O[2]? = some (.cells (mcells u m))) (i : Ins) (size fill : SV) (hs : SV.Under O.length size) (hf : SV.Under O.length fill)
  (hop : i.op = 16) (h1 : 0 ≤ m.left) (h2 : m.left ≤ 2 ^ 40) (hov : m.short = false) (hne : ∀ x, ((m.allocate size fill).2.1).arr ≠ some x) :
  ECall Try.prog 132 O [.mp 2 0, i.enc, .lst 4 [size.enc, fill.enc] .sh] (fun r O' => r = .tup [(m.allocate size fill).2.1.enc, aI (m.allocate size fill).2.2] ∧ O' = O.set 2 (.cells (mcells u (m.allocate size fill).1))) := by
 have hd15 : decide (i.op = 15) = false := decide_eq_false (by omega)
 have hd16 : decide (i.op = 16) = true := decide_eq_true (by omega)
 have hcall := ECall.frame (allocate_stay hup h0 size fill hs hf h1 h2 hov hne) (by simp) ⟨lt_of_getElem? h0, hs.enc_upto, hf.enc_upto, trivial⟩ hup
 have hsid : (m.allocate size fill).1.sid = m.sid := by
  unfold Mach.allocate
  repeat' split
  all_goals first | rfl | exact pay_sid _ _
 have hup1 := uptoO_cells hup h0 (ds := mcells u (m.allocate size fill).1) (fun h => mcells_upto h hsid)
 have hvu : SV.Under O.length (m.allocate size fill).2.1 := by
  have : ∀ r : Mach × SV × Int, r = m.allocate size fill → r.2.1 = SV.zero ∨ ∃ x, r.2.1.arr = some x := fun r hr => by
   subst hr
   unfold Mach.allocate
   repeat' split
   all_goals first | exact .inl rfl | exact .inr ⟨_, rfl⟩
  rcases this _ rfl with e | ⟨x, e⟩
  ·rw [e]
   exact zero_under _
  exact absurd e (hne x)
 generalize m.allocate size fill = R at *
 obtain ⟨O1, hO1⟩ : ∃ O1, O1 = O.set 2 (.cells (mcells u R.1)) := ⟨_, rfl⟩
 have hlen : O.length = O1.length := by rw [hO1]; simp
 simp only [← hO1] at hcall hup1 ⊢
 rw [hlen] at hup1 hvu
 refine zf true O.length Try.func132 Try.ntmps132 ?_
 dsimp only [Tmp, TypeId, slotsOf]
 refine zh1 (za0 ?_)
 refine awp_frzk 4 0 ([aI i.to, aI i.op, aI i.n, eIs i.args]) rfl rfl (by rfl) ?_
 simp -dsimp only [simprocAttr, ↓vpre, zp]
 refine zh2 (za0 ?_)
 refine awp_block ?_
 refine zg1 ?_
 simp -dsimp only [simprocAttr, ↓vpre, zp, hd15]
 refine za0 ?_
 refine zu0 rfl ?_
 refine zg1 ?_
 simp -dsimp only [simprocAttr, ↓vpre, zp, hd16]
 refine za0 ?_
 refine zw0 rfl ?_
 refine zh1 ?_
 refine .inr (.inl ⟨_, _, hcall _, .inl (later_intro ?_)⟩)
 simp -dsimp only [simprocAttr, ↓vpre, zp, hlen]
 refine ⟨ob (by kernel_rfl), ?_⟩
 refine za0 ?_
 refine awp_ret ?_
 simp -dsimp only [simprocAttr, ↓vpre, zp, zr, Try.results132, hlen]
 exact ⟨hup1, resW hvu⟩
theorem effect_go {u : Unt} {m : Mach} {O : List AObj} (hup : ∀ o ∈ O, o.upto O.length) (h0 : O[2]? = some (.cells (mcells u m))) (i : Ins) (size fill : SV) (hs : SV.Under O.length size) (hf : SV.Under O.length fill)
  (hop : i.op = 16) (h1 : 0 ≤ m.left) (h2 : m.left ≤ 2 ^ 40) (hov : m.short = false) (hk : size.kind = 0) (hn1 : 0 ≤ size.n) (hn2 : size.n ≤ 1024) (hp : size.n ≤ m.left) :
  ECall Try.prog 132 O [.mp 2 0, i.enc, .lst 4 [size.enc, fill.enc] .sh] (fun r O' => r = .tup [.agg [aI 3, aI 0, .lst 4 [] .sh, .mp (O.length + 6) 0], aI 0] ∧ O' = O.set 2 (.cells (mcells u (m.pay size.n))) ++
   [.gone, .cells [aI 3, aI 0, .lst 4 [] .sh, .mp (O.length + 6) 0], .gone, .gone, .cells [aI 3, aI 0, .lst 4 [] .ex, .mp (O.length + 6) 0], .cells (cellsAll ((List.replicate size.n.toNat fill).map SV.enc)), .cells [.ms (O.length + 5) 0 size.n.toNat size.n.toNat]]) := by
 have hd15 : decide (i.op = 15) = false := decide_eq_false (by omega)
 have hd16 : decide (i.op = 16) = true := decide_eq_true (by omega)
 have hupX : ∀ o ∈ O ++ [.gone, .cells [aI 0, aI 0, .lst 4 [] .ex, .v (.pointer none)]], o.upto (O ++ [AObj.gone, .cells [aI 0, aI 0, .lst 4 [] .ex, .v (.pointer none)]]).length := fun o ho => by
  rcases List.mem_append.1 ho with ho | ho
  ·exact AObj.upto_mono (by simp) (hup o ho)
  simp only [List.mem_cons, List.mem_nil_iff, or_false] at ho
  rcases ho with rfl | rfl
  ·trivial
  simp [AObj.upto, uptoL, AVal.upto]
 have hlX : (O ++ [AObj.gone, .cells [aI 0, aI 0, .lst 4 [] .ex, .v (.pointer none)]]).length = O.length + 2 := by simp
 have hcall := allocate_go hupX (at_left h0) size fill (hs.mono (by simp)) (hf.mono (by simp)) h1 h2 hov hk hn1 hn2 hp
 have h01 := set_self h0 (.cells (mcells u (m.pay size.n)))
 have hup1 := uptoO_cells hup h0 (ds := mcells u (m.pay size.n)) (fun h => mcells_upto h (pay_sid m size.n))
 rw [set_left h0, hlX] at hcall
 obtain ⟨O1, hO1⟩ : ∃ O1, O1 = O.set 2 (.cells (mcells u (m.pay size.n))) := ⟨_, rfl⟩
 have hlen : O.length = O1.length := by rw [hO1]; simp
 simp only [← hO1] at hcall hup1 ⊢
 rw [hlen] at hup1
 have hmem : ∀ v ∈ List.replicate size.n.toNat fill, SV.Under (O1.length + 7) v := fun v hv => by
  rw [(List.mem_replicate.1 hv).2]
  exact hf.mono (by omega)
 have hc := SV.cells_upto hmem
 generalize hrow : cellsAll ((List.replicate size.n.toNat fill).map SV.enc) = row at *
 refine zf true (O.length+7) Try.func132 Try.ntmps132 ?_
 dsimp only [Tmp, TypeId, slotsOf]
 refine zh1 (za0 ?_)
 refine awp_frzk 4 0 ([aI i.to, aI i.op, aI i.n, eIs i.args]) rfl rfl (by rfl) ?_
 simp -dsimp only [simprocAttr, ↓vpre, zp]
 refine zh2 (za0 ?_)
 refine awp_block ?_
 refine zg1 ?_
 simp -dsimp only [simprocAttr, ↓vpre, zp, hd15]
 refine za0 ?_
 refine zu0 rfl ?_
 refine zg1 ?_
 simp -dsimp only [simprocAttr, ↓vpre, zp, hd16]
 refine za0 ?_
 refine zw0 rfl ?_
 refine zh1 ?_
 refine .inr (.inl ⟨_, _, hcall, .inl (later_intro ?_)⟩)
 simp -dsimp only [simprocAttr, ↓vpre, zp, hlen]
 refine ⟨ob (by kernel_rfl), ?_⟩
 refine za0 ?_
 refine awp_ret ?_
 simp -dsimp only [simprocAttr, ↓vpre, zp, zr, Try.results132, hlen]
 rw [take_newk]
 refine ⟨fun o ho => ?_, by simp [uptoL, AVal.upto], rfl⟩
 rcases List.mem_append.1 ho with ho | ho
 ·exact AObj.upto_mono (by omega) (hup1 o ho)
 simp only [List.take_succ_cons, List.take_zero, List.mem_cons, List.mem_nil_iff, or_false] at ho
 rcases ho with rfl | rfl | rfl | rfl | rfl | rfl | rfl
 ·trivial
 ·simp [AObj.upto, uptoL, AVal.upto]
 ·trivial
 ·trivial
 ·simp [AObj.upto, uptoL, AVal.upto]
 ·exact hc
 simp [AObj.upto, uptoL, AVal.upto]
theorem effect_check {u : Unt} {m : Mach} {O : List AObj} (hup : ∀ o ∈ O, o.upto O.length) (i : Ins) (x y : SV) (hx : SV.Under O.length x) (hy : SV.Under O.length y) (hm0 : 2 < O.length)
  (hop : i.op = 18) : ECall Try.prog 132 O [.mp 2 0, i.enc, .lst 4 [x.enc, y.enc] .sh] (fun r O' => r = .tup [(m.effect i [x, y]).2.1.enc, aI (m.effect i [x, y]).2.2] ∧ O' = O) := by
 have hl : ∀ v ∈ [x, y], SV.Under O.length v := fun v hv => by
  simp only [List.mem_cons, List.mem_nil_iff, or_false] at hv
  rcases hv with rfl | rfl
  ·exact hx
  exact hy
 have hd15 : decide (i.op = 15) = false := decide_eq_false (by omega)
 have hd16 : decide (i.op = 16) = false := decide_eq_false (by omega)
 have hd18 : decide (i.op = 18) = true := decide_eq_true (by omega)
 have hall := all_at hup [x, y] hl 0
 have ha : argS [x, y] 0 = x ∧ argS [x, y] 1 = y := ⟨rfl, rfl⟩
 cases hk : allK [x, y] 0 with
 | false =>
  simp only [hk, List.map_cons, List.map_nil] at hall
  refine zf true O.length Try.func132 Try.ntmps132 ?_
  dsimp only [Tmp, TypeId, slotsOf]
  refine zh1 (za0 ?_)
  refine awp_frzk 4 0 ([aI i.to, aI i.op, aI i.n, eIs i.args]) rfl rfl (by rfl) ?_
  simp -dsimp only [simprocAttr, ↓vpre, zp]
  refine zh2 (za0 ?_)
  refine awp_block ?_
  refine zg1 ?_
  simp -dsimp only [simprocAttr, ↓vpre, zp, hd15]
  refine za0 ?_
  refine zu0 rfl ?_
  refine zg1 ?_
  simp -dsimp only [simprocAttr, ↓vpre, zp, hd16]
  refine za0 ?_
  refine zu0 rfl ?_
  refine zg1 ?_
  simp -dsimp only [simprocAttr, ↓vpre, zp, hd18]
  refine za0 ?_
  refine zw0 rfl ?_
  refine zh2 ?_
  refine .inr (.inr ⟨_, hall _, later_intro (zj ?_)⟩)
  refine za0 ?_
  refine zw0 rfl ?_
  refine zh1 (za0 ?_)
  refine awp_ret ?_
  simp -dsimp only [simprocAttr, ↓vpre, zp, zr, Try.results132, zero_agg]
  refine ⟨hup, zeroW, ?_⟩
  simp [Mach.effect, hop, hk]
 | true =>
  simp only [hk, List.map_cons, List.map_nil] at hall
  by_cases hb : x.n < 0 ∨ y.n ≤ x.n
  ·have hbd : decide (x.n < 0) = true ∨ (decide (x.n < 0) = false ∧ decide (y.n ≤ x.n) = true) := by
    by_cases h1 : x.n < 0
    ·exact .inl (decide_eq_true h1)
    exact .inr ⟨decide_eq_false h1, decide_eq_true (by omega)⟩
   rcases hbd with hbd | ⟨hbd, hbd2⟩
   ·refine zf true O.length Try.func132 Try.ntmps132 ?_
    dsimp only [Tmp, TypeId, slotsOf]
    refine zh1 (za0 ?_)
    refine awp_frzk 4 0 ([aI i.to, aI i.op, aI i.n, eIs i.args]) rfl rfl (by rfl) ?_
    simp -dsimp only [simprocAttr, ↓vpre, zp]
    refine zh2 (za0 ?_)
    refine awp_block ?_
    refine zg1 ?_
    simp -dsimp only [simprocAttr, ↓vpre, zp, hd15]
    refine za0 ?_
    refine zu0 rfl ?_
    refine zg1 ?_
    simp -dsimp only [simprocAttr, ↓vpre, zp, hd16]
    refine za0 ?_
    refine zu0 rfl ?_
    refine zg1 ?_
    simp -dsimp only [simprocAttr, ↓vpre, zp, hd18]
    refine za0 ?_
    refine zw0 rfl ?_
    refine zh2 ?_
    refine .inr (.inr ⟨_, hall _, later_intro (zj ?_)⟩)
    refine za0 ?_
    refine zu0 rfl ?_
    refine zb0 ?_
    refine zg2 ?_
    simp -dsimp only [simprocAttr, ↓vpre, zp, hbd]
    refine ⟨ob (by kernel_rfl), ?_⟩
    refine za0 ?_
    refine zw0 rfl ?_
    refine zh1 (za0 ?_)
    refine awp_ret ?_
    simp -dsimp only [simprocAttr, ↓vpre, zp, zr, Try.results132, zero_agg]
    refine ⟨hup, zeroW, ?_⟩
    simp [Mach.effect, hop, hk, ha, hb]
   refine zf true O.length Try.func132 Try.ntmps132 ?_
   dsimp only [Tmp, TypeId, slotsOf]
   refine zh1 (za0 ?_)
   refine awp_frzk 4 0 ([aI i.to, aI i.op, aI i.n, eIs i.args]) rfl rfl (by rfl) ?_
   simp -dsimp only [simprocAttr, ↓vpre, zp]
   refine zh2 (za0 ?_)
   refine awp_block ?_
   refine zg1 ?_
   simp -dsimp only [simprocAttr, ↓vpre, zp, hd15]
   refine za0 ?_
   refine zu0 rfl ?_
   refine zg1 ?_
   simp -dsimp only [simprocAttr, ↓vpre, zp, hd16]
   refine za0 ?_
   refine zu0 rfl ?_
   refine zg1 ?_
   simp -dsimp only [simprocAttr, ↓vpre, zp, hd18]
   refine za0 ?_
   refine zw0 rfl ?_
   refine zh2 ?_
   refine .inr (.inr ⟨_, hall _, later_intro (zj ?_)⟩)
   refine za0 ?_
   refine zu0 rfl ?_
   refine zb0 ?_
   refine zg2 ?_
   simp -dsimp only [simprocAttr, ↓vpre, zp, hbd, hbd2]
   refine ⟨ob (by kernel_rfl), ?_⟩
   refine za0 ?_
   refine zw0 rfl ?_
   refine zh1 (za0 ?_)
   refine awp_ret ?_
   simp -dsimp only [simprocAttr, ↓vpre, zp, zr, Try.results132, zero_agg]
   refine ⟨hup, zeroW, ?_⟩
   simp [Mach.effect, hop, hk, ha, hb]
  have hbd : decide (x.n < 0) = false := decide_eq_false (by omega)
  have hbd2 : decide (y.n ≤ x.n) = false := decide_eq_false (by omega)
  refine zf true O.length Try.func132 Try.ntmps132 ?_
  dsimp only [Tmp, TypeId, slotsOf]
  refine zh1 (za0 ?_)
  refine awp_frzk 4 0 ([aI i.to, aI i.op, aI i.n, eIs i.args]) rfl rfl (by rfl) ?_
  simp -dsimp only [simprocAttr, ↓vpre, zp]
  refine zh2 (za0 ?_)
  refine awp_block ?_
  refine zg1 ?_
  simp -dsimp only [simprocAttr, ↓vpre, zp, hd15]
  refine za0 ?_
  refine zu0 rfl ?_
  refine zg1 ?_
  simp -dsimp only [simprocAttr, ↓vpre, zp, hd16]
  refine za0 ?_
  refine zu0 rfl ?_
  refine zg1 ?_
  simp -dsimp only [simprocAttr, ↓vpre, zp, hd18]
  refine za0 ?_
  refine zw0 rfl ?_
  refine zh2 ?_
  refine .inr (.inr ⟨_, hall _, later_intro (zj ?_)⟩)
  refine za0 ?_
  refine zu0 rfl ?_
  refine zb0 ?_
  refine zg2 ?_
  simp -dsimp only [simprocAttr, ↓vpre, zp, hbd, hbd2]
  refine ⟨ob (by kernel_rfl), ?_⟩
  refine za0 ?_
  refine zu0 rfl ?_
  refine zb0 ?_
  refine zh1 ?_
  refine .inl ⟨_, wordOf_spec 0, by simp only [uptoL, AVal.upto, zt, zu, aI_upto], later_intro ?_⟩
  simp -dsimp only [simprocAttr, ↓vpre, zp, word_cells]
  refine za0 ?_
  refine awp_ret ?_
  simp -dsimp only [simprocAttr, ↓vpre, zp, zr, Try.results132, word_agg]
  refine ⟨hup, wordW, ?_⟩
  simp [Mach.effect, hop, hk, ha, hb]
def ArrStep (m m' : Mach) (a : Option Nat) (O O' : List AObj) : Prop :=
 (O' = O ∧ m' = m) ∨ ∃ (vid bid k : Nat) (z : SV) (l : List SV), a = some vid ∧ O[vid]? = some (.cells [.ms bid 0 l.length l.length]) ∧ O[bid]? = some (.cells (cellsAll (l.map SV.enc))) ∧ k < l.length ∧ l = Mach.arrOf m.heap a ∧ SV.Under O.length z ∧
  O' = O.set bid (.cells (cellsAll ((l.set k z).map SV.enc))) ∧ m' = { m with heap := Mach.setArr m.heap a (l.set k z) }
theorem effect_arr {m : Mach} {O : List AObj} (hup : ∀ o ∈ O, o.upto O.length) (i : Ins) (args : List SV) (hl : ∀ v ∈ args, SV.Under O.length v) (x : SV) (hx : args[0]? = some x)
  (h15 : i.op ≠ 15) (h16 : i.op ≠ 16) (h18 : i.op ≠ 18) (h1 : i.op ≠ 17 → ∃ y, args[1]? = some y) (h2 : i.op ≠ 17 → i.op ≠ 19 → ∃ z, args[2]? = some z)
  (hu : ∀ v ∈ Mach.arrOf m.heap x.arr, SV.Under O.length v) (ha : x.kind = 3 → ∃ vid bid, x.arr = some vid ∧ O[vid]? = some (.cells [.ms bid 0 (Mach.arrOf m.heap x.arr).length (Mach.arrOf m.heap x.arr).length]) ∧ O[bid]? = some (.cells (cellsAll ((Mach.arrOf m.heap x.arr).map SV.enc)))) :
  ∃ O', ECall Try.prog 132 O [.mp 2 0, i.enc, .lst 4 (args.map SV.enc) .sh] (fun r O1 => r = .tup [(m.effect i args).2.1.enc, aI (m.effect i args).2.2] ∧ O1 = O') ∧ ArrStep m (m.effect i args).1 x.arr O O' := by
 have hax := argS_of hx
 have hd15 : decide (i.op = 15) = false := decide_eq_false (by omega)
 have hd16 : decide (i.op = 16) = false := decide_eq_false (by omega)
 have hd18 : decide (i.op = 18) = false := decide_eq_false (by omega)
 by_cases hk : x.kind = 3
 ·have hk3 : decide (x.kind = 3) = true := decide_eq_true hk
  obtain ⟨vid, bid, e1, e2, e3⟩ := ha hk
  have heP : eP x.arr = .mp vid 0 := by rw [e1]; rfl
  have hLu := hu
  generalize hL : Mach.arrOf m.heap x.arr = L at *
  have e2' : ∀ X, (O ++ X)[vid]? = some (.cells [.ms bid 0 L.length L.length]) := fun X => at_left e2
  have e3' : ∀ X, (O ++ X)[bid]? = some (.cells (cellsAll (L.map SV.enc))) := fun X => at_left e3
  by_cases h17 : i.op = 17
  ·have hd17 : decide (i.op = 17) = true := decide_eq_true h17
   have hres : m.effect i args = (m, .word L.length, 0) := by simp [Mach.effect, h17, hax, hk, hL]
   rw [hres]
   refine ⟨O, ?_, .inl ⟨rfl, rfl⟩⟩
   refine zf true O.length Try.func132 Try.ntmps132 ?_
   dsimp only [Tmp, TypeId, slotsOf]
   refine zh1 (za0 ?_)
   refine awp_frzk 4 0 ([aI i.to, aI i.op, aI i.n, eIs i.args]) rfl rfl (by rfl) ?_
   simp -dsimp only [simprocAttr, ↓vpre, zp]
   refine zh2 (za0 ?_)
   refine awp_block ?_
   refine zg1 ?_
   simp -dsimp only [simprocAttr, ↓vpre, zp, hd15]
   refine za0 ?_
   refine zu0 rfl ?_
   refine zg1 ?_
   simp -dsimp only [simprocAttr, ↓vpre, zp, hd16]
   refine za0 ?_
   refine zu0 rfl ?_
   refine zg1 ?_
   simp -dsimp only [simprocAttr, ↓vpre, zp, hd18]
   refine za0 ?_
   refine zu0 rfl ?_
   refine zb1 ?_
   refine zg2 ?_
   simp -dsimp only [simprocAttr, ↓vpre, zp, hx, hk3, hd17]
   refine za0 ?_
   refine zu0 rfl ?_
   refine zb0 ?_
   refine zg1 ?_
   simp -dsimp only [simprocAttr, ↓vpre, zp, hx, heP, e2']
   refine za0 ?_
   refine zg2 ?_
   simp -dsimp only [simprocAttr, ↓vpre, zp, hd17]
   refine za0 ?_
   refine zw0 rfl ?_
   refine zh1 ?_
   refine .inl ⟨_, wordOf_spec L.length, by simp only [uptoL, AVal.upto, zt, zu, aI_upto], later_intro ?_⟩
   simp -dsimp only [simprocAttr, ↓vpre, zp, word_cells]
   refine za0 ?_
   refine awp_ret ?_
   simp -dsimp only [simprocAttr, ↓vpre, zp, zr, Try.results132, word_agg]
   exact ⟨hup, wordW⟩
  have hd17 : decide (i.op = 17) = false := decide_eq_false h17
  obtain ⟨y, hy⟩ := h1 h17
  have hay := argS_of hy
  by_cases hyk0 : y.kind = 0
  ·have hyk : decide (y.kind = 0) = true := decide_eq_true hyk0
   by_cases hb : y.n < 0 ∨ (L.length : Int) ≤ y.n
   ·have hres : m.effect i args = (m, .zero, 2) := by simp [Mach.effect, h15, h16, h18, h17, hax, hay, hk, hyk0, hL, hb]
    rw [hres]
    refine ⟨O, ?_, .inl ⟨rfl, rfl⟩⟩
    rcases (show y.n < 0 ∨ (¬ y.n < 0 ∧ (L.length : Int) ≤ y.n) by omega) with hb1 | ⟨hb1, hb2⟩
    ·have hbd : decide (y.n < 0) = true := decide_eq_true hb1
     refine zf true O.length Try.func132 Try.ntmps132 ?_
     dsimp only [Tmp, TypeId, slotsOf]
     refine zh1 (za0 ?_)
     refine awp_frzk 4 0 ([aI i.to, aI i.op, aI i.n, eIs i.args]) rfl rfl (by rfl) ?_
     simp -dsimp only [simprocAttr, ↓vpre, zp]
     refine zh2 (za0 ?_)
     refine awp_block ?_
     refine zg1 ?_
     simp -dsimp only [simprocAttr, ↓vpre, zp, hd15]
     refine za0 ?_
     refine zu0 rfl ?_
     refine zg1 ?_
     simp -dsimp only [simprocAttr, ↓vpre, zp, hd16]
     refine za0 ?_
     refine zu0 rfl ?_
     refine zg1 ?_
     simp -dsimp only [simprocAttr, ↓vpre, zp, hd18]
     refine za0 ?_
     refine zu0 rfl ?_
     refine zb1 ?_
     refine zg2 ?_
     simp -dsimp only [simprocAttr, ↓vpre, zp, hx, hy, hk3, hd17, hyk]
     refine za0 ?_
     refine zu0 rfl ?_
     refine zb0 ?_
     refine zg1 ?_
     simp -dsimp only [simprocAttr, ↓vpre, zp, hx, heP, e2']
     refine za0 ?_
     refine zg2 ?_
     simp -dsimp only [simprocAttr, ↓vpre, zp, hd17]
     refine za0 ?_
     refine zu0 rfl ?_
     refine zb0 ?_
     refine zg1 ?_
     simp -dsimp only [simprocAttr, ↓vpre, zp, hy]
     refine za0 ?_
     refine zg2 ?_
     simp -dsimp only [simprocAttr, ↓vpre, zp, hbd]
     refine za0 ?_
     refine zw0 rfl ?_
     refine zh1 (za0 ?_)
     refine awp_ret ?_
     simp -dsimp only [simprocAttr, ↓vpre, zp, zr, Try.results132, zero_agg]
     exact ⟨hup, zeroW⟩
    have hbd : decide (y.n < 0) = false := decide_eq_false hb1
    have hbd2 : decide ((L.length : Int) ≤ y.n) = true := decide_eq_true hb2
    refine zf true O.length Try.func132 Try.ntmps132 ?_
    dsimp only [Tmp, TypeId, slotsOf]
    refine zh1 (za0 ?_)
    refine awp_frzk 4 0 ([aI i.to, aI i.op, aI i.n, eIs i.args]) rfl rfl (by rfl) ?_
    simp -dsimp only [simprocAttr, ↓vpre, zp]
    refine zh2 (za0 ?_)
    refine awp_block ?_
    refine zg1 ?_
    simp -dsimp only [simprocAttr, ↓vpre, zp, hd15]
    refine za0 ?_
    refine zu0 rfl ?_
    refine zg1 ?_
    simp -dsimp only [simprocAttr, ↓vpre, zp, hd16]
    refine za0 ?_
    refine zu0 rfl ?_
    refine zg1 ?_
    simp -dsimp only [simprocAttr, ↓vpre, zp, hd18]
    refine za0 ?_
    refine zu0 rfl ?_
    refine zb1 ?_
    refine zg2 ?_
    simp -dsimp only [simprocAttr, ↓vpre, zp, hx, hy, hk3, hd17, hyk]
    refine za0 ?_
    refine zu0 rfl ?_
    refine zb0 ?_
    refine zg1 ?_
    simp -dsimp only [simprocAttr, ↓vpre, zp, hx, heP, e2']
    refine za0 ?_
    refine zg2 ?_
    simp -dsimp only [simprocAttr, ↓vpre, zp, hd17]
    refine za0 ?_
    refine zu0 rfl ?_
    refine zb0 ?_
    refine zg1 ?_
    simp -dsimp only [simprocAttr, ↓vpre, zp, hy]
    refine za0 ?_
    refine zg2 ?_
    simp -dsimp only [simprocAttr, ↓vpre, zp, hbd, hbd2]
    refine za0 ?_
    refine zw0 rfl ?_
    refine zh1 (za0 ?_)
    refine awp_ret ?_
    simp -dsimp only [simprocAttr, ↓vpre, zp, zr, Try.results132, zero_agg]
    exact ⟨hup, zeroW⟩
   have hbd : decide (y.n < 0) = false := decide_eq_false (by omega)
   have hbd2 : decide ((L.length : Int) ≤ y.n) = false := decide_eq_false (by omega)
   obtain ⟨k, hk'⟩ : ∃ k : Nat, y.n = k := ⟨y.n.toNat, by omega⟩
   have hkl : k < L.length := by omega
   have hrow := SV.row_len L
   by_cases h19 : i.op = 19
   ·have hd19 : decide (i.op = 19) = true := decide_eq_true h19
    obtain ⟨z, hz⟩ : ∃ z, L[k]? = some z := ⟨L[k], by simp [hkl]⟩
    have haz := argS_of hz
    have hget := SV.row_get hz
    have hzu : SV.Under O.length z := hLu z (List.mem_of_getElem? hz)
    have hres : m.effect i args = (m, z, 0) := by simp [Mach.effect, h17, h19, hax, hay, hk, hyk0, hL, hb, hk', haz, hkl]
    rw [hres]
    refine ⟨O, ?_, .inl ⟨rfl, rfl⟩⟩
    refine zf true O.length Try.func132 Try.ntmps132 ?_
    dsimp only [Tmp, TypeId, slotsOf]
    refine zh1 (za0 ?_)
    refine awp_frzk 4 0 ([aI i.to, aI i.op, aI i.n, eIs i.args]) rfl rfl (by rfl) ?_
    simp -dsimp only [simprocAttr, ↓vpre, zp]
    refine zh2 (za0 ?_)
    refine awp_block ?_
    refine zg1 ?_
    simp -dsimp only [simprocAttr, ↓vpre, zp, hd15]
    refine za0 ?_
    refine zu0 rfl ?_
    refine zg1 ?_
    simp -dsimp only [simprocAttr, ↓vpre, zp, hd16]
    refine za0 ?_
    refine zu0 rfl ?_
    refine zg1 ?_
    simp -dsimp only [simprocAttr, ↓vpre, zp, hd18]
    refine za0 ?_
    refine zu0 rfl ?_
    refine zb1 ?_
    refine zg2 ?_
    simp -dsimp only [simprocAttr, ↓vpre, zp, hx, hy, hk3, hd17, hyk]
    refine za0 ?_
    refine zu0 rfl ?_
    refine zb0 ?_
    refine zg1 ?_
    simp -dsimp only [simprocAttr, ↓vpre, zp, hx, heP, e2']
    refine za0 ?_
    refine zg2 ?_
    simp -dsimp only [simprocAttr, ↓vpre, zp, hd17]
    refine za0 ?_
    refine zu0 rfl ?_
    refine zb0 ?_
    refine zg1 ?_
    simp -dsimp only [simprocAttr, ↓vpre, zp, hy]
    refine za0 ?_
    refine zg2 ?_
    simp -dsimp only [simprocAttr, ↓vpre, zp, hbd, hbd2]
    refine za0 ?_
    refine zu0 rfl ?_
    refine zb0 ?_
    refine zg2 ?_
    simp -dsimp only [simprocAttr, ↓vpre, zp, hd19]
    refine za0 ?_
    refine zw0 rfl ?_
    refine zg1 ?_
    simp -dsimp only [simprocAttr, ↓vpre, zp, hk', e3', hrow, hget]
    repeat (refine ⟨by omega, ?_⟩)
    refine za0 ?_
    refine awp_ret ?_
    simp -dsimp only [simprocAttr, ↓vpre, zp, zr, Try.results132]
    exact ⟨hup, resW hzu⟩
   have hd19 : decide (i.op = 19) = false := decide_eq_false h19
   obtain ⟨z, hz⟩ := h2 h17 h19
   have haz := argS_of hz
   have hset := SV.row_set hkl z
   rw [SV.enc_cells] at hset
   have hzu : SV.Under O.length z := hl z (List.mem_of_getElem? hz)
   have hres : m.effect i args = ({ m with heap := Mach.setArr m.heap x.arr (L.set k z) }, .word 0, 0) := by simp [Mach.effect, h15, h16, h18, h17, h19, hax, hay, hk, hyk0, hL, hb, hk', haz, hkl]
   rw [hres]
   obtain ⟨O1, hO1⟩ : ∃ O1, O1 = O.set bid (.cells (cellsAll ((L.set k z).map SV.enc))) := ⟨_, rfl⟩
   have hlen : O.length = O1.length := by rw [hO1]; simp
   have hup1 : ∀ o ∈ O1, o.upto O1.length := by
    rw [← hlen, hO1]
    refine uptoO_set hup (SV.cells_upto fun v hv => ?_)
    rcases List.mem_or_eq_of_mem_set hv with q | q
    ·exact hLu v q
    exact q ▸ hzu
   have hs1 : ∀ X y, (O ++ X).set bid y = O.set bid y ++ X := fun X y => set_left e3
   refine ⟨O1, ?_, .inr ⟨vid, bid, k, z, L, e1, e2, e3, hkl, hL.symm, hzu, hO1, rfl⟩⟩
   refine zf true O.length Try.func132 Try.ntmps132 ?_
   dsimp only [Tmp, TypeId, slotsOf]
   refine zh1 (za0 ?_)
   refine awp_frzk 4 0 ([aI i.to, aI i.op, aI i.n, eIs i.args]) rfl rfl (by rfl) ?_
   simp -dsimp only [simprocAttr, ↓vpre, zp]
   refine zh2 (za0 ?_)
   refine awp_block ?_
   refine zg1 ?_
   simp -dsimp only [simprocAttr, ↓vpre, zp, hd15]
   refine za0 ?_
   refine zu0 rfl ?_
   refine zg1 ?_
   simp -dsimp only [simprocAttr, ↓vpre, zp, hd16]
   refine za0 ?_
   refine zu0 rfl ?_
   refine zg1 ?_
   simp -dsimp only [simprocAttr, ↓vpre, zp, hd18]
   refine za0 ?_
   refine zu0 rfl ?_
   refine zb1 ?_
   refine zg2 ?_
   simp -dsimp only [simprocAttr, ↓vpre, zp, hx, hy, hk3, hd17, hyk]
   refine za0 ?_
   refine zu0 rfl ?_
   refine zb0 ?_
   refine zg1 ?_
   simp -dsimp only [simprocAttr, ↓vpre, zp, hx, heP, e2']
   refine za0 ?_
   refine zg2 ?_
   simp -dsimp only [simprocAttr, ↓vpre, zp, hd17]
   refine za0 ?_
   refine zu0 rfl ?_
   refine zb0 ?_
   refine zg1 ?_
   simp -dsimp only [simprocAttr, ↓vpre, zp, hy]
   refine za0 ?_
   refine zg2 ?_
   simp -dsimp only [simprocAttr, ↓vpre, zp, hbd, hbd2]
   refine za0 ?_
   refine zu0 rfl ?_
   refine zb0 ?_
   refine zg2 ?_
   simp -dsimp only [simprocAttr, ↓vpre, zp, hd19]
   refine za0 ?_
   refine zu0 rfl ?_
   refine zb0 ?_
   refine zg1 ?_
   simp -dsimp only [simprocAttr, ↓vpre, zp, hk', hz, e3', hrow, SV.cells_len, hset, hs1, ← hO1]
   repeat (refine ⟨by omega, ?_⟩)
   refine za0 ?_
   refine zg1 ?_
   simp -dsimp only [simprocAttr, ↓vpre, zp, hlen]
   refine .inl ⟨_, wordOf_spec 0, by simp only [uptoL, AVal.upto, zt, zu, aI_upto], later_intro ?_⟩
   simp -dsimp only [simprocAttr, ↓vpre, zp, word_cells]
   refine za0 ?_
   refine awp_ret ?_
   simp -dsimp only [simprocAttr, ↓vpre, zp, zr, Try.results132, word_agg, hlen]
   exact ⟨hup1, wordW⟩
  have hyk : decide (y.kind = 0) = false := decide_eq_false hyk0
  have hres : m.effect i args = (m, .zero, 5) := by simp [Mach.effect, h15, h16, h18, h17, hax, hay, hk, hyk0]
  rw [hres]
  refine ⟨O, ?_, .inl ⟨rfl, rfl⟩⟩
  refine zf true O.length Try.func132 Try.ntmps132 ?_
  dsimp only [Tmp, TypeId, slotsOf]
  refine zh1 (za0 ?_)
  refine awp_frzk 4 0 ([aI i.to, aI i.op, aI i.n, eIs i.args]) rfl rfl (by rfl) ?_
  simp -dsimp only [simprocAttr, ↓vpre, zp]
  refine zh2 (za0 ?_)
  refine awp_block ?_
  refine zg1 ?_
  simp -dsimp only [simprocAttr, ↓vpre, zp, hd15]
  refine za0 ?_
  refine zu0 rfl ?_
  refine zg1 ?_
  simp -dsimp only [simprocAttr, ↓vpre, zp, hd16]
  refine za0 ?_
  refine zu0 rfl ?_
  refine zg1 ?_
  simp -dsimp only [simprocAttr, ↓vpre, zp, hd18]
  refine za0 ?_
  refine zu0 rfl ?_
  refine zb1 ?_
  refine zg2 ?_
  simp -dsimp only [simprocAttr, ↓vpre, zp, hx, hy, hk3, hd17, hyk]
  refine za0 ?_
  refine zw0 rfl ?_
  refine zh1 (za0 ?_)
  refine awp_ret ?_
  simp -dsimp only [simprocAttr, ↓vpre, zp, zr, Try.results132, zero_agg]
  exact ⟨hup, zeroW⟩
 have hk3 : decide (x.kind = 3) = false := decide_eq_false hk
 have hres : m.effect i args = (m, .zero, 5) := by simp [Mach.effect, h15, h16, h18, hax, hk]
 rw [hres]
 refine ⟨O, ?_, .inl ⟨rfl, rfl⟩⟩
 refine zf true O.length Try.func132 Try.ntmps132 ?_
 dsimp only [Tmp, TypeId, slotsOf]
 refine zh1 (za0 ?_)
 refine awp_frzk 4 0 ([aI i.to, aI i.op, aI i.n, eIs i.args]) rfl rfl (by rfl) ?_
 simp -dsimp only [simprocAttr, ↓vpre, zp]
 refine zh2 (za0 ?_)
 refine awp_block ?_
 refine zg1 ?_
 simp -dsimp only [simprocAttr, ↓vpre, zp, hd15]
 refine za0 ?_
 refine zu0 rfl ?_
 refine zg1 ?_
 simp -dsimp only [simprocAttr, ↓vpre, zp, hd16]
 refine za0 ?_
 refine zu0 rfl ?_
 refine zg1 ?_
 simp -dsimp only [simprocAttr, ↓vpre, zp, hd18]
 refine za0 ?_
 refine zu0 rfl ?_
 refine zb1 ?_
 refine zg2 ?_
 simp -dsimp only [simprocAttr, ↓vpre, zp, hx, hk3]
 refine za0 ?_
 refine zw0 rfl ?_
 refine zh1 (za0 ?_)
 refine awp_ret ?_
 simp -dsimp only [simprocAttr, ↓vpre, zp, zr, Try.results132, zero_agg]
 exact ⟨hup, zeroW⟩
theorem exec_int {u : Unt} {m : Mach} {O : List AObj} (hup : ∀ o ∈ O, o.upto O.length) (i : Ins) (args : List SV) (hl : ∀ v ∈ args, SV.Under O.length v) (hop : i.op = 0) : ECall Try.prog 106 O [.mp 2 0, i.enc, .lst 4 (args.map SV.enc) .sh] (fun r O' => r = .tup [(m.exec i args).2.1.enc, aI (m.exec i args).2.2] ∧ O' = O) := by
 refine zf true O.length Try.func106 Try.ntmps106 ?_
 dsimp only [Tmp, TypeId, slotsOf]
 refine zh1 (za0 ?_)
 refine awp_frzk 4 0 ([aI i.to, aI i.op, aI i.n, eIs i.args]) rfl rfl (by rfl) ?_
 simp -dsimp only [simprocAttr, ↓vpre, zp]
 refine zh2 (za0 ?_)
 refine awp_block ?_
 refine zh1 (za0 ?_)
 apply zk0 rfl <;> intro h
 ·refine zh1 ?_
  refine .inl ⟨_, wordOf_spec i.n, by simp only [uptoL, AVal.upto, zt, zu, aI_upto], later_intro ?_⟩
  simp -dsimp only [simprocAttr, ↓vpre, zp, word_cells]
  refine za0 ?_
  refine awp_ret ?_
  simp -dsimp only [simprocAttr, ↓vpre, zp, zr, Try.results106, word_agg]
  refine ⟨hup, wordW, ?_⟩
  simp [Mach.exec, hop]
 exact af h (by omega)
theorem exec_arith {u : Unt} {m : Mach} {O : List AObj} (hup : ∀ o ∈ O, o.upto O.length) (i : Ins) (args : List SV) (hl : ∀ v ∈ args, SV.Under O.length v) (hop : 1 ≤ i.op ∧ i.op ≤ 7) (x y : SV) (hx : args[0]? = some x) (hy : args[1]? = some y) (hxw : x.kind = 0 → isW x.n) (hyw : y.kind = 0 → isW y.n) : ECall Try.prog 106 O [.mp 2 0, i.enc, .lst 4 (args.map SV.enc) .sh] (fun r O' => r = .tup [(m.exec i args).2.1.enc, aI (m.exec i args).2.2] ∧ O' = O) := by
 have hax := argS_of hx
 have hay := argS_of hy
 have hall := all_at hup args hl 0
 have h0 : i.op ≠ 0 := by omega
 cases hk : allK args 0 with
 | false =>
  rw [hk] at hall
  refine zf true O.length Try.func106 Try.ntmps106 ?_
  dsimp only [Tmp, TypeId, slotsOf]
  refine zh1 (za0 ?_)
  refine awp_frzk 4 0 ([aI i.to, aI i.op, aI i.n, eIs i.args]) rfl rfl (by rfl) ?_
  simp -dsimp only [simprocAttr, ↓vpre, zp]
  refine zh2 (za0 ?_)
  refine awp_block ?_
  refine zh1 (za0 ?_)
  apply zk0 rfl <;> intro h
  ·exact ab h (by omega)
  refine zh2 (za0 ?_)
  refine awp_mid0 (⟨82, [(0, .mp 2 0), (2, .lst 4 (args.map SV.enc) .sh), (4, .ip none [aI i.to, aI i.op, aI i.n, eIs i.args]), (6, .mp (O.length + 1) 0), (7, aI 0), (9, aI i.op), (15, .v (.bool true))], O ++ [.gone, .cells [aI 0, aI 0, .lst 4 [] .ex, .v (.pointer none)]]⟩) ?_ ?_
  ·apply zk0 rfl <;> intro h
   ·refine awp_skip ?_
    show Covers _ _
    refine zq rfl ?_ ?_
    simp -dsimp only [simprocAttr, ↓vpre, zp, zc]
    ·exact Sub.of_eq (by rw [h])
    rfl
   refine zh1 (za0 ?_)
   apply zk0 rfl <;> intro h
   ·refine awp_skip ?_
    show Covers _ _
    refine zq rfl ?_ ?_
    simp -dsimp only [simprocAttr, ↓vpre, zp, zc]
    ·exact Sub.of_eq (by rw [h])
    rfl
   refine zh1 (za0 ?_)
   apply zk0 rfl <;> intro h
   ·refine awp_skip ?_
    show Covers _ _
    refine zq rfl ?_ ?_
    simp -dsimp only [simprocAttr, ↓vpre, zp, zc]
    ·exact Sub.of_eq (by rw [h])
    rfl
   refine zh1 (za0 ?_)
   apply zk0 rfl <;> intro h
   ·refine awp_skip ?_
    show Covers _ _
    refine zq rfl ?_ ?_
    simp -dsimp only [simprocAttr, ↓vpre, zp, zc]
    ·exact Sub.of_eq (by rw [h])
    rfl
   refine zh1 (za0 ?_)
   apply zk0 rfl <;> intro h
   ·refine awp_skip ?_
    show Covers _ _
    refine zq rfl ?_ ?_
    simp -dsimp only [simprocAttr, ↓vpre, zp, zc]
    ·exact Sub.of_eq (by rw [h])
    rfl
   refine zh1 (za0 ?_)
   apply zk0 rfl <;> intro h
   ·refine awp_skip ?_
    show Covers _ _
    refine zq rfl ?_ ?_
    simp -dsimp only [simprocAttr, ↓vpre, zp, zc]
    ·exact Sub.of_eq (by rw [h])
    rfl
   refine zh0 ?_
   refine at_intro ?_
   show Covers _ _
   refine zq rfl ?_ ?_
   simp -dsimp only [simprocAttr, ↓vpre, zp, zc]
   ·exact Sub.of_eq (by rw [decide_eq_true (show i.op = 7 by simp only [decide_eq_false_iff_not] at *; omega)])
   rfl
  refine zw0 rfl ?_
  refine zh2 ?_
  refine .inr (.inr ⟨_, hall _, later_intro (zj ?_)⟩)
  refine za0 ?_
  refine zw0 rfl ?_
  refine zh1 (za0 ?_)
  refine awp_ret ?_
  simp -dsimp only [simprocAttr, ↓vpre, zp, zr, Try.results106, zero_agg]
  refine ⟨hup, zeroW, ?_⟩
  simp [Mach.exec, hop, h0, hk]
 | true =>
  rw [hk] at hall
  have hkx : x.kind = 0 := by
   simp only [allK, List.all_eq_true, decide_eq_true_eq] at hk
   exact hk x (List.mem_of_getElem? hx)
  have hky : y.kind = 0 := by
   simp only [allK, List.all_eq_true, decide_eq_true_eq] at hk
   exact hk y (List.mem_of_getElem? hy)
  have hbin := binary_spec i.op x.n y.n (hxw hkx) (hyw hky)
  have hbu := binaryM_under O.length i.op x.n y.n
  have hres : m.exec i args = (m, binaryM i.op x.n y.n) := by simp [Mach.exec, hop, h0, hk, hax, hay]
  rw [hres]
  generalize binaryM i.op x.n y.n = B at *
  refine zf true O.length Try.func106 Try.ntmps106 ?_
  dsimp only [Tmp, TypeId, slotsOf]
  refine zh1 (za0 ?_)
  refine awp_frzk 4 0 ([aI i.to, aI i.op, aI i.n, eIs i.args]) rfl rfl (by rfl) ?_
  simp -dsimp only [simprocAttr, ↓vpre, zp]
  refine zh2 (za0 ?_)
  refine awp_block ?_
  refine zh1 (za0 ?_)
  apply zk0 rfl <;> intro h
  ·exact ab h (by omega)
  refine zh2 (za0 ?_)
  refine awp_mid0 (⟨82, [(0, .mp 2 0), (2, .lst 4 (args.map SV.enc) .sh), (4, .ip none [aI i.to, aI i.op, aI i.n, eIs i.args]), (6, .mp (O.length + 1) 0), (7, aI 0), (9, aI i.op), (15, .v (.bool true))], O ++ [.gone, .cells [aI 0, aI 0, .lst 4 [] .ex, .v (.pointer none)]]⟩) ?_ ?_
  ·apply zk0 rfl <;> intro h
   ·refine awp_skip ?_
    show Covers _ _
    refine zq rfl ?_ ?_
    simp -dsimp only [simprocAttr, ↓vpre, zp, zc]
    ·exact Sub.of_eq (by rw [h])
    rfl
   refine zh1 (za0 ?_)
   apply zk0 rfl <;> intro h
   ·refine awp_skip ?_
    show Covers _ _
    refine zq rfl ?_ ?_
    simp -dsimp only [simprocAttr, ↓vpre, zp, zc]
    ·exact Sub.of_eq (by rw [h])
    rfl
   refine zh1 (za0 ?_)
   apply zk0 rfl <;> intro h
   ·refine awp_skip ?_
    show Covers _ _
    refine zq rfl ?_ ?_
    simp -dsimp only [simprocAttr, ↓vpre, zp, zc]
    ·exact Sub.of_eq (by rw [h])
    rfl
   refine zh1 (za0 ?_)
   apply zk0 rfl <;> intro h
   ·refine awp_skip ?_
    show Covers _ _
    refine zq rfl ?_ ?_
    simp -dsimp only [simprocAttr, ↓vpre, zp, zc]
    ·exact Sub.of_eq (by rw [h])
    rfl
   refine zh1 (za0 ?_)
   apply zk0 rfl <;> intro h
   ·refine awp_skip ?_
    show Covers _ _
    refine zq rfl ?_ ?_
    simp -dsimp only [simprocAttr, ↓vpre, zp, zc]
    ·exact Sub.of_eq (by rw [h])
    rfl
   refine zh1 (za0 ?_)
   apply zk0 rfl <;> intro h
   ·refine awp_skip ?_
    show Covers _ _
    refine zq rfl ?_ ?_
    simp -dsimp only [simprocAttr, ↓vpre, zp, zc]
    ·exact Sub.of_eq (by rw [h])
    rfl
   refine zh0 ?_
   refine at_intro ?_
   show Covers _ _
   refine zq rfl ?_ ?_
   simp -dsimp only [simprocAttr, ↓vpre, zp, zc]
   ·exact Sub.of_eq (by rw [decide_eq_true (show i.op = 7 by simp only [decide_eq_false_iff_not] at *; omega)])
   rfl
  refine zw0 rfl ?_
  refine zh2 ?_
  refine .inr (.inr ⟨_, hall _, later_intro (zj ?_)⟩)
  refine za0 ?_
  refine zu0 rfl ?_
  refine zb0 ?_
  refine zg1 ?_
  simp -dsimp only [simprocAttr, ↓vpre, zp, hx, hy]
  refine zi hbin ?_
  refine ⟨ob (by kernel_rfl), ?_⟩
  refine za0 ?_
  refine awp_ret ?_
  simp -dsimp only [simprocAttr, ↓vpre, zp, zr, Try.results106]
  exact ⟨hup, resW hbu⟩
theorem exec_con {u : Unt} {m : Mach} {O : List AObj} (hup : ∀ o ∈ O, o.upto O.length) (i : Ins) (args : List SV) (hl : ∀ v ∈ args, SV.Under O.length v) (hop : i.op = 8) : ECall Try.prog 106 O [.mp 2 0, i.enc, .lst 4 (args.map SV.enc) .sh] (fun r O' => r = .tup [(m.exec i args).2.1.enc, aI (m.exec i args).2.2] ∧ O' = O) := by
 have hz := (SV.Under.mk (k := 1) (m := i.n) (a := none) (by simp) hl).enc_upto
 rw [SV.enc_mk] at hz
 refine zf true O.length Try.func106 Try.ntmps106 ?_
 dsimp only [Tmp, TypeId, slotsOf]
 refine zh1 (za0 ?_)
 refine awp_frzk 4 0 ([aI i.to, aI i.op, aI i.n, eIs i.args]) rfl rfl (by rfl) ?_
 simp -dsimp only [simprocAttr, ↓vpre, zp]
 refine zh2 (za0 ?_)
 refine awp_block ?_
 refine zh1 (za0 ?_)
 apply zk0 rfl <;> intro h
 ·exact ab h (by omega)
 refine zh2 (za0 ?_)
 apply zk0 rfl <;> intro h
 ·exact ab h (by omega)
 refine zh1 (za0 ?_)
 apply zk0 rfl <;> intro h
 ·exact ab h (by omega)
 refine zh1 (za0 ?_)
 apply zk0 rfl <;> intro h
 ·exact ab h (by omega)
 refine zh1 (za0 ?_)
 apply zk0 rfl <;> intro h
 ·exact ab h (by omega)
 refine zh1 (za0 ?_)
 apply zk0 rfl <;> intro h
 ·exact ab h (by omega)
 refine zh1 (za0 ?_)
 apply zk0 rfl <;> intro h
 ·exact ab h (by omega)
 refine zh0 (za0 ?_)
 apply zk0 rfl <;> intro h
 ·exact ab h (by omega)
 refine zh1 (za0 ?_)
 apply zk0 rfl <;> intro h
 ·refine zh1 (za0 ?_)
  refine awp_ret ?_
  simp -dsimp only [simprocAttr, ↓vpre, zp, zr, Try.results106]
  refine ⟨hup, ⟨hz, trivial, trivial⟩, ?_⟩
  simp [Mach.exec, hop, SV.enc_mk, eP]
 exact af h (by omega)
theorem exec_clos {u : Unt} {m : Mach} {O : List AObj} (hup : ∀ o ∈ O, o.upto O.length) (i : Ins) (args : List SV) (hl : ∀ v ∈ args, SV.Under O.length v) (hop : i.op = 9) : ECall Try.prog 106 O [.mp 2 0, i.enc, .lst 4 (args.map SV.enc) .sh] (fun r O' => r = .tup [(m.exec i args).2.1.enc, aI (m.exec i args).2.2] ∧ O' = O) := by
 have hz := (SV.Under.mk (k := 2) (m := i.n) (a := none) (by simp) hl).enc_upto
 rw [SV.enc_mk] at hz
 refine zf true O.length Try.func106 Try.ntmps106 ?_
 dsimp only [Tmp, TypeId, slotsOf]
 refine zh1 (za0 ?_)
 refine awp_frzk 4 0 ([aI i.to, aI i.op, aI i.n, eIs i.args]) rfl rfl (by rfl) ?_
 simp -dsimp only [simprocAttr, ↓vpre, zp]
 refine zh2 (za0 ?_)
 refine awp_block ?_
 refine zh1 (za0 ?_)
 apply zk0 rfl <;> intro h
 ·exact ab h (by omega)
 refine zh2 (za0 ?_)
 apply zk0 rfl <;> intro h
 ·exact ab h (by omega)
 refine zh1 (za0 ?_)
 apply zk0 rfl <;> intro h
 ·exact ab h (by omega)
 refine zh1 (za0 ?_)
 apply zk0 rfl <;> intro h
 ·exact ab h (by omega)
 refine zh1 (za0 ?_)
 apply zk0 rfl <;> intro h
 ·exact ab h (by omega)
 refine zh1 (za0 ?_)
 apply zk0 rfl <;> intro h
 ·exact ab h (by omega)
 refine zh1 (za0 ?_)
 apply zk0 rfl <;> intro h
 ·exact ab h (by omega)
 refine zh0 (za0 ?_)
 apply zk0 rfl <;> intro h
 ·exact ab h (by omega)
 refine zh1 (za0 ?_)
 apply zk0 rfl <;> intro h
 ·exact ab h (by omega)
 refine zh1 (za0 ?_)
 apply zk0 rfl <;> intro h
 ·refine zh1 (za0 ?_)
  refine awp_ret ?_
  simp -dsimp only [simprocAttr, ↓vpre, zp, zr, Try.results106]
  refine ⟨hup, ⟨hz, trivial, trivial⟩, ?_⟩
  simp [Mach.exec, hop, SV.enc_mk, eP]
 exact af h (by omega)
theorem exec_obj {u : Unt} {m : Mach} {O : List AObj} (hup : ∀ o ∈ O, o.upto O.length) (i : Ins) (args : List SV) (hl : ∀ v ∈ args, SV.Under O.length v) (hop : i.op = 10 ∨ i.op = 11 ∨ i.op = 12 ∨ i.op = 21) (hC : ECall Try.prog 130 O [i.enc, .lst 4 (args.map SV.enc) .sh] (fun r O' => r = .tup [(objectM i args).1.enc, aI (objectM i args).2] ∧ O' = O)) (hR : SV.Under O.length (objectM i args).1) : ECall Try.prog 106 O [.mp 2 0, i.enc, .lst 4 (args.map SV.enc) .sh] (fun r O' => r = .tup [(m.exec i args).2.1.enc, aI (m.exec i args).2.2] ∧ O' = O) := by
 have hcall := ECall.frame hC rfl ⟨i.enc_upto _, ⟨SV.map_upto hl, trivial⟩, trivial⟩ hup
 have hres : m.exec i args = (m, objectM i args) := by
  unfold Mach.exec
  rw [if_neg (by omega), if_neg (by omega), if_neg (by omega), if_neg (by omega), if_pos hop]
 rw [hres]
 generalize objectM i args = B at *
 refine zf true O.length Try.func106 Try.ntmps106 ?_
 dsimp only [Tmp, TypeId, slotsOf]
 refine zh1 (za0 ?_)
 refine awp_frzk 4 0 ([aI i.to, aI i.op, aI i.n, eIs i.args]) rfl rfl (by rfl) ?_
 simp -dsimp only [simprocAttr, ↓vpre, zp]
 refine zh2 (za0 ?_)
 refine awp_block ?_
 refine zh1 (za0 ?_)
 apply zk0 rfl <;> intro h
 ·exact ab h (by omega)
 refine zh2 (za0 ?_)
 apply zk0 rfl <;> intro h
 ·exact ab h (by omega)
 refine zh1 (za0 ?_)
 apply zk0 rfl <;> intro h
 ·exact ab h (by omega)
 refine zh1 (za0 ?_)
 apply zk0 rfl <;> intro h
 ·exact ab h (by omega)
 refine zh1 (za0 ?_)
 apply zk0 rfl <;> intro h
 ·exact ab h (by omega)
 refine zh1 (za0 ?_)
 apply zk0 rfl <;> intro h
 ·exact ab h (by omega)
 refine zh1 (za0 ?_)
 apply zk0 rfl <;> intro h
 ·exact ab h (by omega)
 refine zh0 (za0 ?_)
 apply zk0 rfl <;> intro h
 ·exact ab h (by omega)
 refine zh1 (za0 ?_)
 apply zk0 rfl <;> intro h
 ·exact ab h (by omega)
 refine zh1 (za0 ?_)
 apply zk0 rfl <;> intro h
 ·exact ab h (by omega)
 refine zh2 (za0 ?_)
 refine awp_mid0 (⟨82, [(0, .mp 2 0), (2, .lst 4 (args.map SV.enc) .sh), (4, .ip none [aI i.to, aI i.op, aI i.n, eIs i.args]), (6, .mp (O.length + 1) 0), (7, aI 0), (9, aI i.op), (52, .v (.bool true))], O ++ [.gone, .cells [aI 0, aI 0, .lst 4 [] .ex, .v (.pointer none)]]⟩) ?_ ?_
 ·apply zk0 rfl <;> intro h
  ·refine awp_skip ?_
   show Covers _ _
   refine zq rfl ?_ ?_
   simp -dsimp only [simprocAttr, ↓vpre, zp, zc]
   ·exact Sub.of_eq (by rw [h])
   rfl
  refine zh1 (za0 ?_)
  apply zk0 rfl <;> intro h
  ·refine awp_skip ?_
   show Covers _ _
   refine zq rfl ?_ ?_
   simp -dsimp only [simprocAttr, ↓vpre, zp, zc]
   ·exact Sub.of_eq (by rw [h])
   rfl
  refine zh1 (za0 ?_)
  apply zk0 rfl <;> intro h
  ·refine awp_skip ?_
   show Covers _ _
   refine zq rfl ?_ ?_
   simp -dsimp only [simprocAttr, ↓vpre, zp, zc]
   ·exact Sub.of_eq (by rw [h])
   rfl
  refine zh0 ?_
  refine at_intro ?_
  show Covers _ _
  refine zq rfl ?_ ?_
  simp -dsimp only [simprocAttr, ↓vpre, zp, zc]
  ·exact Sub.of_eq (by rw [decide_eq_true (show i.op = 21 by simp only [decide_eq_false_iff_not] at *; omega)])
  rfl
 refine zw0 rfl ?_
 refine zh1 ?_
 refine .inr (.inr ⟨_, hcall _, later_intro (zj ?_)⟩)
 refine za0 ?_
 refine awp_ret ?_
 simp -dsimp only [simprocAttr, ↓vpre, zp, zr, Try.results106]
 exact ⟨hup, resW hR⟩
theorem exec_vec {u : Unt} {m : Mach} {O : List AObj} (hup : ∀ o ∈ O, o.upto O.length) (i : Ins) (args : List SV) (hl : ∀ v ∈ args, SV.Under O.length v) (hop : i.op = 22 ∨ i.op = 23 ∨ i.op = 24) (hC : ECall Try.prog 131 O [i.enc, .lst 4 (args.map SV.enc) .sh] (fun r O' => r = .tup [(vectorM i args).1.enc, aI (vectorM i args).2] ∧ O' = O)) (hR : SV.Under O.length (vectorM i args).1) : ECall Try.prog 106 O [.mp 2 0, i.enc, .lst 4 (args.map SV.enc) .sh] (fun r O' => r = .tup [(m.exec i args).2.1.enc, aI (m.exec i args).2.2] ∧ O' = O) := by
 have hcall := ECall.frame hC rfl ⟨i.enc_upto _, ⟨SV.map_upto hl, trivial⟩, trivial⟩ hup
 have hres : m.exec i args = (m, vectorM i args) := by
  unfold Mach.exec
  rw [if_neg (by omega), if_neg (by omega), if_neg (by omega), if_neg (by omega), if_neg (by omega), if_pos hop]
 rw [hres]
 generalize vectorM i args = B at *
 refine zf true O.length Try.func106 Try.ntmps106 ?_
 dsimp only [Tmp, TypeId, slotsOf]
 refine zh1 (za0 ?_)
 refine awp_frzk 4 0 ([aI i.to, aI i.op, aI i.n, eIs i.args]) rfl rfl (by rfl) ?_
 simp -dsimp only [simprocAttr, ↓vpre, zp]
 refine zh2 (za0 ?_)
 refine awp_block ?_
 refine zh1 (za0 ?_)
 apply zk0 rfl <;> intro h
 ·exact ab h (by omega)
 refine zh2 (za0 ?_)
 apply zk0 rfl <;> intro h
 ·exact ab h (by omega)
 refine zh1 (za0 ?_)
 apply zk0 rfl <;> intro h
 ·exact ab h (by omega)
 refine zh1 (za0 ?_)
 apply zk0 rfl <;> intro h
 ·exact ab h (by omega)
 refine zh1 (za0 ?_)
 apply zk0 rfl <;> intro h
 ·exact ab h (by omega)
 refine zh1 (za0 ?_)
 apply zk0 rfl <;> intro h
 ·exact ab h (by omega)
 refine zh1 (za0 ?_)
 apply zk0 rfl <;> intro h
 ·exact ab h (by omega)
 refine zh0 (za0 ?_)
 apply zk0 rfl <;> intro h
 ·exact ab h (by omega)
 refine zh1 (za0 ?_)
 apply zk0 rfl <;> intro h
 ·exact ab h (by omega)
 refine zh1 (za0 ?_)
 apply zk0 rfl <;> intro h
 ·exact ab h (by omega)
 refine zh2 (za0 ?_)
 apply zk0 rfl <;> intro h
 ·exact ab h (by omega)
 refine zh1 (za0 ?_)
 apply zk0 rfl <;> intro h
 ·exact ab h (by omega)
 refine zh1 (za0 ?_)
 apply zk0 rfl <;> intro h
 ·exact ab h (by omega)
 refine zh0 (za0 ?_)
 apply zk0 rfl <;> intro h
 ·exact ab h (by omega)
 refine zh2 (za0 ?_)
 refine awp_mid0 (⟨82, [(0, .mp 2 0), (2, .lst 4 (args.map SV.enc) .sh), (4, .ip none [aI i.to, aI i.op, aI i.n, eIs i.args]), (6, .mp (O.length + 1) 0), (7, aI 0), (9, aI i.op), (62, .v (.bool true))], O ++ [.gone, .cells [aI 0, aI 0, .lst 4 [] .ex, .v (.pointer none)]]⟩) ?_ ?_
 ·apply zk0 rfl <;> intro h
  ·refine awp_skip ?_
   show Covers _ _
   refine zq rfl ?_ ?_
   simp -dsimp only [simprocAttr, ↓vpre, zp, zc]
   ·exact Sub.of_eq (by rw [h])
   rfl
  refine zh1 (za0 ?_)
  apply zk0 rfl <;> intro h
  ·refine awp_skip ?_
   show Covers _ _
   refine zq rfl ?_ ?_
   simp -dsimp only [simprocAttr, ↓vpre, zp, zc]
   ·exact Sub.of_eq (by rw [h])
   rfl
  refine zh0 ?_
  refine at_intro ?_
  show Covers _ _
  refine zq rfl ?_ ?_
  simp -dsimp only [simprocAttr, ↓vpre, zp, zc]
  ·exact Sub.of_eq (by rw [decide_eq_true (show i.op = 24 by simp only [decide_eq_false_iff_not] at *; omega)])
  rfl
 refine zw0 rfl ?_
 refine zh1 ?_
 refine .inr (.inr ⟨_, hcall _, later_intro (zj ?_)⟩)
 refine za0 ?_
 refine awp_ret ?_
 simp -dsimp only [simprocAttr, ↓vpre, zp, zr, Try.results106]
 exact ⟨hup, resW hR⟩
theorem exec_copy {u : Unt} {m : Mach} {O : List AObj} (hup : ∀ o ∈ O, o.upto O.length) (i : Ins) (args : List SV) (hl : ∀ v ∈ args, SV.Under O.length v) (hop : i.op = 100) (x : SV) (hx : args[0]? = some x) : ECall Try.prog 106 O [.mp 2 0, i.enc, .lst 4 (args.map SV.enc) .sh] (fun r O' => r = .tup [(m.exec i args).2.1.enc, aI (m.exec i args).2.2] ∧ O' = O) := by
 have hax := argS_of hx
 have hxu := hl x (List.mem_of_getElem? hx)
 refine zf true O.length Try.func106 Try.ntmps106 ?_
 dsimp only [Tmp, TypeId, slotsOf]
 refine zh1 (za0 ?_)
 refine awp_frzk 4 0 ([aI i.to, aI i.op, aI i.n, eIs i.args]) rfl rfl (by rfl) ?_
 simp -dsimp only [simprocAttr, ↓vpre, zp]
 refine zh2 (za0 ?_)
 refine awp_block ?_
 refine zh1 (za0 ?_)
 apply zk0 rfl <;> intro h
 ·exact ab h (by omega)
 refine zh2 (za0 ?_)
 apply zk0 rfl <;> intro h
 ·exact ab h (by omega)
 refine zh1 (za0 ?_)
 apply zk0 rfl <;> intro h
 ·exact ab h (by omega)
 refine zh1 (za0 ?_)
 apply zk0 rfl <;> intro h
 ·exact ab h (by omega)
 refine zh1 (za0 ?_)
 apply zk0 rfl <;> intro h
 ·exact ab h (by omega)
 refine zh1 (za0 ?_)
 apply zk0 rfl <;> intro h
 ·exact ab h (by omega)
 refine zh1 (za0 ?_)
 apply zk0 rfl <;> intro h
 ·exact ab h (by omega)
 refine zh0 (za0 ?_)
 apply zk0 rfl <;> intro h
 ·exact ab h (by omega)
 refine zh1 (za0 ?_)
 apply zk0 rfl <;> intro h
 ·exact ab h (by omega)
 refine zh1 (za0 ?_)
 apply zk0 rfl <;> intro h
 ·exact ab h (by omega)
 refine zh2 (za0 ?_)
 apply zk0 rfl <;> intro h
 ·exact ab h (by omega)
 refine zh1 (za0 ?_)
 apply zk0 rfl <;> intro h
 ·exact ab h (by omega)
 refine zh1 (za0 ?_)
 apply zk0 rfl <;> intro h
 ·exact ab h (by omega)
 refine zh0 (za0 ?_)
 apply zk0 rfl <;> intro h
 ·exact ab h (by omega)
 refine zh2 (za0 ?_)
 apply zk0 rfl <;> intro h
 ·exact ab h (by omega)
 refine zh1 (za0 ?_)
 apply zk0 rfl <;> intro h
 ·exact ab h (by omega)
 refine zh0 (za0 ?_)
 apply zk0 rfl <;> intro h
 ·exact ab h (by omega)
 refine zh1 (za0 ?_)
 apply zk0 rfl <;> intro h
 ·refine zg1 ?_
  simp -dsimp only [simprocAttr, ↓vpre, zp, hx]
  refine za0 ?_
  refine awp_ret ?_
  simp -dsimp only [simprocAttr, ↓vpre, zp, zr, Try.results106]
  refine ⟨hup, resW hxu, ?_⟩
  simp [Mach.exec, hop, hax]
 exact af h (by omega)
theorem exec_effect (m : Mach) (i : Ins) (args : List SV) (h0 : i.op ≠ 0) (h1 : ¬ (1 ≤ i.op ∧ i.op ≤ 7)) (h8 : i.op ≠ 8) (h9 : i.op ≠ 9) (h10 : i.op ≠ 10 ∧ i.op ≠ 11 ∧ i.op ≠ 12 ∧ i.op ≠ 21) (h22 : i.op ≠ 22 ∧ i.op ≠ 23 ∧ i.op ≠ 24) (h100 : i.op ≠ 100) : m.exec i args = m.effect i args := by
 unfold Mach.exec
 rw [if_neg h0, if_neg h1, if_neg h8, if_neg h9, if_neg (by omega), if_neg (by omega), if_neg h100]
theorem exec_eff {O O' : List AObj} (hup : ∀ o ∈ O, o.upto O.length) (i : Ins) (args : List SV) (hl : ∀ v ∈ args, SV.Under O.length v) (h0 : i.op ≠ 0) (h1 : ¬ (1 ≤ i.op ∧ i.op ≤ 7)) (h8 : i.op ≠ 8) (h9 : i.op ≠ 9) (h10 : i.op ≠ 10 ∧ i.op ≠ 11 ∧ i.op ≠ 12 ∧ i.op ≠ 21) (h22 : i.op ≠ 22 ∧ i.op ≠ 23 ∧ i.op ≠ 24) (h100 : i.op ≠ 100) (hm0 : 2 < O.length) (v : SV) (t : Int) (hv : SV.Under O.length v)
  (hC : ECall Try.prog 132 O [.mp 2 0, i.enc, .lst 4 (args.map SV.enc) .sh] (fun r O1 => r = .tup [v.enc, aI t] ∧ O1 = O')) (hlen : O.length = O'.length) (hup' : ∀ o ∈ O', o.upto O'.length) :
  ECall Try.prog 106 O [.mp 2 0, i.enc, .lst 4 (args.map SV.enc) .sh] (fun r O1 => r = .tup [v.enc, aI t] ∧ O1 = O') := by
 have hcall := ECall.frame hC hlen.symm ⟨hm0, i.enc_upto _, ⟨SV.map_upto hl, trivial⟩, trivial⟩ hup
 rw [hlen] at hv
 refine zf true O.length Try.func106 Try.ntmps106 ?_
 dsimp only [Tmp, TypeId, slotsOf]
 refine zh1 (za0 ?_)
 refine awp_frzk 4 0 ([aI i.to, aI i.op, aI i.n, eIs i.args]) rfl rfl (by rfl) ?_
 simp -dsimp only [simprocAttr, ↓vpre, zp]
 refine zh2 (za0 ?_)
 refine awp_block ?_
 refine zh1 (za0 ?_)
 apply zk0 rfl <;> intro h
 ·exact ab h (by omega)
 refine zh2 (za0 ?_)
 apply zk0 rfl <;> intro h
 ·exact ab h (by omega)
 refine zh1 (za0 ?_)
 apply zk0 rfl <;> intro h
 ·exact ab h (by omega)
 refine zh1 (za0 ?_)
 apply zk0 rfl <;> intro h
 ·exact ab h (by omega)
 refine zh1 (za0 ?_)
 apply zk0 rfl <;> intro h
 ·exact ab h (by omega)
 refine zh1 (za0 ?_)
 apply zk0 rfl <;> intro h
 ·exact ab h (by omega)
 refine zh1 (za0 ?_)
 apply zk0 rfl <;> intro h
 ·exact ab h (by omega)
 refine zh0 (za0 ?_)
 apply zk0 rfl <;> intro h
 ·exact ab h (by omega)
 refine zh1 (za0 ?_)
 apply zk0 rfl <;> intro h
 ·exact ab h (by omega)
 refine zh1 (za0 ?_)
 apply zk0 rfl <;> intro h
 ·exact ab h (by omega)
 refine zh2 (za0 ?_)
 apply zk0 rfl <;> intro h
 ·exact ab h (by omega)
 refine zh1 (za0 ?_)
 apply zk0 rfl <;> intro h
 ·exact ab h (by omega)
 refine zh1 (za0 ?_)
 apply zk0 rfl <;> intro h
 ·exact ab h (by omega)
 refine zh0 (za0 ?_)
 apply zk0 rfl <;> intro h
 ·exact ab h (by omega)
 refine zh2 (za0 ?_)
 apply zk0 rfl <;> intro h
 ·exact ab h (by omega)
 refine zh1 (za0 ?_)
 apply zk0 rfl <;> intro h
 ·exact ab h (by omega)
 refine zh0 (za0 ?_)
 apply zk0 rfl <;> intro h
 ·exact ab h (by omega)
 refine zh1 (za0 ?_)
 apply zk0 rfl <;> intro h
 ·exact ab h (by omega)
 refine zb1 ?_
 refine zh1 ?_
 refine .inr (.inl ⟨_, _, hcall _, .inl (later_intro ?_)⟩)
 simp -dsimp only [simprocAttr, ↓vpre, zp, hlen]
 refine za0 ?_
 refine awp_ret ?_
 simp -dsimp only [simprocAttr, ↓vpre, zp, zr, Try.results106, hlen]
 exact ⟨hup', resW hv⟩
theorem exec_go {u : Unt} {m : Mach} {O : List AObj} (hup : ∀ o ∈ O, o.upto O.length) (h0' : O[2]? = some (.cells (mcells u m))) (i : Ins) (size fill : SV) (hs : SV.Under O.length size) (hf : SV.Under O.length fill)
  (hop : i.op = 16) (h1' : 0 ≤ m.left) (h2 : m.left ≤ 2 ^ 40) (hov : m.short = false) (hk : size.kind = 0) (hn1 : 0 ≤ size.n) (hn2 : size.n ≤ 1024) (hp : size.n ≤ m.left) :
  ECall Try.prog 106 O [.mp 2 0, i.enc, .lst 4 [size.enc, fill.enc] .sh] (fun r O' => r = .tup [.agg [aI 3, aI 0, .lst 4 [] .sh, .mp (O.length + 8) 0], aI 0] ∧ O' = O.set 2 (.cells (mcells u (m.pay size.n))) ++
   [.gone, .cells [aI 3, aI 0, .lst 4 [] .sh, .mp (O.length + 8) 0], .gone, .cells [aI 3, aI 0, .lst 4 [] .sh, .mp (O.length + 8) 0], .gone, .gone, .cells [aI 3, aI 0, .lst 4 [] .ex, .mp (O.length + 8) 0], .cells (cellsAll ((List.replicate size.n.toNat fill).map SV.enc)), .cells [.ms (O.length + 7) 0 size.n.toNat size.n.toNat]]) := by
 have hupX : ∀ o ∈ O ++ [.gone, .cells [aI 0, aI 0, .lst 4 [] .ex, .v (.pointer none)]], o.upto (O ++ [AObj.gone, .cells [aI 0, aI 0, .lst 4 [] .ex, .v (.pointer none)]]).length := fun o ho => by
  rcases List.mem_append.1 ho with ho | ho
  ·exact AObj.upto_mono (by simp) (hup o ho)
  simp only [List.mem_cons, List.mem_nil_iff, or_false] at ho
  rcases ho with rfl | rfl
  ·trivial
  simp [AObj.upto, uptoL, AVal.upto]
 have hlX : (O ++ [AObj.gone, .cells [aI 0, aI 0, .lst 4 [] .ex, .v (.pointer none)]]).length = O.length + 2 := by simp
 have hcall := effect_go hupX (at_left h0') i size fill (hs.mono (by simp)) (hf.mono (by simp)) hop h1' h2 hov hk hn1 hn2 hp
 have hup1 := uptoO_cells hup h0' (ds := mcells u (m.pay size.n)) (fun h => mcells_upto h (pay_sid m size.n))
 rw [set_left h0', hlX] at hcall
 obtain ⟨O1, hO1⟩ : ∃ O1, O1 = O.set 2 (.cells (mcells u (m.pay size.n))) := ⟨_, rfl⟩
 have hlen : O.length = O1.length := by rw [hO1]; simp
 simp only [← hO1] at hcall hup1 ⊢
 rw [hlen] at hup1
 have hmem : ∀ v ∈ List.replicate size.n.toNat fill, SV.Under (O1.length + 9) v := fun v hv => by
  rw [(List.mem_replicate.1 hv).2]
  exact hf.mono (by omega)
 have hc := SV.cells_upto hmem
 have h0 : i.op ≠ 0 := by omega
 generalize hrow : cellsAll ((List.replicate size.n.toNat fill).map SV.enc) = row at *
 refine zf true (O.length+9) Try.func106 Try.ntmps106 ?_
 dsimp only [Tmp, TypeId, slotsOf]
 refine zh1 (za0 ?_)
 refine awp_frzk 4 0 ([aI i.to, aI i.op, aI i.n, eIs i.args]) rfl rfl (by rfl) ?_
 simp -dsimp only [simprocAttr, ↓vpre, zp]
 refine zh2 (za0 ?_)
 refine awp_block ?_
 refine zh1 (za0 ?_)
 apply zk0 rfl <;> intro h
 ·exact ab h (by omega)
 refine zh2 (za0 ?_)
 apply zk0 rfl <;> intro h
 ·exact ab h (by omega)
 refine zh1 (za0 ?_)
 apply zk0 rfl <;> intro h
 ·exact ab h (by omega)
 refine zh1 (za0 ?_)
 apply zk0 rfl <;> intro h
 ·exact ab h (by omega)
 refine zh1 (za0 ?_)
 apply zk0 rfl <;> intro h
 ·exact ab h (by omega)
 refine zh1 (za0 ?_)
 apply zk0 rfl <;> intro h
 ·exact ab h (by omega)
 refine zh1 (za0 ?_)
 apply zk0 rfl <;> intro h
 ·exact ab h (by omega)
 refine zh0 (za0 ?_)
 apply zk0 rfl <;> intro h
 ·exact ab h (by omega)
 refine zh1 (za0 ?_)
 apply zk0 rfl <;> intro h
 ·exact ab h (by omega)
 refine zh1 (za0 ?_)
 apply zk0 rfl <;> intro h
 ·exact ab h (by omega)
 refine zh2 (za0 ?_)
 apply zk0 rfl <;> intro h
 ·exact ab h (by omega)
 refine zh1 (za0 ?_)
 apply zk0 rfl <;> intro h
 ·exact ab h (by omega)
 refine zh1 (za0 ?_)
 apply zk0 rfl <;> intro h
 ·exact ab h (by omega)
 refine zh0 (za0 ?_)
 apply zk0 rfl <;> intro h
 ·exact ab h (by omega)
 refine zh2 (za0 ?_)
 apply zk0 rfl <;> intro h
 ·exact ab h (by omega)
 refine zh1 (za0 ?_)
 apply zk0 rfl <;> intro h
 ·exact ab h (by omega)
 refine zh0 (za0 ?_)
 apply zk0 rfl <;> intro h
 ·exact ab h (by omega)
 refine zh1 (za0 ?_)
 apply zk0 rfl <;> intro h
 ·exact ab h (by omega)
 refine zb1 ?_
 refine zh1 ?_
 refine .inr (.inl ⟨_, _, hcall, .inl (later_intro ?_)⟩)
 simp -dsimp only [simprocAttr, ↓vpre, zp, hlen]
 refine za0 ?_
 refine awp_ret ?_
 simp -dsimp only [simprocAttr, ↓vpre, zp, zr, Try.results106, hlen]
 rw [take_newk]
 refine ⟨fun o ho => ?_, by simp [uptoL, AVal.upto], rfl⟩
 rcases List.mem_append.1 ho with ho | ho
 ·exact AObj.upto_mono (by omega) (hup1 o ho)
 simp only [List.take_succ_cons, List.take_zero, List.mem_cons, List.mem_nil_iff, or_false] at ho
 rcases ho with rfl | rfl | rfl | rfl | rfl | rfl | rfl | rfl | rfl
 ·trivial
 ·simp [AObj.upto, uptoL, AVal.upto]
 ·trivial
 ·simp [AObj.upto, uptoL, AVal.upto]
 ·trivial
 ·trivial
 ·simp [AObj.upto, uptoL, AVal.upto]
 ·exact hc
 simp [AObj.upto, uptoL, AVal.upto]
theorem bindS_snoc : ∀ {es : List (Int × SV)} {ps : List Int} {l : List SV} {j : Nat} {p : Int} {a : SV}, ps[j]? = some p → l[j]? = some a → bindS es (ps.take (j + 1)) (l.take (j + 1)) = putS' (bindS es (ps.take j) (l.take j)) p a
 | es, q :: ps, b :: l, 0, p, a, h1, h2 => by
  simp only [List.getElem?_cons_zero, Option.some.injEq] at h1 h2
  subst h1
  subst h2
  simp [bindS]
 | es, q :: ps, b :: l, j + 1, p, a, h1, h2 => by
  have ih := bindS_snoc (es := putS' es q b) (ps := ps) (l := l) (j := j) (by simpa using h1) (by simpa using h2)
  simp only [List.take_succ_cons, bindS]
  exact ih
 | _, [], _, _, _, _, h1, _ => by simp at h1
 | _, _ :: _, [], _, _, _, _, h2 => by simp at h2
theorem bindS_zero (es : List (Int × SV)) (ps : List Int) (l : List SV) : bindS es (ps.take 0) (l.take 0) = es := by simp [bindS]
theorem mem_bindS : ∀ {es : List (Int × SV)} {ps : List Int} {l : List SV} {e : Int × SV}, e ∈ bindS es ps l → e ∈ es ∨ e.2 ∈ l
 | es, [], _, e, h => .inl (by simpa [bindS] using h)
 | es, _ :: _, [], e, h => .inl (by simpa [bindS] using h)
 | es, p :: ps, a :: l, e, h => by
  simp only [bindS] at h
  rcases mem_bindS h with h | h
  ·rcases mem_putS' h with h | h
   ·exact .inl h
   exact .inr (by simp [h])
  exact .inr (by simp [h])
theorem fnOf_at {u : Unt} {k : Int} (h0 : 0 ≤ k) (h1 : k < u.fns.length) : u.fns[k.toNat]? = some (fnOf u k) := by
 have hlt : k.toNat < u.fns.length := by omega
 simp [fnOf, hlt]
theorem blkOf_at {f : Func} {k : Int} (h0 : 0 ≤ k) (h1 : k < f.blocks.length) : f.blocks[k.toNat]? = some (blkOf f k) := by
 have hlt : k.toNat < f.blocks.length := by omega
 simp [blkOf, hlt]
theorem entE {es : List (Int × SV)} {n : Nat} (h : ∀ e ∈ es, SV.Under n e.2) : uptoE n (es.map ent) := by
 induction es with
 | nil => trivial
 | cons e r ih => exact ⟨(h e (by simp)).enc_upto, ih fun x hx => h x (by simp [hx])⟩
theorem follow_spec {u : Unt} {m : Mach} {O : List AObj} (hup : ∀ o ∈ O, o.upto O.length) (h0 : O[2]? = some (.cells (mcells u m))) (f : Fr) (hf : O[f.fid]? = some (.cells (fcells f))) (hv : O[f.mid]? = some (.map (.int .i64) (f.vals.map ent)))
  (hu : ∀ e ∈ f.vals, SV.Under O.length e.2) (n0f : 2 ≠ f.fid) (n0m : 2 ≠ f.mid) (nfm : f.fid ≠ f.mid) (hfn : 0 ≤ f.fn ∧ f.fn < u.fns.length) (e : Edge) (he : EdgeOK (fnOf u f.fn) e) (f' : Fr)
  (hf' : f' = { f with blk := e.block, pos := 0, vals := bindS f.vals (blkOf (fnOf u f.fn) e.block).params (takeS f.vals e.args) }) :
  ECall Try.prog 124 O [.mp 2 0, .mp f.fid 0, e.enc] (fun r O' => r = .tup [] ∧ O' = (O.set f.fid (.cells (fcells f'))).set f.mid (.map (.int .i64) (f'.vals.map ent))) := by
 have htake := take_spec hup hf hv hu e.args he.len
 have hF := fnOf_at hfn.1 hfn.2
 have hB := blkOf_at he.lo he.hi
 have hal := he.args
 have hlo := he.lo
 have halen := he.len
 have hfl := lt_of_getElem? hf
 have hml := lt_of_getElem? hv
 have hml0 := lt_of_getElem? h0
 have htu := takeS_under hu e.args
 have htl : (takeS f.vals e.args).length = e.args.length := by simp [takeS]
 generalize hTk : takeS f.vals e.args = T at *
 generalize blkOf (fnOf u f.fn) e.block = B at *
 generalize fnOf u f.fn = F at *
 have hTm := SV.map_upto htu
 have hc : [aI f.fn, aI e.block, aI 0, aI f.to, .mm f.mid] = fcells f' := by
  rw [hf']
  rfl
 obtain ⟨O1, hO1⟩ : ∃ O1, O1 = O.set f.fid (.cells (fcells f')) := ⟨_, rfl⟩
 have hlen : O.length = O1.length := by rw [hO1]; simp
 have hs := set_self hf
 have hm1 : O1[2]? = some (.cells (mcells u m)) := by rw [hO1]; exact at_set_ne h0 n0f.symm
 have hf1 : O1[f.fid]? = some (.cells (fcells f')) := by rw [hO1]; exact hs _
 have hv1 : O1[f.mid]? = some (.map (.int .i64) (f.vals.map ent)) := by rw [hO1]; exact at_set_ne hv nfm
 have hup1 : ∀ o ∈ O1, o.upto O1.length := by
  rw [← hlen, hO1]
  refine uptoO_cells hup hf fun h => ?_
  simp only [fcells, uptoL, AVal.upto, true_and, and_true] at h ⊢
  rw [hf']
  exact h
 rw [← hO1]
 have hm2 : ∀ x, (O1.set f.mid x)[2]? = some (.cells (mcells u m)) := fun x => at_set_ne hm1 n0m.symm
 have hf2 : ∀ x, (O1.set f.mid x)[f.fid]? = some (.cells (fcells f')) := fun x => at_set_ne hf1 nfm.symm
 have hv2 : ∀ x, (O1.set f.mid x)[f.mid]? = some x := set_self hv1
 unfold mcells at hm1 hm2
 have hff := hf
 unfold fcells at hff
 have hgf : fcells f' = [aI f.fn, aI e.block, aI 0, aI f.to, .mm f.mid] := hc.symm
 have hf1' := hf1
 have hf2' := hf2
 rw [hgf] at hf1' hf2'
 have hs1 : O1.set f.mid (.map (.int .i64) (f.vals.map ent)) = O1 := set_same hv1
 have htk : ∀ x, (O1.set f.mid x).take O1.length = O1.set f.mid x := fun x => take_set_len
 refine zf true O.length Try.func124 Try.ntmps124 ?_
 dsimp only [Tmp, TypeId, slotsOf]
 refine zh1 (za0 ?_)
 refine awp_local 5 ([aI e.block, eIs e.args]) [(0, .mp 2 0), (1, .mp f.fid 0), (5, .ip none [aI e.block, eIs e.args])] rfl (by rfl) (by omega) (by simp [putS, dropS, Go.Av.look]) ?_ ?_ ?_
 ·exact hup
 ·simp [uptoL, AVal.upto, aI_upto, hfl, hml0]
 refine zh1 ?_
 refine .inr (.inr ⟨_, htake, later_intro (zj ?_)⟩)
 refine za0 ?_
 refine zg1 ?_
 simp -dsimp only [simprocAttr, ↓vpre, zp, hff, hs, List.set_set, hc, ← hO1]
 refine za0 ?_
 refine zg1 ?_
 simp -dsimp only [simprocAttr, ↓vpre, zp, hm1, hf1', hF, hB]
 repeat (refine ⟨by omega, ?_⟩)
 refine ⟨ob (by kernel_rfl), ?_⟩
 refine za0 ?_
 refine awp_block (awp_loop (ι := {j : Nat // j ≤ B.params.length}) (fun j => ⟨54, [(0, .mp 2 0), (1, .mp f.fid 0), (5, .ip none [aI e.block, eIs e.args]), (6, .lst 4 (T.map SV.enc) .sh), (37, eIs B.params), (38, aI B.params.length), (39, aI j.1)], O1.set f.mid (.map (.int .i64) ((bindS f.vals (B.params.take j.1) (T.take j.1)).map ent))⟩) (fun j => B.params.length - j.1) ⟨0, by omega⟩ ?_ ?_)
 ·refine zq rfl ?_ ?_
  simp -dsimp only [simprocAttr, ↓vpre, zp, zc]
  rw [bindS_zero, hs1]
 rintro ⟨j, hj⟩
 refine zh1 (za0 ?_)
 apply zk1 rfl <;> intro h
 ·refine zb0 ?_
  have hlt : j < B.params.length := by simpa using h
  obtain ⟨p, hp⟩ : ∃ p, B.params[j]? = some p := ⟨B.params[j], by simp [hlt]⟩
  obtain ⟨a, ha⟩ : ∃ a, T[j]? = some a := ⟨T[j]'(by omega), List.getElem?_eq_getElem _⟩
  refine awp_seq (awp_block ?_)
  refine zg1 ?_
  simp -dsimp only [simprocAttr, ↓vpre, zp, hp]
  refine za0 ?_
  refine zg0 ?_
  simp -dsimp only [simprocAttr, ↓vpre, zp, hf2', ha, hv2, put_ent, ← bindS_snoc hp ha, List.set_set]
  repeat (refine ⟨by omega, ?_⟩)
  refine ⟨ob (by kernel_rfl), ?_⟩
  refine za0 ?_
  refine zh0 ?_
  repeat (refine ⟨by omega, ?_⟩)
  refine zl0 ?_
  refine ⟨⟨j + 1, hlt⟩, by simp; omega, ?_⟩
  refine zq rfl ?_ ?_
  simp -dsimp only [simprocAttr, ↓vpre, zp, zc]
  ·exact Sub.int (by simp)
  rfl
 refine awp_exit ?_
 simp -dsimp only [vend, ne_eq, Nat.reduceEqDiff, reduceCtorEq]
 have hjj : j = B.params.length := by simp at h; omega
 subst hjj
 have hTT : T.take B.params.length = T := List.take_of_length_le (by omega)
 skip
 simp -dsimp only [simprocAttr, ↓vpre, zp, zr, Try.results124, hlen, hTT, List.take_length, htk, List.length_set]
 refine ⟨uptoO_set hup1 (entE fun x hx => ?_), trivial, by rw [hf']⟩
 rw [← hlen]
 rcases mem_bindS hx with q | q
 ·exact hu x q
 exact htu _ q
def casesE (l : List Int) : Nat → Int
 | 0 => 0
 | k + 1 =>
  match l[l.length - (k + 1)]? with
  | none => 0
  | some c => if !decide (isW c) then 4 else if hasI (l.take (l.length - (k + 1))) c then 7 else casesE l k
def edgesE (f : Func) : List Edge → Int
 | [] => 0
 | e :: r => if !within e.block 1 ((f.blocks.length : Int) - 1) then 4 else if e.args.length ≠ (blkOf f e.block).params.length then 3 else edgesE f r
def endE (f : Func) (t : Term) : Int :=
 if !shapeM t then 3
 else if 256 < t.cases.length then 2
 else if t.kind = 4 ∧ within t.n 1 6 = false then 4
 else if casesE t.cases t.cases.length ≠ 0 then casesE t.cases t.cases.length
 else edgesE f t.to
theorem casesE_step {l : List Int} {j : Nat} {c : Int} (h : l[j]? = some c) : casesE l (l.length - j) = if !decide (isW c) then 4 else if hasI (l.take j) c then 7 else casesE l (l.length - (j + 1)) := by
 have hlt := lt_of_getElem? h
 obtain ⟨k, hk⟩ : ∃ k, l.length - j = k + 1 := ⟨l.length - j - 1, by omega⟩
 have hj : l.length - (k + 1) = j := by omega
 rw [hk]
 simp only [casesE, hj, h]
 rw [show l.length - (j + 1) = k by omega]
theorem edgesE_step {f : Func} {l : List Edge} {j : Nat} {e : Edge} (h : l[j]? = some e) : edgesE f (l.drop j) = if !within e.block 1 ((f.blocks.length : Int) - 1) then 4 else if e.args.length ≠ (blkOf f e.block).params.length then 3 else edgesE f (l.drop (j + 1)) := by
 have hlt := lt_of_getElem? h
 rw [List.getElem?_eq_getElem hlt] at h
 simp only [Option.some.injEq] at h
 rw [List.drop_eq_getElem_cons hlt, h]
 rfl
theorem within_iff {n lo hi : Int} : within n lo hi = true ↔ lo ≤ n ∧ n ≤ hi := by
 simp [within]
theorem end_spec (f : Func) (t : Term) (hcl : t.cases.length ≤ 2 ^ 60) (hbl : f.blocks.length ≤ 2 ^ 60) : PCall Try.prog 90 [f.enc, t.enc] (aI (endE f t)) := by
 have hsh := shape_spec t hcl
 have hw := within_spec t.n 1 6
 obtain ⟨R, hR⟩ : ∃ R, R = endE f t := ⟨_, rfl⟩
 rw [← hR]
 unfold endE at hR
 generalize shapeM t = sh at *
 have hedge : ∀ e : Edge, PCall Try.prog 53 [aI e.block, aI 1, aI ((f.blocks.length : Int) - 1)] (.v (.bool (within e.block 1 ((f.blocks.length : Int) - 1)))) := fun e => within_spec _ _ _
 have hkw : (t.kind = 4 ∧ within t.n 1 6 = false) ∨ (¬ (t.kind = 4 ∧ within t.n 1 6 = false) ∧ ((decide (t.kind = 4) = false) ∨ (decide (t.kind = 4) = true ∧ within t.n 1 6 = true))) := by
  by_cases h4 : t.kind = 4
  ·cases hww : within t.n 1 6
   ·exact .inl ⟨h4, rfl⟩
   exact .inr ⟨by simp, .inr ⟨decide_eq_true h4, rfl⟩⟩
  exact .inr ⟨fun q => h4 q.1, .inl (decide_eq_false h4)⟩
 refine zf true 0 Try.func90 Try.ntmps90 ?_
 dsimp only [Tmp, TypeId, slotsOf]
 refine zh1 (za0 ?_)
 refine awp_freeze1 2 0 (.ip none [aI f.name, eBlocks f.blocks]) rfl (by simp [AObj.isSpare]) trivial rfl ?_ ?_
 rotate_left
 simp -dsimp only [simprocAttr, ↓vpre, zp]
 ·refine awp_freeze1 3 1 (.ip none [aI t.kind, aI t.arg, aI t.n, eIs t.cases, eEdges t.to]) rfl (by simp [AObj.isSpare]) trivial rfl ?_ ?_
  rotate_left
  simp -dsimp only [simprocAttr, ↓vpre, zp]
  ·by_cases hearly : sh = false ∨ 256 < t.cases.length ∨ (t.kind = 4 ∧ within t.n 1 6 = false)
   ·refine awp_seq (awp_block ?_)
    refine zh1 ?_
    refine zi hsh ?_
    refine za0 ?_
    cases sh with
    | false =>
     refine zw0 rfl ?_
     refine zh1 (za0 ?_)
     refine awp_ret ?_
     simp -dsimp only [simprocAttr, ↓vpre, zp, zr, Try.results90]
     simp [hR]
    | true =>
     refine zu0 rfl ?_
     by_cases hc : 256 < t.cases.length
     ·have hd : decide ((256 : Int) < t.cases.length) = true := decide_eq_true (by omega)
      refine zg1 ?_
      simp -dsimp only [simprocAttr, ↓vpre, zp, hd]
      refine za0 ?_
      refine zw0 rfl ?_
      refine zh1 (za0 ?_)
      refine awp_ret ?_
      simp -dsimp only [simprocAttr, ↓vpre, zp, zr, Try.results90]
      simp [hR, hc]
     have hd : decide ((256 : Int) < t.cases.length) = false := decide_eq_false (by omega)
     have hk : t.kind = 4 ∧ within t.n 1 6 = false := by
      rcases hearly with q | q | q
      ·cases q
      ·exact absurd q hc
      exact q
     have hd4 : decide (t.kind = 4) = true := decide_eq_true hk.1
     rw [hk.2] at hw
     refine zg1 ?_
     simp -dsimp only [simprocAttr, ↓vpre, zp, hd]
     refine za0 ?_
     refine zu0 rfl ?_
     refine zg1 ?_
     simp -dsimp only [simprocAttr, ↓vpre, zp, hd4]
     refine zi hw ?_
     refine za0 ?_
     refine zw0 rfl ?_
     refine zh1 (za0 ?_)
     refine awp_ret ?_
     simp -dsimp only [simprocAttr, ↓vpre, zp, zr, Try.results90]
     simp [hR, hc, hk]
   have hsht : sh = true := by
    cases sh
    ·exact absurd (.inl rfl) hearly
    rfl
   subst hsht
   have hc : ¬ 256 < t.cases.length := fun q => hearly (.inr (.inl q))
   have hk : ¬ (t.kind = 4 ∧ within t.n 1 6 = false) := fun q => hearly (.inr (.inr q))
   have hd : decide ((256 : Int) < t.cases.length) = false := decide_eq_false (by omega)
   rw [if_neg (by simp), if_neg hc, if_neg hk] at hR
   have hkw' := hkw.resolve_left hk
   refine awp_mid (⟨78, [(2, .ip none [aI f.name, eBlocks f.blocks]), (3, .ip none [aI t.kind, aI t.arg, aI t.n, eIs t.cases, eEdges t.to]), (4, aI 0)], [.gone, .gone]⟩) ?_ ?_
   ·refine awp_block ?_
    refine zh1 ?_
    refine zi hsh ?_
    refine za0 ?_
    refine zu0 rfl ?_
    refine zg1 ?_
    simp -dsimp only [simprocAttr, ↓vpre, zp, hd]
    refine za0 ?_
    refine zu0 rfl ?_
    rcases hkw'.2 with hd4 | ⟨hd4, hw1⟩
    ·refine zg1 ?_
     simp -dsimp only [simprocAttr, ↓vpre, zp, hd4]
     refine za0 ?_
     refine zu0 rfl ?_
     refine awp_skip ?_
     show Covers _ _
     refine zq rfl ?_ ?_
     simp -dsimp only [simprocAttr, ↓vpre, zp, zc]
     rfl
    rw [hw1] at hw
    refine zg1 ?_
    simp -dsimp only [simprocAttr, ↓vpre, zp, hd4]
    refine zi hw ?_
    refine za0 ?_
    refine zu0 rfl ?_
    refine awp_skip ?_
    show Covers _ _
    refine zq rfl ?_ ?_
    simp -dsimp only [simprocAttr, ↓vpre, zp, zc]
    rfl
   refine zh2 (za0 ?_)
   refine awp_block (awp_loop (ι := {j : Nat // j ≤ t.cases.length ∧ casesE t.cases t.cases.length = casesE t.cases (t.cases.length - j)}) (fun j => ⟨78, [(2, .ip none [aI f.name, eBlocks f.blocks]), (3, .ip none [aI t.kind, aI t.arg, aI t.n, eIs t.cases, eEdges t.to]), (4, aI 0), (29, eIs t.cases), (30, aI t.cases.length), (31, aI j.1)], [.gone, .gone]⟩) (fun j => t.cases.length - j.1) ⟨0, by omega, rfl⟩ ?_ ?_)
   ·refine zq rfl ?_ ?_
    simp -dsimp only [simprocAttr, ↓vpre, zp, zc]
    rfl
   rintro ⟨j, hj, hje⟩
   refine zh1 (za0 ?_)
   apply zk1 rfl <;> intro h
   ·refine zb0 ?_
    have hlt : j < t.cases.length := by simpa using h
    obtain ⟨c, hcc⟩ : ∃ c, t.cases[j]? = some c := ⟨t.cases[j], by simp [hlt]⟩
    have hstep := casesE_step hcc
    rw [← hje] at hstep
    have hisw := isWord_spec c
    have hcon := contains_spec (t.cases.take j) c
    refine awp_seq (awp_block ?_)
    refine zg1 ?_
    simp -dsimp only [simprocAttr, ↓vpre, zp, hcc]
    refine za0 ?_
    refine awp_block ?_
    refine zh1 ?_
    refine zi hisw ?_
    refine za0 ?_
    cases hw : decide (isW c) with
    | false =>
     rw [hw] at hstep
     refine zw0 rfl ?_
     refine zh1 (za0 ?_)
     refine awp_ret ?_
     simp -dsimp only [simprocAttr, ↓vpre, zp, zr, Try.results90]
     simp [hR, hstep]
    | true =>
     rw [hw] at hstep
     refine zu0 rfl ?_
     refine zg1 ?_
     simp -dsimp only [simprocAttr, ↓vpre, zp, Int.toNat_natCast, List.drop_zero, ← List.map_take]
     repeat (refine ⟨by omega, ?_⟩)
     refine zi hcon ?_
     refine za0 ?_
     cases hh : hasI (t.cases.take j) c with
     | true =>
      rw [hh] at hstep
      refine zw0 rfl ?_
      refine zh1 (za0 ?_)
      refine awp_ret ?_
      simp -dsimp only [simprocAttr, ↓vpre, zp, zr, Try.results90]
      simp [hR, hstep]
     | false =>
      rw [hh] at hstep
      refine zu0 rfl ?_
      refine zb2 ?_
      refine zh0 ?_
      repeat (refine ⟨by omega, ?_⟩)
      refine zl0 ?_
      refine ⟨⟨j + 1, hlt, by rw [hstep]; simp⟩, by simp; omega, ?_⟩
      refine zq rfl ?_ ?_
      simp -dsimp only [simprocAttr, ↓vpre, zp, zc]
      ·exact Sub.int (by simp)
      rfl
   refine awp_exit ?_
   simp -dsimp only [vend, ne_eq, Nat.reduceEqDiff, reduceCtorEq]
   have hjj : j = t.cases.length := by simp at h; omega
   subst hjj
   have hz : casesE t.cases t.cases.length = 0 := by rw [hje, Nat.sub_self]; rfl
   rw [hz, if_neg (by simp)] at hR
   refine zh2 (za0 ?_)
   refine awp_len 49 rfl (fun htl => ?_)
   simp only [List.length_map] at htl
   refine awp_block (awp_loop (ι := {j : Nat // j ≤ t.to.length ∧ R = edgesE f (t.to.drop j)}) (fun j => ⟨78, [(2, .ip none [aI f.name, eBlocks f.blocks]), (4, aI 0), (49, eEdges t.to), (50, aI t.to.length), (51, aI j.1)], [.gone, .gone]⟩) (fun j => t.to.length - j.1) ⟨0, by omega, hR⟩ ?_ ?_)
   ·refine zq rfl ?_ ?_
    simp -dsimp only [simprocAttr, ↓vpre, zp, zc]
    rfl
   rintro ⟨j, hj, hje⟩
   refine zh1 (za0 ?_)
   apply zk1 rfl <;> intro h
   ·refine zb0 ?_
    have hlt : j < t.to.length := by simpa using h
    obtain ⟨e, hee⟩ : ∃ e, t.to[j]? = some e := ⟨t.to[j], by simp [hlt]⟩
    have hstep := edgesE_step (f := f) hee
    rw [← hje] at hstep
    have hwe := hedge e
    refine awp_seq (awp_block ?_)
    refine zg1 ?_
    simp -dsimp only [simprocAttr, ↓vpre, zp, hee]
    refine za0 ?_
    refine awp_freeze1 8 2 (.ip none [aI e.block, eIs e.args]) rfl (by simp [AObj.isSpare]) trivial rfl ?_ ?_
    rotate_left
    simp -dsimp only [simprocAttr, ↓vpre, zp]
    ·refine awp_trunc' 2 [(2, .ip none [aI f.name, eBlocks f.blocks]), (4, aI 0), (8, .ip none [aI e.block, eIs e.args]), (49, eEdges t.to), (50, aI t.to.length), (51, aI j)] (by simp) (by omega) [.gone, .gone] ?_ ?_ ?_ ?_ ?_
     ·rfl
     ·simp [AObj.upto]
     ·simp [Says, St.get, putS, dropS, Go.Av.look, Sub.refl]
     ·simp [uptoL, AVal.upto, aI_upto, Block.map_upto, Edge.map_upto]
     cases hw : within e.block 1 ((f.blocks.length : Int) - 1) with
     | false =>
      rw [hw] at hstep hwe
      refine awp_block ?_
      refine zh1 ?_
      repeat (refine ⟨by omega, ?_⟩)
      refine zi hwe ?_
      refine za0 ?_
      refine zw0 rfl ?_
      refine zh1 (za0 ?_)
      refine awp_ret ?_
      simp -dsimp only [simprocAttr, ↓vpre, zp, zr, Try.results90]
      simp [hstep]
     | true =>
      rw [hw] at hstep hwe
      have hwi := within_iff.1 hw
      have hB := blkOf_at (f := f) (k := e.block) (by omega) (by omega)
      generalize blkOf f e.block = B at *
      by_cases hl : e.args.length = B.params.length
      ·have hdl : decide ((e.args.length : Int) = B.params.length) = true := decide_eq_true (by omega)
       refine awp_block ?_
       refine zh1 ?_
       repeat (refine ⟨by omega, ?_⟩)
       refine zi hwe ?_
       refine za0 ?_
       refine zu0 rfl ?_
       refine zg1 ?_
       simp -dsimp only [simprocAttr, ↓vpre, zp, hB, hdl]
       repeat (refine ⟨by omega, ?_⟩)
       refine ⟨ob (by kernel_rfl), ?_⟩
       refine za0 ?_
       refine zu0 rfl ?_
       refine zb2 ?_
       refine zh0 ?_
       repeat (refine ⟨by omega, ?_⟩)
       refine zl0 ?_
       refine ⟨⟨j + 1, hlt, by rw [hstep]; simp [hl]⟩, by simp; omega, ?_⟩
       refine zq rfl ?_ ?_
       simp -dsimp only [simprocAttr, ↓vpre, zp, zc]
       ·exact Sub.int (by simp)
       rfl
      have hdl : decide ((e.args.length : Int) = B.params.length) = false := decide_eq_false (by omega)
      refine awp_block ?_
      refine zh1 ?_
      repeat (refine ⟨by omega, ?_⟩)
      refine zi hwe ?_
      refine za0 ?_
      refine zu0 rfl ?_
      refine zg1 ?_
      simp -dsimp only [simprocAttr, ↓vpre, zp, hB, hdl]
      repeat (refine ⟨by omega, ?_⟩)
      refine ⟨ob (by kernel_rfl), ?_⟩
      refine za0 ?_
      refine zw0 rfl ?_
      refine zh1 (za0 ?_)
      refine awp_ret ?_
      simp -dsimp only [simprocAttr, ↓vpre, zp, zr, Try.results90]
      simp [hstep, hl]
    exact FSub.mp rfl rfl
   refine awp_exit ?_
   simp -dsimp only [vend, ne_eq, Nat.reduceEqDiff, reduceCtorEq]
   have hjj : j = t.to.length := by simp at h; omega
   subst hjj
   rw [List.drop_length] at hje
   refine zh1 (za0 ?_)
   refine awp_ret ?_
   simp -dsimp only [simprocAttr, ↓vpre, zp, zr, Try.results90]
   simp [hje, edgesE]
  exact FSub.mp rfl rfl
 exact FSub.mp rfl rfl
abbrev Defs := List (Int × Int × Int)
def eD (p : Int × Int) : AVal := .agg [aI p.1, aI p.2]
def dent (e : Int × Int × Int) : Value × AVal := (.int .i64 e.1, eD e.2)
def lookD : Defs → Int → Option (Int × Int)
 | [], _ => none
 | (k, p) :: r, key => if k = key then some p else lookD r key
theorem lookD_ent (es : Defs) (k : Int) : lookV (es.map dent) (.int .i64 k) = (lookD es k).map eD := by
 induction es with
 | nil => rfl
 | cons p r ih =>
  obtain ⟨a, v⟩ := p
  simp only [List.map_cons, dent, lookV, lookD, eqKey_i64, decide_eq_true_eq]
  split
  ·rfl
  exact ih
theorem putD_ent {es : Defs} {k : Int} (p : Int × Int) (h : lookD es k = none) : putV (es.map dent) (.int .i64 k) (.agg [aI p.1, aI p.2]) = (es ++ [(k, p)]).map dent := by
 induction es with
 | nil => rfl
 | cons q r ih =>
  obtain ⟨a, v⟩ := q
  simp only [lookD] at h
  split at h
  ·cases h
  rename_i hne
  simp only [List.map_cons, dent, putV, eqKey_i64, decide_eq_true_eq, if_neg hne, List.cons_append]
  rw [← ih h]
theorem defs_upto (n : Nat) (es : Defs) : uptoE n (es.map dent) := by
 induction es with
 | nil => trivial
 | cons p r ih => exact ⟨⟨trivial, trivial, trivial⟩, ih⟩
def defineM (ds : Defs) (v : Int) (p : Int × Int) : Int × Defs :=
 if !within v 0 4095 then (4, ds) else if (lookD ds v).isSome then (7, ds) else (0, ds ++ [(v, p)])
theorem define_spec {O : List AObj} (hup : ∀ o ∈ O, o.upto O.length) {c d : Nat} {f : Func} {ds : Defs} (hc : O[c]? = some (.cells [aI f.name, eBlocks f.blocks, .mm d])) (hd : O[d]? = some (.map (.int .i64) (ds.map dent))) (v : Int) (p : Int × Int) :
  ECall Try.prog 88 O [.mp c 0, aI v, .agg [aI p.1, aI p.2]] (fun r O' => r = aI (defineM ds v p).1 ∧ O' = O.set d (.map (.int .i64) ((defineM ds v p).2.map dent))) := by
 have hw := within_spec v 0 4095
 have hcl := lt_of_getElem? hc
 have hsame : O.set d (.map (.int .i64) (ds.map dent)) = O := set_same hd
 unfold defineM
 cases hv : within v 0 4095 with
 | false =>
  rw [hv] at hw
  refine zf true O.length Try.func88 Try.ntmps88 ?_
  dsimp only [Tmp, TypeId, slotsOf]
  refine zh1 (za0 ?_)
  refine awp_local 5 ([aI p.1, aI p.2]) [(0, .mp c 0), (1, aI v), (5, .ip none [aI p.1, aI p.2]), (6, aI 0)] rfl (by rfl) (by omega) (by simp [putS, dropS, Go.Av.look]) ?_ ?_ ?_
  ·exact hup
  ·simp [AVal.upto, uptoL, hcl]
  refine zh2 ?_
  refine zi hw ?_
  refine za0 ?_
  refine zw0 rfl ?_
  refine zh1 (za0 ?_)
  refine awp_ret ?_
  simp -dsimp only [simprocAttr, ↓vpre, zp, zr, Try.results88]
  exact ⟨hup, hsame.symm⟩
 | true =>
  rw [hv] at hw
  cases hl : lookD ds v with
  | some q =>
   have hq : eD q = .agg [aI q.1, aI q.2] := rfl
   refine zf true O.length Try.func88 Try.ntmps88 ?_
   dsimp only [Tmp, TypeId, slotsOf]
   refine zh1 (za0 ?_)
   refine awp_local 5 ([aI p.1, aI p.2]) [(0, .mp c 0), (1, aI v), (5, .ip none [aI p.1, aI p.2]), (6, aI 0)] rfl (by rfl) (by omega) (by simp [putS, dropS, Go.Av.look]) ?_ ?_ ?_
   ·exact hup
   ·simp [AVal.upto, uptoL, hcl]
   refine zh2 ?_
   refine zi hw ?_
   refine za0 ?_
   refine zu0 rfl ?_
   refine zb0 ?_
   refine zg2 ?_
   simp -dsimp only [simprocAttr, ↓vpre, zp, hc, hd, lookD_ent, hl, hq, Option.map_some, Option.getD_some, Option.isSome_some]
   refine za0 ?_
   refine zh1 (za0 ?_)
   refine zw0 rfl ?_
   refine zh1 (za0 ?_)
   refine awp_ret ?_
   simp -dsimp only [simprocAttr, ↓vpre, zp, zr, Try.results88]
   exact ⟨hup, hsame.symm⟩
  | none =>
   have hput := putD_ent p hl
   have hup2 := uptoO_set (k := d) (x := .map (.int .i64) ((ds ++ [(v, p)]).map dent)) hup (defs_upto _ _)
   have htk := take_set_len (O := O) (k := d) (x := .map (.int .i64) ((ds ++ [(v, p)]).map dent))
   refine zf true O.length Try.func88 Try.ntmps88 ?_
   dsimp only [Tmp, TypeId, slotsOf]
   refine zh1 (za0 ?_)
   refine awp_local 5 ([aI p.1, aI p.2]) [(0, .mp c 0), (1, aI v), (5, .ip none [aI p.1, aI p.2]), (6, aI 0)] rfl (by rfl) (by omega) (by simp [putS, dropS, Go.Av.look]) ?_ ?_ ?_
   ·exact hup
   ·simp [AVal.upto, uptoL, hcl]
   refine zh2 ?_
   refine zi hw ?_
   refine za0 ?_
   refine zu0 rfl ?_
   refine zb0 ?_
   refine zg2 ?_
   simp -dsimp only [simprocAttr, ↓vpre, zp, hc, hd, lookD_ent, hl, Option.map_none, Option.getD_none, Option.isSome_none]
   refine za0 ?_
   refine awp_local 7 ([aI 0, aI 0]) [(0, .mp c 0), (1, aI v), (5, .ip none [aI p.1, aI p.2]), (6, aI 0), (8, .v (.bool false))] rfl (by rfl) (by omega) (by simp [putS, dropS, Go.Av.look]) ?_ ?_ ?_
   ·exact hup
   ·simp [AVal.upto, uptoL, hcl]
   refine zh1 (za0 ?_)
   refine zu0 rfl ?_
   refine zb0 ?_
   refine zg1 ?_
   simp -dsimp only [simprocAttr, ↓vpre, zp, hc, hd, hput]
   refine ⟨ob (by kernel_rfl), ?_⟩
   refine za0 ?_
   refine zh1 (za0 ?_)
   refine awp_ret ?_
   simp -dsimp only [simprocAttr, ↓vpre, zp, zr, Try.results88, htk, List.length_set]
   exact hup2
def paramsM (k : Int) : Defs → List Int → Int × Defs
 | ds, [] => (0, ds)
 | ds, p :: r => if (defineM ds p (k, 0)).1 ≠ 0 then defineM ds p (k, 0) else paramsM k (defineM ds p (k, 0)).2 r
def insM (k : Int) : Int → Defs → List Ins → Int × Defs
 | _, ds, [] => (0, ds)
 | n, ds, i :: r => if (defineM ds i.to (k, n + 1)).1 ≠ 0 then defineM ds i.to (k, n + 1) else if formE i ≠ 0 then (formE i, (defineM ds i.to (k, n + 1)).2) else insM k (n + 1) (defineM ds i.to (k, n + 1)).2 r
def blockM (f : Func) (ds : Defs) (k : Int) : Int × Defs :=
 if (paramsM k ds (blkOf f k).params).1 ≠ 0 then paramsM k ds (blkOf f k).params
 else if (insM k 0 (paramsM k ds (blkOf f k).params).2 (blkOf f k).ins).1 ≠ 0 then insM k 0 (paramsM k ds (blkOf f k).params).2 (blkOf f k).ins
 else (endE f (blkOf f k).term, (insM k 0 (paramsM k ds (blkOf f k).params).2 (blkOf f k).ins).2)
theorem drop_at {α : Type} {l : List α} {j : Nat} {x : α} (h : l[j]? = some x) : l.drop j = x :: l.drop (j + 1) := by
 have hlt := lt_of_getElem? h
 rw [List.getElem?_eq_getElem hlt] at h
 simp only [Option.some.injEq] at h
 rw [List.drop_eq_getElem_cons hlt, h]
theorem block_spec {O : List AObj} (hup : ∀ o ∈ O, o.upto O.length) {c d : Nat} (hcd : c ≠ d) {f : Func} {ds : Defs} (hc : O[c]? = some (.cells [aI f.name, eBlocks f.blocks, .mm d])) (hd : O[d]? = some (.map (.int .i64) (ds.map dent))) (k : Int) (hk0 : 0 ≤ k) (hk1 : k < f.blocks.length)
  (hbl : f.blocks.length ≤ 2 ^ 60) (hcl : (blkOf f k).term.cases.length ≤ 2 ^ 60) :
  ECall Try.prog 58 O [.mp c 0, aI k] (fun r O' => r = aI (blockM f ds k).1 ∧ O' = O.set d (.map (.int .i64) ((blockM f ds k).2.map dent))) := by
 have hB := blkOf_at hk0 hk1
 have hcll := lt_of_getElem? hc
 obtain ⟨R, hR⟩ : ∃ R, R = blockM f ds k := ⟨_, rfl⟩
 rw [← hR]
 unfold blockM at hR
 have hend := end_spec f (blkOf f k).term hcl hbl
 generalize blkOf f k = B at *
 have hcX : ∀ x, (O.set d x)[c]? = some (.cells [aI f.name, eBlocks f.blocks, .mm d]) := fun x => at_set_ne hc hcd.symm
 have hdX := set_self hd
 have hupX : ∀ (es : Defs), ∀ o ∈ O.set d (.map (.int .i64) (es.map dent)), o.upto (O.set d (.map (.int .i64) (es.map dent))).length := fun es => by
  rw [List.length_set]
  exact uptoO_set hup (defs_upto _ _)
 have hdef : ∀ (es : Defs) (v : Int) (p : Int × Int), ECall Try.prog 88 (O.set d (.map (.int .i64) (es.map dent))) [.mp c 0, aI v, .agg [aI p.1, aI p.2]] (fun r O' => r = aI (defineM es v p).1 ∧ O' = O.set d (.map (.int .i64) ((defineM es v p).2.map dent))) := fun es v p => by
  have h := define_spec (hupX es) (hcX _) (hdX (.map (.int .i64) (es.map dent))) v p
  rw [List.set_set] at h
  exact h
 have hsame : O.set d (.map (.int .i64) (ds.map dent)) = O := set_same hd
 have htk : ∀ es : Defs, (O.set d (.map (.int .i64) (es.map dent))).take O.length = O.set d (.map (.int .i64) (es.map dent)) := fun es => take_set_len
 have hup3 : ∀ es : Defs, ∀ o ∈ O.set d (.map (.int .i64) (es.map dent)), o.upto O.length := fun es => uptoO_set hup (defs_upto _ _)
 refine zf true O.length Try.func58 Try.ntmps58 ?_
 dsimp only [Tmp, TypeId, slotsOf]
 refine zh1 (za0 ?_)
 refine zg1 ?_
 simp -dsimp only [simprocAttr, ↓vpre, zp, hc, hB]
 repeat (refine ⟨by omega, ?_⟩)
 refine za0 ?_
 refine awp_local 5 ([eIs B.params, eInss B.ins, aI B.term.kind, aI B.term.arg, aI B.term.n, eIs B.term.cases, eEdges B.term.to]) [(0, .mp c 0), (1, aI k), (4, aI 0), (5, .ip none [eIs B.params, eInss B.ins, aI B.term.kind, aI B.term.arg, aI B.term.n, eIs B.term.cases, eEdges B.term.to])] rfl (by rfl) (by omega) (by simp [putS, dropS, Go.Av.look]) ?_ ?_ ?_
 ·exact hup
 ·simp [AVal.upto, uptoL, hcll, aI_upto, Edge.map_upto, Ins.map_upto]
 refine zh2 (za0 ?_)
 refine awp_len 22 rfl (fun hpl => ?_)
 simp only [List.length_map] at hpl
 refine awp_block (awp_loop (ι := {x : Nat × Defs // x.1 ≤ B.params.length ∧ paramsM k ds B.params = paramsM k x.2 (B.params.drop x.1)}) (fun x => ⟨69, [(0, .mp c 0), (1, aI k), (4, aI 0), (5, .ip none [eIs B.params, eInss B.ins, aI B.term.kind, aI B.term.arg, aI B.term.n, eIs B.term.cases, eEdges B.term.to]), (22, eIs B.params), (23, aI B.params.length), (24, aI x.1.1)], O.set d (.map (.int .i64) (x.1.2.map dent))⟩) (fun x => B.params.length - x.1.1) ⟨(0, ds), by simp, rfl⟩ ?_ ?_)
 ·refine zq rfl ?_ ?_
  simp -dsimp only [simprocAttr, ↓vpre, zp, zc]
  rw [hsame]
 rintro ⟨⟨j, es⟩, hj, hje⟩
 simp only at hj hje
 refine zh1 (za0 ?_)
 apply zk1 rfl <;> intro h
 ·refine zb0 ?_
  have hlt : j < B.params.length := by simpa using h
  obtain ⟨p, hp⟩ : ∃ p, B.params[j]? = some p := ⟨B.params[j], by simp [hlt]⟩
  have hstep := hje
  rw [drop_at hp] at hstep
  simp only [paramsM] at hstep
  have hdf := hdef es p (k, 0)
  generalize defineM es p (k, 0) = X at *
  refine awp_seq (awp_block ?_)
  refine zg1 ?_
  simp -dsimp only [simprocAttr, ↓vpre, zp, hp]
  refine za0 ?_
  refine zh1 ?_
  refine .inr (.inl ⟨_, _, hdf, .inl (later_intro (zj ?_))⟩)
  refine za0 ?_
  by_cases hX : X.1 = 0
  ·have hdx : decide (X.1 = 0) = true := decide_eq_true hX
   rw [if_neg (by simp [hX])] at hstep
   refine zg1 ?_
   simp -dsimp only [simprocAttr, ↓vpre, zp, hdx]
   refine za0 ?_
   refine zu0 rfl ?_
   refine zb1 ?_
   refine zh0 ?_
   repeat (refine ⟨by omega, ?_⟩)
   refine zl0 ?_
   refine ⟨⟨(j + 1, X.2), by simp only; omega, hstep⟩, by simp; omega, ?_⟩
   refine zq rfl ?_ ?_
   simp -dsimp only [simprocAttr, ↓vpre, zp, zc]
   ·exact Sub.int (by simp)
   rfl
  have hdx : decide (X.1 = 0) = false := decide_eq_false hX
  rw [if_pos hX] at hstep
  rw [hstep, if_pos hX] at hR
  refine zg1 ?_
  simp -dsimp only [simprocAttr, ↓vpre, zp, hdx]
  refine za0 ?_
  refine zw0 rfl ?_
  refine zh1 (za0 ?_)
  refine awp_ret ?_
  simp -dsimp only [simprocAttr, ↓vpre, zp, zr, Try.results58, htk, List.length_set]
  rw [hR]
  exact ⟨hup3 X.2, rfl, rfl⟩
 refine awp_exit ?_
 simp -dsimp only [vend, ne_eq, Nat.reduceEqDiff, reduceCtorEq]
 have hjj : j = B.params.length := by simp at h; omega
 subst hjj
 rw [List.drop_length] at hje
 simp only [paramsM] at hje
 rw [hje, if_neg (by simp)] at hR
 simp only at hR
 refine zh2 (za0 ?_)
 refine awp_len 38 rfl (fun hil => ?_)
 simp only [List.length_map] at hil
 refine awp_block (awp_loop (ι := {x : Nat × Defs // x.1 ≤ B.ins.length ∧ insM k 0 es B.ins = insM k x.1 x.2 (B.ins.drop x.1)}) (fun x => ⟨69, [(0, .mp c 0), (1, aI k), (4, aI 0), (5, .ip none [eIs B.params, eInss B.ins, aI B.term.kind, aI B.term.arg, aI B.term.n, eIs B.term.cases, eEdges B.term.to]), (38, eInss B.ins), (39, aI B.ins.length), (40, aI x.1.1)], O.set d (.map (.int .i64) (x.1.2.map dent))⟩) (fun x => B.ins.length - x.1.1) ⟨(0, es), by simp, rfl⟩ ?_ ?_)
 ·refine zq rfl ?_ ?_
  simp -dsimp only [simprocAttr, ↓vpre, zp, zc]
  rfl
 rintro ⟨⟨j, es'⟩, hj, hje⟩
 simp only at hj hje
 refine zh1 (za0 ?_)
 apply zk1 rfl <;> intro h
 ·refine zb0 ?_
  have hlt : j < B.ins.length := by simpa using h
  obtain ⟨i, hi⟩ : ∃ i, B.ins[j]? = some i := ⟨B.ins[j], by simp [hlt]⟩
  have hstep := hje
  rw [drop_at hi] at hstep
  simp only [insM] at hstep
  have hdf := hdef es' i.to (k, (j : Int) + 1)
  have hform := form_spec i
  generalize formE i = e at *
  generalize defineM es' i.to (k, (j : Int) + 1) = X at *
  refine awp_seq (awp_block ?_)
  refine zg1 ?_
  simp -dsimp only [simprocAttr, ↓vpre, zp, hi]
  refine za0 ?_
  refine awp_local 10 ([aI i.to, aI i.op, aI i.n, eIs i.args]) [(0, .mp c 0), (1, aI k), (4, aI 0), (5, .ip none [eIs B.params, eInss B.ins, aI B.term.kind, aI B.term.arg, aI B.term.n, eIs B.term.cases, eEdges B.term.to]), (38, eInss B.ins), (39, aI B.ins.length), (40, aI j), (9, aI j), (10, .ip none [aI i.to, aI i.op, aI i.n, eIs i.args])] (by simp [putS, dropS, Go.Av.look]) (by rfl) (by simp) (by simp [putS, dropS, Go.Av.look]) ?_ ?_ ?_
  ·exact hupX es'
  ·simp [AVal.upto, uptoL, hcll, aI_upto, Edge.map_upto, Ins.map_upto]
  refine zh2 ?_
  repeat (refine ⟨by omega, ?_⟩)
  refine .inr (.inl ⟨_, _, hdf, .inl (later_intro (zj ?_))⟩)
  refine za0 ?_
  by_cases hX : X.1 = 0
  ·have hdx : decide (X.1 = 0) = true := decide_eq_true hX
   rw [if_neg (by simp [hX])] at hstep
   refine zg1 ?_
   simp -dsimp only [simprocAttr, ↓vpre, zp, hdx]
   refine za0 ?_
   refine zu0 rfl ?_
   refine zb0 ?_
   refine zh1 ?_
   refine zi hform ?_
   refine za0 ?_
   by_cases he : e = 0
   ·have hde : decide (e = 0) = true := decide_eq_true he
    rw [if_neg (by simp [he])] at hstep
    refine zg1 ?_
    simp -dsimp only [simprocAttr, ↓vpre, zp, hde]
    refine za0 ?_
    refine zu0 rfl ?_
    refine zb1 ?_
    refine zh0 ?_
    repeat (refine ⟨by omega, ?_⟩)
    refine zl0 ?_
    refine ⟨⟨(j + 1, X.2), by simp only; omega, hstep⟩, by simp; omega, ?_⟩
    refine zq rfl ?_ ?_
    simp -dsimp only [simprocAttr, ↓vpre, zp, zc]
    ·exact Sub.int (by simp)
    rfl
   have hde : decide (e = 0) = false := decide_eq_false he
   rw [if_pos he] at hstep
   rw [hstep, if_pos he] at hR
   refine zg1 ?_
   simp -dsimp only [simprocAttr, ↓vpre, zp, hde]
   refine za0 ?_
   refine zw0 rfl ?_
   refine zh1 (za0 ?_)
   refine awp_ret ?_
   simp -dsimp only [simprocAttr, ↓vpre, zp, zr, Try.results58, htk, List.length_set]
   rw [hR]
   exact ⟨hup3 X.2, rfl, rfl⟩
  have hdx : decide (X.1 = 0) = false := decide_eq_false hX
  rw [if_pos hX] at hstep
  rw [hstep, if_pos hX] at hR
  refine zg1 ?_
  simp -dsimp only [simprocAttr, ↓vpre, zp, hdx]
  refine za0 ?_
  refine zw0 rfl ?_
  refine zh1 (za0 ?_)
  refine awp_ret ?_
  simp -dsimp only [simprocAttr, ↓vpre, zp, zr, Try.results58, htk, List.length_set]
  rw [hR]
  exact ⟨hup3 X.2, rfl, rfl⟩
 refine awp_exit ?_
 simp -dsimp only [vend, ne_eq, Nat.reduceEqDiff, reduceCtorEq]
 have hjj : j = B.ins.length := by simp at h; omega
 subst hjj
 rw [List.drop_length] at hje
 simp only [insM] at hje
 rw [hje, if_neg (by simp)] at hR
 simp only at hR
 refine zg1 ?_
 simp -dsimp only [simprocAttr, ↓vpre, zp, hcX]
 refine zi hend ?_
 refine ⟨ob (by kernel_rfl), ?_⟩
 refine za0 ?_
 refine awp_ret ?_
 simp -dsimp only [simprocAttr, ↓vpre, zp, zr, Try.results58, htk, List.length_set]
 rw [hR]
 exact ⟨hup3 es', rfl, rfl⟩
theorem pair145 : PairOK Try.prog 153 .u64 := by
 obtain ⟨⟨i, z, q1, q2, _⟩, _⟩ := hT 151 _ tab_151
 exact ⟨151, i, Try.underlying153, q1, q2, Try.underlying151, by kernel_rfl⟩
theorem bs_dec (N V : Bs) : (decide ((N.a : Int) = V.a) && decide ((N.b : Int) = V.b)) = decide (N = V) := by
 obtain ⟨n1, n2⟩ := N
 obtain ⟨v1, v2⟩ := V
 simp only [Bs.mk.injEq, Int.natCast_inj]
 by_cases q1 : n1 = v1 <;> by_cases q2 : n2 = v2 <;> simp [q1, q2]
theorem vcBin_bs (N V : Bs) (K : Kont) : vcBin Try.prog .neq 153 N.enc V.enc K = K (.v (.bool (!decide (N = V)))) .pure := by
 show ((IntKind.u64 = IntKind.u64 ∧ IntKind.u64 = IntKind.u64 ∧ IntKind.u64 = IntKind.u64 ∧ PairOK Try.prog 153 .u64) ∧ on (nilTest .neq (decide ((N.a : Int) = V.a) && decide ((N.b : Int) = V.b))) fun r => K (.v (.bool r)) .pure) = _
 rw [bs_dec]
 simp only [pair145, nilTest, on_some, and_self, true_and]
theorem cellsAll_get {sz : Nat} : ∀ {xs : List AVal} {k : Nat} {x : AVal}, (∀ y ∈ xs, y.cells.length = sz) → xs[k]? = some x → ((cellsAll xs).drop (k * sz)).take sz = x.cells
 | q :: r, 0, x, hsz, h => by
  simp only [List.getElem?_cons_zero, Option.some.injEq] at h
  subst h
  have hq := hsz q (by simp)
  simp only [cellsAll, List.flatMap_cons, Nat.zero_mul, List.drop_zero]
  rw [List.take_append_of_le_length (by omega), List.take_of_length_le (by omega)]
 | q :: r, k + 1, x, hsz, h => by
  have ih := cellsAll_get (xs := r) (k := k) (x := x) (fun y hy => hsz y (by simp [hy])) (by simpa using h)
  have hq := hsz q (by simp)
  have e1 : (k + 1) * sz - sz = k * sz := by rw [Nat.succ_mul]; omega
  have e3 : sz ≤ (k + 1) * sz := by rw [Nat.succ_mul]; omega
  simp only [cellsAll, List.flatMap_cons] at ih ⊢
  rw [List.drop_append, List.drop_of_length_le (by omega), hq, e1, List.nil_append]
  exact ih
theorem bs_sz (l : List Bs) : ∀ y ∈ l.map Bs.enc, y.cells.length = 2 := fun y hy => by
 obtain ⟨s, _, rfl⟩ := List.mem_map.1 hy
 rfl
theorem bs_len (l : List Bs) : (cellsAll (l.map Bs.enc)).length = l.length * 2 := by
 rw [cellsAll_length (bs_sz l), List.length_map]
theorem bs_get {l : List Bs} {k : Nat} {s : Bs} (h : l[k]? = some s) : ((cellsAll (l.map Bs.enc)).drop (k * 2)).take 2 = [.v (.int .u64 s.a), .v (.int .u64 s.b)] := cellsAll_get (bs_sz l) (x := s.enc) (by simp [h])
theorem bs_set {l : List Bs} {k : Nat} (h : k < l.length) (s : Bs) : splice (cellsAll (l.map Bs.enc)) (k * 2) [.v (.int .u64 s.a), .v (.int .u64 s.b)] = cellsAll ((l.set k s).map Bs.enc) := by
 have := cellsAll_set (bs_sz l) (k := k) (by simpa using h) (y := s.enc) rfl
 rw [← List.map_set] at this
 exact this
theorem bs_uptoL (n : Nat) (l : List Bs) : uptoL n (l.map Bs.enc) := by
 rw [uptoL_iff]
 intro x hx
 obtain ⟨s, _, rfl⟩ := List.mem_map.1 hx
 exact s.enc_upto n
theorem bs_upto (n : Nat) (l : List Bs) : uptoL n (cellsAll (l.map Bs.enc)) := by
 rw [uptoL_iff]
 intro c hc
 simp only [cellsAll, List.mem_flatMap, List.mem_map] at hc
 obtain ⟨_, ⟨p, _, rfl⟩, hc⟩ := hc
 simp only [Bs.enc_cells, List.mem_cons, List.mem_nil_iff, or_false] at hc
 rcases hc with rfl | rfl <;> trivial
theorem bs_fold (s : Bs) : AVal.agg [.v (.int .u64 s.a), .v (.int .u64 s.b)] = s.enc := rfl
theorem allB_fit : ∀ n, n ≤ 128 → (allB n).fit
 | 0, _ => Bs.fit_none
 | n + 1, h => Bs.fit_add (allB_fit n (by omega)) (by omega)
theorem allB_has : ∀ n, n ≤ 128 → ∀ k, k < n → (allB n).has k = true
 | n + 1, h, k, hk => by
  simp only [allB]
  rw [Bs.has_add _ _ _ (by omega) (by omega)]
  by_cases e : k = n
  ·simp [e]
  rw [allB_has n (by omega) k (by omega)]
  rfl
theorem domS_ok {f : Func} (h0 : f.blocks ≠ []) (h1 : f.blocks.length ≤ 128) : DsOK f.blocks.length (domS f) where
 few := h1
 len := by simp [domS]
 fit := fun s hs => by
  rcases List.mem_or_eq_of_mem_set hs with q | q
  ·rw [(List.mem_replicate.1 q).2]
   exact allB_fit _ h1
  rw [q]
  exact Bs.fit_add Bs.fit_none (by omega)
 seen := Bs.fit_add Bs.fit_none (by omega)
 self := fun k hk => by
  unfold Ds.at_ domS
  by_cases e : k = 0
  ·subst e
   rw [List.getElem?_set_self (by simpa using hk)]
   decide
  rw [List.getElem?_set_ne (Ne.symm e)]
  simp only [List.getElem?_replicate, hk, if_true, Option.getD_some]
  exact allB_has _ h1 k hk
theorem sum_le {l : List Nat} {b : Nat} (h : ∀ x ∈ l, x ≤ b) : l.sum ≤ l.length * b := by
 induction l with
 | nil => simp
 | cons a r ih =>
  have := h a (by simp)
  have := ih fun x hx => h x (by simp [hx])
  simp only [List.sum_cons, List.length_cons, Nat.succ_mul]
  omega
theorem weight_le {n : Nat} {S : Ds} (h : DsOK n S) : S.weight ≤ 16512 := by
 have h1 : (S.over.map Bs.size).sum ≤ (S.over.map Bs.size).length * 128 := sum_le fun x hx => by
  obtain ⟨s, _, rfl⟩ := List.mem_map.1 hx
  exact s.size_le_all
 have h2 := h.few
 have h3 := h.len
 simp only [List.length_map] at h1
 have h4 : S.over.length * 128 ≤ 128 * 128 := Nat.mul_le_mul_right _ (by omega)
 simp only [Ds.weight]
 omega
theorem domI_done {f : Func} {S : Ds} (h : S.again = false) (n : Nat) : domI f n S = S := by
 cases n with
 | zero => rfl
 | succ n => simp [domI, h]
theorem dominators_spec (f : Func) (h0 : f.blocks ≠ []) (h1 : f.blocks.length ≤ 128) (he : ∀ b ∈ f.blocks, ∀ e ∈ b.term.to, 0 ≤ e.block ∧ e.block.toNat < f.blocks.length) :
  PCall Try.prog 91 [f.enc] (.tup [.lst 2 ((domM f).1.map Bs.enc) .sh, (domM f).2.enc]) := by
 have hS := domS_ok h0 h1
 have hp0 := List.length_pos_iff.2 h0
 have hwith : ∀ (s : Bs) (k : Nat), s.fit → k < 128 → PCall Try.prog 121 [s.enc, aI k] (s.add k).enc := fun s k hs hk => with_spec s hs k hk
 obtain ⟨R, hR⟩ : ∃ R, R = domI f 20000 (domS f) := ⟨_, rfl⟩
 have hM : domM f = (R.over, R.seen) := by rw [hR]; rfl
 rw [hM]
 obtain ⟨n, hn⟩ : ∃ n, n = f.blocks.length := ⟨_, rfl⟩
 rw [← hn] at hS hp0 h1 he
 have hnone : AVal.agg [.v (.int .u64 0), .v (.int .u64 0)] = Bs.none.enc := rfl
 refine zf true 0 Try.func91 Try.ntmps91 ?_
 dsimp only [Tmp, TypeId, slotsOf]
 refine zg1 ?_
 simp -dsimp only [simprocAttr, ↓vpre, zp, Bs.enc_cells, Bs.enc_flat, Bs.enc_share, bs_fold]
 refine za0 ?_
 refine awp_freeze1 1 0 (.ip none [aI f.name, eBlocks f.blocks]) rfl (by simp [AObj.isSpare]) trivial rfl ?_ ?_
 rotate_left
 simp -dsimp only [simprocAttr, ↓vpre, zp, Bs.enc_cells, Bs.enc_flat, Bs.enc_share, bs_fold]
 ·refine zg1 ?_
  simp -dsimp only [simprocAttr, ↓vpre, zp, Bs.enc_cells, Bs.enc_flat, Bs.enc_share, bs_fold]
  refine za0 ?_
  refine zg2 ?_
  simp -dsimp only [simprocAttr, ↓vpre, zp, Bs.enc_cells, Bs.enc_flat, Bs.enc_share, bs_fold, ← hn]
  refine za0 ?_
  refine awp_block (awp_loop (ι := {j : Nat // j ≤ n}) (fun j => ⟨106, [(1, .ip none [aI f.name, eBlocks f.blocks]), (3, .mp 1 0), (4, .mp 2 0), (17, aI n), (18, aI j.1)], [.gone, .cells [.v (.int .u64 0), .v (.int .u64 0)], .cells (allB j.1).enc.cells]⟩) (fun j => n - j.1) ⟨0, by omega⟩ ?_ ?_)
  ·refine zq rfl ?_ ?_
   simp -dsimp only [simprocAttr, ↓vpre, zp, Bs.enc_cells, Bs.enc_flat, Bs.enc_share, bs_fold, zc]
   all_goals rfl
  rintro ⟨j, hj⟩
  have hwj := fun h => hwith (allB j) j (allB_fit j (by omega)) h
  refine zg1 ?_
  simp -dsimp only [simprocAttr, ↓vpre, zp, Bs.enc_cells, Bs.enc_flat, Bs.enc_share, bs_fold]
  refine za0 ?_
  apply zk1 rfl <;> intro h
  ·refine zb0 ?_
   have hlt : j < n := by simpa using h
   refine awp_seq (awp_block ?_)
   refine zg1 ?_
   simp -dsimp only [simprocAttr, ↓vpre, zp, Bs.enc_cells, Bs.enc_flat, Bs.enc_share, bs_fold]
   refine za0 ?_
   refine zg0 ?_
   simp -dsimp only [simprocAttr, ↓vpre, zp, Bs.enc_cells, Bs.enc_flat, Bs.enc_share, bs_fold]
   refine .inl ⟨_, (hwj (by omega)), by simp only [uptoL, AVal.upto, zt, zu, aI_upto, Bs.enc_upto, Bs.enc_share], later_intro ?_⟩
   simp -dsimp only [simprocAttr, ↓vpre, zp, Bs.enc_cells, Bs.enc_flat, Bs.enc_share, bs_fold]
   refine za0 ?_
   refine zg0 ?_
   simp -dsimp only [simprocAttr, ↓vpre, zp, Bs.enc_cells, Bs.enc_flat, Bs.enc_share, bs_fold]
   repeat (refine ⟨by omega, ?_⟩)
   refine zl0 ?_
   refine ⟨⟨j + 1, hlt⟩, by simp; omega, ?_⟩
   refine zq rfl ?_ ?_
   simp -dsimp only [simprocAttr, ↓vpre, zp, Bs.enc_cells, Bs.enc_flat, Bs.enc_share, bs_fold, zc]
   all_goals first | rfl | exact Sub.refl _
  refine awp_exit ?_
  simp -dsimp only [vend, ne_eq, Nat.reduceEqDiff, reduceCtorEq]
  have hjj : j = n := by simp at h; omega
  subst hjj
  refine zg1 ?_
  simp -dsimp only [simprocAttr, ↓vpre, zp, Bs.enc_cells, Bs.enc_flat, Bs.enc_share, bs_fold, ← hn]
  repeat (refine ⟨by omega, ?_⟩)
  refine za0 ?_
  refine zg2 ?_
  simp -dsimp only [simprocAttr, ↓vpre, zp, Bs.enc_cells, Bs.enc_flat, Bs.enc_share, bs_fold, ← hn]
  refine za0 ?_
  obtain ⟨A, hA⟩ : ∃ A, A = allB j := ⟨_, rfl⟩
  rw [← hA]
  refine awp_block (awp_loop (ι := {i : Nat // i ≤ j}) (fun i => ⟨106, [(1, .ip none [aI f.name, eBlocks f.blocks]), (3, .mp 1 0), (4, .mp 2 0), (6, .ms 3 0 j j), (30, aI j), (31, aI i.1)], [.gone, .cells [.v (.int .u64 0), .v (.int .u64 0)], .cells A.enc.cells, .cells (cellsAll ((List.replicate i.1 A ++ List.replicate (j - i.1) Bs.none).map Bs.enc))]⟩) (fun i => j - i.1) ⟨0, by omega⟩ ?_ ?_)
  ·refine zq rfl ?_ ?_
   simp -dsimp only [simprocAttr, ↓vpre, zp, Bs.enc_cells, Bs.enc_flat, Bs.enc_share, bs_fold, zc]
   simp [cellsAll, List.flatMap, Bs.enc_cells, Bs.none]
  rintro ⟨i, hi⟩
  have hrow : (List.replicate i A ++ List.replicate (j - i) Bs.none).length = j := by simp; omega
  refine zg1 ?_
  simp -dsimp only [simprocAttr, ↓vpre, zp, Bs.enc_cells, Bs.enc_flat, Bs.enc_share, bs_fold]
  refine za0 ?_
  apply zk1 rfl <;> intro h
  ·refine zb0 ?_
   have hlt : i < j := by simpa using h
   have hset := bs_set (l := List.replicate i A ++ List.replicate (j - i) Bs.none) (k := i) (by rw [hrow]; exact hlt) A
   have hsl : (List.replicate i A ++ List.replicate (j - i) Bs.none).set i A = List.replicate (i + 1) A ++ List.replicate (j - (i + 1)) Bs.none := by
    obtain ⟨q, hq⟩ : ∃ q, j - i = q + 1 := ⟨j - i - 1, by omega⟩
    rw [hq, show j - (i + 1) = q by omega, List.set_append_right _ _ (by simp), List.replicate_succ' (n := i)]
    simp [List.replicate_succ]
   rw [hsl] at hset
   have hlen := bs_len (List.replicate i A ++ List.replicate (j - i) Bs.none)
   rw [hrow] at hlen
   refine awp_seq (awp_block ?_)
   refine zg1 ?_
   simp -dsimp only [simprocAttr, ↓vpre, zp, Bs.enc_cells, Bs.enc_flat, Bs.enc_share, bs_fold]
   refine za0 ?_
   refine zg0 ?_
   simp -dsimp only [simprocAttr, ↓vpre, zp, Bs.enc_cells, Bs.enc_flat, Bs.enc_share, bs_fold, hset, hlen]
   repeat (refine ⟨by omega, ?_⟩)
   refine za0 ?_
   refine zg0 ?_
   simp -dsimp only [simprocAttr, ↓vpre, zp, Bs.enc_cells, Bs.enc_flat, Bs.enc_share, bs_fold]
   repeat (refine ⟨by omega, ?_⟩)
   refine zl0 ?_
   refine ⟨⟨i + 1, hlt⟩, by simp; omega, ?_⟩
   refine zq rfl ?_ ?_
   simp -dsimp only [simprocAttr, ↓vpre, zp, Bs.enc_cells, Bs.enc_flat, Bs.enc_share, bs_fold, zc]
   all_goals first | rfl | exact Sub.refl _
  refine awp_exit ?_
  simp -dsimp only [vend, ne_eq, Nat.reduceEqDiff, reduceCtorEq]
  have hij : i = j := by simp at h; omega
  subst hij
  have h00 := hwith Bs.none 0 Bs.fit_none (by omega)
  have hlen := bs_len (List.replicate i A ++ List.replicate (i - i) Bs.none)
  rw [hrow] at hlen
  have hset := bs_set (l := List.replicate i A ++ List.replicate (i - i) Bs.none) (k := 0) (by rw [hrow]; exact hp0) (Bs.none.add 0)
  have hov : (List.replicate i A ++ List.replicate (i - i) Bs.none).set 0 (Bs.none.add 0) = (domS f).over := by
   simp [domS, ← hn, hA]
  rw [hov, Nat.zero_mul] at hset
  have hcast : aI ((0 : Nat) : Int) = aI 0 := rfl
  rw [hcast] at h00
  refine zg1 ?_
  simp -dsimp only [simprocAttr, ↓vpre, zp, Bs.enc_cells, Bs.enc_flat, Bs.enc_share, bs_fold, hnone]
  refine .inl ⟨_, h00, by simp only [uptoL, AVal.upto, zt, zu, aI_upto, Bs.enc_upto, Bs.enc_share], later_intro ?_⟩
  simp -dsimp only [simprocAttr, ↓vpre, zp, Bs.enc_cells, Bs.enc_flat, Bs.enc_share, bs_fold, hset, hlen]
  refine ⟨by omega, by omega, ?_⟩
  refine za0 ?_
  refine zg1 ?_
  simp -dsimp only [simprocAttr, ↓vpre, zp, Bs.enc_cells, Bs.enc_flat, Bs.enc_share, bs_fold, hnone]
  refine .inl ⟨_, h00, by simp only [uptoL, AVal.upto, zt, zu, aI_upto, Bs.enc_upto, Bs.enc_share], later_intro ?_⟩
  simp -dsimp only [simprocAttr, ↓vpre, zp, Bs.enc_cells, Bs.enc_flat, Bs.enc_share, bs_fold]
  refine za0 ?_
  refine zg2 ?_
  simp -dsimp only [simprocAttr, ↓vpre, zp, Bs.enc_cells, Bs.enc_flat, Bs.enc_share, bs_fold]
  refine za0 ?_
  have hw0 := weight_le hS
  refine awp_block (awp_loop (ι := {x : Ds × Nat // DsOK i x.1 ∧ R = domI f x.2 x.1 ∧ (x.1.again = true → x.1.weight < x.2)}) (fun x => ⟨106, [(1, .ip none [aI f.name, eBlocks f.blocks]), (3, .mp 1 0), (6, .ms 3 0 i i), (8, .mp 4 0), (9, .v (.bool x.1.1.again))], [.gone, .cells [.v (.int .u64 0), .v (.int .u64 0)], .cells A.enc.cells, .cells (cellsAll (x.1.1.over.map Bs.enc)), .cells x.1.1.seen.enc.cells]⟩) (fun x => x.1.1.weight + if x.1.1.again then 1 else 0) ⟨(domS f, 20000), hS, hR, fun _ => by simp only; omega⟩ ?_ ?_)
  ·refine zq rfl ?_ ?_
   simp -dsimp only [simprocAttr, ↓vpre, zp, Bs.enc_cells, Bs.enc_flat, Bs.enc_share, bs_fold, zc]
   all_goals first | rfl | exact Sub.refl _
  rintro ⟨⟨S, q⟩, hSo, hRq, hwq⟩
  simp only at hSo hRq hwq
  refine zg2 ?_
  simp -dsimp only [simprocAttr, ↓vpre, zp, Bs.enc_cells, Bs.enc_flat, Bs.enc_share, bs_fold]
  refine za0 ?_
  apply zk0 rfl <;> intro h
  ·refine zb0 ?_
   have hag : S.again = true := h
   have hwq := hwq hag
   obtain ⟨q, rfl⟩ : ∃ q', q = q' + 1 := ⟨q - 1, by omega⟩
   have hRq' : R = domI f q (domR 0 ⟨S.over, S.seen, false⟩ f.blocks) := by
    rw [hRq]
    simp [domI, hag]
   have hS0 : DsOK i ⟨S.over, S.seen, false⟩ := ⟨hSo.few, hSo.len, hSo.fit, hSo.seen, hSo.self⟩
   have hro := domR_ok f.blocks (k := 0) hS0 he
   obtain ⟨S1, hS1⟩ : ∃ S1, S1 = domR 0 ⟨S.over, S.seen, false⟩ f.blocks := ⟨_, rfl⟩
   rw [← hS1] at hRq' hro
   obtain ⟨ro1, ro2, ro3⟩ := hro
   have hwS : (⟨S.over, S.seen, false⟩ : Ds).weight = S.weight := rfl
   rw [hwS] at ro2 ro3
   refine awp_block ?_
   refine zg1 ?_
   simp -dsimp only [simprocAttr, ↓vpre, zp, Bs.enc_cells, Bs.enc_flat, Bs.enc_share, bs_fold]
   refine za0 ?_
   refine zg1 ?_
   simp -dsimp only [simprocAttr, ↓vpre, zp, Bs.enc_cells, Bs.enc_flat, Bs.enc_share, bs_fold, ← hn]
   refine za0 ?_
   refine awp_block (awp_loop (ι := {y : Nat × Ds // y.1 ≤ i ∧ DsOK i y.2 ∧ S1 = domR y.1 y.2 (f.blocks.drop y.1)}) (fun y => ⟨106, [(1, .ip none [aI f.name, eBlocks f.blocks]), (3, .mp 1 0), (6, .ms 3 0 i i), (8, .mp 4 0), (47, eBlocks f.blocks), (48, aI i), (9, .v (.bool y.1.2.again)), (49, aI y.1.1)], [.gone, .cells [.v (.int .u64 0), .v (.int .u64 0)], .cells A.enc.cells, .cells (cellsAll (y.1.2.over.map Bs.enc)), .cells y.1.2.seen.enc.cells]⟩) (fun y => i - y.1.1) ⟨(0, ⟨S.over, S.seen, false⟩), by simp, hS0, hS1⟩ ?_ ?_)
   ·refine zq rfl ?_ ?_
    simp -dsimp only [simprocAttr, ↓vpre, zp, Bs.enc_cells, Bs.enc_flat, Bs.enc_share, bs_fold, zc]
    all_goals rfl
   rintro ⟨⟨k, T⟩, hk, hTo, hTe⟩
   simp only at hk hTo hTe
   refine zg1 ?_
   simp -dsimp only [simprocAttr, ↓vpre, zp, Bs.enc_cells, Bs.enc_flat, Bs.enc_share, bs_fold]
   refine za0 ?_
   apply zk1 rfl <;> intro h
   ·refine zb0 ?_
    have hlt : k < i := by simpa using h
    obtain ⟨b, hb⟩ : ∃ b, f.blocks[k]? = some b := ⟨f.blocks[k]'(by omega), List.getElem?_eq_getElem _⟩
    have hbm := List.mem_of_getElem? hb
    rw [drop_at hb] at hTe
    simp only [domR] at hTe
    have hdb := domB_ok (k := k) hTo (he b hbm)
    have hhas := has_spec T.seen hTo.seen k (by omega)
    refine awp_seq (awp_block ?_)
    refine zg1 ?_
    simp -dsimp only [simprocAttr, ↓vpre, zp, Bs.enc_cells, Bs.enc_flat, Bs.enc_share, bs_fold, hb]
    refine za0 ?_
    refine awp_freeze1 11 5 (.ip none [eIs b.params, eInss b.ins, aI b.term.kind, aI b.term.arg, aI b.term.n, eIs b.term.cases, eEdges b.term.to]) rfl (by simp [AObj.isSpare]) trivial rfl ?_ ?_
    rotate_left
    simp -dsimp only [simprocAttr, ↓vpre, zp, Bs.enc_cells, Bs.enc_flat, Bs.enc_share, bs_fold]
    ·refine awp_trunc' 5 [(1, .ip none [aI f.name, eBlocks f.blocks]), (3, .mp 1 0), (6, .ms 3 0 i i), (8, .mp 4 0), (47, eBlocks f.blocks), (48, aI i), (9, .v (.bool T.again)), (10, aI k), (11, .ip none [eIs b.params, eInss b.ins, aI b.term.kind, aI b.term.arg, aI b.term.n, eIs b.term.cases, eEdges b.term.to]), (49, aI k)] (by simp) (by omega) [.gone, .cells [.v (.int .u64 0), .v (.int .u64 0)], .cells A.enc.cells, .cells (cellsAll (T.over.map Bs.enc)), .cells T.seen.enc.cells] ?_ ?_ ?_ ?_ ?_
     ·rfl
     ·simp [AObj.upto, uptoL, AVal.upto, aI_upto, Block.map_upto, Edge.map_upto, Ins.map_upto, bs_upto, Bs.enc_cells]
     ·simp [Says, St.get, putS, dropS, Go.Av.look, Sub.refl]
     ·simp [AObj.upto, uptoL, AVal.upto, aI_upto, Block.map_upto, Edge.map_upto, Ins.map_upto, bs_upto, Bs.enc_cells]
     cases hsk : T.seen.has k with
     | false =>
      rw [hsk] at hhas
      have hdk : domB k T b = T := by simp [domB, hsk]
      rw [hdk] at hTe
      refine zg2 ?_
      simp -dsimp only [simprocAttr, ↓vpre, zp, Bs.enc_cells, Bs.enc_flat, Bs.enc_share, bs_fold]
      refine .inl ⟨_, hhas, by simp only [uptoL, AVal.upto, zt, zu, aI_upto, Bs.enc_upto, Bs.enc_share], later_intro ?_⟩
      simp -dsimp only [simprocAttr, ↓vpre, zp, Bs.enc_cells, Bs.enc_flat, Bs.enc_share, bs_fold]
      refine za0 ?_
      refine zw0 rfl ?_
      refine awp_exit ?_
      simp -dsimp only [vend, ne_eq, Nat.reduceEqDiff, reduceCtorEq]
      refine zg0 ?_
      simp -dsimp only [simprocAttr, ↓vpre, zp, Bs.enc_cells, Bs.enc_flat, Bs.enc_share, bs_fold]
      repeat (refine ⟨by omega, ?_⟩)
      refine zl0 ?_
      refine ⟨⟨(k + 1, T), by simp only; omega, hTo, hTe⟩, by simp; omega, ?_⟩
      refine zq rfl ?_ ?_
      simp -dsimp only [simprocAttr, ↓vpre, zp, Bs.enc_cells, Bs.enc_flat, Bs.enc_share, bs_fold, zc]
      all_goals first | rfl | exact Sub.refl _
     | true =>
      rw [hsk] at hhas
      have hdk : domB k T b = b.term.to.foldl (domE k) T := by simp [domB, hsk]
      rw [hdk] at hTe hdb
      refine zg2 ?_
      simp -dsimp only [simprocAttr, ↓vpre, zp, Bs.enc_cells, Bs.enc_flat, Bs.enc_share, bs_fold]
      refine .inl ⟨_, hhas, by simp only [uptoL, AVal.upto, zt, zu, aI_upto, Bs.enc_upto, Bs.enc_share], later_intro ?_⟩
      simp -dsimp only [simprocAttr, ↓vpre, zp, Bs.enc_cells, Bs.enc_flat, Bs.enc_share, bs_fold]
      refine za0 ?_
      apply zk0 rfl <;> intro h
      ·cases h
      refine zb0 ?_
      refine zg1 ?_
      simp -dsimp only [simprocAttr, ↓vpre, zp, Bs.enc_cells, Bs.enc_flat, Bs.enc_share, bs_fold]
      refine za0 ?_
      refine awp_len 60 rfl (fun htl => ?_)
      simp only [List.length_map] at htl
      obtain ⟨T1, hT1⟩ : ∃ T1, T1 = b.term.to.foldl (domE k) T := ⟨_, rfl⟩
      rw [← hT1] at hTe hdb
      refine awp_block (awp_loop (ι := {y : Nat × Ds // y.1 ≤ b.term.to.length ∧ DsOK i y.2 ∧ T1 = (b.term.to.drop y.1).foldl (domE k) y.2}) (fun y => ⟨106, [(1, .ip none [aI f.name, eBlocks f.blocks]), (3, .mp 1 0), (6, .ms 3 0 i i), (8, .mp 4 0), (47, eBlocks f.blocks), (48, aI i), (9, .v (.bool y.1.2.again)), (10, aI k), (49, aI k), (60, eEdges b.term.to), (61, aI b.term.to.length), (62, aI y.1.1)], [.gone, .cells [.v (.int .u64 0), .v (.int .u64 0)], .cells A.enc.cells, .cells (cellsAll (y.1.2.over.map Bs.enc)), .cells y.1.2.seen.enc.cells]⟩) (fun y => b.term.to.length - y.1.1) ⟨(0, T), by simp, hTo, hT1⟩ ?_ ?_)
      ·refine zq rfl ?_ ?_
       simp -dsimp only [simprocAttr, ↓vpre, zp, Bs.enc_cells, Bs.enc_flat, Bs.enc_share, bs_fold, zc]
       all_goals rfl
      rintro ⟨⟨z, U⟩, hz, hUo, hUe⟩
      simp only at hz hUo hUe
      refine zg1 ?_
      simp -dsimp only [simprocAttr, ↓vpre, zp, Bs.enc_cells, Bs.enc_flat, Bs.enc_share, bs_fold]
      refine za0 ?_
      apply zk1 rfl <;> intro h
      ·refine zb0 ?_
       have hltz : z < b.term.to.length := by simpa using h
       obtain ⟨e, hee⟩ : ∃ e, b.term.to[z]? = some e := ⟨b.term.to[z], by simp [hltz]⟩
       obtain ⟨he0, he1⟩ := he b hbm e (List.mem_of_getElem? hee)
       rw [drop_at hee] at hUe
       simp only [List.foldl_cons] at hUe
       have hde := domE_ok (k := k) hUo he0 he1
       obtain ⟨ej, hej⟩ : ∃ ej : Nat, e.block = ej := ⟨e.block.toNat, by omega⟩
       have hej' : e.block.toNat = ej := by omega
       rw [hej'] at he1
       have hoe : U.over[ej]? = some (U.at_ ej) := by
        have : ej < U.over.length := by rw [hUo.len]; exact he1
        simp [Ds.at_, this]
       have hok : U.over[k]? = some (U.at_ k) := by
        have : k < U.over.length := by rw [hUo.len]; exact hlt
        simp [Ds.at_, this]
       have hboth := both_spec (U.at_ ej) (U.at_ k) (hUo.at_fit ej) (hUo.at_fit k)
       have hfm := Bs.fit_meet (t := U.at_ k) (hUo.at_fit ej)
       have hadd := hwith ((U.at_ ej).meet (U.at_ k)) ej hfm (by omega)
       have hfn := Bs.fit_add hfm (k := ej) (by omega)
       have hseen := has_spec U.seen hUo.seen ej (by omega)
       have hsadd := hwith U.seen ej hUo.seen (by omega)
       have hge := bs_get hoe
       have hgk := bs_get hok
       have hrl := bs_len U.over
       rw [hUo.len] at hrl
       have hdE : domE k U e = if ((U.at_ ej).meet (U.at_ k)).add ej ≠ U.at_ ej ∨ U.seen.has ej = false then ⟨U.over.set ej (((U.at_ ej).meet (U.at_ k)).add ej), U.seen.add ej, true⟩ else U := by
        simp only [domE, hej']
       generalize hM1 : (U.at_ ej).meet (U.at_ k) = M1 at *
       generalize hN : M1.add ej = N at *
       generalize hV : U.at_ ej = V at *
       have hset := bs_set (l := U.over) (k := ej) (by rw [hUo.len]; exact he1) N
       refine awp_seq (awp_block ?_)
       refine zg1 ?_
       simp -dsimp only [simprocAttr, ↓vpre, zp, Bs.enc_cells, Bs.enc_flat, Bs.enc_share, bs_fold, hee]
       refine za0 ?_
       refine awp_freeze1 13 5 (.ip none [aI e.block, eIs e.args]) rfl (by simp [AObj.isSpare]) trivial rfl ?_ ?_
       rotate_left
       simp -dsimp only [simprocAttr, ↓vpre, zp, Bs.enc_cells, Bs.enc_flat, Bs.enc_share, bs_fold]
       ·refine awp_trunc' 5 [(1, .ip none [aI f.name, eBlocks f.blocks]), (3, .mp 1 0), (6, .ms 3 0 i i), (8, .mp 4 0), (47, eBlocks f.blocks), (48, aI i), (9, .v (.bool U.again)), (10, aI k), (13, .ip none [aI e.block, eIs e.args]), (49, aI k), (60, eEdges b.term.to), (61, aI b.term.to.length), (62, aI z)] (by simp) (by omega) [.gone, .cells [.v (.int .u64 0), .v (.int .u64 0)], .cells A.enc.cells, .cells (cellsAll (U.over.map Bs.enc)), .cells U.seen.enc.cells] ?_ ?_ ?_ ?_ ?_
        ·rfl
        ·simp [AObj.upto, uptoL, AVal.upto, aI_upto, Block.map_upto, Edge.map_upto, Ins.map_upto, bs_upto, Bs.enc_cells]
        ·simp [Says, St.get, putS, dropS, Go.Av.look, Sub.refl]
        ·simp [AObj.upto, uptoL, AVal.upto, aI_upto, Block.map_upto, Edge.map_upto, Ins.map_upto, bs_upto, Bs.enc_cells]
        refine zg1 ?_
        simp -dsimp only [simprocAttr, ↓vpre, zp, Bs.enc_cells, Bs.enc_flat, Bs.enc_share, bs_fold, hej, Int.toNat_natCast, hge, hgk, hrl]
        refine ⟨by omega, by omega, by omega, by omega, ?_⟩
        refine .inl ⟨_, hboth, by simp only [uptoL, AVal.upto, zt, zu, aI_upto, Bs.enc_upto, Bs.enc_share], later_intro ?_⟩
        simp -dsimp only [simprocAttr, ↓vpre, zp, Bs.enc_cells, Bs.enc_flat, Bs.enc_share, bs_fold]
        refine .inl ⟨_, hadd, by simp only [uptoL, AVal.upto, zt, zu, aI_upto, Bs.enc_upto, Bs.enc_share], later_intro ?_⟩
        simp -dsimp only [simprocAttr, ↓vpre, zp, Bs.enc_cells, Bs.enc_flat, Bs.enc_share, bs_fold]
        refine ⟨ob (by kernel_rfl), ?_⟩
        refine za0 ?_
        have hbu := bs_upto 5 (U.over.set ej N)
        rw [List.map_set] at hbu
        by_cases hNV : N = V
        ·have hdN : decide (N = V) = true := decide_eq_true hNV
         cases hsj : U.seen.has ej with
         | true =>
          rw [hsj] at hseen
          have hdE' : domE k U e = U := by rw [hdE, if_neg (by simp [hNV, hsj])]
          refine zg1 ?_
          simp -dsimp only [simprocAttr, ↓vpre, zp, Bs.enc_cells, Bs.enc_flat, Bs.enc_share, bs_fold, hej, Int.toNat_natCast, hge, hrl, vcBin_bs, hdN]
          repeat (refine ⟨by omega, ?_⟩)
          refine .inl ⟨_, hseen, by simp only [uptoL, AVal.upto, zt, zu, aI_upto, Bs.enc_upto, Bs.enc_share], later_intro ?_⟩
          simp -dsimp only [simprocAttr, ↓vpre, zp, Bs.enc_cells, Bs.enc_flat, Bs.enc_share, bs_fold]
          refine ⟨ob (by kernel_rfl), ?_⟩
          refine za0 ?_
          refine zu0 rfl ?_
          refine zb1 ?_
          refine awp_trunc' 5 [(1, .ip none [aI f.name, eBlocks f.blocks]), (3, .mp 1 0), (6, .ms 3 0 i i), (8, .mp 4 0), (47, eBlocks f.blocks), (48, aI i), (9, .v (.bool U.again)), (10, aI k), (49, aI k), (60, eEdges b.term.to), (61, aI b.term.to.length), (62, aI z)] (by simp) (by omega) [.gone, .cells [.v (.int .u64 0), .v (.int .u64 0)], .cells A.enc.cells, .cells (cellsAll ((U.over).map Bs.enc)), .cells (U.seen).enc.cells] ?_ ?_ ?_ ?_ ?_
          ·rfl
          ·simp [AObj.upto, uptoL, AVal.upto, aI_upto, Block.map_upto, Edge.map_upto, Ins.map_upto, bs_upto, Bs.enc_cells]
          ·simp [Says, St.get, putS, dropS, Go.Av.look, Sub.refl]
          ·simp [AObj.upto, uptoL, AVal.upto, aI_upto, Block.map_upto, Edge.map_upto, Ins.map_upto, bs_upto, Bs.enc_cells]
          refine zg0 ?_
          simp -dsimp only [simprocAttr, ↓vpre, zp, Bs.enc_cells, Bs.enc_flat, Bs.enc_share, bs_fold]
          repeat (refine ⟨by omega, ?_⟩)
          refine zl0 ?_
          refine ⟨⟨(z + 1, U), by simp only; omega, hUo, by rw [hUe, hdE']⟩, by simp; omega, ?_⟩
          refine zq rfl ?_ ?_
          simp -dsimp only [simprocAttr, ↓vpre, zp, Bs.enc_cells, Bs.enc_flat, Bs.enc_share, bs_fold, zc]
          all_goals first | rfl | exact Sub.refl _
         | false =>
          rw [hsj] at hseen
          have hdE' : domE k U e = ⟨U.over.set ej N, U.seen.add ej, true⟩ := by rw [hdE, if_pos (.inr hsj)]
          refine zg1 ?_
          simp -dsimp only [simprocAttr, ↓vpre, zp, Bs.enc_cells, Bs.enc_flat, Bs.enc_share, bs_fold, hej, Int.toNat_natCast, hge, hrl, vcBin_bs, hdN]
          repeat (refine ⟨by omega, ?_⟩)
          refine .inl ⟨_, hseen, by simp only [uptoL, AVal.upto, zt, zu, aI_upto, Bs.enc_upto, Bs.enc_share], later_intro ?_⟩
          simp -dsimp only [simprocAttr, ↓vpre, zp, Bs.enc_cells, Bs.enc_flat, Bs.enc_share, bs_fold]
          refine ⟨ob (by kernel_rfl), ?_⟩
          refine za0 ?_
          refine zw0 rfl ?_
          refine zg0 ?_
          simp -dsimp only [simprocAttr, ↓vpre, zp, Bs.enc_cells, Bs.enc_flat, Bs.enc_share, bs_fold, hej, Int.toNat_natCast, hset, hrl]
          repeat (refine ⟨by omega, ?_⟩)
          refine .inl ⟨_, hsadd, by simp only [uptoL, AVal.upto, zt, zu, aI_upto, Bs.enc_upto, Bs.enc_share], later_intro ?_⟩
          simp -dsimp only [simprocAttr, ↓vpre, zp, Bs.enc_cells, Bs.enc_flat, Bs.enc_share, bs_fold, hset, hrl]
          repeat (refine ⟨by omega, ?_⟩)
          refine ⟨ob (by kernel_rfl), ?_⟩
          refine za0 ?_
          refine awp_trunc' 5 [(1, .ip none [aI f.name, eBlocks f.blocks]), (3, .mp 1 0), (6, .ms 3 0 i i), (8, .mp 4 0), (47, eBlocks f.blocks), (48, aI i), (9, .v (.bool true)), (10, aI k), (49, aI k), (60, eEdges b.term.to), (61, aI b.term.to.length), (62, aI z)] (by simp) (by omega) [.gone, .cells [.v (.int .u64 0), .v (.int .u64 0)], .cells A.enc.cells, .cells (cellsAll ((U.over.set ej N).map Bs.enc)), .cells (U.seen.add ej).enc.cells] ?_ ?_ ?_ ?_ ?_
          ·rfl
          ·simp [AObj.upto, uptoL, AVal.upto, aI_upto, Block.map_upto, Edge.map_upto, Ins.map_upto, bs_upto, Bs.enc_cells, hbu]
          ·simp [Says, St.get, putS, dropS, Go.Av.look, Sub.refl]
          ·simp [AObj.upto, uptoL, AVal.upto, aI_upto, Block.map_upto, Edge.map_upto, Ins.map_upto, bs_upto, Bs.enc_cells]
          refine zg0 ?_
          simp -dsimp only [simprocAttr, ↓vpre, zp, Bs.enc_cells, Bs.enc_flat, Bs.enc_share, bs_fold]
          repeat (refine ⟨by omega, ?_⟩)
          refine zl0 ?_
          refine ⟨⟨(z + 1, ⟨U.over.set ej N, U.seen.add ej, true⟩), by simp only; omega, by rw [← hdE']; exact hde.1, by rw [hUe, hdE']⟩, by simp; omega, ?_⟩
          refine zq rfl ?_ ?_
          simp -dsimp only [simprocAttr, ↓vpre, zp, Bs.enc_cells, Bs.enc_flat, Bs.enc_share, bs_fold, zc]
          all_goals first | rfl | exact Sub.refl _
        have hdN : decide (N = V) = false := decide_eq_false hNV
        have hdE' : domE k U e = ⟨U.over.set ej N, U.seen.add ej, true⟩ := by rw [hdE, if_pos (.inl hNV)]
        refine zg1 ?_
        simp -dsimp only [simprocAttr, ↓vpre, zp, Bs.enc_cells, Bs.enc_flat, Bs.enc_share, bs_fold, hej, Int.toNat_natCast, hge, hrl, vcBin_bs, hdN]
        repeat (refine ⟨by omega, ?_⟩)
        refine ⟨ob (by kernel_rfl), ?_⟩
        refine za0 ?_
        refine zw0 rfl ?_
        refine zg0 ?_
        simp -dsimp only [simprocAttr, ↓vpre, zp, Bs.enc_cells, Bs.enc_flat, Bs.enc_share, bs_fold, hej, Int.toNat_natCast, hset, hrl]
        repeat (refine ⟨by omega, ?_⟩)
        refine .inl ⟨_, hsadd, by simp only [uptoL, AVal.upto, zt, zu, aI_upto, Bs.enc_upto, Bs.enc_share], later_intro ?_⟩
        simp -dsimp only [simprocAttr, ↓vpre, zp, Bs.enc_cells, Bs.enc_flat, Bs.enc_share, bs_fold, hset, hrl]
        repeat (refine ⟨by omega, ?_⟩)
        refine ⟨ob (by kernel_rfl), ?_⟩
        refine za0 ?_
        refine awp_trunc' 5 [(1, .ip none [aI f.name, eBlocks f.blocks]), (3, .mp 1 0), (6, .ms 3 0 i i), (8, .mp 4 0), (47, eBlocks f.blocks), (48, aI i), (9, .v (.bool true)), (10, aI k), (49, aI k), (60, eEdges b.term.to), (61, aI b.term.to.length), (62, aI z)] (by simp) (by omega) [.gone, .cells [.v (.int .u64 0), .v (.int .u64 0)], .cells A.enc.cells, .cells (cellsAll ((U.over.set ej N).map Bs.enc)), .cells (U.seen.add ej).enc.cells] ?_ ?_ ?_ ?_ ?_
        ·rfl
        ·simp [AObj.upto, uptoL, AVal.upto, aI_upto, Block.map_upto, Edge.map_upto, Ins.map_upto, bs_upto, Bs.enc_cells, hbu]
        ·simp [Says, St.get, putS, dropS, Go.Av.look, Sub.refl]
        ·simp [AObj.upto, uptoL, AVal.upto, aI_upto, Block.map_upto, Edge.map_upto, Ins.map_upto, bs_upto, Bs.enc_cells]
        refine zg0 ?_
        simp -dsimp only [simprocAttr, ↓vpre, zp, Bs.enc_cells, Bs.enc_flat, Bs.enc_share, bs_fold]
        repeat (refine ⟨by omega, ?_⟩)
        refine zl0 ?_
        refine ⟨⟨(z + 1, ⟨U.over.set ej N, U.seen.add ej, true⟩), by simp only; omega, by rw [← hdE']; exact hde.1, by rw [hUe, hdE']⟩, by simp; omega, ?_⟩
        refine zq rfl ?_ ?_
        simp -dsimp only [simprocAttr, ↓vpre, zp, Bs.enc_cells, Bs.enc_flat, Bs.enc_share, bs_fold, zc]
        all_goals first | rfl | exact Sub.refl _
       exact FSub.mp rfl rfl
      refine awp_exit ?_
      simp -dsimp only [vend, ne_eq, Nat.reduceEqDiff, reduceCtorEq]
      have hze : z = b.term.to.length := by simp at h; omega
      subst hze
      rw [List.drop_length] at hUe
      simp only [List.foldl_nil] at hUe
      refine zg0 ?_
      simp -dsimp only [simprocAttr, ↓vpre, zp, Bs.enc_cells, Bs.enc_flat, Bs.enc_share, bs_fold]
      repeat (refine ⟨by omega, ?_⟩)
      refine zl0 ?_
      refine ⟨⟨(k + 1, U), by simp only; omega, hUo, by rw [hTe, hUe]⟩, by simp; omega, ?_⟩
      refine zq rfl ?_ ?_
      simp -dsimp only [simprocAttr, ↓vpre, zp, Bs.enc_cells, Bs.enc_flat, Bs.enc_share, bs_fold, zc]
      all_goals first | rfl | exact Sub.refl _
    exact FSub.mp rfl rfl
   refine awp_exit ?_
   simp -dsimp only [vend, ne_eq, Nat.reduceEqDiff, reduceCtorEq]
   have hki : k = i := by simp at h; omega
   subst hki
   rw [hn, List.drop_length] at hTe
   simp only [domR] at hTe
   subst hTe
   have hlt2 : S1.again = true → S1.weight < q := fun hh => by
    rcases ro3 hh with r | r
    ·cases r
    omega
   refine ⟨⟨(S1, q), ro1, hRq', hlt2⟩, ?_, ?_⟩
   ·simp only [hag, if_true]
    cases hs1 : S1.again
    ·simp; omega
    rcases ro3 hs1 with r | r
    ·cases r
    simp; omega
   refine zq rfl ?_ ?_
   simp -dsimp only [simprocAttr, ↓vpre, zp, Bs.enc_cells, Bs.enc_flat, Bs.enc_share, bs_fold, zc]
   all_goals rfl
  refine awp_exit ?_
  simp -dsimp only [vend, ne_eq, Nat.reduceEqDiff, reduceCtorEq]
  have hag : S.again = false := h
  rw [domI_done hag] at hRq
  subst hRq
  have hsz := hSo.len
  refine awp_freeze1 6 3 (.lst 2 (R.over.map Bs.enc) .sh) rfl (by simp [AObj.isSpare]) trivial rfl ?_ ?_
  rotate_left
  simp -dsimp only [simprocAttr, ↓vpre, zp, Bs.enc_cells, Bs.enc_flat, Bs.enc_share, bs_fold]
  ·refine zg1 ?_
   simp -dsimp only [simprocAttr, ↓vpre, zp, Bs.enc_cells, Bs.enc_flat, Bs.enc_share, bs_fold]
   refine ⟨ob (by kernel_rfl), ?_⟩
   refine za0 ?_
   refine awp_ret ?_
   simp -dsimp only [simprocAttr, ↓vpre, zp, Bs.enc_cells, Bs.enc_flat, Bs.enc_share, bs_fold, zr, Try.results91]
   exact ⟨⟨bs_uptoL _ _, trivial⟩, Bs.enc_upto _ _, trivial⟩
  refine FSub.ms rfl (bs_sz R.over) (by simp [hsz]) ?_
  rw [List.drop_zero, List.take_of_length_le (by rw [bs_len, hsz]; exact Nat.le_refl _), ← cellsAll_share]
  simp [List.map_map, Function.comp_def, Bs.enc_share]
 exact FSub.mp rfl rfl
end Go.Proofs.Ytlclgfgmhnmnaaa
