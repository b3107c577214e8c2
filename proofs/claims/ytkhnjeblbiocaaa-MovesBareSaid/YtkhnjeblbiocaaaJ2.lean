/-
  Texts bound together by a program of mine: YtakdmelemfnmdaaAvr, YtakdmelemfnmdaaAvu, YtakdmelemfnmdaaAvl, YtakdmelemfnmdaaAvm, YtkhnjeblbiocaaaTab, YtkhnjeblbiocaaaPa, YtkhnjeblbiocaaaPb, YtkhnjeblbiocaaaPm, YtkhnjeblbiocaaaPr, YtakdmelemfnmdaaAvn, YtakdmelemfnmdaaAvo, YtakdmelemfnmdaaAvq, YtakdmelemfnmdaaAvp, YtakdmelemfnmdaaAvs, YtakdmelemfnmdaaAvt, YtakdmelemfnmdaaAvz, YtakdmelemfnmdaaAvw, YtkhnjeblbiocaaaPd, YtkhnjeblbiocaaaPdz, YtkhnjeblbiocaaaPe, YtkhnjeblbiocaaaT1, YtkhnjeblbiocaaaT2, YtkhnjeblbiocaaaT3, YtkhnjeblbiocaaaT30, YtkhnjeblbiocaaaPo, YtkhnjeblbiocaaaT24, YtkhnjeblbiocaaaT25, YtkhnjeblbiocaaaT4, YtkhnjeblbiocaaaT5, YtkhnjeblbiocaaaT6, YtkhnjeblbiocaaaT7, YtkhnjeblbiocaaaT8.
-/
import Derived.Test.YtkhnjeblbiocaaaJ1
import Derived.ChangeKeysEq
import Derived.Laws.StructEq
import Derived.Test.YtkhnjeblbiocaaaChecked
import Derived.KernelRfl
import Derived.ProofKit
import Derived.Carry
import Derived.SizedLaws
import Derived.Deep.Slices
import Derived.JoinedOf
set_option linter.all false
set_option maxRecDepth 100000
set_option maxHeartbeats 4000000

namespace Go.Av
theorem awp_ownNil{P:Program}{kb:Nat}{c:Code}{Q:AEx→St→Prop}{n:Nat}{slots:List (Nat×AVal)}{O:List AObj}(k off sz:Nat){cs:List AVal}(hok:O[k]?=some (.cells cs))(hnil:cs[off]?=some (.v (.slice none 0 0)))
  (h:AWP P kb c Q ⟨n,slots,(O++[AObj.spare 0]).set k (.cells (cs.set off (.lst sz [] (.tok O.length))))⟩):AWP P kb c Q ⟨n,slots,O⟩ :=
 h.weaken fun base a g hb hr=>by
  have hO:g.objs=O:=hr.objs
  have hlek:=Le.mark hr.good (AObj.spare 0)
  have hgk:=Good.mark hr.good 0
  have hkO:g.objs[k]?=some (.cells cs):=by rw [hO];exact hok
  have hok1:(g.mark (AObj.spare 0)).objs[k]?=some (.cells cs):=getElem?_snoc_lt hkO
  obtain⟨l,arr,t,e1,e2,e3,e4,e5,e6⟩:=hgk.cells k cs hok1
  have ht2:Turns (g.mark (AObj.spare 0)) k (.cells cs) (some l) (.cells (cs.set off (.lst sz [] (.tok O.length)))) g.w:={
   obj:=hok1
   os:=rfl
   tape:=rfl
   output:=rfl
   size:=Nat.le_refl _
   block:=fun _ _ _=>rfl
   cell:=fun b off x hx _=>hx
   place:=fun l1 h1 _=>by
    simp only [Option.some.injEq] at h1
    subst h1
    exact .inr ⟨l,e1,trivial,rfl,Nat.le_refl _⟩
   spare:=fun m h=>by cases h
   plain:=fun _=>⟨by simp [AObj.isSpare],e1⟩
   gone:=by simp }
  have hle2:=Le.turn hgk ht2
  have hgood2:=Good.turn hgk ht2 ⟨l,arr,t,rfl,e2,e3,by simpa using e4,fun j d u hd hu=>by
   rw [List.getElem?_set] at hd
   split at hd
   ·rename_i hj
    subst hj
    split at hd
    ·simp only [Option.some.injEq] at hd
     subst hd
     have hv:=(e5 off _ u hnil hu).v_inv.1
     subst hv
     exact .nil (fun id e=>by
      simp only [Own.tok.injEq] at e
      subst e
      simp [G.turn,G.mark,hO]) (by simp)
    cases hd
   ·exact(e5 j d u hd hu).mono hle2,fun d hd=>by
   rcases List.mem_or_eq_of_mem_set hd with q | q
   ·exact e6.1 d q
   subst q
   trivial,e6.2⟩ (fun l1 h1 _=>by
   simp only [Option.some.injEq] at h1
   subst h1
   exact lt_of_getElem?' e3)
  exact⟨(g.mark (AObj.spare 0)).turn k (some l) (.cells (cs.set off (.lst sz [] (.tok O.length)))) g.w,rfl,{ le:=(hr.le.trans hlek).trans hle2,good:=hgood2,objs:=by simp [G.mark,G.turn,hO],size:=hr.size,defers:=hr.defers,slot:=fun s y hy=>(hr.slot s y hy).imp fun u hu=>⟨hu.1,(hu.2.mono hlek).mono hle2⟩ }⟩
theorem cert_eqPtrNil{P:Program}{o:Oper}{σ:St}{op:BinOp}{t t' e:TypeId}{x y:Operand}{x':AVal}{b r:Bool}
  (ho:o.op=.binOp op t x y t') (hd:∀d,o.dst=some d→d<σ.n) (ht:P.underlying t=some (.pointer e)) (hx:σ.ev x=some x') (hy:σ.ev y=some (.v (.pointer none)))
  (hb:(x'=.v (.pointer none)∧b=true)∨(∃oa cs,x'=.ip oa cs∧b=false)∨(∃id off,x'=.mp id off∧b=false))
  (hr:(op=.eql∧r=b)∨(op=.neq∧r=!b)):Cert P o σ (.v (.bool r)) .pure :=
 Cert.ofQuiet .pure (.inl rfl) hd fun a g _ h _=>by
  have hx':=h x (by simp [ho,Op.operands]) _ hx
  have ey:=(h y (by simp [ho,Op.operands]) _ hy).v_inv.1
  have ex:∃q:Option Addr,a.eval x=.pointer q∧b=q.isNone:=by
   rcases hb with⟨e1,e2⟩ | ⟨oa,cs,e1,e2⟩ | ⟨id,off,e1,e2⟩
   ·subst e1
    exact⟨none,hx'.v_inv.1,e2⟩
   ·subst e1
    obtain⟨bb,off,_,e3,_⟩:=hx'.ip_inv
    exact⟨some ⟨bb,off,none⟩,e3,e2⟩
   subst e1
   obtain⟨l,o1,_,_,_,e3⟩:=hx'.mp_inv
   exact⟨_,e3,e2⟩
  obtain⟨q,ex,eb⟩:=ex
  have hg:=run_eqGuard_flat (P:=P) op t x y (.pointer q) (.pointer none) g.w (by simp) (by simp)
  refine⟨.bool r,?_,.v trivial⟩
  have he:(Op.equal t (.pointer q) (.pointer none)).run P g.w=.ok q.isNone g.w:=by
   have e:∃d,Op.equal t (.pointer q) (.pointer none)=Op.equalIn (d+1) t (.pointer q) (.pointer none):=⟨9999,rfl⟩
   obtain⟨d,e⟩:=e
   rw [e]
   cases q<;>simp [Op.equalIn,Sem.run_bind,run_underlying ht]
  rcases hr with⟨e1,e2⟩ | ⟨e1,e2⟩<;>subst e1<;>subst e2<;>simp [execOp,ho,ex,ey,hg,binOp,he,eb]
def cmpAddr:BinOp→Addr→Addr→Option Bool
 | .eql,a,b=>some (decide (a=b))
 | .neq,a,b=>some (!decide (a=b))
 | _,_,_=>none
theorem cert_eqAddr{P:Program}{o:Oper}{σ:St}{op:BinOp}{t t' e:TypeId}{n:Nat}{x y:Operand}{a b:Addr}{cs ds:List AVal}{r:Bool}
  (ho:o.op=.binOp op t x y t') (hd:∀d,o.dst=some d→d<σ.n) (ht:P.underlying t=some (.pointer e)) (hn:∀w,(sizeOf e).run P w=.ok n w) (hn0:n≠0) (hx:σ.ev x=some (.ip (some a) cs)) (hy:σ.ev y=some (.ip (some b) ds)) (hab:a.block=b.block)
  (hr:cmpAddr op a b=some r):Cert P o σ (.v (.bool r)) .pure :=
 Cert.ofQuiet .pure (.inl rfl) hd fun ac g _ h _=>by
  have ex:ac.eval x=.pointer (some a):=by
   obtain⟨b1,off,f,e1,e2,_⟩:=(h x (by simp [ho,Op.operands]) _ hx).ip_inv
   rcases e2 with e2 | e2
   ·cases e2
   rw [e1,e2]
  have ey:ac.eval y=.pointer (some b):=by
   obtain⟨b1,off,f,e1,e2,_⟩:=(h y (by simp [ho,Op.operands]) _ hy).ip_inv
   rcases e2 with e2 | e2
   ·cases e2
   rw [e1,e2]
  have hg:=run_eqGuard_flat (P:=P) op t x y (.pointer (some a)) (.pointer (some b)) g.w (by simp) (by simp)
  refine⟨.bool r,?_,.v trivial⟩
  have he:(Op.equal t (.pointer (some a)) (.pointer (some b))).run P g.w=.ok (decide (a=b)) g.w:=by
   have e0:∃d,Op.equal t (.pointer (some a)) (.pointer (some b))=Op.equalIn (d+1) t (.pointer (some a)) (.pointer (some b)):=⟨9999,rfl⟩
   obtain⟨d,e0⟩:=e0
   rw [e0]
   simp [Op.equalIn,Sem.run_bind,run_underlying ht,hn,hn0,sameAddr,hab]
   first
    | rfl
    | exact beq_eq_decide
    | (rw [Bool.eq_iff_iff]
       simp)
  have hr':(op=.eql∧r=decide (a=b))∨(op=.neq∧r=!decide (a=b)):=by
   cases op<;>simp [cmpAddr] at hr<;>simp [hr]
  rcases hr' with⟨e1,e2⟩ | ⟨e1,e2⟩<;>subst e1<;>subst e2<;>simp [execOp,ho,ex,ey,hg,binOp,he]
theorem array_desc{P:Program}{tab:Tab}(hT:TabOK P tab){t e:TypeId}{n:Nat}{ti:TInfo}(ht:tab t=some ti)(hdesc:ti.desc=.array n e):P.underlying t=some (.array n e):=by
 obtain⟨_,d,h1,h2⟩:=hT t ti ht
 rw [hdesc] at h2
 simp only [descIs] at h2
 rw [h1,h2]
theorem cert_indexAddr_arr{P:Program}{tab:Tab}(hT:TabOK P tab){o:Oper}{σ:St}{t e:TypeId}{x i:Operand}{ti te:TInfo}{id off len:Nat}{k:IntKind}{n:Int}
  (ho:o.op=.indexAddr t x i) (hd:∀d,o.dst=some d→d<σ.n) (ht:tab t=some ti) (hdesc:ti.desc=.array len e) (he:tab e=some te)
  (hx:σ.ev x=some (.mp id off)) (hi:σ.ev i=some (.v (.int k n))) (h0:0≤n) (hn:n<len):Cert P o σ (.mp id (off+n.toNat * te.size)) .pure :=
 Cert.ofQuiet .pure (.inl rfl) hd fun a g _ h _=>by
  have ei:=(h i (by simp [ho,Op.operands]) _ hi).v_inv.1
  have hu:=array_desc hT ht hdesc
  obtain⟨l,o1,h1,h2,h3,eu⟩:=(h x (by simp [ho,Op.operands]) _ hx).mp_inv
  exact⟨.pointer (some ⟨l.block,off+n.toNat * te.size,none⟩),by simp [execOp,ho,ei,eu,Instr.indexAt,Instr.sureAddr,asIntOf,run_underlying hu,h0,hn,(hT e te he).sizeOf,addr_add],.mp h1 h2 h3⟩
theorem cert_build_arr{P:Program}{tab:Tab}(hT:TabOK P tab){o:Oper}{σ:St}{t e:TypeId}{parts:Array (Nat×Operand)}{n:Nat}{ti te:TInfo}{ps:List (Nat×AVal)}{cs:List AVal}
  (ho:o.op=.build t parts) (hd:∀d,o.dst=some d→d<σ.n) (ht:tab t=some ti) (hdesc:ti.desc=.array n e) (he:tab e=some te) (hev:σ.evParts parts.toList=some ps) (hfl:∀p∈ps,p.2.flat)
  (hcs:fillA (fun i=>some (i * te.size,te.size)) ti.zero ps=some cs):Cert P o σ (.agg cs) .pure :=
 Cert.ofQuiet .pure (.inl rfl) hd fun a g _ h _=>by
  have hrel:=evParts_rel (a:=a) (g:=g) (fun x hx y hy=>h x (by simpa [ho,Op.operands] using hx) y hy) hev hfl
  obtain⟨⟨i,z,h1,h2,h3,h4,h5,h6,h7,h8,h9⟩,d,h10,h11⟩:=hT t ti ht
  have hu:=array_desc hT ht hdesc
  obtain⟨⟨ie,ze,k1,k2,_⟩,_⟩:=hT e te he
  obtain⟨arr',q1,q2,q3⟩:=fill_spec (fun i=>some (i * te.size,te.size)) hrel (cs:=ti.zero) (arr:=z.cells) ⟨h5,h8 g⟩ hcs
  have hb:P.built t (parts.map fun(i,x)=>(i,a.eval x)).toList=some arr':=by
   unfold Program.built
   simp only [h1,hu,h4,k1,k2]
   rw [Array.toList_map]
   simpa using q1
  have hrun:=run_build g.w t _ arr' hb
  exact⟨.agg arr',by simp [execOp,ho,hrun],q2.agg (q3 h9)⟩
def PairOK(P:Program)(t:TypeId)(k:IntKind):Prop:=∃e i,P.underlying t=some (.array 2 e)∧P.info? e=some i∧i.size=1∧P.underlying e=some (.int k)∧P.eqGuardType P.depth t=false
theorem run_part{P:Program}{e:TypeId}{k:IntKind}(he:P.underlying e=some (.int k))(xs:Array Value)(i:Nat)(u:Value)(hu:xs[i]?=some u)(w:World):(part e xs i).run P w=.ok u w:=by
 simp [part,Go.isAgg,run_underlying he,hu]
theorem cert_eqPair{P:Program}{o:Oper}{σ:St}{op:BinOp}{t t':TypeId}{x y:Operand}{k:IntKind}{a0 a1 b0 b1:Int}{r:Bool}
  (ho:o.op=.binOp op t x y t') (hd:∀d,o.dst=some d→d<σ.n) (hP:PairOK P t k)
  (hx:σ.ev x=some (.agg [.v (.int k a0),.v (.int k a1)])) (hy:σ.ev y=some (.agg [.v (.int k b0),.v (.int k b1)]))
  (hr:(op=.eql∧r=(decide (a0=b0)&&decide (a1=b1)))∨(op=.neq∧r=!(decide (a0=b0)&&decide (a1=b1)))):Cert P o σ (.v (.bool r)) .pure :=
 Cert.ofQuiet .pure (.inl rfl) hd fun ac g _ h _=>by
  obtain⟨e,ie,hau,k1,hsz,hu,hgd⟩:=hP
  have cells:∀{z:Operand} {c0 c1:Int},z∈o.op.operands→σ.ev z=some (.agg [.v (.int k c0),.v (.int k c1)])→ac.eval z=.agg #[.int k c0,.int k c1]:=fun {z c0 c1} hz hev=>by
   obtain⟨vs,e1,e2,e3⟩:=(h z hz _ hev).agg_inv
   rw [e1]
   congr 1
   have e2:vs.size=2:=e2
   have h0:vs[0]?=some (vs[0]'(by omega)):=by simp [e2]
   have h1:vs[1]?=some (vs[1]'(by omega)):=by simp [e2]
   have q0:=(e3.2 0 _ _ rfl h0).v_inv.1
   have q1:=(e3.2 1 _ _ rfl h1).v_inv.1
   apply Array.ext
   ·simp [e2]
   intro i hi1 hi2
   have:i=0∨i=1:=by
    simp at hi2
    omega
   rcases this with rfl | rfl
   ·simpa using q0
   simpa using q1
  have ex:=cells (by simp [ho,Op.operands]) hx
  have ey:=cells (by simp [ho,Op.operands]) hy
  have hg:=run_eqGuard_agg (P:=P) g.w op t x y #[.int k a0,.int k a1] #[.int k b0,.int k b1] hgd
  refine⟨.bool r,?_,.v trivial⟩
  have hc:P.cellsOf e=1:=by
   simp [Program.cellsOf,k1,hsz]
  have he':(Op.equal t (.agg #[.int k a0,.int k a1]) (.agg #[.int k b0,.int k b1])).run P g.w=.ok (decide (a0=b0)&&decide (a1=b1)) g.w:=by
   have e0:∃d,Op.equal t (.agg #[.int k a0,.int k a1]) (.agg #[.int k b0,.int k b1])=Op.equalIn (d+2) t (.agg #[.int k a0,.int k a1]) (.agg #[.int k b0,.int k b1]):=⟨9998,rfl⟩
   obtain⟨d,e0⟩:=e0
   rw [e0,run_equalIn_array g.w (d+1) _ _ hau k1,hc]
   have hi:∀(p q:Int),(Op.equalIn (d+1) e (.int k p) (.int k q)).run P g.w=.ok (decide (p=q)) g.w:=fun p q=>by
    have hpq:(p == q)=decide (p=q):=by
     by_cases hq:p=q
     ·simp [hq]
     simp [hq]
    simp [Op.equalIn,run_underlying hu,hpq]
   have p0:=run_part hu #[.int k a0,.int k a1] 0 (.int k a0) rfl g.w
   have p1:=run_part hu #[.int k a0,.int k a1] 1 (.int k a1) rfl g.w
   have s0:=run_part hu #[.int k b0,.int k b1] 0 (.int k b0) rfl g.w
   have s1:=run_part hu #[.int k b0,.int k b1] 1 (.int k b1) rfl g.w
   show(Op.eqItems (d+1) e 1 _ _ [0,1]).run P g.w=_
   simp only [Op.eqItems,Sem.run_bind,Nat.zero_mul,Nat.one_mul,p0,s0,p1,s1,hi,Result.andThen_ok]
   by_cases q0:a0=b0
   ·subst q0
    simp only [decide_true,Bool.not_true,Bool.false_eq_true,if_false,Bool.true_and,Sem.run_bind,p1,s1,hi,Result.andThen_ok]
    by_cases q1:a1=b1<;>simp [q1]
   simp [q0]
  rcases hr with⟨e1,e2⟩ | ⟨e1,e2⟩<;>subst e1<;>subst e2<;>simp [execOp,ho,ex,ey,hg,binOp,he']
structure Tag{α:Type}(a:α):Type where
def on{α:Type}(x:Option α)(f:α→Prop)(_t:Tag f:={}):Prop :=
 match x with
 | some y=>f y
 | none=>False
theorem on_some{α:Type}(y:α)(f:α→Prop)(t:Tag f):on (some y) f t=f y:=rfl
theorem on_elim{α:Type}{x:Option α}{f:α→Prop}{t:Tag f}(h:on x f t):∃y,x=some y∧f y:=by
 cases x with
 | none=>exact h.elim
 | some y=>exact⟨y,rfl,h⟩
def Later(p:Unit→Prop)(_t:Tag p:={}):Prop:=p ()
def At(σ:St)(f:St→Prop)(_t:Tag f:={}):Prop:=f σ
theorem at_intro{σ:St}{f:St→Prop}{t:Tag f}(h:f σ):At σ f t:=h
def vcIf(b:Bool)(X Y:Unit→Prop)(_t:Tag X:={})(_t':Tag Y:={}):Prop:=if b then X () else Y ()
theorem vcIf_true(X Y:Unit→Prop)(t:Tag X)(t':Tag Y):vcIf true X Y t t'=X ():=rfl
theorem vcIf_false(X Y:Unit→Prop)(t:Tag X)(t':Tag Y):vcIf false X Y t t'=Y ():=rfl
theorem vcIf_split{b:Bool}{X Y:Unit→Prop}{t:Tag X}{t':Tag Y}(h:b=true→X ())(k:b=false→Y ()):vcIf b X Y t t':=by
 cases b
 ·exact k rfl
 exact h rfl
abbrev Kont:=AVal→Mode→Prop
def isNil:Operand→Bool
 | .const (.slice none 0 0)=>true
 | _=>false
def vcMove(tab:Tab)(ty:TypeId)(x:Operand)(σ:St)(K:Kont):Prop :=
 match isNil x with
 | true=>on (tab ty) fun ti=>match ti.desc with
  | .slice e=>on (tab e) fun te=>K (.lst te.size [] .ex) .pure
  | _=>False
 | false=>on (σ.ev x) fun y=>K y .pure
def vcPick(σ:St)(c x z:Operand)(K:Kont):Prop :=
 on (σ.ev c) fun
  | .v (.bool b)=>vcIf b (fun _=>on (σ.ev x) fun y=>K y .pure) (fun _=>on (σ.ev z) fun y=>K y .pure)
  | _=>False
def vcFieldAddr(tab:Tab)(s:TypeId)(k:Nat)(x:AVal)(K:Kont):Prop :=
 on (tab s) fun ti=>match ti.desc with
  | .struct fs=>on fs[k]? fun f=>on (tab f.2) fun tf=>tf.size≠0 ∧
   match x with
   | .ip oa cs=>K (.ip (oa.map (·.add f.1)) (cs.drop f.1)) .pure
   | .mp id off=>K (.mp id (off+f.1)) .pure
   | _=>False
  | _=>False
def vcField(tab:Tab)(s:TypeId)(k:Nat)(x:AVal)(K:Kont):Prop :=
 on (tab s) fun ti=>match ti.desc with
  | .struct fs=>on fs[k]? fun f=>on (tab f.2) fun tf=>match x with
   | .agg cs=>vcIf tf.desc.agg (fun _=>K (.agg ((cs.drop f.1).take tf.size)) .pure) (fun _=>on cs[f.1]? fun r=>K r .pure)
   | _=>False
  | _=>False
def vcLoad(tab:Tab)(O:List AObj)(t:TypeId)(x:AVal)(K:Kont):Prop :=
 on (tab t) fun ti =>
  match x with
  | .ip _ cs=>vcIf ti.desc.agg (fun _=>ti.size≤cs.length∧K (.agg (cs.take ti.size)) .pure) (fun _=>on cs[0]? fun c=>K c .pure)
  | .mp id off=>on O[id]? fun
   | .cells os=>vcIf ti.desc.agg (fun _=>off+ti.size≤os.length∧K (.agg ((os.drop off).take ti.size)) (.rd id)) (fun _=>on os[off]? fun c=>K c (.rd id))
   | _=>False
  | _=>False
def vcStore(tab:Tab)(O:List AObj)(t:TypeId)(x y:AVal)(K:Kont):Prop :=
 on (tab t) fun ti =>
  match x with
  | .mp id off=>on O[id]? fun
   | .cells os=>y.flat∧y.cells.length=ti.size∧off+ti.size≤os.length∧K (.v (.bool false)) (.wr O.length [id] (O.set id (.cells (splice os off y.cells))))
   | _=>False
  | _=>False
def vcIndexAddr(tab:Tab)(t:TypeId)(x i:AVal)(K:Kont):Prop :=
 on (tab t) fun ti=>match ti.desc with
  | .slice e=>on (tab e) fun te =>
   match i with
   | .v (.int _ n) =>
    (match x with
    | .lst sz xs ow=>te.size=sz∧0≤n∧on xs[n.toNat]? fun y=>K (.ip (ownAt ow (n.toNat * te.size)) y.cells) .pure
    | .ms id off len _=>0≤n∧n<len∧K (.mp id (off+n.toNat * te.size)) .pure
    | .os id len _=>0≤n∧n<len∧K (.mp id (n.toNat * te.size)) .pure
    | _=>False)
   | _=>False
  | .array len e=>on (tab e) fun te =>
   match i with
   | .v (.int _ n) =>
    (match x with
    | .mp id off=>0≤n∧n<len∧K (.mp id (off+n.toNat * te.size)) .pure
    | _=>False)
   | _=>False
  | _=>False
def cmpStr:BinOp→ByteArray→ByteArray→Option Bool
 | .eql,a,b=>some (decide (a=b))
 | .neq,a,b=>some (!decide (a=b))
 | _,_,_=>none
def cmpBool:BinOp→Bool→Bool→Option Bool
 | .eql,a,b=>some (a == b)
 | .neq,a,b=>some (!(a == b))
 | _,_,_=>none
def vcInt(op:BinOp)(k:IntKind)(m n:Int)(K:Kont):Prop :=
 vcIf (cmpInt op m n).isSome (fun _=>on (cmpInt op m n) fun b=>K (.v (.bool b)) .pure) (fun _=>on (arithInt k op m n) fun r=>loK k≤r∧r≤hiK k∧K (.v (.int k r)) .pure)
def nilTest:BinOp→Bool→Option Bool
 | .eql,b=>some b
 | .neq,b=>some (!b)
 | _,_=>none
def ptrA:AVal→Option Bool
 | .v (.pointer none)=>some true
 | .ip _ _=>some false
 | .mp _ _=>some false
 | _=>none
theorem ptrA_spec{x:AVal}{b:Bool}(h:ptrA x=some b):(x=.v (.pointer none)∧b=true)∨(∃oa cs,x=.ip oa cs∧b=false)∨(∃id off,x=.mp id off∧b=false):=by
 unfold ptrA at h
 split at h
 ·exact .inl ⟨rfl,by simpa using h.symm⟩
 ·exact .inr (.inl ⟨_,_,rfl,by simpa using h.symm⟩)
 ·exact .inr (.inr ⟨_,_,rfl,by simpa using h.symm⟩)
 cases h
def vcPtr(P:Program)(op:BinOp)(t:TypeId)(x:AVal)(K:Kont):Prop :=
 (∃e,P.underlying t=some (.pointer e))∧on (ptrA x) fun b=>on (nilTest op b) fun r=>K (.v (.bool r)) .pure
def vcBin(P:Program)(op:BinOp)(t:TypeId)(x y:AVal)(K:Kont):Prop :=
 match x,y with
 | .v (.int k m),.v (.int k' n)=>vcIf (isShift op) (fun _=>0≤n∧loK k≤shiftInt k op m n∧shiftInt k op m n≤hiK k∧K (.v (.int k (shiftInt k op m n))) .pure) (fun _=>k=k'∧vcInt op k m n K)
 | .v (.string a),.v (.string b)=>on (cmpStr op a b) fun r=>K (.v (.bool r)) .pure
 | .v (.bool a),.v (.bool b)=>P.underlying t=some .bool∧on (cmpBool op a b) fun r=>K (.v (.bool r)) .pure
 | x,.v (.pointer none)=>vcPtr P op t x K
 | .ip (some a) _,.ip (some b) _=>(∃e n,P.underlying t=some (.pointer e)∧(∀w,(sizeOf e).run P w=.ok n w)∧n≠0)∧a.block=b.block∧on (cmpAddr op a b) fun r=>K (.v (.bool r)) .pure
 | .agg [.v (.int k a0),.v (.int k1 a1)],.agg [.v (.int k2 b0),.v (.int k3 b1)]=>(k1=k∧k2=k∧k3=k∧PairOK P t k)∧on (nilTest op (decide (a0=b0)&&decide (a1=b1))) fun r=>K (.v (.bool r)) .pure
 | _,_=>False
def TD.elem:TD→Option TypeId
 | .slice e=>some e
 | _=>none
theorem TD.elem_spec{d:TD}{e:TypeId}(h:d.elem=some e):d=.slice e:=by
 cases d<;>simp [TD.elem] at h
 rw [h]
def nilA:AVal→Option Bool
 | .v (.slice none 0 0)=>some true
 | .lst _ _ .nn=>some false
 | .ms _ _ _ _=>some false
 | _=>none
def vcNil(tab:Tab)(op:BinOp)(t:TypeId)(x:AVal)(K:Kont):Prop :=
 on (tab t) fun ti=>on ti.desc.elem fun _=>on (nilA x) fun b=>on (nilTest op b) fun r=>K (.v (.bool r)) .pure
def vcUn(op:UnOp)(x:AVal)(K:Kont):Prop :=
 match op,x with
 | .not,.v (.bool b)=>K (.v (.bool !b)) .pure
 | .neg,.v (.int k n)=>loK k≤-n∧-n≤hiK k∧K (.v (.int k (-n))) .pure
 | _,_=>False
def bnd(σ:St)(p:Option Operand)(dflt:Nat)(K:Nat→Prop):Prop :=
 match p with
 | none=>K dflt
 | some q=>on (σ.ev q) fun
  | .v (.int _ n)=>0≤n∧K n.toNat
  | _=>False
def vcCut(sz:Nat)(xs:List AVal)(o:Own)(l h:Nat)(K:Kont):Prop :=
 match o with
 | .ex=>vcIf (decide (l=0)&&decide (h=xs.length)) (fun _=>K (.lst sz xs .ex) .pure) (fun _=>K (.lst sz ((xs.take h).drop l) .sh) .pure)
 | _=>K (.lst sz ((xs.take h).drop l) .sh) .pure
theorem vcCut_elim{sz:Nat}{xs:List AVal}{o:Own}{l h:Nat}{K:Kont}(k:vcCut sz xs o l h K):(o=.ex∧l=0∧h=xs.length∧K (.lst sz xs .ex) .pure)∨K (.lst sz ((xs.take h).drop l) .sh) .pure:=by
 unfold vcCut at k
 split at k
 ·by_cases hf:(decide (l=0)&&decide (h=xs.length))=true
  ·rw [hf,vcIf_true] at k
   simp only [Bool.and_eq_true,decide_eq_true_eq] at hf
   exact .inl ⟨rfl,hf.1,hf.2,k⟩
  rw [show(decide (l=0)&&decide (h=xs.length))=false by simpa using hf,vcIf_false] at k
  exact .inr k
 exact .inr k
def vcSlice(tab:Tab)(σ:St)(t:TypeId)(x:AVal)(lo hi mx:Option Operand)(K:Kont):Prop :=
 on (tab t) fun ti=>match ti.desc with
  | .slice e=>on (tab e) fun te =>
   match x,mx with
   | .lst sz xs ow,none=>te.size=sz∧bnd σ lo 0 fun l=>bnd σ hi xs.length fun h=>l≤h∧h≤xs.length∧vcCut sz xs ow l h K
   | .ms id off len cap,none=>bnd σ lo 0 fun l=>bnd σ hi len fun h=>l≤h∧h≤cap∧l<cap∧h≤2 ^ 62∧K (.ms id (off+l * te.size) (h - l) (cap - l)) .pure
   | .raw sz len id,none=>0<len∧bnd σ lo 0 fun l=>bnd σ hi len fun h=>l=0∧h=0∧K (.lst sz [] (.tok id)) .pure
   | .os id len sz,none=>bnd σ lo 0 fun l=>bnd σ hi len fun h=>l=0∧h≤len∧0<len∧K (.os id h sz) .pure
   | _,_=>False
  | _=>False
def allFlat:List (Nat×AVal)→Prop
 | []=>True
 | p::r=>p.2.flat∧allFlat r
def allSize(n:Nat):List AVal→Prop
 | []=>True
 | x::r=>x.cells.length=n∧allSize n r
def vcBuild(tab:Tab)(σ:St)(t:TypeId)(parts:Array (Nat×Operand))(K:Kont):Prop :=
 on (tab t) fun ti=>match ti.desc with
  | .struct fs=>on (placesOf tab fs) fun pl=>on (σ.evParts parts.toList) fun ps=>allFlat ps∧on (fillA (fun i=>pl[i]?) ti.zero ps) fun cs=>K (.agg cs) .pure
  | .array _ e=>on (tab e) fun te=>on (σ.evParts parts.toList) fun ps=>allFlat ps∧on (fillA (fun i=>some (i * te.size,te.size)) ti.zero ps) fun cs=>K (.agg cs) .pure
  | _=>False
def vcBuildSlice(tab:Tab)(σ:St)(t:TypeId)(len:Nat)(parts:Array (Nat×Operand))(K:Kont):Prop :=
 on (tab t) fun ti=>match ti.desc with
  | .slice e=>on (tab e) fun te=>on (σ.evParts parts.toList) fun ps=>allFlat ps∧on (seqParts 0 ps) fun xs=>0<te.size∧xs.length=len∧allSize te.size xs∧len * te.size≤2 ^ 24∧K (.lst te.size (xs.map AVal.share) .ex) .pure
  | _=>False
structure Md where
 app:Bool
 made:Bool
def vcMakeSlice(mk:Bool)(tab:Tab)(O:List AObj)(t:TypeId)(x y:AVal)(K:Kont):Prop :=
 on (tab t) fun ti=>match ti.desc with
  | .slice e=>on (tab e) fun te =>
   match x,y with
   | .v (.int _ n),.v (.int _ n')=>n'=n∧0≤n∧te.bytes * n.toNat≤2 ^ 48∧n.toNat≤2 ^ 62∧0<te.size ∧
     vcIf mk (fun _=>(te.desc.agg=true∨te.size=1)∧K (.lst te.size (List.replicate n.toNat (zeroOf te).share) .ex) .pure)
      (fun _=>K (.ms O.length 0 n.toNat n.toNat) (.wr O.length [] (O++[.cells (List.replicate n.toNat te.zero).flatten])))
   | _,_=>False
  | _=>False
def ktOf(P:Program)(k:TypeId):Option KT :=
 match P.underlying k with
 | some .string=>some .str
 | some (.int k)=>some (.int k)
 | _=>none
def vcLookup(P:Program)(tab:Tab)(O:List AObj)(t:TypeId)(x y:AVal)(ok:Bool)(K:Kont):Prop :=
 on (tab t) fun ti=>match ti.desc with
  | .map k e=>on (ktOf P k) fun kt=>on (tab e) fun te=>(te.desc.agg=true∨te.size=1) ∧
   match y with
   | .v key=>kt.ok key ∧
    (match x with
    | .im kt' es=>kt'=kt∧K (lookRes ok (lookV es key) (zeroOf te)) .pure
    | .mm id=>on O[id]? fun
     | .map kt' es=>kt'=kt∧K (lookRes ok (lookV es key) (zeroOf te)) (.rd id)
     | _=>False
    | .v (.map none)=>K (lookRes ok none (zeroOf te)) .pure
    | _=>False)
   | _=>False
  | _=>False
def vcMapUpdate(P:Program)(tab:Tab)(O:List AObj)(t:TypeId)(x y v:AVal)(K:Kont):Prop :=
 on (tab t) fun ti=>match ti.desc with
  | .map k _=>on (ktOf P k) fun kt =>
   match x,y with
   | .mm id,.v key=>kt.ok key∧on O[id]? fun
    | .map kt' es=>kt'=kt∧K (.v (.bool false)) (.wr O.length [id] (O.set id (.map kt (putV es key v))))
    | _=>False
   | _,_=>False
  | _=>False
def vcMakeMap(P:Program)(tab:Tab)(O:List AObj)(t:TypeId)(K:Kont):Prop :=
 on (tab t) fun ti=>match ti.desc with
  | .map k _=>on (ktOf P k) fun kt=>K (.mm O.length) (.wr O.length [] (O++[.map kt []]))
  | _=>False
def lenA:AVal→Option Nat
 | .lst _ xs _=>some xs.length
 | .ms _ _ len _=>some len
 | .os _ len _=>some len
 | _=>none
def vcLen(tab:Tab)(t:TypeId)(x:AVal)(K:Kont):Prop :=
 on (tab t) fun ti=>on ti.desc.elem fun _=>on (lenA x) fun n=>K (.v (.int .i64 n)) .pure
theorem lenA_spec{x:AVal}{n:Nat}(h:lenA x=some n):(∃sz xs ow,x=.lst sz xs ow∧n=xs.length)∨(∃id off cap,x=.ms id off n cap)∨∃id sz,x=.os id n sz:=by
 cases x<;>simp [lenA] at h
 ·exact .inl ⟨_,_,_,rfl,h.symm⟩
 ·subst h
  exact .inr (.inl ⟨_,_,_,rfl⟩)
 subst h
 exact .inr (.inr ⟨_,_,rfl⟩)
def vcAppend(P:Program)(mk:Bool)(md:Bool)(tab:Tab)(O:List AObj)(t t':TypeId)(x y:AVal)(K:Kont):Prop :=
 on (tab t) fun ti=>on ti.desc.elem fun e=>on (tab e) fun te =>
   match x,y with
   | .lst sz xs .ex,.lst sz' ys _=>t'=t∧te.size=sz∧sz'=sz∧xs.length+ys.length≤2 ^ 62∧(xs.length+ys.length) * te.bytes≤2 ^ 47 ∧
     vcIf md (fun _=>ys.length≠0∧vcIf mk (fun _=>K (.os O.length (xs.length+ys.length) sz) (.wr O.length [] (O++[.cells (cellsAll (xs++ys.map AVal.share))])))
       (fun _=>K (.ms O.length 0 (xs.length+ys.length) (xs.length+ys.length)) (.wr O.length [] (O++[.cells (cellsAll (xs++ys.map AVal.share))]))))
      (fun _=>K (.lst sz (xs++ys.map AVal.share) (.tok O.length)) (.wr O.length [] (O++[.spare (xs.length+ys.length)])))
   | .lst sz xs (.tok id),.lst sz' ys _=>t'=t∧te.size=sz∧sz'=sz∧O[id]?=some (.spare xs.length)∧xs.length+ys.length≤2 ^ 62∧(xs.length+ys.length) * te.bytes≤2 ^ 47 ∧
     K (.lst sz (xs++ys.map AVal.share) (.tok id)) (.wr O.length [id] (O.set id (.spare (xs.length+ys.length))))
   | .lst _ xs .ex,.v (.int k n)=>xs=[]∧k=.i64∧P.underlying t'=some (.int .i64)∧0<n∧n.toNat≤2 ^ 62∧n.toNat * te.bytes≤2 ^ 47∧0<te.size ∧
     vcIf md (fun _=>K (.raw te.size n.toNat O.length) (.wr O.length [] (O++[.spare 0])))
      (fun _=>K (.ms O.length 0 n.toNat n.toNat) (.wr O.length [] (O++[.cells (List.replicate n.toNat te.zero).flatten])))
   | .ms id off len cap,.lst sz ys _=>t'=t∧te.size=sz∧on O[id]? fun
    | .cells cs=>len+ys.length≤cap∧len+ys.length≤2 ^ 62∧off+(len+ys.length) * sz≤cs.length ∧
     K (.ms id off (len+ys.length) cap) (.wr O.length [id] (O.set id (.cells (splice cs (off+len * sz) (cellsAll (ys.map AVal.share))))))
    | _=>False
   | .os id len sz,.lst sz' ys _=>t'=t∧te.size=sz∧sz'=sz∧on O[id]? fun
    | .cells cs=>len * sz≤cs.length∧ys.length≠0∧len+ys.length≤2 ^ 62∧(len+ys.length) * te.bytes≤2 ^ 47 ∧
     K (.os O.length (len+ys.length) sz) (.wr O.length [id] (O.set id .gone++[.cells (cs.take (len * sz)++cellsAll (ys.map AVal.share))]))
    | _=>False
   | _,_=>False
def capA:AVal→Option Nat
 | .lst _ xs .ex=>some xs.length
 | _=>none
theorem capA_spec{x:AVal}{n:Nat}(h:capA x=some n):∃sz xs,x=.lst sz xs .ex∧n=xs.length:=by
 unfold capA at h
 split at h
 ·exact⟨_,_,rfl,by simpa using h.symm⟩
 cases h
def vcCap(tab:Tab)(t:TypeId)(x:AVal)(K:Kont):Prop :=
 on (tab t) fun ti=>on ti.desc.elem fun _=>on (capA x) fun n=>K (.v (.int .i64 n)) .pure
def vcClear(tab:Tab)(O:List AObj)(t:TypeId)(x:AVal)(K:Kont):Prop :=
 on (tab t) fun ti=>on ti.desc.elem fun e=>on (tab e) fun te=>match x with
  | .ms id off len _=>on O[id]? fun
   | .cells cs=>0<len∧0<te.size∧off+len * te.size≤cs.length∧K (.tup []) (.wr O.length [id] (O.set id (.cells (splice cs off (List.replicate len te.zero).flatten))))
   | _=>False
  | _=>False
def vcTop(x y:AVal)(K:Kont):Prop :=
 match x,y with
 | .v (.int .i64 m),.v (.int .i64 n)=>K (.v (.int .i64 (max m n))) .pure
 | _,_=>False
def vcLow(x y:AVal)(K:Kont):Prop :=
 match x,y with
 | .v (.int .i64 m),.v (.int .i64 n)=>K (.v (.int .i64 (min m n))) .pure
 | _,_=>False
theorem cert_top{P:Program}{o:Oper}{σ:St}{ats:Array TypeId}{x y:Operand}{m n:Int}
  (ho:o.op=.call ⟨.builtin .max,#[x,y],ats⟩) (hd:∀d,o.dst=some d→d<σ.n) (hx:σ.ev x=some (.v (.int .i64 m))) (hy:σ.ev y=some (.v (.int .i64 n))):Cert P o σ (.v (.int .i64 (max m n))) .pure :=
 Cert.ofQuiet .pure (.inl rfl) hd fun a g _ h _=>by
  obtain⟨ex,fx⟩:=(h x (by simp [ho,Op.operands,Call.operands]) _ hx).v_inv
  obtain⟨ey,fy⟩:=(h y (by simp [ho,Op.operands,Call.operands]) _ hy).v_inv
  refine⟨.int .i64 (max m n),?_,.v ?_⟩
  ·rw [run_builtin1 ho]
   have e:(if n > m then n else m)=max m n:=by
    split<;>omega
   simp [builtin,Builtin.max_,Builtin.max2,ex,ey,e]
  rcases Int.le_total m n with q | q
  ·rw [Int.max_eq_right q]
   exact fy
  rw [Int.max_eq_left q]
  exact fx
theorem cert_low{P:Program}{o:Oper}{σ:St}{ats:Array TypeId}{x y:Operand}{m n:Int}
  (ho:o.op=.call ⟨.builtin .min,#[x,y],ats⟩) (hd:∀d,o.dst=some d→d<σ.n) (hx:σ.ev x=some (.v (.int .i64 m))) (hy:σ.ev y=some (.v (.int .i64 n))):Cert P o σ (.v (.int .i64 (min m n))) .pure :=
 Cert.ofQuiet .pure (.inl rfl) hd fun a g _ h _=>by
  obtain⟨ex,fx⟩:=(h x (by simp [ho,Op.operands,Call.operands]) _ hx).v_inv
  obtain⟨ey,fy⟩:=(h y (by simp [ho,Op.operands,Call.operands]) _ hy).v_inv
  refine⟨.int .i64 (min m n),?_,.v ?_⟩
  ·rw [run_builtin1 ho]
   have e:(if n<m then n else m)=min m n:=by
    split<;>omega
   simp [builtin,Builtin.min_,Builtin.min2,ex,ey,e]
  rcases Int.le_total m n with q | q
  ·rw [Int.min_eq_left q]
   exact fx
  rw [Int.min_eq_right q]
  exact fy
def vcCall(P:Program)(O:List AObj)(f:AVal)(ars:List AVal)(K:Kont):Prop :=
 match f with
 | .fn (.func id) fs cs =>
  (∃r,PCall P id ((fs++ars++cs).map AVal.share) r∧uptoL 0 ((fs++ars++cs).map AVal.share)∧Later fun _=>K r .pure) ∨
  (∃r O',(ECall P id O (fs++ars++cs) fun r' O1=>r'=r∧O1=O')∧((Later fun _=>K r (.write O'))∨∃n l,(∀i,i<n→i ∉ l→O'[i]?=O[i]?)∧Later fun _=>K r (.wr n l O'))) ∨
  (∃r,(ECall P id O (fs++ars++cs) fun r' O1=>r'=r∧O1=O)∧Later fun _=>K r .read)
 | _=>False
def vcCallOp(P:Program)(tab:Tab)(md:Md)(dst:Option Nat)(σ:St)(callee:Callee)(args:List Operand)(ats:List TypeId)(K:Kont):Prop :=
 match callee with
 | .value f=>on (σ.ev f) fun f=>on (σ.evs args) fun ars=>vcCall P σ.objs f ars K
 | .builtin .len =>
  (match args,ats with
  | [x],[t]=>on (σ.ev x) fun x=>vcLen tab t x K
  | _,_=>False)
 | .builtin .append =>
  (match args,ats with
  | [x,y],[t,t']=>on (σ.ev x) fun x=>on (σ.ev y) fun y=>vcAppend P md.made md.app tab σ.objs t t' x y K
  | _,_=>False)
 | .builtin .cap =>
  (match args,ats with
  | [x],[t]=>on (σ.ev x) fun x=>vcCap tab t x K
  | _,_=>False)
 | .builtin .clear =>
  (match args,ats with
  | [x],[t]=>dst=none∧on (σ.ev x) fun x=>vcClear tab σ.objs t x K
  | _,_=>False)
 | .builtin .max =>
  (match args with
  | [x,y]=>on (σ.ev x) fun x=>on (σ.ev y) fun y=>vcTop x y K
  | _=>False)
 | .builtin .min =>
  (match args with
  | [x,y]=>on (σ.ev x) fun x=>on (σ.ev y) fun y=>vcLow x y K
  | _=>False)
 | _=>False
def vcNilCheck(y:AVal)(K:Kont):Prop :=
 match y with
 | .mp id off=>K (.mp id off) .pure
 | .ip oa cs=>K (.ip oa cs) .pure
 | _=>False
def vcOp(P:Program)(tab:Tab)(md:Md)(o:Oper)(σ:St)(K:Kont):Prop :=
 match o.op with
 | .move x=>vcMove tab o.type x σ K
 | .assign x=>vcMove tab o.type x σ K
 | .pick c x z=>vcPick σ c x z K
 | .fieldAddr s x k=>on (σ.ev x) fun x=>vcFieldAddr tab s k x K
 | .field s x k=>on (σ.ev x) fun x=>vcField tab s k x K
 | .load t x=>on (σ.ev x) fun x=>vcLoad tab σ.objs t x K
 | .store t x y=>o.dst=none∧on (σ.ev x) fun x=>on (σ.ev y) fun y=>vcStore tab σ.objs t x y K
 | .indexAddr t x i=>on (σ.ev x) fun x=>on (σ.ev i) fun i=>vcIndexAddr tab t x i K
 | .binOp op t x y _=>vcIf (isNil y) (fun _=>on (σ.ev x) fun x=>vcNil tab op t x K) (fun _=>on (σ.ev x) fun x=>on (σ.ev y) fun y=>vcBin P op t x y K)
 | .unOp op _ x=>on (σ.ev x) fun x=>vcUn op x K
 | .slice t x lo hi mx=>on (σ.ev x) fun x=>vcSlice tab σ t x lo hi mx K
 | .build t parts=>vcBuild tab σ t parts K
 | .buildSlice t len parts=>vcBuildSlice tab σ t len parts K
 | .alloc t=>on (tab t) fun ti=>K (.mp σ.objs.length 0) (.wr σ.objs.length [] (σ.objs++[.cells ti.zero]))
 | .box _ x=>on (σ.ev x) fun y=>y.flat∧K (.mp σ.objs.length 0) (.wr σ.objs.length [] (σ.objs++[.cells y.cells]))
 | .makeMap t none=>vcMakeMap P tab σ.objs t K
 | .makeSlice t x y=>on (σ.ev x) fun x=>on (σ.ev y) fun y=>vcMakeSlice md.made tab σ.objs t x y K
 | .makeFunc f first captured=>on (σ.evs first.toList) fun fs=>on (σ.evs captured.toList) fun cs=>K (.fn f fs cs) .pure
 | .lookup t x y ok=>on (σ.ev x) fun x=>on (σ.ev y) fun y=>vcLookup P tab σ.objs t x y ok K
 | .mapUpdate t x y v=>o.dst=none∧on (σ.ev x) fun x=>on (σ.ev y) fun y=>on (σ.ev v) fun v=>vcMapUpdate P tab σ.objs t x y v K
 | .insert t x y v=>o.dst=none∧on (σ.ev x) fun x=>on (σ.ev y) fun y=>on (σ.ev v) fun v=>vcMapUpdate P tab σ.objs t x y v K
 | .extract x k=>on (σ.ev x) fun
  | .tup cs=>on cs[k]? fun r=>K r .pure
  | _=>False
 | .call c=>vcCallOp P tab md o.dst σ c.callee c.args.toList c.argTypes.toList K
 | .nilCheck x=>on (σ.ev x) fun y=>vcNilCheck y K
 | _=>False
theorem keep_append{O X:List AObj}:∀i,i<O.length→i ∉ ([]:List Nat)→(O++X)[i]?=O[i]?:=fun _ hi _=>List.getElem?_append_left hi
theorem keep_set{O:List AObj}{id:Nat}{x:AObj}:∀i,i<O.length→i ∉ [id]→(O.set id x)[i]?=O[i]?:=fun i _ hl=>List.getElem?_set_ne (fun e=>hl (by simp [e]))
theorem keep_move{O:List AObj}{id:Nat}{x y:AObj}:∀i,i<O.length→i ∉ [id]→(O.set id x++[y])[i]?=O[i]?:=fun i hi hl=>by
 rw [List.getElem?_append_left (by simpa using hi)]
 exact List.getElem?_set_ne (fun e=>hl (by simp [e]))
theorem isNil_spec{x:Operand}(hn:isNil x=true):x=.const (.slice none 0 0):=by
 unfold isNil at hn
 split at hn
 ·rfl
 cases hn
theorem nilA_spec{y:AVal}{b:Bool}(h:nilA y=some b):(y=.v (.slice none 0 0)∧b=true)∨(∃sz xs,y=.lst sz xs .nn∧b=false)∨(∃id off len cap,y=.ms id off len cap∧b=false):=by
 unfold nilA at h
 split at h
 ·exact .inl ⟨rfl,by simpa using h.symm⟩
 ·exact .inr (.inl ⟨_,_,rfl,by simpa using h.symm⟩)
 ·exact .inr (.inr ⟨_,_,_,_,rfl,by simpa using h.symm⟩)
 cases h
theorem nilTest_spec{op:BinOp}{b r:Bool}(h:nilTest op b=some r):(op=.eql∧r=b)∨(op=.neq∧r=!b):=by
 unfold nilTest at h
 split at h
 ·exact .inl ⟨rfl,by simpa using h.symm⟩
 ·exact .inr ⟨rfl,by simpa using h.symm⟩
 cases h
theorem vcMove_sound{P:Program}{tab:Tab}{o:Oper}{σ:St}{x:Operand}{K:Kont}(ho:o.op=.move x∨o.op=.assign x)(hd:∀d,o.dst=some d→d<σ.n)(h:vcMove tab o.type x σ K):∃r m,Cert P o σ r m∧K r m:=by
 unfold vcMove at h
 cases hn:isNil x with
 | true =>
  have hx:x=.const (.slice none 0 0):=by
   unfold isNil at hn
   split at hn
   ·rfl
   cases hn
  subst hx
  simp only [hn] at h
  obtain⟨ti,_,h⟩:=on_elim h
  split at h
  ·obtain⟨te,_,h⟩:=on_elim h
   exact⟨_,_,cert_nil te.size ho hd,h⟩
  exact h.elim
 | false =>
  simp only [hn] at h
  obtain⟨y,hy,h⟩:=on_elim h
  exact⟨_,_,cert_move ho hd hy,h⟩
theorem ktOf_spec{P:Program}{k:TypeId}{kt:KT}(h:ktOf P k=some kt):∃d,P.underlying k=some d∧kt.desc d:=by
 unfold ktOf at h
 split at h
 ·simp only [Option.some.injEq] at h
  subst h
  exact⟨_,by assumption,rfl⟩
 ·simp only [Option.some.injEq] at h
  subst h
  exact⟨_,by assumption,rfl⟩
 cases h
theorem allFlat_spec:∀{l:List (Nat×AVal)},allFlat l→∀p∈l,p.2.flat
 | [],_,p,hp=>by cases hp
 | q::r,h,p,hp=>by
  rcases List.mem_cons.1 hp with e | e
  ·subst e
   exact h.1
  exact allFlat_spec h.2 p e
theorem allSize_spec{n:Nat}:∀{l:List AVal},allSize n l→∀x∈l,x.cells.length=n
 | [],_,p,hp=>by cases hp
 | q::r,h,p,hp=>by
  rcases List.mem_cons.1 hp with e | e
  ·subst e
   exact h.1
  exact allSize_spec h.2 p e
theorem bnd_spec{σ:St}{p:Option Operand}{dflt:Nat}{K:Nat→Prop}(h:bnd σ p dflt K):∃n,bndOK σ p dflt n∧K n:=by
 unfold bnd at h
 split at h
 ·exact⟨dflt,.inl ⟨rfl,rfl⟩,h⟩
 rename_i q
 obtain⟨y,hy,h⟩:=on_elim h
 split at h
 ·rename_i k n
  obtain⟨h1,h2⟩:=h
  exact⟨n.toNat,.inr ⟨q,k,rfl,by rw [Int.toNat_of_nonneg h1];exact hy⟩,h2⟩
 exact h.elim
theorem vcInt_sound{P:Program}{o:Oper}{σ:St}{op:BinOp}{t t':TypeId}{x y:Operand}{k:IntKind}{m n:Int}{K:Kont}(ho:o.op=.binOp op t x y t')(hd:∀d,o.dst=some d→d<σ.n)(hx:σ.ev x=some (.v (.int k m)))(hy:σ.ev y=some (.v (.int k n)))
  (h:vcInt op k m n K):∃r m,Cert P o σ r m∧K r m:=by
 unfold vcInt at h
 cases hcmp:cmpInt op m n with
 | some b =>
  simp only [hcmp,Option.isSome_some,vcIf_true,on_some] at h
  exact⟨_,_,cert_cmpInt ho hd hx hy hcmp,h⟩
 | none =>
  simp only [hcmp,Option.isSome_none,vcIf_false] at h
  obtain⟨r,hr,h1,h2,h⟩:=on_elim h
  rw [loK_eq] at h1
  rw [hiK_eq] at h2
  exact⟨_,_,cert_arithInt ho hd hx hy hr h1 h2,h⟩
theorem vcOp_sound{P:Program}{tab:Tab}{md:Md}(hT:TabOK P tab){o:Oper}{σ:St}{K:Kont}(hd:∀d,o.dst=some d→d<σ.n)(h:vcOp P tab md o σ K):∃r m,Cert P o σ r m∧K r m:=by
 unfold vcOp at h
 split at h
 case h_1 x ho=>exact vcMove_sound (.inl ho) hd h
 case h_2 x ho=>exact vcMove_sound (.inr ho) hd h
 case h_3 c x z ho =>
  unfold vcPick at h
  obtain⟨y,hy,h⟩:=on_elim h
  split at h
  ·rename_i b
   cases b
   ·rw [vcIf_false] at h
    obtain⟨r,hr,h⟩:=on_elim h
    exact⟨_,_,cert_pick ho hd hy (by simp) (fun _=>hr),h⟩
   rw [vcIf_true] at h
   obtain⟨r,hr,h⟩:=on_elim h
   exact⟨_,_,cert_pick ho hd hy (fun _=>hr) (by simp),h⟩
  exact h.elim
 case h_4 s x k ho =>
  obtain⟨y,hy,h⟩:=on_elim h
  unfold vcFieldAddr at h
  obtain⟨ti,ht,h⟩:=on_elim h
  split at h
  ·rename_i fs hdesc
   obtain⟨f,hf,h⟩:=on_elim h
   obtain⟨tf,htf,hz,h⟩:=on_elim h
   split at h
   ·exact⟨_,_,cert_fieldAddr_ip hT ho hd ht hdesc hf htf hz hy,h⟩
   ·exact⟨_,_,cert_fieldAddr_mp hT ho hd ht hdesc hf htf hz hy,h⟩
   exact h.elim
  exact h.elim
 case h_5 s x k ho =>
  obtain⟨y,hy,h⟩:=on_elim h
  unfold vcField at h
  obtain⟨ti,ht,h⟩:=on_elim h
  split at h
  ·rename_i fs hdesc
   obtain⟨f,hf,h⟩:=on_elim h
   obtain⟨tf,htf,h⟩:=on_elim h
   split at h
   ·cases hagg:tf.desc.agg with
    | true =>
     simp only [hagg,vcIf_true] at h
     exact⟨_,_,cert_field hT ho hd ht hdesc hf htf hy (by rw [if_pos hagg]),h⟩
    | false =>
     simp only [hagg,vcIf_false] at h
     obtain⟨r,hr,h⟩:=on_elim h
     exact⟨_,_,cert_field hT ho hd ht hdesc hf htf hy (by rw [if_neg (by simp [hagg])];exact hr),h⟩
   exact h.elim
  exact h.elim
 case h_6 t x ho =>
  obtain⟨y,hy,h⟩:=on_elim h
  unfold vcLoad at h
  obtain⟨ti,ht,h⟩:=on_elim h
  split at h
  ·cases hagg:ti.desc.agg with
   | true =>
    simp only [hagg,vcIf_true] at h
    exact⟨_,_,cert_load_ip hT ho hd ht hy hagg h.1,h.2⟩
   | false =>
    simp only [hagg,vcIf_false] at h
    obtain⟨c,hc,h⟩:=on_elim h
    exact⟨_,_,cert_load_ip1 hT ho hd ht hy hagg hc,h⟩
  ·obtain⟨os,hos,h⟩:=on_elim h
   split at h
   ·cases hagg:ti.desc.agg with
    | true =>
     simp only [hagg,vcIf_true] at h
     exact⟨_,_,cert_load_mp hT ho hd ht hy hos hagg h.1,h.2⟩
    | false =>
     simp only [hagg,vcIf_false] at h
     obtain⟨c,hc,h⟩:=on_elim h
     exact⟨_,_,cert_load_mp1 hT ho hd ht hy hos hagg hc,h⟩
   exact h.elim
  exact h.elim
 case h_7 t x y ho =>
  obtain⟨hdst,h⟩:=h
  obtain⟨x',hx,h⟩:=on_elim h
  obtain⟨y',hy,h⟩:=on_elim h
  unfold vcStore at h
  obtain⟨ti,ht,h⟩:=on_elim h
  split at h
  ·obtain⟨os,hos,h⟩:=on_elim h
   split at h
   ·obtain⟨h1,h2,h3,h⟩:=h
    exact⟨_,_,(cert_store hT ho hdst ht hx hos hy h1 h2 h3).close keep_set,h⟩
   exact h.elim
  exact h.elim
 case h_8 t x i ho =>
  obtain⟨x',hx,h⟩:=on_elim h
  obtain⟨i',hi,h⟩:=on_elim h
  unfold vcIndexAddr at h
  obtain⟨ti,ht,h⟩:=on_elim h
  split at h
  ·rename_i e hdesc
   obtain⟨te,he,h⟩:=on_elim h
   split at h
   ·split at h
    ·obtain⟨h1,h2,h⟩:=h
     obtain⟨y,h3,h⟩:=on_elim h
     exact⟨_,_,cert_indexAddr_lst hT ho hd ht hdesc he h1 hx hi h2 h3,h⟩
    ·obtain⟨h1,h2,h⟩:=h
     exact⟨_,_,cert_indexAddr_ms hT ho hd ht hdesc he hx hi h1 h2,h⟩
    ·obtain⟨h1,h2,h⟩:=h
     exact⟨_,_,cert_indexAddr_os hT ho hd ht hdesc he hx hi h1 h2,h⟩
    exact h.elim
   exact h.elim
  ·rename_i len e hdesc
   obtain⟨te,he,h⟩:=on_elim h
   split at h
   ·split at h
    ·obtain⟨h1,h2,h⟩:=h
     exact⟨_,_,cert_indexAddr_arr hT ho hd ht hdesc he hx hi h1 h2,h⟩
    exact h.elim
   exact h.elim
  exact h.elim
 case h_9 op t x y t' ho =>
  cases hn:isNil y with
  | true =>
   simp only [hn,vcIf_true] at h
   have hy:=isNil_spec hn
   subst hy
   obtain⟨x',hx,h⟩:=on_elim h
   unfold vcNil at h
   obtain⟨ti,ht,h⟩:=on_elim h
   obtain⟨e,hdesc,h⟩:=on_elim h
   obtain⟨b,hb,h⟩:=on_elim h
   obtain⟨r,hr,h⟩:=on_elim h
   exact⟨_,_,cert_eqlNil hT ho hd ht (TD.elem_spec hdesc) hx (nilA_spec hb) (nilTest_spec hr),h⟩
  | false =>
  simp only [hn,vcIf_false] at h
  obtain⟨x',hx,h⟩:=on_elim h
  obtain⟨y',hy,h⟩:=on_elim h
  unfold vcBin at h
  split at h
  ·cases hs:isShift op with
   | true =>
    simp only [hs,vcIf_true] at h
    obtain⟨h0,h1,h2,h⟩:=h
    rw [loK_eq] at h1
    rw [hiK_eq] at h2
    exact⟨_,_,cert_shiftInt ho hd hx hy hs h0 h1 h2,h⟩
   | false =>
    simp only [hs,vcIf_false] at h
    obtain⟨hk,h⟩:=h
    subst hk
    exact vcInt_sound ho hd hx hy h
  ·obtain⟨r,hr,h⟩:=on_elim h
   refine⟨_,_,cert_eqString ho hd hx hy ?_,h⟩
   cases op<;>simp [cmpStr] at hr<;>simp [hr]
  ·obtain⟨hb,h⟩:=h
   obtain⟨r,hr,h⟩:=on_elim h
   refine⟨_,_,cert_eqBool ho hd hb hx hy ?_,h⟩
   cases op<;>simp [cmpBool] at hr<;>simp [hr]
  ·obtain⟨⟨e,he⟩,h⟩:=h
   obtain⟨b,hb,h⟩:=on_elim h
   obtain⟨r,hr,h⟩:=on_elim h
   exact⟨_,_,cert_eqPtrNil ho hd he hx hy (ptrA_spec hb) (nilTest_spec hr),h⟩
  ·obtain⟨⟨e,n,he,hn,hn0⟩,hab,h⟩:=h
   obtain⟨r,hr,h⟩:=on_elim h
   exact⟨_,_,cert_eqAddr ho hd he hn hn0 hx hy hab hr,h⟩
  ·obtain⟨⟨k1,k2,k3,hP⟩,h9⟩:=h
   obtain⟨r,hr,h8⟩:=on_elim h9
   subst k1
   subst k2
   subst k3
   exact⟨_,_,cert_eqPair ho hd hP hx hy (nilTest_spec hr),h8⟩
  exact h.elim
 case h_10 op t x ho =>
  obtain⟨x',hx,h⟩:=on_elim h
  unfold vcUn at h
  split at h
  ·exact⟨_,_,cert_not ho hd hx,h⟩
  ·obtain⟨h1,h2,h⟩:=h
   rw [loK_eq] at h1
   rw [hiK_eq] at h2
   exact⟨_,_,cert_neg ho hd hx h1 h2,h⟩
  exact h.elim
 case h_11 t x lo hi mx ho =>
  obtain⟨x',hx,h⟩:=on_elim h
  unfold vcSlice at h
  obtain⟨ti,ht,h⟩:=on_elim h
  split at h
  ·rename_i e hdesc
   obtain⟨te,he,h⟩:=on_elim h
   split at h
   ·obtain⟨h1,h⟩:=h
    obtain⟨l,hl,h⟩:=bnd_spec h
    obtain⟨hh,hhi,h2,h3,h⟩:=bnd_spec h
    rcases vcCut_elim h with⟨e1,e2,e3,hq⟩ | hq
    ·subst e1
     subst e2
     subst e3
     exact⟨_,_,cert_slice_full hT ho hd ht hdesc he hx hl hhi,hq⟩
    exact⟨_,_,cert_slice hT ho hd ht hdesc he h1 hx hl hhi h2 h3,hq⟩
   ·obtain⟨l,hl,h⟩:=bnd_spec h
    obtain⟨hh,hhi,h2,h3,h4,h5,h⟩:=bnd_spec h
    exact⟨_,_,cert_slice_ms hT ho hd ht hdesc he hx hl hhi h2 h3 h4 h5,h⟩
   ·obtain⟨h1,h⟩:=h
    obtain⟨l,hl,hq⟩:=bnd_spec h
    obtain⟨hh,hhi,h2,h3,hz⟩:=bnd_spec hq
    subst h2
    subst h3
    exact⟨_,_,cert_slice_raw hT ho hd ht hdesc he hx hl hhi h1,hz⟩
   ·obtain⟨l,hl,hq⟩:=bnd_spec h
    obtain⟨hh,hhi,h2,h3,h4,hz⟩:=bnd_spec hq
    subst h2
    exact⟨_,_,cert_slice_os hT ho hd ht hdesc he hx hl hhi h3 h4,hz⟩
   exact h.elim
  exact h.elim
 case h_12 t parts ho =>
  unfold vcBuild at h
  obtain⟨ti,ht,h⟩:=on_elim h
  split at h
  ·rename_i fs hdesc
   obtain⟨pl,hpl,h⟩:=on_elim h
   obtain⟨ps,hps,hfl,h⟩:=on_elim h
   obtain⟨cs,hcs,h⟩:=on_elim h
   exact⟨_,_,cert_build hT ho hd ht hdesc hpl hps (allFlat_spec hfl) hcs,h⟩
  ·rename_i n e hdesc
   obtain⟨te,he,h⟩:=on_elim h
   obtain⟨ps,hps,hfl,h⟩:=on_elim h
   obtain⟨cs,hcs,h⟩:=on_elim h
   exact⟨_,_,cert_build_arr hT ho hd ht hdesc he hps (allFlat_spec hfl) hcs,h⟩
  exact h.elim
 case h_13 t len parts ho =>
  unfold vcBuildSlice at h
  obtain⟨ti,ht,h⟩:=on_elim h
  split at h
  ·rename_i e hdesc
   obtain⟨te,he,h⟩:=on_elim h
   obtain⟨ps,hps,hfl,h⟩:=on_elim h
   obtain⟨xs,hxs,h1,h2,h3,h4,h⟩:=on_elim h
   exact⟨_,_,cert_buildSlice hT ho hd ht hdesc he h1 hps (allFlat_spec hfl) hxs h2 (allSize_spec h3) h4,h⟩
  exact h.elim
 case h_14 t ho =>
  obtain⟨ti,ht,h⟩:=on_elim h
  exact⟨_,_,(cert_alloc hT ho hd ht).close keep_append,h⟩
 case h_15 t x ho =>
  obtain⟨y,hy,hf,h⟩:=on_elim h
  exact⟨_,_,(cert_box ho hd hy hf).close keep_append,h⟩
 case h_16 t ho =>
  unfold vcMakeMap at h
  obtain⟨ti,ht,h⟩:=on_elim h
  split at h
  ·obtain⟨kt,hkt,h⟩:=on_elim h
   exact⟨_,_,(cert_makeMap kt ho hd).close keep_append,h⟩
  exact h.elim
 case h_17 t x y ho =>
  obtain⟨x',hx,h⟩:=on_elim h
  obtain⟨y',hy,h⟩:=on_elim h
  unfold vcMakeSlice at h
  obtain⟨ti,ht,h⟩:=on_elim h
  split at h
  ·rename_i e hdesc
   obtain⟨te,he,h⟩:=on_elim h
   split at h
   ·obtain⟨e1,h1,h2,h3,h4,hq⟩:=h
    subst e1
    by_cases hmk:md.made=true
    ·rw [hmk,vcIf_true] at hq
     exact⟨_,_,cert_makeSliceV hT ho hd ht hdesc he hx hy h1 h2 h3 h4 hq.1,hq.2⟩
    rw [show md.made=false by simpa using hmk,vcIf_false] at hq
    exact⟨_,_,(cert_makeSlice hT ho hd ht hdesc he hx hy h1 h2 h3 h4).close keep_append,hq⟩
   exact h.elim
  exact h.elim
 case h_18 f first captured ho =>
  obtain⟨fs,hfs,h⟩:=on_elim h
  obtain⟨cs,hcs,h⟩:=on_elim h
  exact⟨_,_,cert_makeFunc ho hd hfs hcs,h⟩
 case h_19 t x y ok ho =>
  obtain⟨x',hx,h⟩:=on_elim h
  obtain⟨y',hy,h⟩:=on_elim h
  unfold vcLookup at h
  obtain⟨ti,ht,h⟩:=on_elim h
  split at h
  ·rename_i k e hdesc
   obtain⟨kt,hkt,h⟩:=on_elim h
   obtain⟨d,hk,hkd⟩:=ktOf_spec hkt
   obtain⟨te,he,hsz,h⟩:=on_elim h
   split at h
   ·obtain⟨hkk,h⟩:=h
    split at h
    ·obtain⟨e1,hq⟩:=h
     subst e1
     exact⟨_,_,cert_lookup_im hT ho hd ht hdesc hk hkd he hsz hx hy hkk,hq⟩
    ·obtain⟨es,hes,h⟩:=on_elim h
     split at h
     case h_2=>exact h.elim
     obtain⟨e1,hq⟩:=h
     subst e1
     exact⟨_,_,cert_lookup_mm hT ho hd ht hdesc hk hkd he hsz hx hes hy hkk,hq⟩
    ·exact⟨_,_,cert_lookup_nil hT ho hd ht hdesc hk hkd he hsz hx hy,h⟩
    exact h.elim
   exact h.elim
  exact h.elim
 case h_20 t x y v ho =>
  obtain⟨hdst,h⟩:=h
  obtain⟨x',hx,h⟩:=on_elim h
  obtain⟨y',hy,h⟩:=on_elim h
  obtain⟨v',hv,h⟩:=on_elim h
  unfold vcMapUpdate at h
  obtain⟨ti,ht,h⟩:=on_elim h
  split at h
  ·rename_i k e hdesc
   obtain⟨kt,hkt,h⟩:=on_elim h
   obtain⟨d,hk,hkd⟩:=ktOf_spec hkt
   split at h
   ·obtain⟨hkk,h⟩:=h
    obtain⟨es,hes,h⟩:=on_elim h
    split at h
    ·obtain⟨e1,hq⟩:=h
     subst e1
     exact⟨_,_,(cert_mapUpdate hT (.inl ho) hdst ht hdesc hk hkd hx hes hy hkk hv).close keep_set,hq⟩
    exact h.elim
   exact h.elim
  exact h.elim
 case h_21 t x y v ho =>
  obtain⟨hdst,h⟩:=h
  obtain⟨x',hx,h⟩:=on_elim h
  obtain⟨y',hy,h⟩:=on_elim h
  obtain⟨v',hv,h⟩:=on_elim h
  unfold vcMapUpdate at h
  obtain⟨ti,ht,h⟩:=on_elim h
  split at h
  ·rename_i k e hdesc
   obtain⟨kt,hkt,h⟩:=on_elim h
   obtain⟨d,hk,hkd⟩:=ktOf_spec hkt
   split at h
   ·obtain⟨hkk,h⟩:=h
    obtain⟨es,hes,h⟩:=on_elim h
    split at h
    ·obtain⟨e1,hq⟩:=h
     subst e1
     exact⟨_,_,(cert_mapUpdate hT (.inr ho) hdst ht hdesc hk hkd hx hes hy hkk hv).close keep_set,hq⟩
    exact h.elim
   exact h.elim
  exact h.elim
 case h_22 x k ho =>
  obtain⟨x',hx,h⟩:=on_elim h
  split at h
  ·obtain⟨r,hr,h⟩:=on_elim h
   exact⟨_,_,cert_extract ho hd hx hr,h⟩
  exact h.elim
 case h_23 c ho =>
  obtain⟨callee,args,ats⟩:=c
  simp only at h
  unfold vcCallOp at h
  split at h
  ·obtain⟨f',hf,h⟩:=on_elim h
   obtain⟨ars,has,h⟩:=on_elim h
   unfold vcCall at h
   split at h
   ·rcases h with⟨r,h1,h2,h⟩ | ⟨r,O',h1,h | ⟨n,l,hk,h⟩⟩ | ⟨r,h1,h⟩
    ·exact⟨_,_,cert_pcall ho hd hf has h1 h2,h⟩
    ·exact⟨_,_,cert_ecall ho hd hf has h1,h⟩
    ·exact⟨_,_,(cert_ecall ho hd hf has h1).close hk,h⟩
    exact⟨_,_,cert_rcall ho hd hf has h1,h⟩
   exact h.elim
  ·split at h
   ·rename_i x t e1 e2
    have ea:args = #[x]:=Array.toList_inj.1 e1
    have et:ats = #[t]:=Array.toList_inj.1 e2
    subst ea
    subst et
    obtain⟨x',hx,h⟩:=on_elim h
    unfold vcLen at h
    obtain⟨ti,ht,h⟩:=on_elim h
    obtain⟨e,hdesc,h⟩:=on_elim h
    obtain⟨n,hn,h⟩:=on_elim h
    exact⟨_,_,cert_len hT ho hd ht (TD.elem_spec hdesc) hx (lenA_spec hn),h⟩
   exact h.elim
  ·split at h
   ·rename_i x y t t' e1 e2
    have ea:args = #[x,y]:=Array.toList_inj.1 e1
    have et:ats = #[t,t']:=Array.toList_inj.1 e2
    subst ea
    subst et
    obtain⟨x',hx,h⟩:=on_elim h
    obtain⟨y',hy,h⟩:=on_elim h
    unfold vcAppend at h
    obtain⟨ti,ht,h⟩:=on_elim h
    obtain⟨e,hdesc,h⟩:=on_elim h
    have hdesc:=TD.elem_spec hdesc
    obtain⟨te,he,h⟩:=on_elim h
    split at h
    ·obtain⟨h0,h1,h2,h3,h4,hq⟩:=h
     subst h0
     subst h2
     by_cases hmd:md.app=true
     ·rw [hmd,vcIf_true] at hq
      obtain⟨hq1,hq2⟩:=hq
      cases hmk:md.made with
      | true =>
       rw [hmk,vcIf_true] at hq2
       exact⟨_,_,(cert_append_osNew hT ho hd ht hdesc he h1 hx hy hq1 h3 h4).close keep_append,hq2⟩
      | false =>
       rw [hmk,vcIf_false] at hq2
       exact⟨_,_,(cert_append_obj hT ho hd ht hdesc he h1 hx hy hq1 h3 h4).close keep_append,hq2⟩
     rw [show md.app=false by simpa using hmd,vcIf_false] at hq
     exact⟨_,_,(cert_append_ex hT ho hd ht hdesc he h1 hx hy h3 h4).close keep_append,hq⟩
    ·obtain⟨h0,h1,h2,h3,h4,h5,hq⟩:=h
     subst h0
     subst h2
     exact⟨_,_,(cert_append_tok hT ho hd ht hdesc he h1 hx hy h3 h4 h5).close keep_set,hq⟩
    ·obtain⟨h0,h1,h2,h3,h4,h5,h6,hq⟩:=h
     subst h0
     subst h1
     cases hmd:md.app with
     | true =>
      rw [hmd,vcIf_true] at hq
      exact⟨_,_,(cert_append_raw hT ho hd ht hdesc he h2 hx hy h3 h4 h5 h6).close keep_append,hq⟩
     | false =>
      rw [hmd,vcIf_false] at hq
      exact⟨_,_,(cert_append_make hT ho hd ht hdesc he h2 hx hy h3 h4 h5 h6).close keep_append,hq⟩
    ·obtain⟨h0,h1,hq⟩:=h
     subst h0
     obtain⟨o1,ho1,hq⟩:=on_elim hq
     split at hq
     ·obtain⟨h2,h3,h4,hq⟩:=hq
      exact⟨_,_,(cert_append_ms hT ho hd ht hdesc he h1 hx ho1 hy h2 h3 h4).close keep_set,hq⟩
     exact hq.elim
    ·obtain⟨h0,h1,h2,hq⟩:=h
     subst h0
     subst h2
     obtain⟨o1,ho1,hq⟩:=on_elim hq
     split at hq
     ·obtain⟨h3,h4,h5,h6,hq⟩:=hq
      exact⟨_,_,(cert_append_os hT ho hd ht hdesc he h1 hx ho1 hy h3 h4 h5 h6).close keep_move,hq⟩
     exact hq.elim
    exact h.elim
   exact h.elim
  ·split at h
   ·rename_i x t e1 e2
    have ea:args = #[x]:=Array.toList_inj.1 e1
    have et:ats = #[t]:=Array.toList_inj.1 e2
    subst ea
    subst et
    obtain⟨x',hx,h⟩:=on_elim h
    unfold vcCap at h
    obtain⟨ti,ht,h⟩:=on_elim h
    obtain⟨e,hdesc,h⟩:=on_elim h
    obtain⟨n,hn,h⟩:=on_elim h
    obtain⟨sz,xs,e3,e4⟩:=capA_spec hn
    subst e3
    subst e4
    exact⟨_,_,cert_capEx hT ho hd ht (TD.elem_spec hdesc) hx,h⟩
   exact h.elim
  ·split at h
   ·rename_i x t e1 e2
    have ea:args = #[x]:=Array.toList_inj.1 e1
    have et:ats = #[t]:=Array.toList_inj.1 e2
    subst ea
    subst et
    obtain⟨hdst,h⟩:=h
    obtain⟨x',hx,h⟩:=on_elim h
    unfold vcClear at h
    obtain⟨ti,ht,h⟩:=on_elim h
    obtain⟨e,hdesc,h⟩:=on_elim h
    obtain⟨te,he,h⟩:=on_elim h
    split at h
    ·obtain⟨o1,ho1,h⟩:=on_elim h
     split at h
     ·obtain⟨h2,h3,h4,h⟩:=h
      exact⟨_,_,(cert_clear_ms hT ho hdst ht (TD.elem_spec hdesc) he hx ho1 h2 h3 h4).close keep_set,h⟩
     exact h.elim
    exact h.elim
   exact h.elim
  ·split at h
   ·rename_i x y e1
    have ea:args = #[x,y]:=Array.toList_inj.1 e1
    subst ea
    obtain⟨x',hx,h⟩:=on_elim h
    obtain⟨y',hy,h⟩:=on_elim h
    unfold vcTop at h
    split at h
    ·exact⟨_,_,cert_top ho hd hx hy,h⟩
    exact h.elim
   exact h.elim
  ·split at h
   ·rename_i x y e1
    have ea:args = #[x,y]:=Array.toList_inj.1 e1
    subst ea
    obtain⟨x',hx,h⟩:=on_elim h
    obtain⟨y',hy,h⟩:=on_elim h
    unfold vcLow at h
    split at h
    ·exact⟨_,_,cert_low ho hd hx hy,h⟩
    exact h.elim
   exact h.elim
  exact h.elim
 case h_24 x ho =>
  obtain⟨y,hy,h⟩:=on_elim h
  unfold vcNilCheck at h
  split at h
  ·exact⟨_,_,cert_nilCheck ho hd hy (.inl ⟨_,_,rfl⟩),h⟩
  ·exact⟨_,_,cert_nilCheck ho hd hy (.inr ⟨_,_,rfl⟩),h⟩
  exact h.elim
 case h_25=>exact h.elim
def dstOK(d:Option Nat)(n:Nat):Prop :=
 match d with
 | some d=>d<n
 | none=>True
def slotAt:List (Nat×Nat)→Nat→Option Nat
 | [],_=>none
 | (k,d)::r,j=>if k=j then some d else slotAt r j
def addSlot(i:Nat)(d:Option Nat)(ds:List (Nat×Nat)):List (Nat×Nat) :=
 match d with
 | some d=>(i,d)::ds
 | none=>ds
def Nxt(σ:St)(f:St→Prop)(_t:Tag f:={}):Prop:=f σ
theorem nxt_mk(n:Nat)(s:List (Nat×AVal))(O:List AObj)(f:St→Prop)(t:Tag f):Nxt ⟨n,s,O⟩ f t=f ⟨n,s,O⟩:=rfl
def vcOps(P:Program)(tab:Tab)(md:Md):List Oper→Nat→List (Nat×Nat)→St→List Kind→(St→List Kind→Prop)→Prop
 | [],_,_,σ,ks,K=>K σ ks
 | o::r,i,ds,σ,ks,K=>dstOK o.dst σ.n ∧
  match o.guard with
  | none=>vcOp P tab md o σ fun x m=>Nxt ⟨σ.n,putO o.dst x σ.slots,m.post σ.objs⟩ fun τ=>vcOps P tab md r (i+1) (addSlot i o.dst ds) τ (m.kind::ks) K
  | some (j,want)=>on (slotAt ds j) fun t=>on (σ.get t) fun
   | .v (.bool b)=>vcIf (b == want)
    (fun _=>vcOp P tab md o ⟨σ.n,putS t (.v (.bool want)) σ.slots,σ.objs⟩ fun x m=>Nxt ⟨σ.n,putO o.dst x (putS t (.v (.bool want)) σ.slots),m.post σ.objs⟩ fun τ=>vcOps P tab md r (i+1) (addSlot i o.dst ds) τ (m.kind::ks) K)
    (fun _=>Nxt ⟨σ.n,dropO σ.n o.dst (putS t (.v (.bool !want)) σ.slots),σ.objs⟩ fun τ=>vcOps P tab md r (i+1) (addSlot i o.dst ds) τ (.pure::ks) K)
   | .tup []=>Nxt ⟨σ.n,dropO σ.n o.dst σ.slots,σ.objs⟩ fun τ=>vcOps P tab md r (i+1) (addSlot i o.dst ds) τ (.pure::ks) K
   | _=>False
theorem addSlot_ok{all:Array Oper}{i:Nat}{o:Oper}(ho:all[i]?=some o){ds:List (Nat×Nat)}(h:∀j t,slotAt ds j=some t→(all[j]?).bind (·.dst)=some t):∀j t,slotAt (addSlot i o.dst ds) j=some t→(all[j]?).bind (·.dst)=some t:=by
 intro j t hj
 cases hd:o.dst with
 | none =>
  rw [hd] at hj
  exact h j t hj
 | some d =>
  rw [hd] at hj
  simp only [addSlot,slotAt] at hj
  split at hj
  ·rename_i e
   subst e
   simp only [Option.some.injEq] at hj
   subst hj
   simp [ho,hd]
  exact h j t hj
theorem same_put{σ:St}{t:Nat}{x:AVal}(h:σ.get t=some x):Same ⟨σ.n,putS t x σ.slots,σ.objs⟩ σ:=by
 refine⟨rfl,rfl,fun s=>?_⟩
 simp only [St.get,look_putS]
 split
 ·rename_i e
  subst e
  exact h.symm
 rfl
theorem chain_append{P:Program}{ops:Array Oper}:∀{l l':List (Nat×Kind)} {σ τ ρ:St},Chain P ops l σ τ→Chain P ops l' τ ρ→Chain P ops (l++l') σ ρ
 | [],_,_,_,_,h,k=>k.same h.symm
 | (i,q)::r,_,_,_,_,h,k=>by
  obtain⟨σ',h1,h2⟩:=h
  exact⟨σ',h1,chain_append h2 k⟩
theorem vcOps_sound{P:Program}{tab:Tab}{md:Md}(hT:TabOK P tab){all:Array Oper}{K:St→List Kind→Prop}:∀(l:List Oper) (k:Nat) (ds:List (Nat×Nat)) (σ:St) (ks:List Kind),(∀j,l[j]?=all[k+j]?)→(∀j t,slotAt ds j=some t→(all[j]?).bind (·.dst)=some t)→vcOps P tab md l k ds σ ks K →
  ∃(τ:St) (ks':List Kind),Chain P all (ks'.zipIdx k |>.map fun p=>(p.2,p.1)) σ τ∧ks'.length=l.length∧K τ (ks'.reverse++ks)
 | [],k,_,σ,ks,_,_,h=>⟨σ,[],Same.refl σ,rfl,h⟩
 | o::r,k,ds,σ,ks,hl,hds,h=>by
  obtain⟨hd,h⟩:=h
  have hd':∀d,o.dst=some d→d<σ.n:=fun d e=>by
   rw [e] at hd
   exact hd
  have ho:all[k]?=some o:=by
   have:=hl 0
   simpa using this.symm
  have hds':=addSlot_ok ho hds
  have hr:∀j,r[j]?=all[k+1+j]?:=fun j=>by
   have:=hl (j+1)
   rw [show k+1+j=k+(j+1) by omega]
   simpa using this
  cases hg:o.guard with
  | none =>
   simp only [hg] at h
   obtain⟨x,m,hc,h⟩:=vcOp_sound hT hd' h
   obtain⟨τ,ks',h1,h2,h3⟩:=vcOps_sound hT r (k+1) _ _ _ hr hds' h
   refine⟨τ,m.kind::ks',?_,by simp [h2],by simpa using h3⟩
   simp only [List.zipIdx_cons,List.map_cons]
   exact⟨_,⟨o,ho,.inl ⟨by simp [wantedA,hg],x,m,hc,rfl,rfl⟩⟩,h1⟩
  | some p =>
   obtain⟨j,want⟩:=p
   simp only [hg] at h
   obtain⟨t,ht0,h⟩:=on_elim h
   have ht:=hds j t ht0
   obtain⟨y,hy,h⟩:=on_elim h
   split at h
   ·rename_i b
    by_cases hb:b=want
    ·rw [show(b == want)=true by simp [hb],vcIf_true] at h
     have hs:=same_put (hb ▸ hy)
     obtain⟨x,m,hc,h⟩:=vcOp_sound hT (σ:=⟨σ.n,putS t (.v (.bool want)) σ.slots,σ.objs⟩) hd' h
     obtain⟨τ,ks',h1,h2,h3⟩:=vcOps_sound hT r (k+1) _ _ _ hr hds' h
     refine⟨τ,m.kind::ks',?_,by simp [h2],by simpa using h3⟩
     simp only [List.zipIdx_cons,List.map_cons]
     have hst:StepOK P all k m.kind ⟨σ.n,putS t (.v (.bool want)) σ.slots,σ.objs⟩ (St.put ⟨σ.n,putS t (.v (.bool want)) σ.slots,σ.objs⟩ o.dst x (m.post σ.objs)) :=
      ⟨o,ho,.inl ⟨by simp [wantedA,hg,ht,St.get,look_putS],x,m,hc,rfl,rfl⟩⟩
     obtain⟨σ',q1,q2⟩:=hst.same hs
     exact⟨σ',q1,h1.same q2⟩
    rw [show(b == want)=false by simp [hb],vcIf_false] at h
    have hb':b=!want:=by cases b<;>cases want<;>simp_all
    have hs:=same_put (hb' ▸ hy)
    obtain⟨τ,ks',h1,h2,h3⟩:=vcOps_sound hT r (k+1) _ _ _ hr hds' h
    refine⟨τ,.pure::ks',?_,by simp [h2],by simpa using h3⟩
    simp only [List.zipIdx_cons,List.map_cons]
    have hst:StepOK P all k .pure ⟨σ.n,putS t (.v (.bool !want)) σ.slots,σ.objs⟩ (St.skip ⟨σ.n,putS t (.v (.bool !want)) σ.slots,σ.objs⟩ o.dst) :=
     ⟨o,ho,.inr ⟨by cases want<;>simp [wantedA,hg,ht,St.get,look_putS],rfl,rfl⟩⟩
    obtain⟨σ',q1,q2⟩:=hst.same hs
    exact⟨σ',q1,h1.same q2⟩
   ·obtain⟨τ,ks',h1,h2,h3⟩:=vcOps_sound hT r (k+1) _ _ _ hr hds' h
    refine⟨τ,.pure::ks',?_,by simp [h2],by simpa using h3⟩
    simp only [List.zipIdx_cons,List.map_cons]
    exact⟨_,⟨o,ho,.inr ⟨by simp [wantedA,hg,ht,hy],rfl,rfl⟩⟩,h1⟩
   exact h.elim
def OrderOK(ops:Array Oper)(ks:List Kind):Prop:=orderB ops ks=true
def Draws(draw:Bool)(p:Unit→Prop)(_t:Tag p:={}):Prop:=draw=true→p ()
theorem draws_false(p:Unit→Prop)(t:Tag p):Draws false p t=True:=by simp [Draws]
theorem draws_true(p:Unit→Prop)(t:Tag p):Draws true p t=p ():=by simp [Draws]
theorem awp_region_any{P:Program}{kb:Nat}{tab:Tab}(md:Md)(hT:TabOK P tab)(hm:P.follows .mixedOrders=true){id:Nat}{l:List Oper}{draw:Bool}{Q:AEx→St→Prop}{σ:St}
  (h:vcOps P tab md l 0 [] σ [] fun τ ks=>Draws draw (fun _=>OrderOK l.toArray ks.reverse)∧At τ (Q .norm)):AWP P kb (.region id l.toArray draw) Q σ:=by
 obtain⟨ops,hops⟩:∃ops,ops=l.toArray:=⟨_,rfl⟩
 have hl:l=ops.toList:=by rw [hops]
 rw [←hops] at h ⊢
 rw [hl] at h
 clear hops hl
 obtain⟨τ,ks,h1,h2,h3,h4⟩:=vcOps_sound (all:=ops) hT ops.toList 0 [] σ [] (fun j=>by simp) (fun j t hj=>by simp [slotAt] at hj) h
 intro base a g hb hr
 have hch:Chain P ops ((List.range ops.size).map fun i=>(i,ks.getD i .write)) σ τ:=by
  have e:(ks.zipIdx 0).map (fun p=>(p.2,p.1))=(List.range ops.size).map fun i=>(i,ks.getD i .write):=by
   apply List.ext_getElem?
   intro i
   simp only [List.getElem?_map]
   have hlen:ks.length=ops.size:=by simpa using h2
   by_cases hi:i<ops.size
   ·rw [List.getElem?_range hi]
    simp [hlen,hi]
   rw [List.getElem?_eq_none (by simp only [List.length_zipIdx];omega),List.getElem?_eq_none (by simp only [List.length_range];omega)]
   rfl
  rw [←e]
  exact h1
 cases draw with
 | false=>exact wp_region_lex hch hr fun a g hr'=>⟨g,τ,rfl,hr',h4⟩
 | true =>
  have hB:=h3 rfl
  simp only [List.append_nil,List.reverse_reverse] at hB
  exact wp_region_chain hm hB hch hr fun a g hr'=>⟨g,τ,rfl,hr',h4⟩
theorem awp_region{P:Program}{kb:Nat}{tab:Tab}(hT:TabOK P tab)(hm:P.follows .mixedOrders=true){id:Nat}{l:List Oper}{draw:Bool}{Q:AEx→St→Prop}{σ:St}
  (h:vcOps P tab ⟨false,false⟩ l 0 [] σ [] fun τ ks=>Draws draw (fun _=>OrderOK l.toArray ks.reverse)∧At τ (Q .norm)):AWP P kb (.region id l.toArray draw) Q σ:=awp_region_any ⟨false,false⟩ hT hm h
def slotsOf:Nat→List AVal→List (Nat×AVal)
 | _,[]=>[]
 | k,x::r=>(k,x)::slotsOf (k+1) r
theorem look_slotsOf:∀(l:List AVal) (k s:Nat) (x:AVal),look (slotsOf k l) s=some x→k≤s∧l[s - k]?=some x
 | [],k,s,x,h=>by cases h
 | y::r,k,s,x,h=>by
  simp only [slotsOf,look] at h
  split at h
  ·rename_i e
   subst e
   simp only [Option.some.injEq] at h
   subst h
   simp
  obtain⟨h1,h2⟩:=look_slotsOf r (k+1) s x h
  refine⟨by omega,?_⟩
  rw [show s - k=(s - (k+1))+1 by omega]
  simpa using h2
def retVal(tab:Tab)(σ:St):ResultVar→Option AVal
 | .tmp t=>σ.get t
 | .cell a ty =>
  match σ.get a,tab ty with
  | some (.mp id off),some ti =>
   match σ.objs[id]? with
   | some (.cells cs)=>if ti.desc.agg then (if off+ti.size≤cs.length then some (.agg ((cs.drop off).take ti.size)) else none) else cs[off]?
   | _=>none
  | _,_=>none
def retVals(tab:Tab)(σ:St):List ResultVar→Option (List AVal)
 | []=>some []
 | v::r =>
  match retVal tab σ v,retVals tab σ r with
  | some x,some xs=>some (x::xs)
  | _,_=>none
def mkRet:List AVal→AVal
 | [x]=>x
 | xs=>.tup xs
def retSem(a:Act):ResultVar→Sem Value
 | .tmp t=>pure (a.tmps.getD t undef)
 | .cell c t=>do loadVar t (←asAddr (a.tmps.getD c undef))
theorem retVal_spec{P:Program}{tab:Tab}(hT:TabOK P tab){σ:St}{base:G}{a:Act}{g:G}(hr:Rel base σ a g){v:ResultVar}{x:AVal}(h:retVal tab σ v=some x) :
  ∃u,(retSem a v).run P g.w=.ok u g.w∧RV g x u:=by
 cases v with
 | tmp t =>
  obtain⟨u,h1,h2⟩:=hr.slot t x h
  exact⟨u,by simp [retSem,Array.getD_eq_getD_getElem?,h1],h2⟩
 | cell c ty =>
  simp only [retVal] at h
  split at h
  ·rename_i id off ti hc hti
   obtain⟨u,h1,h2⟩:=hr.slot c _ hc
   obtain⟨l,o1,he,ho,_,eu⟩:=h2.mp_inv
   split at h
   ·rename_i cs hcs
    have hcs':g.objs[id]?=some (.cells cs):=by rw [hr.objs];exact hcs
    obtain⟨arr,t',_,hrow,hlen,hrv,hsc,_⟩:=hr.good.row hcs' he
    subst eu
    split at h
    ·rename_i hagg
     split at h
     ·rename_i hs
      simp only [Option.some.injEq] at h
      subst h
      obtain⟨f,hf⟩:∃f:Nat→Value,∀j,off+j<arr.size→arr[off+j]?=some (f j):=⟨fun j=>arr.getD (off+j) undef,fun j hj=>by simp [Array.getD_eq_getD_getElem?,hj]⟩
      have hrun:=(hT ty ti hti).loadVar_agg hagg g.w l.block off f (fun j hj=>by
       rw [cell_of_row hrow]
       exact hf j (by omega))
      refine⟨.agg ((List.range ti.size).map f).toArray,by simp [retSem,Array.getD_eq_getD_getElem?,h1,asAddr,hrun],?_⟩
      have hl:((cs.drop off).take ti.size).length=ti.size:=by simp;omega
      have:=RV.ofRow (g:=g) ((cs.drop off).take ti.size) f (fun c hc=>hsc c (List.mem_of_mem_drop (List.mem_of_mem_take hc))) (fun j c hj=>by
       have hj':=take_get hj
       rw [List.getElem?_drop] at hj'
       have hlt:=lt_of_getElem? hj'
       exact hrv (off+j) c _ hj' (hf j (by omega)))
      rw [hl] at this
      exact this
     cases h
    rename_i hagg
    have hlt:=lt_of_getElem? h
    have hcell:g.w.cell? ⟨l.block,off,none⟩=some arr[off]:=by
     rw [cell_of_row hrow]
     simp [show off<arr.size by omega]
    have hrun:=(hT ty ti hti).loadVar_cell (by simpa using hagg) g.w ⟨l.block,off,none⟩ _ hcell
    exact⟨arr[off],by simp [retSem,Array.getD_eq_getD_getElem?,h1,asAddr,hrun],hrv off x _ h (by simp [show off<arr.size by omega])⟩
   cases h
  cases h
theorem retVals_spec{P:Program}{tab:Tab}(hT:TabOK P tab){σ:St}{base:G}{a:Act}{g:G}(hr:Rel base σ a g):∀{vs:List ResultVar} {xs:List AVal},retVals tab σ vs=some xs →
  ∃us:List Value,(vs.mapM (retSem a)).run P g.w=.ok us g.w∧RVs g xs us.toArray
 | [],xs,h=>by
  simp only [retVals,Option.some.injEq] at h
  subst h
  exact⟨[],by simp,⟨rfl,by simp⟩⟩
 | v::r,xs,h=>by
  simp only [retVals] at h
  cases hv:retVal tab σ v with
  | none=>simp [hv] at h
  | some x =>
   cases hrs:retVals tab σ r with
   | none=>simp [hv,hrs] at h
   | some ys =>
    simp only [hv,hrs,Option.some.injEq] at h
    subst h
    obtain⟨u,h1,h2⟩:=retVal_spec hT hr hv
    obtain⟨us,h3,h4,h5⟩:=retVals_spec hT hr hrs
    refine⟨u::us,?_,by simpa using h4,fun j c w e1 e2=>?_⟩
    ·rw [List.mapM_cons]
     simp only [Sem.run_bind,h1,Result.andThen_ok,h3,Sem.run_pure]
    cases j with
    | zero =>
     simp at e1 e2
     subst e1
     subst e2
     exact h2
    | succ j=>exact h5 j c w (by simpa using e1) (by simpa using e2)
def RetTo(tab:Tab)(rv:List ResultVar)(sh:Bool)(k:Nat)(R:AVal→List AObj→Prop):AEx→St→Prop
 | .exit _,_=>False
 | _,σ=>on (retVals tab σ rv) fun rs=>k≤σ.objs.length∧(∀o∈σ.objs.take k,o.upto k)∧(mkRet (if sh then rs.map AVal.share else rs)).upto k∧R (mkRet (if sh then rs.map AVal.share else rs)) (σ.objs.take k)
theorem RV.mkRet{g:G}{xs:List AVal}{us:List Value}(h:RVs g xs us.toArray):RV g (mkRet xs) (if h:us.toArray.size=1 then us.toArray[0] else .tuple us.toArray):=by
 obtain⟨h1,h2⟩:=h
 match xs,us,h1,h2 with
 | [],[],_,h2=>exact .tup rfl (by simp)
 | [x],[u],_,h2 =>
  simp only [List.size_toArray,List.length_singleton,dite_true]
  exact h2 0 x u rfl rfl
 | x::y::r,u0::u1::s,h1,h2 =>
  rw [dif_neg (by simp)]
  exact .tup h1 h2
 | [],_::_,h1,_=>simp at h1
 | _::_,[],h1,_=>simp at h1
 | [_],_::_::_,h1,_=>simp at h1
 | _::_::_,[_],h1,_=>simp at h1
theorem ecall_of{P:Program}{tab:Tab}(hT:TabOK P tab){f:FuncId}{fn:Func}{c:Code}{O:List AObj}{args:List AVal}{R:AVal→List AObj→Prop}(sh:Bool)(k:Nat)(hf:P.funcs[f]?=some fn)(hb:fn.body=some c)
  (hname : (fn.name == "runtime.NumGoroutine") = false) (hn : args.length ≤ fn.ntmps) (hk : O.length ≤ k) (h : AWP P O.length c (RetTo tab fn.results.toList sh k R) ⟨fn.ntmps, slotsOf 0 args, O⟩) : ECall P f O args R := by
 refine⟨⟨fn,hf,hname,by simp [hb]⟩,fun g vs hg ho ha=>?_⟩
 refine calls_of_wp hf hb ?_
 have hrel:Rel g ⟨fn.ntmps,slotsOf 0 args,O⟩ { tmps:=vs++Array.replicate (fn.ntmps - vs.size) undef,defers:=[] } g:={
  le:=Le.refl g
  good:=hg
  objs:=ho
  size:=by
   have:=ha.1
   simp only [Array.size_append,Array.size_replicate]
   omega
  defers:=rfl
  slot:=fun s x hx=>by
   obtain⟨_,h1⟩:=look_slotsOf args 0 s x hx
   simp only [Nat.sub_zero] at h1
   have hlt:=lt_of_getElem? h1
   have hlt':s<vs.size:=by rw [ha.1];exact hlt
   refine⟨vs[s],?_,ha.2 s x _ h1 (by simp [hlt'])⟩
   simp only
   rw [Array.getElem?_append,if_pos hlt']
   simp [hlt'] }
 refine wp_mono (h g _ g (by rw [ho];exact Nat.le_refl _) hrel) fun e a w hp=>?_
 have key:∀g' σ',g'.w=w→Rel g σ' a g'→(on (retVals tab σ' fn.results.toList) fun rs=>k≤σ'.objs.length∧(∀o∈σ'.objs.take k,o.upto k)∧(Av.mkRet (if sh then rs.map AVal.share else rs)).upto k∧R (Av.mkRet (if sh then rs.map AVal.share else rs)) (σ'.objs.take k)) →
   a.defers=[]∧∃v,(results fn a.tmps).run P w=.ok v w∧∃g' v' r,Ending.returned v=.returned v'∧g'.w=w∧Le g g'∧Good g'∧RV g' r v'∧R r g'.objs:=by
  intro g' σ' hw hr hq
  subst hw
  obtain⟨rs,hrs,h1,h2,h3,h4⟩:=on_elim hq
  obtain⟨us,q1,q2⟩:=retVals_spec hT hr hrs
  have hO:g'.objs=σ'.objs:=hr.objs
  refine⟨hr.defers,(if h:us.toArray.size=1 then us.toArray[0] else .tuple us.toArray),?_,g'.trunc k,_,_,rfl,rfl,hr.le.trunc (by rw [ho];exact hk),hr.good.trunc (by rw [hO];exact h1) (by rw [hO];exact h2),?_,by simp only [G.trunc,hO];exact h4⟩
  ·have hm:fn.results.mapM (retSem a)=Functor.map List.toArray (fn.results.toList.mapM (retSem a)):=Array.mapM_eq_mapM_toList
   have hres:results fn a.tmps=(do
    let vs ←fn.results.mapM (retSem a)
    pure (if h:vs.size=1 then vs[0] else .tuple vs)):=rfl
   rw [hres,hm]
   simp only [Sem.run_bind,Sem.run_map,q1,Result.andThen_ok,Sem.run_pure]
  have hsh:RVs g' (if sh then rs.map AVal.share else rs) us.toArray:=by
   cases sh
   ·exact q2
   exact q2.share
  exact(RV.mkRet hsh).trunc (by rw [hO];exact h1) h3
 cases e with
 | normal =>
  obtain⟨g',σ',h1,h2,h3⟩:=hp
  exact key g' σ' h1 h2 h3
 | ret =>
  obtain⟨g',σ',h1,h2,h3⟩:=hp
  exact key g' σ' h1 h2 h3
 | exit id =>
  obtain⟨g',σ',h1,h2,h3⟩:=hp
  exact h3.elim
 | goto l=>exact hp.elim
 | panic c=>exact hp.elim
 | outgrown=>exact hp.elim
theorem seqPost_norm(P:Program)(kb:Nat)(c:Code)(Q:AEx→St→Prop)(σ:St):seqPost P kb c Q .norm σ=AWP P kb c Q σ:=rfl
theorem seqPost_ret(P:Program)(kb:Nat)(c:Code)(Q:AEx→St→Prop)(σ:St):seqPost P kb c Q .ret σ=Q .ret σ:=rfl
theorem seqPost_exit(P:Program)(kb:Nat)(c:Code)(Q:AEx→St→Prop)(σ:St)(id:Nat):seqPost P kb c Q (.exit id) σ=Q (.exit id) σ:=rfl
theorem blockPost_norm(id:Nat)(Q:AEx→St→Prop)(σ:St):blockPost id Q .norm σ=Q .norm σ:=rfl
theorem blockPost_ret(id:Nat)(Q:AEx→St→Prop)(σ:St):blockPost id Q .ret σ=Q .ret σ:=rfl
theorem blockPost_self(id:Nat)(Q:AEx→St→Prop)(σ:St):blockPost id Q (.exit id) σ=Q .norm σ:=by simp [blockPost]
theorem blockPost_other{id id':Nat}(h:id'≠id)(Q:AEx→St→Prop)(σ:St):blockPost id Q (.exit id') σ=Q (.exit id') σ:=by simp [blockPost,h]
theorem loopPost_norm{ι:Type}(L:ι→St)(μ:ι→Nat)(i:ι)(Q:AEx→St→Prop)(σ:St):loopPost L μ i Q .norm σ = ∃j,μ j<μ i∧Covers σ (L j):=rfl
theorem loopPost_ret{ι:Type}(L:ι→St)(μ:ι→Nat)(i:ι)(Q:AEx→St→Prop)(σ:St):loopPost L μ i Q .ret σ=Q .ret σ:=rfl
theorem loopPost_exit{ι:Type}(L:ι→St)(μ:ι→Nat)(i:ι)(Q:AEx→St→Prop)(σ:St)(id:Nat):loopPost L μ i Q (.exit id) σ=Q (.exit id) σ:=rfl
def zmatch:AVal→Value→Bool
 | .v (.int k n),.int k' n'=>decide (k=k')&&decide (n=n')&&decide (k.min≤n)&&decide (n≤k.max)
 | .v (.bool b),.bool b'=>b == b'
 | .v (.string s),.string s'=>decide (s=s')
 | .v (.pointer none),.pointer none=>true
 | .v (.map none),.map none=>true
 | .v .nilFunc,.nilFunc=>true
 | .v .nilIface,.nilIface=>true
 | .lst _ [] .ex,.slice none 0 0=>true
 | _,_=>false
theorem zmatch_spec{x:AVal}{u:Value}(h:zmatch x u=true):(∀g:G,RV g x u)∧x.scalar:=by
 unfold zmatch at h
 split at h
 ·simp only [Bool.and_eq_true,decide_eq_true_eq] at h
  obtain⟨⟨⟨h1,h2⟩,h3⟩,h4⟩:=h
  subst h1
  subst h2
  exact⟨fun g=>.v ⟨h3,h4⟩,trivial⟩
 ·simp only [beq_iff_eq] at h
  subst h
  exact⟨fun g=>.v trivial,trivial⟩
 ·simp only [decide_eq_true_eq] at h
  subst h
  exact⟨fun g=>.v trivial,trivial⟩
 ·exact⟨fun g=>.v trivial,trivial⟩
 ·exact⟨fun g=>.v trivial,trivial⟩
 ·exact⟨fun g=>.v trivial,trivial⟩
 ·exact⟨fun g=>.v trivial,trivial⟩
 ·exact⟨fun g=>.nil (fun id e=>by cases e) (by simp),trivial⟩
 cases h
def zmatchL:List AVal→List Value→Bool
 | [],[]=>true
 | x::xs,u::us=>zmatch x u&&zmatchL xs us
 | _,_=>false
theorem zmatchL_spec:∀{xs:List AVal} {us:List Value},zmatchL xs us=true→us.length=xs.length∧(∀g:G,∀(j:Nat) (c:AVal) (u:Value),xs[j]?=some c→us[j]?=some u→RV g c u)∧∀c∈xs,c.scalar
 | [],[],_=>⟨rfl,by simp,by simp⟩
 | x::xs,u::us,h=>by
  simp only [zmatchL,Bool.and_eq_true] at h
  obtain⟨h1,h2⟩:=zmatch_spec h.1
  obtain⟨h3,h4,h5⟩:=zmatchL_spec h.2
  refine⟨by simp [h3],fun g j c w a b=>?_,fun c hc=>?_⟩
  ·cases j with
   | zero =>
    simp at a b
    subst a
    subst b
    exact h1 g
   | succ j=>exact h4 g j c w (by simpa using a) (by simpa using b)
  rcases List.mem_cons.1 hc with e | e
  ·subst e
   exact h2
  exact h5 c e
 | [],_::_,h=>by simp [zmatchL] at h
 | _::_,[],h=>by simp [zmatchL] at h
def fieldsB:List Field→List (Nat×TypeId)→Bool
 | [],[]=>true
 | f::r,p::q=>decide (f.offset=p.1)&&decide (f.type=p.2)&&fieldsB r q
 | _,_=>false
theorem fieldsB_spec:∀{fs:List Field} {ps:List (Nat×TypeId)},fieldsB fs ps=true→fs.map (fun f=>(f.offset,f.type))=ps
 | [],[],_=>rfl
 | f::r,p::q,h=>by
  simp only [fieldsB,Bool.and_eq_true,decide_eq_true_eq] at h
  obtain⟨⟨h1,h2⟩,h3⟩:=h
  rw [List.map_cons,fieldsB_spec h3,h1,h2]
 | [],_::_,h=>by simp [fieldsB] at h
 | _::_,[],h=>by simp [fieldsB] at h
def descB:TypeDesc→TD→Bool
 | .struct fields,.struct fs=>fieldsB fields.toList fs
 | .slice e,.slice e'=>decide (e=e')
 | .array n e,.array n' e'=>decide (n=n')&&decide (e=e')
 | .map k e,.map k' e'=>decide (k=k')&&decide (e=e')
 | .struct _,.other=>false
 | .array _ _,.other=>false
 | _,.other=>true
 | _,_=>false
theorem descB_spec{d:TypeDesc}{td:TD}(h:descB d td=true):descIs d td:=by
 unfold descB at h
 split at h
 ·exact⟨_,rfl,fieldsB_spec h⟩
 ·simp only [decide_eq_true_eq] at h
  subst h
  rfl
 ·simp only [Bool.and_eq_true,decide_eq_true_eq] at h
  obtain⟨h1,h2⟩:=h
  subst h1
  subst h2
  rfl
 ·simp only [Bool.and_eq_true,decide_eq_true_eq] at h
  obtain⟨h1,h2⟩:=h
  subst h1
  subst h2
  rfl
 ·cases h
 ·cases h
 ·rename_i h1 h2
  cases d<;>first | trivial | exact(h1 _ rfl).elim | exact(h2 _ _ rfl).elim
 cases h
def shapeB(agg:Bool):Value→Bool
 | .agg _=>agg
 | _=>!agg
def tokB(P:Program)(t:TypeId)(ti:TInfo):Bool :=
 match P.info? t,P.underlying t with
 | some i,some d=>decide (i.size=ti.size)&&decide (i.bytes=ti.bytes)&&descB d ti.desc&&decide (ti.zero.length=ti.size) &&
  (match i.zero with
  | some z=>zmatchL ti.zero z.cells.toList&&shapeB ti.desc.agg z
  | none=>false)
 | _,_=>false
theorem tok_of_B{P:Program}{t:TypeId}{ti:TInfo}(h:tokB P t ti=true):TOK P t ti:=by
 unfold tokB at h
 split at h
 ·rename_i i d hi hd
  split at h
  ·rename_i z hz
   simp only [Bool.and_eq_true,decide_eq_true_eq] at h
   obtain⟨⟨⟨⟨h1,h2⟩,h3⟩,h4⟩,h5,h6⟩:=h
   obtain⟨q1,q2,q3⟩:=zmatchL_spec h5
   refine⟨⟨i,z,hi,h1,h2,hz,by simpa using q1,h4,⟨fun ha=>?_,fun ha=>?_⟩,fun g j c u a b=>q2 g j c u a (by simpa using b),q3⟩,d,hd,descB_spec h3⟩
   ·cases z with
    | agg cs=>exact⟨cs,rfl⟩
    | _=>simp [shapeB,ha] at h6
   cases z with
   | agg cs=>simp [shapeB,ha] at h6
   | _=>rfl
  simp at h
 cases h
end Go.Av
namespace Go.Proofs.Ytkhnjeblbiocaaa
open Go.Av
def tab:Tab
 | 1=>some ⟨1,8,[.v .nilFunc],.other⟩
 | 2=>some ⟨1,8,[.v (.int .i64 0)],.other⟩
 | 3=>some ⟨1,8,[.v (.int .i64 0)],.other⟩
 | 4=>some ⟨1,1,[.v (.bool false)],.other⟩
 | 5=>some ⟨1,1,[.v (.int .u8 0)],.other⟩
 | 9=>some ⟨1,16,[.v (.string ByteArray.empty)],.other⟩
 | 22=>some ⟨1,24,[.lst 2 [] .ex],.slice 37⟩
 | 24=>some ⟨2,32,[.lst 2 [] .ex,.v (.int .i64 0)],.struct [(0,22),(1,3)]⟩
 | 26=>some ⟨1,24,[.lst 1 [] .ex],.slice 3⟩
 | 28=>some ⟨3,40,[.lst 1 [] .ex,.v (.int .i64 0),.v (.int .i64 0)],.struct [(0,26),(1,3),(2,3)]⟩
 | 29=>some ⟨1,8,[.v (.int .i64 0)],.other⟩
 | 35=>some ⟨1,24,[.lst 7 [] .ex],.slice 44⟩
 | 37=>some ⟨2,32,[.v (.int .i64 0),.lst 7 [] .ex],.struct [(0,3),(1,35)]⟩
 | 39=>some ⟨1,24,[.lst 4 [] .ex],.slice 46⟩
 | 40=>some ⟨1,24,[.lst 2 [] .ex],.slice 48⟩
 | 42=>some ⟨5,72,[.v (.int .i64 0),.v (.int .i64 0),.v (.int .i64 0),.lst 1 [] .ex,.lst 2 [] .ex],.struct [(0,3),(1,3),(2,3),(3,26),(4,40)]⟩
 | 44=>some ⟨7,120,[.lst 1 [] .ex,.lst 4 [] .ex,.v (.int .i64 0),.v (.int .i64 0),.v (.int .i64 0),.lst 1 [] .ex,.lst 2 [] .ex],.struct [(0,26),(1,39),(2,42)]⟩
 | 46=>some ⟨4,48,[.v (.int .i64 0),.v (.int .i64 0),.v (.int .i64 0),.lst 1 [] .ex],.struct [(0,3),(1,3),(2,3),(3,26)]⟩
 | 48=>some ⟨2,32,[.v (.int .i64 0),.lst 1 [] .ex],.struct [(0,3),(1,26)]⟩
 | 57=>some ⟨1,24,[.lst 1 [] .ex],.slice 26⟩
 | 63=>some ⟨1,24,[.lst 2 [] .ex],.slice 64⟩
 | 64=>some ⟨2,16,[.v (.int .i64 0),.v (.int .i64 0)],.array 2 3⟩
 | 73=>some ⟨1,24,[.lst 1 [] .ex],.slice 4⟩
 | 81=>some ⟨1,8,[.v .nilFunc],.other⟩
 | 87=>some ⟨1,8,[.v .nilFunc],.other⟩
 | 94=>some ⟨1,8,[.v .nilFunc],.other⟩
 | 97=>some ⟨1,8,[.v (.pointer none)],.other⟩
 | 98=>some ⟨1,24,[.lst 1 [] .ex],.slice 114⟩
 | 100=>some ⟨9,112,[.lst 2 [] .ex,.v (.int .i64 0),.lst 1 [] .ex,.v (.int .i64 0),.v (.bool false),.v (.bool false),.lst 1 [] .ex,.v (.int .i64 0),.v (.int .i64 0)],.struct [(0,24),(2,98),(3,3),(4,4),(5,4),(6,28)]⟩
 | 102=>some ⟨1,8,[.v (.pointer none)],.other⟩
 | 103=>some ⟨1,8,[.v (.map none)],.map 3 128⟩
 | 105=>some ⟨3,40,[.v (.int .i64 0),.lst 7 [] .ex,.v (.map none)],.struct [(0,37),(2,103)]⟩
 | 113=>some ⟨1,24,[.lst 4 [] .ex],.slice 120⟩
 | 114=>some ⟨1,8,[.v (.pointer none)],.other⟩
 | 115=>some ⟨1,8,[.v (.map none)],.map 3 120⟩
 | 117=>some ⟨5,40,[.v (.int .i64 0),.v (.int .i64 0),.v (.int .i64 0),.v (.int .i64 0),.v (.map none)],.struct [(0,3),(1,3),(2,3),(3,3),(4,115)]⟩
 | 118=>some ⟨1,8,[.v (.pointer none)],.other⟩
 | 120=>some ⟨4,48,[.v (.int .i64 0),.v (.int .i64 0),.lst 4 [] .ex,.v (.pointer none)],.struct [(0,3),(1,3),(2,113),(3,118)]⟩
 | 128=>some ⟨2,16,[.v (.int .i64 0),.v (.int .i64 0)],.struct [(0,3),(1,3)]⟩
 | 129=>some ⟨1,24,[.lst 2 [] .ex],.slice 132⟩
 | 130=>some ⟨1,8,[.v (.int .u64 0)],.other⟩
 | 132=>some ⟨2,16,[.v (.int .u64 0),.v (.int .u64 0)],.array 2 130⟩
 | 142=>some ⟨1,8,[.v (.int .u64 0)],.other⟩
 | 151=>some ⟨1,8,[.v .nilFunc],.other⟩
 | 156=>some ⟨2,16,[.v (.int .i64 0),.v (.int .i64 0)],.struct [(0,3),(1,3)]⟩
 | 157=>some ⟨1,24,[.lst 2 [] .ex],.slice 156⟩
 | 158=>some ⟨1,8,[.v (.pointer none)],.other⟩
 | 173=>some ⟨1,8,[.v (.int .u64 0)],.other⟩
 | 177=>some ⟨1,8,[.v (.pointer none)],.other⟩
 | 180=>some ⟨1,8,[.v (.pointer none)],.other⟩
 | _=>none
theorem tab_1:tab 1=some ⟨1,8,[.v .nilFunc],.other⟩:=rfl
theorem tab_2:tab 2=some ⟨1,8,[.v (.int .i64 0)],.other⟩:=rfl
theorem tab_3:tab 3=some ⟨1,8,[.v (.int .i64 0)],.other⟩:=rfl
theorem tab_4:tab 4=some ⟨1,1,[.v (.bool false)],.other⟩:=rfl
theorem tab_5:tab 5=some ⟨1,1,[.v (.int .u8 0)],.other⟩:=rfl
theorem tab_9:tab 9=some ⟨1,16,[.v (.string ByteArray.empty)],.other⟩:=rfl
theorem tab_22:tab 22=some ⟨1,24,[.lst 2 [] .ex],.slice 37⟩:=rfl
theorem tab_24:tab 24=some ⟨2,32,[.lst 2 [] .ex,.v (.int .i64 0)],.struct [(0,22),(1,3)]⟩:=rfl
theorem tab_26:tab 26=some ⟨1,24,[.lst 1 [] .ex],.slice 3⟩:=rfl
theorem tab_28:tab 28=some ⟨3,40,[.lst 1 [] .ex,.v (.int .i64 0),.v (.int .i64 0)],.struct [(0,26),(1,3),(2,3)]⟩:=rfl
theorem tab_29:tab 29=some ⟨1,8,[.v (.int .i64 0)],.other⟩:=rfl
theorem tab_35:tab 35=some ⟨1,24,[.lst 7 [] .ex],.slice 44⟩:=rfl
theorem tab_37:tab 37=some ⟨2,32,[.v (.int .i64 0),.lst 7 [] .ex],.struct [(0,3),(1,35)]⟩:=rfl
theorem tab_39:tab 39=some ⟨1,24,[.lst 4 [] .ex],.slice 46⟩:=rfl
theorem tab_40:tab 40=some ⟨1,24,[.lst 2 [] .ex],.slice 48⟩:=rfl
theorem tab_42:tab 42=some ⟨5,72,[.v (.int .i64 0),.v (.int .i64 0),.v (.int .i64 0),.lst 1 [] .ex,.lst 2 [] .ex],.struct [(0,3),(1,3),(2,3),(3,26),(4,40)]⟩:=rfl
theorem tab_44:tab 44=some ⟨7,120,[.lst 1 [] .ex,.lst 4 [] .ex,.v (.int .i64 0),.v (.int .i64 0),.v (.int .i64 0),.lst 1 [] .ex,.lst 2 [] .ex],.struct [(0,26),(1,39),(2,42)]⟩:=rfl
theorem tab_46:tab 46=some ⟨4,48,[.v (.int .i64 0),.v (.int .i64 0),.v (.int .i64 0),.lst 1 [] .ex],.struct [(0,3),(1,3),(2,3),(3,26)]⟩:=rfl
theorem tab_48:tab 48=some ⟨2,32,[.v (.int .i64 0),.lst 1 [] .ex],.struct [(0,3),(1,26)]⟩:=rfl
theorem tab_57:tab 57=some ⟨1,24,[.lst 1 [] .ex],.slice 26⟩:=rfl
theorem tab_63:tab 63=some ⟨1,24,[.lst 2 [] .ex],.slice 64⟩:=rfl
theorem tab_64:tab 64=some ⟨2,16,[.v (.int .i64 0),.v (.int .i64 0)],.array 2 3⟩:=rfl
theorem tab_73:tab 73=some ⟨1,24,[.lst 1 [] .ex],.slice 4⟩:=rfl
theorem tab_81:tab 81=some ⟨1,8,[.v .nilFunc],.other⟩:=rfl
theorem tab_87:tab 87=some ⟨1,8,[.v .nilFunc],.other⟩:=rfl
theorem tab_94:tab 94=some ⟨1,8,[.v .nilFunc],.other⟩:=rfl
theorem tab_97:tab 97=some ⟨1,8,[.v (.pointer none)],.other⟩:=rfl
theorem tab_98:tab 98=some ⟨1,24,[.lst 1 [] .ex],.slice 114⟩:=rfl
theorem tab_100:tab 100=some ⟨9,112,[.lst 2 [] .ex,.v (.int .i64 0),.lst 1 [] .ex,.v (.int .i64 0),.v (.bool false),.v (.bool false),.lst 1 [] .ex,.v (.int .i64 0),.v (.int .i64 0)],.struct [(0,24),(2,98),(3,3),(4,4),(5,4),(6,28)]⟩:=rfl
theorem tab_102:tab 102=some ⟨1,8,[.v (.pointer none)],.other⟩:=rfl
theorem tab_103:tab 103=some ⟨1,8,[.v (.map none)],.map 3 128⟩:=rfl
theorem tab_105:tab 105=some ⟨3,40,[.v (.int .i64 0),.lst 7 [] .ex,.v (.map none)],.struct [(0,37),(2,103)]⟩:=rfl
theorem tab_113:tab 113=some ⟨1,24,[.lst 4 [] .ex],.slice 120⟩:=rfl
theorem tab_114:tab 114=some ⟨1,8,[.v (.pointer none)],.other⟩:=rfl
theorem tab_115:tab 115=some ⟨1,8,[.v (.map none)],.map 3 120⟩:=rfl
theorem tab_117:tab 117=some ⟨5,40,[.v (.int .i64 0),.v (.int .i64 0),.v (.int .i64 0),.v (.int .i64 0),.v (.map none)],.struct [(0,3),(1,3),(2,3),(3,3),(4,115)]⟩:=rfl
theorem tab_118:tab 118=some ⟨1,8,[.v (.pointer none)],.other⟩:=rfl
theorem tab_120:tab 120=some ⟨4,48,[.v (.int .i64 0),.v (.int .i64 0),.lst 4 [] .ex,.v (.pointer none)],.struct [(0,3),(1,3),(2,113),(3,118)]⟩:=rfl
theorem tab_128:tab 128=some ⟨2,16,[.v (.int .i64 0),.v (.int .i64 0)],.struct [(0,3),(1,3)]⟩:=rfl
theorem tab_129:tab 129=some ⟨1,24,[.lst 2 [] .ex],.slice 132⟩:=rfl
theorem tab_130:tab 130=some ⟨1,8,[.v (.int .u64 0)],.other⟩:=rfl
theorem tab_132:tab 132=some ⟨2,16,[.v (.int .u64 0),.v (.int .u64 0)],.array 2 130⟩:=rfl
theorem tab_142:tab 142=some ⟨1,8,[.v (.int .u64 0)],.other⟩:=rfl
theorem tab_151:tab 151=some ⟨1,8,[.v .nilFunc],.other⟩:=rfl
theorem tab_156:tab 156=some ⟨2,16,[.v (.int .i64 0),.v (.int .i64 0)],.struct [(0,3),(1,3)]⟩:=rfl
theorem tab_157:tab 157=some ⟨1,24,[.lst 2 [] .ex],.slice 156⟩:=rfl
theorem tab_158:tab 158=some ⟨1,8,[.v (.pointer none)],.other⟩:=rfl
theorem tab_173:tab 173=some ⟨1,8,[.v (.int .u64 0)],.other⟩:=rfl
theorem tab_177:tab 177=some ⟨1,8,[.v (.pointer none)],.other⟩:=rfl
theorem tab_180:tab 180=some ⟨1,8,[.v (.pointer none)],.other⟩:=rfl
theorem tokB_1:tokB Go.Proofs.Try.prog 1 ⟨1,8,[.v .nilFunc],.other⟩=true:=by kernel_rfl
theorem tokB_2:tokB Go.Proofs.Try.prog 2 ⟨1,8,[.v (.int .i64 0)],.other⟩=true:=by kernel_rfl
theorem tokB_3:tokB Go.Proofs.Try.prog 3 ⟨1,8,[.v (.int .i64 0)],.other⟩=true:=by kernel_rfl
theorem tokB_4:tokB Go.Proofs.Try.prog 4 ⟨1,1,[.v (.bool false)],.other⟩=true:=by kernel_rfl
theorem tokB_5:tokB Go.Proofs.Try.prog 5 ⟨1,1,[.v (.int .u8 0)],.other⟩=true:=by kernel_rfl
theorem tokB_9:tokB Go.Proofs.Try.prog 9 ⟨1,16,[.v (.string ByteArray.empty)],.other⟩=true:=by kernel_rfl
theorem tokB_22:tokB Go.Proofs.Try.prog 22 ⟨1,24,[.lst 2 [] .ex],.slice 37⟩=true:=by kernel_rfl
theorem tokB_24:tokB Go.Proofs.Try.prog 24 ⟨2,32,[.lst 2 [] .ex,.v (.int .i64 0)],.struct [(0,22),(1,3)]⟩=true:=by kernel_rfl
theorem tokB_26:tokB Go.Proofs.Try.prog 26 ⟨1,24,[.lst 1 [] .ex],.slice 3⟩=true:=by kernel_rfl
theorem tokB_28:tokB Go.Proofs.Try.prog 28 ⟨3,40,[.lst 1 [] .ex,.v (.int .i64 0),.v (.int .i64 0)],.struct [(0,26),(1,3),(2,3)]⟩=true:=by kernel_rfl
theorem tokB_29:tokB Go.Proofs.Try.prog 29 ⟨1,8,[.v (.int .i64 0)],.other⟩=true:=by kernel_rfl
theorem tokB_35:tokB Go.Proofs.Try.prog 35 ⟨1,24,[.lst 7 [] .ex],.slice 44⟩=true:=by kernel_rfl
theorem tokB_37:tokB Go.Proofs.Try.prog 37 ⟨2,32,[.v (.int .i64 0),.lst 7 [] .ex],.struct [(0,3),(1,35)]⟩=true:=by kernel_rfl
theorem tokB_39:tokB Go.Proofs.Try.prog 39 ⟨1,24,[.lst 4 [] .ex],.slice 46⟩=true:=by kernel_rfl
theorem tokB_40:tokB Go.Proofs.Try.prog 40 ⟨1,24,[.lst 2 [] .ex],.slice 48⟩=true:=by kernel_rfl
theorem tokB_42:tokB Go.Proofs.Try.prog 42 ⟨5,72,[.v (.int .i64 0),.v (.int .i64 0),.v (.int .i64 0),.lst 1 [] .ex,.lst 2 [] .ex],.struct [(0,3),(1,3),(2,3),(3,26),(4,40)]⟩=true:=by kernel_rfl
theorem tokB_44:tokB Go.Proofs.Try.prog 44 ⟨7,120,[.lst 1 [] .ex,.lst 4 [] .ex,.v (.int .i64 0),.v (.int .i64 0),.v (.int .i64 0),.lst 1 [] .ex,.lst 2 [] .ex],.struct [(0,26),(1,39),(2,42)]⟩=true:=by kernel_rfl
theorem tokB_46:tokB Go.Proofs.Try.prog 46 ⟨4,48,[.v (.int .i64 0),.v (.int .i64 0),.v (.int .i64 0),.lst 1 [] .ex],.struct [(0,3),(1,3),(2,3),(3,26)]⟩=true:=by kernel_rfl
theorem tokB_48:tokB Go.Proofs.Try.prog 48 ⟨2,32,[.v (.int .i64 0),.lst 1 [] .ex],.struct [(0,3),(1,26)]⟩=true:=by kernel_rfl
theorem tokB_57:tokB Go.Proofs.Try.prog 57 ⟨1,24,[.lst 1 [] .ex],.slice 26⟩=true:=by kernel_rfl
theorem tokB_63:tokB Go.Proofs.Try.prog 63 ⟨1,24,[.lst 2 [] .ex],.slice 64⟩=true:=by kernel_rfl
theorem tokB_64:tokB Go.Proofs.Try.prog 64 ⟨2,16,[.v (.int .i64 0),.v (.int .i64 0)],.array 2 3⟩=true:=by kernel_rfl
theorem tokB_73:tokB Go.Proofs.Try.prog 73 ⟨1,24,[.lst 1 [] .ex],.slice 4⟩=true:=by kernel_rfl
theorem tokB_81:tokB Go.Proofs.Try.prog 81 ⟨1,8,[.v .nilFunc],.other⟩=true:=by kernel_rfl
theorem tokB_87:tokB Go.Proofs.Try.prog 87 ⟨1,8,[.v .nilFunc],.other⟩=true:=by kernel_rfl
theorem tokB_94:tokB Go.Proofs.Try.prog 94 ⟨1,8,[.v .nilFunc],.other⟩=true:=by kernel_rfl
theorem tokB_97:tokB Go.Proofs.Try.prog 97 ⟨1,8,[.v (.pointer none)],.other⟩=true:=by kernel_rfl
theorem tokB_98:tokB Go.Proofs.Try.prog 98 ⟨1,24,[.lst 1 [] .ex],.slice 114⟩=true:=by kernel_rfl
theorem tokB_100:tokB Go.Proofs.Try.prog 100 ⟨9,112,[.lst 2 [] .ex,.v (.int .i64 0),.lst 1 [] .ex,.v (.int .i64 0),.v (.bool false),.v (.bool false),.lst 1 [] .ex,.v (.int .i64 0),.v (.int .i64 0)],.struct [(0,24),(2,98),(3,3),(4,4),(5,4),(6,28)]⟩=true:=by kernel_rfl
theorem tokB_102:tokB Go.Proofs.Try.prog 102 ⟨1,8,[.v (.pointer none)],.other⟩=true:=by kernel_rfl
theorem tokB_103:tokB Go.Proofs.Try.prog 103 ⟨1,8,[.v (.map none)],.map 3 128⟩=true:=by kernel_rfl
theorem tokB_105:tokB Go.Proofs.Try.prog 105 ⟨3,40,[.v (.int .i64 0),.lst 7 [] .ex,.v (.map none)],.struct [(0,37),(2,103)]⟩=true:=by kernel_rfl
theorem tokB_113:tokB Go.Proofs.Try.prog 113 ⟨1,24,[.lst 4 [] .ex],.slice 120⟩=true:=by kernel_rfl
theorem tokB_114:tokB Go.Proofs.Try.prog 114 ⟨1,8,[.v (.pointer none)],.other⟩=true:=by kernel_rfl
theorem tokB_115:tokB Go.Proofs.Try.prog 115 ⟨1,8,[.v (.map none)],.map 3 120⟩=true:=by kernel_rfl
theorem tokB_117:tokB Go.Proofs.Try.prog 117 ⟨5,40,[.v (.int .i64 0),.v (.int .i64 0),.v (.int .i64 0),.v (.int .i64 0),.v (.map none)],.struct [(0,3),(1,3),(2,3),(3,3),(4,115)]⟩=true:=by kernel_rfl
theorem tokB_118:tokB Go.Proofs.Try.prog 118 ⟨1,8,[.v (.pointer none)],.other⟩=true:=by kernel_rfl
theorem tokB_120:tokB Go.Proofs.Try.prog 120 ⟨4,48,[.v (.int .i64 0),.v (.int .i64 0),.lst 4 [] .ex,.v (.pointer none)],.struct [(0,3),(1,3),(2,113),(3,118)]⟩=true:=by kernel_rfl
theorem tokB_128:tokB Go.Proofs.Try.prog 128 ⟨2,16,[.v (.int .i64 0),.v (.int .i64 0)],.struct [(0,3),(1,3)]⟩=true:=by kernel_rfl
theorem tokB_129:tokB Go.Proofs.Try.prog 129 ⟨1,24,[.lst 2 [] .ex],.slice 132⟩=true:=by kernel_rfl
theorem tokB_130:tokB Go.Proofs.Try.prog 130 ⟨1,8,[.v (.int .u64 0)],.other⟩=true:=by kernel_rfl
theorem tokB_132:tokB Go.Proofs.Try.prog 132 ⟨2,16,[.v (.int .u64 0),.v (.int .u64 0)],.array 2 130⟩=true:=by kernel_rfl
theorem tokB_142:tokB Go.Proofs.Try.prog 142 ⟨1,8,[.v (.int .u64 0)],.other⟩=true:=by kernel_rfl
theorem tokB_151:tokB Go.Proofs.Try.prog 151 ⟨1,8,[.v .nilFunc],.other⟩=true:=by kernel_rfl
theorem tokB_156:tokB Go.Proofs.Try.prog 156 ⟨2,16,[.v (.int .i64 0),.v (.int .i64 0)],.struct [(0,3),(1,3)]⟩=true:=by kernel_rfl
theorem tokB_157:tokB Go.Proofs.Try.prog 157 ⟨1,24,[.lst 2 [] .ex],.slice 156⟩=true:=by kernel_rfl
theorem tokB_158:tokB Go.Proofs.Try.prog 158 ⟨1,8,[.v (.pointer none)],.other⟩=true:=by kernel_rfl
theorem tokB_173:tokB Go.Proofs.Try.prog 173 ⟨1,8,[.v (.int .u64 0)],.other⟩=true:=by kernel_rfl
theorem tokB_177:tokB Go.Proofs.Try.prog 177 ⟨1,8,[.v (.pointer none)],.other⟩=true:=by kernel_rfl
theorem tokB_180:tokB Go.Proofs.Try.prog 180 ⟨1,8,[.v (.pointer none)],.other⟩=true:=by kernel_rfl
set_option maxRecDepth 100000 in
theorem hT:TabOK Go.Proofs.Try.prog tab:=by
 intro t ti h
 unfold tab at h
 split at h
 ·cases h
  exact tok_of_B tokB_1
 ·cases h
  exact tok_of_B tokB_2
 ·cases h
  exact tok_of_B tokB_3
 ·cases h
  exact tok_of_B tokB_4
 ·cases h
  exact tok_of_B tokB_5
 ·cases h
  exact tok_of_B tokB_9
 ·cases h
  exact tok_of_B tokB_22
 ·cases h
  exact tok_of_B tokB_24
 ·cases h
  exact tok_of_B tokB_26
 ·cases h
  exact tok_of_B tokB_28
 ·cases h
  exact tok_of_B tokB_29
 ·cases h
  exact tok_of_B tokB_35
 ·cases h
  exact tok_of_B tokB_37
 ·cases h
  exact tok_of_B tokB_39
 ·cases h
  exact tok_of_B tokB_40
 ·cases h
  exact tok_of_B tokB_42
 ·cases h
  exact tok_of_B tokB_44
 ·cases h
  exact tok_of_B tokB_46
 ·cases h
  exact tok_of_B tokB_48
 ·cases h
  exact tok_of_B tokB_57
 ·cases h
  exact tok_of_B tokB_63
 ·cases h
  exact tok_of_B tokB_64
 ·cases h
  exact tok_of_B tokB_73
 ·cases h
  exact tok_of_B tokB_81
 ·cases h
  exact tok_of_B tokB_87
 ·cases h
  exact tok_of_B tokB_94
 ·cases h
  exact tok_of_B tokB_97
 ·cases h
  exact tok_of_B tokB_98
 ·cases h
  exact tok_of_B tokB_100
 ·cases h
  exact tok_of_B tokB_102
 ·cases h
  exact tok_of_B tokB_103
 ·cases h
  exact tok_of_B tokB_105
 ·cases h
  exact tok_of_B tokB_113
 ·cases h
  exact tok_of_B tokB_114
 ·cases h
  exact tok_of_B tokB_115
 ·cases h
  exact tok_of_B tokB_117
 ·cases h
  exact tok_of_B tokB_118
 ·cases h
  exact tok_of_B tokB_120
 ·cases h
  exact tok_of_B tokB_128
 ·cases h
  exact tok_of_B tokB_129
 ·cases h
  exact tok_of_B tokB_130
 ·cases h
  exact tok_of_B tokB_132
 ·cases h
  exact tok_of_B tokB_142
 ·cases h
  exact tok_of_B tokB_151
 ·cases h
  exact tok_of_B tokB_156
 ·cases h
  exact tok_of_B tokB_157
 ·cases h
  exact tok_of_B tokB_158
 ·cases h
  exact tok_of_B tokB_173
 ·cases h
  exact tok_of_B tokB_177
 ·cases h
  exact tok_of_B tokB_180
 cases h
theorem hm:Go.Proofs.Try.prog.follows .mixedOrders=true:=by kernel_rfl
structure Ins where
 to:Int
 op:Int
 n:Int
 args:List Int
structure Edge where
 block:Int
 args:List Int
structure Term where
 kind:Int
 arg:Int
 n:Int
 cases:List Int
 to:List Edge
structure Block where
 params:List Int
 ins:List Ins
 term:Term
structure Func where
 name:Int
 blocks:List Block
structure Unt where
 fns:List Func
 main:Int
abbrev aI(n:Int):AVal:=.v (.int .i64 n)
abbrev eIs(l:List Int):AVal:=.lst 1 (l.map aI) .sh
def Ins.enc(i:Ins):AVal:=.agg [aI i.to,aI i.op,aI i.n,eIs i.args]
abbrev eInss(l:List Ins):AVal:=.lst 4 (l.map Ins.enc) .sh
def Edge.enc(e:Edge):AVal:=.agg [aI e.block,eIs e.args]
abbrev eEdges(l:List Edge):AVal:=.lst 2 (l.map Edge.enc) .sh
def Term.enc(t:Term):AVal:=.agg [aI t.kind,aI t.arg,aI t.n,eIs t.cases,eEdges t.to]
def Block.enc(b:Block):AVal:=.agg [eIs b.params,eInss b.ins,aI b.term.kind,aI b.term.arg,aI b.term.n,eIs b.term.cases,eEdges b.term.to]
abbrev eBlocks(l:List Block):AVal:=.lst 7 (l.map Block.enc) .sh
def Func.enc(f:Func):AVal:=.agg [aI f.name,eBlocks f.blocks]
abbrev eFuncs(l:List Func):AVal:=.lst 2 (l.map Func.enc) .sh
def Unt.enc(u:Unt):AVal:=.agg [eFuncs u.fns,aI u.main]
theorem aI_upto(n:Nat)(l:List Int):uptoL n (l.map aI):=by
 rw [uptoL_iff]
 intro x hx
 obtain⟨c,_,rfl⟩:=List.mem_map.1 hx
 trivial
theorem aI_share(l:List Int):(l.map aI).map AVal.share=l.map aI:=by
 rw [List.map_map]
 rfl
theorem Ins.enc_cells(i:Ins):i.enc.cells=[aI i.to,aI i.op,aI i.n,eIs i.args]:=rfl
theorem Ins.fold(i:Ins):AVal.agg [aI i.to,aI i.op,aI i.n,eIs i.args]=i.enc:=rfl
theorem Ins.enc_upto(n:Nat)(i:Ins):i.enc.upto n:=by
 simp only [Ins.enc,AVal.upto,uptoL,and_true,true_and,aI_upto]
theorem Ins.map_upto(n:Nat)(l:List Ins):uptoL n (l.map Ins.enc):=by
 rw [uptoL_iff]
 intro x hx
 obtain⟨c,_,rfl⟩:=List.mem_map.1 hx
 exact c.enc_upto n
theorem Ins.enc_flat(i:Ins):i.enc.flat:=trivial
theorem Ins.enc_share(i:Ins):i.enc.share=i.enc:=rfl
theorem Ins.map_share(l:List Ins):(l.map Ins.enc).map AVal.share=l.map Ins.enc:=by
 rw [List.map_map]
 rfl
theorem Edge.enc_cells(e:Edge):e.enc.cells=[aI e.block,eIs e.args]:=rfl
theorem Edge.fold(e:Edge):AVal.agg [aI e.block,eIs e.args]=e.enc:=rfl
theorem Edge.enc_upto(n:Nat)(e:Edge):e.enc.upto n:=by
 simp only [Edge.enc,AVal.upto,uptoL,and_true,true_and,aI_upto]
theorem Edge.map_upto(n:Nat)(l:List Edge):uptoL n (l.map Edge.enc):=by
 rw [uptoL_iff]
 intro x hx
 obtain⟨c,_,rfl⟩:=List.mem_map.1 hx
 exact c.enc_upto n
theorem Edge.enc_flat(e:Edge):e.enc.flat:=trivial
theorem Edge.enc_share(e:Edge):e.enc.share=e.enc:=rfl
theorem Edge.map_share(l:List Edge):(l.map Edge.enc).map AVal.share=l.map Edge.enc:=by
 rw [List.map_map]
 rfl
theorem Term.enc_cells(t:Term):t.enc.cells=[aI t.kind,aI t.arg,aI t.n,eIs t.cases,eEdges t.to]:=rfl
theorem Term.fold(t:Term):AVal.agg [aI t.kind,aI t.arg,aI t.n,eIs t.cases,eEdges t.to]=t.enc:=rfl
theorem Term.enc_upto(n:Nat)(t:Term):t.enc.upto n:=by
 simp only [Term.enc,AVal.upto,uptoL,and_true,true_and,aI_upto,Edge.map_upto]
theorem Term.map_upto(n:Nat)(l:List Term):uptoL n (l.map Term.enc):=by
 rw [uptoL_iff]
 intro x hx
 obtain⟨c,_,rfl⟩:=List.mem_map.1 hx
 exact c.enc_upto n
theorem Term.enc_flat(t:Term):t.enc.flat:=trivial
theorem Term.enc_share(t:Term):t.enc.share=t.enc:=rfl
theorem Term.map_share(l:List Term):(l.map Term.enc).map AVal.share=l.map Term.enc:=by
 rw [List.map_map]
 rfl
theorem Block.enc_cells(b:Block):b.enc.cells=[eIs b.params,eInss b.ins,aI b.term.kind,aI b.term.arg,aI b.term.n,eIs b.term.cases,eEdges b.term.to]:=rfl
theorem Block.fold(b:Block):AVal.agg [eIs b.params,eInss b.ins,aI b.term.kind,aI b.term.arg,aI b.term.n,eIs b.term.cases,eEdges b.term.to]=b.enc:=rfl
theorem Block.enc_upto(n:Nat)(b:Block):b.enc.upto n:=by
 simp only [Block.enc,AVal.upto,uptoL,and_true,true_and,aI_upto,Edge.map_upto,Ins.map_upto]
theorem Block.map_upto(n:Nat)(l:List Block):uptoL n (l.map Block.enc):=by
 rw [uptoL_iff]
 intro x hx
 obtain⟨c,_,rfl⟩:=List.mem_map.1 hx
 exact c.enc_upto n
theorem Block.enc_flat(b:Block):b.enc.flat:=trivial
theorem Block.enc_share(b:Block):b.enc.share=b.enc:=rfl
theorem Block.map_share(l:List Block):(l.map Block.enc).map AVal.share=l.map Block.enc:=by
 rw [List.map_map]
 rfl
theorem Func.enc_cells(f:Func):f.enc.cells=[aI f.name,eBlocks f.blocks]:=rfl
theorem Func.fold(f:Func):AVal.agg [aI f.name,eBlocks f.blocks]=f.enc:=rfl
theorem Func.enc_upto(n:Nat)(f:Func):f.enc.upto n:=by
 simp only [Func.enc,AVal.upto,uptoL,and_true,true_and,aI_upto,Block.map_upto]
theorem Func.map_upto(n:Nat)(l:List Func):uptoL n (l.map Func.enc):=by
 rw [uptoL_iff]
 intro x hx
 obtain⟨c,_,rfl⟩:=List.mem_map.1 hx
 exact c.enc_upto n
theorem Func.enc_flat(f:Func):f.enc.flat:=trivial
theorem Func.enc_share(f:Func):f.enc.share=f.enc:=rfl
theorem Func.map_share(l:List Func):(l.map Func.enc).map AVal.share=l.map Func.enc:=by
 rw [List.map_map]
 rfl
theorem Unt.enc_cells(u:Unt):u.enc.cells=[eFuncs u.fns,aI u.main]:=rfl
theorem Unt.fold(u:Unt):AVal.agg [eFuncs u.fns,aI u.main]=u.enc:=rfl
theorem Unt.enc_upto(n:Nat)(u:Unt):u.enc.upto n:=by
 simp only [Unt.enc,AVal.upto,uptoL,and_true,true_and,aI_upto,Func.map_upto]
theorem Unt.map_upto(n:Nat)(l:List Unt):uptoL n (l.map Unt.enc):=by
 rw [uptoL_iff]
 intro x hx
 obtain⟨c,_,rfl⟩:=List.mem_map.1 hx
 exact c.enc_upto n
theorem Unt.enc_flat(u:Unt):u.enc.flat:=trivial
theorem Unt.enc_share(u:Unt):u.enc.share=u.enc:=rfl
theorem Unt.map_share(l:List Unt):(l.map Unt.enc).map AVal.share=l.map Unt.enc:=by
 rw [List.map_map]
 rfl
theorem kt_3:ktOf Try.prog 3=some (.int .i64):=by
 unfold ktOf
 rw [Try.underlying3]
def fitI(n:Int):Prop:=-9223372036854775808≤n∧n≤9223372036854775807
def fitIs(l:List Int):Prop:=∀n∈l,fitI n
def Ins.fit(i:Ins):Prop:=fitI i.to∧fitI i.op∧fitI i.n∧fitIs i.args∧i.args.length≤2 ^ 47
def Edge.fit(e:Edge):Prop:=fitI e.block∧fitIs e.args∧e.args.length≤2 ^ 47
def Term.fit(t:Term):Prop:=fitI t.kind∧fitI t.arg∧fitI t.n∧fitIs t.cases∧t.cases.length≤2 ^ 47∧t.to.length≤2 ^ 47∧∀e∈t.to,e.fit
def Block.fit(b:Block):Prop:=fitIs b.params∧b.params.length≤2 ^ 47∧b.ins.length≤2 ^ 47∧(∀i∈b.ins,i.fit)∧b.term.fit
def Func.fit(f:Func):Prop:=fitI f.name∧f.blocks.length≤2 ^ 47∧∀b∈f.blocks,b.fit
def Unt.fit(u:Unt):Prop:=fitI u.main∧u.fns.length≤2 ^ 47∧∀f∈u.fns,f.fit
inductive SV where
 | mk (kind n:Int) (list:List SV) (arr:Option Nat)
def eP:Option Nat→AVal
 | none=>.v (.pointer none)
 | some id=>.mp id 0
namespace SV
def kind:SV→Int | mk k _ _ _=>k
def n:SV→Int | mk _ n _ _=>n
def list:SV→List SV | mk _ _ l _=>l
def arr:SV→Option Nat | mk _ _ _ a=>a
mutual
def enc:SV→AVal
 | mk k n l a=>.agg [aI k,aI n,.lst 4 (encL l) .sh,eP a]
def encL:List SV→List AVal
 | []=>[]
 | p::r=>p.enc::encL r
end
theorem encL_map:∀l:List SV,encL l=l.map enc
 | []=>by simp [encL]
 | p::r=>by simp [encL,encL_map r]
theorem enc_eq(p:SV):p.enc=.agg [aI p.kind,aI p.n,.lst 4 (p.list.map enc) .sh,eP p.arr]:=by
 cases p with
 | mk k n l a=>simp [enc,kind,SV.n,list,arr,encL_map]
theorem fold(p:SV):AVal.agg [aI p.kind,aI p.n,.lst 4 (p.list.map enc) .sh,eP p.arr]=p.enc:=(enc_eq p).symm
theorem enc_mk(k n:Int)(l:List SV)(a:Option Nat):(mk k n l a).enc=.agg [aI k,aI n,.lst 4 (l.map enc) .sh,eP a]:=enc_eq _
theorem enc_cells(p:SV):p.enc.cells=[aI p.kind,aI p.n,.lst 4 (p.list.map enc) .sh,eP p.arr]:=by
 rw [enc_eq]
 rfl
theorem agg_cells(p:SV):AVal.agg p.enc.cells=p.enc:=by
 rw [enc_cells,fold]
theorem _root_.Go.Proofs.Ytkhnjeblbiocaaa.eP_shareCell(a:Option Nat):(eP a).shareCell=eP a:=by cases a<;>rfl
theorem _root_.Go.Proofs.Ytkhnjeblbiocaaa.eP_scalar(a:Option Nat):(eP a).scalar:=by cases a<;>trivial
theorem enc_share(p:SV):p.enc.share=p.enc:=by
 rw [enc_eq]
 have:=eP_shareCell p.arr
 unfold AVal.shareCell at this
 simp [AVal.share,AVal.shareCell,this]
theorem enc_flat(p:SV):p.enc.flat:=by
 rw [enc_eq]
 trivial
theorem map_share(l:List SV):(l.map enc).map AVal.share=l.map enc:=by
 rw [List.map_map]
 exact List.map_congr_left fun p _=>enc_share p
theorem cells_len(p:SV):p.enc.cells.length=4:=by
 rw [enc_cells]
 rfl
inductive Under(n:Nat):SV→Prop
 | mk {k m:Int} {l:List SV} {a:Option Nat} (ha:∀id,a=some id→id<n) (hl:∀v,v∈l→Under n v):Under n (.mk k m l a)
theorem Under.mono{n m:Nat}(h:n≤m){v:SV}(k:Under n v):Under m v:=by
 induction k with
 | mk ha hl ih=>exact .mk (fun id e=>Nat.lt_of_lt_of_le (ha id e) h) ih
theorem eP_upto{n:Nat}{a:Option Nat}(h:∀id,a=some id→id<n):(eP a).upto n:=by
 cases a with
 | none=>trivial
 | some id=>exact h id rfl
theorem Under.enc_upto{n:Nat}{p:SV}(h:Under n p):p.enc.upto n:=by
 induction h with
 | mk ha hl ih =>
  rw [enc_mk]
  simp only [AVal.upto,uptoL,true_and,and_true]
  refine⟨?_,eP_upto ha⟩
  rw [uptoL_iff]
  intro x hx
  obtain⟨v,hv,rfl⟩:=List.mem_map.1 hx
  exact ih v hv
theorem map_upto{n:Nat}{l:List SV}(h:∀v∈l,Under n v):uptoL n (l.map enc):=by
 rw [uptoL_iff]
 intro x hx
 obtain⟨v,hv,rfl⟩:=List.mem_map.1 hx
 exact(h v hv).enc_upto
theorem cells_upto{n:Nat}{l:List SV}(h:∀v∈l,Under n v):uptoL n (cellsAll (l.map enc)):=by
 rw [uptoL_iff]
 intro c hc
 simp only [cellsAll,List.mem_flatMap,List.mem_map] at hc
 obtain⟨_,⟨p,hp,rfl⟩,hc⟩:=hc
 have:=(h p hp).enc_upto
 rw [enc_eq] at this
 rw [enc_cells] at hc
 simp only [AVal.upto,uptoL_iff] at this
 exact this c hc
theorem row_len(l:List SV):(cellsAll (l.map enc)).length=l.length * 4:=by
 rw [cellsAll_length (sz:=4) (fun x hx=>by
  obtain⟨p,_,rfl⟩:=List.mem_map.1 hx
  exact p.cells_len)]
 simp
theorem row_get:∀{l:List SV} {k:Nat} {p:SV},l[k]?=some p→((cellsAll (l.map enc)).drop (k * 4)).take 4=p.enc.cells
 | q::r,0,p,h=>by
  simp only [List.getElem?_cons_zero,Option.some.injEq] at h
  subst h
  simp only [List.map_cons,cellsAll,List.flatMap_cons,Nat.zero_mul,List.drop_zero]
  rw [List.take_append_of_le_length (by rw [cells_len];exact Nat.le_refl _),List.take_of_length_le (by rw [cells_len];exact Nat.le_refl _)]
 | q::r,k+1,p,h=>by
  have ih:=row_get (l:=r) (k:=k) (p:=p) (by simpa using h)
  simp only [List.map_cons,cellsAll,List.flatMap_cons] at ih ⊢
  rw [List.drop_append,List.drop_of_length_le (by rw [cells_len];omega),cells_len,show(k+1) * 4 - 4=k * 4 by omega]
  exact ih
theorem row_set{l:List SV}{k:Nat}(h:k<l.length)(q:SV):splice (cellsAll (l.map enc)) (k * 4) q.enc.cells=cellsAll ((l.set k q).map enc):=by
 induction l generalizing k with
 | nil=>simp at h
 | cons p r ih =>
  cases k with
  | zero =>
   simp only [List.set_cons_zero,List.map_cons,cellsAll,List.flatMap_cons,splice,Nat.zero_mul,List.take_zero,List.nil_append,Nat.zero_add,cells_len]
   rw [List.drop_append_of_le_length (by rw [cells_len];exact Nat.le_refl _),List.drop_of_length_le (by rw [cells_len];exact Nat.le_refl _)]
   rfl
  | succ k =>
   have:=ih (k:=k) (by simpa using h)
   simp only [List.set_cons_succ,List.map_cons,cellsAll,List.flatMap_cons,splice,cells_len] at this ⊢
   rw [List.take_append,List.drop_append,cells_len,List.take_of_length_le (by rw [cells_len];omega),List.drop_of_length_le (by rw [cells_len];omega),show(k+1) * 4 - 4=k * 4 by omega,show(k+1) * 4+4 - 4=k * 4+4 by omega,List.nil_append,List.append_assoc,this]
def word(n:Int):SV:=mk 0 n [] none
def zero:SV:=mk 0 0 [] none
inductive Wf(f:Nat)(a:Nat→Prop):SV→Prop
 | mk {k m:Int} {l:List SV} {r:Option Nat}
   (h0:0≤k∧k≤4) (h1:k=0∨k=1→-1073741824≤m∧m≤1073741823) (h2:k=2→0≤m∧m<f) (h3:k=3→∃id,r=some id)
   (h4:k=4→∀v,v∈l→v.kind=0) (hl:l.length≤1000) (hr:∀id,r=some id→a id) (h:∀v,v∈l→Wf f a v):Wf f a (.mk k m l r)
theorem Wf.under{f n:Nat}{a:Nat→Prop}(ha:∀id,a id→id<n){v:SV}(h:Wf f a v):Under n v:=by
 induction h with
 | mk h0 h1 h2 h3 h4 hl hr h ih=>exact .mk (fun id e=>ha id (hr id e)) ih
theorem Wf.mono{f:Nat}{a b:Nat→Prop}(hab:∀id,a id→b id){v:SV}(h:Wf f a v):Wf f b v:=by
 induction h with
 | mk h0 h1 h2 h3 h4 hl hr h ih=>exact .mk h0 h1 h2 h3 h4 hl (fun id e=>hab id (hr id e)) ih
theorem Wf.word{f:Nat}{a:Nat→Prop}{n:Int}(h:-1073741824≤n∧n≤1073741823):Wf f a (word n) :=
 .mk (by omega) (fun _=>h) (by omega) (by omega) (by omega) (by simp) (by simp) (by simp)
theorem Wf.zero{f:Nat}{a:Nat→Prop}:Wf f a zero:=Wf.word (n:=0) (by omega)
theorem Wf.num{f:Nat}{a:Nat→Prop}{v:SV}(h:Wf f a v):v.kind=0∨v.kind=1→-1073741824≤v.n∧v.n≤1073741823:=by cases h;assumption
theorem Wf.fn{f:Nat}{a:Nat→Prop}{v:SV}(h:Wf f a v):v.kind=2→0≤v.n∧v.n<f:=by cases h;assumption
theorem Wf.array{f:Nat}{a:Nat→Prop}{v:SV}(h:Wf f a v):v.kind=3→∃id,v.arr=some id:=by cases h;assumption
theorem Wf.vec{f:Nat}{a:Nat→Prop}{v:SV}(h:Wf f a v):v.kind=4→∀x∈v.list,x.kind=0:=by cases h;assumption
theorem Wf.len{f:Nat}{a:Nat→Prop}{v:SV}(h:Wf f a v):v.list.length≤1000:=by cases h;assumption
theorem Wf.ref{f:Nat}{a:Nat→Prop}{v:SV}(h:Wf f a v):∀id,v.arr=some id→a id:=by cases h;assumption
theorem Wf.kids{f:Nat}{a:Nat→Prop}{v:SV}(h:Wf f a v):∀x∈v.list,Wf f a x:=by cases h;assumption
end SV
def lookS:List (Int×SV)→Int→Option SV
 | [],_=>none
 | (k,v)::r,key=>if k=key then some v else lookS r key
def putS':List (Int×SV)→Int→SV→List (Int×SV)
 | [],key,y=>[(key,y)]
 | (k,x)::r,key,y=>if k=key then (key,y)::r else (k,x)::putS' r key y
def ent(e:Int×SV):Value×AVal:=(.int .i64 e.1,e.2.enc)
theorem eqKey_i64(k l:Int):eqKey (.int .i64 k) (.int .i64 l)=decide (k=l):=by
 simp [eqKey]
theorem look_ent(es:List (Int×SV))(k:Int):lookV (es.map ent) (.int .i64 k)=(lookS es k).map SV.enc:=by
 induction es with
 | nil=>rfl
 | cons p r ih =>
  obtain⟨a,v⟩:=p
  simp only [List.map_cons,ent,lookV,lookS,eqKey_i64,decide_eq_true_eq]
  split
  ·rfl
  exact ih
theorem put_ent(es:List (Int×SV))(k:Int)(v:SV):putV (es.map ent) (.int .i64 k) v.enc=(putS' es k v).map ent:=by
 induction es with
 | nil=>rfl
 | cons p r ih =>
  obtain⟨a,x⟩:=p
  simp only [List.map_cons,ent,putV,putS',eqKey_i64,decide_eq_true_eq]
  split
  ·rfl
  simp only [List.map_cons,ent]
  rw [←ih]
def getS(es:List (Int×SV))(k:Int):SV:=(lookS es k).getD .zero
theorem mem_lookS{es:List (Int×SV)}{k:Int}{v:SV}(h:lookS es k=some v):∃e∈es,e.2=v:=by
 induction es with
 | nil=>simp [lookS] at h
 | cons p r ih =>
  obtain⟨a,x⟩:=p
  simp only [lookS] at h
  split at h
  ·exact⟨(a,x),by simp,by simpa using h⟩
  obtain⟨e,h1,h2⟩:=ih h
  exact⟨e,by simp [h1],h2⟩
theorem mem_putS'{es:List (Int×SV)}{k:Int}{v:SV}{e:Int×SV}(h:e∈putS' es k v):e∈es∨e=(k,v):=by
 induction es with
 | nil=>simpa [putS'] using h
 | cons p r ih =>
  obtain⟨a,x⟩:=p
  simp only [putS'] at h
  split at h
  ·rcases List.mem_cons.1 h with h | h
   ·exact .inr h
   exact .inl (by simp [h])
  rcases List.mem_cons.1 h with h | h
  ·exact .inl (by simp [h])
  rcases ih h with h | h
  ·exact .inl (by simp [h])
  exact .inr h
instance:Inhabited Ins:=⟨⟨0,0,0,[]⟩⟩
instance:Inhabited Edge:=⟨⟨0,[]⟩⟩
instance:Inhabited Term:=⟨⟨0,0,0,[],[]⟩⟩
instance:Inhabited Block:=⟨⟨[],[],default⟩⟩
instance:Inhabited Func:=⟨⟨0,[]⟩⟩
instance:Inhabited SV:=⟨.zero⟩
structure Fr where
 fid:Nat
 mid:Nat
 fn:Int
 blk:Int
 pos:Nat
 to:Int
 vals:List (Int×SV)
structure Arr where
 vid:Nat
 bid:Nat
 l:List SV
structure Mach where
 sid:Nat
 frames:List Fr
 heap:List Arr
 next:Nat
 left:Int
 short:Bool
 over:Bool
 out:List Int
 fin:Int
 val:Int
def fnOf(u:Unt)(k:Int):Func:=u.fns[k.toNat]?.getD default
def blkOf(f:Func)(k:Int):Block:=f.blocks[k.toNat]?.getD default
def wrapW(n:Int):Int:=(n+1073741824) % 2147483648 - 1073741824
def binaryM(op a b:Int):SV×Int :=
 if op=1 then (.word (wrapW (a+b)),0)
 else if op=2 then (.word (wrapW (a - b)),0)
 else if op=3 then (.word (wrapW (a * b)),0)
 else if op=6 then (.word (if a<b then 1 else 0),0)
 else if op=7 then (.word (if a=b then 1 else 0),0)
 else if b=0 then (.zero,1)
 else if op=4 then (.word (wrapW (a.tdiv b)),0)
 else (.word (a.tmod b),0)
def allK(l:List SV)(k:Int):Bool:=l.all fun v=>decide (v.kind=k)
def argS(l:List SV)(k:Nat):SV:=l[k]?.getD .zero
def objectM(i:Ins)(args:List SV):SV×Int :=
 if i.op=11 then
  if ((argS args 0).kind≠1∧(argS args 0).kind≠2)∨((argS args 0).list.length:Int)≤i.n then (.zero,5) else (argS (argS args 0).list i.n.toNat,0)
 else if (argS args 0).kind≠1 then (.zero,5)
 else if i.op=10 then (.word (argS args 0).n,0)
 else if i.op=12 then (.word (argS args 0).list.length,0)
 else if (argS args 1).kind≠0 then (.zero,5)
 else if (argS args 1).n<0∨((argS args 0).list.length:Int)≤(argS args 1).n then (.zero,2)
 else (argS (argS args 0).list (argS args 1).n.toNat,0)
def zipM(op:Int):List SV→List SV→List SV
 | a::r,b::s=>(binaryM op a.n b.n).1::zipM op r s
 | _,_=>[]
def vectorM(i:Ins)(args:List SV):SV×Int :=
 if i.op=22 then
  if allK args 0 then (.mk 4 0 args none,0) else (.zero,5)
 else if i.op=24 then
  if (argS args 0).kind≠4∨((argS args 0).list.length:Int)≤i.n then (.zero,5) else (argS (argS args 0).list i.n.toNat,0)
 else if !allK args 4∨(argS args 0).list.length≠(argS args 1).list.length then (.zero,5)
 else (.mk 4 0 (zipM i.n (argS args 0).list (argS args 1).list) none,0)
namespace Mach
def pay(m:Mach)(n:Int):Mach:=if m.left<n then { m with short:=true,over:=true } else { m with left:=m.left - n }
def stop(m:Mach)(e n:Int):Mach:={ m with over:=true,fin:=e,val:=n }
def arrOf:List Arr→Option Nat→List SV
 | [],_=>[]
 | a::r,id=>if id=some a.vid then a.l else arrOf r id
def setArr:List Arr→Option Nat→List SV→List Arr
 | [],_,_=>[]
 | a::r,id,l=>if id=some a.vid then ⟨a.vid,a.bid,l⟩::r else a::setArr r id l
def allocate(m:Mach)(size fill:SV):Mach×SV×Int :=
 if size.kind≠0 then (m,.zero,5)
 else if size.n<0∨1024<size.n then (m,.zero,6)
 else if (m.pay size.n).short then (m.pay size.n,.zero,0)
 else ({ m.pay size.n with heap:=m.heap++[⟨m.next+8,m.next+7,List.replicate size.n.toNat fill⟩],next:=m.next+9 },.mk 3 0 [] (some (m.next+8)),0)
def effect(m:Mach)(i:Ins)(args:List SV):Mach×SV×Int :=
 if i.op=15 then
  if (argS args 0).kind≠0 then (m,.zero,5)
  else if m.out.length=1000 then (m,.zero,6)
  else ({ m with out:=m.out++[(argS args 0).n] },.word 0,0)
 else if i.op=16 then m.allocate (argS args 0) (argS args 1)
 else if i.op=18 then
  if !allK args 0 then (m,.zero,5)
  else if (argS args 0).n<0∨(argS args 1).n≤(argS args 0).n then (m,.zero,2)
  else (m,.word 0,0)
 else if (argS args 0).kind≠3∨(i.op≠17∧(argS args 1).kind≠0) then (m,.zero,5)
 else if i.op=17 then (m,.word (arrOf m.heap (argS args 0).arr).length,0)
 else if (argS args 1).n<0∨((arrOf m.heap (argS args 0).arr).length:Int)≤(argS args 1).n then (m,.zero,2)
 else if i.op=19 then (m,argS (arrOf m.heap (argS args 0).arr) (argS args 1).n.toNat,0)
 else ({ m with heap:=setArr m.heap (argS args 0).arr ((arrOf m.heap (argS args 0).arr).set (argS args 1).n.toNat (argS args 2)) },.word 0,0)
def exec(m:Mach)(i:Ins)(args:List SV):Mach×SV×Int :=
 if i.op=0 then (m,.word i.n,0)
 else if 1≤i.op∧i.op≤7 then
  if !allK args 0 then (m,.zero,5) else (m,binaryM i.op (argS args 0).n (argS args 1).n)
 else if i.op=8 then (m,.mk 1 i.n args none,0)
 else if i.op=9 then (m,.mk 2 i.n args none,0)
 else if i.op=10∨i.op=11∨i.op=12∨i.op=21 then (m,objectM i args)
 else if i.op=22∨i.op=23∨i.op=24 then (m,vectorM i args)
 else if i.op=100 then (m,argS args 0,0)
 else m.effect i args
end Mach
def bindS:List (Int×SV)→List Int→List SV→List (Int×SV)
 | es,p::ps,a::l=>bindS (putS' es p a) ps l
 | es,_,_=>es
def takeS(es:List (Int×SV))(l:List Int):List SV:=l.map (getS es)
def choiceM(t:Term)(n:Int):Nat :=
 if t.kind=2 then (if n≠0 then 0 else 1) else t.cases.findIdx (· == n)
namespace Mach
def enter(u:Unt)(m:Mach)(fn:Int)(args:List SV)(to:Int):Mach :=
 { m with sid:=m.next+2,next:=m.next+3,frames:=⟨m.next+1,m.next,fn,0,0,to,bindS [] (blkOf (fnOf u fn) 0).params args⟩::m.frames }
def setTop(m:Mach)(f:Fr):Mach:={ m with frames:=f::m.frames.tail }
def follow(u:Unt)(m:Mach)(f:Fr)(e:Edge):Mach :=
 m.setTop { f with blk:=e.block,pos:=0,vals:=bindS f.vals (blkOf (fnOf u f.fn) e.block).params (takeS f.vals e.args) }
def leave(m:Mach)(f:Fr)(v:SV):Mach :=
 match m.frames.tail with
 | []=>{ m with frames:=[] }.stop 0 (if v.kind=0∨v.kind=1 then v.n else 0)
 | g::r=>{ m with frames:={ g with vals:=putS' g.vals f.to v }::r }
def finish(u:Unt)(m:Mach)(f:Fr)(t:Term):Mach :=
 if t.kind=4 then m.stop t.n 0
 else if t.kind=1 then m.follow u f (t.to[0]?.getD default)
 else if t.kind=0 then m.leave f (getS f.vals t.arg)
 else if (getS f.vals t.arg).kind≠0 then m.stop 5 0
 else m.follow u f (t.to[choiceM t (getS f.vals t.arg).n]?.getD default)
def settle(f:Fr)(to:Int)(r:Mach×SV×Int):Mach :=
 (if r.2.2≠0 then r.1.stop r.2.2 0 else r.1).setTop { f with vals:=putS' f.vals to r.2.1 }
def act(u:Unt)(m:Mach)(f:Fr)(i:Ins)(args:List SV):Mach :=
 if i.op=13 then m.enter u i.n args i.to
 else if i.op=14 then
  if (argS args 0).kind=2∧(blkOf (fnOf u (argS args 0).n) 0).params.length=args.length then m.enter u (argS args 0).n args i.to else m.stop 5 0
 else settle f i.to (m.exec i args)
def step(u:Unt)(m:Mach):Mach :=
 match m.frames with
 | []=>m
 | f::_ =>
  match (blkOf (fnOf u f.fn) f.blk).ins[f.pos]? with
  | none=>m.finish u f (blkOf (fnOf u f.fn) f.blk).term
  | some i=>(m.setTop { f with pos:=f.pos+1 }).act u { f with pos:=f.pos+1 } i (takeS f.vals i.args)
def start(fuel:Int):Mach:=⟨0,[],[],4,fuel,false,false,[],0,0⟩
def run(u:Unt):Nat→Mach→Mach
 | 0,m=>m
 | k+1,m=>if m.over then m else if (m.pay 1).short then m.pay 1 else run u k (step u (m.pay 1))
end Mach
structure Ans where
 out:List Int
 fin:Int
 val:Int
 n:Int
 e:Int
def performM(u:Unt)(fuel:Int):Ans :=
 let m:=Mach.run u (fuel.toNat+2) ((Mach.start fuel).enter u u.main [] 0)
 if m.short then ⟨[],0,0,0,13⟩ else ⟨m.out,m.fin,m.val,fuel - m.left,0⟩
def isW(n:Int):Prop:=-1073741824≤n∧n≤1073741823
structure InsOK(u:Unt)(i:Ins):Prop where
 op:(0≤i.op∧i.op≤24)∨i.op=100
 len:i.args.length≤4096
 fits:fitI i.to∧fitI i.n
 c0:i.op=0→isW i.n
 c2:(1≤i.op∧i.op≤7)∨i.op=16∨i.op=18∨i.op=19∨i.op=21∨i.op=23→i.args.length=2
 c1:i.op=10∨i.op=11∨i.op=12∨i.op=15∨i.op=17∨i.op=24∨i.op=100→i.args.length=1
 c3:i.op=20→i.args.length=3
 con:i.op=8→isW i.n∧i.args.length≤16
 clos:i.op=9→0≤i.n∧i.n<u.fns.length∧i.args.length≤16
 call:i.op=13→0≤i.n∧i.n<u.fns.length∧(blkOf (fnOf u i.n) 0).params.length=i.args.length
 app:i.op=14→1≤i.args.length
 sel:i.op=11∨i.op=24→0≤i.n
 pack:i.op=22→i.args.length≤16
 vec:i.op=23→i.n=1∨i.n=2∨i.n=3
structure EdgeOK(f:Func)(e:Edge):Prop where
 lo:0≤e.block
 hi:e.block<f.blocks.length
 args:e.args.length=(blkOf f e.block).params.length
 len:e.args.length≤4096
structure TermOK(f:Func)(t:Term):Prop where
 kind:0≤t.kind∧t.kind≤4
 n:0≤t.n∧t.n≤6
 jump:t.kind=1→t.to.length=1
 cond:t.kind=2→t.to.length=2
 switch:t.kind=3→t.to.length=t.cases.length+1
 edges:∀e∈t.to,EdgeOK f e
 cl:t.cases.length≤2 ^ 40
structure BlockOK(u:Unt)(f:Func)(b:Block):Prop where
 ins:∀i∈b.ins,InsOK u i
 term:TermOK f b.term
 len:b.ins.length≤2 ^ 40
structure UnitOK(u:Unt):Prop where
 main:0≤u.main∧u.main<u.fns.length
 few:u.fns.length≤256
 none:(blkOf (fnOf u u.main) 0).params=[]
 ne:∀f∈u.fns,f.blocks≠[]∧f.blocks.length≤2 ^ 40
 blocks:∀f∈u.fns,∀b∈f.blocks,BlockOK u f b
def VOK(u:Unt)(m:Mach)(v:SV):Prop:=SV.Wf u.fns.length (fun id=>∃a∈m.heap,a.vid=id) v
structure FrOK(u:Unt)(m:Mach)(f:Fr):Prop where
 fn:0≤f.fn∧f.fn<u.fns.length
 blk:0≤f.blk∧f.blk<(fnOf u f.fn).blocks.length
 pos:f.pos≤(blkOf (fnOf u f.fn) f.blk).ins.length
 vals:∀e∈f.vals,VOK u m e.2
structure MachOK(u:Unt)(m:Mach):Prop where
 frames:∀f∈m.frames,FrOK u m f
 arrs:∀a∈m.heap,a.l.length≤1024∧∀v∈a.l,VOK u m v
 left:0≤m.left
 depth:m.frames.length+m.left≤2 ^ 40
 out:m.out.length≤1000
 words:∀n∈m.out,isW n
 fin:0≤m.fin∧m.fin≤6
 val:isW m.val
 done:m.fin≠0→m.val=0
 over:m.over=false→m.frames≠[]∧m.short=false
def eB(b:Bool):AVal:=.v (.bool b)
def mcells(u:Unt)(m:Mach):List AVal:=[eFuncs u.fns,aI u.main,.os m.sid m.frames.length 1,aI m.left,.v (.bool m.short),.v (.bool m.over),.lst 1 (m.out.map aI) (.tok 3),aI m.fin,aI m.val]
def fcells(f:Fr):List AVal:=[aI f.fn,aI f.blk,aI f.pos,aI f.to,.mm f.mid]
def ptrs(l:List Fr):List AVal:=l.reverse.map fun f=>.mp f.fid 0
theorem ktok_i64(v:Int):KT.ok (.int .i64) (.int .i64 v)=True:=by simp [KT.ok]
theorem uptoO_set{O:List AObj}{n k:Nat}{x:AObj}(h:∀o∈O,o.upto n)(hx:x.upto n):∀o∈O.set k x,o.upto n:=fun o ho=>by
 rcases List.mem_or_eq_of_mem_set ho with q | q
 ·exact h o q
 subst q
 exact hx
theorem uptoO_snoc{O:List AObj}{n:Nat}{x:AObj}(h:∀o∈O,o.upto n)(hx:x.upto n):∀o∈O++[x],o.upto n:=fun o ho=>by
 rcases List.mem_append.1 ho with q | q
 ·exact h o q
 simp only [List.mem_singleton] at q
 subst q
 exact hx
theorem take_set_len{O:List AObj}{k:Nat}{x:AObj}:(O.set k x).take O.length=O.set k x:=List.take_of_length_le (by simp)
theorem at_left{O X:List AObj}{k:Nat}{x:AObj}(h:O[k]?=some x):(O++X)[k]?=some x:=by
 rw [List.getElem?_append_left (lt_of_getElem? h),h]
theorem at_set_ne{O:List AObj}{k j:Nat}{x y:AObj}(h:O[k]?=some x)(hj:j≠k):(O.set j y)[k]?=some x:=by
 rw [List.getElem?_set_ne hj,h]
theorem at_set{O:List AObj}{k:Nat}{x y:AObj}(h:O[k]?=some x):(O.set k y)[k]?=some y:=List.getElem?_set_self (lt_of_getElem? h)
theorem at_newk{O X:List AObj}{k:Nat}:(O++X)[O.length+k]?=X[k]?:=by
 rw [List.getElem?_append_right (by omega)]
 simp
theorem at_newz{O X:List AObj}:(O++X)[O.length]?=X[0]?:=at_newk (k:=0)
theorem set_newk{O X:List AObj}{k:Nat}{y:AObj}:(O++X).set (O.length+k) y=O++X.set k y:=by
 rw [List.set_append_right _ _ (by omega)]
 simp
theorem set_newz{O X:List AObj}{y:AObj}:(O++X).set O.length y=O++X.set 0 y:=set_newk (k:=0)
theorem set_zero{a y:AObj}{X:List AObj}:(a::X).set 0 y=y::X:=rfl
theorem set_succ{a y:AObj}{k:Nat}{X:List AObj}:(a::X).set (k+1) y=a::X.set k y:=rfl
theorem take_new{O X:List AObj}:(O++X).take O.length=O:=by simp
end Go.Proofs.Ytkhnjeblbiocaaa
namespace Go.Av
theorem awp_rel{P:Program}{kb:Nat}{c:Code}{Q:AEx→St→Prop}{σ:St}{F:Prop}(hf:∀base a g,Rel base σ a g→F)(h:F→AWP P kb c Q σ):AWP P kb c Q σ:=fun base a g hb hr=>h (hf base a g hr) base a g hb hr
theorem awp_len{P:Program}{kb:Nat}{c:Code}{Q:AEx→St→Prop}{n:Nat}{slots:List (Nat×AVal)}{O:List AObj}(s:Nat){sz:Nat}{xs:List AVal}{o:Own}(hs:look slots s=some (.lst sz xs o))
  (h:xs.length≤2 ^ 62→AWP P kb c Q ⟨n,slots,O⟩):AWP P kb c Q ⟨n,slots,O⟩ :=
 awp_rel (fun _ _ _ hr=>by
  obtain⟨u,_,h2⟩:=hr.slot s _ hs
  exact h2.lst_len) h
theorem look_mem:∀{l:List (Nat×AVal)} {s:Nat} {x:AVal},look l s=some x→(s,x)∈l
 | (k,y)::r,s,x,h=>by
  simp only [look] at h
  split at h
  ·rename_i e
   subst e
   simp only [Option.some.injEq] at h
   subst h
   exact List.mem_cons_self
  exact List.mem_cons_of_mem _ (look_mem h)
theorem awp_trunc'{P:Program}{kb:Nat}{c:Code}{Q:AEx→St→Prop}{n:Nat}{slots:List (Nat×AVal)}{O:List AObj}(k:Nat)(slots':List (Nat×AVal))(hk:k≤O.length)(hkb:kb≤k)(O':List AObj)(hO':O.take k=O')(hb:∀o∈O',o.upto k)
  (hs:Says ⟨n,slots,O⟩ slots') (hsl:∀p∈slots',p.2.upto k) (h:AWP P kb c Q ⟨n,slots',O'⟩):AWP P kb c Q ⟨n,slots,O⟩ :=
 awp_trunc k hk hkb slots' (by rw [hO'];exact hb) hs (fun s x hx=>hsl _ (look_mem hx)) (by rw [hO'];exact h)
theorem snoc_get{α:Type}(l:List α)(x:α):(l++[x])[l.length]?=some x:=by simp
theorem snoc_set{α:Type}(l:List α)(x y:α):(l++[x]).set l.length y=l++[y]:=by simp
theorem snoc_take{α:Type}(l m:List α):(l++m).take l.length=l:=by simp
theorem splice_nil(cs:List AVal):splice cs 0 []=cs:=by simp [splice]
theorem splice_head(c x:AVal)(cs xs:List AVal):splice (c::cs) 0 (x::xs)=x::splice cs 0 xs:=by simp [splice]
theorem splice_succ(c:AVal)(cs xs:List AVal)(k:Nat):splice (c::cs) (k+1) xs=c::splice cs k xs:=by
 simp only [splice,List.take_succ_cons,List.cons_append,List.cons.injEq,true_and]
 rw [show k+1+xs.length=(k+xs.length)+1 by omega,List.drop_succ_cons]
theorem take_len_map{α β:Type}(f:α→β)(l:List α):(l.map f).take l.length=l.map f:=List.take_of_length_le (by simp)
mutual
theorem AVal.upto_mono{n m:Nat}(h:n≤m):∀x:AVal,x.upto n→x.upto m
 | .v _,_=>trivial
 | .agg cs,hx=>uptoL_mono h cs hx
 | .lst _ xs o,hx=>by
  refine⟨uptoL_mono h xs hx.1,?_⟩
  have:=hx.2
  cases o<;>first | trivial | exact Nat.lt_of_lt_of_le this h
 | .ip _ cs,hx=>uptoL_mono h cs hx
 | .mp _ _,hx=>Nat.lt_of_lt_of_le hx h
 | .ms _ _ _ _,hx=>Nat.lt_of_lt_of_le hx h
 | .os _ _ _,hx=>Nat.lt_of_lt_of_le hx h
 | .raw _ _ _,hx=>Nat.lt_of_lt_of_le hx h
 | .mm _,hx=>Nat.lt_of_lt_of_le hx h
 | .im _ es,hx=>uptoE_mono h es hx
 | .fn _ fs cs,hx=>⟨uptoL_mono h fs hx.1,uptoL_mono h cs hx.2⟩
 | .tup cs,hx=>uptoL_mono h cs hx
theorem uptoL_mono{n m:Nat}(h:n≤m):∀l:List AVal,uptoL n l→uptoL m l
 | [],_=>trivial
 | x::r,hx=>⟨AVal.upto_mono h x hx.1,uptoL_mono h r hx.2⟩
theorem uptoE_mono{n m:Nat}(h:n≤m):∀l:List (Value×AVal),uptoE n l→uptoE m l
 | [],_=>trivial
 | (k,x)::r,hx=>⟨AVal.upto_mono h x hx.1,uptoE_mono h r hx.2⟩
end
theorem AObj.upto_mono{n m:Nat}(h:n≤m){o:AObj}(ho:o.upto n):o.upto m:=by
 cases o with
 | cells cs=>exact uptoL_mono h cs ho
 | map kt es=>exact uptoE_mono h es ho
 | _=>trivial
theorem sub_self(O:List AObj)(x:AVal):Sub O x x=True:=by simp [Sub.refl]
theorem Sub.int{O:List AObj}{k:IntKind}{a b:Int}(h:a=b):Sub O (.v (.int k a)) (.v (.int k b)):=.of_eq (by rw [h])
theorem Sub.lst{O:List AObj}{sz:Nat}{xs ys:List AVal}{o:Own}(h:xs=ys):Sub O (.lst sz xs o) (.lst sz ys o):=.of_eq (by rw [h])
theorem later_intro{p:Unit→Prop}{t:Tag p}(h:p ()):Later p t:=h
theorem cells_v(x:Value):AVal.cells (.v x)=[.v x]:=rfl
theorem flat_v(x:Value):AVal.flat (.v x)=True:=rfl
theorem share_v(x:Value):AVal.share (.v x)=.v x:=rfl
theorem shareCell_v(x:Value):AVal.shareCell (.v x)=.v x:=rfl
theorem cells_lst(sz:Nat)(xs:List AVal)(o:Own):AVal.cells (.lst sz xs o)=[.lst sz xs o]:=rfl
theorem flat_lst(sz:Nat)(xs:List AVal)(o:Own):AVal.flat (.lst sz xs o)=True:=rfl
theorem share_lst(sz:Nat)(xs:List AVal)(o:Own):AVal.share (.lst sz xs o)=.lst sz xs .sh:=rfl
theorem shareCell_lst(sz:Nat)(xs:List AVal)(o:Own):AVal.shareCell (.lst sz xs o)=.lst sz xs .sh:=rfl
theorem cells_ip(oa:Option Addr)(cs:List AVal):AVal.cells (.ip oa cs)=[.ip oa cs]:=rfl
theorem flat_ip(oa:Option Addr)(cs:List AVal):AVal.flat (.ip oa cs)=True:=rfl
theorem share_ip(oa:Option Addr)(cs:List AVal):AVal.share (.ip oa cs)=.ip oa cs:=rfl
theorem shareCell_ip(oa:Option Addr)(cs:List AVal):AVal.shareCell (.ip oa cs)=.ip oa cs:=rfl
theorem cells_mp(id off:Nat):AVal.cells (.mp id off)=[.mp id off]:=rfl
theorem flat_mp(id off:Nat):AVal.flat (.mp id off)=True:=rfl
theorem share_mp(id off:Nat):AVal.share (.mp id off)=.mp id off:=rfl
theorem shareCell_mp(id off:Nat):AVal.shareCell (.mp id off)=.mp id off:=rfl
theorem cells_raw(sz n id:Nat):AVal.cells (.raw sz n id)=[.raw sz n id]:=rfl
theorem flat_raw(sz n id:Nat):AVal.flat (.raw sz n id)=True:=rfl
theorem share_raw(sz n id:Nat):AVal.share (.raw sz n id)=.raw sz n id:=rfl
theorem shareCell_raw(sz n id:Nat):AVal.shareCell (.raw sz n id)=.raw sz n id:=rfl
theorem cells_ms(id off len cap:Nat):AVal.cells (.ms id off len cap)=[.ms id off len cap]:=rfl
theorem flat_ms(id off len cap:Nat):AVal.flat (.ms id off len cap)=True:=rfl
theorem share_ms(id off len cap:Nat):AVal.share (.ms id off len cap)=.ms id off len cap:=rfl
theorem shareCell_ms(id off len cap:Nat):AVal.shareCell (.ms id off len cap)=.ms id off len cap:=rfl
theorem cells_mm(id:Nat):AVal.cells (.mm id)=[.mm id]:=rfl
theorem flat_mm(id:Nat):AVal.flat (.mm id)=True:=rfl
theorem share_mm(id:Nat):AVal.share (.mm id)=.mm id:=rfl
theorem shareCell_mm(id:Nat):AVal.shareCell (.mm id)=.mm id:=rfl
theorem cells_im(kt:KT)(es:List (Value×AVal)):AVal.cells (.im kt es)=[.im kt es]:=rfl
theorem flat_im(kt:KT)(es:List (Value×AVal)):AVal.flat (.im kt es)=True:=rfl
theorem share_im(kt:KT)(es:List (Value×AVal)):AVal.share (.im kt es)=.im kt es:=rfl
theorem shareCell_im(kt:KT)(es:List (Value×AVal)):AVal.shareCell (.im kt es)=.im kt es:=rfl
theorem cells_fn(f:Fn)(fs cs:List AVal):AVal.cells (.fn f fs cs)=[.fn f fs cs]:=rfl
theorem flat_fn(f:Fn)(fs cs:List AVal):AVal.flat (.fn f fs cs)=True:=rfl
theorem share_fn(f:Fn)(fs cs:List AVal):AVal.share (.fn f fs cs)=.fn f fs cs:=rfl
theorem shareCell_fn(f:Fn)(fs cs:List AVal):AVal.shareCell (.fn f fs cs)=.fn f fs cs:=rfl
theorem cells_agg(cs:List AVal):AVal.cells (.agg cs)=cs:=rfl
theorem flat_agg(cs:List AVal):AVal.flat (.agg cs)=True:=rfl
theorem share_agg(cs:List AVal):AVal.share (.agg cs)=.agg (cs.map AVal.shareCell):=rfl
theorem share_tup(cs:List AVal):AVal.share (.tup cs)=.tup cs:=rfl
def vpre:=And.intro @vcOps.eq_1 <|
 And.intro @vcOps.eq_2 <|
 And.intro @vcOp.eq_1 <|
 And.intro @vcMove.eq_1 <|
 And.intro @on_some <|
 And.intro @draws_false <|
 And.intro @draws_true <|
 And.intro @vcIf_true <|
 And.intro @vcIf_false <|
 And.intro @vcPick.eq_1 <|
 And.intro @vcFieldAddr.eq_1 <|
 And.intro @vcField.eq_1 <|
 And.intro @vcLoad.eq_1 <|
 And.intro @vcStore.eq_1 <|
 And.intro @vcIndexAddr.eq_1 <|
 And.intro @vcBin.eq_1 <|
 And.intro @vcBin.eq_2 <|
 And.intro @vcBin.eq_3 <|
 And.intro @vcBin.eq_4 <|
 And.intro @vcBin.eq_5 <|
 And.intro @vcBin.eq_6 <|
 And.intro @vcBin.eq_7 <|
 And.intro @vcPtr.eq_1 <|
 And.intro @ptrA.eq_1 <|
 And.intro @ptrA.eq_2 <|
 And.intro @ptrA.eq_3 <|
 And.intro @vcInt.eq_1 <|
 And.intro @vcUn.eq_1 <|
 And.intro @vcUn.eq_2 <|
 And.intro @vcUn.eq_3 <|
 And.intro @bnd.eq_1 <|
 And.intro @bnd.eq_2 <|
 And.intro @vcSlice.eq_1 <|
 And.intro @vcCut.eq_1 <|
 And.intro @vcCut.eq_2 <|
 And.intro @vcBuild.eq_1 <|
 And.intro @vcBuildSlice.eq_1 <|
 And.intro @vcMakeSlice.eq_1 <|
 And.intro @vcLookup.eq_1 <|
 And.intro @vcMapUpdate.eq_1 <|
 And.intro @vcMakeMap.eq_1 <|
 And.intro @vcLen.eq_1 <|
 And.intro @vcAppend.eq_1 <|
 And.intro @vcNil.eq_1 <|
 And.intro @vcCap.eq_1 <|
 And.intro @vcClear.eq_1 <|
 And.intro @vcCall.eq_1 <|
 And.intro @vcCall.eq_2 <|
 And.intro @vcCallOp.eq_1 <|
 And.intro @vcCallOp.eq_2 <|
 And.intro @vcCallOp.eq_3 <|
 And.intro @vcCallOp.eq_4 <|
 And.intro @vcCallOp.eq_5 <|
 And.intro @vcCallOp.eq_6 <|
 And.intro @vcCallOp.eq_7 <|
 And.intro @vcCallOp.eq_8 <|
 And.intro @vcCallOp.eq_9 <|
 And.intro @vcCallOp.eq_10 <|
 And.intro @vcCallOp.eq_11 <|
 And.intro @vcCallOp.eq_12 <|
 And.intro @vcCallOp.eq_13 <|
 And.intro @vcCallOp.eq_14 <|
 And.intro @vcTop.eq_1 <|
 And.intro @vcLow.eq_1 <|
 And.intro @vcNilCheck.eq_1 <|
 And.intro @vcNilCheck.eq_2 <|
 @vcNilCheck.eq_3
def vpos:=And.intro @nxt_mk <|
 And.intro @ownAt.eq_1 <|
 And.intro @ownAt.eq_2 <|
 And.intro @ownAt.eq_3 <|
 And.intro @ownAt.eq_4 <|
 And.intro @ownAt.eq_5 <|
 And.intro @cmpAddr.eq_1 <|
 And.intro @cmpAddr.eq_2 <|
 And.intro @isNil.eq_1 <|
 And.intro @isNil.eq_2 <|
 And.intro @St.ev.eq_1 <|
 And.intro @St.ev.eq_2 <|
 And.intro @St.ev.eq_3 <|
 And.intro @St.ev.eq_4 <|
 And.intro @St.get.eq_1 <|
 And.intro @slotAt.eq_1 <|
 And.intro @slotAt.eq_2 <|
 And.intro @addSlot.eq_1 <|
 And.intro @addSlot.eq_2 <|
 And.intro @look.eq_1 <|
 And.intro @look.eq_2 <|
 And.intro @slotsOf.eq_1 <|
 And.intro @slotsOf.eq_2 <|
 And.intro @dstOK.eq_1 <|
 And.intro @dstOK.eq_2 <|
 And.intro @putO.eq_1 <|
 And.intro @putO.eq_2 <|
 And.intro @putS.eq_1 <|
 And.intro @dropS.eq_1 <|
 And.intro @dropS.eq_2 <|
 And.intro @dropO.eq_1 <|
 And.intro @dropO.eq_2 <|
 And.intro @Mode.post.eq_1 <|
 And.intro @Mode.post.eq_2 <|
 And.intro @Mode.post.eq_3 <|
 And.intro @Mode.post.eq_4 <|
 And.intro @Mode.kind.eq_1 <|
 And.intro @Mode.kind.eq_2 <|
 And.intro @Mode.kind.eq_3 <|
 And.intro @Mode.kind.eq_4 <|
 And.intro @Mode.kind.eq_5 <|
 And.intro @Mode.kind.eq_6 <|
 And.intro @cells_v <|
 And.intro @flat_v <|
 And.intro @share_v <|
 And.intro @shareCell_v <|
 And.intro @cells_lst <|
 And.intro @flat_lst <|
 And.intro @share_lst <|
 And.intro @shareCell_lst <|
 And.intro @cells_ip <|
 And.intro @flat_ip <|
 And.intro @share_ip <|
 And.intro @shareCell_ip <|
 And.intro @cells_mp <|
 And.intro @flat_mp <|
 And.intro @share_mp <|
 And.intro @shareCell_mp <|
 And.intro @cells_raw <|
 And.intro @flat_raw <|
 And.intro @share_raw <|
 And.intro @shareCell_raw <|
 And.intro @cells_ms <|
 And.intro @flat_ms <|
 And.intro @share_ms <|
 And.intro @shareCell_ms <|
 And.intro @cells_mm <|
 And.intro @flat_mm <|
 And.intro @share_mm <|
 And.intro @shareCell_mm <|
 And.intro @cells_im <|
 And.intro @flat_im <|
 And.intro @share_im <|
 And.intro @shareCell_im <|
 And.intro @cells_fn <|
 And.intro @flat_fn <|
 And.intro @share_fn <|
 And.intro @shareCell_fn <|
 And.intro @cells_agg <|
 And.intro @flat_agg <|
 And.intro @share_agg <|
 And.intro @share_tup <|
 And.intro @aconst.eq_1 <|
 And.intro @aconst.eq_2 <|
 And.intro @aconst.eq_3 <|
 And.intro @aconst.eq_4 <|
 And.intro @cmpInt.eq_1 <|
 And.intro @cmpInt.eq_2 <|
 And.intro @cmpInt.eq_3 <|
 And.intro @cmpInt.eq_4 <|
 And.intro @cmpInt.eq_5 <|
 And.intro @cmpInt.eq_6 <|
 And.intro @cmpInt.eq_7 <|
 And.intro @arithInt.eq_1 <|
 And.intro @arithInt.eq_2 <|
 And.intro @arithInt.eq_3 <|
 And.intro @arithInt.eq_4 <|
 And.intro @arithInt.eq_5 <|
 And.intro @arithInt.eq_6 <|
 And.intro @arithInt.eq_7 <|
 And.intro @arithInt.eq_8 <|
 And.intro @arithInt.eq_9 <|
 And.intro @shiftInt.eq_1 <|
 And.intro @isShift.eq_1 <|
 And.intro @isShift.eq_2 <|
 And.intro @isShift.eq_3 <|
 And.intro @isShift.eq_4 <|
 And.intro @isShift.eq_5 <|
 And.intro @isShift.eq_6 <|
 And.intro @isShift.eq_7 <|
 And.intro @isShift.eq_8 <|
 And.intro @isShift.eq_9 <|
 And.intro @isShift.eq_10 <|
 And.intro @isShift.eq_11 <|
 And.intro @isShift.eq_12 <|
 And.intro @isShift.eq_13 <|
 And.intro @isShift.eq_14 <|
 And.intro @isShift.eq_15 <|
 And.intro @isShift.eq_16 <|
 And.intro @isShift.eq_17 <|
 And.intro @cmpStr.eq_1 <|
 And.intro @cmpStr.eq_2 <|
 And.intro @cmpStr.eq_3 <|
 And.intro @cmpBool.eq_1 <|
 And.intro @cmpBool.eq_2 <|
 And.intro @cmpBool.eq_3 <|
 And.intro @Bool.and_true <|
 And.intro @Bool.true_and <|
 And.intro @Bool.and_false <|
 And.intro @Bool.false_and <|
 And.intro @Bool.and_self <|
 And.intro @nilA.eq_1 <|
 And.intro @nilA.eq_2 <|
 And.intro @nilA.eq_3 <|
 And.intro @nilA.eq_4 <|
 And.intro @nilTest.eq_1 <|
 And.intro @nilTest.eq_2 <|
 And.intro @nilTest.eq_3 <|
 And.intro @capA.eq_1 <|
 And.intro @capA.eq_2 <|
 And.intro @St.evs.eq_1 <|
 And.intro @St.evs.eq_2 <|
 And.intro @St.evParts.eq_1 <|
 And.intro @St.evParts.eq_2 <|
 And.intro @allFlat.eq_1 <|
 And.intro @allFlat.eq_2 <|
 And.intro @allSize.eq_1 <|
 And.intro @allSize.eq_2 <|
 And.intro @fillA.eq_1 <|
 And.intro @fillA.eq_2 <|
 And.intro @splice_nil <|
 And.intro @splice_head <|
 And.intro @splice_succ <|
 And.intro @seqParts.eq_1 <|
 And.intro @seqParts.eq_2 <|
 And.intro @placesOf.eq_1 <|
 And.intro @placesOf.eq_2 <|
 And.intro @TD.agg.eq_1 <|
 And.intro @TD.agg.eq_2 <|
 And.intro @TD.agg.eq_3 <|
 And.intro @TD.elem.eq_1 <|
 And.intro @TD.elem.eq_2 <|
 And.intro @lenA.eq_1 <|
 And.intro @lenA.eq_2 <|
 And.intro @lenA.eq_3 <|
 And.intro @lookRes.eq_1 <|
 And.intro @zeroOf.eq_1 <|
 And.intro @loK.eq_1 <|
 And.intro @loK.eq_2 <|
 And.intro @loK.eq_3 <|
 And.intro @loK.eq_4 <|
 And.intro @loK.eq_5 <|
 And.intro @hiK.eq_1 <|
 And.intro @hiK.eq_2 <|
 And.intro @hiK.eq_3 <|
 And.intro @hiK.eq_4 <|
 And.intro @hiK.eq_5 <|
 And.intro @hiK.eq_6 <|
 And.intro @hiK.eq_7 <|
 And.intro @hiK.eq_8 <|
 And.intro @and_self <|
 And.intro @true_and <|
 And.intro @and_true <|
 And.intro @not_false_eq_true <|
 And.intro @List.nil_append.{0} <|
 And.intro @List.cons_append.{0} <|
 And.intro @List.append_nil.{0} <|
 And.intro @List.length_nil.{0} <|
 And.intro @List.length_cons.{0} <|
 And.intro @List.getElem?_cons_zero.{0} <|
 And.intro @List.getElem?_cons_succ.{0} <|
 And.intro @List.getElem?_nil.{0} <|
 And.intro @List.take_succ_cons.{0} <|
 And.intro @List.take_zero.{0} <|
 And.intro @List.take_nil.{0} <|
 And.intro @List.drop_succ_cons.{0} <|
 And.intro @List.drop_zero.{0} <|
 And.intro @List.drop_nil.{0} <|
 And.intro @List.set_cons_zero.{0} <|
 And.intro @List.set_cons_succ.{0} <|
 And.intro @List.map_cons.{0,0} <|
 And.intro @List.map_nil.{0,0} <|
 And.intro @Option.map_none.{0,0} <|
 And.intro @Option.map_some.{0,0} <|
 And.intro @Option.isSome_some.{0} <|
 And.intro @Option.isSome_none.{0} <|
 And.intro @Option.bind_some.{0,0} <|
 And.intro @Bool.false_eq_true <|
 And.intro @Bool.not_true <|
 And.intro @Bool.not_false <|
 And.intro @beq_self_eq_true.{0} <|
 And.intro @List.getElem?_toArray.{0} <|
 And.intro @Nat.zero_add <|
 And.intro @Nat.add_zero <|
 And.intro @decide_true <|
 And.intro @decide_false <|
 And.intro @beq_true <|
 And.intro @beq_false <|
 And.intro @Bool.true_beq <|
 And.intro @Bool.false_beq <|
 And.intro @Bool.not_not <|
 And.intro @decide_eq_true_eq <|
 And.intro @decide_eq_false_iff_not <|
 And.intro @Bool.not_eq_true' <|
 And.intro @Bool.not_eq_false' <|
 And.intro @Bool.not_eq_true <|
 And.intro @Bool.not_eq_false <|
 And.intro @Int.toNat_natCast <|
 And.intro @Int.natCast_zero <|
 And.intro @Int.sub_zero <|
 And.intro @Int.add_zero <|
 And.intro @Int.zero_add <|
 And.intro @Int.toNat_zero <|
 And.intro @List.getElem?_map.{0,0} <|
 And.intro @Int.natCast_nonneg <|
 And.intro @List.length_map.{0,0} <|
 And.intro @List.not_mem_nil.{0} <|
 And.intro @false_implies <|
 And.intro @List.length_append.{0} <|
 And.intro @or_false <|
 And.intro @or_true <|
 And.intro @true_or <|
 And.intro @false_or <|
 And.intro @or_self <|
 And.intro @snoc_get <|
 And.intro @snoc_set <|
 And.intro @take_len_map <|
 @Nat.le_refl
def vend:=And.intro @seqPost_norm <|
 And.intro @seqPost_exit <|
 And.intro @seqPost_ret <|
 And.intro @blockPost_norm <|
 And.intro @blockPost_ret <|
 And.intro @blockPost_self <|
 And.intro @blockPost_other <|
 And.intro @loopPost_norm <|
 And.intro @loopPost_ret <|
 And.intro @loopPost_exit <|
 @not_false_eq_true
def G.cut(g:G)(n:Nat):G:=⟨g.w,fun b off=>g.fr b off∨∃(id:Nat) (l:Loc) (o:AObj),n≤id∧g.env[id]?=some (some l)∧g.objs[id]?=some o∧o.live∧l.block=b∧l.lo≤off,g.env.take n,g.objs.take n⟩
theorem take_iff{α:Type}{l:List α}{n i:Nat}{x:α}:(l.take n)[i]?=some x↔i<n∧l[i]?=some x:=by
 rw [List.getElem?_take]
 split
 ·rename_i h;simp [h]
 rename_i h;simp [h]
theorem cut_own{g:G}{n b off:Nat}:OwnC (g.cut n) b off↔OwnC g b off:=by
 constructor
 ·rintro((h | ⟨id,l,o,_,h1,h2,h3,h4,h5⟩) | ⟨id,l,o,h1,h2,h3,h4,h5⟩)
  ·exact .inl h
  ·exact .inr ⟨id,l,o,h1,h2,h3,h4,h5⟩
  exact .inr ⟨id,l,o,(take_iff.1 h1).2,(take_iff.1 h2).2,h3,h4,h5⟩
 rintro(h | ⟨id,l,o,h1,h2,h3,h4,h5⟩)
 ·exact .inl (.inl h)
 rcases Nat.lt_or_ge id n with hlt | hge
 ·exact .inr ⟨id,l,o,take_iff.2 ⟨hlt,h1⟩,take_iff.2 ⟨hlt,h2⟩,h3,h4,h5⟩
 exact .inl (.inr ⟨id,l,o,hge,h1,h2,h3,h4,h5⟩)
theorem RV.cut{g:G}{n:Nat}(hn0:n≤g.objs.length){x:AVal}{u:Value}(h:RV g x u)(hb:x.upto n):RV (g.cut n) x u:=by
 induction h with
 | v hx=>exact .v hx
 | agg hl hsc _ ih =>
  simp only [AVal.upto,uptoL_iff] at hb
  exact .agg hl hsc fun i c u a b=>ih i c u a b (hb c (List.mem_of_getElem? a))
 | nil ho hnn =>
  simp only [AVal.upto] at hb
  refine .nil (fun id e=>?_) hnn
  subst e
  have:=hb.2
  simp only at this
  simp only [G.cut,List.length_take]
  omega
 | lst hsz hsc hcap hmax hs f hm hr ho ih =>
  rename_i sz xs o a cap
  simp only [AVal.upto,uptoL_iff] at hb
  refine .lst hsz hsc hcap hmax hs f (fun j c hj=>⟨(hm j c hj).1,fun q=>(hm j c hj).2 (cut_own.1 q)⟩) (fun j c hj=>ih j c hj ?_) ?_
  ·have hc:=List.mem_of_getElem? hj
   simp only [cellsAll,List.mem_flatMap] at hc
   obtain⟨x,hx,hc⟩:=hc
   have:=hb.1 x hx
   cases x with
   | agg cs =>
    simp only [AVal.upto,uptoL_iff] at this
    exact this c hc
   | _=>simp only [AVal.cells,List.mem_singleton] at hc;subst hc;exact this
  cases o with
  | sh=>trivial
  | nn=>trivial
  | ex=>exact ho
  | loc a=>exact ho
  | tok id =>
   have hid:=hb.2
   simp only at hid
   refine⟨by simp only [G.cut,List.length_take];omega,fun m hm'=>?_⟩
   obtain⟨h1,h2⟩:=ho.2 m (take_iff.1 hm').2
   refine⟨h1,fun e=>?_⟩
   rcases h2 e with q | ⟨l,arr,t,q1,q2⟩
   ·exact .inl q
   exact .inr ⟨l,arr,t,take_iff.2 ⟨hid,q1⟩,q2⟩
 | ip ha hsc f hm hr ih =>
  simp only [AVal.upto,uptoL_iff] at hb
  exact .ip ha hsc f (fun j c hj=>⟨(hm j c hj).1,fun q=>(hm j c hj).2 (cut_own.1 q)⟩) fun j c hj=>ih j c hj (hb c (List.mem_of_getElem? hj))
 | mp he ho hn' =>
  simp only [AVal.upto] at hb
  exact .mp (take_iff.2 ⟨hb,he⟩) (take_iff.2 ⟨hb,ho⟩) hn'
 | ms he ho hn' hc hc' hmax =>
  simp only [AVal.upto] at hb
  exact .ms (take_iff.2 ⟨hb,he⟩) (take_iff.2 ⟨hb,ho⟩) hn' hc hc' hmax
 | os he ho hn' hc hc' hmax =>
  simp only [AVal.upto] at hb
  exact .os (take_iff.2 ⟨hb,he⟩) (take_iff.2 ⟨hb,ho⟩) hn' hc hc' hmax
 | raw hnn ho =>
  rename_i sz n0 id a cap
  have hid:id<n:=hb
  refine .raw hnn ⟨by simp only [G.cut,List.length_take];omega,fun m hm'=>?_⟩
  obtain⟨h1,h2⟩:=ho.2 m (take_iff.1 hm').2
  refine⟨h1,fun e=>?_⟩
  rcases h2 e with q | ⟨l,arr,t,q1,q2⟩
  ·exact .inl q
  exact .inr ⟨l,arr,t,take_iff.2 ⟨hid,q1⟩,q2⟩
 | mm he ho hn' =>
  simp only [AVal.upto] at hb
  exact .mm (take_iff.2 ⟨hb,he⟩) (take_iff.2 ⟨hb,ho⟩) hn'
 | im hh hn' hl hk hkt _ ih =>
  simp only [AVal.upto,uptoE_iff] at hb
  exact .im hh (fun off q=>hn' off (cut_own.1 q)) hl hk hkt fun i e kx a b=>ih i e kx a b (hb kx (List.mem_of_getElem? b))
 | fn hl hl' _ _ ih ih' =>
  simp only [AVal.upto,uptoL_iff] at hb
  exact .fn hl hl' (fun i c u a b=>ih i c u a b (hb.1 c (List.mem_of_getElem? a))) fun i c u a b=>ih' i c u a b (hb.2 c (List.mem_of_getElem? a))
 | tup hl _ ih =>
  simp only [AVal.upto,uptoL_iff] at hb
  exact .tup hl fun i c u a b=>ih i c u a b (hb c (List.mem_of_getElem? a))
theorem Good.cut{g:G}(hg:Good g){n:Nat}(hn:n≤g.objs.length)(hb:∀o∈g.objs.take n,o.upto n):Good (g.cut n) where
 frlt:=fun b off h=>by
  rcases h with h | ⟨id,l,o,_,h1,h2,h3,h4,_⟩
  ·exact hg.frlt b off h
  exact h4 ▸ hg.loc id l o h1 h2 h3
 frown:=fun id l o h1 h2 h3 off h=>by
  obtain⟨q1,h1⟩:=take_iff.1 h1
  obtain⟨_,h2⟩:=take_iff.1 h2
  rcases h with h | ⟨id',l',o',k0,k1,k2,k3,k4,_⟩
  ·exact hg.frown id l o h1 h2 h3 off h
  have:=hg.apart id id' l l' o o' h1 h2 h3 k1 k2 k3 k4.symm
  omega
 len:=by simp [G.cut,hg.len]
 loc:=fun id l o h1 h2 h3=>hg.loc id l o (take_iff.1 h1).2 (take_iff.1 h2).2 h3
 apart:=fun id id' l l' o o' h1 h2 h3 k1 k2 k3=>hg.apart id id' l l' o o' (take_iff.1 h1).2 (take_iff.1 h2).2 h3 (take_iff.1 k1).2 (take_iff.1 k2).2 k3
 cells:=fun id cs h1=>by
  have hb':=hb _ (List.mem_of_getElem? h1)
  obtain⟨q,h1⟩:=take_iff.1 h1
  obtain⟨l,arr,t,e1,e0,e2,e3,e4,e5⟩:=hg.cells id cs h1
  simp only [AObj.upto,uptoL_iff] at hb'
  exact⟨l,arr,t,take_iff.2 ⟨q,e1⟩,e0,e2,e3,fun j c u a b=>(e4 j c u a b).cut hn (hb' c (List.mem_of_getElem? a)),e5⟩
 spare:=fun id m l h1 h2=>hg.spare id m l (take_iff.1 h1).2 (take_iff.1 h2).2
 map:=fun id kt es h1=>by
  have hb':=hb _ (List.mem_of_getElem? h1)
  obtain⟨q,h1⟩:=take_iff.1 h1
  obtain⟨l,arr,clk,e1,e0,e2,e3,e6,e4⟩:=hg.map id kt es h1
  simp only [AObj.upto,uptoE_iff] at hb'
  exact⟨l,arr,clk,take_iff.2 ⟨q,e1⟩,e0,e2,e3,e6,fun i e kx a b=>⟨(e4 i e kx a b).1,(e4 i e kx a b).2.1,(e4 i e kx a b).2.2.cut hn (hb' kx (List.mem_of_getElem? b))⟩⟩
def G.rejoin(g:G)(n:Nat)(g':G):G:=⟨g'.w,g.fr,g'.env++g.env.drop n,g'.objs++g.objs.drop n⟩
theorem rejoin_some{α:Type}{a l:List α}{n i:Nat}{x:α}(ha:a.length=n):(a++l.drop n)[i]?=some x↔(i<n∧a[i]?=some x)∨(n≤i∧l[i]?=some x):=by
 rw [List.getElem?_append]
 split
 ·rename_i h
  constructor
  ·intro e;exact .inl ⟨by omega,e⟩
  rintro(⟨_,e⟩ | ⟨q,_⟩)
  ·exact e
  omega
 rename_i h
 rw [List.getElem?_drop,show n+(i - a.length)=i by omega]
 constructor
 ·intro e;exact .inr ⟨by omega,e⟩
 rintro(⟨q,_⟩ | ⟨_,e⟩)
 ·omega
 exact e
structure Cuts(g:G)(n:Nat)(g':G):Prop where
 good:Good g
 le:Le (g.cut n) g'
 good':Good g'
 lt:n≤g.objs.length
 same:g'.objs.length=n
theorem Cuts.env{g g':G}{n:Nat}(h:Cuts g n g'):g'.env.length=n:=h.good'.len.trans h.same
theorem Cuts.ownB{g g':G}{n b:Nat}(h:Cuts g n g')(hn:OwnLB (g.rejoin n g') b):OwnLB g' b∨∃(id:Nat) (l:Loc) (o:AObj),n≤id∧g.env[id]?=some (some l)∧g.objs[id]?=some o∧o.live∧l.block=b:=by
 obtain⟨id,l,o,h1,h2,h3,h4⟩:=hn
 rcases (rejoin_some h.env).1 h1 with⟨q1,h1⟩ | ⟨q1,h1⟩
 ·rcases (rejoin_some h.same).1 h2 with⟨q2,h2⟩ | ⟨q2,h2⟩
  ·exact .inl ⟨id,l,o,h1,h2,h3,h4⟩
  omega
 rcases (rejoin_some h.same).1 h2 with⟨q2,h2⟩ | ⟨q2,h2⟩
 ·omega
 exact .inr ⟨id,l,o,q1,h1,h2,h3,h4⟩
theorem Cuts.own{g g':G}{n b off:Nat}(h:Cuts g n g'):OwnC (g.rejoin n g') b off→OwnC g' b off:=by
 rintro(hf | ⟨id,l,o,h1,h2,h3,h4,h5⟩)
 ·refine .inl ?_
  rw [h.le.fr]
  exact .inl hf
 rcases (rejoin_some h.env).1 h1 with⟨q1,h1⟩ | ⟨q1,h1⟩
 ·rcases (rejoin_some h.same).1 h2 with⟨q2,h2⟩ | ⟨q2,h2⟩
  ·exact .inr ⟨id,l,o,h1,h2,h3,h4,h5⟩
  omega
 rcases (rejoin_some h.same).1 h2 with⟨q2,h2⟩ | ⟨q2,h2⟩
 ·omega
 refine .inl ?_
 rw [h.le.fr]
 exact .inr ⟨id,l,o,q1,h1,h2,h3,h4,h5⟩
theorem cut_ownB{g:G}{n b:Nat}(h:OwnLB (g.cut n) b):OwnLB g b:=by
 obtain⟨id,l,o,h1,h2,h3,h4⟩:=h
 exact⟨id,l,o,(take_iff.1 h1).2,(take_iff.1 h2).2,h3,h4⟩
theorem cut_ownL{g:G}{n b off:Nat}(h:OwnL (g.cut n) b off):OwnL g b off:=by
 obtain⟨id,l,o,h1,h2,h3,h4,h5⟩:=h
 exact⟨id,l,o,(take_iff.1 h1).2,(take_iff.1 h2).2,h3,h4,h5⟩
theorem Cuts.block{g g':G}{n:Nat}(h:Cuts g n g'){id:Nat}{l:Loc}{o:AObj}(hid:n≤id)(h1:g.env[id]?=some (some l))(h2:g.objs[id]?=some o)(h3:o.live):g'.w.heap[l.block]?=g.w.heap[l.block]?:=by
 refine(h.le.block l.block (h.good.loc id l o h1 h2 h3) ?_).1
 rintro⟨id',l',o',k1,k2,k3,k4⟩
 obtain⟨q,k1⟩:=take_iff.1 k1
 have:=h.good.apart id' id l' l o' o k1 (take_iff.1 k2).2 k3 h1 h2 h3 k4
 omega
theorem Cuts.le'{g g':G}{n:Nat}(h:Cuts g n g'):Le g (g.rejoin n g') where
 os:=h.le.os
 tape:=h.le.tape
 output:=h.le.output
 fr:=rfl
 size:=h.le.size
 block:=fun k hk hh=>by
  obtain⟨q1,q2⟩:=h.le.block k hk (fun q=>hh (cut_ownB q))
  refine⟨q1,fun q=>?_⟩
  rcases h.ownB q with q | ⟨id,l,o,_,q⟩
  ·exact q2 q
  exact hh ⟨id,l,o,q⟩
 cell:=fun b off x hx hh=>by
  obtain⟨q1,q2⟩:=h.le.cell b off x hx (fun q=>hh (cut_ownL q))
  refine⟨q1,fun q=>?_⟩
  obtain⟨id,l,o,h1,h2,h3,h4,h5⟩:=q
  rcases (rejoin_some h.env).1 h1 with⟨e1,h1⟩ | ⟨e1,h1⟩
  ·rcases (rejoin_some h.same).1 h2 with⟨e2,h2⟩ | ⟨e2,h2⟩
   ·exact q2 ⟨id,l,o,h1,h2,h3,h4,h5⟩
   omega
  rcases (rejoin_some h.same).1 h2 with⟨e2,h2⟩ | ⟨e2,h2⟩
  ·omega
  exact hh ⟨id,l,o,h1,h2,h3,h4,h5⟩
 len:=by
  simp only [G.rejoin,List.length_append,List.length_drop,h.same]
  omega
 spare:=fun id m hm=>by
  rcases Nat.lt_or_ge id n with q | q
  ·rcases h.le.spare id m (take_iff.2 ⟨q,hm⟩) with⟨m',k1,k2⟩ | ⟨o',k1,k2⟩
   ·exact .inl ⟨m',(rejoin_some h.same).2 (.inl ⟨q,k1⟩),k2⟩
   exact .inr ⟨o',(rejoin_some h.same).2 (.inl ⟨q,k1⟩),k2⟩
  exact .inl ⟨m,(rejoin_some h.same).2 (.inr ⟨q,hm⟩),Nat.le_refl _⟩
 plain:=fun id o ho hs=>by
  have hlt:=lt_of_getElem? ho
  have he:g.env[id]?=some (g.env[id]'(by rw [h.good.len];exact hlt)):=List.getElem?_eq_getElem _
  rcases Nat.lt_or_ge id n with q | q
  ·obtain⟨⟨o',k1,k2⟩,k3⟩:=h.le.plain id o (take_iff.2 ⟨q,ho⟩) hs
   refine⟨⟨o',(rejoin_some h.same).2 (.inl ⟨q,k1⟩),k2⟩,?_⟩
   rw [he]
   refine(rejoin_some h.env).2 (.inl ⟨q,?_⟩)
   rw [k3]
   exact take_iff.2 ⟨q,he⟩
  refine⟨⟨o,(rejoin_some h.same).2 (.inr ⟨q,ho⟩),hs⟩,?_⟩
  rw [he]
  exact(rejoin_some h.env).2 (.inr ⟨q,he⟩)
 gone:=fun id ho=>by
  rcases Nat.lt_or_ge id n with q | q
  ·exact(rejoin_some h.same).2 (.inl ⟨q,h.le.gone id (take_iff.2 ⟨q,ho⟩)⟩)
  exact(rejoin_some h.same).2 (.inr ⟨q,ho⟩)
 tok:=fun id m hm hm'=>by
  have hlt:=lt_of_getElem? hm
  have he:g.env[id]?=some (g.env[id]'(by rw [h.good.len];exact hlt)):=List.getElem?_eq_getElem _
  rcases (rejoin_some h.same).1 hm' with⟨q,hm'⟩ | ⟨q,hm'⟩
  ·obtain⟨k1,k2⟩:=h.le.tok id m (take_iff.2 ⟨q,hm⟩) hm'
   refine⟨?_,fun l hl=>k2 l (take_iff.2 ⟨q,hl⟩)⟩
   rw [he]
   refine(rejoin_some h.env).2 (.inl ⟨q,?_⟩)
   rw [k1]
   exact take_iff.2 ⟨q,he⟩
  refine⟨?_,fun l hl=>h.block q hl hm trivial⟩
  rw [he]
  exact(rejoin_some h.env).2 (.inr ⟨q,he⟩)
theorem RV.rejoin{g g':G}{n:Nat}(hc:Cuts g n g'){x:AVal}{u:Value}(h:RV g' x u):RV (g.rejoin n g') x u:=by
 have hlt:∀{id:Nat} {o:AObj},g'.objs[id]?=some o→id<n:=fun ho=>by
  have:=lt_of_getElem? ho
  rw [hc.same] at this
  exact this
 induction h with
 | v hx=>exact .v hx
 | agg hl hsc _ ih=>exact .agg hl hsc ih
 | nil ho hnn =>
  refine .nil (fun id e=>?_) hnn
  have:=ho id e
  simp only [G.rejoin,List.length_append]
  omega
 | lst hsz hsc hcap hmax hs f hm hr ho ih =>
  rename_i sz xs o a cap
  refine .lst hsz hsc hcap hmax hs f (fun j c hj=>⟨(hm j c hj).1,fun q=>(hm j c hj).2 (hc.own q)⟩) ih ?_
  cases o with
  | sh=>trivial
  | nn=>trivial
  | ex=>exact ho
  | loc a=>exact ho
  | tok id =>
   have hid:=ho.1
   rw [hc.same] at hid
   refine⟨by simp only [G.rejoin,List.length_append,hc.same];omega,fun m hm'=>?_⟩
   rcases (rejoin_some hc.same).1 hm' with⟨q,hm'⟩ | ⟨q,_⟩
   ·obtain⟨h1,h2⟩:=ho.2 m hm'
    refine⟨h1,fun e=>?_⟩
    rcases h2 e with k | ⟨l,arr,t,k1,k2⟩
    ·exact .inl k
    exact .inr ⟨l,arr,t,(rejoin_some hc.env).2 (.inl ⟨q,k1⟩),k2⟩
   omega
 | ip ha hsc f hm hr ih=>exact .ip ha hsc f (fun j c hj=>⟨(hm j c hj).1,fun q=>(hm j c hj).2 (hc.own q)⟩) ih
 | mp he ho hn'=>exact .mp ((rejoin_some hc.env).2 (.inl ⟨hlt ho,he⟩)) ((rejoin_some hc.same).2 (.inl ⟨hlt ho,ho⟩)) hn'
 | ms he ho hn' hc1 hc' hmax=>exact .ms ((rejoin_some hc.env).2 (.inl ⟨hlt ho,he⟩)) ((rejoin_some hc.same).2 (.inl ⟨hlt ho,ho⟩)) hn' hc1 hc' hmax
 | os he ho hn' hc1 hc' hmax=>exact .os ((rejoin_some hc.env).2 (.inl ⟨hlt ho,he⟩)) ((rejoin_some hc.same).2 (.inl ⟨hlt ho,ho⟩)) hn' hc1 hc' hmax
 | raw hnn ho =>
  rename_i sz n0 id a cap
  have hid:=ho.1
  rw [hc.same] at hid
  refine .raw hnn ⟨by simp only [G.rejoin,List.length_append,hc.same];omega,fun m hm'=>?_⟩
  rcases (rejoin_some hc.same).1 hm' with⟨q,hm'⟩ | ⟨q,_⟩
  ·obtain⟨h1,h2⟩:=ho.2 m hm'
   refine⟨h1,fun e=>?_⟩
   rcases h2 e with k | ⟨l,arr,t,k1,k2⟩
   ·exact .inl k
   exact .inr ⟨l,arr,t,(rejoin_some hc.env).2 (.inl ⟨q,k1⟩),k2⟩
  omega
 | mm he ho hn'=>exact .mm ((rejoin_some hc.env).2 (.inl ⟨hlt ho,he⟩)) ((rejoin_some hc.same).2 (.inl ⟨hlt ho,ho⟩)) hn'
 | im hh hn' hl hk hkt _ ih=>exact .im hh (fun off q=>hn' off (hc.own q)) hl hk hkt ih
 | fn hl hl' _ _ ih ih'=>exact .fn hl hl' ih ih'
 | tup hl _ ih=>exact .tup hl ih
theorem Cuts.good''{g g':G}{n:Nat}(h:Cuts g n g'):Good (g.rejoin n g') where
 frlt:=fun b off hf=>Nat.lt_of_lt_of_le (h.good.frlt b off hf) h.le.size
 frown:=fun id l o h1 h2 h3 off hf=>by
  rcases (rejoin_some h.env).1 h1 with⟨q,h1⟩ | ⟨q,h1⟩
  ·rcases (rejoin_some h.same).1 h2 with⟨_,h2⟩ | ⟨q2,_⟩
   ·refine h.good'.frown id l o h1 h2 h3 off ?_
    rw [h.le.fr]
    exact .inl hf
   omega
  rcases (rejoin_some h.same).1 h2 with⟨q2,_⟩ | ⟨_,h2⟩
  ·omega
  exact h.good.frown id l o h1 h2 h3 off hf
 len:=by simp [G.rejoin,h.env,h.same,h.good.len]
 loc:=fun id l o h1 h2 h3=>by
  rcases (rejoin_some h.env).1 h1 with⟨q,h1⟩ | ⟨q,h1⟩
  ·rcases (rejoin_some h.same).1 h2 with⟨_,h2⟩ | ⟨q2,_⟩
   ·exact h.good'.loc id l o h1 h2 h3
   omega
  rcases (rejoin_some h.same).1 h2 with⟨q2,_⟩ | ⟨_,h2⟩
  ·omega
  exact Nat.lt_of_lt_of_le (h.good.loc id l o h1 h2 h3) h.le.size
 apart:=fun id id' l l' o o' h1 h2 h3 k1 k2 k3 hbl=>by
  have hx:∀{i:Nat} {l:Loc} {o:AObj},(g.rejoin n g').env[i]?=some (some l)→(g.rejoin n g').objs[i]?=some o→(i<n∧g'.env[i]?=some (some l)∧g'.objs[i]?=some o)∨(n≤i∧g.env[i]?=some (some l)∧g.objs[i]?=some o):=by
   intro i l o h1 h2
   rcases (rejoin_some h.env).1 h1 with⟨q,h1⟩ | ⟨q,h1⟩
   ·rcases (rejoin_some h.same).1 h2 with⟨_,h2⟩ | ⟨q2,_⟩
    ·exact .inl ⟨q,h1,h2⟩
    omega
   rcases (rejoin_some h.same).1 h2 with⟨q2,_⟩ | ⟨_,h2⟩
   ·omega
   exact .inr ⟨q,h1,h2⟩
  rcases hx h1 h2 with⟨q,e1,e2⟩ | ⟨q,e1,e2⟩
  ·rcases hx k1 k2 with⟨q',f1,f2⟩ | ⟨q',f1,f2⟩
   ·exact h.good'.apart id id' l l' o o' e1 e2 h3 f1 f2 k3 hbl
   refine absurd ?_ (h.good'.frown id l o e1 e2 h3 l'.lo)
   rw [h.le.fr]
   exact .inr ⟨id',l',o',q',f1,f2,k3,hbl.symm,Nat.le_refl _⟩
  rcases hx k1 k2 with⟨q',f1,f2⟩ | ⟨q',f1,f2⟩
  ·refine absurd ?_ (h.good'.frown id' l' o' f1 f2 k3 l.lo)
   rw [h.le.fr]
   exact .inr ⟨id,l,o,q,e1,e2,h3,hbl,Nat.le_refl _⟩
  exact h.good.apart id id' l l' o o' e1 e2 h3 f1 f2 k3 hbl
 cells:=fun id cs h1=>by
  rcases (rejoin_some h.same).1 h1 with⟨q,h1⟩ | ⟨q,h1⟩
  ·obtain⟨l,arr,t,e1,e0,e2,e3,e4,e5⟩:=h.good'.cells id cs h1
   exact⟨l,arr,t,(rejoin_some h.env).2 (.inl ⟨q,e1⟩),e0,e2,e3,fun j c u a b=>(e4 j c u a b).rejoin h,e5⟩
  obtain⟨l,arr,t,e1,e0,e2,e3,e4,e5⟩:=h.good.cells id cs h1
  exact⟨l,arr,t,(rejoin_some h.env).2 (.inr ⟨q,e1⟩),e0,(h.block q e1 h1 trivial).trans e2,e3,fun j c u a b=>(e4 j c u a b).mono h.le',e5⟩
 spare:=fun id m l h1 h2=>by
  rcases (rejoin_some h.same).1 h1 with⟨q,h1⟩ | ⟨q,h1⟩
  ·rcases (rejoin_some h.env).1 h2 with⟨_,h2⟩ | ⟨q2,_⟩
   ·exact h.good'.spare id m l h1 h2
   omega
  rcases (rejoin_some h.env).1 h2 with⟨q2,_⟩ | ⟨_,h2⟩
  ·omega
  obtain⟨arr,t,e⟩:=h.good.spare id m l h1 h2
  exact⟨arr,t,(h.block q h2 h1 trivial).trans e⟩
 map:=fun id kt es h1=>by
  rcases (rejoin_some h.same).1 h1 with⟨q,h1⟩ | ⟨q,h1⟩
  ·obtain⟨l,arr,clk,e1,e0,e2,e3,e6,e4⟩:=h.good'.map id kt es h1
   exact⟨l,arr,clk,(rejoin_some h.env).2 (.inl ⟨q,e1⟩),e0,e2,e3,e6,fun i e kx a b=>⟨(e4 i e kx a b).1,(e4 i e kx a b).2.1,(e4 i e kx a b).2.2.rejoin h⟩⟩
  obtain⟨l,arr,clk,e1,e0,e2,e3,e6,e4⟩:=h.good.map id kt es h1
  exact⟨l,arr,clk,(rejoin_some h.env).2 (.inr ⟨q,e1⟩),e0,(h.block q e1 h1 trivial).trans e2,e3,e6,fun i e kx a b=>⟨(e4 i e kx a b).1,(e4 i e kx a b).2.1,(e4 i e kx a b).2.2.mono h.le'⟩⟩
theorem ECall.frame{P:Program}{f:FuncId}{O O':List AObj}{args:List AVal}{r:AVal}(h:ECall P f O args fun r' O1=>r'=r∧O1=O')(hlen:O'.length=O.length)(hb:uptoL O.length args)(hO:∀o∈O,o.upto O.length)(X:List AObj) :
  ECall P f (O++X) args fun r' O1=>r'=r∧O1=O'++X:=by
 refine⟨h.1,?_⟩
 intro g vs hg ho ha
 have hn:O.length≤g.objs.length:=by simp [ho]
 have htake:g.objs.take O.length=O:=by simp [ho]
 have ha':RVs (g.cut O.length) args vs:=⟨ha.1,fun j c u a b=>(ha.2 j c u a b).cut hn (uptoL_iff.1 hb c (List.mem_of_getElem? a))⟩
 refine(h.2 (g.cut O.length) vs (hg.cut hn (by rw [htake];exact hO)) htake ha').mono ?_
 rintro e w' ⟨g',v,r',h1,h2,h3,h4,h5,h6,h7⟩
 subst h6
 have hc:Cuts g O.length g':=⟨hg,h3,h4,hn,by rw [h7,hlen]⟩
 exact⟨g.rejoin O.length g',v,r',h1,h2,hc.le',hc.good'',h5.rejoin hc,rfl,by simp [G.rejoin,h7,ho]⟩
end Go.Av
namespace Go.Av
open Go.ChangeShapes Go.WideShapes Go.RowKit
def g0(w:World):G:=⟨w,fun _ _=>False,[],[]⟩
theorem g0_own{w:World}{b off:Nat}:¬OwnC (g0 w) b off:=by
 rintro(h | ⟨id,l,o,h1,_⟩)
 ·exact h
 simp [g0] at h1
theorem g0_ownLB{w:World}{b:Nat}:¬OwnLB (g0 w) b:=by
 rintro⟨id,l,o,h1,_⟩
 simp [g0] at h1
theorem g0_good(w:World):Good (g0 w) where
 frlt:=fun _ _ h=>h.elim
 frown:=fun _ _ _ h=>by simp [g0] at h
 len:=rfl
 loc:=fun _ _ _ h=>by simp [g0] at h
 apart:=fun _ _ _ _ _ _ h=>by simp [g0] at h
 cells:=fun _ _ h=>by simp [g0] at h
 spare:=fun _ _ _ h=>by simp [g0] at h
 map:=fun _ _ _ h=>by simp [g0] at h
def aggT(P:Program)(t:TypeId):Bool :=
 match P.underlying t with
 | some (.struct _)=>true
 | some (.array _ _)=>true
 | _=>false
def mkE(P:Program)(e:TypeId)(cs:List AVal):AVal:=if aggT P e then .agg cs else cs.getD 0 (.v (.bool false))
def Cat(S:TypeId→List AVal→Prop):List TypeId→List AVal→Prop
 | [],cs=>cs=[]
 | t::ts,cs=>∃a b,cs=a++b∧S t a∧Cat S ts b
def Shp(P:Program):Nat→TypeId→List AVal→Prop
 | 0,_,_=>False
 | n+1,t,cs=>match P.underlying t with
  | some .bool=>∃b,cs=[.v (.bool b)]
  | some (.int k)=>∃m:Int,cs=[.v (.int k m)]∧k.min≤m∧m≤k.max
  | some .string=>∃s:ByteArray,cs=[.v (.string s)]∧s.size≤reachBytes
  | some (.slice e)=>∃xs:List (List AVal),cs=[.lst (P.cellsOf e) (xs.map (mkE P e)) .sh]∧(∀x∈xs,Shp P n e x)∧xs.length * P.bytesOf e≤reachBytes
  | some (.struct fs)=>Cat (Shp P n) (fs.toList.map (·.type)) cs
  | _=>False
def covB(P:Program)(ts:List TypeId):Bool :=
 ts.all fun t=>decide (t<P.types.size)&&match P.underlying t with
  | some .bool=>true
  | some (.int _)=>true
  | some .string=>true
  | some (.slice e)=>ts.contains e&&decide (0<P.bytesOf e)&&decide (0<P.cellsOf e)&&(aggT P e || decide (P.cellsOf e=1))
  | some (.struct fs)=>fs.toList.all fun f=>ts.contains f.type
  | _=>false
def RVL(g:G)(ars:List AVal)(us:List Value):Prop:=ars.length=us.length∧(∀c∈ars,c.scalar)∧∀(i:Nat) c u,ars[i]?=some c→us[i]?=some u→RV g c u
theorem RVL.append{g:G}{ars bs:List AVal}{us vs:List Value}(h:RVL g ars us)(k:RVL g bs vs):RVL g (ars++bs) (us++vs):=by
 obtain⟨h1,h2,h3⟩:=h
 obtain⟨k1,k2,k3⟩:=k
 refine⟨by simp [h1,k1],fun c hc=>(List.mem_append.1 hc).elim (h2 c) (k2 c),fun i c u hc hu=>?_⟩
 rw [List.getElem?_append] at hc hu
 by_cases hi:i<ars.length
 ·rw [if_pos hi] at hc
  rw [if_pos (by omega)] at hu
  exact h3 i c u hc hu
 rw [if_neg hi] at hc
 rw [if_neg (by omega),←h1] at hu
 exact k3 _ c u hc hu
theorem RVL.one{g:G}{a:AVal}{u:Value}(hs:a.scalar)(h:RV g a u):RVL g [a] [u]:=by
 refine⟨rfl,by simpa using hs,fun i c u' hc hu=>?_⟩
 cases i with
 | zero =>
  simp at hc hu
  subst hc
  subst hu
  exact h
 | succ i=>simp at hc
section
variable {H:Type} {enc:TypeId×Value→H} {P:Program} {w:World} {sp:Nat→Bool} {held:Bool}
theorem weights_all{e:TypeId}:∀{ds:List (DataW H)} {d:DataW H},d∈ds→∀n∈d.weights P e,n∈DataW.weightsAll P e ds
 | d0::ds,d,hd,n,hn=>by
  simp only [DataW.weightsAll,List.mem_append]
  rcases List.mem_cons.1 hd with rfl | hd
  ·exact .inl hn
  exact .inr (weights_all hd n hn)
theorem mapM_get{α β:Type}{f:α→Option β}:∀{l:List α} {r:List β},l.mapM f=some r→r.length=l.length∧∀(i:Nat) x y,l[i]?=some x→r[i]?=some y→f x=some y
 | [],r,h=>by
  simp at h
  subst h
  exact⟨rfl,fun i x y hx=>by simp at hx⟩
 | a::l,r,h=>by
  rw [List.mapM_cons] at h
  obtain⟨b,hb,h⟩:=Option.bind_eq_some_iff.1 h
  obtain⟨r',hr,h⟩:=Option.bind_eq_some_iff.1 h
  cases h
  obtain⟨h1,h2⟩:=mapM_get hr
  refine⟨by simp [h1],fun i x y hx hy=>?_⟩
  cases i with
  | zero =>
   simp at hx hy
   subst hx
   subst hy
   exact hb
  | succ i=>exact h2 i x y (by simpa using hx) (by simpa using hy)
theorem cells_get{base:Nat}{a:Addr}{n:Nat}{cs:List Value}(h:w.cells? base a n=some cs):cs.length=n∧∀(i:Nat) u,cs[i]?=some u→w.cell? (a.add i)=some u:=by
 unfold World.cells? at h
 split at h
 ·obtain⟨h1,h2⟩:=mapM_get h
  have hl:cs.length=n:=by simpa using h1
  refine⟨hl,fun i u hu=>?_⟩
  have hi:=lt_of_getElem? hu
  exact h2 i i u (by simp [List.getElem?_range (show i<n by omega)]) hu
 cases h
theorem list_choose{α β:Type}{p:α→β→Prop}:∀n:Nat,∀f:Nat→α,(∀i,i<n→∃b,p (f i) b)→∃bs:List β,bs.length=n∧∀i b,bs[i]?=some b→p (f i) b
 | 0,_,_=>⟨[],rfl,fun i b h=>by simp at h⟩
 | n+1,f,h=>by
  obtain⟨bs,h1,h2⟩:=list_choose n f (fun i hi=>h i (by omega))
  obtain⟨b,hb⟩:=h n (by omega)
  refine⟨bs++[b],by simp [h1],fun i c hc=>?_⟩
  rcases getElem?_snoc hc with hc | ⟨rfl,rfl⟩
  ·exact h2 i c hc
  rw [h1]
  exact hb
theorem cellsAll_mk{e:TypeId}(hagg:aggT P e=true∨P.cellsOf e=1){xs:List (List AVal)}(hx:∀x∈xs,x.length=P.cellsOf e∧∀c∈x,c.scalar):cellsAll (xs.map (mkE P e))=xs.flatten∧∀x∈xs,(mkE P e x).cells=x:=by
 have key:∀x∈xs,(mkE P e x).cells=x:=fun x hxm=>by
  unfold mkE
  split
  ·rfl
  rename_i hn
  rcases hagg with h | h
  ·exact absurd h hn
  obtain⟨h1,h2⟩:=hx x hxm
  rw [h] at h1
  match x,h1 with
  | [c],_ =>
   have:=h2 c (by simp)
   cases c<;>first | rfl | exact this.elim
 refine⟨?_,key⟩
 clear hx
 induction xs with
 | nil=>rfl
 | cons x xs ih =>
  simp only [List.map_cons,cellsAll,List.flatMap_cons,List.flatten_cons]
  rw [key x (by simp)]
  congr 1
  exact ih fun y hy=>key y (by simp [hy])
theorem flatten_get{n:Nat}:∀{xs:List (List AVal)} (_:∀x∈xs,x.length=n) {j:Nat} {c:AVal},xs.flatten[j]?=some c→∃i k x,j=i * n+k∧k<n∧xs[i]?=some x∧x[k]?=some c
 | [],_,j,c,h=>by simp at h
 | x::xs,hx,j,c,h=>by
  have hl:=hx x (by simp)
  rw [List.flatten_cons,List.getElem?_append] at h
  split at h
  ·rename_i hj
   exact⟨0,j,x,by omega,by omega,by simp,h⟩
  rename_i hj
  obtain⟨i,k,y,h1,h2,h3,h4⟩:=flatten_get (fun y hy=>hx y (by simp [hy])) h
  refine⟨i+1,k,y,?_,h2,by simpa using h3,h4⟩
  rw [Nat.add_mul,Nat.one_mul]
  omega
theorem rvl_fields{n:Nat}{cs:List Value}{S:TypeId→List AVal→Prop}{ts:List TypeId}
  (ih:∀t cs' (x:DataW H×List MemPlace),t∈ts→DataW.trod enc P w 0 sp held n t cs'=some x→(∀m∈x.1.weights P t,m≤reachBytes)→∃ars,S t ars∧RVL (g0 w) ars cs') :
  ∀(fl:List Field) (o:Nat) (xs:List (DataW H×List MemPlace)),(∀f∈fl,f.type∈ts)→(∀(j:Nat) f,fl[j]?=some f→f.offset=o+((fl.take j).map fun f=>P.cellsOf f.type).sum) →
   o+(fl.map fun f=>P.cellsOf f.type).sum≤cs.length→xs.length=fl.length →
   (∀(i:Nat) f,fl[i]?=some f→DataW.trod enc P w 0 sp held n f.type ((cs.drop f.offset).take (P.cellsOf f.type))=xs[i]?) →
   (∀m∈DataW.weightsEach P (fl.map (·.type)) (xs.map (·.1)),m≤reachBytes) →
   ∃ars,Cat S (fl.map (·.type)) ars∧RVL (g0 w) ars ((cs.drop o).take (fl.map fun f=>P.cellsOf f.type).sum)
 | [],o,xs,_,_,_,_,_,_=>⟨[],rfl,by simp [RVL]⟩
 | f::fl,o,[],_,_,_,hx,_,_=>by simp at hx
 | f::fl,o,y::ys,hts,hoff,hlen,hx,hm,hw=>by
  have ho:f.offset=o:=by simpa using hoff 0 f rfl
  simp only [List.map_cons,DataW.weightsEach,List.mem_append] at hw
  simp only [List.map_cons,List.sum_cons] at hlen ⊢
  obtain⟨ars,h1,h2⟩:=ih f.type _ y (hts f (by simp)) (by simpa using hm 0 f rfl) (fun m hm=>hw m (.inl hm))
  obtain⟨bs,k1,k2⟩:=rvl_fields ih fl (o+P.cellsOf f.type) ys (fun g hg=>hts g (by simp [hg])) (fun j g hg=>by
   have:=hoff (j+1) g (by simpa using hg)
   simp only [List.take_succ_cons,List.map_cons,List.sum_cons] at this
   omega) (cs:=cs) (by omega) (by simpa using hx) (fun i g hg=>by simpa using hm (i+1) g (by simpa using hg)) (fun m hm=>hw m (.inr hm))
  refine⟨ars++bs,⟨ars,bs,rfl,h1,k1⟩,?_⟩
  rw [List.take_add,List.drop_drop]
  rw [ho] at h2
  exact h2.append k2
theorem add_add{a:Addr}(hs:a.spot=none)(m k:Nat):(a.add m).add k=⟨a.block,a.off+(m+k),none⟩:=by
 cases a with
 | mk b off spot =>
  subst hs
  unfold Addr.add
  by_cases hm:m=0<;>by_cases hk:k=0<;>simp [hm,hk,Nat.add_assoc]
theorem spot_of_cell{a:Addr}{u:Value}(h:w.cell? a=some u):a.spot=none:=by
 unfold World.cell? at h
 split at h
 ·split at h
  ·cases h
  rename_i hs
  simpa using hs
 cases h
theorem rvl_of_trod(hl:laidOutB P=true){ts:List TypeId}(hc:covB P ts=true)(n:Nat):∀(t:TypeId) (cs:List Value) (x:DataW H×List MemPlace),t∈ts →
  DataW.trod enc P w 0 sp held n t cs=some x→(∀m∈x.1.weights P t,m≤reachBytes)→∃ars,Shp P n t ars∧RVL (g0 w) ars cs:=by
 induction n with
 | zero=>intro _ _ _ _ h;simp [DataW.trod] at h
 | succ n ih =>
  intro t cs x ht h hw
  have hct:=List.all_eq_true.1 hc t ht
  simp only [Bool.and_eq_true,decide_eq_true_eq] at hct
  obtain⟨hsz,hct⟩:=hct
  cases hu:P.underlying t with
  | none=>rw [hu] at hct;cases hct
  | some d =>
   rw [hu] at hct
   cases d with
   | bool =>
    obtain⟨b,rfl,rfl⟩:=DataW.trod_bool hu h
    exact⟨[.v (.bool b)],by simp only [Shp,hu];exact⟨b,rfl⟩,.one trivial (.v trivial)⟩
   | int k =>
    obtain⟨m,rfl,rfl,hwf⟩:=DataW.trod_int hu h
    simp only [Lit.wf,Bool.and_eq_true,decide_eq_true_eq] at hwf
    exact⟨[.v (.int k m)],by simp only [Shp,hu];exact⟨m,rfl,hwf⟩,.one trivial (.v hwf)⟩
   | string =>
    obtain⟨s,rfl,rfl,hs⟩:=DataW.trod_string hu h
    have hb:s.size≤reachBytes:=by
     have:=hw s.data.toList.length (by simp [DataW.weights])
     simpa using this
    exact⟨[.v (.string s)],by simp only [Shp,hu];exact⟨s,rfl,hb⟩,.one trivial (.v trivial)⟩
   | slice e =>
    simp only [Bool.and_eq_true,decide_eq_true_eq,Bool.or_eq_true,List.contains_iff_mem] at hct
    obtain⟨⟨⟨he,hb⟩,hce⟩,hagg⟩:=hct
    rcases DataW.trod_slice hu h with⟨rfl,rfl⟩ | ⟨a,len,cap,elems,rest,n',hn',rfl,rfl,_,hlc,hcm,hel,hall,_,_⟩
    ·exact⟨[.lst (P.cellsOf e) [] .sh],by simp only [Shp,hu];exact⟨[],rfl,by simp,by simp [reachBytes]⟩,.one trivial (.nil (fun id h=>by cases h) (by simp))⟩
    cases hn'
    simp only [DataW.weights,hu,List.mem_cons,List.mem_append] at hw
    have hlen:(len+rest.length) * P.bytesOf e≤reachBytes:=by
     have:=hw _ (.inl rfl)
     simpa [hel] using this
    have hlenb:len * P.bytesOf e≤reachBytes:=Nat.le_trans (Nat.mul_le_mul_right _ (by omega)) hlen
    have hle:len≤reachBytes:=Nat.le_trans (Nat.le_mul_of_pos_right _ hb) hlenb
    have hone:∀i,i<len→∃ars:List AVal,Shp P n e ars∧∃us,RVL (g0 w) ars us∧w.cells? 0 (a.add (i * P.cellsOf e)) (P.cellsOf e)=some us:=fun i hi=>by
     have hy:elems[i]?=some elems[i]:=List.getElem?_eq_getElem (by omega)
     have h2:=hall i hi
     rw [hy] at h2
     obtain⟨us,h3,h4⟩:=Option.bind_eq_some_iff.1 h2
     obtain⟨ars,k1,k2⟩:=ih e us elems[i] he h4 (fun m hm=>hw m (.inr (.inl (weights_all (List.mem_map.2 ⟨elems[i],List.getElem_mem _,rfl⟩) m hm))))
     exact⟨ars,k1,us,k2,h3⟩
    obtain⟨xs,hxl,hxs⟩:=list_choose (p:=fun(i:Nat) (ars:List AVal)=>Shp P n e ars∧∃us,RVL (g0 w) ars us∧w.cells? 0 (a.add (i * P.cellsOf e)) (P.cellsOf e)=some us) len id hone
    have hxc:∀y∈xs,y.length=P.cellsOf e∧∀c∈y,c.scalar:=fun y hy=>by
     obtain⟨i,hi⟩:=List.mem_iff_getElem?.1 hy
     obtain⟨_,us,h2,h3⟩:=hxs i y hi
     exact⟨h2.1.trans (cells_get h3).1,h2.2.1⟩
    obtain⟨hca,hcx⟩:=cellsAll_mk (P:=P) (by simpa using hagg) hxc
    have hspot:xs≠[]→a.spot=none:=fun hne=>by
     match xs,hne,hxs,hxc with
     | y::ys,_,hxs,hxc =>
      obtain⟨_,us,h2,h3⟩:=hxs 0 y rfl
      obtain⟨h4,h5⟩:=cells_get h3
      have h6:=h5 0 (us[0]'(by omega)) (List.getElem?_eq_getElem _)
      have:=spot_of_cell h6
      simpa [Addr.add] using this
    refine⟨[.lst (P.cellsOf e) (xs.map (mkE P e)) .sh],?_,.one trivial ?_⟩
    ·simp only [Shp,hu]
     refine⟨xs,rfl,fun y hy=>?_,by rw [hxl];exact hlenb⟩
     obtain⟨i,hi⟩:=List.mem_iff_getElem?.1 hy
     exact(hxs i y hi).1
    have hget:∀(j:Nat) (c:AVal),xs.flatten[j]?=some c→∃u,w.cell? ⟨a.block,a.off+j,none⟩=some u∧RV (g0 w) c u:=fun j c hj=>by
     obtain⟨i,k,y,h1,h2,h3,h4⟩:=flatten_get (n:=P.cellsOf e) (fun y hy=>(hxc y hy).1) hj
     obtain⟨_,us,h5,h6⟩:=hxs i y h3
     obtain⟨h7,h8⟩:=cells_get h6
     have hk:us[k]?=some (us[k]'(by omega)):=List.getElem?_eq_getElem _
     have h9:=h8 k _ hk
     have hne:xs≠[]:=fun e=>by rw [e] at h3;simp at h3
     have hadd:(a.add (id i * P.cellsOf e)).add k=⟨a.block,a.off+(i * P.cellsOf e+k),none⟩:=add_add (hspot hne) _ _
     rw [hadd,←h1] at h9
     exact⟨_,h9,h5.2.2 k c _ h4 hk⟩
    have key:=@RV.lst (g0 w) (P.cellsOf e) (xs.map (mkE P e)) .sh a cap (fun x hx=>by
     obtain⟨y,hy,rfl⟩:=List.mem_map.1 hx
     rw [hcx y hy]
     exact(hxc y hy).1) (fun x hx c hc=>by
     obtain⟨y,hy,rfl⟩:=List.mem_map.1 hx
     rw [hcx y hy] at hc
     exact(hxc y hy).2 c hc) (by simp [hxl];exact hlc) (by simp [hxl];unfold reachBytes at hle;omega) (fun hne=>hspot (fun e=>hne (by rw [e];rfl)))
     (fun j=>(w.cell? ⟨a.block,a.off+j,none⟩).getD (.bool false)) (fun j c hj=>by
      rw [hca] at hj
      obtain⟨u,h1,_⟩:=hget j c hj
      refine⟨?_,g0_own⟩
      show w.cell? _=_
      rw [h1]
      rfl) (fun j c hj=>by
      rw [hca] at hj
      obtain⟨u,h1,h2⟩:=hget j c hj
      rw [h1]
      exact h2) trivial
    rw [List.length_map,hxl] at key
    exact key
   | struct fs =>
    simp only [List.all_eq_true,List.contains_iff_mem] at hct
    obtain⟨xs,n',hn',rfl,hcl,hxl,hall⟩:=DataW.trod_struct hu h
    cases hn'
    obtain⟨k1,k2,k3⟩:=kid_struct hl hsz hu
    simp only [DataW.weights,hu] at hw
    obtain⟨ars,h1,h2⟩:=rvl_fields ih fs.toList 0 xs hct (fun j f hj=>by rw [k3 j f hj];omega) (by rw [hcl,k2];omega) (by simpa using hxl) (fun i f hf=>hall i f (by simpa using hf)) hw
    refine⟨ars,by simp only [Shp,hu];exact h1,?_⟩
    rw [List.drop_zero,←k2,←hcl,List.take_length] at h2
    exact h2
   | _=>cases hct
theorem rv_of_trod(hl:laidOutB P=true){ts:List TypeId}(hc:covB P ts=true){t:TypeId}(ht:t∈ts){v:Value}{d:DataW H}{ps:List MemPlace}(h:DataW.Trod enc P w 0 sp held t v d ps)
  (hv:v.cells = #[v]) (hw:∀m∈d.weights P t,m≤reachBytes):∃n a,Shp P n t [a]∧RV (g0 w) a v:=by
 obtain⟨n,h⟩:=h
 obtain⟨ars,h1,h2⟩:=rvl_of_trod hl hc n t _ (d,ps) ht h hw
 rw [hv] at h2
 obtain⟨h3,h4,h5⟩:=h2
 match ars,h3 with
 | [a],_=>exact⟨n,a,h1,h5 0 a v rfl rfl⟩
theorem one_int{t:TypeId}{k:IntKind}{r:Reach}{b:Nat}{v:Value}(hu:P.underlying t=some (.int k))(h:Value.okWide P w r b t v):v.cells = #[v]:=by
 cases v<;>first | rfl | simp [Value.okWide,hu,Cell.okWide,Cell.ok] at h
theorem trodAll_stays(hl:laidOutB P=true){W W':World}{sp':Nat→Bool}:∀{ts:List TypeId} {vs:List Value} {ds:List (DataW H)} {ps:List MemPlace},(∀t∈ts,P.readableRec t=true∧t<P.types.size) →
  DataW.TrodAll enc P W 0 (fun _=>true) true ts vs ds ps→(∀p∈ps,W.sameAt W' p)→(∀p∈ps,sp' p.block=true)→DataW.TrodAll enc P W' 0 sp' true ts vs ds ps
 | [],vs,ds,ps,_,h,_,_=>by
  obtain⟨rfl,rfl,rfl⟩:=trodAll_nil h
  rfl
 | t::ts,vs,ds,ps,hts,h,h1,h2=>by
  obtain⟨v,vs',d,ds',p,q,rfl,rfl,rfl,hd,hr⟩:=trodAll_cons h
  obtain⟨k1,k2⟩:=hts t (by simp)
  exact⟨p,q,WideElems.Trod_stays hl k1 k2 hd (fun x hx=>h1 x (List.mem_append.2 (.inl hx))) (fun x hx=>h2 x (List.mem_append.2 (.inl hx))),
   trodAll_stays hl (fun t ht=>hts t (by simp [ht])) hr (fun x hx=>h1 x (List.mem_append.2 (.inr hx))) (fun x hx=>h2 x (List.mem_append.2 (.inr hx))),rfl⟩
theorem post_of_pure(hl:laidOutB P=true){fn:Func}{s:ChangeSpec}{apart fresh handsOn again:Bool}{W:World}{args:Array Value}{ds gs:List (DataW H)}{before:List MemPlace}{f:FuncId}{xs:List AVal}{tb:TypeId}
  (hpar:∀t∈fn.params.toList,P.readableRec t=true∧t<P.types.size) (hvars:s.vars=[]) (hres:fn.resultTypes = #[tb]) (htb:P.underlying tb=some .bool)
  (hW:DataW.Whole enc P fn.params.toList s.vars apart W args.toList ds gs before)
  (hfn:s.fn H (ds++gs) = { results:=[.lit (.bool true)],args:=ds })
  (hpc:PCall P f xs (.v (.bool true))) (hRV:RVs (g0 W) xs args) :
  Calls P f args W fun e W'=>∃v,e=.returned v∧s.post enc P fn apart fresh handsOn again W args v W':=by
 refine(hpc.2 (g0 W) args (g0_good W) rfl hRV).mono fun e W' ⟨g',v,r,h1,h2,h3,_,h5,h6,_⟩=>?_
 subst h6
 cases h5
 subst h2
 have hbelow:Below W.heap.size W g'.w:=⟨h3.os,h3.tape,h3.output,h3.size,fun k hk=>(h3.block k hk g0_ownLB).1⟩
 have hlt:=hW.lt
 obtain⟨p,q,hA,hV,rfl,hfz,hnd⟩:=id hW
 have hq:gs=[]∧q=[]:=trodVars_none (by rw [hvars] at hV;exact hV)
 obtain⟨rfl,rfl⟩:=hq
 simp only [List.append_nil] at hlt hfz hnd hfn
 have hsame:∀x∈p,W.sameAt g'.w x:=fun x hx=>hbelow.same (hlt x hx)
 have hargs:∀sp:Nat→Bool,(∀x∈p,sp x.block=true)→DataW.TrodAll enc P g'.w 0 sp true fn.params.toList args.toList ds p:=fun sp hsp=>trodAll_stays hl hpar hA hsame hsp
 have hR:∀(b:Nat) (sp:Nat→Bool) (hd:Bool),DataW.TrodAll enc P g'.w b sp hd fn.resultTypes.toList ((Value.bool true).resultList fn.resultTypes.size) [.lit (.bool true)] []:=fun b sp hd=>by
  rw [hres]
  exact trodAll_mk1 (shut_bool htb true)
 have hvn:∀sp:Nat→Bool,DataW.TrodVars enc P g'.w sp s.vars [] []:=fun sp=>by
  rw [hvars]
  rfl
 refine⟨_,h1,ds,[],p++[],[],p,[],hW,?_,?_,?_,hbelow.frame _,fun _=>⟨?_,[.lit (.bool true)]++ds,[],([]++p)++[],⟨[]++p,[],?_,hvn _,rfl,?_,?_⟩,?_⟩⟩
 ·rw [List.append_nil,hfn]
  exact hR _ _ _
 ·rw [List.append_nil,hfn]
  exact hargs _ fun x hx=>by simpa using hlt x hx
 ·rw [List.append_nil,hfn]
  exact hvn _
 ·exact ok_one hres rfl (okWide_bool_mk htb true)
 ·exact trodAll_append (hargs (fun _=>true) fun _ _=>rfl) (hR _ _ _)
 ·intro b off hx
  simp only [List.nil_append,List.append_nil] at hx
  rw [hbelow.frozen (p:=⟨b,off,none⟩) (hlt _ hx)]
  exact hfz b off hx
 ·intro ha
  simpa using hnd ha
 intro x hx _
 simpa using hx
end
section
variable {P:Program} {n:Nat} {t:TypeId} {cs:List AVal}
theorem Shp.int{k:IntKind}(hu:P.underlying t=some (.int k))(h:Shp P n t cs):∃m:Int,cs=[.v (.int k m)]∧k.min≤m∧m≤k.max:=by
 cases n with
 | zero=>exact h.elim
 | succ n =>
  simp only [Shp,hu] at h
  exact h
theorem Shp.struct{fs:Array Field}(hu:P.underlying t=some (.struct fs))(h:Shp P n t cs):∃m,n=m+1∧Cat (Shp P m) (fs.toList.map (·.type)) cs:=by
 cases n with
 | zero=>exact h.elim
 | succ n =>
  simp only [Shp,hu] at h
  exact⟨n,rfl,h⟩
theorem Shp.slice{e:TypeId}(hu:P.underlying t=some (.slice e))(h:Shp P n t cs):∃m,n=m+1∧∃xs:List (List AVal),cs=[.lst (P.cellsOf e) (xs.map (mkE P e)) .sh]∧(∀x∈xs,Shp P m e x)∧xs.length * P.bytesOf e≤reachBytes:=by
 cases n with
 | zero=>exact h.elim
 | succ n =>
  simp only [Shp,hu] at h
  exact⟨n,rfl,h⟩
theorem map_told{α:Type}{f:α→AVal}{Q:α→Prop}{g:List AVal→AVal}:∀{xs:List (List AVal)},(∀x∈xs,∃a,g x=f a∧Q a)→∃l:List α,xs.map g=l.map f∧∀a∈l,Q a
 | [],_=>⟨[],rfl,by simp⟩
 | x::xs,h=>by
  obtain⟨a,ha,hq⟩:=h x (by simp)
  obtain⟨l,hl,hql⟩:=map_told (xs:=xs) fun y hy=>h y (by simp [hy])
  exact⟨a::l,by simp [ha,hl],by simpa using ⟨hq,hql⟩⟩
theorem Shp.listQ{α:Type}{f:α→AVal}{Q:α→Prop}{e:TypeId}(hu:P.underlying t=some (.slice e))(h:Shp P n t cs)(hd:∀m,m<n→∀x,Shp P m e x→∃a,mkE P e x=f a∧Q a) :
  ∃l:List α,cs=[.lst (P.cellsOf e) (l.map f) .sh]∧l.length * P.bytesOf e≤reachBytes∧∀a∈l,Q a:=by
 obtain⟨m,rfl,xs,rfl,h1,h2⟩:=h.slice hu
 obtain⟨l,hl,hq⟩:=map_told (f:=f) (Q:=Q) fun x hx=>hd m (by omega) x (h1 x hx)
 refine⟨l,by rw [hl],?_,hq⟩
 have:xs.length=l.length:=by
  have:=congrArg List.length hl
  simpa using this
 rw [←this]
 exact h2
end
end Go.Av
namespace Go.Av
theorem awp_ownCell{P:Program}{kb:Nat}{c:Code}{Q:AEx→St→Prop}{n:Nat}{slots:List (Nat×AVal)}{O:List AObj}(k off:Nat){sz:Nat}{cs xs:List AVal}(hok:O[k]?=some (.cells cs))(hnil:cs[off]?=some (.lst sz xs .ex))
  (h:AWP P kb c Q ⟨n,slots,(O++[AObj.spare xs.length]).set k (.cells (cs.set off (.lst sz xs (.tok O.length))))⟩):AWP P kb c Q ⟨n,slots,O⟩ :=
 h.weaken fun base a g hb hr=>by
  have hO:g.objs=O:=hr.objs
  have hlek:=Le.mark hr.good (AObj.spare xs.length)
  have hgk:=Good.mark hr.good xs.length
  have hkO:g.objs[k]?=some (.cells cs):=by rw [hO];exact hok
  have hok1:(g.mark (AObj.spare xs.length)).objs[k]?=some (.cells cs):=getElem?_snoc_lt hkO
  obtain⟨l,arr,t,e1,e2,e3,e4,e5,e6⟩:=hgk.cells k cs hok1
  have ht2:Turns (g.mark (AObj.spare xs.length)) k (.cells cs) (some l) (.cells (cs.set off (.lst sz xs (.tok O.length)))) g.w:={
   obj:=hok1
   os:=rfl
   tape:=rfl
   output:=rfl
   size:=Nat.le_refl _
   block:=fun _ _ _=>rfl
   cell:=fun b off x hx _=>hx
   place:=fun l1 h1 _=>by
    simp only [Option.some.injEq] at h1
    subst h1
    exact .inr ⟨l,e1,trivial,rfl,Nat.le_refl _⟩
   spare:=fun m h=>by cases h
   plain:=fun _=>⟨by simp [AObj.isSpare],e1⟩
   gone:=by simp }
  have hle2:=Le.turn hgk ht2
  have hgood2:=Good.turn hgk ht2 ⟨l,arr,t,rfl,e2,e3,by simpa using e4,fun j d u hd hu=>by
   rw [List.getElem?_set] at hd
   split at hd
   ·rename_i hj
    subst hj
    split at hd
    ·simp only [Option.some.injEq] at hd
     subst hd
     have hv:=(e5 off _ u hnil hu).mono hle2
     cases hv with
     | nil=>exact .nil (fun id e=>by
      simp only [Own.tok.injEq] at e
      subst e
      simp [G.turn,G.mark,hO]) (by simp)
     | lst hsz hsc hcap hmax hs f hm hr ho =>
      refine .lst hsz hsc hcap hmax hs f hm hr ⟨by simp [G.turn,G.mark,hO],fun m hm'=>?_⟩
      have hne:k≠O.length:=by
       have:=lt_of_getElem? hok
       omega
      have:((g.mark (AObj.spare xs.length)).turn k (some l) (.cells (cs.set off (.lst sz xs (.tok O.length)))) g.w).objs[O.length]?=some (.spare xs.length):=by
       simp only [G.turn]
       rw [List.getElem?_set_ne hne,←hO]
       exact objs_new
      rw [this] at hm'
      simp only [Option.some.injEq,AObj.spare.injEq] at hm'
      exact⟨by omega,fun _=>.inl ho⟩
    cases hd
   ·exact(e5 j d u hd hu).mono hle2,fun d hd=>by
   rcases List.mem_or_eq_of_mem_set hd with q | q
   ·exact e6.1 d q
   subst q
   trivial,e6.2⟩ (fun l1 h1 _=>by
   simp only [Option.some.injEq] at h1
   subst h1
   exact lt_of_getElem?' e3)
  exact⟨(g.mark (AObj.spare xs.length)).turn k (some l) (.cells (cs.set off (.lst sz xs (.tok O.length)))) g.w,rfl,{ le:=(hr.le.trans hlek).trans hle2,good:=hgood2,objs:=by simp [G.mark,G.turn,hO],size:=hr.size,defers:=hr.defers,slot:=fun s y hy=>(hr.slot s y hy).imp fun u hu=>⟨hu.1,(hu.2.mono hlek).mono hle2⟩ }⟩
def midPost(τ:St)(Q:AEx→St→Prop):AEx→St→Prop
 | .norm,σ=>Covers σ τ
 | e,σ=>Q e σ
theorem awp_mid{P:Program}{kb:Nat}{x y:Code}{Q:AEx→St→Prop}{σ:St}(τ:St)(h1:AWP P kb x (midPost τ Q) σ)(h2:AWP P kb y Q τ):AWP P kb (.seq x y) Q σ :=
 awp_seq (h1.mono fun e σ' h=>by cases e<;>first | exact h2.cover h | exact h)
theorem awp_mid2{P:Program}{kb:Nat}{x y z:Code}{Q:AEx→St→Prop}{σ:St}(τ:St)(h1:AWP P kb x (midPost τ (seqPost P kb z Q)) σ)(h2:AWP P kb y (seqPost P kb z Q) τ):AWP P kb (.seq (.seq x y) z) Q σ :=
 awp_seq (awp_mid τ h1 h2)
theorem awp_mid0{P:Program}{kb:Nat}{x y:Code}{Q:AEx→St→Prop}{σ:St}(τ:St)(h1:AWP P kb x (midPost τ Q) σ)(h2:AWP P kb y Q τ):AWP P kb x (seqPost P kb y Q) σ :=
 h1.mono fun e σ' h=>by cases e<;>first | exact h2.cover h | exact h

def renN(A:List Nat)(N k:Nat):Nat:=if k<A.length then A.getD k 0 else N+(k - A.length)
def Kind.ren(A:List Nat)(N:Nat):Kind→Kind
 | .rd id=>.rd (renN A N id)
 | .wr n l=>.wr (renN A N n) (l.map (renN A N))
 | .new id=>.new (renN A N id)
 | k=>k
def Kind.fresh(m:Nat):Kind→Bool
 | .wr n _=>decide (m≤n)
 | _=>true
theorem renN_inj{A:List Nat}{N:Nat}(hn:A.Nodup)(hA:∀a∈A,a<N){i j:Nat}(h:renN A N i=renN A N j):i=j:=by
 unfold renN at h
 have hget:∀k,k<A.length→A.getD k 0∈A:=fun k hk=>by
  rw [List.getD_eq_getElem?_getD,List.getElem?_eq_getElem hk]
  exact List.getElem_mem hk
 split at h<;>split at h
 ·rename_i h1 h2
  rw [List.getD_eq_getElem?_getD,List.getElem?_eq_getElem h1,List.getD_eq_getElem?_getD,List.getElem?_eq_getElem h2] at h
  exact(List.getElem_inj hn).1 h
 ·rename_i h1 h2
  have:=hA _ (hget i h1)
  omega
 ·rename_i h1 h2
  have:=hA _ (hget j h2)
  omega
 omega
theorem renN_lt{A:List Nat}{N:Nat}(hA:∀a∈A,a<N){i n:Nat}(hn:A.length≤n)(h:i<n):renN A N i<renN A N n:=by
 unfold renN
 have hget:∀k,k<A.length→A.getD k 0∈A:=fun k hk=>by
  rw [List.getD_eq_getElem?_getD,List.getElem?_eq_getElem hk]
  exact List.getElem_mem hk
 rw [if_neg (show ¬n<A.length by omega)]
 split
 ·rename_i h1
  have:=hA _ (hget i h1)
  omega
 omega
theorem kindsApart_ren{A:List Nat}{N:Nat}(hn:A.Nodup)(hA:∀a∈A,a<N){k l:Kind}(hk:k.fresh A.length=true)(hl:l.fresh A.length=true)(h:kindsApart k l=true):kindsApart (k.ren A N) (l.ren A N)=true:=by
 have key:∀{id n:Nat} {L:List Nat},A.length≤n→id<n→id ∉ L→renN A N id<renN A N n∧renN A N id ∉ L.map (renN A N):=fun h1 h2 h3 =>
  ⟨renN_lt hA h1 h2,fun hm=>by
   obtain⟨x,hx,e⟩:=List.mem_map.1 hm
   have:=renN_inj hn hA e
   subst this
   exact h3 hx⟩
 cases k<;>cases l<;>first
  | exact h
  | (simp only [kindsApart] at h;cases h)
  | (simp only [Kind.ren,kindsApart,Bool.not_eq_true',decide_eq_false_iff_not] at h ⊢;exact fun e=>h (renN_inj hn hA e))
  | (simp only [Kind.fresh,decide_eq_true_eq] at hk hl
     simp only [Kind.ren,kindsApart,Bool.and_eq_true,decide_eq_true_eq,Bool.not_eq_true',List.contains_eq_mem,decide_eq_false_iff_not] at h ⊢
     exact key (by assumption) h.1 h.2)
theorem orderB_ren{ops:Array Oper}{ks:List Kind}(A:List Nat)(N:Nat)(ks':List Kind)(hn:A.Nodup)(hA:∀a∈A,a<N)(e:ks'.map (Kind.ren A N)=ks)(hf:ks'.all (Kind.fresh A.length)=true)(h:orderB ops ks'=true):orderB ops ks=true:=by
 subst e
 simp only [orderB,Bool.and_eq_true,List.all_eq_true,Bool.or_eq_true,List.length_map] at h ⊢
 refine⟨h.1,fun i hi j hj=>?_⟩
 rcases h.2 i hi j hj with q | q
 ·exact .inl q
 refine .inr ?_
 have hgd:∀i,(ks'.map (Kind.ren A N)).getD i .write=(ks'.getD i .write).ren A N:=fun i=>by
  rw [List.getD_eq_getElem?_getD,List.getD_eq_getElem?_getD,List.getElem?_map]
  cases ks'[i]?<;>rfl
 have hff:∀i,(ks'.getD i .write).fresh A.length=true:=fun i=>by
  rw [List.getD_eq_getElem?_getD]
  cases hi:ks'[i]? with
  | none=>rfl
  | some x=>exact List.all_eq_true.1 hf x (List.mem_of_getElem? hi)
 rw [hgd,hgd]
 unfold indep at q ⊢
 split at q
 ·rename_i oj oi h1 h2
  simp only [Bool.and_eq_true] at q ⊢
  exact⟨q.1,kindsApart_ren hn hA (hff j) (hff i) q.2⟩
 cases q
theorem says_of{σ:St}:∀{l:List (Nat×AVal)},(∀p∈l,∃x,σ.get p.1=some x∧Sub σ.objs x p.2)→Says σ l
 | [],_=>trivial
 | (s,y)::r,h=>⟨h (s,y) (by simp),says_of fun p hp=>h p (by simp [hp])⟩
theorem awp_localF{P:Program}{kb:Nat}{c:Code}{Q:AEx→St→Prop}{n:Nat}{slots:List (Nat×AVal)}{O:List AObj}{o:AObj}(s:Nat){x:AVal}(y:AVal)(slots':List (Nat×AVal))(hx:look slots s=some x)
  (hp:¬o.isSpare) (hl:o.live) (hf:FSub (O++[o]) O.length x y) (hkb:kb≤O.length) (hs:∀p∈slots',look (putS s y slots) p.1=some p.2) (hup:∀o∈O,o.upto O.length) (hsl:∀p∈slots',p.2.upto O.length)
  (h:AWP P kb c Q ⟨n,slots',O⟩):AWP P kb c Q ⟨n,slots,O++[o]⟩:=by
 refine awp_freeze1 s O.length (o:=o) y (snoc_get _ _) hp hl hx hf ?_
 rw [snoc_set]
 have hmem:∀s x,look slots' s=some x→(s,x)∈slots':=fun s x hl=>look_mem hl
 exact awp_trunc O.length (by simp) hkb slots' (by rw [snoc_take];exact hup) (says_of fun p hp=>⟨p.2,hs p hp,Sub.refl _⟩) (fun k x hk=>hsl (k,x) (hmem k x hk)) (by rw [snoc_take];exact h)
theorem awp_local{P:Program}{kb:Nat}{c:Code}{Q:AEx→St→Prop}{n:Nat}{slots:List (Nat×AVal)}{O:List AObj}{cs:List AVal}(s:Nat)(ds:List AVal)(slots':List (Nat×AVal))(hx:look slots s=some (.mp O.length 0))
  (hds:cs.map AVal.shareCell=ds) (hkb:kb≤O.length) (hs:∀p∈slots',look (putS s (.ip none ds) slots) p.1=some p.2) (hup:∀o∈O,o.upto O.length) (hsl:∀p∈slots',p.2.upto O.length)
  (h:AWP P kb c Q ⟨n,slots',O⟩):AWP P kb c Q ⟨n,slots,O++[.cells cs]⟩ :=
 awp_localF s (.ip none ds) slots' hx (by simp [AObj.isSpare]) trivial (FSub.mp (cs:=cs) (snoc_get _ _) (by rw [List.drop_zero,hds])) hkb hs hup hsl h
theorem awp_localS{P:Program}{kb:Nat}{c:Code}{Q:AEx→St→Prop}{n:Nat}{slots:List (Nat×AVal)}{O:List AObj}{cs:List AVal}(s:Nat){len cap sz:Nat}(xs:List AVal)(slots':List (Nat×AVal))(hx:look slots s=some (.ms O.length 0 len cap))
  (hsz:∀x∈xs,x.cells.length=sz) (hlen:xs.length=len) (hd:(cs.take (len * sz)).map AVal.shareCell=cellsAll xs) (hkb:kb≤O.length) (hs:∀p∈slots',look (putS s (.lst sz xs .sh) slots) p.1=some p.2) (hup:∀o∈O,o.upto O.length) (hsl:∀p∈slots',p.2.upto O.length)
  (h:AWP P kb c Q ⟨n,slots',O⟩):AWP P kb c Q ⟨n,slots,O++[.cells cs]⟩ :=
 awp_localF s (.lst sz xs .sh) slots' hx (by simp [AObj.isSpare]) trivial (FSub.ms (cs:=cs) (snoc_get _ _) hsz hlen (by rw [List.drop_zero,hd])) hkb hs hup hsl h
theorem awp_frzk{P:Program}{kb:Nat}{c:Code}{Q:AEx→St→Prop}{n:Nat}{slots:List (Nat×AVal)}{O X:List AObj}{cs:List AVal}(s k:Nat)(ds:List AVal)(hX:X[k]?=some (.cells cs))(hx:look slots s=some (.mp (O.length+k) 0))
  (hds:cs.map AVal.shareCell=ds) (h:AWP P kb c Q ⟨n,putS s (.ip none ds) slots,O++X.set k .gone⟩):AWP P kb c Q ⟨n,slots,O++X⟩:=by
 have hid:(O++X)[O.length+k]?=some (.cells cs):=by
  rw [List.getElem?_append_right (by omega),Nat.add_sub_cancel_left,hX]
 refine awp_freeze1 s (O.length+k) (o:=.cells cs) (.ip none ds) hid (by simp [AObj.isSpare]) trivial hx (FSub.mp (cs:=cs) hid (by rw [List.drop_zero,hds])) ?_
 rw [List.set_append_right _ _ (by omega),Nat.add_sub_cancel_left]
 exact h
theorem awp_cut{P:Program}{kb:Nat}{c:Code}{Q:AEx→St→Prop}{n:Nat}{slots:List (Nat×AVal)}{O X:List AObj}(j:Nat)(Y:List AObj)(slots':List (Nat×AVal))(hY:X.take j=Y)(hj:j≤X.length)(hkb:kb≤O.length)(hs:∀p∈slots',look slots p.1=some p.2)
  (hO:∀o∈O,o.upto (O.length+j)) (hX:∀o∈Y,o.upto (O.length+j)) (hsl:∀p∈slots',p.2.upto (O.length+j)) (h:AWP P kb c Q ⟨n,slots',O++Y⟩):AWP P kb c Q ⟨n,slots,O++X⟩:=by
 have e:(O++X).take (O.length+j)=O++Y:=by
  rw [List.take_append,List.take_of_length_le (by omega),Nat.add_sub_cancel_left,hY]
 refine awp_trunc (O.length+j) (by simp;omega) (by omega) slots' ?_ (says_of fun p hp=>⟨p.2,hs p hp,Sub.refl _⟩) (fun k x hk=>hsl (k,x) (look_mem hk)) (by rw [e];exact h)
 rw [e]
 intro o ho
 rcases List.mem_append.1 ho with q | q
 ·exact hO o q
 exact hX o q
end Go.Av
namespace Go.Proofs.Ytkhnjeblbiocaaa
open Go.Av
def vtab:=And.intro @tab_1 <|
 And.intro @tab_2 <|
 And.intro @tab_3 <|
 And.intro @tab_4 <|
 And.intro @tab_5 <|
 And.intro @tab_9 <|
 And.intro @tab_22 <|
 And.intro @tab_24 <|
 And.intro @tab_26 <|
 And.intro @tab_28 <|
 And.intro @tab_29 <|
 And.intro @tab_35 <|
 And.intro @tab_37 <|
 And.intro @tab_39 <|
 And.intro @tab_40 <|
 And.intro @tab_42 <|
 And.intro @tab_44 <|
 And.intro @tab_46 <|
 And.intro @tab_48 <|
 And.intro @tab_57 <|
 And.intro @tab_63 <|
 And.intro @tab_64 <|
 And.intro @tab_73 <|
 And.intro @tab_81 <|
 And.intro @tab_87 <|
 And.intro @tab_94 <|
 And.intro @tab_97 <|
 And.intro @tab_98 <|
 And.intro @tab_100 <|
 And.intro @tab_102 <|
 And.intro @tab_103 <|
 And.intro @tab_105 <|
 And.intro @tab_113 <|
 And.intro @tab_114 <|
 And.intro @tab_115 <|
 And.intro @tab_117 <|
 And.intro @tab_118 <|
 And.intro @tab_120 <|
 And.intro @tab_128 <|
 And.intro @tab_129 <|
 And.intro @tab_130 <|
 And.intro @tab_132 <|
 And.intro @tab_142 <|
 And.intro @tab_151 <|
 And.intro @tab_156 <|
 And.intro @tab_157 <|
 And.intro @tab_158 <|
 And.intro @tab_173 <|
 And.intro @tab_177 <|
 And.intro @tab_180 <|
 And.intro @Ins.enc_cells <|
 And.intro @Ins.fold <|
 And.intro @Ins.enc_share <|
 And.intro @Ins.map_share <|
 And.intro @Ins.enc_upto <|
 And.intro @Ins.map_upto <|
 And.intro @Ins.enc_flat <|
 And.intro @Edge.enc_cells <|
 And.intro @Edge.fold <|
 And.intro @Edge.enc_share <|
 And.intro @Edge.map_share <|
 And.intro @Edge.enc_upto <|
 And.intro @Edge.map_upto <|
 And.intro @Edge.enc_flat <|
 And.intro @Term.enc_cells <|
 And.intro @Term.fold <|
 And.intro @Term.enc_share <|
 And.intro @Term.map_share <|
 And.intro @Term.enc_upto <|
 And.intro @Term.map_upto <|
 And.intro @Term.enc_flat <|
 And.intro @Block.enc_cells <|
 And.intro @Block.fold <|
 And.intro @Block.enc_share <|
 And.intro @Block.map_share <|
 And.intro @Block.enc_upto <|
 And.intro @Block.map_upto <|
 And.intro @Block.enc_flat <|
 And.intro @Func.enc_cells <|
 And.intro @Func.fold <|
 And.intro @Func.enc_share <|
 And.intro @Func.map_share <|
 And.intro @Func.enc_upto <|
 And.intro @Func.map_upto <|
 And.intro @Func.enc_flat <|
 And.intro @Unt.enc_cells <|
 And.intro @Unt.fold <|
 And.intro @Unt.enc_share <|
 And.intro @Unt.map_share <|
 And.intro @Unt.enc_upto <|
 And.intro @Unt.map_upto <|
 And.intro @Unt.enc_flat <|
 And.intro @SV.enc_mk <|
 And.intro @SV.enc_cells <|
 And.intro @SV.fold <|
 And.intro @SV.enc_share <|
 And.intro @SV.map_share <|
 And.intro @SV.enc_flat <|
 And.intro @SV.agg_cells <|
 And.intro @eP_shareCell <|
 And.intro @eP_scalar <|
 And.intro @aI_share <|
 And.intro @aI_upto <|
 And.intro @kt_3 <|
 And.intro @ktok_i64 <|
 And.intro @at_newk <|
 And.intro @at_newz <|
 And.intro @set_newk <|
 And.intro @set_newz <|
 And.intro @set_zero <|
 And.intro @set_succ <|
 And.intro @take_new <|
 And.intro @List.take_length.{0} <|
 And.intro @List.append_assoc.{0} <|
 And.intro @List.cons_append.{0} <|
 @List.nil_append.{0}
def zp:=And.intro vpos <| And.intro @ne_eq.{1} <| And.intro @implies_true.{0} <| And.intro @implies_true.{1} <| vtab
def zt:=And.intro and_true <| And.intro true_and and_self
def zu:=And.intro @Ins.enc_upto <| And.intro @Ins.map_upto <| And.intro @Edge.enc_upto <| And.intro @Edge.map_upto <| And.intro @Term.enc_upto <| And.intro @Term.map_upto <| And.intro @Block.enc_upto <| And.intro @Block.map_upto <| And.intro @Func.enc_upto <| And.intro @Func.map_upto <| And.intro @Unt.enc_upto <| And.intro @Unt.map_upto <| @aI_upto
theorem zg0{kb:Nat}{id:Nat}{l:List Oper}{draw:Bool}{Q:AEx→St→Prop}{σ:St}(h:vcOps Try.prog tab ⟨false,false⟩ l 0 [] σ [] fun τ ks=>Draws draw (fun _=>OrderOK l.toArray ks.reverse)∧At τ (Q .norm)):AWP Try.prog kb (.region id l.toArray draw) Q σ:=awp_region_any _ hT hm h
theorem zg1{kb:Nat}{id:Nat}{l:List Oper}{draw:Bool}{Q:AEx→St→Prop}{σ:St}{x:Code}(h:vcOps Try.prog tab ⟨false,false⟩ l 0 [] σ [] fun τ ks=>Draws draw (fun _=>OrderOK l.toArray ks.reverse)∧At τ (seqPost Try.prog kb x Q .norm)):AWP Try.prog kb (.seq (.region id l.toArray draw) x) Q σ:=awp_seq (zg0 h)
theorem zg2{kb:Nat}{id:Nat}{l:List Oper}{draw:Bool}{Q:AEx→St→Prop}{σ:St}{x y:Code}(h:vcOps Try.prog tab ⟨false,false⟩ l 0 [] σ [] fun τ ks=>Draws draw (fun _=>OrderOK l.toArray ks.reverse)∧At τ (seqPost Try.prog kb x (seqPost Try.prog kb y Q) .norm)):AWP Try.prog kb (.seq (.seq (.region id l.toArray draw) x) y) Q σ:=awp_seq (zg1 h)
theorem zg3{kb:Nat}{id:Nat}{l:List Oper}{draw:Bool}{Q:AEx→St→Prop}{σ:St}{x y z:Code}(h:vcOps Try.prog tab ⟨false,false⟩ l 0 [] σ [] fun τ ks=>Draws draw (fun _=>OrderOK l.toArray ks.reverse)∧At τ (seqPost Try.prog kb x (seqPost Try.prog kb y (seqPost Try.prog kb z Q)) .norm)):AWP Try.prog kb (.seq (.seq (.seq (.region id l.toArray draw) x) y) z) Q σ:=awp_seq (zg2 h)
theorem zm0{kb:Nat}{id:Nat}{l:List Oper}{draw:Bool}{Q:AEx→St→Prop}{σ:St}(h:vcOps Try.prog tab ⟨true,false⟩ l 0 [] σ [] fun τ ks=>Draws draw (fun _=>OrderOK l.toArray ks.reverse)∧At τ (Q .norm)):AWP Try.prog kb (.region id l.toArray draw) Q σ:=awp_region_any _ hT hm h
theorem zm1{kb:Nat}{id:Nat}{l:List Oper}{draw:Bool}{Q:AEx→St→Prop}{σ:St}{x:Code}(h:vcOps Try.prog tab ⟨true,false⟩ l 0 [] σ [] fun τ ks=>Draws draw (fun _=>OrderOK l.toArray ks.reverse)∧At τ (seqPost Try.prog kb x Q .norm)):AWP Try.prog kb (.seq (.region id l.toArray draw) x) Q σ:=awp_seq (zm0 h)
theorem zm2{kb:Nat}{id:Nat}{l:List Oper}{draw:Bool}{Q:AEx→St→Prop}{σ:St}{x y:Code}(h:vcOps Try.prog tab ⟨true,false⟩ l 0 [] σ [] fun τ ks=>Draws draw (fun _=>OrderOK l.toArray ks.reverse)∧At τ (seqPost Try.prog kb x (seqPost Try.prog kb y Q) .norm)):AWP Try.prog kb (.seq (.seq (.region id l.toArray draw) x) y) Q σ:=awp_seq (zm1 h)
theorem zs0{kb:Nat}{id:Nat}{l:List Oper}{draw:Bool}{Q:AEx→St→Prop}{σ:St}(h:vcOps Try.prog tab ⟨true,true⟩ l 0 [] σ [] fun τ ks=>Draws draw (fun _=>OrderOK l.toArray ks.reverse)∧At τ (Q .norm)):AWP Try.prog kb (.region id l.toArray draw) Q σ:=awp_region_any _ hT hm h
theorem zs1{kb:Nat}{id:Nat}{l:List Oper}{draw:Bool}{Q:AEx→St→Prop}{σ:St}{x:Code}(h:vcOps Try.prog tab ⟨true,true⟩ l 0 [] σ [] fun τ ks=>Draws draw (fun _=>OrderOK l.toArray ks.reverse)∧At τ (seqPost Try.prog kb x Q .norm)):AWP Try.prog kb (.seq (.region id l.toArray draw) x) Q σ:=awp_seq (zs0 h)
theorem zs2{kb:Nat}{id:Nat}{l:List Oper}{draw:Bool}{Q:AEx→St→Prop}{σ:St}{x y:Code}(h:vcOps Try.prog tab ⟨true,true⟩ l 0 [] σ [] fun τ ks=>Draws draw (fun _=>OrderOK l.toArray ks.reverse)∧At τ (seqPost Try.prog kb x (seqPost Try.prog kb y Q) .norm)):AWP Try.prog kb (.seq (.seq (.region id l.toArray draw) x) y) Q σ:=awp_seq (zs1 h)
theorem zk0{kb:Nat}{c:Operand}{x y:Code}{Q:AEx→St→Prop}{σ:St}{b:Bool}(hc:σ.ev c=some (.v (.bool b)))(ht:b=true→AWP Try.prog kb x Q σ)(hf:b=false→AWP Try.prog kb y Q σ):AWP Try.prog kb (.cond c x y) Q σ:=awp_cond hc ht hf
theorem zk1{kb:Nat}{c:Operand}{x y z:Code}{Q:AEx→St→Prop}{σ:St}{b:Bool}(hc:σ.ev c=some (.v (.bool b)))(ht:b=true→AWP Try.prog kb x (seqPost Try.prog kb z Q) σ)(hf:b=false→AWP Try.prog kb y (seqPost Try.prog kb z Q) σ):AWP Try.prog kb (.seq (.cond c x y) z) Q σ:=awp_seq (awp_cond hc ht hf)
theorem zk2{kb:Nat}{c:Operand}{x y z w:Code}{Q:AEx→St→Prop}{σ:St}{b:Bool}(hc:σ.ev c=some (.v (.bool b)))(ht:b=true→AWP Try.prog kb x (seqPost Try.prog kb z (seqPost Try.prog kb w Q)) σ)(hf:b=false→AWP Try.prog kb y (seqPost Try.prog kb z (seqPost Try.prog kb w Q)) σ) :
  AWP Try.prog kb (.seq (.seq (.cond c x y) z) w) Q σ:=awp_seq (awp_seq (awp_cond hc ht hf))
theorem za0{kb:Nat}{c:Code}{Q:AEx→St→Prop}{σ:St}(h:AWP Try.prog kb c Q σ):At σ (seqPost Try.prog kb c Q .norm):=h
theorem zb0{kb:Nat}{c:Code}{Q:AEx→St→Prop}{σ:St}{kb':Nat}(h:AWP Try.prog kb c Q σ):AWP Try.prog kb' .skip (seqPost Try.prog kb c Q) σ:=awp_skip h
theorem za1{kb:Nat}{c:Code}{Q:AEx→St→Prop}{σ:St}{b0:Nat}(h:AWP Try.prog kb c Q σ):At σ (blockPost b0 (seqPost Try.prog kb c Q) .norm):=h
theorem zb1{kb:Nat}{c:Code}{Q:AEx→St→Prop}{σ:St}{b0:Nat}{kb':Nat}(h:AWP Try.prog kb c Q σ):AWP Try.prog kb' .skip (blockPost b0 (seqPost Try.prog kb c Q)) σ:=awp_skip h
theorem za2{kb:Nat}{c:Code}{Q:AEx→St→Prop}{σ:St}{b0:Nat}{b1:Nat}(h:AWP Try.prog kb c Q σ):At σ (blockPost b1 (blockPost b0 (seqPost Try.prog kb c Q)) .norm):=h
theorem zb2{kb:Nat}{c:Code}{Q:AEx→St→Prop}{σ:St}{b0:Nat}{b1:Nat}{kb':Nat}(h:AWP Try.prog kb c Q σ):AWP Try.prog kb' .skip (blockPost b1 (blockPost b0 (seqPost Try.prog kb c Q))) σ:=awp_skip h
theorem za3{kb:Nat}{c:Code}{Q:AEx→St→Prop}{σ:St}{b0:Nat}{b1:Nat}{b2:Nat}(h:AWP Try.prog kb c Q σ):At σ (blockPost b2 (blockPost b1 (blockPost b0 (seqPost Try.prog kb c Q))) .norm):=h
theorem zb3{kb:Nat}{c:Code}{Q:AEx→St→Prop}{σ:St}{b0:Nat}{b1:Nat}{b2:Nat}{kb':Nat}(h:AWP Try.prog kb c Q σ):AWP Try.prog kb' .skip (blockPost b2 (blockPost b1 (blockPost b0 (seqPost Try.prog kb c Q)))) σ:=awp_skip h
theorem zl0{ι:Type}{L:ι→St}{μ:ι→Nat}{i:ι}{Q:AEx→St→Prop}{σ:St}(h:∃j,μ j<μ i∧Covers σ (L j)):At σ (loopPost L μ i Q .norm):=h
theorem zn0{ι:Type}{L:ι→St}{μ:ι→Nat}{i:ι}{Q:AEx→St→Prop}{σ:St}{kb':Nat}(h:∃j,μ j<μ i∧Covers σ (L j)):AWP Try.prog kb' .skip (loopPost L μ i Q) σ:=awp_skip h
theorem zl1{ι:Type}{L:ι→St}{μ:ι→Nat}{i:ι}{Q:AEx→St→Prop}{σ:St}{b0:Nat}(h:∃j,μ j<μ i∧Covers σ (L j)):At σ (blockPost b0 (loopPost L μ i Q) .norm):=h
theorem zn1{ι:Type}{L:ι→St}{μ:ι→Nat}{i:ι}{Q:AEx→St→Prop}{σ:St}{b0:Nat}{kb':Nat}(h:∃j,μ j<μ i∧Covers σ (L j)):AWP Try.prog kb' .skip (blockPost b0 (loopPost L μ i Q)) σ:=awp_skip h
theorem zl2{ι:Type}{L:ι→St}{μ:ι→Nat}{i:ι}{Q:AEx→St→Prop}{σ:St}{b0:Nat}{b1:Nat}(h:∃j,μ j<μ i∧Covers σ (L j)):At σ (blockPost b1 (blockPost b0 (loopPost L μ i Q)) .norm):=h
theorem zn2{ι:Type}{L:ι→St}{μ:ι→Nat}{i:ι}{Q:AEx→St→Prop}{σ:St}{b0:Nat}{b1:Nat}{kb':Nat}(h:∃j,μ j<μ i∧Covers σ (L j)):AWP Try.prog kb' .skip (blockPost b1 (blockPost b0 (loopPost L μ i Q))) σ:=awp_skip h
theorem zl3{ι:Type}{L:ι→St}{μ:ι→Nat}{i:ι}{Q:AEx→St→Prop}{σ:St}{b0:Nat}{b1:Nat}{b2:Nat}(h:∃j,μ j<μ i∧Covers σ (L j)):At σ (blockPost b2 (blockPost b1 (blockPost b0 (loopPost L μ i Q))) .norm):=h
theorem zn3{ι:Type}{L:ι→St}{μ:ι→Nat}{i:ι}{Q:AEx→St→Prop}{σ:St}{b0:Nat}{b1:Nat}{b2:Nat}{kb':Nat}(h:∃j,μ j<μ i∧Covers σ (L j)):AWP Try.prog kb' .skip (blockPost b2 (blockPost b1 (blockPost b0 (loopPost L μ i Q)))) σ:=awp_skip h
end Go.Proofs.Ytkhnjeblbiocaaa
section
/-
  Short forms of steps that occur often; the packed texts of a claim use them (squeeze.py).
-/
namespace Go.Proofs.Ytkhnjeblbiocaaa
open Go.Av

theorem retTo_ret (tab : Tab) (rv : List ResultVar) (sh : Bool) (k : Nat) (R : AVal → List AObj → Prop) (σ : St) : RetTo tab rv sh k R .ret σ = on (retVals tab σ rv) fun rs => k ≤ σ.objs.length ∧ (∀ o ∈ σ.objs.take k, o.upto k) ∧ (mkRet (if sh then rs.map AVal.share else rs)).upto k ∧ R (mkRet (if sh then rs.map AVal.share else rs)) (σ.objs.take k) := rfl
theorem retTo_norm (tab : Tab) (rv : List ResultVar) (sh : Bool) (k : Nat) (R : AVal → List AObj → Prop) (σ : St) : RetTo tab rv sh k R .norm σ = on (retVals tab σ rv) fun rs => k ≤ σ.objs.length ∧ (∀ o ∈ σ.objs.take k, o.upto k) ∧ (mkRet (if sh then rs.map AVal.share else rs)).upto k ∧ R (mkRet (if sh then rs.map AVal.share else rs)) (σ.objs.take k) := rfl
theorem mkRet_nil : mkRet [] = .tup [] := rfl
theorem mkRet_two (x y : AVal) (r : List AVal) : mkRet (x :: y :: r) = .tup (x :: y :: r) := rfl
theorem upto_v (n : Nat) (x : Value) : AVal.upto n (.v x) = True := rfl
def zr := And.intro @retTo_ret <| And.intro @retTo_norm <| And.intro @retVals.eq_1 <| And.intro @retVals.eq_2 <| And.intro @retVal.eq_1 <| And.intro @retVal.eq_2 <| And.intro @mkRet.eq_1 <| And.intro @mkRet_nil <| And.intro @mkRet_two <|
  And.intro @AVal.upto.eq_1 <| And.intro @AVal.upto.eq_2 <| And.intro @AVal.upto.eq_3 <| And.intro @AVal.upto.eq_4 <| And.intro @AVal.upto.eq_5 <| And.intro @AVal.upto.eq_6 <| And.intro @AVal.upto.eq_7 <| And.intro @AVal.upto.eq_8 <| And.intro @AVal.upto.eq_9 <| And.intro @AVal.upto.eq_10 <| And.intro @AVal.upto.eq_11 <| And.intro @AVal.upto.eq_12 <| And.intro @AVal.upto.eq_13 <|
  And.intro @Nat.zero_le <| And.intro @Nat.le_refl <| And.intro @Nat.le_add_right <| And.intro @seqPost_ret <| And.intro @blockPost_ret @loopPost_ret
def zc := And.intro @Says.eq_1 <| And.intro @Says.eq_2 <| And.intro @exists_eq_left'.{1} <| And.intro @Option.some.injEq.{0} <| And.intro @sub_self <| And.intro @and_assoc <| And.intro true_and and_true

theorem ab {p q : Prop} [Decidable p] (h : decide p = true) (n : ¬p) : q := absurd (of_decide_eq_true h) n
theorem af {p q : Prop} [Decidable p] (h : decide p = false) (n : p) : q := absurd n (of_decide_eq_false h)
theorem ob {a : Array Oper} {k : List Kind} (h : orderB a k = true) : OrderOK a k := h
theorem zf {f : FuncId} {fn : Go.Func} {c : Code} {O : List AObj} {args : List AVal} {R : AVal → List AObj → Prop} {m : Nat} (sh : Bool) (k : Nat) (hf : Try.prog.funcs[f]? = some fn) (hm : fn.ntmps = m) (h : AWP Try.prog O.length c (RetTo tab fn.results.toList sh k R) ⟨m, slotsOf 0 args, O⟩) (hb : fn.body = some c := by rfl)
    (hname : (fn.name == "runtime.NumGoroutine") = false := by kernel_rfl) (hn : args.length ≤ m := by simp) (hk : O.length ≤ k := by simp) : ECall Try.prog f O args R := by
  subst hm
  exact ecall_of hT sh k hf hb hname hn hk h
theorem zq {σ τ : St} (h1 : σ.n = τ.n) (h3 : Says σ τ.slots) (h2 : σ.objs = τ.objs) : Covers σ τ := ⟨h1, h2, h3⟩

theorem zh0 {kb : Nat} {id : Nat} {l : List Oper} {draw : Bool} {Q : AEx → St → Prop} {σ : St} {q : Prop} (h : q) (e : (vcOps Try.prog tab ⟨false, false⟩ l 0 [] σ [] fun τ ks => Draws draw (fun _ => OrderOK l.toArray ks.reverse) ∧ At τ (Q .norm)) = q := by simp -dsimp only [simprocAttr, ↓vpre, zp]; rfl) : AWP Try.prog kb (.region id l.toArray draw) Q σ := zg0 (e ▸ h)
theorem zh1 {kb : Nat} {id : Nat} {l : List Oper} {draw : Bool} {Q : AEx → St → Prop} {σ : St} {x : Code} {q : Prop} (h : q) (e : (vcOps Try.prog tab ⟨false, false⟩ l 0 [] σ [] fun τ ks => Draws draw (fun _ => OrderOK l.toArray ks.reverse) ∧ At τ (seqPost Try.prog kb x Q .norm)) = q := by simp -dsimp only [simprocAttr, ↓vpre, zp]; rfl) : AWP Try.prog kb (.seq (.region id l.toArray draw) x) Q σ := zg1 (e ▸ h)
theorem zh2 {kb : Nat} {id : Nat} {l : List Oper} {draw : Bool} {Q : AEx → St → Prop} {σ : St} {x y : Code} {q : Prop} (h : q) (e : (vcOps Try.prog tab ⟨false, false⟩ l 0 [] σ [] fun τ ks => Draws draw (fun _ => OrderOK l.toArray ks.reverse) ∧ At τ (seqPost Try.prog kb x (seqPost Try.prog kb y Q) .norm)) = q := by simp -dsimp only [simprocAttr, ↓vpre, zp]; rfl) : AWP Try.prog kb (.seq (.seq (.region id l.toArray draw) x) y) Q σ := zg2 (e ▸ h)
theorem zh3 {kb : Nat} {id : Nat} {l : List Oper} {draw : Bool} {Q : AEx → St → Prop} {σ : St} {x y z : Code} {q : Prop} (h : q) (e : (vcOps Try.prog tab ⟨false, false⟩ l 0 [] σ [] fun τ ks => Draws draw (fun _ => OrderOK l.toArray ks.reverse) ∧ At τ (seqPost Try.prog kb x (seqPost Try.prog kb y (seqPost Try.prog kb z Q)) .norm)) = q := by simp -dsimp only [simprocAttr, ↓vpre, zp]; rfl) : AWP Try.prog kb (.seq (.seq (.seq (.region id l.toArray draw) x) y) z) Q σ := zg3 (e ▸ h)
theorem zu0 {kb : Nat} {c : Operand} {x y : Code} {Q : AEx → St → Prop} {σ : St} (hc : σ.ev c = some (.v (.bool false))) (hf : AWP Try.prog kb y Q σ) : AWP Try.prog kb (.cond c x y) Q σ := awp_cond hc (fun h => by cases h) fun _ => hf
theorem zu1 {kb : Nat} {c : Operand} {x y z : Code} {Q : AEx → St → Prop} {σ : St} (hc : σ.ev c = some (.v (.bool false))) (hf : AWP Try.prog kb y (seqPost Try.prog kb z Q) σ) : AWP Try.prog kb (.seq (.cond c x y) z) Q σ := awp_seq (zu0 hc hf)
theorem zu2 {kb : Nat} {c : Operand} {x y z w : Code} {Q : AEx → St → Prop} {σ : St} (hc : σ.ev c = some (.v (.bool false))) (hf : AWP Try.prog kb y (seqPost Try.prog kb z (seqPost Try.prog kb w Q)) σ) : AWP Try.prog kb (.seq (.seq (.cond c x y) z) w) Q σ := awp_seq (zu1 hc hf)
theorem zw0 {kb : Nat} {c : Operand} {x y : Code} {Q : AEx → St → Prop} {σ : St} (hc : σ.ev c = some (.v (.bool true))) (ht : AWP Try.prog kb x Q σ) : AWP Try.prog kb (.cond c x y) Q σ := awp_cond hc (fun _ => ht) fun h => by cases h
theorem zw1 {kb : Nat} {c : Operand} {x y z : Code} {Q : AEx → St → Prop} {σ : St} (hc : σ.ev c = some (.v (.bool true))) (ht : AWP Try.prog kb x (seqPost Try.prog kb z Q) σ) : AWP Try.prog kb (.seq (.cond c x y) z) Q σ := awp_seq (zw0 hc ht)
theorem zw2 {kb : Nat} {c : Operand} {x y z w : Code} {Q : AEx → St → Prop} {σ : St} (hc : σ.ev c = some (.v (.bool true))) (ht : AWP Try.prog kb x (seqPost Try.prog kb z (seqPost Try.prog kb w Q)) σ) : AWP Try.prog kb (.seq (.seq (.cond c x y) z) w) Q σ := awp_seq (zw1 hc ht)
theorem zi {id : FuncId} {args : List AVal} {r : AVal} {K : AVal → Prop} {B q : Prop} (hc : PCall Try.prog id args r) (h : q) (hu : uptoL 0 args := by simp only [uptoL, AVal.upto, zt, zu]) (e : K r = q := by simp -dsimp only [simprocAttr, ↓vpre, zp]; rfl) : (∃ r, PCall Try.prog id args r ∧ uptoL 0 args ∧ Later fun _ => K r) ∨ B := .inl ⟨r, hc, hu, later_intro (e ▸ h)⟩
theorem zj {p q : Prop} (h : q) (e : p = q := by simp -dsimp only [simprocAttr, ↓vpre, zp]; rfl) : p := e ▸ h
end Go.Proofs.Ytkhnjeblbiocaaa
end
namespace Go.Av
section
variable {P:Program} {w:World} {H:Type} {enc:TypeId×Value→H} {sp:Nat→Bool} {held:Bool}
theorem agg_of_trod(hl:laidOutB P=true){ts:List TypeId}(hc:covB P ts=true){t:TypeId}(ht:t∈ts){v:Value}{d:DataW H}{ps:List MemPlace}(h:DataW.Trod enc P w 0 sp held t v d ps)
  (hv:∃vs,v=.agg vs) (hw:∀m∈d.weights P t,m≤reachBytes):∃n ars,Shp P n t ars∧RV (g0 w) (.agg ars) v:=by
 obtain⟨vs,rfl⟩:=hv
 obtain⟨n,h⟩:=h
 obtain⟨ars,h1,h3,h4,h5⟩:=rvl_of_trod hl hc n t _ (d,ps) ht h hw
 exact⟨n,ars,h1,.agg (by simpa [Value.cells] using h3.symm) h4 fun i c u hc hu=>h5 i c u hc (by simpa [Value.cells] using hu)⟩
theorem one_struct{t:TypeId}{fs:Array Field}{r:Reach}{b:Nat}{v:Value}(hu:P.underlying t=some (.struct fs))(h:Value.okWide P w r b t v):∃vs,v=.agg vs:=by
 cases v<;>first | exact⟨_,rfl⟩ | simp [Value.okWide,hu,Cell.okWide,Cell.ok] at h
end
end Go.Av
namespace Go.Proofs.Ytkhnjeblbiocaaa
open Go.Av
theorem cells3:Try.prog.cellsOf 3=1:=by kernel_rfl
theorem cells48:Try.prog.cellsOf 46=4:=by kernel_rfl
theorem cells50:Try.prog.cellsOf 48=2:=by kernel_rfl
theorem cells46:Try.prog.cellsOf 44=7:=by kernel_rfl
theorem cells39:Try.prog.cellsOf 37=2:=by kernel_rfl
theorem bytes3:Try.prog.bytesOf 3=8:=by kernel_rfl
theorem bytes48:Try.prog.bytesOf 46=48:=by kernel_rfl
theorem bytes50:Try.prog.bytesOf 48=32:=by kernel_rfl
theorem bytes46:Try.prog.bytesOf 44=120:=by kernel_rfl
theorem bytes39:Try.prog.bytesOf 37=32:=by kernel_rfl
theorem agg3:aggT Try.prog 3=false:=by kernel_rfl
theorem agg48:aggT Try.prog 46=true:=by kernel_rfl
theorem agg50:aggT Try.prog 48=true:=by kernel_rfl
theorem agg46:aggT Try.prog 44=true:=by kernel_rfl
theorem agg39:aggT Try.prog 37=true:=by kernel_rfl
theorem int_told{n:Nat}{x:List AVal}(h:Shp Try.prog n 3 x):∃m:Int,x=[aI m]∧fitI m:=by
 obtain⟨m,e,h1⟩:=h.int Try.underlying3
 exact⟨m,e,h1⟩
theorem ints_told{n:Nat}{x:List AVal}(h:Shp Try.prog n 26 x):∃l:List Int,x=[eIs l]∧fitIs l∧l.length≤2 ^ 47:=by
 obtain⟨l,e,hb,hq⟩:=h.listQ (f:=aI) (Q:=fitI) Try.underlying26 fun j hj y hy=>by
  obtain⟨m,rfl,hm⟩:=int_told hy
  exact⟨m,by rw [mkE,agg3];rfl,hm⟩
 rw [bytes3,reachBytes] at hb
 exact⟨l,by rw [e,cells3],hq,by omega⟩
theorem ins_told{n:Nat}{x:List AVal}(h:Shp Try.prog n 46 x):∃i:Ins,x=i.enc.cells∧i.fit:=by
 obtain⟨m,rfl,hc⟩:=h.struct Try.underlying46
 simp only [List.map_cons,List.map_nil,Cat] at hc
 obtain⟨a,b,rfl,h1,c,d,rfl,h2,e,f,rfl,h3,g,k,rfl,h4,rfl⟩:=hc
 obtain⟨x1,rfl,q1⟩:=int_told h1
 obtain⟨x2,rfl,q2⟩:=int_told h2
 obtain⟨x3,rfl,q3⟩:=int_told h3
 obtain⟨x4,rfl,q4,q5⟩:=ints_told h4
 exact⟨⟨x1,x2,x3,x4⟩,rfl,q1,q2,q3,q4,q5⟩
theorem inss_told{n:Nat}{x:List AVal}(h:Shp Try.prog n 39 x):∃l:List Ins,x=[eInss l]∧(∀i∈l,i.fit)∧l.length≤2 ^ 47:=by
 obtain⟨l,e,hb,hq⟩:=h.listQ (f:=Ins.enc) (Q:=Ins.fit) Try.underlying39 fun j hj y hy=>by
  obtain⟨m,rfl,hm⟩:=ins_told hy
  exact⟨m,by rw [mkE,agg48];rfl,hm⟩
 rw [bytes48,reachBytes] at hb
 exact⟨l,by rw [e,cells48],hq,by omega⟩
theorem edge_told{n:Nat}{x:List AVal}(h:Shp Try.prog n 48 x):∃i:Edge,x=i.enc.cells∧i.fit:=by
 obtain⟨m,rfl,hc⟩:=h.struct Try.underlying48
 simp only [List.map_cons,List.map_nil,Cat] at hc
 obtain⟨a,b,rfl,h1,g,k,rfl,h4,rfl⟩:=hc
 obtain⟨x1,rfl,q1⟩:=int_told h1
 obtain⟨x4,rfl,q4,q5⟩:=ints_told h4
 exact⟨⟨x1,x4⟩,rfl,q1,q4,q5⟩
theorem edges_told{n:Nat}{x:List AVal}(h:Shp Try.prog n 40 x):∃l:List Edge,x=[eEdges l]∧(∀i∈l,i.fit)∧l.length≤2 ^ 47:=by
 obtain⟨l,e,hb,hq⟩:=h.listQ (f:=Edge.enc) (Q:=Edge.fit) Try.underlying40 fun j hj y hy=>by
  obtain⟨m,rfl,hm⟩:=edge_told hy
  exact⟨m,by rw [mkE,agg50];rfl,hm⟩
 rw [bytes50,reachBytes] at hb
 exact⟨l,by rw [e,cells50],hq,by omega⟩
theorem term_told{n:Nat}{x:List AVal}(h:Shp Try.prog n 42 x):∃t:Term,x=t.enc.cells∧t.fit:=by
 obtain⟨m,rfl,hc⟩:=h.struct Try.underlying42
 simp only [List.map_cons,List.map_nil,Cat] at hc
 obtain⟨a,b,rfl,h1,c,d,rfl,h2,e,f,rfl,h3,g,k,rfl,h4,g',k',rfl,h5,rfl⟩:=hc
 obtain⟨x1,rfl,q1⟩:=int_told h1
 obtain⟨x2,rfl,q2⟩:=int_told h2
 obtain⟨x3,rfl,q3⟩:=int_told h3
 obtain⟨x4,rfl,q4,q5⟩:=ints_told h4
 obtain⟨x5,rfl,q6,q7⟩:=edges_told h5
 exact⟨⟨x1,x2,x3,x4,x5⟩,rfl,q1,q2,q3,q4,q5,q7,q6⟩
theorem block_told{n:Nat}{x:List AVal}(h:Shp Try.prog n 44 x):∃b:Block,x=b.enc.cells∧b.fit:=by
 obtain⟨m,rfl,hc⟩:=h.struct Try.underlying44
 simp only [List.map_cons,List.map_nil,Cat] at hc
 obtain⟨a,b,rfl,h1,c,d,rfl,h2,e,f,rfl,h3,rfl⟩:=hc
 obtain⟨x1,rfl,q1,q2⟩:=ints_told h1
 obtain⟨x2,rfl,q3,q4⟩:=inss_told h2
 obtain⟨x3,rfl,q5⟩:=term_told h3
 exact⟨⟨x1,x2,x3⟩,rfl,q1,q2,q4,q3,q5⟩
theorem func_told{n:Nat}{x:List AVal}(h:Shp Try.prog n 37 x):∃f:Func,x=f.enc.cells∧f.fit:=by
 obtain⟨m,rfl,hc⟩:=h.struct Try.underlying37
 simp only [List.map_cons,List.map_nil,Cat] at hc
 obtain⟨a,b,rfl,h1,c,d,rfl,h2,rfl⟩:=hc
 obtain⟨x1,rfl,q1⟩:=int_told h1
 obtain⟨l,rfl,hb,hq⟩:=h2.listQ (f:=Block.enc) (Q:=Block.fit) Try.underlying35 fun j hj y hy=>by
  obtain⟨m,rfl,hm⟩:=block_told hy
  exact⟨m,by rw [mkE,agg46];rfl,hm⟩
 rw [bytes46,reachBytes] at hb
 exact⟨⟨x1,l⟩,by rw [cells46];rfl,q1,by show l.length≤_;omega,hq⟩
theorem unit_told{n:Nat}{x:List AVal}(h:Shp Try.prog n 24 x):∃u:Unt,.agg x=u.enc∧u.fit:=by
 obtain⟨m,rfl,hc⟩:=h.struct Try.underlying24
 simp only [List.map_cons,List.map_nil,Cat] at hc
 obtain⟨a,b,rfl,h1,c,d,rfl,h2,rfl⟩:=hc
 obtain⟨l,rfl,hb,hq⟩:=h1.listQ (f:=Func.enc) (Q:=Func.fit) Try.underlying22 fun j hj y hy=>by
  obtain⟨m,rfl,hm⟩:=func_told hy
  exact⟨m,by rw [mkE,agg39];rfl,hm⟩
 obtain⟨x1,rfl,q1⟩:=int_told h2
 rw [bytes39,reachBytes] at hb
 exact⟨⟨l,x1⟩,by rw [cells39];rfl,q1,by show l.length≤_;omega,hq⟩
theorem fn_told{n:Nat}{x:List AVal}(h:Shp Try.prog n 37 x):∃f:Func,.agg x=f.enc∧f.fit:=by
 obtain⟨f,rfl,hf⟩:=func_told h
 exact⟨f,rfl,hf⟩
theorem num_told{n:Nat}{a:AVal}(h:Shp Try.prog n 3 [a]):∃m:Int,a=aI m∧fitI m:=by
 obtain⟨m,e,h1⟩:=int_told h
 exact⟨m,by simpa using e,h1⟩
def covT:List TypeId:=[3,22,24,26,35,37,39,40,42,44,46,48]
theorem cov:covB Try.prog covT=true:=by kernel_rfl
theorem laid:laidOutB Try.prog=true:=by kernel_rfl
def within(n low high:Int):Bool:=decide (low≤n)&&decide (n≤high)
theorem within_spec(n low high:Int):PCall Try.prog 33 [aI n,aI low,aI high] (.v (.bool (within n low high))):=by
 refine zf true 0 Try.func33 Try.ntmps33 ?_
 dsimp only [Tmp,TypeId,slotsOf]
 refine zh1 (za0 ?_)
 refine zh1 ?_
 refine vcIf_split (fun h=>?_) (fun h=>?_)
 ·simp -dsimp only [simprocAttr,↓vpre,zp,h]
  refine za0 ?_
  refine awp_ret ?_
  simp -dsimp only [simprocAttr,↓vpre,zp,zr,Try.results33]
  simp_all [within]
 simp -dsimp only [simprocAttr,↓vpre,zp,h]
 refine za0 ?_
 refine awp_ret ?_
 simp -dsimp only [simprocAttr,↓vpre,zp,zr,Try.results33]
 simp_all [within]
 omega
theorem wrapW_range(n:Int):-1073741824≤wrapW n∧wrapW n≤1073741823:=by
 unfold wrapW
 omega
theorem and_low(x:Int):bitsOf .i64 (fun x y=>x&&& y) x 2147483647=x % 2147483648:=by
 have h:(BitVec.ofInt 64 x&&& BitVec.ofInt 64 2147483647).toNat=(x % 2147483648).toNat:=by
  rw [BitVec.toNat_and,show(BitVec.ofInt 64 2147483647).toNat=2 ^ 31 - 1 by decide,Nat.and_two_pow_sub_one_eq_mod,BitVec.toNat_ofInt]
  omega
 show IntKind.i64.wrap (((BitVec.ofInt 64 x&&& BitVec.ofInt 64 2147483647).toNat:Nat):Int)=_
 rw [h,wrap_in .i64 _ (by simp [IntKind.min,IntKind.bits,IntKind.signed];omega) (by simp [IntKind.max,IntKind.bits,IntKind.signed];omega)]
 omega
theorem wrap_spec(n:Int)(h1:-9223372036854775808≤n)(h2:n≤9223372035781033983):PCall Try.prog 130 [aI n] (aI (wrapW n)):=by
 have q:=wrapW_range n
 have e:bitsOf .i64 (fun x y=>x&&& y) (n+1073741824) 2147483647=wrapW n+1073741824:=by
  rw [and_low]
  unfold wrapW
  omega
 refine zf true 0 Try.func130 Try.ntmps130 ?_
 dsimp only [Tmp,TypeId,slotsOf]
 refine zh1 (za0 ?_)
 refine zh1 ?_
 refine⟨by omega,by omega,?_⟩
 simp -dsimp only [simprocAttr,↓vpre,zp,e]
 refine⟨by omega,by omega,by omega,by omega,?_⟩
 refine za0 ?_
 refine awp_ret ?_
 simp -dsimp only [simprocAttr,↓vpre,zp,zr,Try.results130]
 rw [Int.add_sub_cancel]
theorem wrapW_of{n:Int}(h:isW n):wrapW n=n:=by
 unfold isW at h
 unfold wrapW
 omega
theorem add_spec(a b:Int)(ha:isW a)(hb:isW b):PCall Try.prog 117 [aI a,aI b] (aI (wrapW (a+b))):=by
 unfold isW at ha hb
 refine zf true 0 Try.func117 Try.ntmps117 ?_
 dsimp only [Tmp,TypeId,slotsOf]
 refine zh1 (za0 ?_)
 refine zh1 ?_
 refine⟨by omega,by omega,?_⟩
 refine .inl ⟨_,(wrap_spec (a+b) (by omega) (by omega)),by simp only [uptoL,AVal.upto,zt],later_intro ?_⟩
 refine za0 ?_
 refine awp_ret ?_
 simp -dsimp only [simprocAttr,↓vpre,zp,zr,Try.results117]
theorem sub_spec(a b:Int)(ha:isW a)(hb:isW b):PCall Try.prog 118 [aI a,aI b] (aI (wrapW (a - b))):=by
 unfold isW at ha hb
 refine zf true 0 Try.func118 Try.ntmps118 ?_
 dsimp only [Tmp,TypeId,slotsOf]
 refine zh1 (za0 ?_)
 refine zh1 ?_
 refine⟨by omega,by omega,?_⟩
 refine .inl ⟨_,(wrap_spec (a - b) (by omega) (by omega)),by simp only [uptoL,AVal.upto,zt],later_intro ?_⟩
 refine za0 ?_
 refine awp_ret ?_
 simp -dsimp only [simprocAttr,↓vpre,zp,zr,Try.results118]
theorem prod_range{a b:Int}(ha:isW a)(hb:isW b):-1152921504606846976≤a * b∧a * b≤1152921504606846976:=by
 unfold isW at ha hb
 have h:(a * b).natAbs≤1152921504606846976:=by
  rw [Int.natAbs_mul]
  have:=Nat.mul_le_mul (show a.natAbs≤1073741824 by omega) (show b.natAbs≤1073741824 by omega)
  omega
 omega
theorem mul_spec(a b:Int)(ha:isW a)(hb:isW b):PCall Try.prog 119 [aI a,aI b] (aI (wrapW (a * b))):=by
 have q:=prod_range ha hb
 have ea:=wrapW_of ha
 have eb:=wrapW_of hb
 have wa:=wrap_spec a (by unfold isW at ha;omega) (by unfold isW at ha;omega)
 have wb:=wrap_spec b (by unfold isW at hb;omega) (by unfold isW at hb;omega)
 have wc:=wrap_spec (a * b) (by omega) (by omega)
 rw [ea] at wa
 rw [eb] at wb
 generalize hc:a * b=c at *
 refine zf true 0 Try.func119 Try.ntmps119 ?_
 dsimp only [Tmp,TypeId,slotsOf]
 refine zh1 (za0 ?_)
 refine zh1 ?_
 refine .inl ⟨_,wa,by simp only [uptoL,AVal.upto,zt],later_intro ?_⟩
 refine .inl ⟨_,wb,by simp only [uptoL,AVal.upto,zt],later_intro ?_⟩
 simp -dsimp only [simprocAttr,↓vpre,zp,hc]
 refine⟨by omega,by omega,?_⟩
 refine .inl ⟨_,wc,by simp only [uptoL,AVal.upto,zt],later_intro ?_⟩
 refine za0 ?_
 refine awp_ret ?_
 simp -dsimp only [simprocAttr,↓vpre,zp,zr,Try.results119]
theorem tdiv_range{a b:Int}(ha:isW a):-1073741824≤a.tdiv b∧a.tdiv b≤1073741824:=by
 unfold isW at ha
 have h:(a.tdiv b).natAbs≤a.natAbs:=by
  rw [Int.natAbs_tdiv]
  exact Nat.div_le_self _ _
 omega
theorem tmod_range{a b:Int}(hb:isW b)(h0:b≠0):isW (a.tmod b):=by
 unfold isW at *
 have h:(a.tmod b).natAbs<b.natAbs:=by
  rw [Int.natAbs_tmod]
  exact Nat.mod_lt _ (by omega)
 omega
theorem div_spec(a b:Int)(ha:isW a)(hb:isW b)(h0:b≠0):PCall Try.prog 121 [aI a,aI b] (.tup [aI (wrapW (a.tdiv b)),aI 0]):=by
 have q:=tdiv_range (b:=b) ha
 have wa:=wrap_spec a (by unfold isW at ha;omega) (by unfold isW at ha;omega)
 have wb:=wrap_spec b (by unfold isW at hb;omega) (by unfold isW at hb;omega)
 have wc:=wrap_spec (a.tdiv b) (by omega) (by omega)
 rw [wrapW_of ha] at wa
 rw [wrapW_of hb] at wb
 have h1:(b=0)=False:=by simpa using h0
 generalize hc:a.tdiv b=c at *
 refine zf true 0 Try.func121 Try.ntmps121 ?_
 dsimp only [Tmp,TypeId,slotsOf]
 refine zh1 (za0 ?_)
 refine zh2 ?_
 refine .inl ⟨_,wb,by simp only [uptoL,AVal.upto,zt],later_intro ?_⟩
 simp -dsimp only [simprocAttr,↓vpre,zp,h0]
 refine za0 ?_
 refine zu0 rfl ?_
 refine zb0 ?_
 refine zh1 ?_
 refine .inl ⟨_,wa,by simp only [uptoL,AVal.upto,zt],later_intro ?_⟩
 refine .inl ⟨_,wb,by simp only [uptoL,AVal.upto,zt],later_intro ?_⟩
 simp -dsimp only [simprocAttr,↓vpre,zp,h1,if_false,hc]
 refine⟨by omega,by omega,?_⟩
 refine .inl ⟨_,wc,by simp only [uptoL,AVal.upto,zt],later_intro ?_⟩
 refine za0 ?_
 refine awp_ret ?_
 simp -dsimp only [simprocAttr,↓vpre,zp,zr,Try.results121]
 simp [uptoL,AVal.upto]
theorem mod_spec(a b:Int)(ha:isW a)(hb:isW b)(h0:b≠0):PCall Try.prog 122 [aI a,aI b] (.tup [aI (a.tmod b),aI 0]):=by
 have q:=tmod_range (a:=a) hb h0
 unfold isW at q
 have wa:=wrap_spec a (by unfold isW at ha;omega) (by unfold isW at ha;omega)
 have wb:=wrap_spec b (by unfold isW at hb;omega) (by unfold isW at hb;omega)
 rw [wrapW_of ha] at wa
 rw [wrapW_of hb] at wb
 have h1:(b=0)=False:=by simpa using h0
 generalize hc:a.tmod b=c at *
 refine zf true 0 Try.func122 Try.ntmps122 ?_
 dsimp only [Tmp,TypeId,slotsOf]
 refine zh1 (za0 ?_)
 refine zh2 ?_
 refine .inl ⟨_,wb,by simp only [uptoL,AVal.upto,zt],later_intro ?_⟩
 simp -dsimp only [simprocAttr,↓vpre,zp,h0]
 refine za0 ?_
 refine zu0 rfl ?_
 refine zb0 ?_
 refine zh1 ?_
 refine .inl ⟨_,wa,by simp only [uptoL,AVal.upto,zt],later_intro ?_⟩
 refine .inl ⟨_,wb,by simp only [uptoL,AVal.upto,zt],later_intro ?_⟩
 simp -dsimp only [simprocAttr,↓vpre,zp,h1,if_false,hc]
 refine⟨by omega,by omega,?_⟩
 refine za0 ?_
 refine awp_ret ?_
 simp -dsimp only [simprocAttr,↓vpre,zp,zr,Try.results122]
 simp [uptoL,AVal.upto]
structure Bs where
 a:Nat
 b:Nat
 deriving DecidableEq
namespace Bs
def enc(s:Bs):AVal:=.agg [.v (.int .u64 s.a),.v (.int .u64 s.b)]
def fit(s:Bs):Prop:=s.a<2 ^ 64∧s.b<2 ^ 64
def has(s:Bs)(k:Nat):Bool:=if k<64 then s.a.testBit k else s.b.testBit (k - 64)
def add(s:Bs)(k:Nat):Bs:=if k<64 then ⟨s.a ||| 1 <<< k,s.b⟩ else ⟨s.a,s.b ||| 1 <<< (k - 64)⟩
def meet(s t:Bs):Bs:=⟨s.a&&& t.a,s.b&&& t.b⟩
def none:Bs:=⟨0,0⟩
theorem enc_share(s:Bs):s.enc.share=s.enc:=rfl
theorem enc_flat(s:Bs):s.enc.flat:=trivial
theorem enc_cells(s:Bs):s.enc.cells=[.v (.int .u64 s.a),.v (.int .u64 s.b)]:=rfl
theorem enc_upto(n:Nat)(s:Bs):s.enc.upto n:=⟨trivial,trivial,trivial⟩
end Bs
theorem wrap_u64{n:Nat}(h:n<2 ^ 64):IntKind.u64.wrap (n:Int)=(n:Int):=by
 rw [wrap_in .u64 _ (by simp [IntKind.min,IntKind.signed]) (by simp [IntKind.max,IntKind.bits,IntKind.signed];omega)]
theorem and_u64{m n:Nat}(hm:m<2 ^ 64)(hn:n<2 ^ 64):bitsOf .u64 (fun x y=>x&&& y) (m:Int) (n:Int)=((m&&& n:Nat):Int):=by
 have h:(BitVec.ofInt 64 (m:Int)&&& BitVec.ofInt 64 (n:Int)).toNat=m&&& n:=by
  rw [BitVec.toNat_and,BitVec.toNat_ofInt,BitVec.toNat_ofInt]
  congr 1<;>omega
 show IntKind.u64.wrap (((BitVec.ofInt 64 (m:Int)&&& BitVec.ofInt 64 (n:Int)).toNat:Nat):Int)=_
 rw [h]
 exact wrap_u64 (Nat.lt_of_le_of_lt Nat.and_le_left hm)
theorem or_u64{m n:Nat}(hm:m<2 ^ 64)(hn:n<2 ^ 64):bitsOf .u64 (fun x y=>x ||| y) (m:Int) (n:Int)=((m ||| n:Nat):Int):=by
 have h:(BitVec.ofInt 64 (m:Int) ||| BitVec.ofInt 64 (n:Int)).toNat=m ||| n:=by
  rw [BitVec.toNat_or,BitVec.toNat_ofInt,BitVec.toNat_ofInt]
  congr 1<;>omega
 show IntKind.u64.wrap (((BitVec.ofInt 64 (m:Int) ||| BitVec.ofInt 64 (n:Int)).toNat:Nat):Int)=_
 rw [h]
 exact wrap_u64 (Nat.or_lt_two_pow hm hn)
theorem shr_u64(m k:Nat)(hk:k<64):shiftInt .u64 .shr (m:Int) (k:Int)=((m >>> k:Nat):Int):=by
 simp only [shiftInt,Int.toNat_natCast,IntKind.bits]
 rw [Nat.min_eq_left (by omega),Nat.shiftRight_eq_div_pow,Int.fdiv_eq_ediv_of_nonneg _ (by exact Int.le_of_lt (Int.pow_pos (by omega)))]
 simp
theorem shl_u64(k:Nat)(hk:k<64):shiftInt .u64 .shl 1 (k:Int)=((1 <<< k:Nat):Int):=by
 simp only [shiftInt,Int.toNat_natCast,IntKind.bits]
 have hlt:1 <<< k<2 ^ 64:=by
  rw [Nat.one_shiftLeft]
  exact Nat.pow_lt_pow_right (by omega) hk
 have he:(1:Int) * (2:Int) ^ k=((1 <<< k:Nat):Int):=by
  rw [Nat.one_shiftLeft]
  simp
 rw [Nat.min_eq_left (by omega),he]
 exact wrap_u64 hlt
theorem bit_iff(m k:Nat):decide (((m >>> k&&& 1:Nat):Int)=1)=m.testBit k:=by
 rw [Nat.testBit_eq_decide_div_mod_eq,Nat.and_one_is_mod,Nat.shiftRight_eq_div_pow]
 congr 1
 apply propext
 omega
theorem shr_lt{m k:Nat}(h:m<2 ^ 64):m >>> k<2 ^ 64:=by
 rw [Nat.shiftRight_eq_div_pow]
 exact Nat.lt_of_le_of_lt (Nat.div_le_self _ _) h
theorem quo64{k:Nat}:(k:Int).tdiv 64=((k / 64:Nat):Int):=by
 rw [Int.tdiv_eq_ediv_of_nonneg (by omega)]
 omega
theorem rem64{k:Nat}:(k:Int).tmod 64=((k % 64:Nat):Int):=by
 rw [Int.tmod_eq_emod_of_nonneg (by omega)]
 omega
theorem one_cast:((1:Nat):Int)=1:=rfl
theorem has_spec(s:Bs)(hs:s.fit)(k:Nat)(hk:k<128):PCall Try.prog 80 [s.enc,aI k] (.v (.bool (s.has k))):=by
 obtain⟨ha,hb⟩:=hs
 have z64:((64:Int)=0)=False:=by simp
 have hmod:k % 64<64:=Nat.mod_lt _ (by omega)
 have q1:=quo64 (k:=k)
 have q2:=rem64 (k:=k)
 obtain⟨x,hx,hxe⟩:∃x:Nat,x<2 ^ 64∧x=if k<64 then s.a else s.b:=by
  split
  ·exact⟨_,ha,rfl⟩
  exact⟨_,hb,rfl⟩
 have hr:s.has k=x.testBit (k % 64):=by
  rw [hxe]
  unfold Bs.has
  split
  ·rw [Nat.mod_eq_of_lt (by assumption)]
  rw [show k % 64=k - 64 by omega]
 have e1:=shr_u64 x (k % 64) hmod
 have hsl:=shr_lt (k:=k % 64) hx
 have e2:=and_u64 (m:=x >>> (k % 64)) (n:=1) hsl (by omega)
 have e3:=bit_iff x (k % 64)
 rw [one_cast] at e2
 have hal:x >>> (k % 64)&&& 1≤1:=Nat.and_le_right
 rw [hr,←e3]
 generalize hy:x >>> (k % 64)=y at *
 generalize hw:y&&& 1=w at *
 rcases (show k / 64=0∧x=s.a∨k / 64=1∧x=s.b by
  by_cases h:k<64
  ·exact .inl ⟨by omega,by rw [hxe,if_pos h]⟩
  exact .inr ⟨by omega,by rw [hxe,if_neg h]⟩) with⟨hq,hxs⟩ | ⟨hq,hxs⟩
 all_goals
  rw [hq] at q1
  subst hxs
  refine zf true 0 Try.func80 Try.ntmps80 ?_
  dsimp only [Tmp,TypeId,slotsOf]
  refine zg1 ?_
  simp -dsimp only [simprocAttr,↓vpre,zp,Bs.enc_cells,Bs.enc_flat]
  refine za0 ?_
  refine zg1 ?_
  simp -dsimp only [simprocAttr,↓vpre,zp,q1,q2,z64,if_false,e1,e2]
  repeat(refine⟨by omega,?_⟩)
  refine za0 ?_
  refine awp_ret ?_
  simp -dsimp only [simprocAttr,↓vpre,zp,zr,Try.results80]
theorem both_spec(s t:Bs)(hs:s.fit)(ht:t.fit):PCall Try.prog 104 [s.enc,t.enc] (s.meet t).enc:=by
 obtain⟨ha,hb⟩:=hs
 obtain⟨hc,hd⟩:=ht
 have e1:=and_u64 ha hc
 have e2:=and_u64 hb hd
 have l1:s.a&&& t.a<2 ^ 64:=Nat.lt_of_le_of_lt Nat.and_le_left ha
 have l2:s.b&&& t.b<2 ^ 64:=Nat.lt_of_le_of_lt Nat.and_le_left hb
 unfold Bs.meet
 generalize s.a&&& t.a=p at *
 generalize s.b&&& t.b=q at *
 refine zf true 0 Try.func104 Try.ntmps104 ?_
 dsimp only [Tmp,TypeId,slotsOf]
 refine zg1 ?_
 simp -dsimp only [simprocAttr,↓vpre,zp,Bs.enc_cells,Bs.enc_flat]
 refine za0 ?_
 refine zg1 ?_
 simp -dsimp only [simprocAttr,↓vpre,zp,e1,e2]
 repeat(refine⟨by omega,?_⟩)
 refine za0 ?_
 refine awp_ret ?_
 simp -dsimp only [simprocAttr,↓vpre,zp,zr,Try.results104]
 exact⟨⟨trivial,trivial,trivial⟩,rfl⟩
theorem with_spec(s:Bs)(hs:s.fit)(k:Nat)(hk:k<128):PCall Try.prog 103 [s.enc,aI k] (s.add k).enc:=by
 obtain⟨ha,hb⟩:=hs
 have z64:((64:Int)=0)=False:=by simp
 have hmod:k % 64<64:=Nat.mod_lt _ (by omega)
 have q1:=quo64 (k:=k)
 have q2:=rem64 (k:=k)
 have e1:=shl_u64 (k % 64) hmod
 have hlt:1 <<< (k % 64)<2 ^ 64:=by
  rw [Nat.one_shiftLeft]
  exact Nat.pow_lt_pow_right (by omega) hmod
 rcases (show k<64∨64≤k by omega) with h | h
 ·have hq:k / 64=0:=by omega
  have hr:s.add k=⟨s.a ||| 1 <<< (k % 64),s.b⟩:=by
   simp [Bs.add,h,Nat.mod_eq_of_lt h]
  have e2:=or_u64 ha hlt
  have l1:s.a ||| 1 <<< (k % 64)<2 ^ 64:=Nat.or_lt_two_pow ha hlt
  rw [hr]
  rw [hq] at q1
  generalize hy:1 <<< (k % 64)=y at *
  generalize hw:s.a ||| y=w at *
  refine zf true 0 Try.func103 Try.ntmps103 ?_
  dsimp only [Tmp,TypeId,slotsOf]
  refine zg1 ?_
  simp -dsimp only [simprocAttr,↓vpre,zp,Bs.enc_cells,Bs.enc_flat]
  refine za0 ?_
  refine zg1 ?_
  simp -dsimp only [simprocAttr,↓vpre,zp,q1,q2,z64,if_false,e1,e2]
  repeat(refine⟨by omega,?_⟩)
  refine⟨ob (by kernel_rfl),?_⟩
  refine za0 ?_
  refine zh1 (za0 ?_)
  refine awp_ret ?_
  simp -dsimp only [simprocAttr,↓vpre,zp,zr,Try.results103]
  exact⟨⟨trivial,trivial,trivial⟩,rfl⟩
 have hq:k / 64=1:=by omega
 have hr:s.add k=⟨s.a,s.b ||| 1 <<< (k % 64)⟩:=by
  have hne:¬k<64:=by omega
  simp [Bs.add,hne,show k % 64=k - 64 by omega]
 have e2:=or_u64 hb hlt
 have l1:s.b ||| 1 <<< (k % 64)<2 ^ 64:=Nat.or_lt_two_pow hb hlt
 rw [hr]
 rw [hq] at q1
 generalize hy:1 <<< (k % 64)=y at *
 generalize hw:s.b ||| y=w at *
 refine zf true 0 Try.func103 Try.ntmps103 ?_
 dsimp only [Tmp,TypeId,slotsOf]
 refine zg1 ?_
 simp -dsimp only [simprocAttr,↓vpre,zp,Bs.enc_cells,Bs.enc_flat]
 refine za0 ?_
 refine zg1 ?_
 simp -dsimp only [simprocAttr,↓vpre,zp,q1,q2,z64,if_false,e1,e2]
 repeat(refine⟨by omega,?_⟩)
 refine⟨ob (by kernel_rfl),?_⟩
 refine za0 ?_
 refine zh1 (za0 ?_)
 refine awp_ret ?_
 simp -dsimp only [simprocAttr,↓vpre,zp,zr,Try.results103]
 exact⟨⟨trivial,trivial,trivial⟩,rfl⟩
namespace Bs
theorem has_meet(s t:Bs)(k:Nat):(s.meet t).has k=(s.has k&&t.has k):=by
 unfold has meet
 split<;>simp [Nat.testBit_and]
theorem has_add(s:Bs)(j k:Nat)(hj:j<128)(hk:k<128):(s.add j).has k=(s.has k || decide (k=j)):=by
 unfold has add
 by_cases h1:j<64<;>by_cases h2:k<64
 ·simp only [h1,h2,if_true,Nat.testBit_or,Nat.one_shiftLeft,Nat.testBit_two_pow]
  congr 1
  apply decide_eq_decide.2
  omega
 ·simp only [h1,h2,if_true,if_false]
  have:¬k=j:=by omega
  simp [this]
 ·simp only [h1,h2,if_true,if_false]
  have:¬k=j:=by omega
  simp [this]
 simp only [h1,h2,if_false,Nat.testBit_or,Nat.one_shiftLeft,Nat.testBit_two_pow]
 congr 1
 apply decide_eq_decide.2
 omega
theorem fit_meet{s t:Bs}(h:s.fit):(s.meet t).fit:=⟨Nat.lt_of_le_of_lt Nat.and_le_left h.1,Nat.lt_of_le_of_lt Nat.and_le_left h.2⟩
theorem fit_add{s:Bs}(h:s.fit){k:Nat}(hk:k<128):(s.add k).fit:=by
 unfold add
 split
 ·refine⟨Nat.or_lt_two_pow h.1 ?_,h.2⟩
  rw [Nat.one_shiftLeft]
  exact Nat.pow_lt_pow_right (by omega) (by assumption)
 refine⟨h.1,Nat.or_lt_two_pow h.2 ?_⟩
 rw [Nat.one_shiftLeft]
 exact Nat.pow_lt_pow_right (by omega) (by omega)
theorem fit_none:none.fit:=⟨by decide,by decide⟩
theorem ext{s t:Bs}(hs:s.fit)(ht:t.fit)(h:∀k,k<128→s.has k=t.has k):s=t:=by
 obtain⟨a,b⟩:=s
 obtain⟨c,d⟩:=t
 obtain⟨s1,s2⟩:=hs
 obtain⟨t1,t2⟩:=ht
 simp only at s1 s2 t1 t2
 have hlt:∀{m k:Nat},m<2 ^ 64→64≤k→m.testBit k=false:=fun hm hk=>Nat.testBit_lt_two_pow (Nat.lt_of_lt_of_le hm (Nat.pow_le_pow_right (by omega) hk))
 congr 1
 ·apply Nat.eq_of_testBit_eq
  intro k
  by_cases hk:k<64
  ·have:=h k (by omega)
   simpa [has,hk] using this
  rw [hlt s1 (by omega),hlt t1 (by omega)]
 apply Nat.eq_of_testBit_eq
 intro k
 by_cases hk:k<64
 ·have:=h (k+64) (by omega)
  simpa [has,show ¬k+64<64 by omega] using this
 rw [hlt s2 (by omega),hlt t2 (by omega)]
def size(s:Bs):Nat:=(List.range 128).countP s.has
theorem countP_le{p q:Nat→Bool}(h:∀k,k<128→p k=true→q k=true):∀n≤128,(List.range n).countP p≤(List.range n).countP q
 | 0,_=>by simp
 | n+1,hn=>by
  have ih:=countP_le h n (by omega)
  rw [List.range_succ,List.countP_append,List.countP_append]
  have:[n].countP p≤[n].countP q:=by
   simp only [List.countP_singleton]
   by_cases hp:p n=true
   ·simp [hp,h n (by omega) hp]
   simp [hp]
  omega
theorem countP_lt{p q:Nat→Bool}(h:∀k,k<128→p k=true→q k=true){j:Nat}(hq:q j=true)(hp:p j=false):∀n≤128,j<n→(List.range n).countP p<(List.range n).countP q
 | 0,_,hj=>by omega
 | n+1,hn,hj=>by
  rw [List.range_succ,List.countP_append,List.countP_append]
  by_cases e:j=n
  ·subst e
   have:=countP_le h j (by omega)
   simp only [List.countP_singleton,hq,hp]
   simp
   omega
  have ih:=countP_lt h hq hp n (by omega) (by omega)
  have:[n].countP p≤[n].countP q:=by
   simp only [List.countP_singleton]
   by_cases hpn:p n=true
   ·simp [hpn,h n (by omega) hpn]
   simp [hpn]
  omega
theorem size_lt{s t:Bs}(hs:s.fit)(ht:t.fit)(h:∀k,k<128→s.has k=true→t.has k=true)(hne:s≠t):s.size<t.size:=by
 by_cases hall:∀k,k<128→t.has k=true→s.has k=true
 ·exfalso
  apply hne
  apply ext hs ht
  intro k hk
  cases h1:s.has k<;>cases h2:t.has k
  ·rfl
  ·exact absurd (hall k hk h2) (by simp [h1])
  ·exact absurd (h k hk h1) (by simp [h2])
  rfl
 obtain⟨j,hj,h2,h1⟩:∃j,j<128∧t.has j=true∧¬s.has j=true:=by
  refine Classical.byContradiction fun q=>hall fun k hk h2=>?_
  refine Classical.byContradiction fun h1=>q ⟨k,hk,h2,h1⟩
 exact countP_lt h h2 (by simpa using h1) 128 (Nat.le_refl _) hj
theorem size_le_all(s:Bs):s.size≤128:=by
 have:=List.countP_le_length (p:=s.has) (l:=List.range 128)
 simpa [size] using this
end Bs
structure Ds where
 over:List Bs
 seen:Bs
 again:Bool
def Ds.at_(S:Ds)(k:Nat):Bs:=S.over[k]?.getD .none
def domE(k:Nat)(S:Ds)(e:Edge):Ds :=
 let next:=((S.at_ e.block.toNat).meet (S.at_ k)).add e.block.toNat
 if next≠S.at_ e.block.toNat∨S.seen.has e.block.toNat=false then ⟨S.over.set e.block.toNat next,S.seen.add e.block.toNat,true⟩ else S
def domB(k:Nat)(S:Ds)(b:Block):Ds:=if S.seen.has k=false then S else b.term.to.foldl (domE k) S
def domR:Nat→Ds→List Block→Ds
 | _,S,[]=>S
 | k,S,b::r=>domR (k+1) (domB k S b) r
def domI(f:Func):Nat→Ds→Ds
 | 0,S=>S
 | n+1,S=>if S.again then domI f n (domR 0 ⟨S.over,S.seen,false⟩ f.blocks) else S
def allB:Nat→Bs
 | 0=>.none
 | n+1=>(allB n).add n
def domS(f:Func):Ds:=⟨(List.replicate f.blocks.length (allB f.blocks.length)).set 0 (Bs.none.add 0),Bs.none.add 0,true⟩
def domM(f:Func):List Bs×Bs:=((domI f 20000 (domS f)).over,(domI f 20000 (domS f)).seen)
structure DsOK(n:Nat)(S:Ds):Prop where
 few:n≤128
 len:S.over.length=n
 fit:∀s∈S.over,s.fit
 seen:S.seen.fit
 self:∀k,k<n→(S.at_ k).has k=true
def Ds.weight(S:Ds):Nat:=(S.over.map Bs.size).sum+(128 - S.seen.size)
theorem DsOK.at_fit{n:Nat}{S:Ds}(h:DsOK n S)(k:Nat):(S.at_ k).fit:=by
 unfold Ds.at_
 cases hk:S.over[k]? with
 | none=>exact Bs.fit_none
 | some s=>exact h.fit s (List.mem_of_getElem? hk)
theorem sum_set{l:List Nat}{k x y:Nat}(h:l[k]?=some y):(l.set k x).sum+y=l.sum+x:=by
 induction l generalizing k with
 | nil=>simp at h
 | cons a r ih =>
  cases k with
  | zero =>
   simp only [List.getElem?_cons_zero,Option.some.injEq] at h
   simp only [List.set_cons_zero,List.sum_cons]
   omega
  | succ k =>
   have:=ih (k:=k) (by simpa using h)
   simp only [List.set_cons_succ,List.sum_cons]
   omega
theorem domE_ok{n:Nat}{S:Ds}(h:DsOK n S){k:Nat}{e:Edge}(he0:0≤e.block)(he1:e.block.toNat<n):DsOK n (domE k S e)∧(domE k S e).weight≤S.weight∧((domE k S e).again=true→S.again=true∨(domE k S e).weight<S.weight):=by
 have hj:e.block.toNat<128:=Nat.lt_of_lt_of_le he1 h.few
 unfold domE
 simp only
 generalize e.block.toNat=j at *
 have hfj:=h.at_fit j
 have hfn:(((S.at_ j).meet (S.at_ k)).add j).fit:=Bs.fit_add (Bs.fit_meet hfj) hj
 have hsub:∀i,i<128→(((S.at_ j).meet (S.at_ k)).add j).has i=true→(S.at_ j).has i=true:=fun i hi q=>by
  rw [Bs.has_add _ _ _ hj hi,Bs.has_meet] at q
  by_cases e:i=j
  ·subst e
   exact h.self i he1
  simp [e] at q
  exact q.1
 have hat:S.over[j]?=some (S.at_ j):=by
  have:j<S.over.length:=by rw [h.len];exact he1
  simp [Ds.at_,this]
 split
 ·rename_i hc
  refine⟨⟨h.few,by simp [h.len],fun s hs=>?_,Bs.fit_add h.seen hj,fun i hi=>?_⟩,?_⟩
  ·rcases List.mem_or_eq_of_mem_set hs with q | q
   ·exact h.fit s q
   rw [q]
   exact hfn
  ·unfold Ds.at_
   by_cases e:i=j
   ·subst e
    rw [List.getElem?_set_self (by rw [h.len];exact hi)]
    simp only [Option.getD_some]
    rw [Bs.has_add _ _ _ hj hj]
    simp
   rw [List.getElem?_set_ne (Ne.symm e)]
   exact h.self i hi
  have hw1:=sum_set (l:=S.over.map Bs.size) (k:=j) (x:=(((S.at_ j).meet (S.at_ k)).add j).size) (y:=(S.at_ j).size) (by simp [hat])
  rw [←List.map_set] at hw1
  have hle:(((S.at_ j).meet (S.at_ k)).add j).size≤(S.at_ j).size:=Bs.countP_le hsub 128 (Nat.le_refl _)
  have hsl:S.seen.size≤(S.seen.add j).size:=Bs.countP_le (fun i hi q=>by rw [Bs.has_add _ _ _ hj hi,q];rfl) 128 (Nat.le_refl _)
  have ha:=Bs.size_le_all (S.seen.add j)
  have hlt:(((S.at_ j).meet (S.at_ k)).add j).size<(S.at_ j).size∨S.seen.size<(S.seen.add j).size:=by
   rcases hc with hc | hc
   ·exact .inl (Bs.size_lt hfn hfj hsub hc)
   refine .inr (Bs.countP_lt (fun i hi q=>by rw [Bs.has_add _ _ _ hj hi,q];rfl) (j:=j) ?_ hc 128 (Nat.le_refl _) hj)
   rw [Bs.has_add _ _ _ hj hj]
   simp
  simp only [Ds.weight]
  refine⟨by omega,fun _=>.inr (by omega)⟩
 exact⟨h,Nat.le_refl _,fun q=>.inl q⟩
theorem domF_ok{n:Nat}{k:Nat}:∀(l:List Edge) {S:Ds},DsOK n S→(∀e∈l,0≤e.block∧e.block.toNat<n)→DsOK n (l.foldl (domE k) S)∧(l.foldl (domE k) S).weight≤S.weight∧((l.foldl (domE k) S).again=true→S.again=true∨(l.foldl (domE k) S).weight<S.weight)
 | [],S,h,_=>⟨h,Nat.le_refl _,fun q=>.inl q⟩
 | e::r,S,h,he=>by
  obtain⟨a1,a2,a3⟩:=domE_ok (k:=k) h (he e (by simp)).1 (he e (by simp)).2
  obtain⟨b1,b2,b3⟩:=domF_ok r a1 (fun x hx=>he x (by simp [hx]))
  simp only [List.foldl_cons]
  refine⟨b1,by omega,fun q=>?_⟩
  rcases b3 q with q | q
  ·rcases a3 q with q | q
   ·exact .inl q
   exact .inr (by omega)
  exact .inr (by omega)
theorem domB_ok{n:Nat}{k:Nat}{b:Block}{S:Ds}(h:DsOK n S)(he:∀e∈b.term.to,0≤e.block∧e.block.toNat<n):DsOK n (domB k S b)∧(domB k S b).weight≤S.weight∧((domB k S b).again=true→S.again=true∨(domB k S b).weight<S.weight):=by
 unfold domB
 split
 ·exact⟨h,Nat.le_refl _,fun q=>.inl q⟩
 exact domF_ok _ h he
theorem domR_ok{n:Nat}:∀(l:List Block) {k:Nat} {S:Ds},DsOK n S→(∀b∈l,∀e∈b.term.to,0≤e.block∧e.block.toNat<n)→DsOK n (domR k S l)∧(domR k S l).weight≤S.weight∧((domR k S l).again=true→S.again=true∨(domR k S l).weight<S.weight)
 | [],k,S,h,_=>⟨h,Nat.le_refl _,fun q=>.inl q⟩
 | b::r,k,S,h,he=>by
  obtain⟨a1,a2,a3⟩:=domB_ok (k:=k) h (he b (by simp))
  obtain⟨b1,b2,b3⟩:=domR_ok r (k:=k+1) a1 (fun x hx=>he x (by simp [hx]))
  simp only [domR]
  refine⟨b1,by omega,fun q=>?_⟩
  rcases b3 q with q | q
  ·rcases a3 q with q | q
   ·exact .inl q
   exact .inr (by omega)
  exact .inr (by omega)
instance (n:Int):Decidable (isW n):=by
 unfold isW
 infer_instance
theorem isWord_spec(n:Int):PCall Try.prog 86 [aI n] (.v (.bool (decide (isW n)))):=by
 have hw:=within_spec n (-1073741824) 1073741823
 refine zf true 0 Try.func86 Try.ntmps86 ?_
 dsimp only [Tmp,TypeId,slotsOf]
 refine zh1 (za0 ?_)
 refine zh1 ?_
 refine zi hw ?_
 refine za0 ?_
 refine awp_ret ?_
 simp -dsimp only [simprocAttr,↓vpre,zp,zr,Try.results86]
 simp only [within,isW]
 by_cases h1:-1073741824≤n<;>by_cases h2:n≤1073741823<;>simp [h1,h2]
def operandsM(i:Ins):Int×Bool :=
 if i.op=0 then (0,true)
 else if (1≤i.op∧i.op≤7)∨i.op=16∨i.op=18∨i.op=19∨i.op=21∨i.op=23 then (2,true)
 else if i.op=20 then (3,true)
 else if i.op=10∨i.op=11∨i.op=12∨i.op=15∨i.op=17∨i.op=24 then (1,true)
 else if i.op=8∨i.op=9∨i.op=13∨i.op=14 then (-1,true)
 else if i.op=22 then (i.n,decide (i.n=2∨i.n=4))
 else (0,false)
def numberM(i:Ins):Bool :=
 if i.op=0 then decide (isW i.n)
 else if i.op=8 then within i.n 0 255
 else if i.op=11 then within i.n 0 15
 else if i.op=9∨i.op=13 then within i.n 0 255
 else if i.op=23 then decide (i.n=1∨i.n=2∨i.n=3)
 else if i.op=24 then within i.n 0 3
 else if i.op=22 then true
 else decide (i.n=0)
theorem operands_0(i:Ins)(hop:i.op=0):PCall Try.prog 101 [i.enc] (.tup [aI (operandsM i).1,.v (.bool (operandsM i).2)]):=by
 have hr:operandsM i=(0,true):=by
  unfold operandsM
  rw [if_pos (by omega)]
 rw [hr]
 refine zf true 0 Try.func101 Try.ntmps101 ?_
 dsimp only [Tmp,TypeId,slotsOf]
 refine zh1 (za0 ?_)
 refine zh2 (za0 ?_)
 refine awp_block ?_
 refine zh1 (za0 ?_)
 apply zk0 rfl<;>intro h
 ·refine zh1 (za0 ?_)
  refine awp_ret ?_
  simp -dsimp only [simprocAttr,↓vpre,zp,zr,Try.results101]
  simp [uptoL,AVal.upto]
 exact af h (by omega)
theorem operands_1(i:Ins)(hop:(1≤i.op∧i.op≤7)∨i.op=16∨i.op=18∨i.op=19∨i.op=21∨i.op=23):PCall Try.prog 101 [i.enc] (.tup [aI (operandsM i).1,.v (.bool (operandsM i).2)]):=by
 have hr:operandsM i=(2,true):=by
  unfold operandsM
  rw [if_neg (by omega),if_pos (by omega)]
 rw [hr]
 refine zf true 0 Try.func101 Try.ntmps101 ?_
 dsimp only [Tmp,TypeId,slotsOf]
 refine zh1 (za0 ?_)
 refine zh2 (za0 ?_)
 refine awp_block ?_
 refine zh1 (za0 ?_)
 apply zk0 rfl<;>intro h
 ·exact ab h (by omega)
 refine zh2 (za0 ?_)
 refine awp_mid0 (⟨47,[(1,.mp 0 0),(2,aI 0),(3,.v (.bool false)),(5,aI i.op),(8,.v (.bool true))],[.cells [aI i.to,aI i.op,aI i.n,eIs i.args]]⟩) ?_ ?_
 ·apply zk0 rfl<;>intro h
  ·refine awp_skip ?_
   show Covers _ _
   refine zq rfl ?_ ?_
   simp -dsimp only [simprocAttr,↓vpre,zp,zc]
   ·exact Sub.of_eq (by rw [h])
   rfl
  refine zh1 (za0 ?_)
  apply zk0 rfl<;>intro h
  ·refine awp_skip ?_
   show Covers _ _
   refine zq rfl ?_ ?_
   simp -dsimp only [simprocAttr,↓vpre,zp,zc]
   ·exact Sub.of_eq (by rw [h])
   rfl
  refine zh1 (za0 ?_)
  apply zk0 rfl<;>intro h
  ·refine awp_skip ?_
   show Covers _ _
   refine zq rfl ?_ ?_
   simp -dsimp only [simprocAttr,↓vpre,zp,zc]
   ·exact Sub.of_eq (by rw [h])
   rfl
  refine zh1 (za0 ?_)
  apply zk0 rfl<;>intro h
  ·refine awp_skip ?_
   show Covers _ _
   refine zq rfl ?_ ?_
   simp -dsimp only [simprocAttr,↓vpre,zp,zc]
   ·exact Sub.of_eq (by rw [h])
   rfl
  refine zh1 (za0 ?_)
  apply zk0 rfl<;>intro h
  ·refine awp_skip ?_
   show Covers _ _
   refine zq rfl ?_ ?_
   simp -dsimp only [simprocAttr,↓vpre,zp,zc]
   ·exact Sub.of_eq (by rw [h])
   rfl
  refine zh1 (za0 ?_)
  apply zk0 rfl<;>intro h
  ·refine awp_skip ?_
   show Covers _ _
   refine zq rfl ?_ ?_
   simp -dsimp only [simprocAttr,↓vpre,zp,zc]
   ·exact Sub.of_eq (by rw [h])
   rfl
  refine zh1 (za0 ?_)
  apply zk0 rfl<;>intro h
  ·refine awp_skip ?_
   show Covers _ _
   refine zq rfl ?_ ?_
   simp -dsimp only [simprocAttr,↓vpre,zp,zc]
   ·exact Sub.of_eq (by rw [h])
   rfl
  refine zh1 (za0 ?_)
  apply zk0 rfl<;>intro h
  ·refine awp_skip ?_
   show Covers _ _
   refine zq rfl ?_ ?_
   simp -dsimp only [simprocAttr,↓vpre,zp,zc]
   ·exact Sub.of_eq (by rw [h])
   rfl
  refine zh1 (za0 ?_)
  apply zk0 rfl<;>intro h
  ·refine awp_skip ?_
   show Covers _ _
   refine zq rfl ?_ ?_
   simp -dsimp only [simprocAttr,↓vpre,zp,zc]
   ·exact Sub.of_eq (by rw [h])
   rfl
  refine zh1 (za0 ?_)
  apply zk0 rfl<;>intro h
  ·refine awp_skip ?_
   show Covers _ _
   refine zq rfl ?_ ?_
   simp -dsimp only [simprocAttr,↓vpre,zp,zc]
   ·exact Sub.of_eq (by rw [h])
   rfl
  refine zh1 (za0 ?_)
  apply zk0 rfl<;>intro h
  ·refine awp_skip ?_
   show Covers _ _
   refine zq rfl ?_ ?_
   simp -dsimp only [simprocAttr,↓vpre,zp,zc]
   ·exact Sub.of_eq (by rw [h])
   rfl
  refine zh0 ?_
  refine at_intro ?_
  show Covers _ _
  refine zq rfl ?_ ?_
  simp -dsimp only [simprocAttr,↓vpre,zp,zc]
  ·exact Sub.of_eq (by rw [decide_eq_true (show i.op=23 by simp only [decide_eq_false_iff_not] at *;omega)])
  rfl
 refine zw0 rfl ?_
 refine zh1 (za0 ?_)
 refine awp_ret ?_
 simp -dsimp only [simprocAttr,↓vpre,zp,zr,Try.results101]
 simp [uptoL,AVal.upto]
theorem operands_2(i:Ins)(hop:i.op=20):PCall Try.prog 101 [i.enc] (.tup [aI (operandsM i).1,.v (.bool (operandsM i).2)]):=by
 have hr:operandsM i=(3,true):=by
  unfold operandsM
  rw [if_neg (by omega),if_neg (by omega),if_pos (by omega)]
 rw [hr]
 refine zf true 0 Try.func101 Try.ntmps101 ?_
 dsimp only [Tmp,TypeId,slotsOf]
 refine zh1 (za0 ?_)
 refine zh2 (za0 ?_)
 refine awp_block ?_
 refine zh1 (za0 ?_)
 apply zk0 rfl<;>intro h
 ·exact ab h (by omega)
 refine zh2 (za0 ?_)
 apply zk0 rfl<;>intro h
 ·exact ab h (by omega)
 refine zh1 (za0 ?_)
 apply zk0 rfl<;>intro h
 ·exact ab h (by omega)
 refine zh1 (za0 ?_)
 apply zk0 rfl<;>intro h
 ·exact ab h (by omega)
 refine zh1 (za0 ?_)
 apply zk0 rfl<;>intro h
 ·exact ab h (by omega)
 refine zh1 (za0 ?_)
 apply zk0 rfl<;>intro h
 ·exact ab h (by omega)
 refine zh1 (za0 ?_)
 apply zk0 rfl<;>intro h
 ·exact ab h (by omega)
 refine zh1 (za0 ?_)
 apply zk0 rfl<;>intro h
 ·exact ab h (by omega)
 refine zh1 (za0 ?_)
 apply zk0 rfl<;>intro h
 ·exact ab h (by omega)
 refine zh1 (za0 ?_)
 apply zk0 rfl<;>intro h
 ·exact ab h (by omega)
 refine zh1 (za0 ?_)
 apply zk0 rfl<;>intro h
 ·exact ab h (by omega)
 refine zh1 (za0 ?_)
 apply zk0 rfl<;>intro h
 ·exact ab h (by omega)
 refine zh0 (za0 ?_)
 apply zk0 rfl<;>intro h
 ·exact ab h (by omega)
 refine zh1 (za0 ?_)
 apply zk0 rfl<;>intro h
 ·refine zh1 (za0 ?_)
  refine awp_ret ?_
  simp -dsimp only [simprocAttr,↓vpre,zp,zr,Try.results101]
  simp [uptoL,AVal.upto]
 exact af h (by omega)
theorem operands_3(i:Ins)(hop:i.op=10∨i.op=11∨i.op=12∨i.op=15∨i.op=17∨i.op=24):PCall Try.prog 101 [i.enc] (.tup [aI (operandsM i).1,.v (.bool (operandsM i).2)]):=by
 have hr:operandsM i=(1,true):=by
  unfold operandsM
  rw [if_neg (by omega),if_neg (by omega),if_neg (by omega),if_pos (by omega)]
 rw [hr]
 refine zf true 0 Try.func101 Try.ntmps101 ?_
 dsimp only [Tmp,TypeId,slotsOf]
 refine zh1 (za0 ?_)
 refine zh2 (za0 ?_)
 refine awp_block ?_
 refine zh1 (za0 ?_)
 apply zk0 rfl<;>intro h
 ·exact ab h (by omega)
 refine zh2 (za0 ?_)
 apply zk0 rfl<;>intro h
 ·exact ab h (by omega)
 refine zh1 (za0 ?_)
 apply zk0 rfl<;>intro h
 ·exact ab h (by omega)
 refine zh1 (za0 ?_)
 apply zk0 rfl<;>intro h
 ·exact ab h (by omega)
 refine zh1 (za0 ?_)
 apply zk0 rfl<;>intro h
 ·exact ab h (by omega)
 refine zh1 (za0 ?_)
 apply zk0 rfl<;>intro h
 ·exact ab h (by omega)
 refine zh1 (za0 ?_)
 apply zk0 rfl<;>intro h
 ·exact ab h (by omega)
 refine zh1 (za0 ?_)
 apply zk0 rfl<;>intro h
 ·exact ab h (by omega)
 refine zh1 (za0 ?_)
 apply zk0 rfl<;>intro h
 ·exact ab h (by omega)
 refine zh1 (za0 ?_)
 apply zk0 rfl<;>intro h
 ·exact ab h (by omega)
 refine zh1 (za0 ?_)
 apply zk0 rfl<;>intro h
 ·exact ab h (by omega)
 refine zh1 (za0 ?_)
 apply zk0 rfl<;>intro h
 ·exact ab h (by omega)
 refine zh0 (za0 ?_)
 apply zk0 rfl<;>intro h
 ·exact ab h (by omega)
 refine zh1 (za0 ?_)
 apply zk0 rfl<;>intro h
 ·exact ab h (by omega)
 refine zh2 (za0 ?_)
 refine awp_mid0 (⟨47,[(1,.mp 0 0),(2,aI 0),(3,.v (.bool false)),(5,aI i.op),(23,.v (.bool true))],[.cells [aI i.to,aI i.op,aI i.n,eIs i.args]]⟩) ?_ ?_
 ·apply zk0 rfl<;>intro h
  ·refine awp_skip ?_
   show Covers _ _
   refine zq rfl ?_ ?_
   simp -dsimp only [simprocAttr,↓vpre,zp,zc]
   ·exact Sub.of_eq (by rw [h])
   rfl
  refine zh1 (za0 ?_)
  apply zk0 rfl<;>intro h
  ·refine awp_skip ?_
   show Covers _ _
   refine zq rfl ?_ ?_
   simp -dsimp only [simprocAttr,↓vpre,zp,zc]
   ·exact Sub.of_eq (by rw [h])
   rfl
  refine zh1 (za0 ?_)
  apply zk0 rfl<;>intro h
  ·refine awp_skip ?_
   show Covers _ _
   refine zq rfl ?_ ?_
   simp -dsimp only [simprocAttr,↓vpre,zp,zc]
   ·exact Sub.of_eq (by rw [h])
   rfl
  refine zh1 (za0 ?_)
  apply zk0 rfl<;>intro h
  ·refine awp_skip ?_
   show Covers _ _
   refine zq rfl ?_ ?_
   simp -dsimp only [simprocAttr,↓vpre,zp,zc]
   ·exact Sub.of_eq (by rw [h])
   rfl
  refine zh1 (za0 ?_)
  apply zk0 rfl<;>intro h
  ·refine awp_skip ?_
   show Covers _ _
   refine zq rfl ?_ ?_
   simp -dsimp only [simprocAttr,↓vpre,zp,zc]
   ·exact Sub.of_eq (by rw [h])
   rfl
  refine zh0 ?_
  refine at_intro ?_
  show Covers _ _
  refine zq rfl ?_ ?_
  simp -dsimp only [simprocAttr,↓vpre,zp,zc]
  ·exact Sub.of_eq (by rw [decide_eq_true (show i.op=24 by simp only [decide_eq_false_iff_not] at *;omega)])
  rfl
 refine zw0 rfl ?_
 refine zh1 (za0 ?_)
 refine awp_ret ?_
 simp -dsimp only [simprocAttr,↓vpre,zp,zr,Try.results101]
 simp [uptoL,AVal.upto]
theorem operands_4(i:Ins)(hop:i.op=8∨i.op=9∨i.op=13∨i.op=14):PCall Try.prog 101 [i.enc] (.tup [aI (operandsM i).1,.v (.bool (operandsM i).2)]):=by
 have hr:operandsM i=(-1,true):=by
  unfold operandsM
  rw [if_neg (by omega),if_neg (by omega),if_neg (by omega),if_neg (by omega),if_pos (by omega)]
 rw [hr]
 refine zf true 0 Try.func101 Try.ntmps101 ?_
 dsimp only [Tmp,TypeId,slotsOf]
 refine zh1 (za0 ?_)
 refine zh2 (za0 ?_)
 refine awp_block ?_
 refine zh1 (za0 ?_)
 apply zk0 rfl<;>intro h
 ·exact ab h (by omega)
 refine zh2 (za0 ?_)
 apply zk0 rfl<;>intro h
 ·exact ab h (by omega)
 refine zh1 (za0 ?_)
 apply zk0 rfl<;>intro h
 ·exact ab h (by omega)
 refine zh1 (za0 ?_)
 apply zk0 rfl<;>intro h
 ·exact ab h (by omega)
 refine zh1 (za0 ?_)
 apply zk0 rfl<;>intro h
 ·exact ab h (by omega)
 refine zh1 (za0 ?_)
 apply zk0 rfl<;>intro h
 ·exact ab h (by omega)
 refine zh1 (za0 ?_)
 apply zk0 rfl<;>intro h
 ·exact ab h (by omega)
 refine zh1 (za0 ?_)
 apply zk0 rfl<;>intro h
 ·exact ab h (by omega)
 refine zh1 (za0 ?_)
 apply zk0 rfl<;>intro h
 ·exact ab h (by omega)
 refine zh1 (za0 ?_)
 apply zk0 rfl<;>intro h
 ·exact ab h (by omega)
 refine zh1 (za0 ?_)
 apply zk0 rfl<;>intro h
 ·exact ab h (by omega)
 refine zh1 (za0 ?_)
 apply zk0 rfl<;>intro h
 ·exact ab h (by omega)
 refine zh0 (za0 ?_)
 apply zk0 rfl<;>intro h
 ·exact ab h (by omega)
 refine zh1 (za0 ?_)
 apply zk0 rfl<;>intro h
 ·exact ab h (by omega)
 refine zh2 (za0 ?_)
 apply zk0 rfl<;>intro h
 ·exact ab h (by omega)
 refine zh1 (za0 ?_)
 apply zk0 rfl<;>intro h
 ·exact ab h (by omega)
 refine zh1 (za0 ?_)
 apply zk0 rfl<;>intro h
 ·exact ab h (by omega)
 refine zh1 (za0 ?_)
 apply zk0 rfl<;>intro h
 ·exact ab h (by omega)
 refine zh1 (za0 ?_)
 apply zk0 rfl<;>intro h
 ·exact ab h (by omega)
 refine zh0 (za0 ?_)
 apply zk0 rfl<;>intro h
 ·exact ab h (by omega)
 refine zh2 (za0 ?_)
 refine awp_mid0 (⟨47,[(1,.mp 0 0),(2,aI 0),(3,.v (.bool false)),(5,aI i.op),(30,.v (.bool true))],[.cells [aI i.to,aI i.op,aI i.n,eIs i.args]]⟩) ?_ ?_
 ·apply zk0 rfl<;>intro h
  ·refine awp_skip ?_
   show Covers _ _
   refine zq rfl ?_ ?_
   simp -dsimp only [simprocAttr,↓vpre,zp,zc]
   ·exact Sub.of_eq (by rw [h])
   rfl
  refine zh1 (za0 ?_)
  apply zk0 rfl<;>intro h
  ·refine awp_skip ?_
   show Covers _ _
   refine zq rfl ?_ ?_
   simp -dsimp only [simprocAttr,↓vpre,zp,zc]
   ·exact Sub.of_eq (by rw [h])
   rfl
  refine zh1 (za0 ?_)
  apply zk0 rfl<;>intro h
  ·refine awp_skip ?_
   show Covers _ _
   refine zq rfl ?_ ?_
   simp -dsimp only [simprocAttr,↓vpre,zp,zc]
   ·exact Sub.of_eq (by rw [h])
   rfl
  refine zh0 ?_
  refine at_intro ?_
  show Covers _ _
  refine zq rfl ?_ ?_
  simp -dsimp only [simprocAttr,↓vpre,zp,zc]
  ·exact Sub.of_eq (by rw [decide_eq_true (show i.op=14 by simp only [decide_eq_false_iff_not] at *;omega)])
  rfl
 refine zw0 rfl ?_
 refine zh1 (za0 ?_)
 refine awp_ret ?_
 simp -dsimp only [simprocAttr,↓vpre,zp,zr,Try.results101]
 simp [uptoL,AVal.upto]
theorem operands_5(i:Ins)(hop:i.op=22):PCall Try.prog 101 [i.enc] (.tup [aI (operandsM i).1,.v (.bool (operandsM i).2)]):=by
 have hr:operandsM i=(i.n,decide (i.n=2∨i.n=4)):=by
  unfold operandsM
  rw [if_neg (by omega),if_neg (by omega),if_neg (by omega),if_neg (by omega),if_neg (by omega),if_pos (by omega)]
 rw [hr]
 by_cases h2:i.n=2
 ·have hd2:decide (i.n=2)=true:=decide_eq_true h2
  refine zf true 0 Try.func101 Try.ntmps101 ?_
  dsimp only [Tmp,TypeId,slotsOf]
  refine zh1 (za0 ?_)
  refine zh2 (za0 ?_)
  refine awp_block ?_
  refine zh1 (za0 ?_)
  apply zk0 rfl<;>intro h
  ·exact ab h (by omega)
  refine zh2 (za0 ?_)
  apply zk0 rfl<;>intro h
  ·exact ab h (by omega)
  refine zh1 (za0 ?_)
  apply zk0 rfl<;>intro h
  ·exact ab h (by omega)
  refine zh1 (za0 ?_)
  apply zk0 rfl<;>intro h
  ·exact ab h (by omega)
  refine zh1 (za0 ?_)
  apply zk0 rfl<;>intro h
  ·exact ab h (by omega)
  refine zh1 (za0 ?_)
  apply zk0 rfl<;>intro h
  ·exact ab h (by omega)
  refine zh1 (za0 ?_)
  apply zk0 rfl<;>intro h
  ·exact ab h (by omega)
  refine zh1 (za0 ?_)
  apply zk0 rfl<;>intro h
  ·exact ab h (by omega)
  refine zh1 (za0 ?_)
  apply zk0 rfl<;>intro h
  ·exact ab h (by omega)
  refine zh1 (za0 ?_)
  apply zk0 rfl<;>intro h
  ·exact ab h (by omega)
  refine zh1 (za0 ?_)
  apply zk0 rfl<;>intro h
  ·exact ab h (by omega)
  refine zh1 (za0 ?_)
  apply zk0 rfl<;>intro h
  ·exact ab h (by omega)
  refine zh0 (za0 ?_)
  apply zk0 rfl<;>intro h
  ·exact ab h (by omega)
  refine zh1 (za0 ?_)
  apply zk0 rfl<;>intro h
  ·exact ab h (by omega)
  refine zh2 (za0 ?_)
  apply zk0 rfl<;>intro h
  ·exact ab h (by omega)
  refine zh1 (za0 ?_)
  apply zk0 rfl<;>intro h
  ·exact ab h (by omega)
  refine zh1 (za0 ?_)
  apply zk0 rfl<;>intro h
  ·exact ab h (by omega)
  refine zh1 (za0 ?_)
  apply zk0 rfl<;>intro h
  ·exact ab h (by omega)
  refine zh1 (za0 ?_)
  apply zk0 rfl<;>intro h
  ·exact ab h (by omega)
  refine zh0 (za0 ?_)
  apply zk0 rfl<;>intro h
  ·exact ab h (by omega)
  refine zh2 (za0 ?_)
  apply zk0 rfl<;>intro h
  ·exact ab h (by omega)
  refine zh1 (za0 ?_)
  apply zk0 rfl<;>intro h
  ·exact ab h (by omega)
  refine zh1 (za0 ?_)
  apply zk0 rfl<;>intro h
  ·exact ab h (by omega)
  refine zh0 (za0 ?_)
  apply zk0 rfl<;>intro h
  ·exact ab h (by omega)
  refine zh1 (za0 ?_)
  apply zk0 rfl<;>intro h
  ·refine zg1 ?_
   simp -dsimp only [simprocAttr,↓vpre,zp,hd2]
   refine⟨ob (by kernel_rfl),?_⟩
   refine za0 ?_
   refine awp_ret ?_
   simp -dsimp only [simprocAttr,↓vpre,zp,zr,Try.results101]
   simp [uptoL,AVal.upto,h2]
  exact af h (by omega)
 have hd2:decide (i.n=2)=false:=decide_eq_false h2
 by_cases h4:i.n=4
 ·have hd4:decide (i.n=4)=true:=decide_eq_true h4
  refine zf true 0 Try.func101 Try.ntmps101 ?_
  dsimp only [Tmp,TypeId,slotsOf]
  refine zh1 (za0 ?_)
  refine zh2 (za0 ?_)
  refine awp_block ?_
  refine zh1 (za0 ?_)
  apply zk0 rfl<;>intro h
  ·exact ab h (by omega)
  refine zh2 (za0 ?_)
  apply zk0 rfl<;>intro h
  ·exact ab h (by omega)
  refine zh1 (za0 ?_)
  apply zk0 rfl<;>intro h
  ·exact ab h (by omega)
  refine zh1 (za0 ?_)
  apply zk0 rfl<;>intro h
  ·exact ab h (by omega)
  refine zh1 (za0 ?_)
  apply zk0 rfl<;>intro h
  ·exact ab h (by omega)
  refine zh1 (za0 ?_)
  apply zk0 rfl<;>intro h
  ·exact ab h (by omega)
  refine zh1 (za0 ?_)
  apply zk0 rfl<;>intro h
  ·exact ab h (by omega)
  refine zh1 (za0 ?_)
  apply zk0 rfl<;>intro h
  ·exact ab h (by omega)
  refine zh1 (za0 ?_)
  apply zk0 rfl<;>intro h
  ·exact ab h (by omega)
  refine zh1 (za0 ?_)
  apply zk0 rfl<;>intro h
  ·exact ab h (by omega)
  refine zh1 (za0 ?_)
  apply zk0 rfl<;>intro h
  ·exact ab h (by omega)
  refine zh1 (za0 ?_)
  apply zk0 rfl<;>intro h
  ·exact ab h (by omega)
  refine zh0 (za0 ?_)
  apply zk0 rfl<;>intro h
  ·exact ab h (by omega)
  refine zh1 (za0 ?_)
  apply zk0 rfl<;>intro h
  ·exact ab h (by omega)
  refine zh2 (za0 ?_)
  apply zk0 rfl<;>intro h
  ·exact ab h (by omega)
  refine zh1 (za0 ?_)
  apply zk0 rfl<;>intro h
  ·exact ab h (by omega)
  refine zh1 (za0 ?_)
  apply zk0 rfl<;>intro h
  ·exact ab h (by omega)
  refine zh1 (za0 ?_)
  apply zk0 rfl<;>intro h
  ·exact ab h (by omega)
  refine zh1 (za0 ?_)
  apply zk0 rfl<;>intro h
  ·exact ab h (by omega)
  refine zh0 (za0 ?_)
  apply zk0 rfl<;>intro h
  ·exact ab h (by omega)
  refine zh2 (za0 ?_)
  apply zk0 rfl<;>intro h
  ·exact ab h (by omega)
  refine zh1 (za0 ?_)
  apply zk0 rfl<;>intro h
  ·exact ab h (by omega)
  refine zh1 (za0 ?_)
  apply zk0 rfl<;>intro h
  ·exact ab h (by omega)
  refine zh0 (za0 ?_)
  apply zk0 rfl<;>intro h
  ·exact ab h (by omega)
  refine zh1 (za0 ?_)
  apply zk0 rfl<;>intro h
  ·refine zg1 ?_
   simp -dsimp only [simprocAttr,↓vpre,zp,hd2,hd4]
   refine⟨ob (by kernel_rfl),?_⟩
   refine za0 ?_
   refine awp_ret ?_
   simp -dsimp only [simprocAttr,↓vpre,zp,zr,Try.results101]
   simp [uptoL,AVal.upto,h4]
  exact af h (by omega)
 have hd4:decide (i.n=4)=false:=decide_eq_false h4
 refine zf true 0 Try.func101 Try.ntmps101 ?_
 dsimp only [Tmp,TypeId,slotsOf]
 refine zh1 (za0 ?_)
 refine zh2 (za0 ?_)
 refine awp_block ?_
 refine zh1 (za0 ?_)
 apply zk0 rfl<;>intro h
 ·exact ab h (by omega)
 refine zh2 (za0 ?_)
 apply zk0 rfl<;>intro h
 ·exact ab h (by omega)
 refine zh1 (za0 ?_)
 apply zk0 rfl<;>intro h
 ·exact ab h (by omega)
 refine zh1 (za0 ?_)
 apply zk0 rfl<;>intro h
 ·exact ab h (by omega)
 refine zh1 (za0 ?_)
 apply zk0 rfl<;>intro h
 ·exact ab h (by omega)
 refine zh1 (za0 ?_)
 apply zk0 rfl<;>intro h
 ·exact ab h (by omega)
 refine zh1 (za0 ?_)
 apply zk0 rfl<;>intro h
 ·exact ab h (by omega)
 refine zh1 (za0 ?_)
 apply zk0 rfl<;>intro h
 ·exact ab h (by omega)
 refine zh1 (za0 ?_)
 apply zk0 rfl<;>intro h
 ·exact ab h (by omega)
 refine zh1 (za0 ?_)
 apply zk0 rfl<;>intro h
 ·exact ab h (by omega)
 refine zh1 (za0 ?_)
 apply zk0 rfl<;>intro h
 ·exact ab h (by omega)
 refine zh1 (za0 ?_)
 apply zk0 rfl<;>intro h
 ·exact ab h (by omega)
 refine zh0 (za0 ?_)
 apply zk0 rfl<;>intro h
 ·exact ab h (by omega)
 refine zh1 (za0 ?_)
 apply zk0 rfl<;>intro h
 ·exact ab h (by omega)
 refine zh2 (za0 ?_)
 apply zk0 rfl<;>intro h
 ·exact ab h (by omega)
 refine zh1 (za0 ?_)
 apply zk0 rfl<;>intro h
 ·exact ab h (by omega)
 refine zh1 (za0 ?_)
 apply zk0 rfl<;>intro h
 ·exact ab h (by omega)
 refine zh1 (za0 ?_)
 apply zk0 rfl<;>intro h
 ·exact ab h (by omega)
 refine zh1 (za0 ?_)
 apply zk0 rfl<;>intro h
 ·exact ab h (by omega)
 refine zh0 (za0 ?_)
 apply zk0 rfl<;>intro h
 ·exact ab h (by omega)
 refine zh2 (za0 ?_)
 apply zk0 rfl<;>intro h
 ·exact ab h (by omega)
 refine zh1 (za0 ?_)
 apply zk0 rfl<;>intro h
 ·exact ab h (by omega)
 refine zh1 (za0 ?_)
 apply zk0 rfl<;>intro h
 ·exact ab h (by omega)
 refine zh0 (za0 ?_)
 apply zk0 rfl<;>intro h
 ·exact ab h (by omega)
 refine zh1 (za0 ?_)
 apply zk0 rfl<;>intro h
 ·refine zg1 ?_
  simp -dsimp only [simprocAttr,↓vpre,zp,hd2,hd4]
  refine⟨ob (by kernel_rfl),?_⟩
  refine za0 ?_
  refine awp_ret ?_
  simp -dsimp only [simprocAttr,↓vpre,zp,zr,Try.results101]
  simp [uptoL,AVal.upto,h2,h4]
 exact af h (by omega)
theorem operands_spec(i:Ins):PCall Try.prog 101 [i.enc] (.tup [aI (operandsM i).1,.v (.bool (operandsM i).2)]):=by
 by_cases h0:i.op=0
 ·exact operands_0 i h0
 by_cases h1:(1≤i.op∧i.op≤7)∨i.op=16∨i.op=18∨i.op=19∨i.op=21∨i.op=23
 ·exact operands_1 i h1
 by_cases h2:i.op=20
 ·exact operands_2 i h2
 by_cases h3:i.op=10∨i.op=11∨i.op=12∨i.op=15∨i.op=17∨i.op=24
 ·exact operands_3 i h3
 by_cases h4:i.op=8∨i.op=9∨i.op=13∨i.op=14
 ·exact operands_4 i h4
 by_cases h5:i.op=22
 ·exact operands_5 i h5
 have hr:operandsM i=(0,false):=by
  unfold operandsM
  rw [if_neg (by omega),if_neg (by omega),if_neg (by omega),if_neg (by omega),if_neg (by omega),if_neg (by omega)]
 rw [hr]
 refine zf true 0 Try.func101 Try.ntmps101 ?_
 dsimp only [Tmp,TypeId,slotsOf]
 refine zh1 (za0 ?_)
 refine zh2 (za0 ?_)
 refine awp_block ?_
 refine zh1 (za0 ?_)
 apply zk0 rfl<;>intro h
 ·exact ab h (by omega)
 refine zh2 (za0 ?_)
 apply zk0 rfl<;>intro h
 ·exact ab h (by omega)
 refine zh1 (za0 ?_)
 apply zk0 rfl<;>intro h
 ·exact ab h (by omega)
 refine zh1 (za0 ?_)
 apply zk0 rfl<;>intro h
 ·exact ab h (by omega)
 refine zh1 (za0 ?_)
 apply zk0 rfl<;>intro h
 ·exact ab h (by omega)
 refine zh1 (za0 ?_)
 apply zk0 rfl<;>intro h
 ·exact ab h (by omega)
 refine zh1 (za0 ?_)
 apply zk0 rfl<;>intro h
 ·exact ab h (by omega)
 refine zh1 (za0 ?_)
 apply zk0 rfl<;>intro h
 ·exact ab h (by omega)
 refine zh1 (za0 ?_)
 apply zk0 rfl<;>intro h
 ·exact ab h (by omega)
 refine zh1 (za0 ?_)
 apply zk0 rfl<;>intro h
 ·exact ab h (by omega)
 refine zh1 (za0 ?_)
 apply zk0 rfl<;>intro h
 ·exact ab h (by omega)
 refine zh1 (za0 ?_)
 apply zk0 rfl<;>intro h
 ·exact ab h (by omega)
 refine zh0 (za0 ?_)
 apply zk0 rfl<;>intro h
 ·exact ab h (by omega)
 refine zh1 (za0 ?_)
 apply zk0 rfl<;>intro h
 ·exact ab h (by omega)
 refine zh2 (za0 ?_)
 apply zk0 rfl<;>intro h
 ·exact ab h (by omega)
 refine zh1 (za0 ?_)
 apply zk0 rfl<;>intro h
 ·exact ab h (by omega)
 refine zh1 (za0 ?_)
 apply zk0 rfl<;>intro h
 ·exact ab h (by omega)
 refine zh1 (za0 ?_)
 apply zk0 rfl<;>intro h
 ·exact ab h (by omega)
 refine zh1 (za0 ?_)
 apply zk0 rfl<;>intro h
 ·exact ab h (by omega)
 refine zh0 (za0 ?_)
 apply zk0 rfl<;>intro h
 ·exact ab h (by omega)
 refine zh2 (za0 ?_)
 apply zk0 rfl<;>intro h
 ·exact ab h (by omega)
 refine zh1 (za0 ?_)
 apply zk0 rfl<;>intro h
 ·exact ab h (by omega)
 refine zh1 (za0 ?_)
 apply zk0 rfl<;>intro h
 ·exact ab h (by omega)
 refine zh0 (za0 ?_)
 apply zk0 rfl<;>intro h
 ·exact ab h (by omega)
 refine zh1 (za0 ?_)
 apply zk0 rfl<;>intro h
 ·exact ab h (by omega)
 refine zb1 ?_
 refine zh1 (za0 ?_)
 refine awp_ret ?_
 simp -dsimp only [simprocAttr,↓vpre,zp,zr,Try.results101]
 simp [uptoL,AVal.upto]
theorem number_0(i:Ins)(hop:i.op=0):PCall Try.prog 102 [i.enc] (.v (.bool (numberM i))):=by
 have hr:numberM i=decide (isW i.n):=by
  unfold numberM
  rw [if_pos (by omega)]
 rw [hr]
 refine zf true 0 Try.func102 Try.ntmps102 ?_
 dsimp only [Tmp,TypeId,slotsOf]
 refine zh1 (za0 ?_)
 refine zh2 (za0 ?_)
 refine awp_block ?_
 refine zh1 (za0 ?_)
 apply zk0 rfl<;>intro h
 ·refine zh1 ?_
  refine zi (isWord_spec i.n) ?_
  refine za0 ?_
  refine awp_ret ?_
  simp -dsimp only [simprocAttr,↓vpre,zp,zr,Try.results102]
 exact af h (by omega)
theorem number_1(i:Ins)(hop:i.op=8):PCall Try.prog 102 [i.enc] (.v (.bool (numberM i))):=by
 have hr:numberM i=within i.n 0 255:=by
  unfold numberM
  rw [if_neg (by omega),if_pos (by omega)]
 rw [hr]
 refine zf true 0 Try.func102 Try.ntmps102 ?_
 dsimp only [Tmp,TypeId,slotsOf]
 refine zh1 (za0 ?_)
 refine zh2 (za0 ?_)
 refine awp_block ?_
 refine zh1 (za0 ?_)
 apply zk0 rfl<;>intro h
 ·exact ab h (by omega)
 refine zh1 (za0 ?_)
 apply zk0 rfl<;>intro h
 ·refine zh1 ?_
  refine zi (within_spec i.n 0 255) ?_
  refine za0 ?_
  refine awp_ret ?_
  simp -dsimp only [simprocAttr,↓vpre,zp,zr,Try.results102]
 exact af h (by omega)
theorem number_2(i:Ins)(hop:i.op=11):PCall Try.prog 102 [i.enc] (.v (.bool (numberM i))):=by
 have hr:numberM i=within i.n 0 15:=by
  unfold numberM
  rw [if_neg (by omega),if_neg (by omega),if_pos (by omega)]
 rw [hr]
 refine zf true 0 Try.func102 Try.ntmps102 ?_
 dsimp only [Tmp,TypeId,slotsOf]
 refine zh1 (za0 ?_)
 refine zh2 (za0 ?_)
 refine awp_block ?_
 refine zh1 (za0 ?_)
 apply zk0 rfl<;>intro h
 ·exact ab h (by omega)
 refine zh1 (za0 ?_)
 apply zk0 rfl<;>intro h
 ·exact ab h (by omega)
 refine zh1 (za0 ?_)
 apply zk0 rfl<;>intro h
 ·refine zh1 ?_
  refine zi (within_spec i.n 0 15) ?_
  refine za0 ?_
  refine awp_ret ?_
  simp -dsimp only [simprocAttr,↓vpre,zp,zr,Try.results102]
 exact af h (by omega)
theorem number_3(i:Ins)(hop:i.op=9∨i.op=13):PCall Try.prog 102 [i.enc] (.v (.bool (numberM i))):=by
 have hr:numberM i=within i.n 0 255:=by
  unfold numberM
  rw [if_neg (by omega),if_neg (by omega),if_neg (by omega),if_pos (by omega)]
 rw [hr]
 refine zf true 0 Try.func102 Try.ntmps102 ?_
 dsimp only [Tmp,TypeId,slotsOf]
 refine zh1 (za0 ?_)
 refine zh2 (za0 ?_)
 refine awp_block ?_
 refine zh1 (za0 ?_)
 apply zk0 rfl<;>intro h
 ·exact ab h (by omega)
 refine zh1 (za0 ?_)
 apply zk0 rfl<;>intro h
 ·exact ab h (by omega)
 refine zh1 (za0 ?_)
 apply zk0 rfl<;>intro h
 ·exact ab h (by omega)
 refine zh2 (za0 ?_)
 refine awp_mid0 (⟨51,[(1,.mp 0 0),(2,.v (.bool false)),(4,aI i.op),(20,.v (.bool true))],[.cells [aI i.to,aI i.op,aI i.n,eIs i.args]]⟩) ?_ ?_
 ·apply zk0 rfl<;>intro h
  ·refine awp_skip ?_
   show Covers _ _
   refine zq rfl ?_ ?_
   simp -dsimp only [simprocAttr,↓vpre,zp,zc]
   ·exact Sub.of_eq (by rw [h])
   rfl
  refine zh0 ?_
  refine at_intro ?_
  show Covers _ _
  refine zq rfl ?_ ?_
  simp -dsimp only [simprocAttr,↓vpre,zp,zc]
  ·exact Sub.of_eq (by rw [decide_eq_true (show i.op=13 by simp only [decide_eq_false_iff_not] at *;omega)])
  rfl
 refine zw0 rfl ?_
 refine zh1 ?_
 refine zi (within_spec i.n 0 255) ?_
 refine za0 ?_
 refine awp_ret ?_
 simp -dsimp only [simprocAttr,↓vpre,zp,zr,Try.results102]
theorem number_4(i:Ins)(hop:i.op=23):PCall Try.prog 102 [i.enc] (.v (.bool (numberM i))):=by
 have hr:numberM i=decide (i.n=1∨i.n=2∨i.n=3):=by
  unfold numberM
  rw [if_neg (by omega),if_neg (by omega),if_neg (by omega),if_neg (by omega),if_pos (by omega)]
 rw [hr]
 by_cases h1:i.n=1
 ·have hd1:decide (i.n=1)=true:=decide_eq_true h1
  refine zf true 0 Try.func102 Try.ntmps102 ?_
  dsimp only [Tmp,TypeId,slotsOf]
  refine zh1 (za0 ?_)
  refine zh2 (za0 ?_)
  refine awp_block ?_
  refine zh1 (za0 ?_)
  apply zk0 rfl<;>intro h
  ·exact ab h (by omega)
  refine zh1 (za0 ?_)
  apply zk0 rfl<;>intro h
  ·exact ab h (by omega)
  refine zh1 (za0 ?_)
  apply zk0 rfl<;>intro h
  ·exact ab h (by omega)
  refine zh2 (za0 ?_)
  apply zk0 rfl<;>intro h
  ·exact ab h (by omega)
  refine zh0 (za0 ?_)
  apply zk0 rfl<;>intro h
  ·exact ab h (by omega)
  refine zh1 (za0 ?_)
  apply zk0 rfl<;>intro h
  ·refine zg1 ?_
   simp -dsimp only [simprocAttr,↓vpre,zp,hd1]
   refine za0 ?_
   refine awp_ret ?_
   simp -dsimp only [simprocAttr,↓vpre,zp,zr,Try.results102]
   simp [h1]
  exact af h (by omega)
 have hd1:decide (i.n=1)=false:=decide_eq_false h1
 by_cases h2:i.n=2
 ·have hd2:decide (i.n=2)=true:=decide_eq_true h2
  refine zf true 0 Try.func102 Try.ntmps102 ?_
  dsimp only [Tmp,TypeId,slotsOf]
  refine zh1 (za0 ?_)
  refine zh2 (za0 ?_)
  refine awp_block ?_
  refine zh1 (za0 ?_)
  apply zk0 rfl<;>intro h
  ·exact ab h (by omega)
  refine zh1 (za0 ?_)
  apply zk0 rfl<;>intro h
  ·exact ab h (by omega)
  refine zh1 (za0 ?_)
  apply zk0 rfl<;>intro h
  ·exact ab h (by omega)
  refine zh2 (za0 ?_)
  apply zk0 rfl<;>intro h
  ·exact ab h (by omega)
  refine zh0 (za0 ?_)
  apply zk0 rfl<;>intro h
  ·exact ab h (by omega)
  refine zh1 (za0 ?_)
  apply zk0 rfl<;>intro h
  ·refine zg1 ?_
   simp -dsimp only [simprocAttr,↓vpre,zp,hd1,hd2]
   refine za0 ?_
   refine awp_ret ?_
   simp -dsimp only [simprocAttr,↓vpre,zp,zr,Try.results102]
   simp [h2]
  exact af h (by omega)
 have hd2:decide (i.n=2)=false:=decide_eq_false h2
 refine zf true 0 Try.func102 Try.ntmps102 ?_
 dsimp only [Tmp,TypeId,slotsOf]
 refine zh1 (za0 ?_)
 refine zh2 (za0 ?_)
 refine awp_block ?_
 refine zh1 (za0 ?_)
 apply zk0 rfl<;>intro h
 ·exact ab h (by omega)
 refine zh1 (za0 ?_)
 apply zk0 rfl<;>intro h
 ·exact ab h (by omega)
 refine zh1 (za0 ?_)
 apply zk0 rfl<;>intro h
 ·exact ab h (by omega)
 refine zh2 (za0 ?_)
 apply zk0 rfl<;>intro h
 ·exact ab h (by omega)
 refine zh0 (za0 ?_)
 apply zk0 rfl<;>intro h
 ·exact ab h (by omega)
 refine zh1 (za0 ?_)
 apply zk0 rfl<;>intro h
 ·refine zg1 ?_
  simp -dsimp only [simprocAttr,↓vpre,zp,hd1,hd2]
  refine za0 ?_
  refine awp_ret ?_
  simp -dsimp only [simprocAttr,↓vpre,zp,zr,Try.results102]
  simp [h1,h2]
 exact af h (by omega)
theorem number_5(i:Ins)(hop:i.op=24):PCall Try.prog 102 [i.enc] (.v (.bool (numberM i))):=by
 have hr:numberM i=within i.n 0 3:=by
  unfold numberM
  rw [if_neg (by omega),if_neg (by omega),if_neg (by omega),if_neg (by omega),if_neg (by omega),if_pos (by omega)]
 rw [hr]
 refine zf true 0 Try.func102 Try.ntmps102 ?_
 dsimp only [Tmp,TypeId,slotsOf]
 refine zh1 (za0 ?_)
 refine zh2 (za0 ?_)
 refine awp_block ?_
 refine zh1 (za0 ?_)
 apply zk0 rfl<;>intro h
 ·exact ab h (by omega)
 refine zh1 (za0 ?_)
 apply zk0 rfl<;>intro h
 ·exact ab h (by omega)
 refine zh1 (za0 ?_)
 apply zk0 rfl<;>intro h
 ·exact ab h (by omega)
 refine zh2 (za0 ?_)
 apply zk0 rfl<;>intro h
 ·exact ab h (by omega)
 refine zh0 (za0 ?_)
 apply zk0 rfl<;>intro h
 ·exact ab h (by omega)
 refine zh1 (za0 ?_)
 apply zk0 rfl<;>intro h
 ·exact ab h (by omega)
 refine zh1 (za0 ?_)
 apply zk0 rfl<;>intro h
 ·refine zh1 ?_
  refine zi (within_spec i.n 0 3) ?_
  refine za0 ?_
  refine awp_ret ?_
  simp -dsimp only [simprocAttr,↓vpre,zp,zr,Try.results102]
 exact af h (by omega)
theorem number_6(i:Ins)(hop:i.op=22):PCall Try.prog 102 [i.enc] (.v (.bool (numberM i))):=by
 have hr:numberM i=true:=by
  unfold numberM
  rw [if_neg (by omega),if_neg (by omega),if_neg (by omega),if_neg (by omega),if_neg (by omega),if_neg (by omega),if_pos (by omega)]
 rw [hr]
 refine zf true 0 Try.func102 Try.ntmps102 ?_
 dsimp only [Tmp,TypeId,slotsOf]
 refine zh1 (za0 ?_)
 refine zh2 (za0 ?_)
 refine awp_block ?_
 refine zh1 (za0 ?_)
 apply zk0 rfl<;>intro h
 ·exact ab h (by omega)
 refine zh1 (za0 ?_)
 apply zk0 rfl<;>intro h
 ·exact ab h (by omega)
 refine zh1 (za0 ?_)
 apply zk0 rfl<;>intro h
 ·exact ab h (by omega)
 refine zh2 (za0 ?_)
 apply zk0 rfl<;>intro h
 ·exact ab h (by omega)
 refine zh0 (za0 ?_)
 apply zk0 rfl<;>intro h
 ·exact ab h (by omega)
 refine zh1 (za0 ?_)
 apply zk0 rfl<;>intro h
 ·exact ab h (by omega)
 refine zh1 (za0 ?_)
 apply zk0 rfl<;>intro h
 ·exact ab h (by omega)
 refine zh1 (za0 ?_)
 apply zk0 rfl<;>intro h
 ·refine zh1 (za0 ?_)
  refine awp_ret ?_
  simp -dsimp only [simprocAttr,↓vpre,zp,zr,Try.results102]
 exact af h (by omega)
theorem number_spec(i:Ins):PCall Try.prog 102 [i.enc] (.v (.bool (numberM i))):=by
 by_cases h0:i.op=0
 ·exact number_0 i h0
 by_cases h1:i.op=8
 ·exact number_1 i h1
 by_cases h2:i.op=11
 ·exact number_2 i h2
 by_cases h3:i.op=9∨i.op=13
 ·exact number_3 i h3
 by_cases h4:i.op=23
 ·exact number_4 i h4
 by_cases h5:i.op=24
 ·exact number_5 i h5
 by_cases h6:i.op=22
 ·exact number_6 i h6
 have hr:numberM i=decide (i.n=0):=by
  unfold numberM
  rw [if_neg (by omega),if_neg (by omega),if_neg (by omega),if_neg (by omega),if_neg (by omega),if_neg (by omega),if_neg (by omega)]
 rw [hr]
 refine zf true 0 Try.func102 Try.ntmps102 ?_
 dsimp only [Tmp,TypeId,slotsOf]
 refine zh1 (za0 ?_)
 refine zh2 (za0 ?_)
 refine awp_block ?_
 refine zh1 (za0 ?_)
 apply zk0 rfl<;>intro h
 ·exact ab h (by omega)
 refine zh1 (za0 ?_)
 apply zk0 rfl<;>intro h
 ·exact ab h (by omega)
 refine zh1 (za0 ?_)
 apply zk0 rfl<;>intro h
 ·exact ab h (by omega)
 refine zh2 (za0 ?_)
 apply zk0 rfl<;>intro h
 ·exact ab h (by omega)
 refine zh0 (za0 ?_)
 apply zk0 rfl<;>intro h
 ·exact ab h (by omega)
 refine zh1 (za0 ?_)
 apply zk0 rfl<;>intro h
 ·exact ab h (by omega)
 refine zh1 (za0 ?_)
 apply zk0 rfl<;>intro h
 ·exact ab h (by omega)
 refine zh1 (za0 ?_)
 apply zk0 rfl<;>intro h
 ·exact ab h (by omega)
 refine zb1 ?_
 refine zh1 (za0 ?_)
 refine awp_ret ?_
 simp -dsimp only [simprocAttr,↓vpre,zp,zr,Try.results102]
def formA(i:Ins)(many:Int)(known:Bool):Bool:=(!known || (decide (0≤many)&&!decide ((i.args.length:Int)=many))) || (decide (i.op=14)&&decide ((i.args.length:Int)=0))
def formB(i:Ins):Bool:=(decide (i.op=8) || decide (i.op=9))&&decide ((16:Int)<i.args.length)
def formC(i:Ins):Bool:=(decide (i.op=13) || decide (i.op=14))&&decide ((6:Int)<i.args.length)
def formE(i:Ins):Int:=if formA i (operandsM i).1 (operandsM i).2 then 3 else if formB i || formC i then 2 else if numberM i then 0 else 4
theorem form_spec(i:Ins):PCall Try.prog 77 [i.enc] (aI (formE i)):=by
 have hop:=operands_spec i
 have hnum:=number_spec i
 unfold formE
 generalize operandsM i=r at *
 obtain⟨many,known⟩:=r
 simp only at hop ⊢
 generalize numberM i=nb at *
 refine zf true 0 Try.func77 Try.ntmps77 ?_
 dsimp only [Tmp,TypeId,slotsOf]
 refine zh1 (za0 ?_)
 refine zh1 ?_
 refine zi hop ?_
 refine za0 ?_
 refine awp_seq (awp_block ?_)
 refine awp_mid (⟨68,[(1,.mp 0 0),(2,aI 0),(10,.v (.bool (formA i many known)))],[.cells [aI i.to,aI i.op,aI i.n,eIs i.args]]⟩) ?_ ?_
 ·cases known<;>cases hA:decide ((0:Int)≤many)<;>cases hB:decide ((i.args.length:Int)=many)<;>cases hC:decide (i.op=14)<;>cases hD:decide ((i.args.length:Int)=0)
  all_goals
   refine awp_region hT hm ?_
   simp -dsimp only [simprocAttr,↓vpre,zp,hA,hB,hC,hD]
   refine at_intro ?_
   show Covers _ _
   refine zq rfl ?_ ?_
   simp -dsimp only [simprocAttr,↓vpre,zp,zc]
   ·exact Sub.of_eq (by unfold formA;rw [hA,hB,hC,hD];rfl)
   rfl
 cases hfa:formA i many known
 ·refine zu0 rfl ?_
  refine awp_mid (⟨68,[(1,.mp 0 0),(2,aI 0),(35,.v (.bool (formB i || formC i)))],[.cells [aI i.to,aI i.op,aI i.n,eIs i.args]]⟩) ?_ ?_
  ·refine awp_mid (⟨68,[(1,.mp 0 0),(2,aI 0),(35,.v (.bool (formB i)))],[.cells [aI i.to,aI i.op,aI i.n,eIs i.args]]⟩) ?_ ?_
   ·cases hA:decide (i.op=8)<;>cases hB:decide (i.op=9)<;>cases hC:decide ((16:Int)<i.args.length)
    all_goals
     refine awp_region hT hm ?_
     simp -dsimp only [simprocAttr,↓vpre,zp,hA,hB,hC]
     refine at_intro ?_
     show Covers _ _
     refine zq rfl ?_ ?_
     simp -dsimp only [simprocAttr,↓vpre,zp,zc]
     ·exact Sub.of_eq (by unfold formB;rw [hA,hB,hC];rfl)
     rfl
   cases hfb:formB i
   ·refine zu0 rfl ?_
    cases hA:decide (i.op=13)<;>cases hB:decide (i.op=14)<;>cases hC:decide ((6:Int)<i.args.length)
    all_goals
     refine awp_region hT hm ?_
     simp -dsimp only [simprocAttr,↓vpre,zp,hA,hB,hC]
     refine at_intro ?_
     show Covers _ _
     refine zq rfl ?_ ?_
     simp -dsimp only [simprocAttr,↓vpre,zp,zc]
     ·exact Sub.of_eq (by unfold formC;rw [hA,hB,hC];rfl)
     rfl
   refine zw0 rfl ?_
   refine awp_skip ?_
   show Covers _ _
   refine zq rfl ?_ ?_
   simp -dsimp only [simprocAttr,↓vpre,zp,zc]
   ·exact Sub.refl _
   rfl
  cases hbc:(formB i || formC i)
  ·refine zu0 rfl ?_
   refine zh1 ?_
   refine zi hnum ?_
   refine za0 ?_
   cases hnb:nb
   ·refine zw0 rfl ?_
    refine zh1 (za0 ?_)
    refine awp_ret ?_
    simp -dsimp only [simprocAttr,↓vpre,zp,zr,Try.results77]
   refine zu0 rfl ?_
   refine zb1 ?_
   refine zh1 (za0 ?_)
   refine awp_ret ?_
   simp -dsimp only [simprocAttr,↓vpre,zp,zr,Try.results77]
  refine zw0 rfl ?_
  refine zh1 (za0 ?_)
  refine awp_ret ?_
  simp -dsimp only [simprocAttr,↓vpre,zp,zr,Try.results77]
 refine zw0 rfl ?_
 refine zh1 (za0 ?_)
 refine awp_ret ?_
 simp -dsimp only [simprocAttr,↓vpre,zp,zr,Try.results77]
theorem set_self{O:List AObj}{k:Nat}{y:AObj}(h:O[k]?=some y)(x:AObj):(O.set k x)[k]?=some x:=List.getElem?_set_self (lt_of_getElem? h)
theorem uptoO_cells{O:List AObj}{n k:Nat}{cs ds:List AVal}(h:∀o∈O,o.upto n)(hk:O[k]?=some (.cells cs))(hd:uptoL n cs→uptoL n ds):∀o∈O.set k (.cells ds),o.upto n :=
 uptoO_set h (hd (h _ (List.mem_of_getElem? hk)))
theorem mcells_upto{n:Nat}{u v:Unt}{m p:Mach}(h:uptoL n (mcells u m))(hs:p.sid=m.sid):uptoL n (mcells v p):=by
 simp only [mcells,uptoL,AVal.upto,aI_upto,Func.map_upto,true_and,and_true] at h ⊢
 rw [hs]
 exact h
theorem pay_sid(m:Mach)(n:Int):(m.pay n).sid=m.sid:=by
 unfold Mach.pay
 split<;>rfl
theorem pay_spec{u:Unt}{m:Mach}{O:List AObj}(hup:∀o∈O,o.upto O.length)(h0:O[2]?=some (.cells (mcells u m)))(n:Int)(h1:0≤m.left)(h2:m.left≤2 ^ 40)(h3:0≤n) :
  ECall Try.prog 60 O [.mp 2 0,aI n] (fun r O'=>r=.tup []∧O'=O.set 2 (.cells (mcells u (m.pay n)))):=by
 have hs:=set_self h0
 have hup':=uptoO_cells hup h0 (ds:=mcells u (m.pay n)) (fun h=>mcells_upto h (pay_sid m n))
 have htk:=take_set_len (O:=O) (k:=2) (x:=.cells (mcells u (m.pay n)))
 unfold mcells at h0
 by_cases hc:m.left<n
 ·have hd:decide (m.left<n)=true:=decide_eq_true hc
  have hp:[eFuncs u.fns,aI u.main,.os m.sid m.frames.length 1,aI m.left,.v (.bool true),.v (.bool true),.lst 1 (m.out.map aI) (.tok 3),aI m.fin,aI m.val]=mcells u (m.pay n):=by
   simp [Mach.pay,hc,mcells]
  refine zf true O.length Try.func60 Try.ntmps60 ?_
  dsimp only [Tmp,TypeId,slotsOf]
  refine zg2 ?_
  simp -dsimp only [simprocAttr,↓vpre,zp,h0]
  refine za0 ?_
  apply zk0 rfl<;>intro h
  ·refine zg1 ?_
   simp -dsimp only [simprocAttr,↓vpre,zp,h0,hs,List.set_set,hp]
   refine za0 ?_
   refine awp_ret ?_
   simp -dsimp only [simprocAttr,↓vpre,zp,zr,Try.results60,htk,List.length_set]
   exact⟨hup',trivial⟩
  simp [hd] at h
 have hd:decide (m.left<n)=false:=decide_eq_false hc
 have hp:[eFuncs u.fns,aI u.main,.os m.sid m.frames.length 1,aI (m.left - n),.v (.bool m.short),.v (.bool m.over),.lst 1 (m.out.map aI) (.tok 3),aI m.fin,aI m.val]=mcells u (m.pay n):=by
  simp [Mach.pay,hc,mcells]
 refine zf true O.length Try.func60 Try.ntmps60 ?_
 dsimp only [Tmp,TypeId,slotsOf]
 refine zg2 ?_
 simp -dsimp only [simprocAttr,↓vpre,zp,h0]
 refine za0 ?_
 apply zk0 rfl<;>intro h
 ·simp [hd] at h
 refine zb0 ?_
 refine zg0 ?_
 simp -dsimp only [simprocAttr,↓vpre,zp,h0,hs,List.set_set,hp]
 repeat(refine⟨by omega,?_⟩)
 refine at_intro ?_
 simp -dsimp only [simprocAttr,↓vpre,zp,zr,Try.results60,htk,List.length_set]
 exact⟨hup',trivial⟩
theorem stop_spec{u:Unt}{m:Mach}{O:List AObj}(hup:∀o∈O,o.upto O.length)(h0:O[2]?=some (.cells (mcells u m)))(e n:Int) :
  ECall Try.prog 74 O [.mp 2 0,aI e,aI n] (fun r O'=>r=.tup []∧O'=O.set 2 (.cells (mcells u (m.stop e n)))):=by
 have hs:=set_self h0
 have hup':=uptoO_cells hup h0 (ds:=mcells u (m.stop e n)) (fun h=>mcells_upto h rfl)
 have htk:=take_set_len (O:=O) (k:=2) (x:=.cells (mcells u (m.stop e n)))
 unfold mcells at h0
 have hp:[eFuncs u.fns,aI u.main,.os m.sid m.frames.length 1,aI m.left,.v (.bool m.short),.v (.bool true),.lst 1 (m.out.map aI) (.tok 3),aI e,aI n]=mcells u (m.stop e n):=rfl
 refine zf true O.length Try.func74 Try.ntmps74 ?_
 dsimp only [Tmp,TypeId,slotsOf]
 refine zg1 ?_
 simp -dsimp only [simprocAttr,↓vpre,zp,h0]
 refine za0 ?_
 refine zg0 ?_
 simp -dsimp only [simprocAttr,↓vpre,zp,hs,List.set_set,hp]
 refine at_intro ?_
 simp -dsimp only [simprocAttr,↓vpre,zp,zr,Try.results74,htk,List.length_set]
 exact⟨hup',trivial⟩
theorem cellsAll_set{sz:Nat}{xs:List AVal}(h:∀x∈xs,x.cells.length=sz){k:Nat}(hk:k<xs.length){y:AVal}(hy:y.cells.length=sz):splice (cellsAll xs) (k * sz) y.cells=cellsAll (xs.set k y):=by
 induction xs generalizing k with
 | nil=>simp at hk
 | cons p r ih =>
  have hp:=h p (by simp)
  cases k with
  | zero =>
   simp only [List.set_cons_zero,cellsAll,List.flatMap_cons,splice,Nat.zero_mul,List.take_zero,List.nil_append,Nat.zero_add,hy]
   rw [List.drop_append_of_le_length (by omega),List.drop_of_length_le (by omega)]
   rfl
  | succ k =>
   have:=ih (fun x hx=>h x (by simp [hx])) (k:=k) (by simpa using hk)
   have e1:(k+1) * sz - sz=k * sz:=by rw [Nat.succ_mul];omega
   have e2:(k+1) * sz+sz - sz=k * sz+sz:=by rw [Nat.succ_mul];omega
   have e3:sz≤(k+1) * sz:=by rw [Nat.succ_mul];omega
   simp only [List.set_cons_succ,cellsAll,List.flatMap_cons,splice,hy] at this ⊢
   rw [List.take_append,List.drop_append,hp,List.take_of_length_le (by omega),List.drop_of_length_le (by omega),e1,e2,List.nil_append,List.append_assoc,this]
def rawS(es:List (Int×SV))(k:Int):AVal:=(Option.map SV.enc (lookS es k)).getD (.agg [aI 0,aI 0,.lst 4 [] .ex,.v (.pointer none)])
theorem rawS_share(es:List (Int×SV))(k:Int):(rawS es k).share=(getS es k).enc:=by
 unfold rawS getS
 cases lookS es k with
 | none=>rfl
 | some v=>exact v.enc_share
theorem rawS_len(es:List (Int×SV))(k:Int):(rawS es k).cells.length=4:=by
 unfold rawS
 cases lookS es k with
 | none=>rfl
 | some v=>exact v.cells_len
theorem rawS_flat(es:List (Int×SV))(k:Int):(rawS es k).flat:=by
 unfold rawS
 cases lookS es k with
 | none=>trivial
 | some v=>exact v.enc_flat
def rowT(es:List (Int×SV))(l:List Int)(k:Nat):List AVal:=(l.take k).map (rawS es)++List.replicate (l.length - k) (.agg [aI 0,aI 0,.lst 4 [] .ex,.v (.pointer none)])
theorem rowT_len{es:List (Int×SV)}{l:List Int}{k:Nat}(h:k≤l.length):(rowT es l k).length=l.length:=by
 simp [rowT]
 omega
theorem rowT_cells{es:List (Int×SV)}{l:List Int}{k:Nat}:∀x∈rowT es l k,x.cells.length=4:=fun x hx=>by
 simp only [rowT,List.mem_append,List.mem_map,List.mem_replicate] at hx
 rcases hx with⟨v,_,rfl⟩ | ⟨_,rfl⟩
 ·exact rawS_len es v
 rfl
theorem rowT_zero(es:List (Int×SV))(l:List Int):cellsAll (rowT es l 0)=(List.replicate l.length [aI 0,aI 0,.lst 4 [] .ex,.v (.pointer none)]).flatten:=by
 simp [rowT,cellsAll,List.flatMap,AVal.cells]
theorem rowT_succ{es:List (Int×SV)}{l:List Int}{k:Nat}{v:Int}(h:l[k]?=some v):(rowT es l k).set k (rawS es v)=rowT es l (k+1):=by
 have hlt:=lt_of_getElem? h
 obtain⟨j,hj⟩:∃j,l.length - k=j+1:=⟨l.length - k - 1,by omega⟩
 have e:l.take (k+1)=l.take k++[v]:=by rw [List.take_add_one,h];rfl
 have ek:((l.take k).map (rawS es)).length=k:=by simp;omega
 unfold rowT
 rw [e,hj,show l.length - (k+1)=j by omega,List.set_append_right _ _ (by omega),ek,Nat.sub_self]
 simp [List.replicate_succ]
theorem rowT_all(es:List (Int×SV))(l:List Int):(cellsAll (rowT es l l.length)).map AVal.shareCell=cellsAll ((takeS es l).map SV.enc):=by
 rw [←cellsAll_share]
 simp only [rowT,Nat.sub_self,List.replicate_zero,List.append_nil,List.take_length,takeS,List.map_map]
 congr 1
 apply List.map_congr_left
 intro v _
 exact rawS_share es v
theorem getS_under{es:List (Int×SV)}{n:Nat}(h:∀e∈es,SV.Under n e.2)(k:Int):SV.Under n (getS es k):=by
 unfold getS
 cases hl:lookS es k with
 | none=>exact .mk (by simp) (by simp)
 | some v =>
  obtain⟨e,h1,rfl⟩:=mem_lookS hl
  exact h e h1
theorem takeS_under{es:List (Int×SV)}{n:Nat}(h:∀e∈es,SV.Under n e.2)(l:List Int):∀v∈takeS es l,SV.Under n v:=fun v hv=>by
 obtain⟨k,_,rfl⟩:=List.mem_map.1 hv
 exact getS_under h k
theorem take_spec{f:Fr}{O:List AObj}(hup:∀o∈O,o.upto O.length)(hf:O[f.fid]?=some (.cells (fcells f)))(hv:O[f.mid]?=some (.map (.int .i64) (f.vals.map ent)))(hu:∀e∈f.vals,SV.Under O.length e.2)(l:List Int)(hl:l.length≤4096) :
  ECall Try.prog 73 O [.mp f.fid 0,eIs l] (fun r O'=>r=.lst 4 ((takeS f.vals l).map SV.enc) .sh∧O'=O):=by
 have hres:=SV.map_upto (takeS_under hu l)
 have hfl:∀X:List AObj,(O++X)[f.fid]?=some (.cells (fcells f)):=fun X=>at_left hf
 have hvl:∀X:List AObj,(O++X)[f.mid]?=some (.map (.int .i64) (f.vals.map ent)):=fun X=>at_left hv
 unfold fcells at hfl
 refine zf true O.length Try.func73 Try.ntmps73 ?_
 dsimp only [Tmp,TypeId,slotsOf]
 refine zh1 (za0 ?_)
 refine zh1 ?_
 repeat(refine⟨by omega,?_⟩)
 refine za0 ?_
 refine zh2 (za0 ?_)
 refine awp_block (awp_loop (ι:={k:Nat // k≤l.length}) (fun k=>⟨29,[(0,.mp f.fid 0),(5,.ms O.length 0 l.length l.length),(11,eIs l),(12,aI l.length),(13,aI k.1)],O++[.cells (cellsAll (rowT f.vals l k.1))]⟩) (fun k=>l.length - k.1) ⟨0,by omega⟩ ?_ ?_)
 ·refine zq rfl ?_ ?_
  simp -dsimp only [simprocAttr,↓vpre,zp,zc]
  rw [rowT_zero]
 rintro⟨k,hk⟩
 refine zh1 (za0 ?_)
 apply zk1 rfl<;>intro h
 ·refine zb0 ?_
  have hlt:k<l.length:=by simpa using h
  obtain⟨v,hv1⟩:∃v,l[k]?=some v:=⟨l[k],by simp [hlt]⟩
  have hraw:(Option.map SV.enc (lookS f.vals v)).getD (.agg [aI 0,aI 0,.lst 4 [] .ex,.v (.pointer none)])=rawS f.vals v:=rfl
  have hrow:=cellsAll_length (rowT_cells (es:=f.vals) (l:=l) (k:=k))
  rw [rowT_len hk] at hrow
  have hset:=cellsAll_set (rowT_cells (es:=f.vals) (l:=l) (k:=k)) (k:=k) (by rw [rowT_len hk];exact hlt) (rawS_len f.vals v)
  rw [rowT_succ hv1] at hset
  have hn:=snoc_get O (AObj.cells (cellsAll (rowT f.vals l k)))
  have hst:=fun y=>snoc_set O (AObj.cells (cellsAll (rowT f.vals l k))) y
  refine awp_seq (awp_block ?_)
  refine zg1 ?_
  simp -dsimp only [simprocAttr,↓vpre,zp,hv1]
  refine za0 ?_
  refine zg0 ?_
  simp -dsimp only [simprocAttr,↓vpre,zp,hfl,hvl,look_ent,hraw,hn,hst,rawS_flat,rawS_len,hrow,hset]
  repeat(refine⟨by omega,?_⟩)
  refine za0 ?_
  refine zh0 ?_
  repeat(refine⟨by omega,?_⟩)
  refine zl0 ?_
  refine⟨⟨k+1,hlt⟩,by simp;omega,?_⟩
  refine zq rfl ?_ ?_
  simp -dsimp only [simprocAttr,↓vpre,zp,zc]
  ·exact Sub.int (by simp)
  rfl
 refine awp_exit ?_
 simp -dsimp only [vend,ne_eq,Nat.reduceEqDiff,reduceCtorEq]
 have hkk:k=l.length:=by simp at h;omega
 subst hkk
 refine awp_localS 5 (sz:=4) ((takeS f.vals l).map SV.enc) [(5,.lst 4 ((takeS f.vals l).map SV.enc) .sh)] rfl ?_ ?_ ?_ (by omega) (by simp [putS,dropS,Go.Av.look]) ?_ ?_ ?_
 ·intro x hx
  obtain⟨y,_,rfl⟩:=List.mem_map.1 hx
  exact y.cells_len
 ·simp [takeS]
 ·rw [←rowT_all,List.take_of_length_le]
  rw [cellsAll_length rowT_cells,rowT_len hk]
  exact Nat.le_refl _
 ·exact hup
 ·intro p hp
  simp only [List.mem_singleton] at hp
  subst hp
  exact⟨hres,trivial⟩
 refine zh1 (za0 ?_)
 refine awp_ret ?_
 simp -dsimp only [simprocAttr,↓vpre,zp,zr,Try.results73,List.take_length]
 exact⟨hup,hres⟩
theorem wordOf_spec(n:Int):PCall Try.prog 95 [aI n] (SV.word n).enc:=by
 refine zf true 0 Try.func95 Try.ntmps95 ?_
 dsimp only [Tmp,TypeId,slotsOf]
 refine zh1 (za0 ?_)
 refine zh1 (za0 ?_)
 refine awp_ret ?_
 simp -dsimp only [simprocAttr,↓vpre,zp,zr,Try.results95]
 simp [SV.word,SV.enc_mk,eP,uptoL,AVal.upto]
theorem truth_spec(b:Bool):PCall Try.prog 120 [.v (.bool b)] (SV.word (if b then 1 else 0)).enc:=by
 have h1:=wordOf_spec 1
 have h0:=wordOf_spec 0
 have c1:(SV.word 1).enc.cells=[aI 0,aI 1,.lst 4 [] .sh,.v (.pointer none)]:=rfl
 have c0:(SV.word 0).enc.cells=[aI 0,aI 0,.lst 4 [] .sh,.v (.pointer none)]:=rfl
 refine zf true 0 Try.func120 Try.ntmps120 ?_
 dsimp only [Tmp,TypeId,slotsOf]
 refine zh1 (za0 ?_)
 refine zh2 (za0 ?_)
 apply zk0 rfl<;>intro h
 ·refine zh1 ?_
  refine .inl ⟨_,h1,by simp only [uptoL,AVal.upto,zt],later_intro ?_⟩
  simp -dsimp only [simprocAttr,↓vpre,zp,c1]
  refine za0 ?_
  refine awp_ret ?_
  simp -dsimp only [simprocAttr,↓vpre,zp,zr,Try.results120]
  subst h
  exact⟨by simp [uptoL,AVal.upto],rfl⟩
 refine zb0 ?_
 refine zh1 ?_
 refine .inl ⟨_,h0,by simp only [uptoL,AVal.upto,zt],later_intro ?_⟩
 simp -dsimp only [simprocAttr,↓vpre,zp,c0]
 refine za0 ?_
 refine awp_ret ?_
 simp -dsimp only [simprocAttr,↓vpre,zp,zr,Try.results120]
 subst h
 exact⟨by simp [uptoL,AVal.upto],rfl⟩
theorem all_spec{O:List AObj}(hup:∀o∈O,o.upto O.length)(l:List SV)(hl:∀v∈l,SV.Under O.length v)(k:Int):ECall Try.prog 96 O [.lst 4 (l.map SV.enc) .sh,aI k] (fun r O'=>r=.v (.bool (allK l k))∧O'=O):=by
 refine zf true O.length Try.func96 Try.ntmps96 ?_
 dsimp only [Tmp,TypeId,slotsOf]
 refine zh1 (za0 ?_)
 refine zh2 (za0 ?_)
 refine awp_len 7 rfl (fun hlen=>?_)
 simp only [List.length_map] at hlen
 refine awp_block (awp_loop (ι:={j:Nat // j≤l.length∧∀v∈l.take j,v.kind=k}) (fun j=>⟨18,[(1,aI k),(4,.v (.bool false)),(7,.lst 4 (l.map SV.enc) .sh),(8,aI l.length),(9,aI j.1)],O⟩) (fun j=>l.length - j.1) ⟨0,by omega,by simp⟩ ?_ ?_)
 ·refine zq rfl ?_ ?_
  simp -dsimp only [simprocAttr,↓vpre,zp,zc]
  rfl
 rintro⟨j,hj,hall⟩
 refine zh1 (za0 ?_)
 apply zk1 rfl<;>intro h
 ·refine zb0 ?_
  have hlt:j<l.length:=by simpa using h
  obtain⟨v,hv⟩:∃v,l[j]?=some v:=⟨l[j],by simp [hlt]⟩
  have hvu:=(hl v (List.mem_of_getElem? hv)).enc_upto
  rw [SV.enc_eq] at hvu
  refine awp_seq (awp_block ?_)
  refine zg1 ?_
  simp -dsimp only [simprocAttr,↓vpre,zp,hv]
  refine za0 ?_
  refine awp_local 6 ([aI v.kind,aI v.n,.lst 4 (v.list.map SV.enc) .sh,eP v.arr]) [(1,aI k),(4,.v (.bool false)),(6,.ip none [aI v.kind,aI v.n,.lst 4 (v.list.map SV.enc) .sh,eP v.arr]),(7,.lst 4 (l.map SV.enc) .sh),(8,aI l.length),(9,aI j)] rfl (by simp only [List.map_cons,List.map_nil,shareCell_v,shareCell_lst,shareCell_mm,shareCell_mp,shareCell_ip,shareCell_fn,shareCell_im,eP_shareCell]) (by omega) (by simp [putS,dropS,Go.Av.look]) ?_ ?_ ?_
  ·exact hup
  ·intro p hp
   simp only [List.mem_cons,List.mem_nil_iff,or_false] at hp
   have hlu:=SV.map_upto hl
   rcases hp with rfl | rfl | rfl | rfl | rfl | rfl
   ·trivial
   ·trivial
   ·exact hvu
   ·exact⟨hlu,trivial⟩
   ·trivial
   trivial
  refine zh1 (za0 ?_)
  apply zk0 rfl<;>intro h
  ·refine zh1 (za0 ?_)
   refine awp_ret ?_
   simp -dsimp only [simprocAttr,↓vpre,zp,zr,Try.results96]
   have hk:v.kind≠k:=by simpa using h
   refine⟨hup,?_⟩
   have:allK l k=false:=by
    simp only [allK,List.all_eq_false,decide_eq_true_eq]
    exact⟨v,List.mem_of_getElem? hv,hk⟩
   rw [this]
  refine zb1 ?_
  have hk:v.kind=k:=by simpa using h
  refine zh0 ?_
  repeat(refine⟨by omega,?_⟩)
  refine zl0 ?_
  refine⟨⟨j+1,hlt,fun w hw=>?_⟩,by simp;omega,?_⟩
  ·rw [List.take_add_one,hv] at hw
   simp only [Option.toList_some,List.mem_append,List.mem_singleton] at hw
   rcases hw with hw | rfl
   ·exact hall w hw
   exact hk
  refine zq rfl ?_ ?_
  simp -dsimp only [simprocAttr,↓vpre,zp,zc]
  ·exact Sub.int (by simp)
  rfl
 refine awp_exit ?_
 simp -dsimp only [vend,ne_eq,Nat.reduceEqDiff,reduceCtorEq]
 have hkk:j=l.length:=by simp at h;omega
 subst hkk
 refine zh1 (za0 ?_)
 refine awp_ret ?_
 simp -dsimp only [simprocAttr,↓vpre,zp,zr,Try.results96]
 rw [List.take_length] at hall
 refine⟨hup,?_⟩
 have:allK l k=true:=by
  simp only [allK,List.all_eq_true,decide_eq_true_eq]
  exact hall
 rw [this]
theorem all_at{O:List AObj}(hup:∀o∈O,o.upto O.length)(l:List SV)(hl:∀v∈l,SV.Under O.length v)(k:Int)(X:List AObj):ECall Try.prog 96 (O++X) [.lst 4 (l.map SV.enc) .sh,aI k] (fun r O'=>r=.v (.bool (allK l k))∧O'=O++X) :=
 ECall.frame (all_spec hup l hl k) rfl ⟨⟨SV.map_upto hl,trivial⟩,trivial,trivial⟩ hup X
theorem word_cells(n:Int):(SV.word n).enc.cells=[aI 0,aI n,.lst 4 [] .sh,.v (.pointer none)]:=rfl
theorem word_under(k:Nat)(n:Int):SV.Under k (SV.word n):=.mk (by simp) (by simp)
theorem zero_under(k:Nat):SV.Under k SV.zero:=.mk (by simp) (by simp)
theorem wordW{k:Nat}{n m:Int}:uptoL k [(SV.word n).enc,.v (.int .i64 m)]:=⟨(word_under k n).enc_upto,trivial,trivial⟩
theorem zeroW{k:Nat}{m:Int}:uptoL k [SV.zero.enc,.v (.int .i64 m)]:=⟨(zero_under k).enc_upto,trivial,trivial⟩
theorem word_agg(n:Int):AVal.agg [aI 0,aI n,.lst 4 [] .sh,.v (.pointer none)]=(SV.word n).enc:=rfl
theorem zero_agg:AVal.agg [aI 0,aI 0,.lst 4 [] .sh,.v (.pointer none)]=SV.zero.enc:=rfl
theorem binary_spec(op a b:Int)(ha:isW a)(hb:isW b):PCall Try.prog 97 [aI op,aI a,aI b] (.tup [(binaryM op a b).1.enc,aI (binaryM op a b).2]):=by
 have q1:=add_spec a b ha hb
 have q2:=sub_spec a b ha hb
 have q3:=mul_spec a b ha hb
 have q4:=fun h=>div_spec a b ha hb h
 have q5:=fun h=>mod_spec a b ha hb h
 refine zf true 0 Try.func97 Try.ntmps97 ?_
 dsimp only [Tmp,TypeId,slotsOf]
 refine zh1 (za0 ?_)
 refine zh2 (za0 ?_)
 refine awp_block ?_
 refine zh1 (za0 ?_)
 apply zk0 rfl<;>intro h
 ·have e:op=1:=by simpa using h
  refine zh1 ?_
  refine .inl ⟨_,q1,by simp only [uptoL,AVal.upto,zt],later_intro ?_⟩
  refine .inl ⟨_,wordOf_spec _,by simp [uptoL,AVal.upto,share_v],later_intro ?_⟩
  simp -dsimp only [simprocAttr,↓vpre,zp,word_cells]
  refine za0 ?_
  refine awp_ret ?_
  simp -dsimp only [simprocAttr,↓vpre,zp,zr,Try.results97,word_agg]
  simp [binaryM,e,wordW]
 have e1:op≠1:=by simpa using h
 refine zh1 (za0 ?_)
 apply zk0 rfl<;>intro h
 ·have e:op=2:=by simpa using h
  refine zh1 ?_
  refine .inl ⟨_,q2,by simp only [uptoL,AVal.upto,zt],later_intro ?_⟩
  refine .inl ⟨_,wordOf_spec _,by simp [uptoL,AVal.upto,share_v],later_intro ?_⟩
  simp -dsimp only [simprocAttr,↓vpre,zp,word_cells]
  refine za0 ?_
  refine awp_ret ?_
  simp -dsimp only [simprocAttr,↓vpre,zp,zr,Try.results97,word_agg]
  simp [binaryM,e,wordW]
 have e2:op≠2:=by simpa using h
 refine zh1 (za0 ?_)
 apply zk0 rfl<;>intro h
 ·have e:op=3:=by simpa using h
  refine zh1 ?_
  refine .inl ⟨_,q3,by simp only [uptoL,AVal.upto,zt],later_intro ?_⟩
  refine .inl ⟨_,wordOf_spec _,by simp [uptoL,AVal.upto,share_v],later_intro ?_⟩
  simp -dsimp only [simprocAttr,↓vpre,zp,word_cells]
  refine za0 ?_
  refine awp_ret ?_
  simp -dsimp only [simprocAttr,↓vpre,zp,zr,Try.results97,word_agg]
  simp [binaryM,e,wordW]
 have e3:op≠3:=by simpa using h
 refine zh1 (za0 ?_)
 apply zk0 rfl<;>intro h
 ·have e:op=6:=by simpa using h
  refine zh1 ?_
  refine .inl ⟨_,truth_spec _,by simp only [uptoL,AVal.upto,zt],later_intro ?_⟩
  simp -dsimp only [simprocAttr,↓vpre,zp,word_cells]
  refine za0 ?_
  refine awp_ret ?_
  simp -dsimp only [simprocAttr,↓vpre,zp,zr,Try.results97,word_agg]
  simp [binaryM,e,wordW]
 have e6:op≠6:=by simpa using h
 refine zh1 (za0 ?_)
 apply zk0 rfl<;>intro h
 ·have e:op=7:=by simpa using h
  refine zh1 ?_
  refine .inl ⟨_,truth_spec _,by simp only [uptoL,AVal.upto,zt],later_intro ?_⟩
  simp -dsimp only [simprocAttr,↓vpre,zp,word_cells]
  refine za0 ?_
  refine awp_ret ?_
  simp -dsimp only [simprocAttr,↓vpre,zp,zr,Try.results97,word_agg]
  simp [binaryM,e,wordW]
 have e7:op≠7:=by simpa using h
 refine zb1 ?_
 refine zh2 (za0 ?_)
 apply zk0 rfl<;>intro h
 ·have e:b=0:=by simpa using h
  refine zh1 (za0 ?_)
  refine awp_ret ?_
  simp -dsimp only [simprocAttr,↓vpre,zp,zr,Try.results97,zero_agg]
  simp [binaryM,e1,e2,e3,e6,e7,e,zeroW]
 have e0:b≠0:=by simpa using h
 refine zb0 ?_
 refine zh2 (za0 ?_)
 apply zk0 rfl<;>intro h
 ·have e:op=4:=by simpa using h
  refine zh1 ?_
  refine zi (q4 e0) ?_
  refine za0 ?_
  refine zh1 ?_
  refine .inl ⟨_,wordOf_spec _,by simp only [uptoL,AVal.upto,zt],later_intro ?_⟩
  simp -dsimp only [simprocAttr,↓vpre,zp,word_cells]
  refine za0 ?_
  refine awp_ret ?_
  simp -dsimp only [simprocAttr,↓vpre,zp,zr,Try.results97,word_agg]
  simp [binaryM,e,wordW,e0]
 have e4:op≠4:=by simpa using h
 refine zb0 ?_
 refine zh1 ?_
 refine zi (q5 e0) ?_
 refine za0 ?_
 refine zh1 ?_
 refine .inl ⟨_,wordOf_spec _,by simp only [uptoL,AVal.upto,zt],later_intro ?_⟩
 simp -dsimp only [simprocAttr,↓vpre,zp,word_cells]
 refine za0 ?_
 refine awp_ret ?_
 simp -dsimp only [simprocAttr,↓vpre,zp,zr,Try.results97,word_agg]
 simp [binaryM,e1,e2,e3,e4,e6,e7,wordW,e0]
theorem argS_of{l:List SV}{k:Nat}{v:SV}(h:l[k]?=some v):argS l k=v:=by simp [argS,h]
theorem resW{k:Nat}{v:SV}{m:Int}(h:SV.Under k v):uptoL k [v.enc,.v (.int .i64 m)]:=⟨h.enc_upto,trivial,trivial⟩
theorem under_list{k:Nat}{v:SV}(h:SV.Under k v):∀x∈v.list,SV.Under k x:=by cases h;assumption
theorem object_spec{O:List AObj}(hup:∀o∈O,o.upto O.length)(i:Ins)(args:List SV)(hl:∀v∈args,SV.Under O.length v)(o:SV)(h0:args[0]?=some o)
  (hp:i.op≠10→i.op≠11→i.op≠12→∃p,args[1]?=some p) (hn:i.op=11→0≤i.n) :
  ECall Try.prog 98 O [i.enc,.lst 4 (args.map SV.enc) .sh] (fun r O'=>r=.tup [(objectM i args).1.enc,aI (objectM i args).2]∧O'=O):=by
 have hou:=hl o (List.mem_of_getElem? h0)
 have ha:=argS_of h0
 refine zf true O.length Try.func98 Try.ntmps98 ?_
 dsimp only [Tmp,TypeId,slotsOf]
 refine zh1 (za0 ?_)
 refine zg1 ?_
 simp -dsimp only [simprocAttr,↓vpre,zp,h0]
 refine za0 ?_
 refine awp_seq (awp_block ?_)
 refine zh1 (za0 ?_)
 apply zk0 rfl<;>intro h
 ·have e:i.op=11:=by simpa using h
  by_cases hk:o.kind=1∨o.kind=2
  ·have hd:(decide (o.kind=1)=true)∨(decide (o.kind=1)=false∧decide (o.kind=2)=true):=by
    rcases hk with hk | hk
    ·exact .inl (decide_eq_true hk)
    exact .inr ⟨decide_eq_false (by omega),decide_eq_true hk⟩
   have hnk:¬(o.kind≠1∧o.kind≠2):=by omega
   have hn0:=hn e
   by_cases hlen:(o.list.length:Int)≤i.n
   ·have hdl:decide ((o.list.length:Int)≤i.n)=true:=decide_eq_true hlen
    rcases hd with hd | ⟨hd,hd2⟩
    ·refine zg2 ?_
     simp -dsimp only [simprocAttr,↓vpre,zp,hd,hdl]
     refine za0 ?_
     refine zw0 rfl ?_
     refine zh1 (za0 ?_)
     refine awp_ret ?_
     simp -dsimp only [simprocAttr,↓vpre,zp,zr,Try.results98,zero_agg]
     refine⟨hup,zeroW,?_⟩
     simp [objectM,e,ha,hlen]
    refine zg2 ?_
    simp -dsimp only [simprocAttr,↓vpre,zp,hd,hd2,hdl]
    refine za0 ?_
    refine zw0 rfl ?_
    refine zh1 (za0 ?_)
    refine awp_ret ?_
    simp -dsimp only [simprocAttr,↓vpre,zp,zr,Try.results98,zero_agg]
    refine⟨hup,zeroW,?_⟩
    simp [objectM,e,ha,hlen]
   have hdl:decide ((o.list.length:Int)≤i.n)=false:=decide_eq_false hlen
   obtain⟨x,hx⟩:∃x,o.list[i.n.toNat]?=some x:=⟨o.list[i.n.toNat]'(by omega),List.getElem?_eq_getElem _⟩
   have hxu:=under_list hou x (List.mem_of_getElem? hx)
   have hax:=argS_of hx
   rcases hd with hd | ⟨hd,hd2⟩
   ·refine zg2 ?_
    simp -dsimp only [simprocAttr,↓vpre,zp,hd,hdl]
    refine za0 ?_
    refine zu0 rfl ?_
    refine zb0 ?_
    refine zg1 ?_
    simp -dsimp only [simprocAttr,↓vpre,zp,hx]
    repeat(refine⟨by omega,?_⟩)
    refine za0 ?_
    refine awp_ret ?_
    simp -dsimp only [simprocAttr,↓vpre,zp,zr,Try.results98]
    refine⟨hup,resW hxu,?_⟩
    simp [objectM,e,ha,hlen,hax,hnk]
   refine zg2 ?_
   simp -dsimp only [simprocAttr,↓vpre,zp,hd,hd2,hdl]
   refine za0 ?_
   refine zu0 rfl ?_
   refine zb0 ?_
   refine zg1 ?_
   simp -dsimp only [simprocAttr,↓vpre,zp,hx]
   repeat(refine⟨by omega,?_⟩)
   refine za0 ?_
   refine awp_ret ?_
   simp -dsimp only [simprocAttr,↓vpre,zp,zr,Try.results98]
   refine⟨hup,resW hxu,?_⟩
   simp [objectM,e,ha,hlen,hax,hnk]
  have hk1:decide (o.kind=1)=false:=decide_eq_false (by omega)
  have hk2:decide (o.kind=2)=false:=decide_eq_false (by omega)
  have hnk:o.kind≠1∧o.kind≠2:=by omega
  refine zg2 ?_
  simp -dsimp only [simprocAttr,↓vpre,zp,hk1,hk2]
  refine za0 ?_
  refine zw0 rfl ?_
  refine zh1 (za0 ?_)
  refine awp_ret ?_
  simp -dsimp only [simprocAttr,↓vpre,zp,zr,Try.results98,zero_agg]
  refine⟨hup,zeroW,?_⟩
  simp [objectM,e,ha,hnk]
 have e11:i.op≠11:=by simpa using h
 refine zh1 (za0 ?_)
 apply zk0 rfl<;>intro h
 ·have hk:o.kind≠1:=by simpa using h
  refine zh1 (za0 ?_)
  refine awp_ret ?_
  simp -dsimp only [simprocAttr,↓vpre,zp,zr,Try.results98,zero_agg]
  refine⟨hup,zeroW,?_⟩
  simp [objectM,e11,ha,hk]
 have hk:o.kind=1:=by simpa using h
 refine zh1 (za0 ?_)
 apply zk0 rfl<;>intro h
 ·have e10:i.op=10:=by simpa using h
  refine zh1 ?_
  refine .inl ⟨_,wordOf_spec o.n,by simp only [uptoL,AVal.upto,zt],later_intro ?_⟩
  simp -dsimp only [simprocAttr,↓vpre,zp,word_cells]
  refine za0 ?_
  refine awp_ret ?_
  simp -dsimp only [simprocAttr,↓vpre,zp,zr,Try.results98,word_agg]
  refine⟨hup,wordW,?_⟩
  simp [objectM,e10,ha,hk]
 have e10:i.op≠10:=by simpa using h
 refine zh1 (za0 ?_)
 apply zk0 rfl<;>intro h
 ·have e12:i.op=12:=by simpa using h
  refine zh1 ?_
  refine .inl ⟨_,wordOf_spec o.list.length,by simp only [uptoL,AVal.upto,zt],later_intro ?_⟩
  simp -dsimp only [simprocAttr,↓vpre,zp,word_cells]
  refine za0 ?_
  refine awp_ret ?_
  simp -dsimp only [simprocAttr,↓vpre,zp,zr,Try.results98,word_agg]
  refine⟨hup,wordW,?_⟩
  simp [objectM,e12,ha,hk]
 have e12:i.op≠12:=by simpa using h
 obtain⟨p,h1⟩:=hp e10 e11 e12
 have hb:=argS_of h1
 refine zg1 ?_
 simp -dsimp only [simprocAttr,↓vpre,zp,h1]
 refine za0 ?_
 apply zk0 rfl<;>intro h
 ·have hpk:p.kind≠0:=by simpa using h
  refine zh1 (za0 ?_)
  refine awp_ret ?_
  simp -dsimp only [simprocAttr,↓vpre,zp,zr,Try.results98,zero_agg]
  refine⟨hup,zeroW,?_⟩
  simp [objectM,e10,e11,e12,ha,hb,hk,hpk]
 have hpk:p.kind=0:=by simpa using h
 by_cases hlo:p.n<0
 ·have hdl:decide (p.n<0)=true:=decide_eq_true hlo
  refine zg1 ?_
  simp -dsimp only [simprocAttr,↓vpre,zp,h1,hdl]
  refine⟨ob (by kernel_rfl),?_⟩
  refine za0 ?_
  refine zw0 rfl ?_
  refine zh1 (za0 ?_)
  refine awp_ret ?_
  simp -dsimp only [simprocAttr,↓vpre,zp,zr,Try.results98,zero_agg]
  refine⟨hup,zeroW,?_⟩
  simp [objectM,e10,e11,e12,ha,hb,hk,hpk,hlo]
 have hdl:decide (p.n<0)=false:=decide_eq_false hlo
 by_cases hlen:(o.list.length:Int)≤p.n
 ·have hdn:decide ((o.list.length:Int)≤p.n)=true:=decide_eq_true hlen
  refine zg1 ?_
  simp -dsimp only [simprocAttr,↓vpre,zp,h1,hdl,hdn]
  refine⟨ob (by kernel_rfl),?_⟩
  refine za0 ?_
  refine zw0 rfl ?_
  refine zh1 (za0 ?_)
  refine awp_ret ?_
  simp -dsimp only [simprocAttr,↓vpre,zp,zr,Try.results98,zero_agg]
  refine⟨hup,zeroW,?_⟩
  simp [objectM,e10,e11,e12,ha,hb,hk,hpk,hlo,hlen]
 have hdn:decide ((o.list.length:Int)≤p.n)=false:=decide_eq_false hlen
 obtain⟨x,hx⟩:∃x,o.list[p.n.toNat]?=some x:=⟨o.list[p.n.toNat]'(by omega),List.getElem?_eq_getElem _⟩
 have hxu:=under_list hou x (List.mem_of_getElem? hx)
 have hax:=argS_of hx
 refine zg1 ?_
 simp -dsimp only [simprocAttr,↓vpre,zp,h1,hdl,hdn]
 refine⟨ob (by kernel_rfl),?_⟩
 refine za0 ?_
 refine zu0 rfl ?_
 refine zb1 ?_
 refine zg1 ?_
 simp -dsimp only [simprocAttr,↓vpre,zp,h1,hx]
 repeat(refine⟨by omega,?_⟩)
 refine⟨ob (by kernel_rfl),?_⟩
 refine za0 ?_
 refine awp_ret ?_
 simp -dsimp only [simprocAttr,↓vpre,zp,zr,Try.results98]
 refine⟨hup,resW hxu,?_⟩
 simp [objectM,e10,e11,e12,ha,hb,hk,hpk,hlo,hlen,hax]
end Go.Proofs.Ytkhnjeblbiocaaa
