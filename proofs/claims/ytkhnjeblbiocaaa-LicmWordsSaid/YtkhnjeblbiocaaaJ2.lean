/-
  Texts bound together by a program of mine: YtakdmelemfnmdaaAvr, YtakdmelemfnmdaaAvu, YtakdmelemfnmdaaAvl, YtakdmelemfnmdaaAvm, YtkhnjeblbiocaaaTab, YtkhnjeblbiocaaaPa, YtkhnjeblbiocaaaPb, YtkhnjeblbiocaaaPm, YtkhnjeblbiocaaaPr, YtakdmelemfnmdaaAvn, YtakdmelemfnmdaaAvo, YtakdmelemfnmdaaAvq, YtakdmelemfnmdaaAvp, YtakdmelemfnmdaaAvs, YtakdmelemfnmdaaAvt, YtakdmelemfnmdaaAvz, YtakdmelemfnmdaaAvw, YtkhnjeblbiocaaaPd, YtkhnjeblbiocaaaPdz, YtkhnjeblbiocaaaPe, YtkhnjeblbiocaaaT1, YtkhnjeblbiocaaaT2, YtkhnjeblbiocaaaT3, YtkhnjeblbiocaaaT30, YtkhnjeblbiocaaaPo, YtkhnjeblbiocaaaT24, YtkhnjeblbiocaaaT25, YtkhnjeblbiocaaaT4, YtkhnjeblbiocaaaT5, YtkhnjeblbiocaaaT6, YtkhnjeblbiocaaaT7, YtkhnjeblbiocaaaT8.
-/
import Derived.Test.YtkhnjeblbiocaaaJ1
import Derived.ChangeKeysEq
import Derived.Laws.StructEq
import Derived.Test.YtkhnjeblbiocaaaChecked
import Derived.KernelRfl
import Derived.ProofKit
import Derived.Carry
import Derived.SizedLaws
import Derived.Deep.Slices
import Derived.JoinedOf
set_option linter.all false
set_option maxRecDepth 100000
set_option maxHeartbeats 4000000

namespace Go.Av
theorem Ef{P:Program}{kb:Nat}{c:Code}{Q:dR->St->Prop}{n:Nat}{ba:List (Nat×ae)}{O:List ak}(k off sz:Nat){cs:List ae}(jJ:O[k]?=some (.cells cs))(wy:cs[off]?=some (.v (.slice none 0 0)))
  (h:cc P kb c Q ⟨n,ba,(O++[ak.spare 0]).set k (.cells (cs.set off (.aE sz [] (.tok O.length))))⟩):cc P kb c Q ⟨n,ba,O⟩ :=
 h.weaken fun base a g hb hr=>by
  have hO:g.objs=O:=hr.objs;have z':=Le.mark hr.good (ak.spare 0);have Ck:=Good.mark hr.good 0;have HU:g.objs[k]?=some (.cells cs):=by rw[hO];exact jJ
  have wz:(g.mark (ak.spare 0)).objs[k]?=some (.cells cs):=cW HU;obtain⟨l,arr,t,e1,e2,e3,e4,e5,e6⟩:=Ck.cells k cs wz;have DY:ku (g.mark (ak.spare 0)) k (.cells cs) (some l) (.cells (cs.set off (.aE sz [] (.tok O.length)))) g.w:={
   obj:=wz
   os:=rfl
   tape:=rfl
   output:=rfl
   size:=Nat.le_refl _
   block:=fun _ _ _=>rfl
   cell:=fun b off x hx _=>hx
   place:=fun l1 h1 _=>by
    simp only[Option.some.injEq]at h1;subst h1;exact .inr ⟨l,e1,trivial,rfl,Nat.le_refl _⟩
   spare:=fun m h=>by cases h
   plain:=fun _=>⟨by simp[ak.aF],e1⟩
   gone:=by simp }
  have px:=Le.br Ck DY;have qq:=Good.br Ck DY ⟨l,arr,t,rfl,e2,e3,by simpa using e4,fun j d u hd hu=>by
   rw[List.getElem?_set]at hd;split at hd
   ·rename_i hj;subst hj;split at hd
    ·simp only[Option.some.injEq]at hd;subst hd;have hv:=(e5 off _ u wy hu).cq.1;subst hv;exact .nil (fun id e=>by
      simp only[kP.tok.injEq]at e;subst e;simp[G.br,G.mark,hO]) (by simp)
    cases hd
   ·exact(e5 j d u hd hu).mono px,fun d hd=>by
   rcases List.mem_or_eq_of_mem_set hd with q|q
   ·exact e6.1 d q
   subst q;trivial,e6.2⟩ (fun l1 h1 _=>by
   simp only[Option.some.injEq]at h1;subst h1;exact a5 e3)
  exact⟨(g.mark (ak.spare 0)).br k (some l) (.cells (cs.set off (.aE sz [] (.tok O.length)))) g.w,rfl,{ le:=(hr.le.trans z').trans px,good:=qq,objs:=by simp[G.mark,G.br,hO],size:=hr.size,defers:=hr.defers,slot:=fun s y hy=>(hr.slot s y hy).imp fun u hu=>⟨hu.1,(hu.2.mono z').mono px⟩ }⟩
theorem rj{P:Program}{o:Oper}{σ:St}{op:BinOp}{t t' e:TypeId}{x y:Operand}{x':ae}{b r:Bool}
  (ho:o.op=.binOp op t x y t') (hd:∀d,o.dst=some d->d<σ.n) (ht:P.underlying t=some (.pointer e)) (hx:σ.ev x=some x') (hy:σ.ev y=some (.v (.pointer none)))
  (hb:(x'=.v (.pointer none)∧b=true)∨(∃oa cs,x'=.ip oa cs∧b=false)∨(∃id off,x'=.mp id off∧b=false))
  (hr:(op=.eql∧r=b)∨(op=.neq∧r=!b)):Cert P o σ (.v (.bool r)) .pure :=
 Cert.bQ .pure (.inl rfl) hd fun a g _ h _=>by
  have fJ:=h x (by simp[ho,Op.operands]) _ hx;have ey:=(h y (by simp[ho,Op.operands]) _ hy).cq.1;have ex:∃q:Option Addr,a.eval x=.pointer q∧b=q.isNone:=by
   rcases hb with⟨e1,e2⟩|⟨oa,cs,e1,e2⟩|⟨id,off,e1,e2⟩
   ·subst e1;exact⟨none,fJ.cq.1,e2⟩
   ·subst e1;obtain⟨bb,off,_,e3,_⟩:=fJ.m9;exact⟨some ⟨bb,off,none⟩,e3,e2⟩
   subst e1;obtain⟨l,o1,_,_,_,e3⟩:=fJ.lj;exact⟨_,e3,e2⟩
  obtain⟨q,ex,eb⟩:=ex;have hg:=cY (P:=P) op t x y (.pointer q) (.pointer none) g.w (by simp) (by simp);refine⟨.bool r,?_,.v trivial⟩;have he:(Op.equal t (.pointer q) (.pointer none)).run P g.w=.ok q.isNone g.w:=by
   have e:∃d,Op.equal t (.pointer q) (.pointer none)=Op.equalIn (d+1) t (.pointer q) (.pointer none):=⟨9999,rfl⟩
   obtain⟨d,e⟩:=e;rw[e];cases q<;>simp[Op.equalIn,Sem.run_bind,run_underlying ht]
  rcases hr with⟨e1,e2⟩|⟨e1,e2⟩<;>subst e1<;>subst e2<;>simp[execOp,ho,ex,ey,hg,binOp,he,eb]
def nA:BinOp->Addr->Addr->Option Bool
 | .eql,a,b=>some (decide (a=b))
 | .neq,a,b=>some (!decide (a=b))
 | _,_,_=>none
theorem tV{P:Program}{o:Oper}{σ:St}{op:BinOp}{t t' e:TypeId}{n:Nat}{x y:Operand}{a b:Addr}{cs ds:List ae}{r:Bool}
  (ho:o.op=.binOp op t x y t') (hd:∀d,o.dst=some d->d<σ.n) (ht:P.underlying t=some (.pointer e)) (hn:∀w,(sizeOf e).run P w=.ok n w) (tJ:n≠0) (hx:σ.ev x=some (.ip (some a) cs)) (hy:σ.ev y=some (.ip (some b) ds)) (Bq:a.block=b.block)
  (hr:nA op a b=some r):Cert P o σ (.v (.bool r)) .pure :=
 Cert.bQ .pure (.inl rfl) hd fun ac g _ h _=>by
  have ex:ac.eval x=.pointer (some a):=by
   obtain⟨b1,off,f,e1,e2,_⟩:=(h x (by simp[ho,Op.operands]) _ hx).m9;rcases e2 with e2|e2
   ·cases e2
   rw[e1,e2]
  have ey:ac.eval y=.pointer (some b):=by
   obtain⟨b1,off,f,e1,e2,_⟩:=(h y (by simp[ho,Op.operands]) _ hy).m9;rcases e2 with e2|e2
   ·cases e2
   rw[e1,e2]
  have hg:=cY (P:=P) op t x y (.pointer (some a)) (.pointer (some b)) g.w (by simp) (by simp);refine⟨.bool r,?_,.v trivial⟩;have he:(Op.equal t (.pointer (some a)) (.pointer (some b))).run P g.w=.ok (decide (a=b)) g.w:=by
   have e0:∃d,Op.equal t (.pointer (some a)) (.pointer (some b))=Op.equalIn (d+1) t (.pointer (some a)) (.pointer (some b)):=⟨9999,rfl⟩
   obtain⟨d,e0⟩:=e0;rw[e0];simp[Op.equalIn,Sem.run_bind,run_underlying ht,hn,tJ,sameAddr,Bq]
   first
    | rfl
    | exact beq_eq_decide
    | (rw[Bool.eq_iff_iff]
       simp)
  have wC:(op=.eql∧r=decide (a=b))∨(op=.neq∧r=!decide (a=b)):=by
   cases op<;>simp[nA]at hr<;>simp[hr]
  rcases wC with⟨e1,e2⟩|⟨e1,e2⟩<;>subst e1<;>subst e2<;>simp[execOp,ho,ex,ey,hg,binOp,he]
theorem pM{P:Program}{aW:eo}(hT:cb P aW){t e:TypeId}{n:Nat}{ti:cr}(ht:aW t=some ti)(aT:ti.desc=.array n e):P.underlying t=some (.array n e):=by
 obtain⟨_,d,h1,h2⟩:=hT t ti ht;rw[aT]at h2;simp only[oC]at h2;rw[h1,h2]
theorem mW{P:Program}{aW:eo}(hT:cb P aW){o:Oper}{σ:St}{t e:TypeId}{x i:Operand}{ti te:cr}{id off len:Nat}{k:IntKind}{n:Int}
  (ho:o.op=.indexAddr t x i) (hd:∀d,o.dst=some d->d<σ.n) (ht:aW t=some ti) (aT:ti.desc=.array len e) (he:aW e=some te)
  (hx:σ.ev x=some (.mp id off)) (hi:σ.ev i=some (.v (.int k n))) (h0:0<=n) (hn:n<len):Cert P o σ (.mp id (off+n.toNat*te.size)) .pure :=
 Cert.bQ .pure (.inl rfl) hd fun a g _ h _=>by
  have ei:=(h i (by simp[ho,Op.operands]) _ hi).cq.1;have hu:=pM hT ht aT;obtain⟨l,o1,h1,h2,h3,eu⟩:=(h x (by simp[ho,Op.operands]) _ hx).lj;exact⟨.pointer (some ⟨l.block,off+n.toNat*te.size,none⟩),by simp[execOp,ho,ei,eu,Instr.indexAt,Instr.sureAddr,asIntOf,run_underlying hu,h0,hn,(hT e te he).sizeOf,addr_add],.mp h1 h2 h3⟩
theorem pY{P:Program}{aW:eo}(hT:cb P aW){o:Oper}{σ:St}{t e:TypeId}{parts:Array (Nat×Operand)}{n:Nat}{ti te:cr}{ps:List (Nat×ae)}{cs:List ae}
  (ho:o.op=.build t parts) (hd:∀d,o.dst=some d->d<σ.n) (ht:aW t=some ti) (aT:ti.desc=.array n e) (he:aW e=some te) (qo:σ.eI parts.toList=some ps) (gK:∀p∈ps,p.2.flat)
  (eZ:hU (fun i=>some (i*te.size,te.size)) ti.zero ps=some cs):Cert P o σ (.agg cs) .pure :=
 Cert.bQ .pure (.inl rfl) hd fun a g _ h _=>by
  have bM:=iQ (a:=a) (g:=g) (fun x hx y hy=>h x (by simpa[ho,Op.operands]using hx) y hy) qo gK;obtain⟨⟨i,z,h1,h2,h3,h4,h5,h6,h7,h8,h9⟩,d,rW,HC⟩:=hT t ti ht;have hu:=pM hT ht aT;obtain⟨⟨ie,ze,k1,k2,_⟩,_⟩:=hT e te he;obtain⟨bZ,q1,q2,q3⟩:=mn (fun i=>some (i*te.size,te.size)) bM (cs:=ti.zero) (arr:=z.cells) ⟨h5,h8 g⟩ eZ;have hb:P.built t (parts.map fun(i,x)=>(i,a.eval x)).toList=some bZ:=by
   unfold Program.built;simp only[h1,hu,h4,k1,k2];rw[Array.toList_map];simpa using q1
  have bz:=run_build g.w t _ bZ hb;exact⟨.agg bZ,by simp[execOp,ho,bz],q2.agg (q3 h9)⟩
def si(P:Program)(t:TypeId)(k:IntKind):Prop:=∃e i,P.underlying t=some (.array 2 e)∧P.info? e=some i∧i.size=1∧P.underlying e=some (.int k)∧P.eqGuardType P.depth t=false
theorem oe{P:Program}{e:TypeId}{k:IntKind}(he:P.underlying e=some (.int k))(xs:Array Value)(i:Nat)(u:Value)(hu:xs[i]?=some u)(w:World):(part e xs i).run P w=.ok u w:=by
 simp[part,Go.isAgg,run_underlying he,hu]
theorem tX{P:Program}{o:Oper}{σ:St}{op:BinOp}{t t':TypeId}{x y:Operand}{k:IntKind}{a0 a1 b0 b1:Int}{r:Bool}
  (ho:o.op=.binOp op t x y t') (hd:∀d,o.dst=some d->d<σ.n) (hP:si P t k)
  (hx:σ.ev x=some (.agg [.v (.int k a0),.v (.int k a1)])) (hy:σ.ev y=some (.agg [.v (.int k b0),.v (.int k b1)]))
  (hr:(op=.eql∧r=(decide (a0=b0)&&decide (a1=b1)))∨(op=.neq∧r=!(decide (a0=b0)&&decide (a1=b1)))):Cert P o σ (.v (.bool r)) .pure :=
 Cert.bQ .pure (.inl rfl) hd fun ac g _ h _=>by
  obtain⟨e,ie,Et,k1,cU,hu,j7⟩:=hP;have cells:∀{z:Operand} {c0 c1:Int},z∈o.op.operands->σ.ev z=some (.agg [.v (.int k c0),.v (.int k c1)])->ac.eval z=.agg #[.int k c0,.int k c1]:=fun {z c0 c1} hz qo=>by
   obtain⟨vs,e1,e2,e3⟩:=(h z hz _ qo).sl;rw[e1];congr 1;have e2:vs.size=2:=e2;have h0:vs[0]?=some (vs[0]'(by omega)):=by simp[e2]
   have h1:vs[1]?=some (vs[1]'(by omega)):=by simp[e2]
   have q0:=(e3.2 0 _ _ rfl h0).cq.1;have q1:=(e3.2 1 _ _ rfl h1).cq.1;apply Array.ext
   ·simp[e2]
   intro i Kg EJ;have:i=0∨i=1:=by
    simp at EJ;omega
   rcases this with rfl|rfl
   ·simpa using q0
   simpa using q1
  have ex:=cells (by simp[ho,Op.operands]) hx;have ey:=cells (by simp[ho,Op.operands]) hy;have hg:=run_eqGuard_agg (P:=P) g.w op t x y #[.int k a0,.int k a1] #[.int k b0,.int k b1] j7;refine⟨.bool r,?_,.v trivial⟩;have hc:P.cellsOf e=1:=by
   simp[Program.cellsOf,k1,cU]
  have m5:(Op.equal t (.agg #[.int k a0,.int k a1]) (.agg #[.int k b0,.int k b1])).run P g.w=.ok (decide (a0=b0)&&decide (a1=b1)) g.w:=by
   have e0:∃d,Op.equal t (.agg #[.int k a0,.int k a1]) (.agg #[.int k b0,.int k b1])=Op.equalIn (d+2) t (.agg #[.int k a0,.int k a1]) (.agg #[.int k b0,.int k b1]):=⟨9998,rfl⟩
   obtain⟨d,e0⟩:=e0;rw[e0,run_equalIn_array g.w (d+1) _ _ Et k1,hc];have hi:∀(p q:Int),(Op.equalIn (d+1) e (.int k p) (.int k q)).run P g.w=.ok (decide (p=q)) g.w:=fun p q=>by
    have JJ:(p == q)=decide (p=q):=by
     by_cases hq:p=q
     ·simp[hq]
     simp[hq]
    simp[Op.equalIn,run_underlying hu,JJ]
   have p0:=oe hu #[.int k a0,.int k a1] 0 (.int k a0) rfl g.w;have p1:=oe hu #[.int k a0,.int k a1] 1 (.int k a1) rfl g.w;have s0:=oe hu #[.int k b0,.int k b1] 0 (.int k b0) rfl g.w;have s1:=oe hu #[.int k b0,.int k b1] 1 (.int k b1) rfl g.w;show(Op.eqItems (d+1) e 1 _ _ [0,1]).run P g.w=_;simp only[Op.eqItems,Sem.run_bind,Nat.zero_mul,Nat.one_mul,p0,s0,p1,s1,hi,Result.andThen_ok];by_cases q0:a0=b0
   ·subst q0;simp only[decide_true,Bool.not_true,Bool.false_eq_true,if_false,Bool.true_and,Sem.run_bind,p1,s1,hi,Result.andThen_ok];by_cases q1:a1=b1<;>simp[q1]
   simp[q0]
  rcases hr with⟨e1,e2⟩|⟨e1,e2⟩<;>subst e1<;>subst e2<;>simp[execOp,ho,ex,ey,hg,binOp,m5]
structure Tag{α:Type}(a:α):Type where
def on{α:Type}(x:Option α)(f:α->Prop)(_t:Tag f:={}):Prop :=
 match x with
 | some y=>f y
 | none=>False
theorem s8{α:Type}(y:α)(f:α->Prop)(t:Tag f):on (some y) f t=f y:=rfl
theorem aG{α:Type}{x:Option α}{f:α->Prop}{t:Tag f}(h:on x f t):∃y,x=some y∧f y:=by
 cases x with
 | none=>exact h.elim
 | some y=>exact⟨y,rfl,h⟩
def rN(p:Unit->Prop)(_t:Tag p:={}):Prop:=p ()
def At(σ:St)(f:St->Prop)(_t:Tag f:={}):Prop:=f σ
theorem bd{σ:St}{f:St->Prop}{t:Tag f}(h:f σ):At σ f t:=h
def mJ(b:Bool)(X Y:Unit->Prop)(_t:Tag X:={})(J8:Tag Y:={}):Prop:=if b then X ()else Y ()
theorem dQ(X Y:Unit->Prop)(t:Tag X)(t':Tag Y):mJ true X Y t t'=X ():=rfl
theorem dv(X Y:Unit->Prop)(t:Tag X)(t':Tag Y):mJ false X Y t t'=Y ():=rfl
theorem xg{b:Bool}{X Y:Unit->Prop}{t:Tag X}{t':Tag Y}(h:b=true->X ())(k:b=false->Y ()):mJ b X Y t t':=by
 cases b
 ·exact k rfl
 exact h rfl
abbrev ga:=ae->Mode->Prop
def isNil:Operand->Bool
 | .const (.slice none 0 0)=>true
 | _=>false
def qU(aW:eo)(ty:TypeId)(x:Operand)(σ:St)(K:ga):Prop :=
 match isNil x with
 | true=>on (aW ty) fun ti=>match ti.desc with
  | .slice e=>on (aW e) fun te=>K (.aE te.size [] .ex) .pure
  | _=>False
 | false=>on (σ.ev x) fun y=>K y .pure
def xi(σ:St)(c x z:Operand)(K:ga):Prop :=
 on (σ.ev c) fun
  | .v (.bool b)=>mJ b (fun _=>on (σ.ev x) fun y=>K y .pure) (fun _=>on (σ.ev z) fun y=>K y .pure)
  | _=>False
def mb(aW:eo)(s:TypeId)(k:Nat)(x:ae)(K:ga):Prop :=
 on (aW s) fun ti=>match ti.desc with
  | .struct fs=>on fs[k]? fun f=>on (aW f.2) fun tf=>tf.size≠0 ∧
   match x with
   | .ip oa cs=>K (.ip (oa.map (·.add f.1)) (cs.drop f.1)) .pure
   | .mp id off=>K (.mp id (off+f.1)) .pure
   | _=>False
  | _=>False
def tB(aW:eo)(s:TypeId)(k:Nat)(x:ae)(K:ga):Prop :=
 on (aW s) fun ti=>match ti.desc with
  | .struct fs=>on fs[k]? fun f=>on (aW f.2) fun tf=>match x with
   | .agg cs=>mJ tf.desc.agg (fun _=>K (.agg ((cs.drop f.1).take tf.size)) .pure) (fun _=>on cs[f.1]? fun r=>K r .pure)
   | _=>False
  | _=>False
def xh(aW:eo)(O:List ak)(t:TypeId)(x:ae)(K:ga):Prop :=
 on (aW t) fun ti =>
  match x with
  | .ip _ cs=>mJ ti.desc.agg (fun _=>ti.size<=cs.length∧K (.agg (cs.take ti.size)) .pure) (fun _=>on cs[0]? fun c=>K c .pure)
  | .mp id off=>on O[id]? fun
   | .cells os=>mJ ti.desc.agg (fun _=>off+ti.size<=os.length∧K (.agg ((os.drop off).take ti.size)) (.rd id)) (fun _=>on os[off]? fun c=>K c (.rd id))
   | _=>False
  | _=>False
def tD(aW:eo)(O:List ak)(t:TypeId)(x y:ae)(K:ga):Prop :=
 on (aW t) fun ti =>
  match x with
  | .mp id off=>on O[id]? fun
   | .cells os=>y.flat∧y.cells.length=ti.size∧off+ti.size<=os.length∧K (.v (.bool false)) (.wr O.length [id] (O.set id (.cells (aS os off y.cells))))
   | _=>False
  | _=>False
def mc(aW:eo)(t:TypeId)(x i:ae)(K:ga):Prop :=
 on (aW t) fun ti=>match ti.desc with
  | .slice e=>on (aW e) fun te =>
   match i with
   | .v (.int _ n) =>
    (match x with
    | .aE sz xs ow=>te.size=sz∧0<=n∧on xs[n.toNat]? fun y=>K (.ip (nW ow (n.toNat*te.size)) y.cells) .pure
    | .ms id off len _=>0<=n∧n<len∧K (.mp id (off+n.toNat*te.size)) .pure
    | .os id len _=>0<=n∧n<len∧K (.mp id (n.toNat*te.size)) .pure
    | _=>False)
   | _=>False
  | .array len e=>on (aW e) fun te =>
   match i with
   | .v (.int _ n) =>
    (match x with
    | .mp id off=>0<=n∧n<len∧K (.mp id (off+n.toNat*te.size)) .pure
    | _=>False)
   | _=>False
  | _=>False
def qd:BinOp->ByteArray->ByteArray->Option Bool
 | .eql,a,b=>some (decide (a=b))
 | .neq,a,b=>some (!decide (a=b))
 | _,_,_=>none
def nB:BinOp->Bool->Bool->Option Bool
 | .eql,a,b=>some (a == b)
 | .neq,a,b=>some (!(a == b))
 | _,_,_=>none
def xL(op:BinOp)(k:IntKind)(m n:Int)(K:ga):Prop :=
 mJ (jD op m n).isSome (fun _=>on (jD op m n) fun b=>K (.v (.bool b)) .pure) (fun _=>on (ew k op m n) fun r=>BA k<=r∧r<=yd k∧K (.v (.int k r)) .pure)
def iL:BinOp->Bool->Option Bool
 | .eql,b=>some b
 | .neq,b=>some (!b)
 | _,_=>none
def yw:ae->Option Bool
 | .v (.pointer none)=>some true
 | .ip _ _=>some false
 | .mp _ _=>some false
 | _=>none
theorem yx{x:ae}{b:Bool}(h:yw x=some b):(x=.v (.pointer none)∧b=true)∨(∃oa cs,x=.ip oa cs∧b=false)∨(∃id off,x=.mp id off∧b=false):=by
 unfold yw at h;split at h
 ·exact .inl ⟨rfl,by simpa using h.symm⟩
 ·exact .inr (.inl ⟨_,_,rfl,by simpa using h.symm⟩)
 ·exact .inr (.inr ⟨_,_,rfl,by simpa using h.symm⟩)
 cases h
def Ea(P:Program)(op:BinOp)(t:TypeId)(x:ae)(K:ga):Prop :=
 (∃e,P.underlying t=some (.pointer e))∧on (yw x) fun b=>on (iL op b) fun r=>K (.v (.bool r)) .pure
def mS(P:Program)(op:BinOp)(t:TypeId)(x y:ae)(K:ga):Prop :=
 match x,y with
 | .v (.int k m),.v (.int k' n)=>mJ (dE op) (fun _=>0<=n∧BA k<=eU k op m n∧eU k op m n<=yd k∧K (.v (.int k (eU k op m n))) .pure) (fun _=>k=k'∧xL op k m n K)
 | .v (.string a),.v (.string b)=>on (qd op a b) fun r=>K (.v (.bool r)) .pure
 | .v (.bool a),.v (.bool b)=>P.underlying t=some .bool∧on (nB op a b) fun r=>K (.v (.bool r)) .pure
 | x,.v (.pointer none)=>Ea P op t x K
 | .ip (some a) _,.ip (some b) _=>(∃e n,P.underlying t=some (.pointer e)∧(∀w,(sizeOf e).run P w=.ok n w)∧n≠0)∧a.block=b.block∧on (nA op a b) fun r=>K (.v (.bool r)) .pure
 | .agg [.v (.int k a0),.v (.int k1 a1)],.agg [.v (.int k2 b0),.v (.int k3 b1)]=>(k1=k∧k2=k∧k3=k∧si P t k)∧on (iL op (decide (a0=b0)&&decide (a1=b1))) fun r=>K (.v (.bool r)) .pure
 | _,_=>False
def TD.elem:TD->Option TypeId
 | .slice e=>some e
 | _=>none
theorem TD.kz{d:TD}{e:TypeId}(h:d.elem=some e):d=.slice e:=by
 cases d<;>simp[TD.elem]at h;rw[h]
def wO:ae->Option Bool
 | .v (.slice none 0 0)=>some true
 | .aE _ _ .nn=>some false
 | .ms _ _ _ _=>some false
 | _=>none
def Bj(aW:eo)(op:BinOp)(t:TypeId)(x:ae)(K:ga):Prop :=
 on (aW t) fun ti=>on ti.desc.elem fun _=>on (wO x) fun b=>on (iL op b) fun r=>K (.v (.bool r)) .pure
def Bm(op:UnOp)(x:ae)(K:ga):Prop :=
 match op,x with
 | .not,.v (.bool b)=>K (.v (.bool !b)) .pure
 | .neg,.v (.int k n)=>BA k<=-n∧-n<=yd k∧K (.v (.int k (-n))) .pure
 | _,_=>False
def yR(σ:St)(p:Option Operand)(vR:Nat)(K:Nat->Prop):Prop :=
 match p with
 | none=>K vR
 | some q=>on (σ.ev q) fun
  | .v (.int _ n)=>0<=n∧K n.toNat
  | _=>False
def vf(sz:Nat)(xs:List ae)(o:kP)(l h:Nat)(K:ga):Prop :=
 match o with
 | .ex=>mJ (decide (l=0)&&decide (h=xs.length)) (fun _=>K (.aE sz xs .ex) .pure) (fun _=>K (.aE sz ((xs.take h).drop l) .sh) .pure)
 | _=>K (.aE sz ((xs.take h).drop l) .sh) .pure
theorem xf{sz:Nat}{xs:List ae}{o:kP}{l h:Nat}{K:ga}(k:vf sz xs o l h K):(o=.ex∧l=0∧h=xs.length∧K (.aE sz xs .ex) .pure)∨K (.aE sz ((xs.take h).drop l) .sh) .pure:=by
 unfold vf at k;split at k
 ·by_cases hf:(decide (l=0)&&decide (h=xs.length))=true
  ·rw[hf,dQ]at k;simp only[Bool.and_eq_true,decide_eq_true_eq]at hf;exact .inl ⟨rfl,hf.1,hf.2,k⟩
  rw[show(decide (l=0)&&decide (h=xs.length))=false by simpa using hf,dv]at k;exact .inr k
 exact .inr k
def tC(aW:eo)(σ:St)(t:TypeId)(x:ae)(lo hi mx:Option Operand)(K:ga):Prop :=
 on (aW t) fun ti=>match ti.desc with
  | .slice e=>on (aW e) fun te =>
   match x,mx with
   | .aE sz xs ow,none=>te.size=sz∧yR σ lo 0 fun l=>yR σ hi xs.length fun h=>l<=h∧h<=xs.length∧vf sz xs ow l h K
   | .ms id off len cap,none=>yR σ lo 0 fun l=>yR σ hi len fun h=>l<=h∧h<=cap∧l<cap∧h<=2 ^ 62∧K (.ms id (off+l*te.size) (h-l) (cap-l)) .pure
   | .raw sz len id,none=>0<len∧yR σ lo 0 fun l=>yR σ hi len fun h=>l=0∧h=0∧K (.aE sz [] (.tok id)) .pure
   | .os id len sz,none=>yR σ lo 0 fun l=>yR σ hi len fun h=>l=0∧h<=len∧0<len∧K (.os id h sz) .pure
   | _,_=>False
  | _=>False
def kR:List (Nat×ae)->Prop
 | []=>True
 | p::r=>p.2.flat∧kR r
def nq(n:Nat):List ae->Prop
 | []=>True
 | x::r=>x.cells.length=n∧nq n r
def tx(aW:eo)(σ:St)(t:TypeId)(parts:Array (Nat×Operand))(K:ga):Prop :=
 on (aW t) fun ti=>match ti.desc with
  | .struct fs=>on (ia aW fs) fun pl=>on (σ.eI parts.toList) fun ps=>kR ps∧on (hU (fun i=>pl[i]?) ti.zero ps) fun cs=>K (.agg cs) .pure
  | .array _ e=>on (aW e) fun te=>on (σ.eI parts.toList) fun ps=>kR ps∧on (hU (fun i=>some (i*te.size,te.size)) ti.zero ps) fun cs=>K (.agg cs) .pure
  | _=>False
def lv(aW:eo)(σ:St)(t:TypeId)(len:Nat)(parts:Array (Nat×Operand))(K:ga):Prop :=
 on (aW t) fun ti=>match ti.desc with
  | .slice e=>on (aW e) fun te=>on (σ.eI parts.toList) fun ps=>kR ps∧on (gE 0 ps) fun xs=>0<te.size∧xs.length=len∧nq te.size xs∧len*te.size<=2 ^ 24∧K (.aE te.size (xs.map ae.share) .ex) .pure
  | _=>False
structure Md where
 app:Bool
 made:Bool
def me(mk:Bool)(aW:eo)(O:List ak)(t:TypeId)(x y:ae)(K:ga):Prop :=
 on (aW t) fun ti=>match ti.desc with
  | .slice e=>on (aW e) fun te =>
   match x,y with
   | .v (.int _ n),.v (.int _ n')=>n'=n∧0<=n∧te.bytes*n.toNat<=2 ^ 48∧n.toNat<=2 ^ 62∧0<te.size ∧
     mJ mk (fun _=>(te.desc.agg=true∨te.size=1)∧K (.aE te.size (List.replicate n.toNat (zeroOf te).share) .ex) .pure)
      (fun _=>K (.ms O.length 0 n.toNat n.toNat) (.wr O.length [] (O++[.cells (List.replicate n.toNat te.zero).flatten])))
   | _,_=>False
  | _=>False
def wI(P:Program)(k:TypeId):Option KT :=
 match P.underlying k with
 | some .string=>some .str
 | some (.int k)=>some (.int k)
 | _=>none
def qT(P:Program)(aW:eo)(O:List ak)(t:TypeId)(x y:ae)(ok:Bool)(K:ga):Prop :=
 on (aW t) fun ti=>match ti.desc with
  | .map k e=>on (wI P k) fun kt=>on (aW e) fun te=>(te.desc.agg=true∨te.size=1) ∧
   match y with
   | .v key=>kt.ok key ∧
    (match x with
    | .im G4 es=>G4=kt∧K (ka ok (jh es key) (zeroOf te)) .pure
    | .mm id=>on O[id]? fun
     | .map G4 es=>G4=kt∧K (ka ok (jh es key) (zeroOf te)) (.rd id)
     | _=>False
    | .v (.map none)=>K (ka ok none (zeroOf te)) .pure
    | _=>False)
   | _=>False
  | _=>False
def iZ(P:Program)(aW:eo)(O:List ak)(t:TypeId)(x y v:ae)(K:ga):Prop :=
 on (aW t) fun ti=>match ti.desc with
  | .map k _=>on (wI P k) fun kt =>
   match x,y with
   | .mm id,.v key=>kt.ok key∧on O[id]? fun
    | .map G4 es=>G4=kt∧K (.v (.bool false)) (.wr O.length [id] (O.set id (.map kt (ll es key v))))
    | _=>False
   | _,_=>False
  | _=>False
def oQ(P:Program)(aW:eo)(O:List ak)(t:TypeId)(K:ga):Prop :=
 on (aW t) fun ti=>match ti.desc with
  | .map k _=>on (wI P k) fun kt=>K (.mm O.length) (.wr O.length [] (O++[.map kt []]))
  | _=>False
def yp:ae->Option Nat
 | .aE _ xs _=>some xs.length
 | .ms _ _ len _=>some len
 | .os _ len _=>some len
 | _=>none
def Bh(aW:eo)(t:TypeId)(x:ae)(K:ga):Prop :=
 on (aW t) fun ti=>on ti.desc.elem fun _=>on (yp x) fun n=>K (.v (.int .i64 n)) .pure
theorem yq{x:ae}{n:Nat}(h:yp x=some n):(∃sz xs ow,x=.aE sz xs ow∧n=xs.length)∨(∃id off cap,x=.ms id off n cap)∨∃id sz,x=.os id n sz:=by
 cases x<;>simp[yp]at h
 ·exact .inl ⟨_,_,_,rfl,h.symm⟩
 ·subst h;exact .inr (.inl ⟨_,_,_,rfl⟩)
 subst h;exact .inr (.inr ⟨_,_,rfl⟩)
def qR(P:Program)(mk:Bool)(md:Bool)(aW:eo)(O:List ak)(t t':TypeId)(x y:ae)(K:ga):Prop :=
 on (aW t) fun ti=>on ti.desc.elem fun e=>on (aW e) fun te =>
   match x,y with
   | .aE sz xs .ex,.aE Ha ys _=>t'=t∧te.size=sz∧Ha=sz∧xs.length+ys.length<=2 ^ 62∧(xs.length+ys.length)*te.bytes<=2 ^ 47 ∧
     mJ md (fun _=>ys.length≠0∧mJ mk (fun _=>K (.os O.length (xs.length+ys.length) sz) (.wr O.length [] (O++[.cells (ao (xs++ys.map ae.share))])))
       (fun _=>K (.ms O.length 0 (xs.length+ys.length) (xs.length+ys.length)) (.wr O.length [] (O++[.cells (ao (xs++ys.map ae.share))]))))
      (fun _=>K (.aE sz (xs++ys.map ae.share) (.tok O.length)) (.wr O.length [] (O++[.spare (xs.length+ys.length)])))
   | .aE sz xs (.tok id),.aE Ha ys _=>t'=t∧te.size=sz∧Ha=sz∧O[id]?=some (.spare xs.length)∧xs.length+ys.length<=2 ^ 62∧(xs.length+ys.length)*te.bytes<=2 ^ 47 ∧
     K (.aE sz (xs++ys.map ae.share) (.tok id)) (.wr O.length [id] (O.set id (.spare (xs.length+ys.length))))
   | .aE _ xs .ex,.v (.int k n)=>xs=[]∧k=.i64∧P.underlying t'=some (.int .i64)∧0<n∧n.toNat<=2 ^ 62∧n.toNat*te.bytes<=2 ^ 47∧0<te.size ∧
     mJ md (fun _=>K (.raw te.size n.toNat O.length) (.wr O.length [] (O++[.spare 0])))
      (fun _=>K (.ms O.length 0 n.toNat n.toNat) (.wr O.length [] (O++[.cells (List.replicate n.toNat te.zero).flatten])))
   | .ms id off len cap,.aE sz ys _=>t'=t∧te.size=sz∧on O[id]? fun
    | .cells cs=>len+ys.length<=cap∧len+ys.length<=2 ^ 62∧off+(len+ys.length)*sz<=cs.length ∧
     K (.ms id off (len+ys.length) cap) (.wr O.length [id] (O.set id (.cells (aS cs (off+len*sz) (ao (ys.map ae.share))))))
    | _=>False
   | .os id len sz,.aE Ha ys _=>t'=t∧te.size=sz∧Ha=sz∧on O[id]? fun
    | .cells cs=>len*sz<=cs.length∧ys.length≠0∧len+ys.length<=2 ^ 62∧(len+ys.length)*te.bytes<=2 ^ 47 ∧
     K (.os O.length (len+ys.length) sz) (.wr O.length [id] (O.set id .gone++[.cells (cs.take (len*sz)++ao (ys.map ae.share))]))
    | _=>False
   | _,_=>False
def za:ae->Option Nat
 | .aE _ xs .ex=>some xs.length
 | _=>none
theorem xR{x:ae}{n:Nat}(h:za x=some n):∃sz xs,x=.aE sz xs .ex∧n=xs.length:=by
 unfold za at h;split at h
 ·exact⟨_,_,rfl,by simpa using h.symm⟩
 cases h
def Bg(aW:eo)(t:TypeId)(x:ae)(K:ga):Prop :=
 on (aW t) fun ti=>on ti.desc.elem fun _=>on (za x) fun n=>K (.v (.int .i64 n)) .pure
def tA(aW:eo)(O:List ak)(t:TypeId)(x:ae)(K:ga):Prop :=
 on (aW t) fun ti=>on ti.desc.elem fun e=>on (aW e) fun te=>match x with
  | .ms id off len _=>on O[id]? fun
   | .cells cs=>0<len∧0<te.size∧off+len*te.size<=cs.length∧K (.df []) (.wr O.length [id] (O.set id (.cells (aS cs off (List.replicate len te.zero).flatten))))
   | _=>False
  | _=>False
def Bl(x y:ae)(K:ga):Prop :=
 match x,y with
 | .v (.int .i64 m),.v (.int .i64 n)=>K (.v (.int .i64 (max m n))) .pure
 | _,_=>False
def Bi(x y:ae)(K:ga):Prop :=
 match x,y with
 | .v (.int .i64 m),.v (.int .i64 n)=>K (.v (.int .i64 (min m n))) .pure
 | _,_=>False
theorem zA{P:Program}{o:Oper}{σ:St}{oq:Array TypeId}{x y:Operand}{m n:Int}
  (ho:o.op=.call ⟨.builtin .max,#[x,y],oq⟩) (hd:∀d,o.dst=some d->d<σ.n) (hx:σ.ev x=some (.v (.int .i64 m))) (hy:σ.ev y=some (.v (.int .i64 n))):Cert P o σ (.v (.int .i64 (max m n))) .pure :=
 Cert.bQ .pure (.inl rfl) hd fun a g _ h _=>by
  obtain⟨ex,fx⟩:=(h x (by simp[ho,Op.operands,Call.operands]) _ hx).cq;obtain⟨ey,fy⟩:=(h y (by simp[ho,Op.operands,Call.operands]) _ hy).cq;refine⟨.int .i64 (max m n),?_,.v ?_⟩
  ·rw[cz ho];have e:(if n > m then n else m)=max m n:=by
    split<;>omega
   simp[builtin,Builtin.max_,Builtin.max2,ex,ey,e]
  rcases Int.le_total m n with q|q
  ·rw[Int.max_eq_right q];exact fy
  rw[Int.max_eq_left q];exact fx
theorem zv{P:Program}{o:Oper}{σ:St}{oq:Array TypeId}{x y:Operand}{m n:Int}
  (ho:o.op=.call ⟨.builtin .min,#[x,y],oq⟩) (hd:∀d,o.dst=some d->d<σ.n) (hx:σ.ev x=some (.v (.int .i64 m))) (hy:σ.ev y=some (.v (.int .i64 n))):Cert P o σ (.v (.int .i64 (min m n))) .pure :=
 Cert.bQ .pure (.inl rfl) hd fun a g _ h _=>by
  obtain⟨ex,fx⟩:=(h x (by simp[ho,Op.operands,Call.operands]) _ hx).cq;obtain⟨ey,fy⟩:=(h y (by simp[ho,Op.operands,Call.operands]) _ hy).cq;refine⟨.int .i64 (min m n),?_,.v ?_⟩
  ·rw[cz ho];have e:(if n<m then n else m)=min m n:=by
    split<;>omega
   simp[builtin,Builtin.min_,Builtin.min2,ex,ey,e]
  rcases Int.le_total m n with q|q
  ·rw[Int.min_eq_left q];exact fx
  rw[Int.min_eq_right q];exact fy
def tz(P:Program)(O:List ak)(f:ae)(dC:List ae)(K:ga):Prop :=
 match f with
 | .fn (.func id) fs cs =>
  (∃r,bw P id ((fs++dC++cs).map ae.share) r∧aw 0 ((fs++dC++cs).map ae.share)∧rN fun _=>K r .pure) ∨
  (∃r O',(bc P id O (fs++dC++cs) fun r' O1=>r'=r∧O1=O')∧((rN fun _=>K r (.write O'))∨∃n l,(∀i,i<n->i ∉ l->O'[i]?=O[i]?)∧rN fun _=>K r (.wr n l O'))) ∨
  (∃r,(bc P id O (fs++dC++cs) fun r' O1=>r'=r∧O1=O)∧rN fun _=>K r .read)
 | _=>False
def dT(P:Program)(aW:eo)(md:Md)(dst:Option Nat)(σ:St)(callee:Callee)(args:List Operand)(oq:List TypeId)(K:ga):Prop :=
 match callee with
 | .value f=>on (σ.ev f) fun f=>on (σ.uj args) fun dC=>tz P σ.objs f dC K
 | .builtin .len =>
  (match args,oq with
  | [x],[t]=>on (σ.ev x) fun x=>Bh aW t x K
  | _,_=>False)
 | .builtin .append =>
  (match args,oq with
  | [x,y],[t,t']=>on (σ.ev x) fun x=>on (σ.ev y) fun y=>qR P md.made md.app aW σ.objs t t' x y K
  | _,_=>False)
 | .builtin .cap =>
  (match args,oq with
  | [x],[t]=>on (σ.ev x) fun x=>Bg aW t x K
  | _,_=>False)
 | .builtin .clear =>
  (match args,oq with
  | [x],[t]=>dst=none∧on (σ.ev x) fun x=>tA aW σ.objs t x K
  | _,_=>False)
 | .builtin .max =>
  (match args with
  | [x,y]=>on (σ.ev x) fun x=>on (σ.ev y) fun y=>Bl x y K
  | _=>False)
 | .builtin .min =>
  (match args with
  | [x,y]=>on (σ.ev x) fun x=>on (σ.ev y) fun y=>Bi x y K
  | _=>False)
 | _=>False
def jO(y:ae)(K:ga):Prop :=
 match y with
 | .mp id off=>K (.mp id off) .pure
 | .ip oa cs=>K (.ip oa cs) .pure
 | _=>False
def Bk(P:Program)(aW:eo)(md:Md)(o:Oper)(σ:St)(K:ga):Prop :=
 match o.op with
 | .move x=>qU aW o.type x σ K
 | .assign x=>qU aW o.type x σ K
 | .pick c x z=>xi σ c x z K
 | .fieldAddr s x k=>on (σ.ev x) fun x=>mb aW s k x K
 | .field s x k=>on (σ.ev x) fun x=>tB aW s k x K
 | .load t x=>on (σ.ev x) fun x=>xh aW σ.objs t x K
 | .store t x y=>o.dst=none∧on (σ.ev x) fun x=>on (σ.ev y) fun y=>tD aW σ.objs t x y K
 | .indexAddr t x i=>on (σ.ev x) fun x=>on (σ.ev i) fun i=>mc aW t x i K
 | .binOp op t x y _=>mJ (isNil y) (fun _=>on (σ.ev x) fun x=>Bj aW op t x K) (fun _=>on (σ.ev x) fun x=>on (σ.ev y) fun y=>mS P op t x y K)
 | .unOp op _ x=>on (σ.ev x) fun x=>Bm op x K
 | .slice t x lo hi mx=>on (σ.ev x) fun x=>tC aW σ t x lo hi mx K
 | .build t parts=>tx aW σ t parts K
 | .buildSlice t len parts=>lv aW σ t len parts K
 | .alloc t=>on (aW t) fun ti=>K (.mp σ.objs.length 0) (.wr σ.objs.length [] (σ.objs++[.cells ti.zero]))
 | .box _ x=>on (σ.ev x) fun y=>y.flat∧K (.mp σ.objs.length 0) (.wr σ.objs.length [] (σ.objs++[.cells y.cells]))
 | .makeMap t none=>oQ P aW σ.objs t K
 | .makeSlice t x y=>on (σ.ev x) fun x=>on (σ.ev y) fun y=>me md.made aW σ.objs t x y K
 | .makeFunc f first captured=>on (σ.uj first.toList) fun fs=>on (σ.uj captured.toList) fun cs=>K (.fn f fs cs) .pure
 | .lookup t x y ok=>on (σ.ev x) fun x=>on (σ.ev y) fun y=>qT P aW σ.objs t x y ok K
 | .mapUpdate t x y v=>o.dst=none∧on (σ.ev x) fun x=>on (σ.ev y) fun y=>on (σ.ev v) fun v=>iZ P aW σ.objs t x y v K
 | .insert t x y v=>o.dst=none∧on (σ.ev x) fun x=>on (σ.ev y) fun y=>on (σ.ev v) fun v=>iZ P aW σ.objs t x y v K
 | .extract x k=>on (σ.ev x) fun
  | .df cs=>on cs[k]? fun r=>K r .pure
  | _=>False
 | .call c=>dT P aW md o.dst σ c.callee c.args.toList c.argTypes.toList K
 | .nilCheck x=>on (σ.ev x) fun y=>jO y K
 | _=>False
theorem eS{O X:List ak}:∀i,i<O.length->i ∉ ([]:List Nat)->(O++X)[i]?=O[i]?:=fun _ hi _=>List.getElem?_append_left hi
theorem jK{O:List ak}{id:Nat}{x:ak}:∀i,i<O.length->i ∉ [id]->(O.set id x)[i]?=O[i]?:=fun i _ hl=>List.getElem?_set_ne (fun e=>hl (by simp[e]))
theorem yo{O:List ak}{id:Nat}{x y:ak}:∀i,i<O.length->i ∉ [id]->(O.set id x++[y])[i]?=O[i]?:=fun i hi hl=>by
 rw[List.getElem?_append_left (by simpa using hi)];exact List.getElem?_set_ne (fun e=>hl (by simp[e]))
theorem wG{x:Operand}(hn:isNil x=true):x=.const (.slice none 0 0):=by
 unfold isNil at hn;split at hn
 ·rfl
 cases hn
theorem yv{y:ae}{b:Bool}(h:wO y=some b):(y=.v (.slice none 0 0)∧b=true)∨(∃sz xs,y=.aE sz xs .nn∧b=false)∨(∃id off len cap,y=.ms id off len cap∧b=false):=by
 unfold wO at h;split at h
 ·exact .inl ⟨rfl,by simpa using h.symm⟩
 ·exact .inr (.inl ⟨_,_,rfl,by simpa using h.symm⟩)
 ·exact .inr (.inr ⟨_,_,_,_,rfl,by simpa using h.symm⟩)
 cases h
theorem lk{op:BinOp}{b r:Bool}(h:iL op b=some r):(op=.eql∧r=b)∨(op=.neq∧r=!b):=by
 unfold iL at h;split at h
 ·exact .inl ⟨rfl,by simpa using h.symm⟩
 ·exact .inr ⟨rfl,by simpa using h.symm⟩
 cases h
theorem om{P:Program}{aW:eo}{o:Oper}{σ:St}{x:Operand}{K:ga}(ho:o.op=.move x∨o.op=.assign x)(hd:∀d,o.dst=some d->d<σ.n)(h:qU aW o.type x σ K):∃r m,Cert P o σ r m∧K r m:=by
 unfold qU at h;cases hn:isNil x with
 | true =>
  have hx:x=.const (.slice none 0 0):=by
   unfold isNil at hn;split at hn
   ·rfl
   cases hn
  subst hx;simp only[hn]at h;obtain⟨ti,_,h⟩:=aG h;split at h
  ·obtain⟨te,_,h⟩:=aG h;exact⟨_,_,zy te.size ho hd,h⟩
  exact h.elim
 | false =>
  simp only[hn]at h;obtain⟨y,hy,h⟩:=aG h;exact⟨_,_,xV ho hd hy,h⟩
theorem oJ{P:Program}{k:TypeId}{kt:KT}(h:wI P k=some kt):∃d,P.underlying k=some d∧kt.desc d:=by
 unfold wI at h;split at h
 ·simp only[Option.some.injEq]at h;subst h;exact⟨_,by assumption,rfl⟩
 ·simp only[Option.some.injEq]at h;subst h;exact⟨_,by assumption,rfl⟩
 cases h
theorem jj:∀{l:List (Nat×ae)},kR l->∀p∈l,p.2.flat
 | [],_,p,hp=>by cases hp
 | q::r,h,p,hp=>by
  rcases List.mem_cons.1 hp with e|e
  ·subst e;exact h.1
  exact jj h.2 p e
theorem nr{n:Nat}:∀{l:List ae},nq n l->∀x∈l,x.cells.length=n
 | [],_,p,hp=>by cases hp
 | q::r,h,p,hp=>by
  rcases List.mem_cons.1 hp with e|e
  ·subst e;exact h.1
  exact nr h.2 p e
theorem iO{σ:St}{p:Option Operand}{vR:Nat}{K:Nat->Prop}(h:yR σ p vR K):∃n,lN σ p vR n∧K n:=by
 unfold yR at h;split at h
 ·exact⟨vR,.inl ⟨rfl,rfl⟩,h⟩
 rename_i q;obtain⟨y,hy,h⟩:=aG h;split at h
 ·rename_i k n;obtain⟨h1,h2⟩:=h;exact⟨n.toNat,.inr ⟨q,k,rfl,by rw[Int.toNat_of_nonneg h1];exact hy⟩,h2⟩
 exact h.elim
theorem vg{P:Program}{o:Oper}{σ:St}{op:BinOp}{t t':TypeId}{x y:Operand}{k:IntKind}{m n:Int}{K:ga}(ho:o.op=.binOp op t x y t')(hd:∀d,o.dst=some d->d<σ.n)(hx:σ.ev x=some (.v (.int k m)))(hy:σ.ev y=some (.v (.int k n)))
  (h:xL op k m n K):∃r m,Cert P o σ r m∧K r m:=by
 unfold xL at h;cases Ez:jD op m n with
 | some b =>
  simp only[Ez,Option.isSome_some,dQ,s8]at h;exact⟨_,_,tU ho hd hx hy Ez,h⟩
 | none =>
  simp only[Ez,Option.isSome_none,dv]at h;obtain⟨r,hr,h1,h2,h⟩:=aG h;rw[sX]at h1;rw[sO]at h2;exact⟨_,_,rh ho hd hx hy hr h1 h2,h⟩
theorem qV{P:Program}{aW:eo}{md:Md}(hT:cb P aW){o:Oper}{σ:St}{K:ga}(hd:∀d,o.dst=some d->d<σ.n)(h:Bk P aW md o σ K):∃r m,Cert P o σ r m∧K r m:=by
 unfold Bk at h;split at h
 case h_1 x ho=>exact om (.inl ho) hd h
 case h_2 x ho=>exact om (.inr ho) hd h
 case h_3 c x z ho =>
  unfold xi at h;obtain⟨y,hy,h⟩:=aG h;split at h
  ·rename_i b;cases b
   ·rw[dv]at h;obtain⟨r,hr,h⟩:=aG h;exact⟨_,_,rP ho hd hy (by simp) (fun _=>hr),h⟩
   rw[dQ]at h;obtain⟨r,hr,h⟩:=aG h;exact⟨_,_,rP ho hd hy (fun _=>hr) (by simp),h⟩
  exact h.elim
 case h_4 s x k ho =>
  obtain⟨y,hy,h⟩:=aG h;unfold mb at h;obtain⟨ti,ht,h⟩:=aG h;split at h
  ·rename_i fs aT;obtain⟨f,hf,h⟩:=aG h;obtain⟨tf,GZ,hz,h⟩:=aG h;split at h
   ·exact⟨_,_,nw hT ho hd ht aT hf GZ hz hy,h⟩
   ·exact⟨_,_,nx hT ho hd ht aT hf GZ hz hy,h⟩
   exact h.elim
  exact h.elim
 case h_5 s x k ho =>
  obtain⟨y,hy,h⟩:=aG h;unfold tB at h;obtain⟨ti,ht,h⟩:=aG h;split at h
  ·rename_i fs aT;obtain⟨f,hf,h⟩:=aG h;obtain⟨tf,GZ,h⟩:=aG h;split at h
   ·cases eQ:tf.desc.agg with
    | true =>
     simp only[eQ,dQ]at h;exact⟨_,_,p8 hT ho hd ht aT hf GZ hy (by rw[if_pos eQ]),h⟩
    | false =>
     simp only[eQ,dv]at h;obtain⟨r,hr,h⟩:=aG h;exact⟨_,_,p8 hT ho hd ht aT hf GZ hy (by rw[if_neg (by simp[eQ])];exact hr),h⟩
   exact h.elim
  exact h.elim
 case h_6 t x ho =>
  obtain⟨y,hy,h⟩:=aG h;unfold xh at h;obtain⟨ti,ht,h⟩:=aG h;split at h
  ·cases eQ:ti.desc.agg with
   | true =>
    simp only[eQ,dQ]at h;exact⟨_,_,sy hT ho hd ht hy eQ h.1,h.2⟩
   | false =>
    simp only[eQ,dv]at h;obtain⟨c,hc,h⟩:=aG h;exact⟨_,_,rl hT ho hd ht hy eQ hc,h⟩
  ·obtain⟨os,Hq,h⟩:=aG h;split at h
   ·cases eQ:ti.desc.agg with
    | true =>
     simp only[eQ,dQ]at h;exact⟨_,_,sA hT ho hd ht hy Hq eQ h.1,h.2⟩
    | false =>
     simp only[eQ,dv]at h;obtain⟨c,hc,h⟩:=aG h;exact⟨_,_,rm hT ho hd ht hy Hq eQ hc,h⟩
   exact h.elim
  exact h.elim
 case h_7 t x y ho =>
  obtain⟨jo,h⟩:=h;obtain⟨x',hx,h⟩:=aG h;obtain⟨y',hy,h⟩:=aG h;unfold tD at h;obtain⟨ti,ht,h⟩:=aG h;split at h
  ·obtain⟨os,Hq,h⟩:=aG h;split at h
   ·obtain⟨h1,h2,h3,h⟩:=h;exact⟨_,_,(vN hT ho jo ht hx Hq hy h1 h2 h3).close jK,h⟩
   exact h.elim
  exact h.elim
 case h_8 t x i ho =>
  obtain⟨x',hx,h⟩:=aG h;obtain⟨i',hi,h⟩:=aG h;unfold mc at h;obtain⟨ti,ht,h⟩:=aG h;split at h
  ·rename_i e aT;obtain⟨te,he,h⟩:=aG h;split at h
   ·split at h
    ·obtain⟨h1,h2,h⟩:=h;obtain⟨y,h3,h⟩:=aG h;exact⟨_,_,mX hT ho hd ht aT he h1 hx hi h2 h3,h⟩
    ·obtain⟨h1,h2,h⟩:=h;exact⟨_,_,ny hT ho hd ht aT he hx hi h1 h2,h⟩
    ·obtain⟨h1,h2,h⟩:=h;exact⟨_,_,nz hT ho hd ht aT he hx hi h1 h2,h⟩
    exact h.elim
   exact h.elim
  ·rename_i len e aT;obtain⟨te,he,h⟩:=aG h;split at h
   ·split at h
    ·obtain⟨h1,h2,h⟩:=h;exact⟨_,_,mW hT ho hd ht aT he hx hi h1 h2,h⟩
    exact h.elim
   exact h.elim
  exact h.elim
 case h_9 op t x y t' ho =>
  cases hn:isNil y with
  | true =>
   simp only[hn,dQ]at h;have hy:=wG hn;subst hy;obtain⟨x',hx,h⟩:=aG h;unfold Bj at h;obtain⟨ti,ht,h⟩:=aG h;obtain⟨e,aT,h⟩:=aG h;obtain⟨b,hb,h⟩:=aG h;obtain⟨r,hr,h⟩:=aG h;exact⟨_,_,tY hT ho hd ht (TD.kz aT) hx (yv hb) (lk hr),h⟩
  | false =>
  simp only[hn,dv]at h;obtain⟨x',hx,h⟩:=aG h;obtain⟨y',hy,h⟩:=aG h;unfold mS at h;split at h
  ·cases hs:dE op with
   | true =>
    simp only[hs,dQ]at h;obtain⟨h0,h1,h2,h⟩:=h;rw[sX]at h1;rw[sO]at h2;exact⟨_,_,rp ho hd hx hy hs h0 h1 h2,h⟩
   | false =>
    simp only[hs,dv]at h;obtain⟨hk,h⟩:=h;subst hk;exact vg ho hd hx hy h
  ·obtain⟨r,hr,h⟩:=aG h;refine⟨_,_,rk ho hd hx hy ?_,h⟩;cases op<;>simp[qd]at hr<;>simp[hr]
  ·obtain⟨hb,h⟩:=h;obtain⟨r,hr,h⟩:=aG h;refine⟨_,_,tW ho hd hb hx hy ?_,h⟩;cases op<;>simp[nB]at hr<;>simp[hr]
  ·obtain⟨⟨e,he⟩,h⟩:=h;obtain⟨b,hb,h⟩:=aG h;obtain⟨r,hr,h⟩:=aG h;exact⟨_,_,rj ho hd he hx hy (yx hb) (lk hr),h⟩
  ·obtain⟨⟨e,n,he,hn,tJ⟩,Bq,h⟩:=h;obtain⟨r,hr,h⟩:=aG h;exact⟨_,_,tV ho hd he hn tJ hx hy Bq hr,h⟩
  ·obtain⟨⟨k1,k2,k3,hP⟩,h9⟩:=h;obtain⟨r,hr,h8⟩:=aG h9;subst k1;subst k2;subst k3;exact⟨_,_,tX ho hd hP hx hy (lk hr),h8⟩
  exact h.elim
 case h_10 op t x ho =>
  obtain⟨x',hx,h⟩:=aG h;unfold Bm at h;split at h
  ·exact⟨_,_,zz ho hd hx,h⟩
  ·obtain⟨h1,h2,h⟩:=h;rw[sX]at h1;rw[sO]at h2;exact⟨_,_,zw ho hd hx h1 h2,h⟩
  exact h.elim
 case h_11 t x lo hi mx ho =>
  obtain⟨x',hx,h⟩:=aG h;unfold tC at h;obtain⟨ti,ht,h⟩:=aG h;split at h
  ·rename_i e aT;obtain⟨te,he,h⟩:=aG h;split at h
   ·obtain⟨h1,h⟩:=h;obtain⟨l,hl,h⟩:=iO h;obtain⟨hh,mH,h2,h3,h⟩:=iO h;rcases xf h with⟨e1,e2,e3,hq⟩|hq
    ·subst e1;subst e2;subst e3;exact⟨_,_,pr hT ho hd ht aT he hx hl mH,hq⟩
    exact⟨_,_,vM hT ho hd ht aT he h1 hx hl mH h2 h3,hq⟩
   ·obtain⟨l,hl,h⟩:=iO h;obtain⟨hh,mH,h2,h3,h4,h5,h⟩:=iO h;exact⟨_,_,rq hT ho hd ht aT he hx hl mH h2 h3 h4 h5,h⟩
   ·obtain⟨h1,h⟩:=h;obtain⟨l,hl,hq⟩:=iO h;obtain⟨hh,mH,h2,h3,hz⟩:=iO hq;subst h2;subst h3;exact⟨_,_,qc hT ho hd ht aT he hx hl mH h1,hz⟩
   ·obtain⟨l,hl,hq⟩:=iO h;obtain⟨hh,mH,h2,h3,h4,hz⟩:=iO hq;subst h2;exact⟨_,_,rr hT ho hd ht aT he hx hl mH h3 h4,hz⟩
   exact h.elim
  exact h.elim
 case h_12 t parts ho =>
  unfold tx at h;obtain⟨ti,ht,h⟩:=aG h;split at h
  ·rename_i fs aT;obtain⟨pl,qx,h⟩:=aG h;obtain⟨ps,pF,gK,h⟩:=aG h;obtain⟨cs,eZ,h⟩:=aG h;exact⟨_,_,vI hT ho hd ht aT qx pF (jj gK) eZ,h⟩
  ·rename_i n e aT;obtain⟨te,he,h⟩:=aG h;obtain⟨ps,pF,gK,h⟩:=aG h;obtain⟨cs,eZ,h⟩:=aG h;exact⟨_,_,pY hT ho hd ht aT he pF (jj gK) eZ,h⟩
  exact h.elim
 case h_13 t len parts ho =>
  unfold lv at h;obtain⟨ti,ht,h⟩:=aG h;split at h
  ·rename_i e aT;obtain⟨te,he,h⟩:=aG h;obtain⟨ps,pF,gK,h⟩:=aG h;obtain⟨xs,wE,h1,h2,h3,h4,h⟩:=aG h;exact⟨_,_,pn hT ho hd ht aT he h1 pF (jj gK) wE h2 (nr h3) h4,h⟩
  exact h.elim
 case h_14 t ho =>
  obtain⟨ti,ht,h⟩:=aG h;exact⟨_,_,(vH hT ho hd ht).close eS,h⟩
 case h_15 t x ho =>
  obtain⟨y,hy,hf,h⟩:=aG h;exact⟨_,_,(zn ho hd hy hf).close eS,h⟩
 case h_16 t ho =>
  unfold oQ at h;obtain⟨ti,ht,h⟩:=aG h;split at h
  ·obtain⟨kt,rA,h⟩:=aG h;exact⟨_,_,(sB kt ho hd).close eS,h⟩
  exact h.elim
 case h_17 t x y ho =>
  obtain⟨x',hx,h⟩:=aG h;obtain⟨y',hy,h⟩:=aG h;unfold me at h;obtain⟨ti,ht,h⟩:=aG h;split at h
  ·rename_i e aT;obtain⟨te,he,h⟩:=aG h;split at h
   ·obtain⟨e1,h1,h2,h3,h4,hq⟩:=h;subst e1;by_cases Ad:md.made=true
    ·rw[Ad,dQ]at hq;exact⟨_,_,pq hT ho hd ht aT he hx hy h1 h2 h3 h4 hq.1,hq.2⟩
    rw[show md.made=false by simpa using Ad,dv]at hq;exact⟨_,_,(qb hT ho hd ht aT he hx hy h1 h2 h3 h4).close eS,hq⟩
   exact h.elim
  exact h.elim
 case h_18 f first captured ho =>
  obtain⟨fs,Cj,h⟩:=aG h;obtain⟨cs,eZ,h⟩:=aG h;exact⟨_,_,rn ho hd Cj eZ,h⟩
 case h_19 t x y ok ho =>
  obtain⟨x',hx,h⟩:=aG h;obtain⟨y',hy,h⟩:=aG h;unfold qT at h;obtain⟨ti,ht,h⟩:=aG h;split at h
  ·rename_i k e aT;obtain⟨kt,rA,h⟩:=aG h;obtain⟨d,hk,vl⟩:=oJ rA;obtain⟨te,he,cU,h⟩:=aG h;split at h
   ·obtain⟨gT,h⟩:=h;split at h
    ·obtain⟨e1,hq⟩:=h;subst e1;exact⟨_,_,p9 hT ho hd ht aT hk vl he cU hx hy gT,hq⟩
    ·obtain⟨es,yW,h⟩:=aG h;split at h
     case h_2=>exact h.elim
     obtain⟨e1,hq⟩:=h;subst e1;exact⟨_,_,qa hT ho hd ht aT hk vl he cU hx yW hy gT,hq⟩
    ·exact⟨_,_,po hT ho hd ht aT hk vl he cU hx hy,h⟩
    exact h.elim
   exact h.elim
  exact h.elim
 case h_20 t x y v ho =>
  obtain⟨jo,h⟩:=h;obtain⟨x',hx,h⟩:=aG h;obtain⟨y',hy,h⟩:=aG h;obtain⟨v',hv,h⟩:=aG h;unfold iZ at h;obtain⟨ti,ht,h⟩:=aG h;split at h
  ·rename_i k e aT;obtain⟨kt,rA,h⟩:=aG h;obtain⟨d,hk,vl⟩:=oJ rA;split at h
   ·obtain⟨gT,h⟩:=h;obtain⟨es,yW,h⟩:=aG h;split at h
    ·obtain⟨e1,hq⟩:=h;subst e1;exact⟨_,_,(lO hT (.inl ho) jo ht aT hk vl hx yW hy gT hv).close jK,hq⟩
    exact h.elim
   exact h.elim
  exact h.elim
 case h_21 t x y v ho =>
  obtain⟨jo,h⟩:=h;obtain⟨x',hx,h⟩:=aG h;obtain⟨y',hy,h⟩:=aG h;obtain⟨v',hv,h⟩:=aG h;unfold iZ at h;obtain⟨ti,ht,h⟩:=aG h;split at h
  ·rename_i k e aT;obtain⟨kt,rA,h⟩:=aG h;obtain⟨d,hk,vl⟩:=oJ rA;split at h
   ·obtain⟨gT,h⟩:=h;obtain⟨es,yW,h⟩:=aG h;split at h
    ·obtain⟨e1,hq⟩:=h;subst e1;exact⟨_,_,(lO hT (.inr ho) jo ht aT hk vl hx yW hy gT hv).close jK,hq⟩
    exact h.elim
   exact h.elim
  exact h.elim
 case h_22 x k ho =>
  obtain⟨x',hx,h⟩:=aG h;split at h
  ·obtain⟨r,hr,h⟩:=aG h;exact⟨_,_,sx ho hd hx hr,h⟩
  exact h.elim
 case h_23 c ho =>
  obtain⟨callee,args,oq⟩:=c;simp only at h;unfold dT at h;split at h
  ·obtain⟨f',hf,h⟩:=aG h;obtain⟨dC,has,h⟩:=aG h;unfold tz at h;split at h
   ·rcases h with⟨r,h1,h2,h⟩|⟨r,O',h1,h|⟨n,l,hk,h⟩⟩|⟨r,h1,h⟩
    ·exact⟨_,_,vK ho hd hf has h1 h2,h⟩
    ·exact⟨_,_,pZ ho hd hf has h1,h⟩
    ·exact⟨_,_,(pZ ho hd hf has h1).close hk,h⟩
    exact⟨_,_,vL ho hd hf has h1,h⟩
   exact h.elim
  ·split at h
   ·rename_i x t e1 e2;have ea:args = #[x]:=Array.toList_inj.1 e1;have et:oq = #[t]:=Array.toList_inj.1 e2;subst ea;subst et;obtain⟨x',hx,h⟩:=aG h;unfold Bh at h;obtain⟨ti,ht,h⟩:=aG h;obtain⟨e,aT,h⟩:=aG h;obtain⟨n,hn,h⟩:=aG h;exact⟨_,_,zo hT ho hd ht (TD.kz aT) hx (yq hn),h⟩
   exact h.elim
  ·split at h
   ·rename_i x y t t' e1 e2;have ea:args = #[x,y]:=Array.toList_inj.1 e1;have et:oq = #[t,t']:=Array.toList_inj.1 e2;subst ea;subst et;obtain⟨x',hx,h⟩:=aG h;obtain⟨y',hy,h⟩:=aG h;unfold qR at h;obtain⟨ti,ht,h⟩:=aG h;obtain⟨e,aT,h⟩:=aG h;have aT:=TD.kz aT;obtain⟨te,he,h⟩:=aG h;split at h
    ·obtain⟨h0,h1,h2,h3,h4,hq⟩:=h;subst h0;subst h2;by_cases GP:md.app=true
     ·rw[GP,dQ]at hq;obtain⟨I2,Hr⟩:=hq;cases Ad:md.made with
      | true =>
       rw[Ad,dQ]at Hr;exact⟨_,_,(nv hT ho hd ht aT he h1 hx hy I2 h3 h4).close eS,Hr⟩
      | false =>
       rw[Ad,dv]at Hr;exact⟨_,_,(ph hT ho hd ht aT he h1 hx hy I2 h3 h4).close eS,Hr⟩
     rw[show md.app=false by simpa using GP,dv]at hq;exact⟨_,_,(pV hT ho hd ht aT he h1 hx hy h3 h4).close eS,hq⟩
    ·obtain⟨h0,h1,h2,h3,h4,h5,hq⟩:=h;subst h0;subst h2;exact⟨_,_,(pk hT ho hd ht aT he h1 hx hy h3 h4 h5).close jK,hq⟩
    ·obtain⟨h0,h1,h2,h3,h4,h5,h6,hq⟩:=h;subst h0;subst h1;cases GP:md.app with
     | true =>
      rw[GP,dQ]at hq;exact⟨_,_,(pj hT ho hd ht aT he h2 hx hy h3 h4 h5 h6).close eS,hq⟩
     | false =>
      rw[GP,dv]at hq;exact⟨_,_,(oy hT ho hd ht aT he h2 hx hy h3 h4 h5 h6).close eS,hq⟩
    ·obtain⟨h0,h1,hq⟩:=h;subst h0;obtain⟨o1,kO,hq⟩:=aG hq;split at hq
     ·obtain⟨h2,h3,h4,hq⟩:=hq;exact⟨_,_,(pW hT ho hd ht aT he h1 hx kO hy h2 h3 h4).close jK,hq⟩
     exact hq.elim
    ·obtain⟨h0,h1,h2,hq⟩:=h;subst h0;subst h2;obtain⟨o1,kO,hq⟩:=aG hq;split at hq
     ·obtain⟨h3,h4,h5,h6,hq⟩:=hq;exact⟨_,_,(pX hT ho hd ht aT he h1 hx kO hy h3 h4 h5 h6).close yo,hq⟩
     exact hq.elim
    exact h.elim
   exact h.elim
  ·split at h
   ·rename_i x t e1 e2;have ea:args = #[x]:=Array.toList_inj.1 e1;have et:oq = #[t]:=Array.toList_inj.1 e2;subst ea;subst et;obtain⟨x',hx,h⟩:=aG h;unfold Bg at h;obtain⟨ti,ht,h⟩:=aG h;obtain⟨e,aT,h⟩:=aG h;obtain⟨n,hn,h⟩:=aG h;obtain⟨sz,xs,e3,e4⟩:=xR hn;subst e3;subst e4;exact⟨_,_,vJ hT ho hd ht (TD.kz aT) hx,h⟩
   exact h.elim
  ·split at h
   ·rename_i x t e1 e2;have ea:args = #[x]:=Array.toList_inj.1 e1;have et:oq = #[t]:=Array.toList_inj.1 e2;subst ea;subst et;obtain⟨jo,h⟩:=h;obtain⟨x',hx,h⟩:=aG h;unfold tA at h;obtain⟨ti,ht,h⟩:=aG h;obtain⟨e,aT,h⟩:=aG h;obtain⟨te,he,h⟩:=aG h;split at h
    ·obtain⟨o1,kO,h⟩:=aG h;split at h
     ·obtain⟨h2,h3,h4,h⟩:=h;exact⟨_,_,(ri hT ho jo ht (TD.kz aT) he hx kO h2 h3 h4).close jK,h⟩
     exact h.elim
    exact h.elim
   exact h.elim
  ·split at h
   ·rename_i x y e1;have ea:args = #[x,y]:=Array.toList_inj.1 e1;subst ea;obtain⟨x',hx,h⟩:=aG h;obtain⟨y',hy,h⟩:=aG h;unfold Bl at h;split at h
    ·exact⟨_,_,zA ho hd hx hy,h⟩
    exact h.elim
   exact h.elim
  ·split at h
   ·rename_i x y e1;have ea:args = #[x,y]:=Array.toList_inj.1 e1;subst ea;obtain⟨x',hx,h⟩:=aG h;obtain⟨y',hy,h⟩:=aG h;unfold Bi at h;split at h
    ·exact⟨_,_,zv ho hd hx hy,h⟩
    exact h.elim
   exact h.elim
  exact h.elim
 case h_24 x ho =>
  obtain⟨y,hy,h⟩:=aG h;unfold jO at h;split at h
  ·exact⟨_,_,mM ho hd hy (.inl ⟨_,_,rfl⟩),h⟩
  ·exact⟨_,_,mM ho hd hy (.inr ⟨_,_,rfl⟩),h⟩
  exact h.elim
 case h_25=>exact h.elim
def zF(d:Option Nat)(n:Nat):Prop :=
 match d with
 | some d=>d<n
 | none=>True
def ib:List (Nat×Nat)->Nat->Option Nat
 | [],_=>none
 | (k,d)::r,j=>if k=j then some d else ib r j
def j2(i:Nat)(d:Option Nat)(ds:List (Nat×Nat)):List (Nat×Nat) :=
 match d with
 | some d=>(i,d)::ds
 | none=>ds
def F0(σ:St)(f:St->Prop)(_t:Tag f:={}):Prop:=f σ
theorem E8(n:Nat)(s:List (Nat×ae))(O:List ak)(f:St->Prop)(t:Tag f):F0 ⟨n,s,O⟩ f t=f ⟨n,s,O⟩:=rfl
def eV(P:Program)(aW:eo)(md:Md):List Oper->Nat->List (Nat×Nat)->St->List Kind->(St->List Kind->Prop)->Prop
 | [],_,_,σ,ks,K=>K σ ks
 | o::r,i,ds,σ,ks,K=>zF o.dst σ.n ∧
  match o.guard with
  | none=>Bk P aW md o σ fun x m=>F0 ⟨σ.n,nc o.dst x σ.ba,m.post σ.objs⟩ fun τ=>eV P aW md r (i+1) (j2 i o.dst ds) τ (m.kind::ks) K
  | some (j,ja)=>on (ib ds j) fun t=>on (σ.get t) fun
   | .v (.bool b)=>mJ (b == ja)
    (fun _=>Bk P aW md o ⟨σ.n,bu t (.v (.bool ja)) σ.ba,σ.objs⟩ fun x m=>F0 ⟨σ.n,nc o.dst x (bu t (.v (.bool ja)) σ.ba),m.post σ.objs⟩ fun τ=>eV P aW md r (i+1) (j2 i o.dst ds) τ (m.kind::ks) K)
    (fun _=>F0 ⟨σ.n,nE σ.n o.dst (bu t (.v (.bool !ja)) σ.ba),σ.objs⟩ fun τ=>eV P aW md r (i+1) (j2 i o.dst ds) τ (.pure::ks) K)
   | .df []=>F0 ⟨σ.n,nE σ.n o.dst σ.ba,σ.objs⟩ fun τ=>eV P aW md r (i+1) (j2 i o.dst ds) τ (.pure::ks) K
   | _=>False
theorem vu{all:Array Oper}{i:Nat}{o:Oper}(ho:all[i]?=some o){ds:List (Nat×Nat)}(h:∀j t,ib ds j=some t->(all[j]?).bind (·.dst)=some t):∀j t,ib (j2 i o.dst ds) j=some t->(all[j]?).bind (·.dst)=some t:=by
 intro j t hj;cases hd:o.dst with
 | none =>
  rw[hd]at hj;exact h j t hj
 | some d =>
  rw[hd]at hj;simp only[j2,ib]at hj;split at hj
  ·rename_i e;subst e;simp only[Option.some.injEq]at hj;subst hj;simp[ho,hd]
  exact h j t hj
theorem u7{σ:St}{t:Nat}{x:ae}(h:σ.get t=some x):gz ⟨σ.n,bu t x σ.ba,σ.objs⟩ σ:=by
 refine⟨rfl,rfl,fun s=>?_⟩;simp only[St.get,fq];split
 ·rename_i e;subst e;exact h.symm
 rfl
theorem k5{P:Program}{ops:Array Oper}:∀{l l':List (Nat×Kind)} {σ τ ρ:St},eR P ops l σ τ->eR P ops l' τ ρ->eR P ops (l++l') σ ρ
 | [],_,_,_,_,h,k=>k.same h.symm
 | (i,q)::r,_,_,_,_,h,k=>by
  obtain⟨fE,h1,h2⟩:=h;exact⟨fE,h1,k5 h2 k⟩
theorem ee{P:Program}{aW:eo}{md:Md}(hT:cb P aW){all:Array Oper}{K:St->List Kind->Prop}:∀(l:List Oper) (k:Nat) (ds:List (Nat×Nat)) (σ:St) (ks:List Kind),(∀j,l[j]?=all[k+j]?)->(∀j t,ib ds j=some t->(all[j]?).bind (·.dst)=some t)->eV P aW md l k ds σ ks K ->
  ∃(τ:St) (o7:List Kind),eR P all (o7.zipIdx k |>.map fun p=>(p.2,p.1)) σ τ∧o7.length=l.length∧K τ (o7.reverse++ks)
 | [],k,_,σ,ks,_,_,h=>⟨σ,[],gz.refl σ,rfl,h⟩
 | o::r,k,ds,σ,ks,hl,nk,h=>by
  obtain⟨hd,h⟩:=h;have IK:∀d,o.dst=some d->d<σ.n:=fun d e=>by
   rw[e]at hd;exact hd
  have ho:all[k]?=some o:=by
   have:=hl 0;simpa using this.symm
  have Cb:=vu ho nk;have hr:∀j,r[j]?=all[k+1+j]?:=fun j=>by
   have:=hl (j+1);rw[show k+1+j=k+(j+1) by omega];simpa using this
  cases hg:o.guard with
  | none =>
   simp only[hg]at h;obtain⟨x,m,hc,h⟩:=qV hT IK h;obtain⟨τ,o7,h1,h2,h3⟩:=ee hT r (k+1) _ _ _ hr Cb h;refine⟨τ,m.kind::o7,?_,by simp[h2],by simpa using h3⟩;simp only[List.zipIdx_cons,List.map_cons];exact⟨_,⟨o,ho,.inl ⟨by simp[dg,hg],x,m,hc,rfl,rfl⟩⟩,h1⟩
  | some p =>
   obtain⟨j,ja⟩:=p;simp only[hg]at h;obtain⟨t,y0,h⟩:=aG h;have ht:=nk j t y0;obtain⟨y,hy,h⟩:=aG h;split at h
   ·rename_i b;by_cases hb:b=ja
    ·rw[show(b == ja)=true by simp[hb],dQ]at h;have hs:=u7 (hb ▸ hy);obtain⟨x,m,hc,h⟩:=qV hT (σ:=⟨σ.n,bu t (.v (.bool ja)) σ.ba,σ.objs⟩) IK h;obtain⟨τ,o7,h1,h2,h3⟩:=ee hT r (k+1) _ _ _ hr Cb h;refine⟨τ,m.kind::o7,?_,by simp[h2],by simpa using h3⟩;simp only[List.zipIdx_cons,List.map_cons];have dD:kg P all k m.kind ⟨σ.n,bu t (.v (.bool ja)) σ.ba,σ.objs⟩ (St.put ⟨σ.n,bu t (.v (.bool ja)) σ.ba,σ.objs⟩ o.dst x (m.post σ.objs)) :=
      ⟨o,ho,.inl ⟨by simp[dg,hg,ht,St.get,fq],x,m,hc,rfl,rfl⟩⟩
     obtain⟨fE,q1,q2⟩:=dD.same hs;exact⟨fE,q1,h1.same q2⟩
    rw[show(b == ja)=false by simp[hb],dv]at h;have yc:b=!ja:=by cases b<;>cases ja<;>simp_all
    have hs:=u7 (yc ▸ hy);obtain⟨τ,o7,h1,h2,h3⟩:=ee hT r (k+1) _ _ _ hr Cb h;refine⟨τ,.pure::o7,?_,by simp[h2],by simpa using h3⟩;simp only[List.zipIdx_cons,List.map_cons];have dD:kg P all k .pure ⟨σ.n,bu t (.v (.bool !ja)) σ.ba,σ.objs⟩ (St.skip ⟨σ.n,bu t (.v (.bool !ja)) σ.ba,σ.objs⟩ o.dst) :=
     ⟨o,ho,.inr ⟨by cases ja<;>simp[dg,hg,ht,St.get,fq],rfl,rfl⟩⟩
    obtain⟨fE,q1,q2⟩:=dD.same hs;exact⟨fE,q1,h1.same q2⟩
   ·obtain⟨τ,o7,h1,h2,h3⟩:=ee hT r (k+1) _ _ _ hr Cb h;refine⟨τ,.pure::o7,?_,by simp[h2],by simpa using h3⟩;simp only[List.zipIdx_cons,List.map_cons];exact⟨_,⟨o,ho,.inr ⟨by simp[dg,hg,ht,hy],rfl,rfl⟩⟩,h1⟩
   exact h.elim
def eH(ops:Array Oper)(ks:List Kind):Prop:=l5 ops ks=true
def gy(draw:Bool)(p:Unit->Prop)(_t:Tag p:={}):Prop:=draw=true->p ()
theorem uc(p:Unit->Prop)(t:Tag p):gy false p t=True:=by simp[gy]
theorem vS(p:Unit->Prop)(t:Tag p):gy true p t=p ():=by simp[gy]
theorem g7{P:Program}{kb:Nat}{aW:eo}(md:Md)(hT:cb P aW)(hm:P.follows .mixedOrders=true){id:Nat}{l:List Oper}{draw:Bool}{Q:dR->St->Prop}{σ:St}
  (h:eV P aW md l 0 [] σ [] fun τ ks=>gy draw (fun _=>eH l.toArray ks.reverse)∧At τ (Q .norm)):cc P kb (.region id l.toArray draw) Q σ:=by
 obtain⟨ops,ER⟩:∃ops,ops=l.toArray:=⟨_,rfl⟩
 have hl:l=ops.toList:=by rw[ER]
 rw[<-ER]at h ⊢;rw[hl]at h;clear ER hl;obtain⟨τ,ks,h1,h2,h3,h4⟩:=ee (all:=ops) hT ops.toList 0 [] σ [] (fun j=>by simp) (fun j t hj=>by simp[ib]at hj) h;intro base a g hb hr;have mu:eR P ops ((List.range ops.size).map fun i=>(i,ks.getD i .write)) σ τ:=by
  have e:(ks.zipIdx 0).map (fun p=>(p.2,p.1))=(List.range ops.size).map fun i=>(i,ks.getD i .write):=by
   apply List.ext_getElem?;intro i;simp only[List.getElem?_map];have hlen:ks.length=ops.size:=by simpa using h2
   by_cases hi:i<ops.size
   ·rw[List.getElem?_range hi];simp[hlen,hi]
   rw[List.getElem?_eq_none (by simp only[List.length_zipIdx];omega),List.getElem?_eq_none (by simp only[List.length_range];omega)];rfl
  rw[<-e];exact h1
 cases draw with
 | false=>exact kq mu hr fun a g wC=>⟨g,τ,rfl,wC,h4⟩
 | true =>
  have hB:=h3 rfl;simp only[List.append_nil,List.reverse_reverse]at hB;exact lE hm hB mu hr fun a g wC=>⟨g,τ,rfl,wC,h4⟩
theorem jz{P:Program}{kb:Nat}{aW:eo}(hT:cb P aW)(hm:P.follows .mixedOrders=true){id:Nat}{l:List Oper}{draw:Bool}{Q:dR->St->Prop}{σ:St}
  (h:eV P aW ⟨false,false⟩ l 0 [] σ [] fun τ ks=>gy draw (fun _=>eH l.toArray ks.reverse)∧At τ (Q .norm)):cc P kb (.region id l.toArray draw) Q σ:=g7 ⟨false,false⟩ hT hm h
def ax:Nat->List ae->List (Nat×ae)
 | _,[]=>[]
 | k,x::r=>(k,x)::ax (k+1) r
theorem lf:∀(l:List ae) (k s:Nat) (x:ae),look (ax k l) s=some x->k<=s∧l[s-k]?=some x
 | [],k,s,x,h=>by cases h
 | y::r,k,s,x,h=>by
  simp only[ax,look]at h;split at h
  ·rename_i e;subst e;simp only[Option.some.injEq]at h;subst h;simp
  obtain⟨h1,h2⟩:=lf r (k+1) s x h;refine⟨by omega,?_⟩;rw[show s-k=(s-(k+1))+1 by omega];simpa using h2
def fv(aW:eo)(σ:St):ResultVar->Option ae
 | .tmp t=>σ.get t
 | .cell a ty =>
  match σ.get a,aW ty with
  | some (.mp id off),some ti =>
   match σ.objs[id]? with
   | some (.cells cs)=>if ti.desc.agg then(if off+ti.size<=cs.length then some (.agg ((cs.drop off).take ti.size))else none)else cs[off]?
   | _=>none
  | _,_=>none
def cX(aW:eo)(σ:St):List ResultVar->Option (List ae)
 | []=>some []
 | v::r =>
  match fv aW σ v,cX aW σ r with
  | some x,some xs=>some (x::xs)
  | _,_=>none
def eC:List ae->ae
 | [x]=>x
 | xs=>.df xs
def jM(a:Act):ResultVar->Sem Value
 | .tmp t=>pure (a.tmps.getD t undef)
 | .cell c t=>do loadVar t (<-asAddr (a.tmps.getD c undef))
theorem uY{P:Program}{aW:eo}(hT:cb P aW){σ:St}{base:G}{a:Act}{g:G}(hr:Rel base σ a g){v:ResultVar}{x:ae}(h:fv aW σ v=some x) :
  ∃u,(jM a v).run P g.w=.ok u g.w∧RV g x u:=by
 cases v with
 | tmp t =>
  obtain⟨u,h1,h2⟩:=hr.slot t x h;exact⟨u,by simp[jM,Array.getD_eq_getD_getElem?,h1],h2⟩
 | cell c ty =>
  simp only[fv]at h;split at h
  ·rename_i id off ti hc Bz;obtain⟨u,h1,h2⟩:=hr.slot c _ hc;obtain⟨l,o1,he,ho,_,eu⟩:=h2.lj;split at h
   ·rename_i cs eZ;have wg:g.objs[id]?=some (.cells cs):=by rw[hr.objs];exact eZ
    obtain⟨arr,t',_,dp,hlen,pA,dz,_⟩:=hr.good.row wg he;subst eu;split at h
    ·rename_i eQ;split at h
     ·rename_i hs;simp only[Option.some.injEq]at h;subst h;obtain⟨f,hf⟩:∃f:Nat->Value,∀j,off+j<arr.size->arr[off+j]?=some (f j):=⟨fun j=>arr.getD (off+j) undef,fun j hj=>by simp[Array.getD_eq_getD_getElem?,hj]⟩
      have bz:=(hT ty ti Bz).lX eQ g.w l.block off f (fun j hj=>by
       rw[cell_of_row dp];exact hf j (by omega))
      refine⟨.agg ((List.range ti.size).map f).toArray,by simp[jM,Array.getD_eq_getD_getElem?,h1,asAddr,bz],?_⟩;have hl:((cs.drop off).take ti.size).length=ti.size:=by simp;omega
      have:=RV.ofRow (g:=g) ((cs.drop off).take ti.size) f (fun c hc=>dz c (List.mem_of_mem_drop (List.mem_of_mem_take hc))) (fun j c hj=>by
       have gY:=kJ hj;rw[List.getElem?_drop]at gY;have aZ:=I gY;exact pA (off+j) c _ gY (hf j (by omega)))
      rw[hl]at this;exact this
     cases h
    rename_i eQ;have aZ:=I h;have cn:g.w.cell? ⟨l.block,off,none⟩=some arr[off]:=by
     rw[cell_of_row dp];simp[show off<arr.size by omega]
    have bz:=(hT ty ti Bz).lb (by simpa using eQ) g.w ⟨l.block,off,none⟩ _ cn;exact⟨arr[off],by simp[jM,Array.getD_eq_getD_getElem?,h1,asAddr,bz],pA off x _ h (by simp[show off<arr.size by omega])⟩
   cases h
  cases h
theorem ln{P:Program}{aW:eo}(hT:cb P aW){σ:St}{base:G}{a:Act}{g:G}(hr:Rel base σ a g):∀{vs:List ResultVar} {xs:List ae},cX aW σ vs=some xs ->
  ∃us:List Value,(vs.mapM (jM a)).run P g.w=.ok us g.w∧gZ g xs us.toArray
 | [],xs,h=>by
  simp only[cX,Option.some.injEq]at h;subst h;exact⟨[],by simp,⟨rfl,by simp⟩⟩
 | v::r,xs,h=>by
  simp only[cX]at h;cases hv:fv aW σ v with
  | none=>simp[hv]at h
  | some x =>
   cases pG:cX aW σ r with
   | none=>simp[hv,pG]at h
   | some ys =>
    simp only[hv,pG,Option.some.injEq]at h;subst h;obtain⟨u,h1,h2⟩:=uY hT hr hv;obtain⟨us,h3,h4,h5⟩:=ln hT hr pG;refine⟨u::us,?_,by simpa using h4,fun j c w e1 e2=>?_⟩
    ·rw[List.mapM_cons];simp only[Sem.run_bind,h1,Result.andThen_ok,h3,Sem.run_pure]
    cases j with
    | zero =>
     simp at e1 e2;subst e1;subst e2;exact h2
    | succ j=>exact h5 j c w (by simpa using e1) (by simpa using e2)
def xl(aW:eo)(rv:List ResultVar)(sh:Bool)(k:Nat)(R:ae->List ak->Prop):dR->St->Prop
 | .exit _,_=>False
 | _,σ=>on (cX aW σ rv) fun rs=>k<=σ.objs.length∧(∀o∈σ.objs.take k,o.upto k)∧(eC (if sh then rs.map ae.share else rs)).upto k∧R (eC (if sh then rs.map ae.share else rs)) (σ.objs.take k)
theorem RV.eC{g:G}{xs:List ae}{us:List Value}(h:gZ g xs us.toArray):RV g (eC xs) (if h:us.toArray.size=1 then us.toArray[0]else .tuple us.toArray):=by
 obtain⟨h1,h2⟩:=h
 match xs,us,h1,h2 with
 | [],[],_,h2=>exact .df rfl (by simp)
 | [x],[u],_,h2 =>
  simp only[List.size_toArray,List.length_singleton,dite_true];exact h2 0 x u rfl rfl
 | x::y::r,u0::u1::s,h1,h2 =>
  rw[dif_neg (by simp)];exact .df h1 h2
 | [],_::_,h1,_=>simp at h1
 | _::_,[],h1,_=>simp at h1
 | [_],_::_::_,h1,_=>simp at h1
 | _::_::_,[_],h1,_=>simp at h1
theorem gb{P:Program}{aW:eo}(hT:cb P aW){f:FuncId}{fn:Func}{c:Code}{O:List ak}{args:List ae}{R:ae->List ak->Prop}(sh:Bool)(k:Nat)(hf:P.funcs[f]?=some fn)(hb:fn.body=some c)
  (qu : (fn.name == "runtime.NumGoroutine") = false) (hn : args.length <= fn.ntmps) (hk : O.length <= k) (h : cc P O.length c (xl aW fn.results.toList sh k R) ⟨fn.ntmps, ax 0 args, O⟩) : bc P f O args R := by
 refine⟨⟨fn,hf,qu,by simp[hb]⟩,fun g vs hg ho ha=>?_⟩;refine calls_of_wp hf hb ?_;have bM:Rel g ⟨fn.ntmps,ax 0 args,O⟩ { tmps:=vs++Array.replicate (fn.ntmps-vs.size) undef,defers:=[] } g:={
  le:=Le.refl g
  good:=hg
  objs:=ho
  size:=by
   have:=ha.1;simp only[Array.size_append,Array.size_replicate];omega
  defers:=rfl
  slot:=fun s x hx=>by
   obtain⟨_,h1⟩:=lf args 0 s x hx;simp only[Nat.sub_zero]at h1;have aZ:=I h1;have jH:s<vs.size:=by rw[ha.1];exact aZ
   refine⟨vs[s],?_,ha.2 s x _ h1 (by simp[jH])⟩;simp only;rw[Array.getElem?_append,if_pos jH];simp[jH] }
 refine wp_mono (h g _ g (by rw[ho];exact Nat.le_refl _) bM) fun e a w hp=>?_;have key:∀g' fE,g'.w=w->Rel g fE a g'->(on (cX aW fE fn.results.toList) fun rs=>k<=fE.objs.length∧(∀o∈fE.objs.take k,o.upto k)∧(Av.eC (if sh then rs.map ae.share else rs)).upto k∧R (Av.eC (if sh then rs.map ae.share else rs)) (fE.objs.take k)) ->
   a.defers=[]∧∃v,(results fn a.tmps).run P w=.ok v w∧∃g' v' r,Ending.returned v=.returned v'∧g'.w=w∧Le g g'∧Good g'∧RV g' r v'∧R r g'.objs:=by
  intro g' fE hw hr hq;subst hw;obtain⟨rs,pG,h1,h2,h3,h4⟩:=aG hq;obtain⟨us,q1,q2⟩:=ln hT hr pG;have hO:g'.objs=fE.objs:=hr.objs;refine⟨hr.defers,(if h:us.toArray.size=1 then us.toArray[0]else .tuple us.toArray),?_,g'.cD k,_,_,rfl,rfl,hr.le.cD (by rw[ho];exact hk),hr.good.cD (by rw[hO];exact h1) (by rw[hO];exact h2),?_,by simp only[G.cD,hO];exact h4⟩
  ·have hm:fn.results.mapM (jM a)=Functor.map List.toArray (fn.results.toList.mapM (jM a)):=Array.mapM_eq_mapM_toList;have eg:results fn a.tmps=(do
    let vs <-fn.results.mapM (jM a)
    pure (if h:vs.size=1 then vs[0]else .tuple vs)):=rfl
   rw[eg,hm];simp only[Sem.run_bind,Sem.run_map,q1,Result.andThen_ok,Sem.run_pure]
  have iy:gZ g' (if sh then rs.map ae.share else rs) us.toArray:=by
   cases sh
   ·exact q2
   exact q2.share
  exact(RV.eC iy).cD (by rw[hO];exact h1) h3
 cases e with
 | normal =>
  obtain⟨g',fE,h1,h2,h3⟩:=hp;exact key g' fE h1 h2 h3
 | ret =>
  obtain⟨g',fE,h1,h2,h3⟩:=hp;exact key g' fE h1 h2 h3
 | exit id =>
  obtain⟨g',fE,h1,h2,h3⟩:=hp;exact h3.elim
 | goto l=>exact hp.elim
 | panic c=>exact hp.elim
 | outgrown=>exact hp.elim
theorem tn(P:Program)(kb:Nat)(c:Code)(Q:dR->St->Prop)(σ:St):bL P kb c Q .norm σ=cc P kb c Q σ:=rfl
theorem cL(P:Program)(kb:Nat)(c:Code)(Q:dR->St->Prop)(σ:St):bL P kb c Q .ret σ=Q .ret σ:=rfl
theorem tl(P:Program)(kb:Nat)(c:Code)(Q:dR->St->Prop)(σ:St)(id:Nat):bL P kb c Q (.exit id) σ=Q (.exit id) σ:=rfl
theorem pQ(id:Nat)(Q:dR->St->Prop)(σ:St):bK id Q .norm σ=Q .norm σ:=rfl
theorem cf(id:Nat)(Q:dR->St->Prop)(σ:St):bK id Q .ret σ=Q .ret σ:=rfl
theorem pR(id:Nat)(Q:dR->St->Prop)(σ:St):bK id Q (.exit id) σ=Q .norm σ:=by simp[bK]
theorem pf{id kD:Nat}(h:kD≠id)(Q:dR->St->Prop)(σ:St):bK id Q (.exit kD) σ=Q (.exit kD) σ:=by simp[bK,h]
theorem rH{ι:Type}(L:ι->St)(μ:ι->Nat)(i:ι)(Q:dR->St->Prop)(σ:St):fO L μ i Q .norm σ = ∃j,μ j<μ i∧bg σ (L j):=rfl
theorem cy{ι:Type}(L:ι->St)(μ:ι->Nat)(i:ι)(Q:dR->St->Prop)(σ:St):fO L μ i Q .ret σ=Q .ret σ:=rfl
theorem rG{ι:Type}(L:ι->St)(μ:ι->Nat)(i:ι)(Q:dR->St->Prop)(σ:St)(id:Nat):fO L μ i Q (.exit id) σ=Q (.exit id) σ:=rfl
def xk:ae->Value->Bool
 | .v (.int k n),.int k' n'=>decide (k=k')&&decide (n=n')&&decide (k.min<=n)&&decide (n<=k.max)
 | .v (.bool b),.bool b'=>b == b'
 | .v (.string s),.string s'=>decide (s=s')
 | .v (.pointer none),.pointer none=>true
 | .v (.map none),.map none=>true
 | .v .nilFunc,.nilFunc=>true
 | .v .nilIface,.nilIface=>true
 | .aE _ [] .ex,.slice none 0 0=>true
 | _,_=>false
theorem vj{x:ae}{u:Value}(h:xk x u=true):(∀g:G,RV g x u)∧x.scalar:=by
 unfold xk at h;split at h
 ·simp only[Bool.and_eq_true,decide_eq_true_eq]at h;obtain⟨⟨⟨h1,h2⟩,h3⟩,h4⟩:=h;subst h1;subst h2;exact⟨fun g=>.v ⟨h3,h4⟩,trivial⟩
 ·simp only[beq_iff_eq]at h;subst h;exact⟨fun g=>.v trivial,trivial⟩
 ·simp only[decide_eq_true_eq]at h;subst h;exact⟨fun g=>.v trivial,trivial⟩
 ·exact⟨fun g=>.v trivial,trivial⟩
 ·exact⟨fun g=>.v trivial,trivial⟩
 ·exact⟨fun g=>.v trivial,trivial⟩
 ·exact⟨fun g=>.v trivial,trivial⟩
 ·exact⟨fun g=>.nil (fun id e=>by cases e) (by simp),trivial⟩
 cases h
def mF:List ae->List Value->Bool
 | [],[]=>true
 | x::xs,u::us=>xk x u&&mF xs us
 | _,_=>false
theorem oo:∀{xs:List ae} {us:List Value},mF xs us=true->us.length=xs.length∧(∀g:G,∀(j:Nat) (c:ae) (u:Value),xs[j]?=some c->us[j]?=some u->RV g c u)∧∀c∈xs,c.scalar
 | [],[],_=>⟨rfl,by simp,by simp⟩
 | x::xs,u::us,h=>by
  simp only[mF,Bool.and_eq_true]at h;obtain⟨h1,h2⟩:=vj h.1;obtain⟨h3,h4,h5⟩:=oo h.2;refine⟨by simp[h3],fun g j c w a b=>?_,fun c hc=>?_⟩
  ·cases j with
   | zero =>
    simp at a b;subst a;subst b;exact h1 g
   | succ j=>exact h4 g j c w (by simpa using a) (by simpa using b)
  rcases List.mem_cons.1 hc with e|e
  ·subst e;exact h2
  exact h5 c e
 | [],_::_,h=>by simp[mF]at h
 | _::_,[],h=>by simp[mF]at h
def ml:List Field->List (Nat×TypeId)->Bool
 | [],[]=>true
 | f::r,p::q=>decide (f.offset=p.1)&&decide (f.type=p.2)&&ml r q
 | _,_=>false
theorem nH:∀{fs:List Field} {ps:List (Nat×TypeId)},ml fs ps=true->fs.map (fun f=>(f.offset,f.type))=ps
 | [],[],_=>rfl
 | f::r,p::q,h=>by
  simp only[ml,Bool.and_eq_true,decide_eq_true_eq]at h;obtain⟨⟨h1,h2⟩,h3⟩:=h;rw[List.map_cons,nH h3,h1,h2]
 | [],_::_,h=>by simp[ml]at h
 | _::_,[],h=>by simp[ml]at h
def zD:TypeDesc->TD->Bool
 | .struct fields,.struct fs=>ml fields.toList fs
 | .slice e,.slice e'=>decide (e=e')
 | .array n e,.array n' e'=>decide (n=n')&&decide (e=e')
 | .map k e,.map k' e'=>decide (k=k')&&decide (e=e')
 | .struct _,.other=>false
 | .array _ _,.other=>false
 | _,.other=>true
 | _,_=>false
theorem vQ{d:TypeDesc}{td:TD}(h:zD d td=true):oC d td:=by
 unfold zD at h;split at h
 ·exact⟨_,rfl,nH h⟩
 ·simp only[decide_eq_true_eq]at h;subst h;rfl
 ·simp only[Bool.and_eq_true,decide_eq_true_eq]at h;obtain⟨h1,h2⟩:=h;subst h1;subst h2;rfl
 ·simp only[Bool.and_eq_true,decide_eq_true_eq]at h;obtain⟨h1,h2⟩:=h;subst h1;subst h2;rfl
 ·cases h
 ·cases h
 ·rename_i h1 h2;cases d<;>first|trivial|exact(h1 _ rfl).elim|exact(h2 _ _ rfl).elim
 cases h
def wZ(agg:Bool):Value->Bool
 | .agg _=>agg
 | _=>!agg
def dO(P:Program)(t:TypeId)(ti:cr):Bool :=
 match P.info? t,P.underlying t with
 | some i,some d=>decide (i.size=ti.size)&&decide (i.bytes=ti.bytes)&&zD d ti.desc&&decide (ti.zero.length=ti.size) &&
  (match i.zero with
  | some z=>mF ti.zero z.cells.toList&&wZ ti.desc.agg z
  | none=>false)
 | _,_=>false
theorem bn{P:Program}{t:TypeId}{ti:cr}(h:dO P t ti=true):xm P t ti:=by
 unfold dO at h;split at h
 ·rename_i i d hi hd;split at h
  ·rename_i z hz;simp only[Bool.and_eq_true,decide_eq_true_eq]at h;obtain⟨⟨⟨⟨h1,h2⟩,h3⟩,h4⟩,h5,h6⟩:=h;obtain⟨q1,q2,q3⟩:=oo h5;refine⟨⟨i,z,hi,h1,h2,hz,by simpa using q1,h4,⟨fun ha=>?_,fun ha=>?_⟩,fun g j c u a b=>q2 g j c u a (by simpa using b),q3⟩,d,hd,vQ h3⟩
   ·cases z with
    | agg cs=>exact⟨cs,rfl⟩
    | _=>simp[wZ,ha]at h6
   cases z with
   | agg cs=>simp[wZ,ha]at h6
   | _=>rfl
  simp at h
 cases h
end Go.Av
namespace Go.Proofs.Ytkhnjeblbiocaaa
open Go.Av
def aW:eo
 | 1=>some ⟨1,8,[.v .nilFunc],.other⟩
 | 2=>some ⟨1,8,[.v (.int .i64 0)],.other⟩
 | 3=>some ⟨1,8,[.v (.int .i64 0)],.other⟩
 | 4=>some ⟨1,1,[.v (.bool false)],.other⟩
 | 5=>some ⟨1,1,[.v (.int .u8 0)],.other⟩
 | 9=>some ⟨1,16,[.v (.string ByteArray.empty)],.other⟩
 | 22=>some ⟨1,24,[.aE 2 [] .ex],.slice 37⟩
 | 24=>some ⟨2,32,[.aE 2 [] .ex,.v (.int .i64 0)],.struct [(0,22),(1,3)]⟩
 | 26=>some ⟨1,24,[.aE 1 [] .ex],.slice 3⟩
 | 28=>some ⟨3,40,[.aE 1 [] .ex,.v (.int .i64 0),.v (.int .i64 0)],.struct [(0,26),(1,3),(2,3)]⟩
 | 29=>some ⟨1,8,[.v (.int .i64 0)],.other⟩
 | 35=>some ⟨1,24,[.aE 7 [] .ex],.slice 44⟩
 | 37=>some ⟨2,32,[.v (.int .i64 0),.aE 7 [] .ex],.struct [(0,3),(1,35)]⟩
 | 39=>some ⟨1,24,[.aE 4 [] .ex],.slice 46⟩
 | 40=>some ⟨1,24,[.aE 2 [] .ex],.slice 48⟩
 | 42=>some ⟨5,72,[.v (.int .i64 0),.v (.int .i64 0),.v (.int .i64 0),.aE 1 [] .ex,.aE 2 [] .ex],.struct [(0,3),(1,3),(2,3),(3,26),(4,40)]⟩
 | 44=>some ⟨7,120,[.aE 1 [] .ex,.aE 4 [] .ex,.v (.int .i64 0),.v (.int .i64 0),.v (.int .i64 0),.aE 1 [] .ex,.aE 2 [] .ex],.struct [(0,26),(1,39),(2,42)]⟩
 | 46=>some ⟨4,48,[.v (.int .i64 0),.v (.int .i64 0),.v (.int .i64 0),.aE 1 [] .ex],.struct [(0,3),(1,3),(2,3),(3,26)]⟩
 | 48=>some ⟨2,32,[.v (.int .i64 0),.aE 1 [] .ex],.struct [(0,3),(1,26)]⟩
 | 57=>some ⟨1,24,[.aE 1 [] .ex],.slice 26⟩
 | 63=>some ⟨1,24,[.aE 2 [] .ex],.slice 64⟩
 | 64=>some ⟨2,16,[.v (.int .i64 0),.v (.int .i64 0)],.array 2 3⟩
 | 73=>some ⟨1,24,[.aE 1 [] .ex],.slice 4⟩
 | 81=>some ⟨1,8,[.v .nilFunc],.other⟩
 | 87=>some ⟨1,8,[.v .nilFunc],.other⟩
 | 94=>some ⟨1,8,[.v .nilFunc],.other⟩
 | 97=>some ⟨1,8,[.v (.pointer none)],.other⟩
 | 98=>some ⟨1,24,[.aE 1 [] .ex],.slice 114⟩
 | 100=>some ⟨9,112,[.aE 2 [] .ex,.v (.int .i64 0),.aE 1 [] .ex,.v (.int .i64 0),.v (.bool false),.v (.bool false),.aE 1 [] .ex,.v (.int .i64 0),.v (.int .i64 0)],.struct [(0,24),(2,98),(3,3),(4,4),(5,4),(6,28)]⟩
 | 102=>some ⟨1,8,[.v (.pointer none)],.other⟩
 | 103=>some ⟨1,8,[.v (.map none)],.map 3 128⟩
 | 105=>some ⟨3,40,[.v (.int .i64 0),.aE 7 [] .ex,.v (.map none)],.struct [(0,37),(2,103)]⟩
 | 113=>some ⟨1,24,[.aE 4 [] .ex],.slice 120⟩
 | 114=>some ⟨1,8,[.v (.pointer none)],.other⟩
 | 115=>some ⟨1,8,[.v (.map none)],.map 3 120⟩
 | 117=>some ⟨5,40,[.v (.int .i64 0),.v (.int .i64 0),.v (.int .i64 0),.v (.int .i64 0),.v (.map none)],.struct [(0,3),(1,3),(2,3),(3,3),(4,115)]⟩
 | 118=>some ⟨1,8,[.v (.pointer none)],.other⟩
 | 120=>some ⟨4,48,[.v (.int .i64 0),.v (.int .i64 0),.aE 4 [] .ex,.v (.pointer none)],.struct [(0,3),(1,3),(2,113),(3,118)]⟩
 | 128=>some ⟨2,16,[.v (.int .i64 0),.v (.int .i64 0)],.struct [(0,3),(1,3)]⟩
 | 129=>some ⟨1,24,[.aE 2 [] .ex],.slice 132⟩
 | 130=>some ⟨1,8,[.v (.int .u64 0)],.other⟩
 | 132=>some ⟨2,16,[.v (.int .u64 0),.v (.int .u64 0)],.array 2 130⟩
 | 142=>some ⟨1,8,[.v (.int .u64 0)],.other⟩
 | 151=>some ⟨1,8,[.v .nilFunc],.other⟩
 | 156=>some ⟨2,16,[.v (.int .i64 0),.v (.int .i64 0)],.struct [(0,3),(1,3)]⟩
 | 157=>some ⟨1,24,[.aE 2 [] .ex],.slice 156⟩
 | 158=>some ⟨1,8,[.v (.pointer none)],.other⟩
 | 173=>some ⟨1,8,[.v (.int .u64 0)],.other⟩
 | 177=>some ⟨1,8,[.v (.pointer none)],.other⟩
 | 180=>some ⟨1,8,[.v (.pointer none)],.other⟩
 | _=>none
theorem Hb:aW 1=some ⟨1,8,[.v .nilFunc],.other⟩:=rfl
theorem Hc:aW 2=some ⟨1,8,[.v (.int .i64 0)],.other⟩:=rfl
theorem Hd:aW 3=some ⟨1,8,[.v (.int .i64 0)],.other⟩:=rfl
theorem He:aW 4=some ⟨1,1,[.v (.bool false)],.other⟩:=rfl
theorem Hf:aW 5=some ⟨1,1,[.v (.int .u8 0)],.other⟩:=rfl
theorem Hg:aW 9=some ⟨1,16,[.v (.string ByteArray.empty)],.other⟩:=rfl
theorem Fe:aW 22=some ⟨1,24,[.aE 2 [] .ex],.slice 37⟩:=rfl
theorem Ff:aW 24=some ⟨2,32,[.aE 2 [] .ex,.v (.int .i64 0)],.struct [(0,22),(1,3)]⟩:=rfl
theorem Fg:aW 26=some ⟨1,24,[.aE 1 [] .ex],.slice 3⟩:=rfl
theorem Fh:aW 28=some ⟨3,40,[.aE 1 [] .ex,.v (.int .i64 0),.v (.int .i64 0)],.struct [(0,26),(1,3),(2,3)]⟩:=rfl
theorem Fk:aW 29=some ⟨1,8,[.v (.int .i64 0)],.other⟩:=rfl
theorem qN:aW 35=some ⟨1,24,[.aE 7 [] .ex],.slice 44⟩:=rfl
theorem Fl:aW 37=some ⟨2,32,[.v (.int .i64 0),.aE 7 [] .ex],.struct [(0,3),(1,35)]⟩:=rfl
theorem Fm:aW 39=some ⟨1,24,[.aE 4 [] .ex],.slice 46⟩:=rfl
theorem Fo:aW 40=some ⟨1,24,[.aE 2 [] .ex],.slice 48⟩:=rfl
theorem Fp:aW 42=some ⟨5,72,[.v (.int .i64 0),.v (.int .i64 0),.v (.int .i64 0),.aE 1 [] .ex,.aE 2 [] .ex],.struct [(0,3),(1,3),(2,3),(3,26),(4,40)]⟩:=rfl
theorem qO:aW 44=some ⟨7,120,[.aE 1 [] .ex,.aE 4 [] .ex,.v (.int .i64 0),.v (.int .i64 0),.v (.int .i64 0),.aE 1 [] .ex,.aE 2 [] .ex],.struct [(0,26),(1,39),(2,42)]⟩:=rfl
theorem Fq:aW 46=some ⟨4,48,[.v (.int .i64 0),.v (.int .i64 0),.v (.int .i64 0),.aE 1 [] .ex],.struct [(0,3),(1,3),(2,3),(3,26)]⟩:=rfl
theorem Fs:aW 48=some ⟨2,32,[.v (.int .i64 0),.aE 1 [] .ex],.struct [(0,3),(1,26)]⟩:=rfl
theorem Fu:aW 57=some ⟨1,24,[.aE 1 [] .ex],.slice 26⟩:=rfl
theorem tu:aW 63=some ⟨1,24,[.aE 2 [] .ex],.slice 64⟩:=rfl
theorem tv:aW 64=some ⟨2,16,[.v (.int .i64 0),.v (.int .i64 0)],.array 2 3⟩:=rfl
theorem Fv:aW 73=some ⟨1,24,[.aE 1 [] .ex],.slice 4⟩:=rfl
theorem Fw:aW 81=some ⟨1,8,[.v .nilFunc],.other⟩:=rfl
theorem Fx:aW 87=some ⟨1,8,[.v .nilFunc],.other⟩:=rfl
theorem Fy:aW 94=some ⟨1,8,[.v .nilFunc],.other⟩:=rfl
theorem Fz:aW 97=some ⟨1,8,[.v (.pointer none)],.other⟩:=rfl
theorem FA:aW 98=some ⟨1,24,[.aE 1 [] .ex],.slice 114⟩:=rfl
theorem CQ:aW 100=some ⟨9,112,[.aE 2 [] .ex,.v (.int .i64 0),.aE 1 [] .ex,.v (.int .i64 0),.v (.bool false),.v (.bool false),.aE 1 [] .ex,.v (.int .i64 0),.v (.int .i64 0)],.struct [(0,24),(2,98),(3,3),(4,4),(5,4),(6,28)]⟩:=rfl
theorem CR:aW 102=some ⟨1,8,[.v (.pointer none)],.other⟩:=rfl
theorem CS:aW 103=some ⟨1,8,[.v (.map none)],.map 3 128⟩:=rfl
theorem CT:aW 105=some ⟨3,40,[.v (.int .i64 0),.aE 7 [] .ex,.v (.map none)],.struct [(0,37),(2,103)]⟩:=rfl
theorem CU:aW 113=some ⟨1,24,[.aE 4 [] .ex],.slice 120⟩:=rfl
theorem CV:aW 114=some ⟨1,8,[.v (.pointer none)],.other⟩:=rfl
theorem CW:aW 115=some ⟨1,8,[.v (.map none)],.map 3 120⟩:=rfl
theorem CX:aW 117=some ⟨5,40,[.v (.int .i64 0),.v (.int .i64 0),.v (.int .i64 0),.v (.int .i64 0),.v (.map none)],.struct [(0,3),(1,3),(2,3),(3,3),(4,115)]⟩:=rfl
theorem CY:aW 118=some ⟨1,8,[.v (.pointer none)],.other⟩:=rfl
theorem CZ:aW 120=some ⟨4,48,[.v (.int .i64 0),.v (.int .i64 0),.aE 4 [] .ex,.v (.pointer none)],.struct [(0,3),(1,3),(2,113),(3,118)]⟩:=rfl
theorem C1:aW 128=some ⟨2,16,[.v (.int .i64 0),.v (.int .i64 0)],.struct [(0,3),(1,3)]⟩:=rfl
theorem C3:aW 129=some ⟨1,24,[.aE 2 [] .ex],.slice 132⟩:=rfl
theorem xK:aW 130=some ⟨1,8,[.v (.int .u64 0)],.other⟩:=rfl
theorem C4:aW 132=some ⟨2,16,[.v (.int .u64 0),.v (.int .u64 0)],.array 2 130⟩:=rfl
theorem C5:aW 142=some ⟨1,8,[.v (.int .u64 0)],.other⟩:=rfl
theorem C6:aW 151=some ⟨1,8,[.v .nilFunc],.other⟩:=rfl
theorem C7:aW 156=some ⟨2,16,[.v (.int .i64 0),.v (.int .i64 0)],.struct [(0,3),(1,3)]⟩:=rfl
theorem C8:aW 157=some ⟨1,24,[.aE 2 [] .ex],.slice 156⟩:=rfl
theorem C9:aW 158=some ⟨1,8,[.v (.pointer none)],.other⟩:=rfl
theorem C':aW 173=some ⟨1,8,[.v (.int .u64 0)],.other⟩:=rfl
theorem Da:aW 177=some ⟨1,8,[.v (.pointer none)],.other⟩:=rfl
theorem Db:aW 180=some ⟨1,8,[.v (.pointer none)],.other⟩:=rfl
theorem FB:dO Go.Proofs.Try.prog 1 ⟨1,8,[.v .nilFunc],.other⟩=true:=by kernel_rfl
theorem FC:dO Go.Proofs.Try.prog 2 ⟨1,8,[.v (.int .i64 0)],.other⟩=true:=by kernel_rfl
theorem FD:dO Go.Proofs.Try.prog 3 ⟨1,8,[.v (.int .i64 0)],.other⟩=true:=by kernel_rfl
theorem FE:dO Go.Proofs.Try.prog 4 ⟨1,1,[.v (.bool false)],.other⟩=true:=by kernel_rfl
theorem FF:dO Go.Proofs.Try.prog 5 ⟨1,1,[.v (.int .u8 0)],.other⟩=true:=by kernel_rfl
theorem FG:dO Go.Proofs.Try.prog 9 ⟨1,16,[.v (.string ByteArray.empty)],.other⟩=true:=by kernel_rfl
theorem Dc:dO Go.Proofs.Try.prog 22 ⟨1,24,[.aE 2 [] .ex],.slice 37⟩=true:=by kernel_rfl
theorem Dd:dO Go.Proofs.Try.prog 24 ⟨2,32,[.aE 2 [] .ex,.v (.int .i64 0)],.struct [(0,22),(1,3)]⟩=true:=by kernel_rfl
theorem De:dO Go.Proofs.Try.prog 26 ⟨1,24,[.aE 1 [] .ex],.slice 3⟩=true:=by kernel_rfl
theorem Df:dO Go.Proofs.Try.prog 28 ⟨3,40,[.aE 1 [] .ex,.v (.int .i64 0),.v (.int .i64 0)],.struct [(0,26),(1,3),(2,3)]⟩=true:=by kernel_rfl
theorem Dg:dO Go.Proofs.Try.prog 29 ⟨1,8,[.v (.int .i64 0)],.other⟩=true:=by kernel_rfl
theorem Dh:dO Go.Proofs.Try.prog 35 ⟨1,24,[.aE 7 [] .ex],.slice 44⟩=true:=by kernel_rfl
theorem Di:dO Go.Proofs.Try.prog 37 ⟨2,32,[.v (.int .i64 0),.aE 7 [] .ex],.struct [(0,3),(1,35)]⟩=true:=by kernel_rfl
theorem Dj:dO Go.Proofs.Try.prog 39 ⟨1,24,[.aE 4 [] .ex],.slice 46⟩=true:=by kernel_rfl
theorem Dk:dO Go.Proofs.Try.prog 40 ⟨1,24,[.aE 2 [] .ex],.slice 48⟩=true:=by kernel_rfl
theorem Dl:dO Go.Proofs.Try.prog 42 ⟨5,72,[.v (.int .i64 0),.v (.int .i64 0),.v (.int .i64 0),.aE 1 [] .ex,.aE 2 [] .ex],.struct [(0,3),(1,3),(2,3),(3,26),(4,40)]⟩=true:=by kernel_rfl
theorem Dm:dO Go.Proofs.Try.prog 44 ⟨7,120,[.aE 1 [] .ex,.aE 4 [] .ex,.v (.int .i64 0),.v (.int .i64 0),.v (.int .i64 0),.aE 1 [] .ex,.aE 2 [] .ex],.struct [(0,26),(1,39),(2,42)]⟩=true:=by kernel_rfl
theorem Dn:dO Go.Proofs.Try.prog 46 ⟨4,48,[.v (.int .i64 0),.v (.int .i64 0),.v (.int .i64 0),.aE 1 [] .ex],.struct [(0,3),(1,3),(2,3),(3,26)]⟩=true:=by kernel_rfl
theorem Dp:dO Go.Proofs.Try.prog 48 ⟨2,32,[.v (.int .i64 0),.aE 1 [] .ex],.struct [(0,3),(1,26)]⟩=true:=by kernel_rfl
theorem Dq:dO Go.Proofs.Try.prog 57 ⟨1,24,[.aE 1 [] .ex],.slice 26⟩=true:=by kernel_rfl
theorem Dr:dO Go.Proofs.Try.prog 63 ⟨1,24,[.aE 2 [] .ex],.slice 64⟩=true:=by kernel_rfl
theorem Dt:dO Go.Proofs.Try.prog 64 ⟨2,16,[.v (.int .i64 0),.v (.int .i64 0)],.array 2 3⟩=true:=by kernel_rfl
theorem Du:dO Go.Proofs.Try.prog 73 ⟨1,24,[.aE 1 [] .ex],.slice 4⟩=true:=by kernel_rfl
theorem Dv:dO Go.Proofs.Try.prog 81 ⟨1,8,[.v .nilFunc],.other⟩=true:=by kernel_rfl
theorem Dw:dO Go.Proofs.Try.prog 87 ⟨1,8,[.v .nilFunc],.other⟩=true:=by kernel_rfl
theorem Dx:dO Go.Proofs.Try.prog 94 ⟨1,8,[.v .nilFunc],.other⟩=true:=by kernel_rfl
theorem Dy:dO Go.Proofs.Try.prog 97 ⟨1,8,[.v (.pointer none)],.other⟩=true:=by kernel_rfl
theorem DA:dO Go.Proofs.Try.prog 98 ⟨1,24,[.aE 1 [] .ex],.slice 114⟩=true:=by kernel_rfl
theorem AV:dO Go.Proofs.Try.prog 100 ⟨9,112,[.aE 2 [] .ex,.v (.int .i64 0),.aE 1 [] .ex,.v (.int .i64 0),.v (.bool false),.v (.bool false),.aE 1 [] .ex,.v (.int .i64 0),.v (.int .i64 0)],.struct [(0,24),(2,98),(3,3),(4,4),(5,4),(6,28)]⟩=true:=by kernel_rfl
theorem AW:dO Go.Proofs.Try.prog 102 ⟨1,8,[.v (.pointer none)],.other⟩=true:=by kernel_rfl
theorem AX:dO Go.Proofs.Try.prog 103 ⟨1,8,[.v (.map none)],.map 3 128⟩=true:=by kernel_rfl
theorem AY:dO Go.Proofs.Try.prog 105 ⟨3,40,[.v (.int .i64 0),.aE 7 [] .ex,.v (.map none)],.struct [(0,37),(2,103)]⟩=true:=by kernel_rfl
theorem AZ:dO Go.Proofs.Try.prog 113 ⟨1,24,[.aE 4 [] .ex],.slice 120⟩=true:=by kernel_rfl
theorem A0:dO Go.Proofs.Try.prog 114 ⟨1,8,[.v (.pointer none)],.other⟩=true:=by kernel_rfl
theorem A1:dO Go.Proofs.Try.prog 115 ⟨1,8,[.v (.map none)],.map 3 120⟩=true:=by kernel_rfl
theorem A2:dO Go.Proofs.Try.prog 117 ⟨5,40,[.v (.int .i64 0),.v (.int .i64 0),.v (.int .i64 0),.v (.int .i64 0),.v (.map none)],.struct [(0,3),(1,3),(2,3),(3,3),(4,115)]⟩=true:=by kernel_rfl
theorem A3:dO Go.Proofs.Try.prog 118 ⟨1,8,[.v (.pointer none)],.other⟩=true:=by kernel_rfl
theorem A4:dO Go.Proofs.Try.prog 120 ⟨4,48,[.v (.int .i64 0),.v (.int .i64 0),.aE 4 [] .ex,.v (.pointer none)],.struct [(0,3),(1,3),(2,113),(3,118)]⟩=true:=by kernel_rfl
theorem A5:dO Go.Proofs.Try.prog 128 ⟨2,16,[.v (.int .i64 0),.v (.int .i64 0)],.struct [(0,3),(1,3)]⟩=true:=by kernel_rfl
theorem A6:dO Go.Proofs.Try.prog 129 ⟨1,24,[.aE 2 [] .ex],.slice 132⟩=true:=by kernel_rfl
theorem A7:dO Go.Proofs.Try.prog 130 ⟨1,8,[.v (.int .u64 0)],.other⟩=true:=by kernel_rfl
theorem A8:dO Go.Proofs.Try.prog 132 ⟨2,16,[.v (.int .u64 0),.v (.int .u64 0)],.array 2 130⟩=true:=by kernel_rfl
theorem A9:dO Go.Proofs.Try.prog 142 ⟨1,8,[.v (.int .u64 0)],.other⟩=true:=by kernel_rfl
theorem A':dO Go.Proofs.Try.prog 151 ⟨1,8,[.v .nilFunc],.other⟩=true:=by kernel_rfl
theorem Ba:dO Go.Proofs.Try.prog 156 ⟨2,16,[.v (.int .i64 0),.v (.int .i64 0)],.struct [(0,3),(1,3)]⟩=true:=by kernel_rfl
theorem Bb:dO Go.Proofs.Try.prog 157 ⟨1,24,[.aE 2 [] .ex],.slice 156⟩=true:=by kernel_rfl
theorem Bc:dO Go.Proofs.Try.prog 158 ⟨1,8,[.v (.pointer none)],.other⟩=true:=by kernel_rfl
theorem Bd:dO Go.Proofs.Try.prog 173 ⟨1,8,[.v (.int .u64 0)],.other⟩=true:=by kernel_rfl
theorem Be:dO Go.Proofs.Try.prog 177 ⟨1,8,[.v (.pointer none)],.other⟩=true:=by kernel_rfl
theorem Bf:dO Go.Proofs.Try.prog 180 ⟨1,8,[.v (.pointer none)],.other⟩=true:=by kernel_rfl
set_option maxRecDepth 100000 in
theorem hT:cb Go.Proofs.Try.prog aW:=by
 intro t ti h;unfold aW at h;split at h
 ·cases h;exact bn FB
 ·cases h;exact bn FC
 ·cases h;exact bn FD
 ·cases h;exact bn FE
 ·cases h;exact bn FF
 ·cases h;exact bn FG
 ·cases h;exact bn Dc
 ·cases h;exact bn Dd
 ·cases h;exact bn De
 ·cases h;exact bn Df
 ·cases h;exact bn Dg
 ·cases h;exact bn Dh
 ·cases h;exact bn Di
 ·cases h;exact bn Dj
 ·cases h;exact bn Dk
 ·cases h;exact bn Dl
 ·cases h;exact bn Dm
 ·cases h;exact bn Dn
 ·cases h;exact bn Dp
 ·cases h;exact bn Dq
 ·cases h;exact bn Dr
 ·cases h;exact bn Dt
 ·cases h;exact bn Du
 ·cases h;exact bn Dv
 ·cases h;exact bn Dw
 ·cases h;exact bn Dx
 ·cases h;exact bn Dy
 ·cases h;exact bn DA
 ·cases h;exact bn AV
 ·cases h;exact bn AW
 ·cases h;exact bn AX
 ·cases h;exact bn AY
 ·cases h;exact bn AZ
 ·cases h;exact bn A0
 ·cases h;exact bn A1
 ·cases h;exact bn A2
 ·cases h;exact bn A3
 ·cases h;exact bn A4
 ·cases h;exact bn A5
 ·cases h;exact bn A6
 ·cases h;exact bn A7
 ·cases h;exact bn A8
 ·cases h;exact bn A9
 ·cases h;exact bn A'
 ·cases h;exact bn Ba
 ·cases h;exact bn Bb
 ·cases h;exact bn Bc
 ·cases h;exact bn Bd
 ·cases h;exact bn Be
 ·cases h;exact bn Bf
 cases h
theorem hm:Go.Proofs.Try.prog.follows .mixedOrders=true:=by kernel_rfl
structure bE where
 to:Int
 op:Int
 n:Int
 args:List Int
structure Edge where
 block:Int
 args:List Int
structure Term where
 kind:Int
 arg:Int
 n:Int
 cases:List Int
 to:List Edge
structure Block where
 params:List Int
 ins:List bE
 term:Term
structure Func where
 name:Int
 blocks:List Block
structure bR where
 fns:List Func
 main:Int
abbrev aI(n:Int):ae:=.v (.int .i64 n)
abbrev a6(l:List Int):ae:=.aE 1 (l.map aI) .sh
def bE.enc(i:bE):ae:=.agg [aI i.to,aI i.op,aI i.n,a6 i.args]
abbrev bD(l:List bE):ae:=.aE 4 (l.map bE.enc) .sh
def Edge.enc(e:Edge):ae:=.agg [aI e.block,a6 e.args]
abbrev aJ(l:List Edge):ae:=.aE 2 (l.map Edge.enc) .sh
def Term.enc(t:Term):ae:=.agg [aI t.kind,aI t.arg,aI t.n,a6 t.cases,aJ t.to]
def Block.enc(b:Block):ae:=.agg [a6 b.params,bD b.ins,aI b.term.kind,aI b.term.arg,aI b.term.n,a6 b.term.cases,aJ b.term.to]
abbrev ay(l:List Block):ae:=.aE 7 (l.map Block.enc) .sh
def Func.enc(f:Func):ae:=.agg [aI f.name,ay f.blocks]
abbrev a9(l:List Func):ae:=.aE 2 (l.map Func.enc) .sh
def bR.enc(u:bR):ae:=.agg [a9 u.fns,aI u.main]
theorem az(n:Nat)(l:List Int):aw n (l.map aI):=by
 rw[aY];intro x hx;obtain⟨c,_,rfl⟩:=List.mem_map.1 hx;trivial
theorem y3(l:List Int):(l.map aI).map ae.share=l.map aI:=by
 rw[List.map_map];rfl
theorem bE.al(i:bE):i.enc.cells=[aI i.to,aI i.op,aI i.n,a6 i.args]:=rfl
theorem bE.fold(i:bE):ae.agg [aI i.to,aI i.op,aI i.n,a6 i.args]=i.enc:=rfl
theorem bE.aN(n:Nat)(i:bE):i.enc.upto n:=by
 simp only[bE.enc,ae.upto,aw,and_true,true_and,az]
theorem bE.ai(n:Nat)(l:List bE):aw n (l.map bE.enc):=by
 rw[aY];intro x hx;obtain⟨c,_,rfl⟩:=List.mem_map.1 hx;exact c.aN n
theorem bE.av(i:bE):i.enc.flat:=trivial
theorem bE.an(i:bE):i.enc.share=i.enc:=rfl
theorem bE.dx(l:List bE):(l.map bE.enc).map ae.share=l.map bE.enc:=by
 rw[List.map_map];rfl
theorem Edge.al(e:Edge):e.enc.cells=[aI e.block,a6 e.args]:=rfl
theorem Edge.fold(e:Edge):ae.agg [aI e.block,a6 e.args]=e.enc:=rfl
theorem Edge.aN(n:Nat)(e:Edge):e.enc.upto n:=by
 simp only[Edge.enc,ae.upto,aw,and_true,true_and,az]
theorem Edge.ai(n:Nat)(l:List Edge):aw n (l.map Edge.enc):=by
 rw[aY];intro x hx;obtain⟨c,_,rfl⟩:=List.mem_map.1 hx;exact c.aN n
theorem Edge.av(e:Edge):e.enc.flat:=trivial
theorem Edge.an(e:Edge):e.enc.share=e.enc:=rfl
theorem Edge.dx(l:List Edge):(l.map Edge.enc).map ae.share=l.map Edge.enc:=by
 rw[List.map_map];rfl
theorem Term.al(t:Term):t.enc.cells=[aI t.kind,aI t.arg,aI t.n,a6 t.cases,aJ t.to]:=rfl
theorem Term.fold(t:Term):ae.agg [aI t.kind,aI t.arg,aI t.n,a6 t.cases,aJ t.to]=t.enc:=rfl
theorem Term.aN(n:Nat)(t:Term):t.enc.upto n:=by
 simp only[Term.enc,ae.upto,aw,and_true,true_and,az,Edge.ai]
theorem Term.ai(n:Nat)(l:List Term):aw n (l.map Term.enc):=by
 rw[aY];intro x hx;obtain⟨c,_,rfl⟩:=List.mem_map.1 hx;exact c.aN n
theorem Term.av(t:Term):t.enc.flat:=trivial
theorem Term.an(t:Term):t.enc.share=t.enc:=rfl
theorem Term.dx(l:List Term):(l.map Term.enc).map ae.share=l.map Term.enc:=by
 rw[List.map_map];rfl
theorem Block.al(b:Block):b.enc.cells=[a6 b.params,bD b.ins,aI b.term.kind,aI b.term.arg,aI b.term.n,a6 b.term.cases,aJ b.term.to]:=rfl
theorem Block.fold(b:Block):ae.agg [a6 b.params,bD b.ins,aI b.term.kind,aI b.term.arg,aI b.term.n,a6 b.term.cases,aJ b.term.to]=b.enc:=rfl
theorem Block.aN(n:Nat)(b:Block):b.enc.upto n:=by
 simp only[Block.enc,ae.upto,aw,and_true,true_and,az,Edge.ai,bE.ai]
theorem Block.ai(n:Nat)(l:List Block):aw n (l.map Block.enc):=by
 rw[aY];intro x hx;obtain⟨c,_,rfl⟩:=List.mem_map.1 hx;exact c.aN n
theorem Block.av(b:Block):b.enc.flat:=trivial
theorem Block.an(b:Block):b.enc.share=b.enc:=rfl
theorem Block.dx(l:List Block):(l.map Block.enc).map ae.share=l.map Block.enc:=by
 rw[List.map_map];rfl
theorem Func.al(f:Func):f.enc.cells=[aI f.name,ay f.blocks]:=rfl
theorem Func.fold(f:Func):ae.agg [aI f.name,ay f.blocks]=f.enc:=rfl
theorem Func.aN(n:Nat)(f:Func):f.enc.upto n:=by
 simp only[Func.enc,ae.upto,aw,and_true,true_and,az,Block.ai]
theorem Func.ai(n:Nat)(l:List Func):aw n (l.map Func.enc):=by
 rw[aY];intro x hx;obtain⟨c,_,rfl⟩:=List.mem_map.1 hx;exact c.aN n
theorem Func.av(f:Func):f.enc.flat:=trivial
theorem Func.an(f:Func):f.enc.share=f.enc:=rfl
theorem Func.dx(l:List Func):(l.map Func.enc).map ae.share=l.map Func.enc:=by
 rw[List.map_map];rfl
theorem bR.al(u:bR):u.enc.cells=[a9 u.fns,aI u.main]:=rfl
theorem bR.fold(u:bR):ae.agg [a9 u.fns,aI u.main]=u.enc:=rfl
theorem bR.aN(n:Nat)(u:bR):u.enc.upto n:=by
 simp only[bR.enc,ae.upto,aw,and_true,true_and,az,Func.ai]
theorem bR.ai(n:Nat)(l:List bR):aw n (l.map bR.enc):=by
 rw[aY];intro x hx;obtain⟨c,_,rfl⟩:=List.mem_map.1 hx;exact c.aN n
theorem bR.av(u:bR):u.enc.flat:=trivial
theorem bR.an(u:bR):u.enc.share=u.enc:=rfl
theorem bR.dx(l:List bR):(l.map bR.enc).map ae.share=l.map bR.enc:=by
 rw[List.map_map];rfl
theorem Ik:wI Try.prog 3=some (.int .i64):=by
 unfold wI;rw[Try.underlying3]
def gX(n:Int):Prop:=-9223372036854775808<=n∧n<=9223372036854775807
def nI(l:List Int):Prop:=∀n∈l,gX n
def bE.fit(i:bE):Prop:=gX i.to∧gX i.op∧gX i.n∧nI i.args∧i.args.length<=2 ^ 47
def Edge.fit(e:Edge):Prop:=gX e.block∧nI e.args∧e.args.length<=2 ^ 47
def Term.fit(t:Term):Prop:=gX t.kind∧gX t.arg∧gX t.n∧nI t.cases∧t.cases.length<=2 ^ 47∧t.to.length<=2 ^ 47∧∀e∈t.to,e.fit
def Block.fit(b:Block):Prop:=nI b.params∧b.params.length<=2 ^ 47∧b.ins.length<=2 ^ 47∧(∀i∈b.ins,i.fit)∧b.term.fit
def Func.fit(f:Func):Prop:=gX f.name∧f.blocks.length<=2 ^ 47∧∀b∈f.blocks,b.fit
def bR.fit(u:bR):Prop:=gX u.main∧u.fns.length<=2 ^ 47∧∀f∈u.fns,f.fit
inductive SV where
 | mk (kind n:Int) (list:List SV) (arr:Option Nat)
def eP:Option Nat->ae
 | none=>.v (.pointer none)
 | some id=>.mp id 0
namespace SV
def kind:SV->Int|mk k _ _ _=>k
def n:SV->Int|mk _ n _ _=>n
def list:SV->List SV|mk _ _ l _=>l
def arr:SV->Option Nat|mk _ _ _ a=>a
mutual
def enc:SV->ae
 | mk k n l a=>.agg [aI k,aI n,.aE 4 (zH l) .sh,eP a]
def zH:List SV->List ae
 | []=>[]
 | p::r=>p.enc::zH r
end
theorem uf:∀l:List SV,zH l=l.map enc
 | []=>by simp[zH]
 | p::r=>by simp[zH,uf r]
theorem fI(p:SV):p.enc=.agg [aI p.kind,aI p.n,.aE 4 (p.list.map enc) .sh,eP p.arr]:=by
 cases p with
 | mk k n l a=>simp[enc,kind,SV.n,list,arr,uf]
theorem fold(p:SV):ae.agg [aI p.kind,aI p.n,.aE 4 (p.list.map enc) .sh,eP p.arr]=p.enc:=(fI p).symm
theorem iu(k n:Int)(l:List SV)(a:Option Nat):(mk k n l a).enc=.agg [aI k,aI n,.aE 4 (l.map enc) .sh,eP a]:=fI _
theorem al(p:SV):p.enc.cells=[aI p.kind,aI p.n,.aE 4 (p.list.map enc) .sh,eP p.arr]:=by
 rw[fI];rfl
theorem xO(p:SV):ae.agg p.enc.cells=p.enc:=by
 rw[al,fold]
theorem _root_.Go.Proofs.Ytkhnjeblbiocaaa.cx(a:Option Nat):(eP a).bk=eP a:=by cases a<;>rfl
theorem _root_.Go.Proofs.Ytkhnjeblbiocaaa.xY(a:Option Nat):(eP a).scalar:=by cases a<;>trivial
theorem an(p:SV):p.enc.share=p.enc:=by
 rw[fI];have:=cx p.arr;unfold ae.bk at this;simp[ae.share,ae.bk,this]
theorem av(p:SV):p.enc.flat:=by
 rw[fI];trivial
theorem dx(l:List SV):(l.map enc).map ae.share=l.map enc:=by
 rw[List.map_map];exact List.map_congr_left fun p _=>an p
theorem dj(p:SV):p.enc.cells.length=4:=by
 rw[al];rfl
inductive bh(n:Nat):SV->Prop
 | mk {k m:Int} {l:List SV} {a:Option Nat} (ha:∀id,a=some id->id<n) (hl:∀v,v∈l->bh n v):bh n (.mk k m l a)
theorem bh.mono{n m:Nat}(h:n<=m){v:SV}(k:bh n v):bh m v:=by
 induction k with
 | mk ha hl ih=>exact .mk (fun id e=>Nat.lt_of_lt_of_le (ha id e) h) ih
theorem BV{n:Nat}{a:Option Nat}(h:∀id,a=some id->id<n):(eP a).upto n:=by
 cases a with
 | none=>trivial
 | some id=>exact h id rfl
theorem bh.aN{n:Nat}{p:SV}(h:bh n p):p.enc.upto n:=by
 induction h with
 | mk ha hl ih =>
  rw[iu];simp only[ae.upto,aw,true_and,and_true];refine⟨?_,BV ha⟩;rw[aY];intro x hx;obtain⟨v,hv,rfl⟩:=List.mem_map.1 hx;exact ih v hv
theorem ai{n:Nat}{l:List SV}(h:∀v∈l,bh n v):aw n (l.map enc):=by
 rw[aY];intro x hx;obtain⟨v,hv,rfl⟩:=List.mem_map.1 hx;exact(h v hv).aN
theorem ir{n:Nat}{l:List SV}(h:∀v∈l,bh n v):aw n (ao (l.map enc)):=by
 rw[aY];intro c hc;simp only[ao,List.mem_flatMap,List.mem_map]at hc;obtain⟨_,⟨p,hp,rfl⟩,hc⟩:=hc;have:=(h p hp).aN;rw[fI]at this;rw[al]at hc;simp only[ae.upto,aY]at this;exact this c hc
theorem CE(l:List SV):(ao (l.map enc)).length=l.length*4:=by
 rw[bO (sz:=4) (fun x hx=>by
  obtain⟨p,_,rfl⟩:=List.mem_map.1 hx;exact p.dj)]
 simp
theorem xJ:∀{l:List SV} {k:Nat} {p:SV},l[k]?=some p->((ao (l.map enc)).drop (k*4)).take 4=p.enc.cells
 | q::r,0,p,h=>by
  simp only[List.getElem?_cons_zero,Option.some.injEq]at h;subst h;simp only[List.map_cons,ao,List.flatMap_cons,Nat.zero_mul,List.drop_zero];rw[List.take_append_of_le_length (by rw[dj];exact Nat.le_refl _),List.take_of_length_le (by rw[dj];exact Nat.le_refl _)]
 | q::r,k+1,p,h=>by
  have ih:=xJ (l:=r) (k:=k) (p:=p) (by simpa using h);simp only[List.map_cons,ao,List.flatMap_cons]at ih ⊢;rw[List.drop_append,List.drop_of_length_le (by rw[dj];omega),dj,show(k+1)*4-4=k*4 by omega];exact ih
theorem CF{l:List SV}{k:Nat}(h:k<l.length)(q:SV):aS (ao (l.map enc)) (k*4) q.enc.cells=ao ((l.set k q).map enc):=by
 induction l generalizing k with
 | nil=>simp at h
 | cons p r ih =>
  cases k with
  | zero =>
   simp only[List.set_cons_zero,List.map_cons,ao,List.flatMap_cons,aS,Nat.zero_mul,List.take_zero,List.nil_append,Nat.zero_add,dj];rw[List.drop_append_of_le_length (by rw[dj];exact Nat.le_refl _),List.drop_of_length_le (by rw[dj];exact Nat.le_refl _)];rfl
  | succ k =>
   have:=ih (k:=k) (by simpa using h);simp only[List.set_cons_succ,List.map_cons,ao,List.flatMap_cons,aS,dj]at this ⊢;rw[List.take_append,List.drop_append,dj,List.take_of_length_le (by rw[dj];omega),List.drop_of_length_le (by rw[dj];omega),show(k+1)*4-4=k*4 by omega,show(k+1)*4+4-4=k*4+4 by omega,List.nil_append,List.append_assoc,this]
def word(n:Int):SV:=mk 0 n [] none
def zero:SV:=mk 0 0 [] none
inductive Wf(f:Nat)(a:Nat->Prop):SV->Prop
 | mk {k m:Int} {l:List SV} {r:Option Nat}
   (h0:0<=k∧k<=4) (h1:k=0∨k=1->-1073741824<=m∧m<=1073741823) (h2:k=2->0<=m∧m<f) (h3:k=3->∃id,r=some id)
   (h4:k=4->∀v,v∈l->v.kind=0) (hl:l.length<=1000) (hr:∀id,r=some id->a id) (h:∀v,v∈l->Wf f a v):Wf f a (.mk k m l r)
theorem Wf.under{f n:Nat}{a:Nat->Prop}(ha:∀id,a id->id<n){v:SV}(h:Wf f a v):bh n v:=by
 induction h with
 | mk h0 h1 h2 h3 h4 hl hr h ih=>exact .mk (fun id e=>ha id (hr id e)) ih
theorem Wf.mono{f:Nat}{a b:Nat->Prop}(Bq:∀id,a id->b id){v:SV}(h:Wf f a v):Wf f b v:=by
 induction h with
 | mk h0 h1 h2 h3 h4 hl hr h ih=>exact .mk h0 h1 h2 h3 h4 hl (fun id e=>Bq id (hr id e)) ih
theorem Wf.word{f:Nat}{a:Nat->Prop}{n:Int}(h:-1073741824<=n∧n<=1073741823):Wf f a (word n) :=
 .mk (by omega) (fun _=>h) (by omega) (by omega) (by omega) (by simp) (by simp) (by simp)
theorem Wf.zero{f:Nat}{a:Nat->Prop}:Wf f a zero:=Wf.word (n:=0) (by omega)
theorem Wf.num{f:Nat}{a:Nat->Prop}{v:SV}(h:Wf f a v):v.kind=0∨v.kind=1->-1073741824<=v.n∧v.n<=1073741823:=by cases h;assumption
theorem Wf.fn{f:Nat}{a:Nat->Prop}{v:SV}(h:Wf f a v):v.kind=2->0<=v.n∧v.n<f:=by cases h;assumption
theorem Wf.array{f:Nat}{a:Nat->Prop}{v:SV}(h:Wf f a v):v.kind=3->∃id,v.arr=some id:=by cases h;assumption
theorem Wf.vec{f:Nat}{a:Nat->Prop}{v:SV}(h:Wf f a v):v.kind=4->∀x∈v.list,x.kind=0:=by cases h;assumption
theorem Wf.len{f:Nat}{a:Nat->Prop}{v:SV}(h:Wf f a v):v.list.length<=1000:=by cases h;assumption
theorem Wf.ref{f:Nat}{a:Nat->Prop}{v:SV}(h:Wf f a v):∀id,v.arr=some id->a id:=by cases h;assumption
theorem Wf.kids{f:Nat}{a:Nat->Prop}{v:SV}(h:Wf f a v):∀x∈v.list,Wf f a x:=by cases h;assumption
end SV
def gq:List (Int×SV)->Int->Option SV
 | [],_=>none
 | (k,v)::r,key=>if k=key then some v else gq r key
def cK:List (Int×SV)->Int->SV->List (Int×SV)
 | [],key,y=>[(key,y)]
 | (k,x)::r,key,y=>if k=key then(key,y)::r else(k,x)::cK r key y
def gi(e:Int×SV):Value×ae:=(.int .i64 e.1,e.2.enc)
theorem mj(k l:Int):lz (.int .i64 k) (.int .i64 l)=decide (k=l):=by
 simp[lz]
theorem kE(es:List (Int×SV))(k:Int):jh (es.map gi) (.int .i64 k)=(gq es k).map SV.enc:=by
 induction es with
 | nil=>rfl
 | cons p r ih =>
  obtain⟨a,v⟩:=p;simp only[List.map_cons,gi,jh,gq,mj,decide_eq_true_eq];split
  ·rfl
  exact ih
theorem nY(es:List (Int×SV))(k:Int)(v:SV):ll (es.map gi) (.int .i64 k) v.enc=(cK es k v).map gi:=by
 induction es with
 | nil=>rfl
 | cons p r ih =>
  obtain⟨a,x⟩:=p;simp only[List.map_cons,gi,ll,cK,mj,decide_eq_true_eq];split
  ·rfl
  simp only[List.map_cons,gi];rw[<-ih]
def cZ(es:List (Int×SV))(k:Int):SV:=(gq es k).getD .zero
theorem sb{es:List (Int×SV)}{k:Int}{v:SV}(h:gq es k=some v):∃e∈es,e.2=v:=by
 induction es with
 | nil=>simp[gq]at h
 | cons p r ih =>
  obtain⟨a,x⟩:=p;simp only[gq]at h;split at h
  ·exact⟨(a,x),by simp,by simpa using h⟩
  obtain⟨e,h1,h2⟩:=ih h;exact⟨e,by simp[h1],h2⟩
theorem iD{es:List (Int×SV)}{k:Int}{v:SV}{e:Int×SV}(h:e∈cK es k v):e∈es∨e=(k,v):=by
 induction es with
 | nil=>simpa[cK]using h
 | cons p r ih =>
  obtain⟨a,x⟩:=p;simp only[cK]at h;split at h
  ·rcases List.mem_cons.1 h with h|h
   ·exact .inr h
   exact .inl (by simp[h])
  rcases List.mem_cons.1 h with h|h
  ·exact .inl (by simp[h])
  rcases ih h with h|h
  ·exact .inl (by simp[h])
  exact .inr h
instance:Inhabited bE:=⟨⟨0,0,0,[]⟩⟩
instance:Inhabited Edge:=⟨⟨0,[]⟩⟩
instance:Inhabited Term:=⟨⟨0,0,0,[],[]⟩⟩
instance:Inhabited Block:=⟨⟨[],[],default⟩⟩
instance:Inhabited Func:=⟨⟨0,[]⟩⟩
instance:Inhabited SV:=⟨.zero⟩
structure Fr where
 bP:Nat
 di:Nat
 fn:Int
 blk:Int
 pos:Nat
 to:Int
 vals:List (Int×SV)
structure vp where
 kd:Nat
 bW:Nat
 l:List SV
structure Mach where
 sid:Nat
 frames:List Fr
 heap:List vp
 next:Nat
 left:Int
 short:Bool
 over:Bool
 out:List Int
 fin:Int
 val:Int
def aL(u:bR)(k:Int):Func:=u.fns[k.toNat]?.getD default
def aD(f:Func)(k:Int):Block:=f.blocks[k.toNat]?.getD default
def ji(n:Int):Int:=(n+1073741824) % 2147483648-1073741824
def dk(op a b:Int):SV×Int :=
 if op=1 then(.word (ji (a+b)),0)
 else if op=2 then(.word (ji (a-b)),0)
 else if op=3 then(.word (ji (a*b)),0)
 else if op=6 then(.word (if a<b then 1 else 0),0)
 else if op=7 then(.word (if a=b then 1 else 0),0)
 else if b=0 then(.zero,1)
 else if op=4 then(.word (ji (a.tdiv b)),0)
 else(.word (a.tmod b),0)
def jw(l:List SV)(k:Int):Bool:=l.all fun v=>decide (v.kind=k)
def ca(l:List SV)(k:Nat):SV:=l[k]?.getD .zero
def c8(i:bE)(args:List SV):SV×Int :=
 if i.op=11 then
  if((ca args 0).kind≠1∧(ca args 0).kind≠2)∨((ca args 0).list.length:Int)<=i.n then(.zero,5)else(ca (ca args 0).list i.n.toNat,0)
 else if(ca args 0).kind≠1 then(.zero,5)
 else if i.op=10 then(.word (ca args 0).n,0)
 else if i.op=12 then(.word (ca args 0).list.length,0)
 else if(ca args 1).kind≠0 then(.zero,5)
 else if(ca args 1).n<0∨((ca args 0).list.length:Int)<=(ca args 1).n then(.zero,2)
 else(ca (ca args 0).list (ca args 1).n.toNat,0)
def jq(op:Int):List SV->List SV->List SV
 | a::r,b::s=>(dk op a.n b.n).1::jq op r s
 | _,_=>[]
def dn(i:bE)(args:List SV):SV×Int :=
 if i.op=22 then
  if jw args 0 then(.mk 4 0 args none,0)else(.zero,5)
 else if i.op=24 then
  if(ca args 0).kind≠4∨((ca args 0).list.length:Int)<=i.n then(.zero,5)else(ca (ca args 0).list i.n.toNat,0)
 else if !jw args 4∨(ca args 0).list.length≠(ca args 1).list.length then(.zero,5)
 else(.mk 4 0 (jq i.n (ca args 0).list (ca args 1).list) none,0)
namespace Mach
def cR(m:Mach)(n:Int):Mach:=if m.left<n then { m with short:=true,over:=true }else { m with left:=m.left-n }
def stop(m:Mach)(e n:Int):Mach:={ m with over:=true,fin:=e,val:=n }
def gR:List vp->Option Nat->List SV
 | [],_=>[]
 | a::r,id=>if id=some a.kd then a.l else gR r id
def jf:List vp->Option Nat->List SV->List vp
 | [],_,_=>[]
 | a::r,id,l=>if id=some a.kd then⟨a.kd,a.bW,l⟩::r else a::jf r id l
def bt(m:Mach)(size fill:SV):Mach×SV×Int :=
 if size.kind≠0 then(m,.zero,5)
 else if size.n<0∨1024<size.n then(m,.zero,6)
 else if(m.cR size.n).short then(m.cR size.n,.zero,0)
 else({ m.cR size.n with heap:=m.heap++[⟨m.next+8,m.next+7,List.replicate size.n.toNat fill⟩],next:=m.next+9 },.mk 3 0 [] (some (m.next+8)),0)
def effect(m:Mach)(i:bE)(args:List SV):Mach×SV×Int :=
 if i.op=15 then
  if(ca args 0).kind≠0 then(m,.zero,5)
  else if m.out.length=1000 then(m,.zero,6)
  else({ m with out:=m.out++[(ca args 0).n] },.word 0,0)
 else if i.op=16 then m.bt (ca args 0) (ca args 1)
 else if i.op=18 then
  if !jw args 0 then(m,.zero,5)
  else if(ca args 0).n<0∨(ca args 1).n<=(ca args 0).n then(m,.zero,2)
  else(m,.word 0,0)
 else if(ca args 0).kind≠3∨(i.op≠17∧(ca args 1).kind≠0)then(m,.zero,5)
 else if i.op=17 then(m,.word (gR m.heap (ca args 0).arr).length,0)
 else if(ca args 1).n<0∨((gR m.heap (ca args 0).arr).length:Int)<=(ca args 1).n then(m,.zero,2)
 else if i.op=19 then(m,ca (gR m.heap (ca args 0).arr) (ca args 1).n.toNat,0)
 else({ m with heap:=jf m.heap (ca args 0).arr ((gR m.heap (ca args 0).arr).set (ca args 1).n.toNat (ca args 2)) },.word 0,0)
def exec(m:Mach)(i:bE)(args:List SV):Mach×SV×Int :=
 if i.op=0 then(m,.word i.n,0)
 else if 1<=i.op∧i.op<=7 then
  if !jw args 0 then(m,.zero,5)else(m,dk i.op (ca args 0).n (ca args 1).n)
 else if i.op=8 then(m,.mk 1 i.n args none,0)
 else if i.op=9 then(m,.mk 2 i.n args none,0)
 else if i.op=10∨i.op=11∨i.op=12∨i.op=21 then(m,c8 i args)
 else if i.op=22∨i.op=23∨i.op=24 then(m,dn i args)
 else if i.op=100 then(m,ca args 0,0)
 else m.effect i args
end Mach
def cH:List (Int×SV)->List Int->List SV->List (Int×SV)
 | es,p::ps,a::l=>cH (cK es p a) ps l
 | es,_,_=>es
def bN(es:List (Int×SV))(l:List Int):List SV:=l.map (cZ es)
def dP(t:Term)(n:Int):Nat :=
 if t.kind=2 then(if n≠0 then 0 else 1)else t.cases.findIdx (· == n)
namespace Mach
def enter(u:bR)(m:Mach)(fn:Int)(args:List SV)(to:Int):Mach :=
 { m with sid:=m.next+2,next:=m.next+3,frames:=⟨m.next+1,m.next,fn,0,0,to,cH [] (aD (aL u fn) 0).params args⟩::m.frames }
def bf(m:Mach)(f:Fr):Mach:={ m with frames:=f::m.frames.tail }
def follow(u:bR)(m:Mach)(f:Fr)(e:Edge):Mach :=
 m.bf { f with blk:=e.block,pos:=0,vals:=cH f.vals (aD (aL u f.fn) e.block).params (bN f.vals e.args) }
def leave(m:Mach)(f:Fr)(v:SV):Mach :=
 match m.frames.tail with
 | []=>{ m with frames:=[] }.stop 0 (if v.kind=0∨v.kind=1 then v.n else 0)
 | g::r=>{ m with frames:={ g with vals:=cK g.vals f.to v }::r }
def finish(u:bR)(m:Mach)(f:Fr)(t:Term):Mach :=
 if t.kind=4 then m.stop t.n 0
 else if t.kind=1 then m.follow u f (t.to[0]?.getD default)
 else if t.kind=0 then m.leave f (cZ f.vals t.arg)
 else if(cZ f.vals t.arg).kind≠0 then m.stop 5 0
 else m.follow u f (t.to[dP t (cZ f.vals t.arg).n]?.getD default)
def settle(f:Fr)(to:Int)(r:Mach×SV×Int):Mach :=
 (if r.2.2≠0 then r.1.stop r.2.2 0 else r.1).bf { f with vals:=cK f.vals to r.2.1 }
def act(u:bR)(m:Mach)(f:Fr)(i:bE)(args:List SV):Mach :=
 if i.op=13 then m.enter u i.n args i.to
 else if i.op=14 then
  if(ca args 0).kind=2∧(aD (aL u (ca args 0).n) 0).params.length=args.length then m.enter u (ca args 0).n args i.to else m.stop 5 0
 else settle f i.to (m.exec i args)
def step(u:bR)(m:Mach):Mach :=
 match m.frames with
 | []=>m
 | f::_ =>
  match (aD (aL u f.fn) f.blk).ins[f.pos]? with
  | none=>m.finish u f (aD (aL u f.fn) f.blk).term
  | some i=>(m.bf { f with pos:=f.pos+1 }).act u { f with pos:=f.pos+1 } i (bN f.vals i.args)
def start(fuel:Int):Mach:=⟨0,[],[],4,fuel,false,false,[],0,0⟩
def run(u:bR):Nat->Mach->Mach
 | 0,m=>m
 | k+1,m=>if m.over then m else if(m.cR 1).short then m.cR 1 else run u k (step u (m.cR 1))
end Mach
structure BB where
 out:List Int
 fin:Int
 val:Int
 n:Int
 e:Int
def bm(u:bR)(fuel:Int):BB :=
 let m:=Mach.run u (fuel.toNat+2) ((Mach.start fuel).enter u u.main [] 0)
 if m.short then⟨[],0,0,0,13⟩else⟨m.out,m.fin,m.val,fuel-m.left,0⟩
def fp(n:Int):Prop:=-1073741824<=n∧n<=1073741823
structure y2(u:bR)(i:bE):Prop where
 op:(0<=i.op∧i.op<=24)∨i.op=100
 len:i.args.length<=4096
 fits:gX i.to∧gX i.n
 c0:i.op=0->fp i.n
 c2:(1<=i.op∧i.op<=7)∨i.op=16∨i.op=18∨i.op=19∨i.op=21∨i.op=23->i.args.length=2
 c1:i.op=10∨i.op=11∨i.op=12∨i.op=15∨i.op=17∨i.op=24∨i.op=100->i.args.length=1
 c3:i.op=20->i.args.length=3
 F':i.op=8->fp i.n∧i.args.length<=16
 Hz:i.op=9->0<=i.n∧i.n<u.fns.length∧i.args.length<=16
 call:i.op=13->0<=i.n∧i.n<u.fns.length∧(aD (aL u i.n) 0).params.length=i.args.length
 app:i.op=14->1<=i.args.length
 G':i.op=11∨i.op=24->0<=i.n
 pack:i.op=22->i.args.length<=16
 vec:i.op=23->i.n=1∨i.n=2∨i.n=3
structure sg(f:Func)(e:Edge):Prop where
 lo:0<=e.block
 hi:e.block<f.blocks.length
 args:e.args.length=(aD f e.block).params.length
 len:e.args.length<=4096
structure sj(f:Func)(t:Term):Prop where
 kind:0<=t.kind∧t.kind<=4
 n:0<=t.n∧t.n<=6
 rE:t.kind=1->t.to.length=1
 cond:t.kind=2->t.to.length=2
 switch:t.kind=3->t.to.length=t.cases.length+1
 db:∀e∈t.to,sg f e
 cl:t.cases.length<=2 ^ 40
structure BE(u:bR)(f:Func)(b:Block):Prop where
 ins:∀i∈b.ins,y2 u i
 term:sj f b.term
 len:b.ins.length<=2 ^ 40
structure ep(u:bR):Prop where
 main:0<=u.main∧u.main<u.fns.length
 few:u.fns.length<=256
 none:(aD (aL u u.main) 0).params=[]
 ne:∀f∈u.fns,f.blocks≠[]∧f.blocks.length<=2 ^ 40
 blocks:∀f∈u.fns,∀b∈f.blocks,BE u f b
def fW(u:bR)(m:Mach)(v:SV):Prop:=SV.Wf u.fns.length (fun id=>∃a∈m.heap,a.kd=id) v
structure kf(u:bR)(m:Mach)(f:Fr):Prop where
 fn:0<=f.fn∧f.fn<u.fns.length
 blk:0<=f.blk∧f.blk<(aL u f.fn).blocks.length
 pos:f.pos<=(aD (aL u f.fn) f.blk).ins.length
 vals:∀e∈f.vals,fW u m e.2
structure bG(u:bR)(m:Mach):Prop where
 frames:∀f∈m.frames,kf u m f
 gk:∀a∈m.heap,a.l.length<=1024∧∀v∈a.l,fW u m v
 left:0<=m.left
 depth:m.frames.length+m.left<=2 ^ 40
 out:m.out.length<=1000
 words:∀n∈m.out,fp n
 fin:0<=m.fin∧m.fin<=6
 val:fp m.val
 done:m.fin≠0->m.val=0
 over:m.over=false->m.frames≠[]∧m.short=false
def eB(b:Bool):ae:=.v (.bool b)
def aC(u:bR)(m:Mach):List ae:=[a9 u.fns,aI u.main,.os m.sid m.frames.length 1,aI m.left,.v (.bool m.short),.v (.bool m.over),.aE 1 (m.out.map aI) (.tok 3),aI m.fin,aI m.val]
def aV(f:Fr):List ae:=[aI f.fn,aI f.blk,aI f.pos,aI f.to,.mm f.di]
def eO(l:List Fr):List ae:=l.reverse.map fun f=>.mp f.bP 0
theorem Ap(v:Int):KT.ok (.int .i64) (.int .i64 v)=True:=by simp[KT.ok]
theorem bF{O:List ak}{n k:Nat}{x:ak}(h:∀o∈O,o.upto n)(hx:x.upto n):∀o∈O.set k x,o.upto n:=fun o ho=>by
 rcases List.mem_or_eq_of_mem_set ho with q|q
 ·exact h o q
 subst q;exact hx
theorem FH{O:List ak}{n:Nat}{x:ak}(h:∀o∈O,o.upto n)(hx:x.upto n):∀o∈O++[x],o.upto n:=fun o ho=>by
 rcases List.mem_append.1 ho with q|q
 ·exact h o q
 simp only[List.mem_singleton]at q;subst q;exact hx
theorem cG{O:List ak}{k:Nat}{x:ak}:(O.set k x).take O.length=O.set k x:=List.take_of_length_le (by simp)
theorem bJ{O X:List ak}{k:Nat}{x:ak}(h:O[k]?=some x):(O++X)[k]?=some x:=by
 rw[List.getElem?_append_left (I h),h]
theorem bx{O:List ak}{k j:Nat}{x y:ak}(h:O[k]?=some x)(hj:j≠k):(O.set j y)[k]?=some x:=by
 rw[List.getElem?_set_ne hj,h]
theorem vz{O:List ak}{k:Nat}{x y:ak}(h:O[k]?=some x):(O.set k y)[k]?=some y:=List.getElem?_set_self (I h)
theorem j3{O X:List ak}{k:Nat}:(O++X)[O.length+k]?=X[k]?:=by
 rw[List.getElem?_append_right (by omega)];simp
theorem xn{O X:List ak}:(O++X)[O.length]?=X[0]?:=j3 (k:=0)
theorem u9{O X:List ak}{k:Nat}{y:ak}:(O++X).set (O.length+k) y=O++X.set k y:=by
 rw[List.set_append_right _ _ (by omega)];simp
theorem AJ{O X:List ak}{y:ak}:(O++X).set O.length y=O++X.set 0 y:=u9 (k:=0)
theorem AL{a y:ak}{X:List ak}:(a::X).set 0 y=y::X:=rfl
theorem AK{a y:ak}{k:Nat}{X:List ak}:(a::X).set (k+1) y=a::X.set k y:=rfl
theorem AU{O X:List ak}:(O++X).take O.length=O:=by simp
end Go.Proofs.Ytkhnjeblbiocaaa
namespace Go.Av
theorem BI{P:Program}{kb:Nat}{c:Code}{Q:dR->St->Prop}{σ:St}{F:Prop}(hf:∀base a g,Rel base σ a g->F)(h:F->cc P kb c Q σ):cc P kb c Q σ:=fun base a g hb hr=>h (hf base a g hr) base a g hb hr
theorem ff{P:Program}{kb:Nat}{c:Code}{Q:dR->St->Prop}{n:Nat}{ba:List (Nat×ae)}{O:List ak}(s:Nat){sz:Nat}{xs:List ae}{o:kP}(hs:look ba s=some (.aE sz xs o))
  (h:xs.length<=2 ^ 62->cc P kb c Q ⟨n,ba,O⟩):cc P kb c Q ⟨n,ba,O⟩ :=
 BI (fun _ _ _ hr=>by
  obtain⟨u,_,h2⟩:=hr.slot s _ hs;exact h2.xG) h
theorem nV:∀{l:List (Nat×ae)} {s:Nat} {x:ae},look l s=some x->(s,x)∈l
 | (k,y)::r,s,x,h=>by
  simp only[look]at h;split at h
  ·rename_i e;subst e;simp only[Option.some.injEq]at h;subst h;exact List.mem_cons_self
  exact List.mem_cons_of_mem _ (nV h)
theorem bT{P:Program}{kb:Nat}{c:Code}{Q:dR->St->Prop}{n:Nat}{ba:List (Nat×ae)}{O:List ak}(k:Nat)(cN:List (Nat×ae))(hk:k<=O.length)(uD:kb<=k)(O':List ak)(Ep:O.take k=O')(hb:∀o∈O',o.upto k)
  (hs:gj ⟨n,ba,O⟩ cN) (o5:∀p∈cN,p.2.upto k) (h:cc P kb c Q ⟨n,cN,O'⟩):cc P kb c Q ⟨n,ba,O⟩ :=
 ov k hk uD cN (by rw[Ep];exact hb) hs (fun s x hx=>o5 _ (nV hx)) (by rw[Ep];exact h)
theorem gF{α:Type}(l:List α)(x:α):(l++[x])[l.length]?=some x:=by simp
theorem qM{α:Type}(l:List α)(x y:α):(l++[x]).set l.length y=l++[y]:=by simp
theorem sd{α:Type}(l m:List α):(l++m).take l.length=l:=by simp
theorem w9(cs:List ae):aS cs 0 []=cs:=by simp[aS]
theorem vb(c x:ae)(cs xs:List ae):aS (c::cs) 0 (x::xs)=x::aS cs 0 xs:=by simp[aS]
theorem vc(c:ae)(cs xs:List ae)(k:Nat):aS (c::cs) (k+1) xs=c::aS cs k xs:=by
 simp only[aS,List.take_succ_cons,List.cons_append,List.cons.injEq,true_and];rw[show k+1+xs.length=(k+xs.length)+1 by omega,List.drop_succ_cons]
theorem tw{α β:Type}(f:α->β)(l:List α):(l.map f).take l.length=l.map f:=List.take_of_length_le (by simp)
mutual
theorem ae.cu{n m:Nat}(h:n<=m):∀x:ae,x.upto n->x.upto m
 | .v _,_=>trivial
 | .agg cs,hx=>gh h cs hx
 | .aE _ xs o,hx=>by
  refine⟨gh h xs hx.1,?_⟩;have:=hx.2;cases o<;>first|trivial|exact Nat.lt_of_lt_of_le this h
 | .ip _ cs,hx=>gh h cs hx
 | .mp _ _,hx=>Nat.lt_of_lt_of_le hx h
 | .ms _ _ _ _,hx=>Nat.lt_of_lt_of_le hx h
 | .os _ _ _,hx=>Nat.lt_of_lt_of_le hx h
 | .raw _ _ _,hx=>Nat.lt_of_lt_of_le hx h
 | .mm _,hx=>Nat.lt_of_lt_of_le hx h
 | .im _ es,hx=>ng h es hx
 | .fn _ fs cs,hx=>⟨gh h fs hx.1,gh h cs hx.2⟩
 | .df cs,hx=>gh h cs hx
theorem gh{n m:Nat}(h:n<=m):∀l:List ae,aw n l->aw m l
 | [],_=>trivial
 | x::r,hx=>⟨ae.cu h x hx.1,gh h r hx.2⟩
theorem ng{n m:Nat}(h:n<=m):∀l:List (Value×ae),kc n l->kc m l
 | [],_=>trivial
 | (k,x)::r,hx=>⟨ae.cu h x hx.1,ng h r hx.2⟩
end
theorem ak.cu{n m:Nat}(h:n<=m){o:ak}(ho:o.upto n):o.upto m:=by
 cases o with
 | cells cs=>exact gh h cs ho
 | map kt es=>exact ng h es ho
 | _=>trivial
theorem sub_self(O:List ak)(x:ae):Sub O x x=True:=by simp[Sub.refl]
theorem Sub.int{O:List ak}{k:IntKind}{a b:Int}(h:a=b):Sub O (.v (.int k a)) (.v (.int k b)):=.of_eq (by rw[h])
theorem Sub.aE{O:List ak}{sz:Nat}{xs ys:List ae}{o:kP}(h:xs=ys):Sub O (.aE sz xs o) (.aE sz ys o):=.of_eq (by rw[h])
theorem au{p:Unit->Prop}{t:Tag p}(h:p ()):rN p t:=h
theorem BS(x:Value):ae.cells (.v x)=[.v x]:=rfl
theorem Em(x:Value):ae.flat (.v x)=True:=rfl
theorem pI(x:Value):ae.share (.v x)=.v x:=rfl
theorem cT(x:Value):ae.bk (.v x)=.v x:=rfl
theorem xT(sz:Nat)(xs:List ae)(o:kP):ae.cells (.aE sz xs o)=[.aE sz xs o]:=rfl
theorem zQ(sz:Nat)(xs:List ae)(o:kP):ae.flat (.aE sz xs o)=True:=rfl
theorem yE(sz:Nat)(xs:List ae)(o:kP):ae.share (.aE sz xs o)=.aE sz xs .sh:=rfl
theorem cg(sz:Nat)(xs:List ae)(o:kP):ae.bk (.aE sz xs o)=.aE sz xs .sh:=rfl
theorem zh(oa:Option Addr)(cs:List ae):ae.cells (.ip oa cs)=[.ip oa cs]:=rfl
theorem B0(oa:Option Addr)(cs:List ae):ae.flat (.ip oa cs)=True:=rfl
theorem AO(oa:Option Addr)(cs:List ae):ae.share (.ip oa cs)=.ip oa cs:=rfl
theorem dI(oa:Option Addr)(cs:List ae):ae.bk (.ip oa cs)=.ip oa cs:=rfl
theorem zl(id off:Nat):ae.cells (.mp id off)=[.mp id off]:=rfl
theorem B2(id off:Nat):ae.flat (.mp id off)=True:=rfl
theorem AQ(id off:Nat):ae.share (.mp id off)=.mp id off:=rfl
theorem dK(id off:Nat):ae.bk (.mp id off)=.mp id off:=rfl
theorem xU(sz n id:Nat):ae.cells (.raw sz n id)=[.raw sz n id]:=rfl
theorem zR(sz n id:Nat):ae.flat (.raw sz n id)=True:=rfl
theorem yF(sz n id:Nat):ae.share (.raw sz n id)=.raw sz n id:=rfl
theorem rL(sz n id:Nat):ae.bk (.raw sz n id)=.raw sz n id:=rfl
theorem zm(id off len cap:Nat):ae.cells (.ms id off len cap)=[.ms id off len cap]:=rfl
theorem B3(id off len cap:Nat):ae.flat (.ms id off len cap)=True:=rfl
theorem AR(id off len cap:Nat):ae.share (.ms id off len cap)=.ms id off len cap:=rfl
theorem tq(id off len cap:Nat):ae.bk (.ms id off len cap)=.ms id off len cap:=rfl
theorem zk(id:Nat):ae.cells (.mm id)=[.mm id]:=rfl
theorem B1(id:Nat):ae.flat (.mm id)=True:=rfl
theorem AP(id:Nat):ae.share (.mm id)=.mm id:=rfl
theorem dJ(id:Nat):ae.bk (.mm id)=.mm id:=rfl
theorem zg(kt:KT)(es:List (Value×ae)):ae.cells (.im kt es)=[.im kt es]:=rfl
theorem BZ(kt:KT)(es:List (Value×ae)):ae.flat (.im kt es)=True:=rfl
theorem AN(kt:KT)(es:List (Value×ae)):ae.share (.im kt es)=.im kt es:=rfl
theorem dH(kt:KT)(es:List (Value×ae)):ae.bk (.im kt es)=.im kt es:=rfl
theorem zd(f:Fn)(fs cs:List ae):ae.cells (.fn f fs cs)=[.fn f fs cs]:=rfl
theorem BY(f:Fn)(fs cs:List ae):ae.flat (.fn f fs cs)=True:=rfl
theorem AM(f:Fn)(fs cs:List ae):ae.share (.fn f fs cs)=.fn f fs cs:=rfl
theorem dG(f:Fn)(fs cs:List ae):ae.bk (.fn f fs cs)=.fn f fs cs:=rfl
theorem xS(cs:List ae):ae.cells (.agg cs)=cs:=rfl
theorem flat_agg(cs:List ae):ae.flat (.agg cs)=True:=rfl
theorem yD(cs:List ae):ae.share (.agg cs)=.agg (cs.map ae.bk):=rfl
theorem yG(cs:List ae):ae.share (.df cs)=.df cs:=rfl
def aa:=And.intro @eV.eq_1 <|
 And.intro @eV.eq_2 <|
 And.intro @Bk.eq_1 <|
 And.intro @qU.eq_1 <|
 And.intro @s8 <|
 And.intro @uc <|
 And.intro @vS <|
 And.intro @dQ <|
 And.intro @dv <|
 And.intro @xi.eq_1 <|
 And.intro @mb.eq_1 <|
 And.intro @tB.eq_1 <|
 And.intro @xh.eq_1 <|
 And.intro @tD.eq_1 <|
 And.intro @mc.eq_1 <|
 And.intro @mS.eq_1 <|
 And.intro @mS.eq_2 <|
 And.intro @mS.eq_3 <|
 And.intro @mS.eq_4 <|
 And.intro @mS.eq_5 <|
 And.intro @mS.eq_6 <|
 And.intro @mS.eq_7 <|
 And.intro @Ea.eq_1 <|
 And.intro @yw.eq_1 <|
 And.intro @yw.eq_2 <|
 And.intro @yw.eq_3 <|
 And.intro @xL.eq_1 <|
 And.intro @Bm.eq_1 <|
 And.intro @Bm.eq_2 <|
 And.intro @Bm.eq_3 <|
 And.intro @yR.eq_1 <|
 And.intro @yR.eq_2 <|
 And.intro @tC.eq_1 <|
 And.intro @vf.eq_1 <|
 And.intro @vf.eq_2 <|
 And.intro @tx.eq_1 <|
 And.intro @lv.eq_1 <|
 And.intro @me.eq_1 <|
 And.intro @qT.eq_1 <|
 And.intro @iZ.eq_1 <|
 And.intro @oQ.eq_1 <|
 And.intro @Bh.eq_1 <|
 And.intro @qR.eq_1 <|
 And.intro @Bj.eq_1 <|
 And.intro @Bg.eq_1 <|
 And.intro @tA.eq_1 <|
 And.intro @tz.eq_1 <|
 And.intro @tz.eq_2 <|
 And.intro @dT.eq_1 <|
 And.intro @dT.eq_2 <|
 And.intro @dT.eq_3 <|
 And.intro @dT.eq_4 <|
 And.intro @dT.eq_5 <|
 And.intro @dT.eq_6 <|
 And.intro @dT.eq_7 <|
 And.intro @dT.eq_8 <|
 And.intro @dT.eq_9 <|
 And.intro @dT.eq_10 <|
 And.intro @dT.eq_11 <|
 And.intro @dT.eq_12 <|
 And.intro @dT.eq_13 <|
 And.intro @dT.eq_14 <|
 And.intro @Bl.eq_1 <|
 And.intro @Bi.eq_1 <|
 And.intro @jO.eq_1 <|
 And.intro @jO.eq_2 <|
 @jO.eq_3
def Is:=And.intro @E8 <|
 And.intro @nW.eq_1 <|
 And.intro @nW.eq_2 <|
 And.intro @nW.eq_3 <|
 And.intro @nW.eq_4 <|
 And.intro @nW.eq_5 <|
 And.intro @nA.eq_1 <|
 And.intro @nA.eq_2 <|
 And.intro @isNil.eq_1 <|
 And.intro @isNil.eq_2 <|
 And.intro @St.ev.eq_1 <|
 And.intro @St.ev.eq_2 <|
 And.intro @St.ev.eq_3 <|
 And.intro @St.ev.eq_4 <|
 And.intro @St.get.eq_1 <|
 And.intro @ib.eq_1 <|
 And.intro @ib.eq_2 <|
 And.intro @j2.eq_1 <|
 And.intro @j2.eq_2 <|
 And.intro @look.eq_1 <|
 And.intro @look.eq_2 <|
 And.intro @ax.eq_1 <|
 And.intro @ax.eq_2 <|
 And.intro @zF.eq_1 <|
 And.intro @zF.eq_2 <|
 And.intro @nc.eq_1 <|
 And.intro @nc.eq_2 <|
 And.intro @bu.eq_1 <|
 And.intro @a7.eq_1 <|
 And.intro @a7.eq_2 <|
 And.intro @nE.eq_1 <|
 And.intro @nE.eq_2 <|
 And.intro @Mode.post.eq_1 <|
 And.intro @Mode.post.eq_2 <|
 And.intro @Mode.post.eq_3 <|
 And.intro @Mode.post.eq_4 <|
 And.intro @Mode.kind.eq_1 <|
 And.intro @Mode.kind.eq_2 <|
 And.intro @Mode.kind.eq_3 <|
 And.intro @Mode.kind.eq_4 <|
 And.intro @Mode.kind.eq_5 <|
 And.intro @Mode.kind.eq_6 <|
 And.intro @BS <|
 And.intro @Em <|
 And.intro @pI <|
 And.intro @cT <|
 And.intro @xT <|
 And.intro @zQ <|
 And.intro @yE <|
 And.intro @cg <|
 And.intro @zh <|
 And.intro @B0 <|
 And.intro @AO <|
 And.intro @dI <|
 And.intro @zl <|
 And.intro @B2 <|
 And.intro @AQ <|
 And.intro @dK <|
 And.intro @xU <|
 And.intro @zR <|
 And.intro @yF <|
 And.intro @rL <|
 And.intro @zm <|
 And.intro @B3 <|
 And.intro @AR <|
 And.intro @tq <|
 And.intro @zk <|
 And.intro @B1 <|
 And.intro @AP <|
 And.intro @dJ <|
 And.intro @zg <|
 And.intro @BZ <|
 And.intro @AN <|
 And.intro @dH <|
 And.intro @zd <|
 And.intro @BY <|
 And.intro @AM <|
 And.intro @dG <|
 And.intro @xS <|
 And.intro @flat_agg <|
 And.intro @yD <|
 And.intro @yG <|
 And.intro @ot.eq_1 <|
 And.intro @ot.eq_2 <|
 And.intro @ot.eq_3 <|
 And.intro @ot.eq_4 <|
 And.intro @jD.eq_1 <|
 And.intro @jD.eq_2 <|
 And.intro @jD.eq_3 <|
 And.intro @jD.eq_4 <|
 And.intro @jD.eq_5 <|
 And.intro @jD.eq_6 <|
 And.intro @jD.eq_7 <|
 And.intro @ew.eq_1 <|
 And.intro @ew.eq_2 <|
 And.intro @ew.eq_3 <|
 And.intro @ew.eq_4 <|
 And.intro @ew.eq_5 <|
 And.intro @ew.eq_6 <|
 And.intro @ew.eq_7 <|
 And.intro @ew.eq_8 <|
 And.intro @ew.eq_9 <|
 And.intro @eU.eq_1 <|
 And.intro @dE.eq_1 <|
 And.intro @dE.eq_2 <|
 And.intro @dE.eq_3 <|
 And.intro @dE.eq_4 <|
 And.intro @dE.eq_5 <|
 And.intro @dE.eq_6 <|
 And.intro @dE.eq_7 <|
 And.intro @dE.eq_8 <|
 And.intro @dE.eq_9 <|
 And.intro @dE.eq_10 <|
 And.intro @dE.eq_11 <|
 And.intro @dE.eq_12 <|
 And.intro @dE.eq_13 <|
 And.intro @dE.eq_14 <|
 And.intro @dE.eq_15 <|
 And.intro @dE.eq_16 <|
 And.intro @dE.eq_17 <|
 And.intro @qd.eq_1 <|
 And.intro @qd.eq_2 <|
 And.intro @qd.eq_3 <|
 And.intro @nB.eq_1 <|
 And.intro @nB.eq_2 <|
 And.intro @nB.eq_3 <|
 And.intro @Bool.and_true <|
 And.intro @Bool.true_and <|
 And.intro @Bool.and_false <|
 And.intro @Bool.false_and <|
 And.intro @Bool.and_self <|
 And.intro @wO.eq_1 <|
 And.intro @wO.eq_2 <|
 And.intro @wO.eq_3 <|
 And.intro @wO.eq_4 <|
 And.intro @iL.eq_1 <|
 And.intro @iL.eq_2 <|
 And.intro @iL.eq_3 <|
 And.intro @za.eq_1 <|
 And.intro @za.eq_2 <|
 And.intro @St.uj.eq_1 <|
 And.intro @St.uj.eq_2 <|
 And.intro @St.eI.eq_1 <|
 And.intro @St.eI.eq_2 <|
 And.intro @kR.eq_1 <|
 And.intro @kR.eq_2 <|
 And.intro @nq.eq_1 <|
 And.intro @nq.eq_2 <|
 And.intro @hU.eq_1 <|
 And.intro @hU.eq_2 <|
 And.intro @w9 <|
 And.intro @vb <|
 And.intro @vc <|
 And.intro @gE.eq_1 <|
 And.intro @gE.eq_2 <|
 And.intro @ia.eq_1 <|
 And.intro @ia.eq_2 <|
 And.intro @TD.agg.eq_1 <|
 And.intro @TD.agg.eq_2 <|
 And.intro @TD.agg.eq_3 <|
 And.intro @TD.elem.eq_1 <|
 And.intro @TD.elem.eq_2 <|
 And.intro @yp.eq_1 <|
 And.intro @yp.eq_2 <|
 And.intro @yp.eq_3 <|
 And.intro @ka.eq_1 <|
 And.intro @zeroOf.eq_1 <|
 And.intro @BA.eq_1 <|
 And.intro @BA.eq_2 <|
 And.intro @BA.eq_3 <|
 And.intro @BA.eq_4 <|
 And.intro @BA.eq_5 <|
 And.intro @yd.eq_1 <|
 And.intro @yd.eq_2 <|
 And.intro @yd.eq_3 <|
 And.intro @yd.eq_4 <|
 And.intro @yd.eq_5 <|
 And.intro @yd.eq_6 <|
 And.intro @yd.eq_7 <|
 And.intro @yd.eq_8 <|
 And.intro @and_self <|
 And.intro @true_and <|
 And.intro @and_true <|
 And.intro @not_false_eq_true <|
 And.intro @List.nil_append.{0} <|
 And.intro @List.cons_append.{0} <|
 And.intro @List.append_nil.{0} <|
 And.intro @List.length_nil.{0} <|
 And.intro @List.length_cons.{0} <|
 And.intro @List.getElem?_cons_zero.{0} <|
 And.intro @List.getElem?_cons_succ.{0} <|
 And.intro @List.getElem?_nil.{0} <|
 And.intro @List.take_succ_cons.{0} <|
 And.intro @List.take_zero.{0} <|
 And.intro @List.take_nil.{0} <|
 And.intro @List.drop_succ_cons.{0} <|
 And.intro @List.drop_zero.{0} <|
 And.intro @List.drop_nil.{0} <|
 And.intro @List.set_cons_zero.{0} <|
 And.intro @List.set_cons_succ.{0} <|
 And.intro @List.map_cons.{0,0} <|
 And.intro @List.map_nil.{0,0} <|
 And.intro @Option.map_none.{0,0} <|
 And.intro @Option.map_some.{0,0} <|
 And.intro @Option.isSome_some.{0} <|
 And.intro @Option.isSome_none.{0} <|
 And.intro @Option.bind_some.{0,0} <|
 And.intro @Bool.false_eq_true <|
 And.intro @Bool.not_true <|
 And.intro @Bool.not_false <|
 And.intro @beq_self_eq_true.{0} <|
 And.intro @List.getElem?_toArray.{0} <|
 And.intro @Nat.zero_add <|
 And.intro @Nat.add_zero <|
 And.intro @decide_true <|
 And.intro @decide_false <|
 And.intro @beq_true <|
 And.intro @beq_false <|
 And.intro @Bool.true_beq <|
 And.intro @Bool.false_beq <|
 And.intro @Bool.not_not <|
 And.intro @decide_eq_true_eq <|
 And.intro @decide_eq_false_iff_not <|
 And.intro @Bool.not_eq_true' <|
 And.intro @Bool.not_eq_false' <|
 And.intro @Bool.not_eq_true <|
 And.intro @Bool.not_eq_false <|
 And.intro @Int.toNat_natCast <|
 And.intro @Int.natCast_zero <|
 And.intro @Int.sub_zero <|
 And.intro @Int.add_zero <|
 And.intro @Int.zero_add <|
 And.intro @Int.toNat_zero <|
 And.intro @List.getElem?_map.{0,0} <|
 And.intro @Int.natCast_nonneg <|
 And.intro @List.length_map.{0,0} <|
 And.intro @List.not_mem_nil.{0} <|
 And.intro @false_implies <|
 And.intro @List.length_append.{0} <|
 And.intro @or_false <|
 And.intro @or_true <|
 And.intro @true_or <|
 And.intro @false_or <|
 And.intro @or_self <|
 And.intro @gF <|
 And.intro @qM <|
 And.intro @tw <|
 @Nat.le_refl
def bX:=And.intro @tn <|
 And.intro @tl <|
 And.intro @cL <|
 And.intro @pQ <|
 And.intro @cf <|
 And.intro @pR <|
 And.intro @pf <|
 And.intro @rH <|
 And.intro @cy <|
 And.intro @rG <|
 @not_false_eq_true
def G.cut(g:G)(n:Nat):G:=⟨g.w,fun b off=>g.fr b off∨∃(id:Nat) (l:Loc) (o:ak),n<=id∧g.env[id]?=some (some l)∧g.objs[id]?=some o∧o.live∧l.block=b∧l.lo<=off,g.env.take n,g.objs.take n⟩
theorem bA{α:Type}{l:List α}{n i:Nat}{x:α}:(l.take n)[i]?=some x↔i<n∧l[i]?=some x:=by
 rw[List.getElem?_take];split
 ·rename_i h;simp[h]
 rename_i h;simp[h]
theorem sD{g:G}{n b off:Nat}:jT (g.cut n) b off↔jT g b off:=by
 constructor
 ·rintro((h|⟨id,l,o,_,h1,h2,h3,h4,h5⟩)|⟨id,l,o,h1,h2,h3,h4,h5⟩)
  ·exact .inl h
  ·exact .inr ⟨id,l,o,h1,h2,h3,h4,h5⟩
  exact .inr ⟨id,l,o,(bA.1 h1).2,(bA.1 h2).2,h3,h4,h5⟩
 rintro(h|⟨id,l,o,h1,h2,h3,h4,h5⟩)
 ·exact .inl (.inl h)
 rcases Nat.lt_or_ge id n with aZ|lK
 ·exact .inr ⟨id,l,o,bA.2 ⟨aZ,h1⟩,bA.2 ⟨aZ,h2⟩,h3,h4,h5⟩
 exact .inl (.inr ⟨id,l,o,lK,h1,h2,h3,h4,h5⟩)
theorem RV.cut{g:G}{n:Nat}(tJ:n<=g.objs.length){x:ae}{u:Value}(h:RV g x u)(hb:x.upto n):RV (g.cut n) x u:=by
 induction h with
 | v hx=>exact .v hx
 | agg hl dz _ ih =>
  simp only[ae.upto,aY]at hb;exact .agg hl dz fun i c u a b=>ih i c u a b (hb c (List.mem_of_getElem? a))
 | nil ho tK =>
  simp only[ae.upto]at hb;refine .nil (fun id e=>?_) tK;subst e;have:=hb.2;simp only at this;simp only[G.cut,List.length_take];omega
 | aE cU dz cQ cF hs f hm hr ho ih =>
  rename_i sz xs o a cap;simp only[ae.upto,aY]at hb;refine .aE cU dz cQ cF hs f (fun j c hj=>⟨(hm j c hj).1,fun q=>(hm j c hj).2 (sD.1 q)⟩) (fun j c hj=>ih j c hj ?_) ?_
  ·have hc:=List.mem_of_getElem? hj;simp only[ao,List.mem_flatMap]at hc;obtain⟨x,hx,hc⟩:=hc;have:=hb.1 x hx;cases x with
   | agg cs =>
    simp only[ae.upto,aY]at this;exact this c hc
   | _=>simp only[ae.cells,List.mem_singleton]at hc;subst hc;exact this
  cases o with
  | sh=>trivial
  | nn=>trivial
  | ex=>exact ho
  | loc a=>exact ho
  | tok id =>
   have fA:=hb.2;simp only at fA;refine⟨by simp only[G.cut,List.length_take];omega,fun m fm=>?_⟩;obtain⟨h1,h2⟩:=ho.2 m (bA.1 fm).2;refine⟨h1,fun e=>?_⟩;rcases h2 e with q|⟨l,arr,t,q1,q2⟩
   ·exact .inl q
   exact .inr ⟨l,arr,t,bA.2 ⟨fA,q1⟩,q2⟩
 | ip ha dz f hm hr ih =>
  simp only[ae.upto,aY]at hb;exact .ip ha dz f (fun j c hj=>⟨(hm j c hj).1,fun q=>(hm j c hj).2 (sD.1 q)⟩) fun j c hj=>ih j c hj (hb c (List.mem_of_getElem? hj))
 | mp he ho jI =>
  simp only[ae.upto]at hb;exact .mp (bA.2 ⟨hb,he⟩) (bA.2 ⟨hb,ho⟩) jI
 | ms he ho jI hc lJ cF =>
  simp only[ae.upto]at hb;exact .ms (bA.2 ⟨hb,he⟩) (bA.2 ⟨hb,ho⟩) jI hc lJ cF
 | os he ho jI hc lJ cF =>
  simp only[ae.upto]at hb;exact .os (bA.2 ⟨hb,he⟩) (bA.2 ⟨hb,ho⟩) jI hc lJ cF
 | raw tK ho =>
  rename_i sz n0 id a cap;have fA:id<n:=hb;refine .raw tK ⟨by simp only[G.cut,List.length_take];omega,fun m fm=>?_⟩;obtain⟨h1,h2⟩:=ho.2 m (bA.1 fm).2;refine⟨h1,fun e=>?_⟩;rcases h2 e with q|⟨l,arr,t,q1,q2⟩
  ·exact .inl q
  exact .inr ⟨l,arr,t,bA.2 ⟨fA,q1⟩,q2⟩
 | mm he ho jI =>
  simp only[ae.upto]at hb;exact .mm (bA.2 ⟨hb,he⟩) (bA.2 ⟨hb,ho⟩) jI
 | im hh jI hl hk rA _ ih =>
  simp only[ae.upto,kK]at hb;exact .im hh (fun off q=>jI off (sD.1 q)) hl hk rA fun i e kx a b=>ih i e kx a b (hb kx (List.mem_of_getElem? b))
 | fn hl q8 _ _ ih xE =>
  simp only[ae.upto,aY]at hb;exact .fn hl q8 (fun i c u a b=>ih i c u a b (hb.1 c (List.mem_of_getElem? a))) fun i c u a b=>xE i c u a b (hb.2 c (List.mem_of_getElem? a))
 | df hl _ ih =>
  simp only[ae.upto,aY]at hb;exact .df hl fun i c u a b=>ih i c u a b (hb c (List.mem_of_getElem? a))
theorem Good.cut{g:G}(hg:Good g){n:Nat}(hn:n<=g.objs.length)(hb:∀o∈g.objs.take n,o.upto n):Good (g.cut n) where
 frlt:=fun b off h=>by
  rcases h with h|⟨id,l,o,_,h1,h2,h3,h4,_⟩
  ·exact hg.frlt b off h
  exact h4 ▸ hg.loc id l o h1 h2 h3
 fk:=fun id l o h1 h2 h3 off h=>by
  obtain⟨q1,h1⟩:=bA.1 h1;obtain⟨_,h2⟩:=bA.1 h2;rcases h with h|⟨kD,l',o',k0,k1,k2,k3,k4,_⟩
  ·exact hg.fk id l o h1 h2 h3 off h
  have:=hg.apart id kD l l' o o' h1 h2 h3 k1 k2 k3 k4.symm;omega
 len:=by simp[G.cut,hg.len]
 loc:=fun id l o h1 h2 h3=>hg.loc id l o (bA.1 h1).2 (bA.1 h2).2 h3
 apart:=fun id kD l l' o o' h1 h2 h3 k1 k2 k3=>hg.apart id kD l l' o o' (bA.1 h1).2 (bA.1 h2).2 h3 (bA.1 k1).2 (bA.1 k2).2 k3
 cells:=fun id cs h1=>by
  have yc:=hb _ (List.mem_of_getElem? h1);obtain⟨q,h1⟩:=bA.1 h1;obtain⟨l,arr,t,e1,e0,e2,e3,e4,e5⟩:=hg.cells id cs h1;simp only[ak.upto,aY]at yc;exact⟨l,arr,t,bA.2 ⟨q,e1⟩,e0,e2,e3,fun j c u a b=>(e4 j c u a b).cut hn (yc c (List.mem_of_getElem? a)),e5⟩
 spare:=fun id m l h1 h2=>hg.spare id m l (bA.1 h1).2 (bA.1 h2).2
 map:=fun id kt es h1=>by
  have yc:=hb _ (List.mem_of_getElem? h1);obtain⟨q,h1⟩:=bA.1 h1;obtain⟨l,arr,clk,e1,e0,e2,e3,e6,e4⟩:=hg.map id kt es h1;simp only[ak.upto,kK]at yc;exact⟨l,arr,clk,bA.2 ⟨q,e1⟩,e0,e2,e3,e6,fun i e kx a b=>⟨(e4 i e kx a b).1,(e4 i e kx a b).2.1,(e4 i e kx a b).2.2.cut hn (yc kx (List.mem_of_getElem? b))⟩⟩
def G.fU(g:G)(n:Nat)(g':G):G:=⟨g'.w,g.fr,g'.env++g.env.drop n,g'.objs++g.objs.drop n⟩
theorem aM{α:Type}{a l:List α}{n i:Nat}{x:α}(ha:a.length=n):(a++l.drop n)[i]?=some x↔(i<n∧a[i]?=some x)∨(n<=i∧l[i]?=some x):=by
 rw[List.getElem?_append];split
 ·rename_i h;constructor
  ·intro e;exact .inl ⟨by omega,e⟩
  rintro(⟨_,e⟩|⟨q,_⟩)
  ·exact e
  omega
 rename_i h;rw[List.getElem?_drop,show n+(i-a.length)=i by omega];constructor
 ·intro e;exact .inr ⟨by omega,e⟩
 rintro(⟨q,_⟩|⟨_,e⟩)
 ·omega
 exact e
structure nm(g:G)(n:Nat)(g':G):Prop where
 good:Good g
 le:Le (g.cut n) g'
 nL:Good g'
 lt:n<=g.objs.length
 same:g'.objs.length=n
theorem nm.env{g g':G}{n:Nat}(h:nm g n g'):g'.env.length=n:=h.nL.len.trans h.same
theorem nm.Io{g g':G}{n b:Nat}(h:nm g n g')(hn:fM (g.fU n g') b):fM g' b∨∃(id:Nat) (l:Loc) (o:ak),n<=id∧g.env[id]?=some (some l)∧g.objs[id]?=some o∧o.live∧l.block=b:=by
 obtain⟨id,l,o,h1,h2,h3,h4⟩:=hn;rcases(aM h.env).1 h1 with⟨q1,h1⟩|⟨q1,h1⟩
 ·rcases(aM h.same).1 h2 with⟨q2,h2⟩|⟨q2,h2⟩
  ·exact .inl ⟨id,l,o,h1,h2,h3,h4⟩
  omega
 rcases(aM h.same).1 h2 with⟨q2,h2⟩|⟨q2,h2⟩
 ·omega
 exact .inr ⟨id,l,o,q1,h1,h2,h3,h4⟩
theorem nm.own{g g':G}{n b off:Nat}(h:nm g n g'):jT (g.fU n g') b off->jT g' b off:=by
 rintro(hf|⟨id,l,o,h1,h2,h3,h4,h5⟩)
 ·refine .inl ?_;rw[h.le.fr];exact .inl hf
 rcases(aM h.env).1 h1 with⟨q1,h1⟩|⟨q1,h1⟩
 ·rcases(aM h.same).1 h2 with⟨q2,h2⟩|⟨q2,h2⟩
  ·exact .inr ⟨id,l,o,h1,h2,h3,h4,h5⟩
  omega
 rcases(aM h.same).1 h2 with⟨q2,h2⟩|⟨q2,h2⟩
 ·omega
 refine .inl ?_;rw[h.le.fr];exact .inr ⟨id,l,o,q1,h1,h2,h3,h4,h5⟩
theorem zB{g:G}{n b:Nat}(h:fM (g.cut n) b):fM g b:=by
 obtain⟨id,l,o,h1,h2,h3,h4⟩:=h;exact⟨id,l,o,(bA.1 h1).2,(bA.1 h2).2,h3,h4⟩
theorem zC{g:G}{n b off:Nat}(h:iM (g.cut n) b off):iM g b off:=by
 obtain⟨id,l,o,h1,h2,h3,h4,h5⟩:=h;exact⟨id,l,o,(bA.1 h1).2,(bA.1 h2).2,h3,h4,h5⟩
theorem nm.block{g g':G}{n:Nat}(h:nm g n g'){id:Nat}{l:Loc}{o:ak}(fA:n<=id)(h1:g.env[id]?=some (some l))(h2:g.objs[id]?=some o)(h3:o.live):g'.w.heap[l.block]?=g.w.heap[l.block]?:=by
 refine(h.le.block l.block (h.good.loc id l o h1 h2 h3) ?_).1;rintro⟨kD,l',o',k1,k2,k3,k4⟩;obtain⟨q,k1⟩:=bA.1 k1;have:=h.good.apart kD id l' l o' o k1 (bA.1 k2).2 k3 h1 h2 h3 k4;omega
theorem nm.Im{g g':G}{n:Nat}(h:nm g n g'):Le g (g.fU n g') where
 os:=h.le.os
 tape:=h.le.tape
 output:=h.le.output
 fr:=rfl
 size:=h.le.size
 block:=fun k hk hh=>by
  obtain⟨q1,q2⟩:=h.le.block k hk (fun q=>hh (zB q));refine⟨q1,fun q=>?_⟩;rcases h.Io q with q|⟨id,l,o,_,q⟩
  ·exact q2 q
  exact hh ⟨id,l,o,q⟩
 cell:=fun b off x hx hh=>by
  obtain⟨q1,q2⟩:=h.le.cell b off x hx (fun q=>hh (zC q));refine⟨q1,fun q=>?_⟩;obtain⟨id,l,o,h1,h2,h3,h4,h5⟩:=q;rcases(aM h.env).1 h1 with⟨e1,h1⟩|⟨e1,h1⟩
  ·rcases(aM h.same).1 h2 with⟨e2,h2⟩|⟨e2,h2⟩
   ·exact q2 ⟨id,l,o,h1,h2,h3,h4,h5⟩
   omega
  rcases(aM h.same).1 h2 with⟨e2,h2⟩|⟨e2,h2⟩
  ·omega
  exact hh ⟨id,l,o,h1,h2,h3,h4,h5⟩
 len:=by
  simp only[G.fU,List.length_append,List.length_drop,h.same];omega
 spare:=fun id m hm=>by
  rcases Nat.lt_or_ge id n with q|q
  ·rcases h.le.spare id m (bA.2 ⟨q,hm⟩)with⟨m',k1,k2⟩|⟨o',k1,k2⟩
   ·exact .inl ⟨m',(aM h.same).2 (.inl ⟨q,k1⟩),k2⟩
   exact .inr ⟨o',(aM h.same).2 (.inl ⟨q,k1⟩),k2⟩
  exact .inl ⟨m,(aM h.same).2 (.inr ⟨q,hm⟩),Nat.le_refl _⟩
 plain:=fun id o ho hs=>by
  have aZ:=I ho;have he:g.env[id]?=some (g.env[id]'(by rw[h.good.len];exact aZ)):=List.getElem?_eq_getElem _;rcases Nat.lt_or_ge id n with q|q
  ·obtain⟨⟨o',k1,k2⟩,k3⟩:=h.le.plain id o (bA.2 ⟨q,ho⟩) hs;refine⟨⟨o',(aM h.same).2 (.inl ⟨q,k1⟩),k2⟩,?_⟩;rw[he];refine(aM h.env).2 (.inl ⟨q,?_⟩);rw[k3];exact bA.2 ⟨q,he⟩
  refine⟨⟨o,(aM h.same).2 (.inr ⟨q,ho⟩),hs⟩,?_⟩;rw[he];exact(aM h.env).2 (.inr ⟨q,he⟩)
 gone:=fun id ho=>by
  rcases Nat.lt_or_ge id n with q|q
  ·exact(aM h.same).2 (.inl ⟨q,h.le.gone id (bA.2 ⟨q,ho⟩)⟩)
  exact(aM h.same).2 (.inr ⟨q,ho⟩)
 tok:=fun id m hm fm=>by
  have aZ:=I hm;have he:g.env[id]?=some (g.env[id]'(by rw[h.good.len];exact aZ)):=List.getElem?_eq_getElem _;rcases(aM h.same).1 fm with⟨q,fm⟩|⟨q,fm⟩
  ·obtain⟨k1,k2⟩:=h.le.tok id m (bA.2 ⟨q,hm⟩) fm;refine⟨?_,fun l hl=>k2 l (bA.2 ⟨q,hl⟩)⟩;rw[he];refine(aM h.env).2 (.inl ⟨q,?_⟩);rw[k1];exact bA.2 ⟨q,he⟩
  refine⟨?_,fun l hl=>h.block q hl hm trivial⟩;rw[he];exact(aM h.env).2 (.inr ⟨q,he⟩)
theorem RV.fU{g g':G}{n:Nat}(hc:nm g n g'){x:ae}{u:Value}(h:RV g' x u):RV (g.fU n g') x u:=by
 have aZ:∀{id:Nat} {o:ak},g'.objs[id]?=some o->id<n:=fun ho=>by
  have:=I ho;rw[hc.same]at this;exact this
 induction h with
 | v hx=>exact .v hx
 | agg hl dz _ ih=>exact .agg hl dz ih
 | nil ho tK =>
  refine .nil (fun id e=>?_) tK;have:=ho id e;simp only[G.fU,List.length_append];omega
 | aE cU dz cQ cF hs f hm hr ho ih =>
  rename_i sz xs o a cap;refine .aE cU dz cQ cF hs f (fun j c hj=>⟨(hm j c hj).1,fun q=>(hm j c hj).2 (hc.own q)⟩) ih ?_;cases o with
  | sh=>trivial
  | nn=>trivial
  | ex=>exact ho
  | loc a=>exact ho
  | tok id =>
   have fA:=ho.1;rw[hc.same]at fA;refine⟨by simp only[G.fU,List.length_append,hc.same];omega,fun m fm=>?_⟩;rcases(aM hc.same).1 fm with⟨q,fm⟩|⟨q,_⟩
   ·obtain⟨h1,h2⟩:=ho.2 m fm;refine⟨h1,fun e=>?_⟩;rcases h2 e with k|⟨l,arr,t,k1,k2⟩
    ·exact .inl k
    exact .inr ⟨l,arr,t,(aM hc.env).2 (.inl ⟨q,k1⟩),k2⟩
   omega
 | ip ha dz f hm hr ih=>exact .ip ha dz f (fun j c hj=>⟨(hm j c hj).1,fun q=>(hm j c hj).2 (hc.own q)⟩) ih
 | mp he ho jI=>exact .mp ((aM hc.env).2 (.inl ⟨aZ ho,he⟩)) ((aM hc.same).2 (.inl ⟨aZ ho,ho⟩)) jI
 | ms he ho jI mZ lJ cF=>exact .ms ((aM hc.env).2 (.inl ⟨aZ ho,he⟩)) ((aM hc.same).2 (.inl ⟨aZ ho,ho⟩)) jI mZ lJ cF
 | os he ho jI mZ lJ cF=>exact .os ((aM hc.env).2 (.inl ⟨aZ ho,he⟩)) ((aM hc.same).2 (.inl ⟨aZ ho,ho⟩)) jI mZ lJ cF
 | raw tK ho =>
  rename_i sz n0 id a cap;have fA:=ho.1;rw[hc.same]at fA;refine .raw tK ⟨by simp only[G.fU,List.length_append,hc.same];omega,fun m fm=>?_⟩;rcases(aM hc.same).1 fm with⟨q,fm⟩|⟨q,_⟩
  ·obtain⟨h1,h2⟩:=ho.2 m fm;refine⟨h1,fun e=>?_⟩;rcases h2 e with k|⟨l,arr,t,k1,k2⟩
   ·exact .inl k
   exact .inr ⟨l,arr,t,(aM hc.env).2 (.inl ⟨q,k1⟩),k2⟩
  omega
 | mm he ho jI=>exact .mm ((aM hc.env).2 (.inl ⟨aZ ho,he⟩)) ((aM hc.same).2 (.inl ⟨aZ ho,ho⟩)) jI
 | im hh jI hl hk rA _ ih=>exact .im hh (fun off q=>jI off (hc.own q)) hl hk rA ih
 | fn hl q8 _ _ ih xE=>exact .fn hl q8 ih xE
 | df hl _ ih=>exact .df hl ih
theorem nm.Eo{g g':G}{n:Nat}(h:nm g n g'):Good (g.fU n g') where
 frlt:=fun b off hf=>Nat.lt_of_lt_of_le (h.good.frlt b off hf) h.le.size
 fk:=fun id l o h1 h2 h3 off hf=>by
  rcases(aM h.env).1 h1 with⟨q,h1⟩|⟨q,h1⟩
  ·rcases(aM h.same).1 h2 with⟨_,h2⟩|⟨q2,_⟩
   ·refine h.nL.fk id l o h1 h2 h3 off ?_;rw[h.le.fr];exact .inl hf
   omega
  rcases(aM h.same).1 h2 with⟨q2,_⟩|⟨_,h2⟩
  ·omega
  exact h.good.fk id l o h1 h2 h3 off hf
 len:=by simp[G.fU,h.env,h.same,h.good.len]
 loc:=fun id l o h1 h2 h3=>by
  rcases(aM h.env).1 h1 with⟨q,h1⟩|⟨q,h1⟩
  ·rcases(aM h.same).1 h2 with⟨_,h2⟩|⟨q2,_⟩
   ·exact h.nL.loc id l o h1 h2 h3
   omega
  rcases(aM h.same).1 h2 with⟨q2,_⟩|⟨_,h2⟩
  ·omega
  exact Nat.lt_of_lt_of_le (h.good.loc id l o h1 h2 h3) h.le.size
 apart:=fun id kD l l' o o' h1 h2 h3 k1 k2 k3 iI=>by
  have hx:∀{i:Nat} {l:Loc} {o:ak},(g.fU n g').env[i]?=some (some l)->(g.fU n g').objs[i]?=some o->(i<n∧g'.env[i]?=some (some l)∧g'.objs[i]?=some o)∨(n<=i∧g.env[i]?=some (some l)∧g.objs[i]?=some o):=by
   intro i l o h1 h2;rcases(aM h.env).1 h1 with⟨q,h1⟩|⟨q,h1⟩
   ·rcases(aM h.same).1 h2 with⟨_,h2⟩|⟨q2,_⟩
    ·exact .inl ⟨q,h1,h2⟩
    omega
   rcases(aM h.same).1 h2 with⟨q2,_⟩|⟨_,h2⟩
   ·omega
   exact .inr ⟨q,h1,h2⟩
  rcases hx h1 h2 with⟨q,e1,e2⟩|⟨q,e1,e2⟩
  ·rcases hx k1 k2 with⟨q',f1,f2⟩|⟨q',f1,f2⟩
   ·exact h.nL.apart id kD l l' o o' e1 e2 h3 f1 f2 k3 iI
   refine absurd ?_ (h.nL.fk id l o e1 e2 h3 l'.lo);rw[h.le.fr];exact .inr ⟨kD,l',o',q',f1,f2,k3,iI.symm,Nat.le_refl _⟩
  rcases hx k1 k2 with⟨q',f1,f2⟩|⟨q',f1,f2⟩
  ·refine absurd ?_ (h.nL.fk kD l' o' f1 f2 k3 l.lo);rw[h.le.fr];exact .inr ⟨id,l,o,q,e1,e2,h3,iI,Nat.le_refl _⟩
  exact h.good.apart id kD l l' o o' e1 e2 h3 f1 f2 k3 iI
 cells:=fun id cs h1=>by
  rcases(aM h.same).1 h1 with⟨q,h1⟩|⟨q,h1⟩
  ·obtain⟨l,arr,t,e1,e0,e2,e3,e4,e5⟩:=h.nL.cells id cs h1;exact⟨l,arr,t,(aM h.env).2 (.inl ⟨q,e1⟩),e0,e2,e3,fun j c u a b=>(e4 j c u a b).fU h,e5⟩
  obtain⟨l,arr,t,e1,e0,e2,e3,e4,e5⟩:=h.good.cells id cs h1;exact⟨l,arr,t,(aM h.env).2 (.inr ⟨q,e1⟩),e0,(h.block q e1 h1 trivial).trans e2,e3,fun j c u a b=>(e4 j c u a b).mono h.Im,e5⟩
 spare:=fun id m l h1 h2=>by
  rcases(aM h.same).1 h1 with⟨q,h1⟩|⟨q,h1⟩
  ·rcases(aM h.env).1 h2 with⟨_,h2⟩|⟨q2,_⟩
   ·exact h.nL.spare id m l h1 h2
   omega
  rcases(aM h.env).1 h2 with⟨q2,_⟩|⟨_,h2⟩
  ·omega
  obtain⟨arr,t,e⟩:=h.good.spare id m l h1 h2;exact⟨arr,t,(h.block q h2 h1 trivial).trans e⟩
 map:=fun id kt es h1=>by
  rcases(aM h.same).1 h1 with⟨q,h1⟩|⟨q,h1⟩
  ·obtain⟨l,arr,clk,e1,e0,e2,e3,e6,e4⟩:=h.nL.map id kt es h1;exact⟨l,arr,clk,(aM h.env).2 (.inl ⟨q,e1⟩),e0,e2,e3,e6,fun i e kx a b=>⟨(e4 i e kx a b).1,(e4 i e kx a b).2.1,(e4 i e kx a b).2.2.fU h⟩⟩
  obtain⟨l,arr,clk,e1,e0,e2,e3,e6,e4⟩:=h.good.map id kt es h1;exact⟨l,arr,clk,(aM h.env).2 (.inr ⟨q,e1⟩),e0,(h.block q e1 h1 trivial).trans e2,e3,e6,fun i e kx a b=>⟨(e4 i e kx a b).1,(e4 i e kx a b).2.1,(e4 i e kx a b).2.2.mono h.Im⟩⟩
theorem bc.frame{P:Program}{f:FuncId}{O O':List ak}{args:List ae}{r:ae}(h:bc P f O args fun r' O1=>r'=r∧O1=O')(hlen:O'.length=O.length)(hb:aw O.length args)(hO:∀o∈O,o.upto O.length)(X:List ak) :
  bc P f (O++X) args fun r' O1=>r'=r∧O1=O'++X:=by
 refine⟨h.1,?_⟩;intro g vs hg ho ha;have hn:O.length<=g.objs.length:=by simp[ho]
 have gn:g.objs.take O.length=O:=by simp[ho]
 have yT:gZ (g.cut O.length) args vs:=⟨ha.1,fun j c u a b=>(ha.2 j c u a b).cut hn (aY.1 hb c (List.mem_of_getElem? a))⟩
 refine(h.2 (g.cut O.length) vs (hg.cut hn (by rw[gn];exact hO)) gn yT).mono ?_;rintro e w' ⟨g',v,r',h1,h2,h3,h4,h5,h6,h7⟩;subst h6;have hc:nm g O.length g':=⟨hg,h3,h4,hn,by rw[h7,hlen]⟩
 exact⟨g.fU O.length g',v,r',h1,h2,hc.Im,hc.Eo,h5.fU hc,rfl,by simp[G.fU,h7,ho]⟩
end Go.Av
namespace Go.Av
open Go.ChangeShapes Go.WideShapes Go.RowKit
def g0(w:World):G:=⟨w,fun _ _=>False,[],[]⟩
theorem En{w:World}{b off:Nat}:¬jT (g0 w) b off:=by
 rintro(h|⟨id,l,o,h1,_⟩)
 ·exact h
 simp[g0]at h1
theorem zT{w:World}{b:Nat}:¬fM (g0 w) b:=by
 rintro⟨id,l,o,h1,_⟩;simp[g0]at h1
theorem B4(w:World):Good (g0 w) where
 frlt:=fun _ _ h=>h.elim
 fk:=fun _ _ _ h=>by simp[g0]at h
 len:=rfl
 loc:=fun _ _ _ h=>by simp[g0]at h
 apart:=fun _ _ _ _ _ _ h=>by simp[g0]at h
 cells:=fun _ _ h=>by simp[g0]at h
 spare:=fun _ _ _ h=>by simp[g0]at h
 map:=fun _ _ _ h=>by simp[g0]at h
def tL(P:Program)(t:TypeId):Bool :=
 match P.underlying t with
 | some (.struct _)=>true
 | some (.array _ _)=>true
 | _=>false
def xH(P:Program)(e:TypeId)(cs:List ae):ae:=if tL P e then .agg cs else cs.getD 0 (.v (.bool false))
def Bo(S:TypeId->List ae->Prop):List TypeId->List ae->Prop
 | [],cs=>cs=[]
 | t::ts,cs=>∃a b,cs=a++b∧S t a∧Bo S ts b
def kQ(P:Program):Nat->TypeId->List ae->Prop
 | 0,_,_=>False
 | n+1,t,cs=>match P.underlying t with
  | some .bool=>∃b,cs=[.v (.bool b)]
  | some (.int k)=>∃m:Int,cs=[.v (.int k m)]∧k.min<=m∧m<=k.max
  | some .string=>∃s:ByteArray,cs=[.v (.string s)]∧s.size<=reachBytes
  | some (.slice e)=>∃xs:List (List ae),cs=[.aE (P.cellsOf e) (xs.map (xH P e)) .sh]∧(∀x∈xs,kQ P n e x)∧xs.length*P.bytesOf e<=reachBytes
  | some (.struct fs)=>Bo (kQ P n) (fs.toList.map (·.type)) cs
  | _=>False
def BT(P:Program)(ts:List TypeId):Bool :=
 ts.all fun t=>decide (t<P.types.size)&&match P.underlying t with
  | some .bool=>true
  | some (.int _)=>true
  | some .string=>true
  | some (.slice e)=>ts.contains e&&decide (0<P.bytesOf e)&&decide (0<P.cellsOf e)&&(tL P e || decide (P.cellsOf e=1))
  | some (.struct fs)=>fs.toList.all fun f=>ts.contains f.type
  | _=>false
def yQ(g:G)(dC:List ae)(us:List Value):Prop:=dC.length=us.length∧(∀c∈dC,c.scalar)∧∀(i:Nat) c u,dC[i]?=some c->us[i]?=some u->RV g c u
theorem yQ.append{g:G}{dC bs:List ae}{us vs:List Value}(h:yQ g dC us)(k:yQ g bs vs):yQ g (dC++bs) (us++vs):=by
 obtain⟨h1,h2,h3⟩:=h;obtain⟨k1,k2,k3⟩:=k;refine⟨by simp[h1,k1],fun c hc=>(List.mem_append.1 hc).elim (h2 c) (k2 c),fun i c u hc hu=>?_⟩;rw[List.getElem?_append]at hc hu;by_cases hi:i<dC.length
 ·rw[if_pos hi]at hc;rw[if_pos (by omega)]at hu;exact h3 i c u hc hu
 rw[if_neg hi]at hc;rw[if_neg (by omega),<-h1]at hu;exact k3 _ c u hc hu
theorem yQ.one{g:G}{a:ae}{u:Value}(hs:a.scalar)(h:RV g a u):yQ g [a] [u]:=by
 refine⟨rfl,by simpa using hs,fun i c u' hc hu=>?_⟩;cases i with
 | zero =>
  simp at hc hu;subst hc;subst hu;exact h
 | succ i=>simp at hc
section
variable {H:Type} {enc:TypeId×Value->H} {P:Program} {w:World} {sp:Nat->Bool} {held:Bool}
theorem pe{e:TypeId}:∀{ds:List (DataW H)} {d:DataW H},d∈ds->∀n∈d.weights P e,n∈DataW.weightsAll P e ds
 | d0::ds,d,hd,n,hn=>by
  simp only[DataW.weightsAll,List.mem_append];rcases List.mem_cons.1 hd with rfl|hd
  ·exact .inl hn
  exact .inr (pe hd n hn)
theorem uQ{α β:Type}{f:α->Option β}:∀{l:List α} {r:List β},l.mapM f=some r->r.length=l.length∧∀(i:Nat) x y,l[i]?=some x->r[i]?=some y->f x=some y
 | [],r,h=>by
  simp at h;subst h;exact⟨rfl,fun i x y hx=>by simp at hx⟩
 | a::l,r,h=>by
  rw[List.mapM_cons]at h;obtain⟨b,hb,h⟩:=Option.bind_eq_some_iff.1 h;obtain⟨r',hr,h⟩:=Option.bind_eq_some_iff.1 h;cases h;obtain⟨h1,h2⟩:=uQ hr;refine⟨by simp[h1],fun i x y hx hy=>?_⟩;cases i with
  | zero =>
   simp at hx hy;subst hx;subst hy;exact hb
  | succ i=>exact h2 i x y (by simpa using hx) (by simpa using hy)
theorem ox{base:Nat}{a:Addr}{n:Nat}{cs:List Value}(h:w.cells? base a n=some cs):cs.length=n∧∀(i:Nat) u,cs[i]?=some u->w.cell? (a.add i)=some u:=by
 unfold World.cells? at h;split at h
 ·obtain⟨h1,h2⟩:=uQ h;have hl:cs.length=n:=by simpa using h1
  refine⟨hl,fun i u hu=>?_⟩;have hi:=I hu;exact h2 i i u (by simp[List.getElem?_range (show i<n by omega)]) hu
 cases h
theorem o8{α β:Type}{p:α->β->Prop}:∀n:Nat,∀f:Nat->α,(∀i,i<n->∃b,p (f i) b)->∃bs:List β,bs.length=n∧∀i b,bs[i]?=some b->p (f i) b
 | 0,_,_=>⟨[],rfl,fun i b h=>by simp at h⟩
 | n+1,f,h=>by
  obtain⟨bs,h1,h2⟩:=o8 n f (fun i hi=>h i (by omega));obtain⟨b,hb⟩:=h n (by omega);refine⟨bs++[b],by simp[h1],fun i c hc=>?_⟩;rcases aQ hc with hc|⟨rfl,rfl⟩
  ·exact h2 i c hc
  rw[h1];exact hb
theorem tT{e:TypeId}(eQ:tL P e=true∨P.cellsOf e=1){xs:List (List ae)}(hx:∀x∈xs,x.length=P.cellsOf e∧∀c∈x,c.scalar):ao (xs.map (xH P e))=xs.flatten∧∀x∈xs,(xH P e x).cells=x:=by
 have key:∀x∈xs,(xH P e x).cells=x:=fun x uN=>by
  unfold xH;split
  ·rfl
  rename_i hn;rcases eQ with h|h
  ·exact absurd h hn
  obtain⟨h1,h2⟩:=hx x uN;rw[h]at h1
  match x,h1 with
  | [c],_ =>
   have:=h2 c (by simp);cases c<;>first|rfl|exact this.elim
 refine⟨?_,key⟩;clear hx;induction xs with
 | nil=>rfl
 | cons x xs ih =>
  simp only[List.map_cons,ao,List.flatMap_cons,List.flatten_cons];rw[key x (by simp)];congr 1;exact ih fun y hy=>key y (by simp[hy])
theorem oW{n:Nat}:∀{xs:List (List ae)} (_:∀x∈xs,x.length=n) {j:Nat} {c:ae},xs.flatten[j]?=some c->∃i k x,j=i*n+k∧k<n∧xs[i]?=some x∧x[k]?=some c
 | [],_,j,c,h=>by simp at h
 | x::xs,hx,j,c,h=>by
  have hl:=hx x (by simp);rw[List.flatten_cons,List.getElem?_append]at h;split at h
  ·rename_i hj;exact⟨0,j,x,by omega,by omega,by simp,h⟩
  rename_i hj;obtain⟨i,k,y,h1,h2,h3,h4⟩:=oW (fun y hy=>hx y (by simp[hy])) h;refine⟨i+1,k,y,?_,h2,by simpa using h3,h4⟩;rw[Nat.add_mul,Nat.one_mul];omega
theorem qK{n:Nat}{cs:List Value}{S:TypeId->List ae->Prop}{ts:List TypeId}
  (ih:∀t cs' (x:DataW H×List MemPlace),t∈ts->DataW.trod enc P w 0 sp held n t cs'=some x->(∀m∈x.1.weights P t,m<=reachBytes)->∃dC,S t dC∧yQ (g0 w) dC cs') :
  ∀(fl:List Field) (o:Nat) (xs:List (DataW H×List MemPlace)),(∀f∈fl,f.type∈ts)->(∀(j:Nat) f,fl[j]?=some f->f.offset=o+((fl.take j).map fun f=>P.cellsOf f.type).sum) ->
   o+(fl.map fun f=>P.cellsOf f.type).sum<=cs.length->xs.length=fl.length ->
   (∀(i:Nat) f,fl[i]?=some f->DataW.trod enc P w 0 sp held n f.type ((cs.drop f.offset).take (P.cellsOf f.type))=xs[i]?) ->
   (∀m∈DataW.weightsEach P (fl.map (·.type)) (xs.map (·.1)),m<=reachBytes) ->
   ∃dC,Bo S (fl.map (·.type)) dC∧yQ (g0 w) dC ((cs.drop o).take (fl.map fun f=>P.cellsOf f.type).sum)
 | [],o,xs,_,_,_,_,_,_=>⟨[],rfl,by simp[yQ]⟩
 | f::fl,o,[],_,_,_,hx,_,_=>by simp at hx
 | f::fl,o,y::ys,Ct,Cp,hlen,hx,hm,hw=>by
  have ho:f.offset=o:=by simpa using Cp 0 f rfl
  simp only[List.map_cons,DataW.weightsEach,List.mem_append]at hw;simp only[List.map_cons,List.sum_cons]at hlen ⊢;obtain⟨dC,h1,h2⟩:=ih f.type _ y (Ct f (by simp)) (by simpa using hm 0 f rfl) (fun m hm=>hw m (.inl hm));obtain⟨bs,k1,k2⟩:=qK ih fl (o+P.cellsOf f.type) ys (fun g hg=>Ct g (by simp[hg])) (fun j g hg=>by
   have:=Cp (j+1) g (by simpa using hg);simp only[List.take_succ_cons,List.map_cons,List.sum_cons]at this;omega) (cs:=cs) (by omega) (by simpa using hx) (fun i g hg=>by simpa using hm (i+1) g (by simpa using hg)) (fun m hm=>hw m (.inr hm))
  refine⟨dC++bs,⟨dC,bs,rfl,h1,k1⟩,?_⟩;rw[List.take_add,List.drop_drop];rw[ho]at h2;exact h2.append k2
theorem add_add{a:Addr}(hs:a.spot=none)(m k:Nat):(a.add m).add k=⟨a.block,a.off+(m+k),none⟩:=by
 cases a with
 | mk b off spot =>
  subst hs;unfold Addr.add;by_cases hm:m=0<;>by_cases hk:k=0<;>simp[hm,hk,Nat.add_assoc]
theorem tr{a:Addr}{u:Value}(h:w.cell? a=some u):a.spot=none:=by
 unfold World.cell? at h;split at h
 ·split at h
  ·cases h
  rename_i hs;simpa using hs
 cases h
theorem pb(hl:laidOutB P=true){ts:List TypeId}(hc:BT P ts=true)(n:Nat):∀(t:TypeId) (cs:List Value) (x:DataW H×List MemPlace),t∈ts ->
  DataW.trod enc P w 0 sp held n t cs=some x->(∀m∈x.1.weights P t,m<=reachBytes)->∃dC,kQ P n t dC∧yQ (g0 w) dC cs:=by
 induction n with
 | zero=>intro _ _ _ _ h;simp[DataW.trod]at h
 | succ n ih =>
  intro t cs x ht h hw;have vk:=List.all_eq_true.1 hc t ht;simp only[Bool.and_eq_true,decide_eq_true_eq]at vk;obtain⟨cU,vk⟩:=vk;cases hu:P.underlying t with
  | none=>rw[hu]at vk;cases vk
  | some d =>
   rw[hu]at vk;cases d with
   | bool =>
    obtain⟨b,rfl,rfl⟩:=DataW.trod_bool hu h;exact⟨[.v (.bool b)],by simp only[kQ,hu];exact⟨b,rfl⟩,.one trivial (.v trivial)⟩
   | int k =>
    obtain⟨m,rfl,rfl,G2⟩:=DataW.trod_int hu h;simp only[Lit.wf,Bool.and_eq_true,decide_eq_true_eq]at G2;exact⟨[.v (.int k m)],by simp only[kQ,hu];exact⟨m,rfl,G2⟩,.one trivial (.v G2)⟩
   | string =>
    obtain⟨s,rfl,rfl,hs⟩:=DataW.trod_string hu h;have hb:s.size<=reachBytes:=by
     have:=hw s.data.toList.length (by simp[DataW.weights]);simpa using this
    exact⟨[.v (.string s)],by simp only[kQ,hu];exact⟨s,rfl,hb⟩,.one trivial (.v trivial)⟩
   | slice e =>
    simp only[Bool.and_eq_true,decide_eq_true_eq,Bool.or_eq_true,List.contains_iff_mem]at vk;obtain⟨⟨⟨he,hb⟩,rZ⟩,eQ⟩:=vk;rcases DataW.trod_slice hu h with⟨rfl,rfl⟩|⟨a,len,cap,elems,rest,n',jI,rfl,rfl,_,xy,yU,oX,cM,_,_⟩
    ·exact⟨[.aE (P.cellsOf e) [] .sh],by simp only[kQ,hu];exact⟨[],rfl,by simp,by simp[reachBytes]⟩,.one trivial (.nil (fun id h=>by cases h) (by simp))⟩
    cases jI;simp only[DataW.weights,hu,List.mem_cons,List.mem_append]at hw;have hlen:(len+rest.length)*P.bytesOf e<=reachBytes:=by
     have:=hw _ (.inl rfl);simpa[oX]using this
    have DQ:len*P.bytesOf e<=reachBytes:=Nat.le_trans (Nat.mul_le_mul_right _ (by omega)) hlen;have hle:len<=reachBytes:=Nat.le_trans (Nat.le_mul_of_pos_right _ hb) DQ;have sR:∀i,i<len->∃dC:List ae,kQ P n e dC∧∃us,yQ (g0 w) dC us∧w.cells? 0 (a.add (i*P.cellsOf e)) (P.cellsOf e)=some us:=fun i hi=>by
     have hy:elems[i]?=some elems[i]:=List.getElem?_eq_getElem (by omega);have h2:=cM i hi;rw[hy]at h2;obtain⟨us,h3,h4⟩:=Option.bind_eq_some_iff.1 h2;obtain⟨dC,k1,k2⟩:=ih e us elems[i] he h4 (fun m hm=>hw m (.inr (.inl (pe (List.mem_map.2 ⟨elems[i],List.getElem_mem _,rfl⟩) m hm))));exact⟨dC,k1,us,k2,h3⟩
    obtain⟨xs,Al,wE⟩:=o8 (p:=fun(i:Nat) (dC:List ae)=>kQ P n e dC∧∃us,yQ (g0 w) dC us∧w.cells? 0 (a.add (i*P.cellsOf e)) (P.cellsOf e)=some us) len id sR;have q9:∀y∈xs,y.length=P.cellsOf e∧∀c∈y,c.scalar:=fun y hy=>by
     obtain⟨i,hi⟩:=List.mem_iff_getElem?.1 hy;obtain⟨_,us,h2,h3⟩:=wE i y hi;exact⟨h2.1.trans (ox h3).1,h2.2.1⟩
    obtain⟨Gs,IJ⟩:=tT (P:=P) (by simpa using eQ) q9;have uI:xs≠[]->a.spot=none:=fun cj=>by
     match xs,cj,wE,q9 with
     | y::ys,_,wE,q9 =>
      obtain⟨_,us,h2,h3⟩:=wE 0 y rfl;obtain⟨h4,h5⟩:=ox h3;have h6:=h5 0 (us[0]'(by omega)) (List.getElem?_eq_getElem _);have:=tr h6;simpa[Addr.add]using this
    refine⟨[.aE (P.cellsOf e) (xs.map (xH P e)) .sh],?_,.one trivial ?_⟩
    ·simp only[kQ,hu];refine⟨xs,rfl,fun y hy=>?_,by rw[Al];exact DQ⟩;obtain⟨i,hi⟩:=List.mem_iff_getElem?.1 hy;exact(wE i y hi).1
    have fS:∀(j:Nat) (c:ae),xs.flatten[j]?=some c->∃u,w.cell? ⟨a.block,a.off+j,none⟩=some u∧RV (g0 w) c u:=fun j c hj=>by
     obtain⟨i,k,y,h1,h2,h3,h4⟩:=oW (n:=P.cellsOf e) (fun y hy=>(q9 y hy).1) hj;obtain⟨_,us,h5,h6⟩:=wE i y h3;obtain⟨h7,h8⟩:=ox h6;have hk:us[k]?=some (us[k]'(by omega)):=List.getElem?_eq_getElem _;have h9:=h8 k _ hk;have cj:xs≠[]:=fun e=>by rw[e]at h3;simp at h3
     have Es:(a.add (id i*P.cellsOf e)).add k=⟨a.block,a.off+(i*P.cellsOf e+k),none⟩:=add_add (uI cj) _ _;rw[Es,<-h1]at h9;exact⟨_,h9,h5.2.2 k c _ h4 hk⟩
    have key:=@RV.aE (g0 w) (P.cellsOf e) (xs.map (xH P e)) .sh a cap (fun x hx=>by
     obtain⟨y,hy,rfl⟩:=List.mem_map.1 hx;rw[IJ y hy];exact(q9 y hy).1) (fun x hx c hc=>by
     obtain⟨y,hy,rfl⟩:=List.mem_map.1 hx;rw[IJ y hy]at hc;exact(q9 y hy).2 c hc) (by simp[Al];exact xy) (by simp[Al];unfold reachBytes at hle;omega) (fun cj=>uI (fun e=>cj (by rw[e];rfl)))
     (fun j=>(w.cell? ⟨a.block,a.off+j,none⟩).getD (.bool false)) (fun j c hj=>by
      rw[Gs]at hj;obtain⟨u,h1,_⟩:=fS j c hj;refine⟨?_,En⟩;show w.cell? _=_;rw[h1];rfl) (fun j c hj=>by
      rw[Gs]at hj;obtain⟨u,h1,h2⟩:=fS j c hj;rw[h1];exact h2) trivial
    rw[List.length_map,Al]at key;exact key
   | struct fs =>
    simp only[List.all_eq_true,List.contains_iff_mem]at vk;obtain⟨xs,n',jI,rfl,eJ,Al,cM⟩:=DataW.trod_struct hu h;cases jI;obtain⟨k1,k2,k3⟩:=kid_struct hl cU hu;simp only[DataW.weights,hu]at hw;obtain⟨dC,h1,h2⟩:=qK ih fs.toList 0 xs vk (fun j f hj=>by rw[k3 j f hj];omega) (by rw[eJ,k2];omega) (by simpa using Al) (fun i f hf=>cM i f (by simpa using hf)) hw;refine⟨dC,by simp only[kQ,hu];exact h1,?_⟩;rw[List.drop_zero,<-k2,<-eJ,List.take_length]at h2;exact h2
   | _=>cases vk
theorem E'(hl:laidOutB P=true){ts:List TypeId}(hc:BT P ts=true){t:TypeId}(ht:t∈ts){v:Value}{d:DataW H}{ps:List MemPlace}(h:DataW.Trod enc P w 0 sp held t v d ps)
  (hv:v.cells = #[v]) (hw:∀m∈d.weights P t,m<=reachBytes):∃n a,kQ P n t [a]∧RV (g0 w) a v:=by
 obtain⟨n,h⟩:=h;obtain⟨dC,h1,h2⟩:=pb hl hc n t _ (d,ps) ht h hw;rw[hv]at h2;obtain⟨h3,h4,h5⟩:=h2
 match dC,h3 with
 | [a],_=>exact⟨n,a,h1,h5 0 a v rfl rfl⟩
theorem Hu{t:TypeId}{k:IntKind}{r:Reach}{b:Nat}{v:Value}(hu:P.underlying t=some (.int k))(h:Value.okWide P w r b t v):v.cells = #[v]:=by
 cases v<;>first|rfl|simp[Value.okWide,hu,Cell.okWide,Cell.ok]at h
theorem mR(hl:laidOutB P=true){W W':World}{Jb:Nat->Bool}:∀{ts:List TypeId} {vs:List Value} {ds:List (DataW H)} {ps:List MemPlace},(∀t∈ts,P.readableRec t=true∧t<P.types.size) ->
  DataW.TrodAll enc P W 0 (fun _=>true) true ts vs ds ps->(∀p∈ps,W.sameAt W' p)->(∀p∈ps,Jb p.block=true)->DataW.TrodAll enc P W' 0 Jb true ts vs ds ps
 | [],vs,ds,ps,_,h,_,_=>by
  obtain⟨rfl,rfl,rfl⟩:=trodAll_nil h;rfl
 | t::ts,vs,ds,ps,Ct,h,h1,h2=>by
  obtain⟨v,Km,d,J9,p,q,rfl,rfl,rfl,hd,hr⟩:=trodAll_cons h;obtain⟨k1,k2⟩:=Ct t (by simp);exact⟨p,q,WideElems.Trod_stays hl k1 k2 hd (fun x hx=>h1 x (List.mem_append.2 (.inl hx))) (fun x hx=>h2 x (List.mem_append.2 (.inl hx))),
   mR hl (fun t ht=>Ct t (by simp[ht])) hr (fun x hx=>h1 x (List.mem_append.2 (.inr hx))) (fun x hx=>h2 x (List.mem_append.2 (.inr hx))),rfl⟩
theorem ta(hl:laidOutB P=true){fn:Func}{s:ChangeSpec}{apart fresh handsOn again:Bool}{W:World}{args:Array Value}{ds gs:List (DataW H)}{before:List MemPlace}{f:FuncId}{xs:List ae}{tb:TypeId}
  (pz:∀t∈fn.params.toList,P.readableRec t=true∧t<P.types.size) (D1:s.vars=[]) (eg:fn.resultTypes = #[tb]) (EZ:P.underlying tb=some .bool)
  (hW:DataW.Whole enc P fn.params.toList s.vars apart W args.toList ds gs before)
  (jr:s.fn H (ds++gs) = { results:=[.lit (.bool true)],args:=ds })
  (DS:bw P f xs (.v (.bool true))) (Jo:gZ (g0 W) xs args) :
  Calls P f args W fun e W'=>∃v,e=.returned v∧s.post enc P fn apart fresh handsOn again W args v W':=by
 refine(DS.2 (g0 W) args (B4 W) rfl Jo).mono fun e W' ⟨g',v,r,h1,h2,h3,_,h5,h6,_⟩=>?_;subst h6;cases h5;subst h2;have v9:Below W.heap.size W g'.w:=⟨h3.os,h3.tape,h3.output,h3.size,fun k hk=>(h3.block k hk zT).1⟩
 have aZ:=hW.lt;obtain⟨p,q,hA,hV,rfl,IQ,wv⟩:=id hW;have hq:gs=[]∧q=[]:=trodVars_none (by rw[D1]at hV;exact hV);obtain⟨rfl,rfl⟩:=hq;simp only[List.append_nil]at aZ IQ wv jr;have fo:∀x∈p,W.sameAt g'.w x:=fun x hx=>v9.same (aZ x hx);have dY:∀sp:Nat->Bool,(∀x∈p,sp x.block=true)->DataW.TrodAll enc P g'.w 0 sp true fn.params.toList args.toList ds p:=fun sp fQ=>mR hl pz hA fo fQ;have hR:∀(b:Nat) (sp:Nat->Bool) (hd:Bool),DataW.TrodAll enc P g'.w b sp hd fn.resultTypes.toList ((Value.bool true).resultList fn.resultTypes.size) [.lit (.bool true)] []:=fun b sp hd=>by
  rw[eg];exact trodAll_mk1 (shut_bool EZ true)
 have I6:∀sp:Nat->Bool,DataW.TrodVars enc P g'.w sp s.vars [] []:=fun sp=>by
  rw[D1];rfl
 refine⟨_,h1,ds,[],p++[],[],p,[],hW,?_,?_,?_,v9.frame _,fun _=>⟨?_,[.lit (.bool true)]++ds,[],([]++p)++[],⟨[]++p,[],?_,I6 _,rfl,?_,?_⟩,?_⟩⟩
 ·rw[List.append_nil,jr];exact hR _ _ _
 ·rw[List.append_nil,jr];exact dY _ fun x hx=>by simpa using aZ x hx
 ·rw[List.append_nil,jr];exact I6 _
 ·exact ok_one eg rfl (okWide_bool_mk EZ true)
 ·exact trodAll_append (dY (fun _=>true) fun _ _=>rfl) (hR _ _ _)
 ·intro b off hx;simp only[List.nil_append,List.append_nil]at hx;rw[v9.frozen (p:=⟨b,off,none⟩) (aZ _ hx)];exact IQ b off hx
 ·intro ha;simpa using wv ha
 intro x hx _;simpa using hx
end
section
variable {P:Program} {n:Nat} {t:TypeId} {cs:List ae}
theorem kQ.int{k:IntKind}(hu:P.underlying t=some (.int k))(h:kQ P n t cs):∃m:Int,cs=[.v (.int k m)]∧k.min<=m∧m<=k.max:=by
 cases n with
 | zero=>exact h.elim
 | succ n =>
  simp only[kQ,hu]at h;exact h
theorem kQ.struct{fs:Array Field}(hu:P.underlying t=some (.struct fs))(h:kQ P n t cs):∃m,n=m+1∧Bo (kQ P m) (fs.toList.map (·.type)) cs:=by
 cases n with
 | zero=>exact h.elim
 | succ n =>
  simp only[kQ,hu]at h;exact⟨n,rfl,h⟩
theorem kQ.slice{e:TypeId}(hu:P.underlying t=some (.slice e))(h:kQ P n t cs):∃m,n=m+1∧∃xs:List (List ae),cs=[.aE (P.cellsOf e) (xs.map (xH P e)) .sh]∧(∀x∈xs,kQ P m e x)∧xs.length*P.bytesOf e<=reachBytes:=by
 cases n with
 | zero=>exact h.elim
 | succ n =>
  simp only[kQ,hu]at h;exact⟨n,rfl,h⟩
theorem uR{α:Type}{f:α->ae}{Q:α->Prop}{g:List ae->ae}:∀{xs:List (List ae)},(∀x∈xs,∃a,g x=f a∧Q a)->∃l:List α,xs.map g=l.map f∧∀a∈l,Q a
 | [],_=>⟨[],rfl,by simp⟩
 | x::xs,h=>by
  obtain⟨a,ha,hq⟩:=h x (by simp);obtain⟨l,hl,H5⟩:=uR (xs:=xs) fun y hy=>h y (by simp[hy]);exact⟨a::l,by simp[ha,hl],by simpa using⟨hq,H5⟩⟩
theorem kQ.uO{α:Type}{f:α->ae}{Q:α->Prop}{e:TypeId}(hu:P.underlying t=some (.slice e))(h:kQ P n t cs)(hd:∀m,m<n->∀x,kQ P m e x->∃a,xH P e x=f a∧Q a) :
  ∃l:List α,cs=[.aE (P.cellsOf e) (l.map f) .sh]∧l.length*P.bytesOf e<=reachBytes∧∀a∈l,Q a:=by
 obtain⟨m,rfl,xs,rfl,h1,h2⟩:=h.slice hu;obtain⟨l,hl,hq⟩:=uR (f:=f) (Q:=Q) fun x hx=>hd m (by omega) x (h1 x hx);refine⟨l,by rw[hl],?_,hq⟩;have:xs.length=l.length:=by
  have:=congrArg List.length hl;simpa using this
 rw[<-this];exact h2
end
end Go.Av
namespace Go.Av
theorem gS{P:Program}{kb:Nat}{c:Code}{Q:dR->St->Prop}{n:Nat}{ba:List (Nat×ae)}{O:List ak}(k off:Nat){sz:Nat}{cs xs:List ae}(jJ:O[k]?=some (.cells cs))(wy:cs[off]?=some (.aE sz xs .ex))
  (h:cc P kb c Q ⟨n,ba,(O++[ak.spare xs.length]).set k (.cells (cs.set off (.aE sz xs (.tok O.length))))⟩):cc P kb c Q ⟨n,ba,O⟩ :=
 h.weaken fun base a g hb hr=>by
  have hO:g.objs=O:=hr.objs;have z':=Le.mark hr.good (ak.spare xs.length);have Ck:=Good.mark hr.good xs.length;have HU:g.objs[k]?=some (.cells cs):=by rw[hO];exact jJ
  have wz:(g.mark (ak.spare xs.length)).objs[k]?=some (.cells cs):=cW HU;obtain⟨l,arr,t,e1,e2,e3,e4,e5,e6⟩:=Ck.cells k cs wz;have DY:ku (g.mark (ak.spare xs.length)) k (.cells cs) (some l) (.cells (cs.set off (.aE sz xs (.tok O.length)))) g.w:={
   obj:=wz
   os:=rfl
   tape:=rfl
   output:=rfl
   size:=Nat.le_refl _
   block:=fun _ _ _=>rfl
   cell:=fun b off x hx _=>hx
   place:=fun l1 h1 _=>by
    simp only[Option.some.injEq]at h1;subst h1;exact .inr ⟨l,e1,trivial,rfl,Nat.le_refl _⟩
   spare:=fun m h=>by cases h
   plain:=fun _=>⟨by simp[ak.aF],e1⟩
   gone:=by simp }
  have px:=Le.br Ck DY;have qq:=Good.br Ck DY ⟨l,arr,t,rfl,e2,e3,by simpa using e4,fun j d u hd hu=>by
   rw[List.getElem?_set]at hd;split at hd
   ·rename_i hj;subst hj;split at hd
    ·simp only[Option.some.injEq]at hd;subst hd;have hv:=(e5 off _ u wy hu).mono px;cases hv with
     | nil=>exact .nil (fun id e=>by
      simp only[kP.tok.injEq]at e;subst e;simp[G.br,G.mark,hO]) (by simp)
     | aE cU dz cQ cF hs f hm hr ho =>
      refine .aE cU dz cQ cF hs f hm hr ⟨by simp[G.br,G.mark,hO],fun m fm=>?_⟩;have cj:k≠O.length:=by
       have:=I jJ;omega
      have:((g.mark (ak.spare xs.length)).br k (some l) (.cells (cs.set off (.aE sz xs (.tok O.length)))) g.w).objs[O.length]?=some (.spare xs.length):=by
       simp only[G.br];rw[List.getElem?_set_ne cj,<-hO];exact eE
      rw[this]at fm;simp only[Option.some.injEq,ak.spare.injEq]at fm;exact⟨by omega,fun _=>.inl ho⟩
    cases hd
   ·exact(e5 j d u hd hu).mono px,fun d hd=>by
   rcases List.mem_or_eq_of_mem_set hd with q|q
   ·exact e6.1 d q
   subst q;trivial,e6.2⟩ (fun l1 h1 _=>by
   simp only[Option.some.injEq]at h1;subst h1;exact a5 e3)
  exact⟨(g.mark (ak.spare xs.length)).br k (some l) (.cells (cs.set off (.aE sz xs (.tok O.length)))) g.w,rfl,{ le:=(hr.le.trans z').trans px,good:=qq,objs:=by simp[G.mark,G.br,hO],size:=hr.size,defers:=hr.defers,slot:=fun s y hy=>(hr.slot s y hy).imp fun u hu=>⟨hu.1,(hu.2.mono z').mono px⟩ }⟩
def s6(τ:St)(Q:dR->St->Prop):dR->St->Prop
 | .norm,σ=>bg σ τ
 | e,σ=>Q e σ
theorem gI{P:Program}{kb:Nat}{x y:Code}{Q:dR->St->Prop}{σ:St}(τ:St)(h1:cc P kb x (s6 τ Q) σ)(h2:cc P kb y Q τ):cc P kb (.seq x y) Q σ :=
 aK (h1.mono fun e fE h=>by cases e<;>first|exact h2.cover h|exact h)
theorem F8{P:Program}{kb:Nat}{x y z:Code}{Q:dR->St->Prop}{σ:St}(τ:St)(h1:cc P kb x (s6 τ (bL P kb z Q)) σ)(h2:cc P kb y (bL P kb z Q) τ):cc P kb (.seq (.seq x y) z) Q σ :=
 aK (gI τ h1 h2)
theorem iN{P:Program}{kb:Nat}{x y:Code}{Q:dR->St->Prop}{σ:St}(τ:St)(h1:cc P kb x (s6 τ Q) σ)(h2:cc P kb y Q τ):cc P kb x (bL P kb y Q) σ :=
 h1.mono fun e fE h=>by cases e<;>first|exact h2.cover h|exact h

def n6(A:List Nat)(N k:Nat):Nat:=if k<A.length then A.getD k 0 else N+(k-A.length)
def Kind.jQ(A:List Nat)(N:Nat):Kind->Kind
 | .rd id=>.rd (n6 A N id)
 | .wr n l=>.wr (n6 A N n) (l.map (n6 A N))
 | .new id=>.new (n6 A N id)
 | k=>k
def Kind.fresh(m:Nat):Kind->Bool
 | .wr n _=>decide (m<=n)
 | _=>true
theorem uV{A:List Nat}{N:Nat}(hn:A.Nodup)(hA:∀a∈A,a<N){i j:Nat}(h:n6 A N i=n6 A N j):i=j:=by
 unfold n6 at h;have fS:∀k,k<A.length->A.getD k 0∈A:=fun k hk=>by
  rw[List.getD_eq_getElem?_getD,List.getElem?_eq_getElem hk];exact List.getElem_mem hk
 split at h<;>split at h
 ·rename_i h1 h2;rw[List.getD_eq_getElem?_getD,List.getElem?_eq_getElem h1,List.getD_eq_getElem?_getD,List.getElem?_eq_getElem h2]at h;exact(List.getElem_inj hn).1 h
 ·rename_i h1 h2;have:=hA _ (fS i h1);omega
 ·rename_i h1 h2;have:=hA _ (fS j h2);omega
 omega
theorem CD{A:List Nat}{N:Nat}(hA:∀a∈A,a<N){i n:Nat}(hn:A.length<=n)(h:i<n):n6 A N i<n6 A N n:=by
 unfold n6;have fS:∀k,k<A.length->A.getD k 0∈A:=fun k hk=>by
  rw[List.getD_eq_getElem?_getD,List.getElem?_eq_getElem hk];exact List.getElem_mem hk
 rw[if_neg (show ¬n<A.length by omega)];split
 ·rename_i h1;have:=hA _ (fS i h1);omega
 omega
theorem qB{A:List Nat}{N:Nat}(hn:A.Nodup)(hA:∀a∈A,a<N){k l:Kind}(hk:k.fresh A.length=true)(hl:l.fresh A.length=true)(h:bU k l=true):bU (k.jQ A N) (l.jQ A N)=true:=by
 have key:∀{id n:Nat} {L:List Nat},A.length<=n->id<n->id ∉ L->n6 A N id<n6 A N n∧n6 A N id ∉ L.map (n6 A N):=fun h1 h2 h3 =>
  ⟨CD hA h1 h2,fun hm=>by
   obtain⟨x,hx,e⟩:=List.mem_map.1 hm;have:=uV hn hA e;subst this;exact h3 hx⟩
 cases k<;>cases l<;>first
  | exact h
  | (simp only[bU]at h;cases h)
  | (simp only[Kind.jQ,bU,Bool.not_eq_true',decide_eq_false_iff_not]at h ⊢;exact fun e=>h (uV hn hA e))
  | (simp only[Kind.fresh,decide_eq_true_eq]at hk hl
     simp only[Kind.jQ,bU,Bool.and_eq_true,decide_eq_true_eq,Bool.not_eq_true',List.contains_eq_mem,decide_eq_false_iff_not]at h ⊢;exact key (by assumption) h.1 h.2)
theorem cm{ops:Array Oper}{ks:List Kind}(A:List Nat)(N:Nat)(o7:List Kind)(hn:A.Nodup)(hA:∀a∈A,a<N)(e:o7.map (Kind.jQ A N)=ks)(hf:o7.all (Kind.fresh A.length)=true)(h:l5 ops o7=true):l5 ops ks=true:=by
 subst e;simp only[l5,Bool.and_eq_true,List.all_eq_true,Bool.or_eq_true,List.length_map]at h ⊢;refine⟨h.1,fun i hi j hj=>?_⟩;rcases h.2 i hi j hj with q|q
 ·exact .inl q
 refine .inr ?_;have j7:∀i,(o7.map (Kind.jQ A N)).getD i .write=(o7.getD i .write).jQ A N:=fun i=>by
  rw[List.getD_eq_getElem?_getD,List.getD_eq_getElem?_getD,List.getElem?_map];cases o7[i]?<;>rfl
 have dU:∀i,(o7.getD i .write).fresh A.length=true:=fun i=>by
  rw[List.getD_eq_getElem?_getD];cases hi:o7[i]? with
  | none=>rfl
  | some x=>exact List.all_eq_true.1 hf x (List.mem_of_getElem? hi)
 rw[j7,j7];unfold indep at q ⊢;split at q
 ·rename_i oj oi h1 h2;simp only[Bool.and_eq_true]at q ⊢;exact⟨q.1,qB hn hA (dU j) (dU i) q.2⟩
 cases q
theorem tk{σ:St}:∀{l:List (Nat×ae)},(∀p∈l,∃x,σ.get p.1=some x∧Sub σ.objs x p.2)->gj σ l
 | [],_=>trivial
 | (s,y)::r,h=>⟨h (s,y) (by simp),tk fun p hp=>h p (by simp[hp])⟩
theorem pN{P:Program}{kb:Nat}{c:Code}{Q:dR->St->Prop}{n:Nat}{ba:List (Nat×ae)}{O:List ak}{o:ak}(s:Nat){x:ae}(y:ae)(cN:List (Nat×ae))(hx:look ba s=some x)
  (hp:¬o.aF) (hl:o.live) (hf:cw (O++[o]) O.length x y) (uD:kb<=O.length) (hs:∀p∈cN,look (bu s y ba) p.1=some p.2) (bC:∀o∈O,o.upto O.length) (o5:∀p∈cN,p.2.upto O.length)
  (h:cc P kb c Q ⟨n,cN,O⟩):cc P kb c Q ⟨n,ba,O++[o]⟩:=by
 refine aH s O.length (o:=o) y (gF _ _) hp hl hx hf ?_;rw[qM];have jZ:∀s x,look cN s=some x->(s,x)∈cN:=fun s x hl=>nV hl;exact ov O.length (by simp) uD cN (by rw[sd];exact bC) (tk fun p hp=>⟨p.2,hs p hp,Sub.refl _⟩) (fun k x hk=>o5 (k,x) (jZ k x hk)) (by rw[sd];exact h)
theorem aO{P:Program}{kb:Nat}{c:Code}{Q:dR->St->Prop}{n:Nat}{ba:List (Nat×ae)}{O:List ak}{cs:List ae}(s:Nat)(ds:List ae)(cN:List (Nat×ae))(hx:look ba s=some (.mp O.length 0))
  (nk:cs.map ae.bk=ds) (uD:kb<=O.length) (hs:∀p∈cN,look (bu s (.ip none ds) ba) p.1=some p.2) (bC:∀o∈O,o.upto O.length) (o5:∀p∈cN,p.2.upto O.length)
  (h:cc P kb c Q ⟨n,cN,O⟩):cc P kb c Q ⟨n,ba,O++[.cells cs]⟩ :=
 pN s (.ip none ds) cN hx (by simp[ak.aF]) trivial (cw.mp (cs:=cs) (gF _ _) (by rw[List.drop_zero,nk])) uD hs bC o5 h
theorem vB{P:Program}{kb:Nat}{c:Code}{Q:dR->St->Prop}{n:Nat}{ba:List (Nat×ae)}{O:List ak}{cs:List ae}(s:Nat){len cap sz:Nat}(xs:List ae)(cN:List (Nat×ae))(hx:look ba s=some (.ms O.length 0 len cap))
  (cU:∀x∈xs,x.cells.length=sz) (hlen:xs.length=len) (hd:(cs.take (len*sz)).map ae.bk=ao xs) (uD:kb<=O.length) (hs:∀p∈cN,look (bu s (.aE sz xs .sh) ba) p.1=some p.2) (bC:∀o∈O,o.upto O.length) (o5:∀p∈cN,p.2.upto O.length)
  (h:cc P kb c Q ⟨n,cN,O⟩):cc P kb c Q ⟨n,ba,O++[.cells cs]⟩ :=
 pN s (.aE sz xs .sh) cN hx (by simp[ak.aF]) trivial (cw.ms (cs:=cs) (gF _ _) cU hlen (by rw[List.drop_zero,hd])) uD hs bC o5 h
theorem bY{P:Program}{kb:Nat}{c:Code}{Q:dR->St->Prop}{n:Nat}{ba:List (Nat×ae)}{O X:List ak}{cs:List ae}(s k:Nat)(ds:List ae)(hX:X[k]?=some (.cells cs))(hx:look ba s=some (.mp (O.length+k) 0))
  (nk:cs.map ae.bk=ds) (h:cc P kb c Q ⟨n,bu s (.ip none ds) ba,O++X.set k .gone⟩):cc P kb c Q ⟨n,ba,O++X⟩:=by
 have fA:(O++X)[O.length+k]?=some (.cells cs):=by
  rw[List.getElem?_append_right (by omega),Nat.add_sub_cancel_left,hX]
 refine aH s (O.length+k) (o:=.cells cs) (.ip none ds) fA (by simp[ak.aF]) trivial hx (cw.mp (cs:=cs) fA (by rw[List.drop_zero,nk])) ?_;rw[List.set_append_right _ _ (by omega),Nat.add_sub_cancel_left];exact h
theorem BH{P:Program}{kb:Nat}{c:Code}{Q:dR->St->Prop}{n:Nat}{ba:List (Nat×ae)}{O X:List ak}(j:Nat)(Y:List ak)(cN:List (Nat×ae))(hY:X.take j=Y)(hj:j<=X.length)(uD:kb<=O.length)(hs:∀p∈cN,look ba p.1=some p.2)
  (hO:∀o∈O,o.upto (O.length+j)) (hX:∀o∈Y,o.upto (O.length+j)) (o5:∀p∈cN,p.2.upto (O.length+j)) (h:cc P kb c Q ⟨n,cN,O++Y⟩):cc P kb c Q ⟨n,ba,O++X⟩:=by
 have e:(O++X).take (O.length+j)=O++Y:=by
  rw[List.take_append,List.take_of_length_le (by omega),Nat.add_sub_cancel_left,hY]
 refine ov (O.length+j) (by simp;omega) (by omega) cN ?_ (tk fun p hp=>⟨p.2,hs p hp,Sub.refl _⟩) (fun k x hk=>o5 (k,x) (nV hk)) (by rw[e];exact h);rw[e];intro o ho;rcases List.mem_append.1 ho with q|q
 ·exact hO o q
 exact hX o q
end Go.Av
namespace Go.Proofs.Ytkhnjeblbiocaaa
open Go.Av
def It:=And.intro @Hb <|
 And.intro @Hc <|
 And.intro @Hd <|
 And.intro @He <|
 And.intro @Hf <|
 And.intro @Hg <|
 And.intro @Fe <|
 And.intro @Ff <|
 And.intro @Fg <|
 And.intro @Fh <|
 And.intro @Fk <|
 And.intro @qN <|
 And.intro @Fl <|
 And.intro @Fm <|
 And.intro @Fo <|
 And.intro @Fp <|
 And.intro @qO <|
 And.intro @Fq <|
 And.intro @Fs <|
 And.intro @Fu <|
 And.intro @tu <|
 And.intro @tv <|
 And.intro @Fv <|
 And.intro @Fw <|
 And.intro @Fx <|
 And.intro @Fy <|
 And.intro @Fz <|
 And.intro @FA <|
 And.intro @CQ <|
 And.intro @CR <|
 And.intro @CS <|
 And.intro @CT <|
 And.intro @CU <|
 And.intro @CV <|
 And.intro @CW <|
 And.intro @CX <|
 And.intro @CY <|
 And.intro @CZ <|
 And.intro @C1 <|
 And.intro @C3 <|
 And.intro @xK <|
 And.intro @C4 <|
 And.intro @C5 <|
 And.intro @C6 <|
 And.intro @C7 <|
 And.intro @C8 <|
 And.intro @C9 <|
 And.intro @C' <|
 And.intro @Da <|
 And.intro @Db <|
 And.intro @bE.al <|
 And.intro @bE.fold <|
 And.intro @bE.an <|
 And.intro @bE.dx <|
 And.intro @bE.aN <|
 And.intro @bE.ai <|
 And.intro @bE.av <|
 And.intro @Edge.al <|
 And.intro @Edge.fold <|
 And.intro @Edge.an <|
 And.intro @Edge.dx <|
 And.intro @Edge.aN <|
 And.intro @Edge.ai <|
 And.intro @Edge.av <|
 And.intro @Term.al <|
 And.intro @Term.fold <|
 And.intro @Term.an <|
 And.intro @Term.dx <|
 And.intro @Term.aN <|
 And.intro @Term.ai <|
 And.intro @Term.av <|
 And.intro @Block.al <|
 And.intro @Block.fold <|
 And.intro @Block.an <|
 And.intro @Block.dx <|
 And.intro @Block.aN <|
 And.intro @Block.ai <|
 And.intro @Block.av <|
 And.intro @Func.al <|
 And.intro @Func.fold <|
 And.intro @Func.an <|
 And.intro @Func.dx <|
 And.intro @Func.aN <|
 And.intro @Func.ai <|
 And.intro @Func.av <|
 And.intro @bR.al <|
 And.intro @bR.fold <|
 And.intro @bR.an <|
 And.intro @bR.dx <|
 And.intro @bR.aN <|
 And.intro @bR.ai <|
 And.intro @bR.av <|
 And.intro @SV.iu <|
 And.intro @SV.al <|
 And.intro @SV.fold <|
 And.intro @SV.an <|
 And.intro @SV.dx <|
 And.intro @SV.av <|
 And.intro @SV.xO <|
 And.intro @cx <|
 And.intro @xY <|
 And.intro @y3 <|
 And.intro @az <|
 And.intro @Ik <|
 And.intro @Ap <|
 And.intro @j3 <|
 And.intro @xn <|
 And.intro @u9 <|
 And.intro @AJ <|
 And.intro @AL <|
 And.intro @AK <|
 And.intro @AU <|
 And.intro @List.take_length.{0} <|
 And.intro @List.append_assoc.{0} <|
 And.intro @List.cons_append.{0} <|
 @List.nil_append.{0}
def zp:=And.intro Is <|And.intro @ne_eq.{1} <|And.intro @implies_true.{0} <|And.intro @implies_true.{1} <|It
def zt:=And.intro and_true <|And.intro true_and and_self
def zu:=And.intro @bE.aN <|And.intro @bE.ai <|And.intro @Edge.aN <|And.intro @Edge.ai <|And.intro @Term.aN <|And.intro @Term.ai <|And.intro @Block.aN <|And.intro @Block.ai <|And.intro @Func.aN <|And.intro @Func.ai <|And.intro @bR.aN <|And.intro @bR.ai <| @az
theorem j1{kb:Nat}{id:Nat}{l:List Oper}{draw:Bool}{Q:dR->St->Prop}{σ:St}(h:eV Try.prog aW ⟨false,false⟩ l 0 [] σ [] fun τ ks=>gy draw (fun _=>eH l.toArray ks.reverse)∧At τ (Q .norm)):cc Try.prog kb (.region id l.toArray draw) Q σ:=g7 _ hT hm h
theorem aX{kb:Nat}{id:Nat}{l:List Oper}{draw:Bool}{Q:dR->St->Prop}{σ:St}{x:Code}(h:eV Try.prog aW ⟨false,false⟩ l 0 [] σ [] fun τ ks=>gy draw (fun _=>eH l.toArray ks.reverse)∧At τ (bL Try.prog kb x Q .norm)):cc Try.prog kb (.seq (.region id l.toArray draw) x) Q σ:=aK (j1 h)
theorem dd{kb:Nat}{id:Nat}{l:List Oper}{draw:Bool}{Q:dR->St->Prop}{σ:St}{x y:Code}(h:eV Try.prog aW ⟨false,false⟩ l 0 [] σ [] fun τ ks=>gy draw (fun _=>eH l.toArray ks.reverse)∧At τ (bL Try.prog kb x (bL Try.prog kb y Q) .norm)):cc Try.prog kb (.seq (.seq (.region id l.toArray draw) x) y) Q σ:=aK (aX h)
theorem J4{kb:Nat}{id:Nat}{l:List Oper}{draw:Bool}{Q:dR->St->Prop}{σ:St}{x y z:Code}(h:eV Try.prog aW ⟨false,false⟩ l 0 [] σ [] fun τ ks=>gy draw (fun _=>eH l.toArray ks.reverse)∧At τ (bL Try.prog kb x (bL Try.prog kb y (bL Try.prog kb z Q)) .norm)):cc Try.prog kb (.seq (.seq (.seq (.region id l.toArray draw) x) y) z) Q σ:=aK (dd h)
theorem J5{kb:Nat}{id:Nat}{l:List Oper}{draw:Bool}{Q:dR->St->Prop}{σ:St}(h:eV Try.prog aW ⟨true,false⟩ l 0 [] σ [] fun τ ks=>gy draw (fun _=>eH l.toArray ks.reverse)∧At τ (Q .norm)):cc Try.prog kb (.region id l.toArray draw) Q σ:=g7 _ hT hm h
theorem Jd{kb:Nat}{id:Nat}{l:List Oper}{draw:Bool}{Q:dR->St->Prop}{σ:St}{x:Code}(h:eV Try.prog aW ⟨true,false⟩ l 0 [] σ [] fun τ ks=>gy draw (fun _=>eH l.toArray ks.reverse)∧At τ (bL Try.prog kb x Q .norm)):cc Try.prog kb (.seq (.region id l.toArray draw) x) Q σ:=aK (J5 h)
theorem Kv{kb:Nat}{id:Nat}{l:List Oper}{draw:Bool}{Q:dR->St->Prop}{σ:St}{x y:Code}(h:eV Try.prog aW ⟨true,false⟩ l 0 [] σ [] fun τ ks=>gy draw (fun _=>eH l.toArray ks.reverse)∧At τ (bL Try.prog kb x (bL Try.prog kb y Q) .norm)):cc Try.prog kb (.seq (.seq (.region id l.toArray draw) x) y) Q σ:=aK (Jd h)
theorem FW{kb:Nat}{id:Nat}{l:List Oper}{draw:Bool}{Q:dR->St->Prop}{σ:St}(h:eV Try.prog aW ⟨true,true⟩ l 0 [] σ [] fun τ ks=>gy draw (fun _=>eH l.toArray ks.reverse)∧At τ (Q .norm)):cc Try.prog kb (.region id l.toArray draw) Q σ:=g7 _ hT hm h
theorem J6{kb:Nat}{id:Nat}{l:List Oper}{draw:Bool}{Q:dR->St->Prop}{σ:St}{x:Code}(h:eV Try.prog aW ⟨true,true⟩ l 0 [] σ [] fun τ ks=>gy draw (fun _=>eH l.toArray ks.reverse)∧At τ (bL Try.prog kb x Q .norm)):cc Try.prog kb (.seq (.region id l.toArray draw) x) Q σ:=aK (FW h)
theorem KA{kb:Nat}{id:Nat}{l:List Oper}{draw:Bool}{Q:dR->St->Prop}{σ:St}{x y:Code}(h:eV Try.prog aW ⟨true,true⟩ l 0 [] σ [] fun τ ks=>gy draw (fun _=>eH l.toArray ks.reverse)∧At τ (bL Try.prog kb x (bL Try.prog kb y Q) .norm)):cc Try.prog kb (.seq (.seq (.region id l.toArray draw) x) y) Q σ:=aK (J6 h)
theorem aP{kb:Nat}{c:Operand}{x y:Code}{Q:dR->St->Prop}{σ:St}{b:Bool}(hc:σ.ev c=some (.v (.bool b)))(ht:b=true->cc Try.prog kb x Q σ)(hf:b=false->cc Try.prog kb y Q σ):cc Try.prog kb (.cond c x y) Q σ:=lM hc ht hf
theorem gW{kb:Nat}{c:Operand}{x y z:Code}{Q:dR->St->Prop}{σ:St}{b:Bool}(hc:σ.ev c=some (.v (.bool b)))(ht:b=true->cc Try.prog kb x (bL Try.prog kb z Q) σ)(hf:b=false->cc Try.prog kb y (bL Try.prog kb z Q) σ):cc Try.prog kb (.seq (.cond c x y) z) Q σ:=aK (lM hc ht hf)
theorem Ks{kb:Nat}{c:Operand}{x y z w:Code}{Q:dR->St->Prop}{σ:St}{b:Bool}(hc:σ.ev c=some (.v (.bool b)))(ht:b=true->cc Try.prog kb x (bL Try.prog kb z (bL Try.prog kb w Q)) σ)(hf:b=false->cc Try.prog kb y (bL Try.prog kb z (bL Try.prog kb w Q)) σ) :
  cc Try.prog kb (.seq (.seq (.cond c x y) z) w) Q σ:=aK (aK (lM hc ht hf))
theorem ah{kb:Nat}{c:Code}{Q:dR->St->Prop}{σ:St}(h:cc Try.prog kb c Q σ):At σ (bL Try.prog kb c Q .norm):=h
theorem cA{kb:Nat}{c:Code}{Q:dR->St->Prop}{σ:St}{wH:Nat}(h:cc Try.prog kb c Q σ):cc Try.prog wH .skip (bL Try.prog kb c Q) σ:=a8 h
theorem Kn{kb:Nat}{c:Code}{Q:dR->St->Prop}{σ:St}{b0:Nat}(h:cc Try.prog kb c Q σ):At σ (bK b0 (bL Try.prog kb c Q) .norm):=h
theorem jR{kb:Nat}{c:Code}{Q:dR->St->Prop}{σ:St}{b0:Nat}{wH:Nat}(h:cc Try.prog kb c Q σ):cc Try.prog wH .skip (bK b0 (bL Try.prog kb c Q)) σ:=a8 h
theorem Ko{kb:Nat}{c:Code}{Q:dR->St->Prop}{σ:St}{b0:Nat}{b1:Nat}(h:cc Try.prog kb c Q σ):At σ (bK b1 (bK b0 (bL Try.prog kb c Q)) .norm):=h
theorem Hw{kb:Nat}{c:Code}{Q:dR->St->Prop}{σ:St}{b0:Nat}{b1:Nat}{wH:Nat}(h:cc Try.prog kb c Q σ):cc Try.prog wH .skip (bK b1 (bK b0 (bL Try.prog kb c Q))) σ:=a8 h
theorem Kp{kb:Nat}{c:Code}{Q:dR->St->Prop}{σ:St}{b0:Nat}{b1:Nat}{b2:Nat}(h:cc Try.prog kb c Q σ):At σ (bK b2 (bK b1 (bK b0 (bL Try.prog kb c Q))) .norm):=h
theorem Kq{kb:Nat}{c:Code}{Q:dR->St->Prop}{σ:St}{b0:Nat}{b1:Nat}{b2:Nat}{wH:Nat}(h:cc Try.prog kb c Q σ):cc Try.prog wH .skip (bK b2 (bK b1 (bK b0 (bL Try.prog kb c Q)))) σ:=a8 h
theorem fV{ι:Type}{L:ι->St}{μ:ι->Nat}{i:ι}{Q:dR->St->Prop}{σ:St}(h:∃j,μ j<μ i∧bg σ (L j)):At σ (fO L μ i Q .norm):=h
theorem Kw{ι:Type}{L:ι->St}{μ:ι->Nat}{i:ι}{Q:dR->St->Prop}{σ:St}{wH:Nat}(h:∃j,μ j<μ i∧bg σ (L j)):cc Try.prog wH .skip (fO L μ i Q) σ:=a8 h
theorem Jc{ι:Type}{L:ι->St}{μ:ι->Nat}{i:ι}{Q:dR->St->Prop}{σ:St}{b0:Nat}(h:∃j,μ j<μ i∧bg σ (L j)):At σ (bK b0 (fO L μ i Q) .norm):=h
theorem Kx{ι:Type}{L:ι->St}{μ:ι->Nat}{i:ι}{Q:dR->St->Prop}{σ:St}{b0:Nat}{wH:Nat}(h:∃j,μ j<μ i∧bg σ (L j)):cc Try.prog wH .skip (bK b0 (fO L μ i Q)) σ:=a8 h
theorem Kt{ι:Type}{L:ι->St}{μ:ι->Nat}{i:ι}{Q:dR->St->Prop}{σ:St}{b0:Nat}{b1:Nat}(h:∃j,μ j<μ i∧bg σ (L j)):At σ (bK b1 (bK b0 (fO L μ i Q)) .norm):=h
theorem Ky{ι:Type}{L:ι->St}{μ:ι->Nat}{i:ι}{Q:dR->St->Prop}{σ:St}{b0:Nat}{b1:Nat}{wH:Nat}(h:∃j,μ j<μ i∧bg σ (L j)):cc Try.prog wH .skip (bK b1 (bK b0 (fO L μ i Q))) σ:=a8 h
theorem Ku{ι:Type}{L:ι->St}{μ:ι->Nat}{i:ι}{Q:dR->St->Prop}{σ:St}{b0:Nat}{b1:Nat}{b2:Nat}(h:∃j,μ j<μ i∧bg σ (L j)):At σ (bK b2 (bK b1 (bK b0 (fO L μ i Q))) .norm):=h
theorem Kz{ι:Type}{L:ι->St}{μ:ι->Nat}{i:ι}{Q:dR->St->Prop}{σ:St}{b0:Nat}{b1:Nat}{b2:Nat}{wH:Nat}(h:∃j,μ j<μ i∧bg σ (L j)):cc Try.prog wH .skip (bK b2 (bK b1 (bK b0 (fO L μ i Q)))) σ:=a8 h
end Go.Proofs.Ytkhnjeblbiocaaa
section
/-
  Short forms of steps that occur often; the packed texts of a claim use them (squeeze.py).
-/
namespace Go.Proofs.Ytkhnjeblbiocaaa
open Go.Av

theorem yy (aW : eo) (rv : List ResultVar) (sh : Bool) (k : Nat) (R : ae -> List ak -> Prop) (σ : St) : xl aW rv sh k R .ret σ = on (cX aW σ rv) fun rs => k <= σ.objs.length ∧ (∀ o ∈ σ.objs.take k, o.upto k) ∧ (eC (if sh then rs.map ae.share else rs)).upto k ∧ R (eC (if sh then rs.map ae.share else rs)) (σ.objs.take k) := rfl
theorem wX (aW : eo) (rv : List ResultVar) (sh : Bool) (k : Nat) (R : ae -> List ak -> Prop) (σ : St) : xl aW rv sh k R .norm σ = on (cX aW σ rv) fun rs => k <= σ.objs.length ∧ (∀ o ∈ σ.objs.take k, o.upto k) ∧ (eC (if sh then rs.map ae.share else rs)).upto k ∧ R (eC (if sh then rs.map ae.share else rs)) (σ.objs.take k) := rfl
theorem yt : eC [] = .df [] := rfl
theorem yu (x y : ae) (r : List ae) : eC (x :: y :: r) = .df (x :: y :: r) := rfl
theorem Ir (n : Nat) (x : Value) : ae.upto n (.v x) = True := rfl
def zr := And.intro @yy <|And.intro @wX <|And.intro @cX.eq_1 <|And.intro @cX.eq_2 <|And.intro @fv.eq_1 <|And.intro @fv.eq_2 <|And.intro @eC.eq_1 <|And.intro @yt <|And.intro @yu <|
  And.intro @ae.upto.eq_1 <|And.intro @ae.upto.eq_2 <|And.intro @ae.upto.eq_3 <|And.intro @ae.upto.eq_4 <|And.intro @ae.upto.eq_5 <|And.intro @ae.upto.eq_6 <|And.intro @ae.upto.eq_7 <|And.intro @ae.upto.eq_8 <|And.intro @ae.upto.eq_9 <|And.intro @ae.upto.eq_10 <|And.intro @ae.upto.eq_11 <|And.intro @ae.upto.eq_12 <|And.intro @ae.upto.eq_13 <|
  And.intro @Nat.zero_le <|And.intro @Nat.le_refl <|And.intro @Nat.le_add_right <|And.intro @cL <|And.intro @cf @cy
def zc := And.intro @gj.eq_1 <|And.intro @gj.eq_2 <|And.intro @exists_eq_left'.{1} <|And.intro @Option.some.injEq.{0} <|And.intro @sub_self <|And.intro @and_assoc <|And.intro true_and and_true

theorem ab {p q : Prop} [Decidable p] (h : decide p = true) (n : ¬p) : q := absurd (of_decide_eq_true h) n
theorem af {p q : Prop} [Decidable p] (h : decide p = false) (n : p) : q := absurd n (of_decide_eq_false h)
theorem ob {a : Array Oper} {k : List Kind} (h : l5 a k = true) : eH a k := h
theorem zf {f : FuncId} {fn : Go.Func} {c : Code} {O : List ak} {args : List ae} {R : ae -> List ak -> Prop} {m : Nat} (sh : Bool) (k : Nat) (hf : Try.prog.funcs[f]? = some fn) (hm : fn.ntmps = m) (h : cc Try.prog O.length c (xl aW fn.results.toList sh k R) ⟨m, ax 0 args, O⟩) (hb : fn.body = some c := by rfl)
    (qu : (fn.name == "runtime.NumGoroutine") = false := by kernel_rfl) (hn : args.length <= m := by simp) (hk : O.length <= k := by simp) : bc Try.prog f O args R := by
  subst hm;exact gb hT sh k hf hb qu hn hk h
theorem zq {σ τ : St} (h1 : σ.n = τ.n) (h3 : gj σ τ.ba) (h2 : σ.objs = τ.objs) : bg σ τ := ⟨h1, h2, h3⟩

theorem dc {kb : Nat} {id : Nat} {l : List Oper} {draw : Bool} {Q : dR -> St -> Prop} {σ : St} {q : Prop} (h : q) (e : (eV Try.prog aW ⟨false, false⟩ l 0 [] σ [] fun τ ks => gy draw (fun _ => eH l.toArray ks.reverse) ∧ At τ (Q .norm)) = q := by simp -dsimp only[simprocAttr, ↓aa, zp]; rfl) : cc Try.prog kb (.region id l.toArray draw) Q σ := j1 (e ▸ h)
theorem aA {kb : Nat} {id : Nat} {l : List Oper} {draw : Bool} {Q : dR -> St -> Prop} {σ : St} {x : Code} {q : Prop} (h : q) (e : (eV Try.prog aW ⟨false, false⟩ l 0 [] σ [] fun τ ks => gy draw (fun _ => eH l.toArray ks.reverse) ∧ At τ (bL Try.prog kb x Q .norm)) = q := by simp -dsimp only[simprocAttr, ↓aa, zp]; rfl) : cc Try.prog kb (.seq (.region id l.toArray draw) x) Q σ := aX (e ▸ h)
theorem b8 {kb : Nat} {id : Nat} {l : List Oper} {draw : Bool} {Q : dR -> St -> Prop} {σ : St} {x y : Code} {q : Prop} (h : q) (e : (eV Try.prog aW ⟨false, false⟩ l 0 [] σ [] fun τ ks => gy draw (fun _ => eH l.toArray ks.reverse) ∧ At τ (bL Try.prog kb x (bL Try.prog kb y Q) .norm)) = q := by simp -dsimp only[simprocAttr, ↓aa, zp]; rfl) : cc Try.prog kb (.seq (.seq (.region id l.toArray draw) x) y) Q σ := dd (e ▸ h)
theorem Kr {kb : Nat} {id : Nat} {l : List Oper} {draw : Bool} {Q : dR -> St -> Prop} {σ : St} {x y z : Code} {q : Prop} (h : q) (e : (eV Try.prog aW ⟨false, false⟩ l 0 [] σ [] fun τ ks => gy draw (fun _ => eH l.toArray ks.reverse) ∧ At τ (bL Try.prog kb x (bL Try.prog kb y (bL Try.prog kb z Q)) .norm)) = q := by simp -dsimp only[simprocAttr, ↓aa, zp]; rfl) : cc Try.prog kb (.seq (.seq (.seq (.region id l.toArray draw) x) y) z) Q σ := J4 (e ▸ h)
theorem cE {kb : Nat} {c : Operand} {x y : Code} {Q : dR -> St -> Prop} {σ : St} (hc : σ.ev c = some (.v (.bool false))) (hf : cc Try.prog kb y Q σ) : cc Try.prog kb (.cond c x y) Q σ := lM hc (fun h => by cases h) fun _ => hf
theorem Iv {kb : Nat} {c : Operand} {x y z : Code} {Q : dR -> St -> Prop} {σ : St} (hc : σ.ev c = some (.v (.bool false))) (hf : cc Try.prog kb y (bL Try.prog kb z Q) σ) : cc Try.prog kb (.seq (.cond c x y) z) Q σ := aK (cE hc hf)
theorem KB {kb : Nat} {c : Operand} {x y z w : Code} {Q : dR -> St -> Prop} {σ : St} (hc : σ.ev c = some (.v (.bool false))) (hf : cc Try.prog kb y (bL Try.prog kb z (bL Try.prog kb w Q)) σ) : cc Try.prog kb (.seq (.seq (.cond c x y) z) w) Q σ := aK (Iv hc hf)
theorem cS {kb : Nat} {c : Operand} {x y : Code} {Q : dR -> St -> Prop} {σ : St} (hc : σ.ev c = some (.v (.bool true))) (ht : cc Try.prog kb x Q σ) : cc Try.prog kb (.cond c x y) Q σ := lM hc (fun _ => ht) fun h => by cases h
theorem J7 {kb : Nat} {c : Operand} {x y z : Code} {Q : dR -> St -> Prop} {σ : St} (hc : σ.ev c = some (.v (.bool true))) (ht : cc Try.prog kb x (bL Try.prog kb z Q) σ) : cc Try.prog kb (.seq (.cond c x y) z) Q σ := aK (cS hc ht)
theorem KC {kb : Nat} {c : Operand} {x y z w : Code} {Q : dR -> St -> Prop} {σ : St} (hc : σ.ev c = some (.v (.bool true))) (ht : cc Try.prog kb x (bL Try.prog kb z (bL Try.prog kb w Q)) σ) : cc Try.prog kb (.seq (.seq (.cond c x y) z) w) Q σ := aK (J7 hc ht)
theorem zi {id : FuncId} {args : List ae} {r : ae} {K : ae -> Prop} {B q : Prop} (hc : bw Try.prog id args r) (h : q) (hu : aw 0 args := by simp only[aw, ae.upto, zt, zu]) (e : K r = q := by simp -dsimp only[simprocAttr, ↓aa, zp]; rfl) : (∃ r, bw Try.prog id args r ∧ aw 0 args ∧ rN fun _ => K r) ∨ B := .inl ⟨r, hc, hu, au (e ▸ h)⟩
theorem zj {p q : Prop} (h : q) (e : p = q := by simp -dsimp only[simprocAttr, ↓aa, zp]; rfl) : p := e ▸ h
end Go.Proofs.Ytkhnjeblbiocaaa
end
namespace Go.Av
section
variable {P:Program} {w:World} {H:Type} {enc:TypeId×Value->H} {sp:Nat->Bool} {held:Bool}
theorem tM(hl:laidOutB P=true){ts:List TypeId}(hc:BT P ts=true){t:TypeId}(ht:t∈ts){v:Value}{d:DataW H}{ps:List MemPlace}(h:DataW.Trod enc P w 0 sp held t v d ps)
  (hv:∃vs,v=.agg vs) (hw:∀m∈d.weights P t,m<=reachBytes):∃n dC,kQ P n t dC∧RV (g0 w) (.agg dC) v:=by
 obtain⟨vs,rfl⟩:=hv;obtain⟨n,h⟩:=h;obtain⟨dC,h1,h3,h4,h5⟩:=pb hl hc n t _ (d,ps) ht h hw;exact⟨n,dC,h1,.agg (by simpa[Value.cells]using h3.symm) h4 fun i c u hc hu=>h5 i c u hc (by simpa[Value.cells]using hu)⟩
theorem wP{t:TypeId}{fs:Array Field}{r:Reach}{b:Nat}{v:Value}(hu:P.underlying t=some (.struct fs))(h:Value.okWide P w r b t v):∃vs,v=.agg vs:=by
 cases v<;>first|exact⟨_,rfl⟩|simp[Value.okWide,hu,Cell.okWide,Cell.ok]at h
end
end Go.Av
namespace Go.Proofs.Ytkhnjeblbiocaaa
open Go.Av
theorem Ej:Try.prog.cellsOf 3=1:=by kernel_rfl
theorem BQ:Try.prog.cellsOf 46=4:=by kernel_rfl
theorem BR:Try.prog.cellsOf 48=2:=by kernel_rfl
theorem BP:Try.prog.cellsOf 44=7:=by kernel_rfl
theorem BO:Try.prog.cellsOf 37=2:=by kernel_rfl
theorem Ei:Try.prog.bytesOf 3=8:=by kernel_rfl
theorem BM:Try.prog.bytesOf 46=48:=by kernel_rfl
theorem BN:Try.prog.bytesOf 48=32:=by kernel_rfl
theorem BL:Try.prog.bytesOf 44=120:=by kernel_rfl
theorem BK:Try.prog.bytesOf 37=32:=by kernel_rfl
theorem Hx:tL Try.prog 3=false:=by kernel_rfl
theorem F6:tL Try.prog 46=true:=by kernel_rfl
theorem F7:tL Try.prog 48=true:=by kernel_rfl
theorem F5:tL Try.prog 44=true:=by kernel_rfl
theorem F4:tL Try.prog 37=true:=by kernel_rfl
theorem gf{n:Nat}{x:List ae}(h:kQ Try.prog n 3 x):∃m:Int,x=[aI m]∧gX m:=by
 obtain⟨m,e,h1⟩:=h.int Try.underlying3;exact⟨m,e,h1⟩
theorem mz{n:Nat}{x:List ae}(h:kQ Try.prog n 26 x):∃l:List Int,x=[a6 l]∧nI l∧l.length<=2 ^ 47:=by
 obtain⟨l,e,hb,hq⟩:=h.uO (f:=aI) (Q:=gX) Try.underlying26 fun j hj y hy=>by
  obtain⟨m,rfl,hm⟩:=gf hy;exact⟨m,by rw[xH,Hx];rfl,hm⟩
 rw[Ei,reachBytes]at hb;exact⟨l,by rw[e,Ej],hq,by omega⟩
theorem Ao{n:Nat}{x:List ae}(h:kQ Try.prog n 46 x):∃i:bE,x=i.enc.cells∧i.fit:=by
 obtain⟨m,rfl,hc⟩:=h.struct Try.underlying46;simp only[List.map_cons,List.map_nil,Bo]at hc;obtain⟨a,b,rfl,h1,c,d,rfl,h2,e,f,rfl,h3,g,k,rfl,h4,rfl⟩:=hc;obtain⟨x1,rfl,q1⟩:=gf h1;obtain⟨x2,rfl,q2⟩:=gf h2;obtain⟨x3,rfl,q3⟩:=gf h3;obtain⟨x4,rfl,q4,q5⟩:=mz h4;exact⟨⟨x1,x2,x3,x4⟩,rfl,q1,q2,q3,q4,q5⟩
theorem yn{n:Nat}{x:List ae}(h:kQ Try.prog n 39 x):∃l:List bE,x=[bD l]∧(∀i∈l,i.fit)∧l.length<=2 ^ 47:=by
 obtain⟨l,e,hb,hq⟩:=h.uO (f:=bE.enc) (Q:=bE.fit) Try.underlying39 fun j hj y hy=>by
  obtain⟨m,rfl,hm⟩:=Ao hy;exact⟨m,by rw[xH,F6];rfl,hm⟩
 rw[BM,reachBytes]at hb;exact⟨l,by rw[e,BQ],hq,by omega⟩
theorem xZ{n:Nat}{x:List ae}(h:kQ Try.prog n 48 x):∃i:Edge,x=i.enc.cells∧i.fit:=by
 obtain⟨m,rfl,hc⟩:=h.struct Try.underlying48;simp only[List.map_cons,List.map_nil,Bo]at hc;obtain⟨a,b,rfl,h1,g,k,rfl,h4,rfl⟩:=hc;obtain⟨x1,rfl,q1⟩:=gf h1;obtain⟨x4,rfl,q4,q5⟩:=mz h4;exact⟨⟨x1,x4⟩,rfl,q1,q4,q5⟩
theorem vU{n:Nat}{x:List ae}(h:kQ Try.prog n 40 x):∃l:List Edge,x=[aJ l]∧(∀i∈l,i.fit)∧l.length<=2 ^ 47:=by
 obtain⟨l,e,hb,hq⟩:=h.uO (f:=Edge.enc) (Q:=Edge.fit) Try.underlying40 fun j hj y hy=>by
  obtain⟨m,rfl,hm⟩:=xZ hy;exact⟨m,by rw[xH,F7];rfl,hm⟩
 rw[BN,reachBytes]at hb;exact⟨l,by rw[e,BR],hq,by omega⟩
theorem yL{n:Nat}{x:List ae}(h:kQ Try.prog n 42 x):∃t:Term,x=t.enc.cells∧t.fit:=by
 obtain⟨m,rfl,hc⟩:=h.struct Try.underlying42;simp only[List.map_cons,List.map_nil,Bo]at hc;obtain⟨a,b,rfl,h1,c,d,rfl,h2,e,f,rfl,h3,g,k,rfl,h4,g',k',rfl,h5,rfl⟩:=hc;obtain⟨x1,rfl,q1⟩:=gf h1;obtain⟨x2,rfl,q2⟩:=gf h2;obtain⟨x3,rfl,q3⟩:=gf h3;obtain⟨x4,rfl,q4,q5⟩:=mz h4;obtain⟨x5,rfl,q6,q7⟩:=vU h5;exact⟨⟨x1,x2,x3,x4,x5⟩,rfl,q1,q2,q3,q4,q5,q7,q6⟩
theorem vD{n:Nat}{x:List ae}(h:kQ Try.prog n 44 x):∃b:Block,x=b.enc.cells∧b.fit:=by
 obtain⟨m,rfl,hc⟩:=h.struct Try.underlying44;simp only[List.map_cons,List.map_nil,Bo]at hc;obtain⟨a,b,rfl,h1,c,d,rfl,h2,e,f,rfl,h3,rfl⟩:=hc;obtain⟨x1,rfl,q1,q2⟩:=mz h1;obtain⟨x2,rfl,q3,q4⟩:=yn h2;obtain⟨x3,rfl,q5⟩:=yL h3;exact⟨⟨x1,x2,x3⟩,rfl,q1,q2,q4,q3,q5⟩
theorem rU{n:Nat}{x:List ae}(h:kQ Try.prog n 37 x):∃f:Func,x=f.enc.cells∧f.fit:=by
 obtain⟨m,rfl,hc⟩:=h.struct Try.underlying37;simp only[List.map_cons,List.map_nil,Bo]at hc;obtain⟨a,b,rfl,h1,c,d,rfl,h2,rfl⟩:=hc;obtain⟨x1,rfl,q1⟩:=gf h1;obtain⟨l,rfl,hb,hq⟩:=h2.uO (f:=Block.enc) (Q:=Block.fit) Try.underlying35 fun j hj y hy=>by
  obtain⟨m,rfl,hm⟩:=vD hy;exact⟨m,by rw[xH,F5];rfl,hm⟩
 rw[BL,reachBytes]at hb;exact⟨⟨x1,l⟩,by rw[BP];rfl,q1,by show l.length<=_;omega,hq⟩
theorem yM{n:Nat}{x:List ae}(h:kQ Try.prog n 24 x):∃u:bR,.agg x=u.enc∧u.fit:=by
 obtain⟨m,rfl,hc⟩:=h.struct Try.underlying24;simp only[List.map_cons,List.map_nil,Bo]at hc;obtain⟨a,b,rfl,h1,c,d,rfl,h2,rfl⟩:=hc;obtain⟨l,rfl,hb,hq⟩:=h1.uO (f:=Func.enc) (Q:=Func.fit) Try.underlying22 fun j hj y hy=>by
  obtain⟨m,rfl,hm⟩:=rU hy;exact⟨m,by rw[xH,F4];rfl,hm⟩
 obtain⟨x1,rfl,q1⟩:=gf h2;rw[BK,reachBytes]at hb;exact⟨⟨l,x1⟩,by rw[BO];rfl,q1,by show l.length<=_;omega,hq⟩
theorem Hi{n:Nat}{x:List ae}(h:kQ Try.prog n 37 x):∃f:Func,.agg x=f.enc∧f.fit:=by
 obtain⟨f,rfl,hf⟩:=rU h;exact⟨f,rfl,hf⟩
theorem G5{n:Nat}{a:ae}(h:kQ Try.prog n 3 [a]):∃m:Int,a=aI m∧gX m:=by
 obtain⟨m,e,h1⟩:=gf h;exact⟨m,by simpa using e,h1⟩
def Ga:List TypeId:=[3,22,24,26,35,37,39,40,42,44,46,48]
theorem Je:BT Try.prog Ga=true:=by kernel_rfl
theorem laid:laidOutB Try.prog=true:=by kernel_rfl
def within(n low high:Int):Bool:=decide (low<=n)&&decide (n<=high)
theorem dN(n low high:Int):bw Try.prog 33 [aI n,aI low,aI high] (.v (.bool (within n low high))):=by
 refine zf true 0 Try.func33 Try.ntmps33 ?_;dsimp only[Tmp,TypeId,ax];refine aA (ah ?_);refine aA ?_;refine xg (fun h=>?_) (fun h=>?_)
 ·simp -dsimp only[simprocAttr,↓aa,zp,h];refine ah ?_;refine aq ?_;simp -dsimp only[simprocAttr,↓aa,zp,zr,Try.results33]
  simp_all [within]
 simp -dsimp only[simprocAttr,↓aa,zp,h];refine ah ?_;refine aq ?_;simp -dsimp only[simprocAttr,↓aa,zp,zr,Try.results33]
 simp_all [within]
 omega
theorem jb(n:Int):-1073741824<=ji n∧ji n<=1073741823:=by
 unfold ji;omega
theorem BG(x:Int):kU .i64 (fun x y=>x&&& y) x 2147483647=x % 2147483648:=by
 have h:(BitVec.ofInt 64 x&&& BitVec.ofInt 64 2147483647).toNat=(x % 2147483648).toNat:=by
  rw[BitVec.toNat_and,show(BitVec.ofInt 64 2147483647).toNat=2 ^ 31-1 by decide,Nat.and_two_pow_sub_one_eq_mod,BitVec.toNat_ofInt];omega
 show IntKind.i64.wrap (((BitVec.ofInt 64 x&&& BitVec.ofInt 64 2147483647).toNat:Nat):Int)=_;rw[h,lx .i64 _ (by simp[IntKind.min,IntKind.bits,IntKind.signed];omega) (by simp[IntKind.max,IntKind.bits,IntKind.signed];omega)];omega
theorem fR(n:Int)(h1:-9223372036854775808<=n)(h2:n<=9223372035781033983):bw Try.prog 130 [aI n] (aI (ji n)):=by
 have q:=jb n;have e:kU .i64 (fun x y=>x&&& y) (n+1073741824) 2147483647=ji n+1073741824:=by
  rw[BG];unfold ji;omega
 refine zf true 0 Try.func130 Try.ntmps130 ?_;dsimp only[Tmp,TypeId,ax];refine aA (ah ?_);refine aA ?_;refine⟨by omega,by omega,?_⟩;simp -dsimp only[simprocAttr,↓aa,zp,e];refine⟨by omega,by omega,by omega,by omega,?_⟩;refine ah ?_;refine aq ?_;simp -dsimp only[simprocAttr,↓aa,zp,zr,Try.results130];rw[Int.add_sub_cancel]
theorem kL{n:Int}(h:fp n):ji n=n:=by
 unfold fp at h;unfold ji;omega
theorem y5(a b:Int)(ha:fp a)(hb:fp b):bw Try.prog 117 [aI a,aI b] (aI (ji (a+b))):=by
 unfold fp at ha hb;refine zf true 0 Try.func117 Try.ntmps117 ?_;dsimp only[Tmp,TypeId,ax];refine aA (ah ?_);refine aA ?_;refine⟨by omega,by omega,?_⟩;refine .inl ⟨_,(fR (a+b) (by omega) (by omega)),by simp only[aw,ae.upto,zt],au ?_⟩;refine ah ?_;refine aq ?_;simp -dsimp only[simprocAttr,↓aa,zp,zr,Try.results117]
theorem AT(a b:Int)(ha:fp a)(hb:fp b):bw Try.prog 118 [aI a,aI b] (aI (ji (a-b))):=by
 unfold fp at ha hb;refine zf true 0 Try.func118 Try.ntmps118 ?_;dsimp only[Tmp,TypeId,ax];refine aA (ah ?_);refine aA ?_;refine⟨by omega,by omega,?_⟩;refine .inl ⟨_,(fR (a-b) (by omega) (by omega)),by simp only[aw,ae.upto,zt],au ?_⟩;refine ah ?_;refine aq ?_;simp -dsimp only[simprocAttr,↓aa,zp,zr,Try.results118]
theorem wW{a b:Int}(ha:fp a)(hb:fp b):-1152921504606846976<=a*b∧a*b<=1152921504606846976:=by
 unfold fp at ha hb;have h:(a*b).natAbs<=1152921504606846976:=by
  rw[Int.natAbs_mul];have:=Nat.mul_le_mul (show a.natAbs<=1073741824 by omega) (show b.natAbs<=1073741824 by omega);omega
 omega
theorem Ar(a b:Int)(ha:fp a)(hb:fp b):bw Try.prog 119 [aI a,aI b] (aI (ji (a*b))):=by
 have q:=wW ha hb;have ea:=kL ha;have eb:=kL hb;have wa:=fR a (by unfold fp at ha;omega) (by unfold fp at ha;omega);have wb:=fR b (by unfold fp at hb;omega) (by unfold fp at hb;omega);have wc:=fR (a*b) (by omega) (by omega);rw[ea]at wa;rw[eb]at wb;generalize hc:a*b=c at *;refine zf true 0 Try.func119 Try.ntmps119 ?_;dsimp only[Tmp,TypeId,ax];refine aA (ah ?_);refine aA ?_;refine .inl ⟨_,wa,by simp only[aw,ae.upto,zt],au ?_⟩;refine .inl ⟨_,wb,by simp only[aw,ae.upto,zt],au ?_⟩;simp -dsimp only[simprocAttr,↓aa,zp,hc];refine⟨by omega,by omega,?_⟩;refine .inl ⟨_,wc,by simp only[aw,ae.upto,zt],au ?_⟩;refine ah ?_;refine aq ?_;simp -dsimp only[simprocAttr,↓aa,zp,zr,Try.results119]
theorem xc{a b:Int}(ha:fp a):-1073741824<=a.tdiv b∧a.tdiv b<=1073741824:=by
 unfold fp at ha;have h:(a.tdiv b).natAbs<=a.natAbs:=by
  rw[Int.natAbs_tdiv];exact Nat.div_le_self _ _
 omega
theorem qP{a b:Int}(hb:fp b)(h0:b≠0):fp (a.tmod b):=by
 unfold fp at *;have h:(a.tmod b).natAbs<b.natAbs:=by
  rw[Int.natAbs_tmod];exact Nat.mod_lt _ (by omega)
 omega
theorem zE(a b:Int)(ha:fp a)(hb:fp b)(h0:b≠0):bw Try.prog 121 [aI a,aI b] (.df [aI (ji (a.tdiv b)),aI 0]):=by
 have q:=xc (b:=b) ha;have wa:=fR a (by unfold fp at ha;omega) (by unfold fp at ha;omega);have wb:=fR b (by unfold fp at hb;omega) (by unfold fp at hb;omega);have wc:=fR (a.tdiv b) (by omega) (by omega);rw[kL ha]at wa;rw[kL hb]at wb;have h1:(b=0)=False:=by simpa using h0
 generalize hc:a.tdiv b=c at *;refine zf true 0 Try.func121 Try.ntmps121 ?_;dsimp only[Tmp,TypeId,ax];refine aA (ah ?_);refine b8 ?_;refine .inl ⟨_,wb,by simp only[aw,ae.upto,zt],au ?_⟩;simp -dsimp only[simprocAttr,↓aa,zp,h0];refine ah ?_;refine cE rfl ?_;refine cA ?_;refine aA ?_;refine .inl ⟨_,wa,by simp only[aw,ae.upto,zt],au ?_⟩;refine .inl ⟨_,wb,by simp only[aw,ae.upto,zt],au ?_⟩;simp -dsimp only[simprocAttr,↓aa,zp,h1,if_false,hc];refine⟨by omega,by omega,?_⟩;refine .inl ⟨_,wc,by simp only[aw,ae.upto,zt],au ?_⟩;refine ah ?_;refine aq ?_;simp -dsimp only[simprocAttr,↓aa,zp,zr,Try.results121];simp[aw,ae.upto]
theorem Aq(a b:Int)(ha:fp a)(hb:fp b)(h0:b≠0):bw Try.prog 122 [aI a,aI b] (.df [aI (a.tmod b),aI 0]):=by
 have q:=qP (a:=a) hb h0;unfold fp at q;have wa:=fR a (by unfold fp at ha;omega) (by unfold fp at ha;omega);have wb:=fR b (by unfold fp at hb;omega) (by unfold fp at hb;omega);rw[kL ha]at wa;rw[kL hb]at wb;have h1:(b=0)=False:=by simpa using h0
 generalize hc:a.tmod b=c at *;refine zf true 0 Try.func122 Try.ntmps122 ?_;dsimp only[Tmp,TypeId,ax];refine aA (ah ?_);refine b8 ?_;refine .inl ⟨_,wb,by simp only[aw,ae.upto,zt],au ?_⟩;simp -dsimp only[simprocAttr,↓aa,zp,h0];refine ah ?_;refine cE rfl ?_;refine cA ?_;refine aA ?_;refine .inl ⟨_,wa,by simp only[aw,ae.upto,zt],au ?_⟩;refine .inl ⟨_,wb,by simp only[aw,ae.upto,zt],au ?_⟩;simp -dsimp only[simprocAttr,↓aa,zp,h1,if_false,hc];refine⟨by omega,by omega,?_⟩;refine ah ?_;refine aq ?_;simp -dsimp only[simprocAttr,↓aa,zp,zr,Try.results122];simp[aw,ae.upto]
structure Bs where
 a:Nat
 b:Nat
 deriving DecidableEq
namespace Bs
def enc(s:Bs):ae:=.agg [.v (.int .u64 s.a),.v (.int .u64 s.b)]
def fit(s:Bs):Prop:=s.a<2 ^ 64∧s.b<2 ^ 64
def has(s:Bs)(k:Nat):Bool:=if k<64 then s.a.testBit k else s.b.testBit (k-64)
def add(s:Bs)(k:Nat):Bs:=if k<64 then⟨s.a |||1 <<< k,s.b⟩else⟨s.a,s.b |||1 <<< (k-64)⟩
def meet(s t:Bs):Bs:=⟨s.a&&& t.a,s.b&&& t.b⟩
def none:Bs:=⟨0,0⟩
theorem an(s:Bs):s.enc.share=s.enc:=rfl
theorem av(s:Bs):s.enc.flat:=trivial
theorem al(s:Bs):s.enc.cells=[.v (.int .u64 s.a),.v (.int .u64 s.b)]:=rfl
theorem aN(n:Nat)(s:Bs):s.enc.upto n:=⟨trivial,trivial,trivial⟩
end Bs
theorem qY{n:Nat}(h:n<2 ^ 64):IntKind.u64.wrap (n:Int)=(n:Int):=by
 rw[lx .u64 _ (by simp[IntKind.min,IntKind.signed]) (by simp[IntKind.max,IntKind.bits,IntKind.signed];omega)]
theorem sn{m n:Nat}(hm:m<2 ^ 64)(hn:n<2 ^ 64):kU .u64 (fun x y=>x&&& y) (m:Int) (n:Int)=((m&&& n:Nat):Int):=by
 have h:(BitVec.ofInt 64 (m:Int)&&& BitVec.ofInt 64 (n:Int)).toNat=m&&& n:=by
  rw[BitVec.toNat_and,BitVec.toNat_ofInt,BitVec.toNat_ofInt];congr 1<;>omega
 show IntKind.u64.wrap (((BitVec.ofInt 64 (m:Int)&&& BitVec.ofInt 64 (n:Int)).toNat:Nat):Int)=_;rw[h];exact qY (Nat.lt_of_le_of_lt Nat.and_le_left hm)
theorem AD{m n:Nat}(hm:m<2 ^ 64)(hn:n<2 ^ 64):kU .u64 (fun x y=>x |||y) (m:Int) (n:Int)=((m |||n:Nat):Int):=by
 have h:(BitVec.ofInt 64 (m:Int) |||BitVec.ofInt 64 (n:Int)).toNat=m |||n:=by
  rw[BitVec.toNat_or,BitVec.toNat_ofInt,BitVec.toNat_ofInt];congr 1<;>omega
 show IntKind.u64.wrap (((BitVec.ofInt 64 (m:Int) |||BitVec.ofInt 64 (n:Int)).toNat:Nat):Int)=_;rw[h];exact qY (Nat.or_lt_two_pow hm hn)
theorem CN(m k:Nat)(hk:k<64):eU .u64 .shr (m:Int) (k:Int)=((m >>> k:Nat):Int):=by
 simp only[eU,Int.toNat_natCast,IntKind.bits];rw[Nat.min_eq_left (by omega),Nat.shiftRight_eq_div_pow,Int.fdiv_eq_ediv_of_nonneg _ (by exact Int.le_of_lt (Int.pow_pos (by omega)))];simp
theorem CM(k:Nat)(hk:k<64):eU .u64 .shl 1 (k:Int)=((1 <<< k:Nat):Int):=by
 simp only[eU,Int.toNat_natCast,IntKind.bits];have aZ:1 <<< k<2 ^ 64:=by
  rw[Nat.one_shiftLeft];exact Nat.pow_lt_pow_right (by omega) hk
 have he:(1:Int)*(2:Int) ^ k=((1 <<< k:Nat):Int):=by
  rw[Nat.one_shiftLeft];simp
 rw[Nat.min_eq_left (by omega),he];exact qY aZ
theorem BJ(m k:Nat):decide (((m >>> k&&& 1:Nat):Int)=1)=m.testBit k:=by
 rw[Nat.testBit_eq_decide_div_mod_eq,Nat.and_one_is_mod,Nat.shiftRight_eq_div_pow];congr 1;apply propext;omega
theorem Fb{m k:Nat}(h:m<2 ^ 64):m >>> k<2 ^ 64:=by
 rw[Nat.shiftRight_eq_div_pow];exact Nat.lt_of_le_of_lt (Nat.div_le_self _ _) h
theorem D7{k:Nat}:(k:Int).tdiv 64=((k / 64:Nat):Int):=by
 rw[Int.tdiv_eq_ediv_of_nonneg (by omega)];omega
theorem D8{k:Nat}:(k:Int).tmod 64=((k % 64:Nat):Int):=by
 rw[Int.tmod_eq_emod_of_nonneg (by omega)];omega
theorem AB:((1:Nat):Int)=1:=rfl
theorem nM(s:Bs)(hs:s.fit)(k:Nat)(hk:k<128):bw Try.prog 80 [s.enc,aI k] (.v (.bool (s.has k))):=by
 obtain⟨ha,hb⟩:=hs;have Hv:((64:Int)=0)=False:=by simp
 have Co:k % 64<64:=Nat.mod_lt _ (by omega);have q1:=D7 (k:=k);have q2:=D8 (k:=k);obtain⟨x,hx,vn⟩:∃x:Nat,x<2 ^ 64∧x=if k<64 then s.a else s.b:=by
  split
  ·exact⟨_,ha,rfl⟩
  exact⟨_,hb,rfl⟩
 have hr:s.has k=x.testBit (k % 64):=by
  rw[vn];unfold Bs.has;split
  ·rw[Nat.mod_eq_of_lt (by assumption)]
  rw[show k % 64=k-64 by omega]
 have e1:=CN x (k % 64) Co;have o5:=Fb (k:=k % 64) hx;have e2:=sn (m:=x >>> (k % 64)) (n:=1) o5 (by omega);have e3:=BJ x (k % 64);rw[AB]at e2;have km:x >>> (k % 64)&&& 1<=1:=Nat.and_le_right;rw[hr,<-e3];generalize hy:x >>> (k % 64)=y at *;generalize hw:y&&& 1=w at *;rcases(show k / 64=0∧x=s.a∨k / 64=1∧x=s.b by
  by_cases h:k<64
  ·exact .inl ⟨by omega,by rw[vn,if_pos h]⟩
  exact .inr ⟨by omega,by rw[vn,if_neg h]⟩)with⟨hq,wE⟩|⟨hq,wE⟩
 all_goals
  rw[hq]at q1;subst wE;refine zf true 0 Try.func80 Try.ntmps80 ?_;dsimp only[Tmp,TypeId,ax];refine aX ?_;simp -dsimp only[simprocAttr,↓aa,zp,Bs.al,Bs.av];refine ah ?_;refine aX ?_;simp -dsimp only[simprocAttr,↓aa,zp,q1,q2,Hv,if_false,e1,e2]
  repeat(refine⟨by omega,?_⟩)
  refine ah ?_;refine aq ?_;simp -dsimp only[simprocAttr,↓aa,zp,zr,Try.results80]
theorem xQ(s t:Bs)(hs:s.fit)(ht:t.fit):bw Try.prog 104 [s.enc,t.enc] (s.meet t).enc:=by
 obtain⟨ha,hb⟩:=hs;obtain⟨hc,hd⟩:=ht;have e1:=sn ha hc;have e2:=sn hb hd;have l1:s.a&&& t.a<2 ^ 64:=Nat.lt_of_le_of_lt Nat.and_le_left ha;have l2:s.b&&& t.b<2 ^ 64:=Nat.lt_of_le_of_lt Nat.and_le_left hb;unfold Bs.meet;generalize s.a&&& t.a=p at *;generalize s.b&&& t.b=q at *;refine zf true 0 Try.func104 Try.ntmps104 ?_;dsimp only[Tmp,TypeId,ax];refine aX ?_;simp -dsimp only[simprocAttr,↓aa,zp,Bs.al,Bs.av];refine ah ?_;refine aX ?_;simp -dsimp only[simprocAttr,↓aa,zp,e1,e2]
 repeat(refine⟨by omega,?_⟩)
 refine ah ?_;refine aq ?_;simp -dsimp only[simprocAttr,↓aa,zp,zr,Try.results104];exact⟨⟨trivial,trivial,trivial⟩,rfl⟩
theorem yP(s:Bs)(hs:s.fit)(k:Nat)(hk:k<128):bw Try.prog 103 [s.enc,aI k] (s.add k).enc:=by
 obtain⟨ha,hb⟩:=hs;have Hv:((64:Int)=0)=False:=by simp
 have Co:k % 64<64:=Nat.mod_lt _ (by omega);have q1:=D7 (k:=k);have q2:=D8 (k:=k);have e1:=CM (k % 64) Co;have aZ:1 <<< (k % 64)<2 ^ 64:=by
  rw[Nat.one_shiftLeft];exact Nat.pow_lt_pow_right (by omega) Co
 rcases(show k<64∨64<=k by omega)with h|h
 ·have hq:k / 64=0:=by omega
  have hr:s.add k=⟨s.a |||1 <<< (k % 64),s.b⟩:=by
   simp[Bs.add,h,Nat.mod_eq_of_lt h]
  have e2:=AD ha aZ;have l1:s.a |||1 <<< (k % 64)<2 ^ 64:=Nat.or_lt_two_pow ha aZ;rw[hr];rw[hq]at q1;generalize hy:1 <<< (k % 64)=y at *;generalize hw:s.a |||y=w at *;refine zf true 0 Try.func103 Try.ntmps103 ?_;dsimp only[Tmp,TypeId,ax];refine aX ?_;simp -dsimp only[simprocAttr,↓aa,zp,Bs.al,Bs.av];refine ah ?_;refine aX ?_;simp -dsimp only[simprocAttr,↓aa,zp,q1,q2,Hv,if_false,e1,e2]
  repeat(refine⟨by omega,?_⟩)
  refine⟨ob (by kernel_rfl),?_⟩;refine ah ?_;refine aA (ah ?_);refine aq ?_;simp -dsimp only[simprocAttr,↓aa,zp,zr,Try.results103];exact⟨⟨trivial,trivial,trivial⟩,rfl⟩
 have hq:k / 64=1:=by omega
 have hr:s.add k=⟨s.a,s.b |||1 <<< (k % 64)⟩:=by
  have cj:¬k<64:=by omega
  simp[Bs.add,cj,show k % 64=k-64 by omega]
 have e2:=AD hb aZ;have l1:s.b |||1 <<< (k % 64)<2 ^ 64:=Nat.or_lt_two_pow hb aZ;rw[hr];rw[hq]at q1;generalize hy:1 <<< (k % 64)=y at *;generalize hw:s.b |||y=w at *;refine zf true 0 Try.func103 Try.ntmps103 ?_;dsimp only[Tmp,TypeId,ax];refine aX ?_;simp -dsimp only[simprocAttr,↓aa,zp,Bs.al,Bs.av];refine ah ?_;refine aX ?_;simp -dsimp only[simprocAttr,↓aa,zp,q1,q2,Hv,if_false,e1,e2]
 repeat(refine⟨by omega,?_⟩)
 refine⟨ob (by kernel_rfl),?_⟩;refine ah ?_;refine aA (ah ?_);refine aq ?_;simp -dsimp only[simprocAttr,↓aa,zp,zr,Try.results103];exact⟨⟨trivial,trivial,trivial⟩,rfl⟩
namespace Bs
theorem qi(s t:Bs)(k:Nat):(s.meet t).has k=(s.has k&&t.has k):=by
 unfold has meet;split<;>simp[Nat.testBit_and]
theorem has_add(s:Bs)(j k:Nat)(hj:j<128)(hk:k<128):(s.add j).has k=(s.has k ||decide (k=j)):=by
 unfold has add;by_cases h1:j<64<;>by_cases h2:k<64
 ·simp only[h1,h2,if_true,Nat.testBit_or,Nat.one_shiftLeft,Nat.testBit_two_pow];congr 1;apply decide_eq_decide.2;omega
 ·simp only[h1,h2,if_true,if_false];have:¬k=j:=by omega
  simp[this]
 ·simp only[h1,h2,if_true,if_false];have:¬k=j:=by omega
  simp[this]
 simp only[h1,h2,if_false,Nat.testBit_or,Nat.one_shiftLeft,Nat.testBit_two_pow];congr 1;apply decide_eq_decide.2;omega
theorem um{s t:Bs}(h:s.fit):(s.meet t).fit:=⟨Nat.lt_of_le_of_lt Nat.and_le_left h.1,Nat.lt_of_le_of_lt Nat.and_le_left h.2⟩
theorem mo{s:Bs}(h:s.fit){k:Nat}(hk:k<128):(s.add k).fit:=by
 unfold add;split
 ·refine⟨Nat.or_lt_two_pow h.1 ?_,h.2⟩;rw[Nat.one_shiftLeft];exact Nat.pow_lt_pow_right (by omega) (by assumption)
 refine⟨h.1,Nat.or_lt_two_pow h.2 ?_⟩;rw[Nat.one_shiftLeft];exact Nat.pow_lt_pow_right (by omega) (by omega)
theorem lS:none.fit:=⟨by decide,by decide⟩
theorem ext{s t:Bs}(hs:s.fit)(ht:t.fit)(h:∀k,k<128->s.has k=t.has k):s=t:=by
 obtain⟨a,b⟩:=s;obtain⟨c,d⟩:=t;obtain⟨s1,s2⟩:=hs;obtain⟨t1,t2⟩:=ht;simp only at s1 s2 t1 t2;have aZ:∀{m k:Nat},m<2 ^ 64->64<=k->m.testBit k=false:=fun hm hk=>Nat.testBit_lt_two_pow (Nat.lt_of_lt_of_le hm (Nat.pow_le_pow_right (by omega) hk));congr 1
 ·apply Nat.eq_of_testBit_eq;intro k;by_cases hk:k<64
  ·have:=h k (by omega);simpa[has,hk]using this
  rw[aZ s1 (by omega),aZ t1 (by omega)]
 apply Nat.eq_of_testBit_eq;intro k;by_cases hk:k<64
 ·have:=h (k+64) (by omega);simpa[has,show ¬k+64<64 by omega]using this
 rw[aZ s2 (by omega),aZ t2 (by omega)]
def size(s:Bs):Nat:=(List.range 128).countP s.has
theorem countP_le{p q:Nat->Bool}(h:∀k,k<128->p k=true->q k=true):∀n≤128,(List.range n).countP p<=(List.range n).countP q
 | 0,_=>by simp
 | n+1,hn=>by
  have ih:=countP_le h n (by omega);rw[List.range_succ,List.countP_append,List.countP_append];have:[n].countP p<=[n].countP q:=by
   simp only[List.countP_singleton];by_cases hp:p n=true
   ·simp[hp,h n (by omega) hp]
   simp[hp]
  omega
theorem oA{p q:Nat->Bool}(h:∀k,k<128->p k=true->q k=true){j:Nat}(hq:q j=true)(hp:p j=false):∀n≤128,j<n->(List.range n).countP p<(List.range n).countP q
 | 0,_,hj=>by omega
 | n+1,hn,hj=>by
  rw[List.range_succ,List.countP_append,List.countP_append];by_cases e:j=n
  ·subst e;have:=countP_le h j (by omega);simp only[List.countP_singleton,hq,hp];simp;omega
  have ih:=oA h hq hp n (by omega) (by omega);have:[n].countP p<=[n].countP q:=by
   simp only[List.countP_singleton];by_cases Ai:p n=true
   ·simp[Ai,h n (by omega) Ai]
   simp[Ai]
  omega
theorem CO{s t:Bs}(hs:s.fit)(ht:t.fit)(h:∀k,k<128->s.has k=true->t.has k=true)(cj:s≠t):s.size<t.size:=by
 by_cases cM:∀k,k<128->t.has k=true->s.has k=true
 ·exfalso;apply cj;apply ext hs ht;intro k hk;cases h1:s.has k<;>cases h2:t.has k
  ·rfl
  ·exact absurd (cM k hk h2) (by simp[h1])
  ·exact absurd (h k hk h1) (by simp[h2])
  rfl
 obtain⟨j,hj,h2,h1⟩:∃j,j<128∧t.has j=true∧¬s.has j=true:=by
  refine Classical.byContradiction fun q=>cM fun k hk h2=>?_;refine Classical.byContradiction fun h1=>q ⟨k,hk,h2,h1⟩
 exact oA h h2 (by simpa using h1) 128 (Nat.le_refl _) hj
theorem pd(s:Bs):s.size<=128:=by
 have:=List.countP_le_length (p:=s.has) (l:=List.range 128);simpa[size]using this
end Bs
structure Ds where
 over:List Bs
 seen:Bs
 again:Bool
def Ds.at_(S:Ds)(k:Nat):Bs:=S.over[k]?.getD .none
def gL(k:Nat)(S:Ds)(e:Edge):Ds :=
 let next:=((S.at_ e.block.toNat).meet (S.at_ k)).add e.block.toNat
 if next≠S.at_ e.block.toNat∨S.seen.has e.block.toNat=false then⟨S.over.set e.block.toNat next,S.seen.add e.block.toNat,true⟩else S
def nC(k:Nat)(S:Ds)(b:Block):Ds:=if S.seen.has k=false then S else b.term.to.foldl (gL k) S
def kk:Nat->Ds->List Block->Ds
 | _,S,[]=>S
 | k,S,b::r=>kk (k+1) (nC k S b) r
def ig(f:Func):Nat->Ds->Ds
 | 0,S=>S
 | n+1,S=>if S.again then ig f n (kk 0 ⟨S.over,S.seen,false⟩ f.blocks)else S
def re:Nat->Bs
 | 0=>.none
 | n+1=>(re n).add n
def jW(f:Func):Ds:=⟨(List.replicate f.blocks.length (re f.blocks.length)).set 0 (Bs.none.add 0),Bs.none.add 0,true⟩
def jV(f:Func):List Bs×Bs:=((ig f 20000 (jW f)).over,(ig f 20000 (jW f)).seen)
structure jS(n:Nat)(S:Ds):Prop where
 few:n<=128
 len:S.over.length=n
 fit:∀s∈S.over,s.fit
 seen:S.seen.fit
 self:∀k,k<n->(S.at_ k).has k=true
def Ds.weight(S:Ds):Nat:=(S.over.map Bs.size).sum+(128-S.seen.size)
theorem jS.sq{n:Nat}{S:Ds}(h:jS n S)(k:Nat):(S.at_ k).fit:=by
 unfold Ds.at_;cases hk:S.over[k]? with
 | none=>exact Bs.lS
 | some s=>exact h.fit s (List.mem_of_getElem? hk)
theorem CP{l:List Nat}{k x y:Nat}(h:l[k]?=some y):(l.set k x).sum+y=l.sum+x:=by
 induction l generalizing k with
 | nil=>simp at h
 | cons a r ih =>
  cases k with
  | zero =>
   simp only[List.getElem?_cons_zero,Option.some.injEq]at h;simp only[List.set_cons_zero,List.sum_cons];omega
  | succ k =>
   have:=ih (k:=k) (by simpa using h);simp only[List.set_cons_succ,List.sum_cons];omega
theorem xr{n:Nat}{S:Ds}(h:jS n S){k:Nat}{e:Edge}(Bu:0<=e.block)(pE:e.block.toNat<n):jS n (gL k S e)∧(gL k S e).weight<=S.weight∧((gL k S e).again=true->S.again=true∨(gL k S e).weight<S.weight):=by
 have hj:e.block.toNat<128:=Nat.lt_of_lt_of_le pE h.few;unfold gL;simp only;generalize e.block.toNat=j at *;have IN:=h.sq j;have jr:(((S.at_ j).meet (S.at_ k)).add j).fit:=Bs.mo (Bs.um IN) hj;have kC:∀i,i<128->(((S.at_ j).meet (S.at_ k)).add j).has i=true->(S.at_ j).has i=true:=fun i hi q=>by
  rw[Bs.has_add _ _ _ hj hi,Bs.qi]at q;by_cases e:i=j
  ·subst e;exact h.self i pE
  simp[e]at q;exact q.1
 have ru:S.over[j]?=some (S.at_ j):=by
  have:j<S.over.length:=by rw[h.len];exact pE
  simp[Ds.at_,this]
 split
 ·rename_i hc;refine⟨⟨h.few,by simp[h.len],fun s hs=>?_,Bs.mo h.seen hj,fun i hi=>?_⟩,?_⟩
  ·rcases List.mem_or_eq_of_mem_set hs with q|q
   ·exact h.fit s q
   rw[q];exact jr
  ·unfold Ds.at_;by_cases e:i=j
   ·subst e;rw[List.getElem?_set_self (by rw[h.len];exact hi)];simp only[Option.getD_some];rw[Bs.has_add _ _ _ hj hj];simp
   rw[List.getElem?_set_ne (Ne.symm e)];exact h.self i hi
  have nT:=CP (l:=S.over.map Bs.size) (k:=j) (x:=(((S.at_ j).meet (S.at_ k)).add j).size) (y:=(S.at_ j).size) (by simp[ru]);rw[<-List.map_set]at nT;have hle:(((S.at_ j).meet (S.at_ k)).add j).size<=(S.at_ j).size:=Bs.countP_le kC 128 (Nat.le_refl _);have o5:S.seen.size<=(S.seen.add j).size:=Bs.countP_le (fun i hi q=>by rw[Bs.has_add _ _ _ hj hi,q];rfl) 128 (Nat.le_refl _);have ha:=Bs.pd (S.seen.add j);have aZ:(((S.at_ j).meet (S.at_ k)).add j).size<(S.at_ j).size∨S.seen.size<(S.seen.add j).size:=by
   rcases hc with hc|hc
   ·exact .inl (Bs.CO jr IN kC hc)
   refine .inr (Bs.oA (fun i hi q=>by rw[Bs.has_add _ _ _ hj hi,q];rfl) (j:=j) ?_ hc 128 (Nat.le_refl _) hj);rw[Bs.has_add _ _ _ hj hj];simp
  simp only[Ds.weight];refine⟨by omega,fun _=>.inr (by omega)⟩
 exact⟨h,Nat.le_refl _,fun q=>.inl q⟩
theorem xt{n:Nat}{k:Nat}:∀(l:List Edge) {S:Ds},jS n S->(∀e∈l,0<=e.block∧e.block.toNat<n)->jS n (l.foldl (gL k) S)∧(l.foldl (gL k) S).weight<=S.weight∧((l.foldl (gL k) S).again=true->S.again=true∨(l.foldl (gL k) S).weight<S.weight)
 | [],S,h,_=>⟨h,Nat.le_refl _,fun q=>.inl q⟩
 | e::r,S,h,he=>by
  obtain⟨a1,a2,a3⟩:=xr (k:=k) h (he e (by simp)).1 (he e (by simp)).2;obtain⟨b1,b2,b3⟩:=xt r a1 (fun x hx=>he x (by simp[hx]));simp only[List.foldl_cons];refine⟨b1,by omega,fun q=>?_⟩;rcases b3 q with q|q
  ·rcases a3 q with q|q
   ·exact .inl q
   exact .inr (by omega)
  exact .inr (by omega)
theorem xq{n:Nat}{k:Nat}{b:Block}{S:Ds}(h:jS n S)(he:∀e∈b.term.to,0<=e.block∧e.block.toNat<n):jS n (nC k S b)∧(nC k S b).weight<=S.weight∧((nC k S b).again=true->S.again=true∨(nC k S b).weight<S.weight):=by
 unfold nC;split
 ·exact⟨h,Nat.le_refl _,fun q=>.inl q⟩
 exact xt _ h he
theorem nD{n:Nat}:∀(l:List Block) {k:Nat} {S:Ds},jS n S->(∀b∈l,∀e∈b.term.to,0<=e.block∧e.block.toNat<n)->jS n (kk k S l)∧(kk k S l).weight<=S.weight∧((kk k S l).again=true->S.again=true∨(kk k S l).weight<S.weight)
 | [],k,S,h,_=>⟨h,Nat.le_refl _,fun q=>.inl q⟩
 | b::r,k,S,h,he=>by
  obtain⟨a1,a2,a3⟩:=xq (k:=k) h (he b (by simp));obtain⟨b1,b2,b3⟩:=nD r (k:=k+1) a1 (fun x hx=>he x (by simp[hx]));simp only[kk];refine⟨b1,by omega,fun q=>?_⟩;rcases b3 q with q|q
  ·rcases a3 q with q|q
   ·exact .inl q
   exact .inr (by omega)
  exact .inr (by omega)
instance (n:Int):Decidable (fp n):=by
 unfold fp
 infer_instance
theorem o6(n:Int):bw Try.prog 86 [aI n] (.v (.bool (decide (fp n)))):=by
 have hw:=dN n (-1073741824) 1073741823;refine zf true 0 Try.func86 Try.ntmps86 ?_;dsimp only[Tmp,TypeId,ax];refine aA (ah ?_);refine aA ?_;refine zi hw ?_;refine ah ?_;refine aq ?_;simp -dsimp only[simprocAttr,↓aa,zp,zr,Try.results86];simp only[within,fp];by_cases h1:-1073741824<=n<;>by_cases h2:n<=1073741823<;>simp[h1,h2]
def bj(i:bE):Int×Bool :=
 if i.op=0 then(0,true)
 else if(1<=i.op∧i.op<=7)∨i.op=16∨i.op=18∨i.op=19∨i.op=21∨i.op=23 then(2,true)
 else if i.op=20 then(3,true)
 else if i.op=10∨i.op=11∨i.op=12∨i.op=15∨i.op=17∨i.op=24 then(1,true)
 else if i.op=8∨i.op=9∨i.op=13∨i.op=14 then(-1,true)
 else if i.op=22 then(i.n,decide (i.n=2∨i.n=4))
 else(0,false)
def cC(i:bE):Bool :=
 if i.op=0 then decide (fp i.n)
 else if i.op=8 then within i.n 0 255
 else if i.op=11 then within i.n 0 15
 else if i.op=9∨i.op=13 then within i.n 0 255
 else if i.op=23 then decide (i.n=1∨i.n=2∨i.n=3)
 else if i.op=24 then within i.n 0 3
 else if i.op=22 then true
 else decide (i.n=0)
theorem wQ(i:bE)(iT:i.op=0):bw Try.prog 101 [i.enc] (.df [aI (bj i).1,.v (.bool (bj i).2)]):=by
 have hr:bj i=(0,true):=by
  unfold bj;rw[if_pos (by omega)]
 rw[hr];refine zf true 0 Try.func101 Try.ntmps101 ?_;dsimp only[Tmp,TypeId,ax];refine aA (ah ?_);refine b8 (ah ?_);refine aj ?_;refine aA (ah ?_);apply aP rfl<;>intro h
 ·refine aA (ah ?_);refine aq ?_;simp -dsimp only[simprocAttr,↓aa,zp,zr,Try.results101];simp[aw,ae.upto]
 exact af h (by omega)
theorem wR(i:bE)(iT:(1<=i.op∧i.op<=7)∨i.op=16∨i.op=18∨i.op=19∨i.op=21∨i.op=23):bw Try.prog 101 [i.enc] (.df [aI (bj i).1,.v (.bool (bj i).2)]):=by
 have hr:bj i=(2,true):=by
  unfold bj;rw[if_neg (by omega),if_pos (by omega)]
 rw[hr];refine zf true 0 Try.func101 Try.ntmps101 ?_;dsimp only[Tmp,TypeId,ax];refine aA (ah ?_);refine b8 (ah ?_);refine aj ?_;refine aA (ah ?_);apply aP rfl<;>intro h
 ·exact ab h (by omega)
 refine b8 (ah ?_);refine iN (⟨47,[(1,.mp 0 0),(2,aI 0),(3,.v (.bool false)),(5,aI i.op),(8,.v (.bool true))],[.cells [aI i.to,aI i.op,aI i.n,a6 i.args]]⟩) ?_ ?_
 ·apply aP rfl<;>intro h
  ·refine a8 ?_;show bg _ _;refine zq rfl ?_ ?_;simp -dsimp only[simprocAttr,↓aa,zp,zc]
   ·exact Sub.of_eq (by rw[h])
   rfl
  refine aA (ah ?_);apply aP rfl<;>intro h
  ·refine a8 ?_;show bg _ _;refine zq rfl ?_ ?_;simp -dsimp only[simprocAttr,↓aa,zp,zc]
   ·exact Sub.of_eq (by rw[h])
   rfl
  refine aA (ah ?_);apply aP rfl<;>intro h
  ·refine a8 ?_;show bg _ _;refine zq rfl ?_ ?_;simp -dsimp only[simprocAttr,↓aa,zp,zc]
   ·exact Sub.of_eq (by rw[h])
   rfl
  refine aA (ah ?_);apply aP rfl<;>intro h
  ·refine a8 ?_;show bg _ _;refine zq rfl ?_ ?_;simp -dsimp only[simprocAttr,↓aa,zp,zc]
   ·exact Sub.of_eq (by rw[h])
   rfl
  refine aA (ah ?_);apply aP rfl<;>intro h
  ·refine a8 ?_;show bg _ _;refine zq rfl ?_ ?_;simp -dsimp only[simprocAttr,↓aa,zp,zc]
   ·exact Sub.of_eq (by rw[h])
   rfl
  refine aA (ah ?_);apply aP rfl<;>intro h
  ·refine a8 ?_;show bg _ _;refine zq rfl ?_ ?_;simp -dsimp only[simprocAttr,↓aa,zp,zc]
   ·exact Sub.of_eq (by rw[h])
   rfl
  refine aA (ah ?_);apply aP rfl<;>intro h
  ·refine a8 ?_;show bg _ _;refine zq rfl ?_ ?_;simp -dsimp only[simprocAttr,↓aa,zp,zc]
   ·exact Sub.of_eq (by rw[h])
   rfl
  refine aA (ah ?_);apply aP rfl<;>intro h
  ·refine a8 ?_;show bg _ _;refine zq rfl ?_ ?_;simp -dsimp only[simprocAttr,↓aa,zp,zc]
   ·exact Sub.of_eq (by rw[h])
   rfl
  refine aA (ah ?_);apply aP rfl<;>intro h
  ·refine a8 ?_;show bg _ _;refine zq rfl ?_ ?_;simp -dsimp only[simprocAttr,↓aa,zp,zc]
   ·exact Sub.of_eq (by rw[h])
   rfl
  refine aA (ah ?_);apply aP rfl<;>intro h
  ·refine a8 ?_;show bg _ _;refine zq rfl ?_ ?_;simp -dsimp only[simprocAttr,↓aa,zp,zc]
   ·exact Sub.of_eq (by rw[h])
   rfl
  refine aA (ah ?_);apply aP rfl<;>intro h
  ·refine a8 ?_;show bg _ _;refine zq rfl ?_ ?_;simp -dsimp only[simprocAttr,↓aa,zp,zc]
   ·exact Sub.of_eq (by rw[h])
   rfl
  refine dc ?_;refine bd ?_;show bg _ _;refine zq rfl ?_ ?_;simp -dsimp only[simprocAttr,↓aa,zp,zc]
  ·exact Sub.of_eq (by rw[decide_eq_true (show i.op=23 by simp only[decide_eq_false_iff_not]at *;omega)])
  rfl
 refine cS rfl ?_;refine aA (ah ?_);refine aq ?_;simp -dsimp only[simprocAttr,↓aa,zp,zr,Try.results101];simp[aw,ae.upto]
theorem wS(i:bE)(iT:i.op=20):bw Try.prog 101 [i.enc] (.df [aI (bj i).1,.v (.bool (bj i).2)]):=by
 have hr:bj i=(3,true):=by
  unfold bj;rw[if_neg (by omega),if_neg (by omega),if_pos (by omega)]
 rw[hr];refine zf true 0 Try.func101 Try.ntmps101 ?_;dsimp only[Tmp,TypeId,ax];refine aA (ah ?_);refine b8 (ah ?_);refine aj ?_;refine aA (ah ?_);apply aP rfl<;>intro h
 ·exact ab h (by omega)
 refine b8 (ah ?_);apply aP rfl<;>intro h
 ·exact ab h (by omega)
 refine aA (ah ?_);apply aP rfl<;>intro h
 ·exact ab h (by omega)
 refine aA (ah ?_);apply aP rfl<;>intro h
 ·exact ab h (by omega)
 refine aA (ah ?_);apply aP rfl<;>intro h
 ·exact ab h (by omega)
 refine aA (ah ?_);apply aP rfl<;>intro h
 ·exact ab h (by omega)
 refine aA (ah ?_);apply aP rfl<;>intro h
 ·exact ab h (by omega)
 refine aA (ah ?_);apply aP rfl<;>intro h
 ·exact ab h (by omega)
 refine aA (ah ?_);apply aP rfl<;>intro h
 ·exact ab h (by omega)
 refine aA (ah ?_);apply aP rfl<;>intro h
 ·exact ab h (by omega)
 refine aA (ah ?_);apply aP rfl<;>intro h
 ·exact ab h (by omega)
 refine aA (ah ?_);apply aP rfl<;>intro h
 ·exact ab h (by omega)
 refine dc (ah ?_);apply aP rfl<;>intro h
 ·exact ab h (by omega)
 refine aA (ah ?_);apply aP rfl<;>intro h
 ·refine aA (ah ?_);refine aq ?_;simp -dsimp only[simprocAttr,↓aa,zp,zr,Try.results101];simp[aw,ae.upto]
 exact af h (by omega)
theorem wT(i:bE)(iT:i.op=10∨i.op=11∨i.op=12∨i.op=15∨i.op=17∨i.op=24):bw Try.prog 101 [i.enc] (.df [aI (bj i).1,.v (.bool (bj i).2)]):=by
 have hr:bj i=(1,true):=by
  unfold bj;rw[if_neg (by omega),if_neg (by omega),if_neg (by omega),if_pos (by omega)]
 rw[hr];refine zf true 0 Try.func101 Try.ntmps101 ?_;dsimp only[Tmp,TypeId,ax];refine aA (ah ?_);refine b8 (ah ?_);refine aj ?_;refine aA (ah ?_);apply aP rfl<;>intro h
 ·exact ab h (by omega)
 refine b8 (ah ?_);apply aP rfl<;>intro h
 ·exact ab h (by omega)
 refine aA (ah ?_);apply aP rfl<;>intro h
 ·exact ab h (by omega)
 refine aA (ah ?_);apply aP rfl<;>intro h
 ·exact ab h (by omega)
 refine aA (ah ?_);apply aP rfl<;>intro h
 ·exact ab h (by omega)
 refine aA (ah ?_);apply aP rfl<;>intro h
 ·exact ab h (by omega)
 refine aA (ah ?_);apply aP rfl<;>intro h
 ·exact ab h (by omega)
 refine aA (ah ?_);apply aP rfl<;>intro h
 ·exact ab h (by omega)
 refine aA (ah ?_);apply aP rfl<;>intro h
 ·exact ab h (by omega)
 refine aA (ah ?_);apply aP rfl<;>intro h
 ·exact ab h (by omega)
 refine aA (ah ?_);apply aP rfl<;>intro h
 ·exact ab h (by omega)
 refine aA (ah ?_);apply aP rfl<;>intro h
 ·exact ab h (by omega)
 refine dc (ah ?_);apply aP rfl<;>intro h
 ·exact ab h (by omega)
 refine aA (ah ?_);apply aP rfl<;>intro h
 ·exact ab h (by omega)
 refine b8 (ah ?_);refine iN (⟨47,[(1,.mp 0 0),(2,aI 0),(3,.v (.bool false)),(5,aI i.op),(23,.v (.bool true))],[.cells [aI i.to,aI i.op,aI i.n,a6 i.args]]⟩) ?_ ?_
 ·apply aP rfl<;>intro h
  ·refine a8 ?_;show bg _ _;refine zq rfl ?_ ?_;simp -dsimp only[simprocAttr,↓aa,zp,zc]
   ·exact Sub.of_eq (by rw[h])
   rfl
  refine aA (ah ?_);apply aP rfl<;>intro h
  ·refine a8 ?_;show bg _ _;refine zq rfl ?_ ?_;simp -dsimp only[simprocAttr,↓aa,zp,zc]
   ·exact Sub.of_eq (by rw[h])
   rfl
  refine aA (ah ?_);apply aP rfl<;>intro h
  ·refine a8 ?_;show bg _ _;refine zq rfl ?_ ?_;simp -dsimp only[simprocAttr,↓aa,zp,zc]
   ·exact Sub.of_eq (by rw[h])
   rfl
  refine aA (ah ?_);apply aP rfl<;>intro h
  ·refine a8 ?_;show bg _ _;refine zq rfl ?_ ?_;simp -dsimp only[simprocAttr,↓aa,zp,zc]
   ·exact Sub.of_eq (by rw[h])
   rfl
  refine aA (ah ?_);apply aP rfl<;>intro h
  ·refine a8 ?_;show bg _ _;refine zq rfl ?_ ?_;simp -dsimp only[simprocAttr,↓aa,zp,zc]
   ·exact Sub.of_eq (by rw[h])
   rfl
  refine dc ?_;refine bd ?_;show bg _ _;refine zq rfl ?_ ?_;simp -dsimp only[simprocAttr,↓aa,zp,zc]
  ·exact Sub.of_eq (by rw[decide_eq_true (show i.op=24 by simp only[decide_eq_false_iff_not]at *;omega)])
  rfl
 refine cS rfl ?_;refine aA (ah ?_);refine aq ?_;simp -dsimp only[simprocAttr,↓aa,zp,zr,Try.results101];simp[aw,ae.upto]
theorem wU(i:bE)(iT:i.op=8∨i.op=9∨i.op=13∨i.op=14):bw Try.prog 101 [i.enc] (.df [aI (bj i).1,.v (.bool (bj i).2)]):=by
 have hr:bj i=(-1,true):=by
  unfold bj;rw[if_neg (by omega),if_neg (by omega),if_neg (by omega),if_neg (by omega),if_pos (by omega)]
 rw[hr];refine zf true 0 Try.func101 Try.ntmps101 ?_;dsimp only[Tmp,TypeId,ax];refine aA (ah ?_);refine b8 (ah ?_);refine aj ?_;refine aA (ah ?_);apply aP rfl<;>intro h
 ·exact ab h (by omega)
 refine b8 (ah ?_);apply aP rfl<;>intro h
 ·exact ab h (by omega)
 refine aA (ah ?_);apply aP rfl<;>intro h
 ·exact ab h (by omega)
 refine aA (ah ?_);apply aP rfl<;>intro h
 ·exact ab h (by omega)
 refine aA (ah ?_);apply aP rfl<;>intro h
 ·exact ab h (by omega)
 refine aA (ah ?_);apply aP rfl<;>intro h
 ·exact ab h (by omega)
 refine aA (ah ?_);apply aP rfl<;>intro h
 ·exact ab h (by omega)
 refine aA (ah ?_);apply aP rfl<;>intro h
 ·exact ab h (by omega)
 refine aA (ah ?_);apply aP rfl<;>intro h
 ·exact ab h (by omega)
 refine aA (ah ?_);apply aP rfl<;>intro h
 ·exact ab h (by omega)
 refine aA (ah ?_);apply aP rfl<;>intro h
 ·exact ab h (by omega)
 refine aA (ah ?_);apply aP rfl<;>intro h
 ·exact ab h (by omega)
 refine dc (ah ?_);apply aP rfl<;>intro h
 ·exact ab h (by omega)
 refine aA (ah ?_);apply aP rfl<;>intro h
 ·exact ab h (by omega)
 refine b8 (ah ?_);apply aP rfl<;>intro h
 ·exact ab h (by omega)
 refine aA (ah ?_);apply aP rfl<;>intro h
 ·exact ab h (by omega)
 refine aA (ah ?_);apply aP rfl<;>intro h
 ·exact ab h (by omega)
 refine aA (ah ?_);apply aP rfl<;>intro h
 ·exact ab h (by omega)
 refine aA (ah ?_);apply aP rfl<;>intro h
 ·exact ab h (by omega)
 refine dc (ah ?_);apply aP rfl<;>intro h
 ·exact ab h (by omega)
 refine b8 (ah ?_);refine iN (⟨47,[(1,.mp 0 0),(2,aI 0),(3,.v (.bool false)),(5,aI i.op),(30,.v (.bool true))],[.cells [aI i.to,aI i.op,aI i.n,a6 i.args]]⟩) ?_ ?_
 ·apply aP rfl<;>intro h
  ·refine a8 ?_;show bg _ _;refine zq rfl ?_ ?_;simp -dsimp only[simprocAttr,↓aa,zp,zc]
   ·exact Sub.of_eq (by rw[h])
   rfl
  refine aA (ah ?_);apply aP rfl<;>intro h
  ·refine a8 ?_;show bg _ _;refine zq rfl ?_ ?_;simp -dsimp only[simprocAttr,↓aa,zp,zc]
   ·exact Sub.of_eq (by rw[h])
   rfl
  refine aA (ah ?_);apply aP rfl<;>intro h
  ·refine a8 ?_;show bg _ _;refine zq rfl ?_ ?_;simp -dsimp only[simprocAttr,↓aa,zp,zc]
   ·exact Sub.of_eq (by rw[h])
   rfl
  refine dc ?_;refine bd ?_;show bg _ _;refine zq rfl ?_ ?_;simp -dsimp only[simprocAttr,↓aa,zp,zc]
  ·exact Sub.of_eq (by rw[decide_eq_true (show i.op=14 by simp only[decide_eq_false_iff_not]at *;omega)])
  rfl
 refine cS rfl ?_;refine aA (ah ?_);refine aq ?_;simp -dsimp only[simprocAttr,↓aa,zp,zr,Try.results101];simp[aw,ae.upto]
theorem wV(i:bE)(iT:i.op=22):bw Try.prog 101 [i.enc] (.df [aI (bj i).1,.v (.bool (bj i).2)]):=by
 have hr:bj i=(i.n,decide (i.n=2∨i.n=4)):=by
  unfold bj;rw[if_neg (by omega),if_neg (by omega),if_neg (by omega),if_neg (by omega),if_neg (by omega),if_pos (by omega)]
 rw[hr];by_cases h2:i.n=2
 ·have mv:decide (i.n=2)=true:=decide_eq_true h2;refine zf true 0 Try.func101 Try.ntmps101 ?_;dsimp only[Tmp,TypeId,ax];refine aA (ah ?_);refine b8 (ah ?_);refine aj ?_;refine aA (ah ?_);apply aP rfl<;>intro h
  ·exact ab h (by omega)
  refine b8 (ah ?_);apply aP rfl<;>intro h
  ·exact ab h (by omega)
  refine aA (ah ?_);apply aP rfl<;>intro h
  ·exact ab h (by omega)
  refine aA (ah ?_);apply aP rfl<;>intro h
  ·exact ab h (by omega)
  refine aA (ah ?_);apply aP rfl<;>intro h
  ·exact ab h (by omega)
  refine aA (ah ?_);apply aP rfl<;>intro h
  ·exact ab h (by omega)
  refine aA (ah ?_);apply aP rfl<;>intro h
  ·exact ab h (by omega)
  refine aA (ah ?_);apply aP rfl<;>intro h
  ·exact ab h (by omega)
  refine aA (ah ?_);apply aP rfl<;>intro h
  ·exact ab h (by omega)
  refine aA (ah ?_);apply aP rfl<;>intro h
  ·exact ab h (by omega)
  refine aA (ah ?_);apply aP rfl<;>intro h
  ·exact ab h (by omega)
  refine aA (ah ?_);apply aP rfl<;>intro h
  ·exact ab h (by omega)
  refine dc (ah ?_);apply aP rfl<;>intro h
  ·exact ab h (by omega)
  refine aA (ah ?_);apply aP rfl<;>intro h
  ·exact ab h (by omega)
  refine b8 (ah ?_);apply aP rfl<;>intro h
  ·exact ab h (by omega)
  refine aA (ah ?_);apply aP rfl<;>intro h
  ·exact ab h (by omega)
  refine aA (ah ?_);apply aP rfl<;>intro h
  ·exact ab h (by omega)
  refine aA (ah ?_);apply aP rfl<;>intro h
  ·exact ab h (by omega)
  refine aA (ah ?_);apply aP rfl<;>intro h
  ·exact ab h (by omega)
  refine dc (ah ?_);apply aP rfl<;>intro h
  ·exact ab h (by omega)
  refine b8 (ah ?_);apply aP rfl<;>intro h
  ·exact ab h (by omega)
  refine aA (ah ?_);apply aP rfl<;>intro h
  ·exact ab h (by omega)
  refine aA (ah ?_);apply aP rfl<;>intro h
  ·exact ab h (by omega)
  refine dc (ah ?_);apply aP rfl<;>intro h
  ·exact ab h (by omega)
  refine aA (ah ?_);apply aP rfl<;>intro h
  ·refine aX ?_;simp -dsimp only[simprocAttr,↓aa,zp,mv];refine⟨ob (by kernel_rfl),?_⟩;refine ah ?_;refine aq ?_;simp -dsimp only[simprocAttr,↓aa,zp,zr,Try.results101];simp[aw,ae.upto,h2]
  exact af h (by omega)
 have mv:decide (i.n=2)=false:=decide_eq_false h2;by_cases h4:i.n=4
 ·have Ca:decide (i.n=4)=true:=decide_eq_true h4;refine zf true 0 Try.func101 Try.ntmps101 ?_;dsimp only[Tmp,TypeId,ax];refine aA (ah ?_);refine b8 (ah ?_);refine aj ?_;refine aA (ah ?_);apply aP rfl<;>intro h
  ·exact ab h (by omega)
  refine b8 (ah ?_);apply aP rfl<;>intro h
  ·exact ab h (by omega)
  refine aA (ah ?_);apply aP rfl<;>intro h
  ·exact ab h (by omega)
  refine aA (ah ?_);apply aP rfl<;>intro h
  ·exact ab h (by omega)
  refine aA (ah ?_);apply aP rfl<;>intro h
  ·exact ab h (by omega)
  refine aA (ah ?_);apply aP rfl<;>intro h
  ·exact ab h (by omega)
  refine aA (ah ?_);apply aP rfl<;>intro h
  ·exact ab h (by omega)
  refine aA (ah ?_);apply aP rfl<;>intro h
  ·exact ab h (by omega)
  refine aA (ah ?_);apply aP rfl<;>intro h
  ·exact ab h (by omega)
  refine aA (ah ?_);apply aP rfl<;>intro h
  ·exact ab h (by omega)
  refine aA (ah ?_);apply aP rfl<;>intro h
  ·exact ab h (by omega)
  refine aA (ah ?_);apply aP rfl<;>intro h
  ·exact ab h (by omega)
  refine dc (ah ?_);apply aP rfl<;>intro h
  ·exact ab h (by omega)
  refine aA (ah ?_);apply aP rfl<;>intro h
  ·exact ab h (by omega)
  refine b8 (ah ?_);apply aP rfl<;>intro h
  ·exact ab h (by omega)
  refine aA (ah ?_);apply aP rfl<;>intro h
  ·exact ab h (by omega)
  refine aA (ah ?_);apply aP rfl<;>intro h
  ·exact ab h (by omega)
  refine aA (ah ?_);apply aP rfl<;>intro h
  ·exact ab h (by omega)
  refine aA (ah ?_);apply aP rfl<;>intro h
  ·exact ab h (by omega)
  refine dc (ah ?_);apply aP rfl<;>intro h
  ·exact ab h (by omega)
  refine b8 (ah ?_);apply aP rfl<;>intro h
  ·exact ab h (by omega)
  refine aA (ah ?_);apply aP rfl<;>intro h
  ·exact ab h (by omega)
  refine aA (ah ?_);apply aP rfl<;>intro h
  ·exact ab h (by omega)
  refine dc (ah ?_);apply aP rfl<;>intro h
  ·exact ab h (by omega)
  refine aA (ah ?_);apply aP rfl<;>intro h
  ·refine aX ?_;simp -dsimp only[simprocAttr,↓aa,zp,mv,Ca];refine⟨ob (by kernel_rfl),?_⟩;refine ah ?_;refine aq ?_;simp -dsimp only[simprocAttr,↓aa,zp,zr,Try.results101];simp[aw,ae.upto,h4]
  exact af h (by omega)
 have Ca:decide (i.n=4)=false:=decide_eq_false h4;refine zf true 0 Try.func101 Try.ntmps101 ?_;dsimp only[Tmp,TypeId,ax];refine aA (ah ?_);refine b8 (ah ?_);refine aj ?_;refine aA (ah ?_);apply aP rfl<;>intro h
 ·exact ab h (by omega)
 refine b8 (ah ?_);apply aP rfl<;>intro h
 ·exact ab h (by omega)
 refine aA (ah ?_);apply aP rfl<;>intro h
 ·exact ab h (by omega)
 refine aA (ah ?_);apply aP rfl<;>intro h
 ·exact ab h (by omega)
 refine aA (ah ?_);apply aP rfl<;>intro h
 ·exact ab h (by omega)
 refine aA (ah ?_);apply aP rfl<;>intro h
 ·exact ab h (by omega)
 refine aA (ah ?_);apply aP rfl<;>intro h
 ·exact ab h (by omega)
 refine aA (ah ?_);apply aP rfl<;>intro h
 ·exact ab h (by omega)
 refine aA (ah ?_);apply aP rfl<;>intro h
 ·exact ab h (by omega)
 refine aA (ah ?_);apply aP rfl<;>intro h
 ·exact ab h (by omega)
 refine aA (ah ?_);apply aP rfl<;>intro h
 ·exact ab h (by omega)
 refine aA (ah ?_);apply aP rfl<;>intro h
 ·exact ab h (by omega)
 refine dc (ah ?_);apply aP rfl<;>intro h
 ·exact ab h (by omega)
 refine aA (ah ?_);apply aP rfl<;>intro h
 ·exact ab h (by omega)
 refine b8 (ah ?_);apply aP rfl<;>intro h
 ·exact ab h (by omega)
 refine aA (ah ?_);apply aP rfl<;>intro h
 ·exact ab h (by omega)
 refine aA (ah ?_);apply aP rfl<;>intro h
 ·exact ab h (by omega)
 refine aA (ah ?_);apply aP rfl<;>intro h
 ·exact ab h (by omega)
 refine aA (ah ?_);apply aP rfl<;>intro h
 ·exact ab h (by omega)
 refine dc (ah ?_);apply aP rfl<;>intro h
 ·exact ab h (by omega)
 refine b8 (ah ?_);apply aP rfl<;>intro h
 ·exact ab h (by omega)
 refine aA (ah ?_);apply aP rfl<;>intro h
 ·exact ab h (by omega)
 refine aA (ah ?_);apply aP rfl<;>intro h
 ·exact ab h (by omega)
 refine dc (ah ?_);apply aP rfl<;>intro h
 ·exact ab h (by omega)
 refine aA (ah ?_);apply aP rfl<;>intro h
 ·refine aX ?_;simp -dsimp only[simprocAttr,↓aa,zp,mv,Ca];refine⟨ob (by kernel_rfl),?_⟩;refine ah ?_;refine aq ?_;simp -dsimp only[simprocAttr,↓aa,zp,zr,Try.results101];simp[aw,ae.upto,h2,h4]
 exact af h (by omega)
theorem rI(i:bE):bw Try.prog 101 [i.enc] (.df [aI (bj i).1,.v (.bool (bj i).2)]):=by
 by_cases h0:i.op=0
 ·exact wQ i h0
 by_cases h1:(1<=i.op∧i.op<=7)∨i.op=16∨i.op=18∨i.op=19∨i.op=21∨i.op=23
 ·exact wR i h1
 by_cases h2:i.op=20
 ·exact wS i h2
 by_cases h3:i.op=10∨i.op=11∨i.op=12∨i.op=15∨i.op=17∨i.op=24
 ·exact wT i h3
 by_cases h4:i.op=8∨i.op=9∨i.op=13∨i.op=14
 ·exact wU i h4
 by_cases h5:i.op=22
 ·exact wV i h5
 have hr:bj i=(0,false):=by
  unfold bj;rw[if_neg (by omega),if_neg (by omega),if_neg (by omega),if_neg (by omega),if_neg (by omega),if_neg (by omega)]
 rw[hr];refine zf true 0 Try.func101 Try.ntmps101 ?_;dsimp only[Tmp,TypeId,ax];refine aA (ah ?_);refine b8 (ah ?_);refine aj ?_;refine aA (ah ?_);apply aP rfl<;>intro h
 ·exact ab h (by omega)
 refine b8 (ah ?_);apply aP rfl<;>intro h
 ·exact ab h (by omega)
 refine aA (ah ?_);apply aP rfl<;>intro h
 ·exact ab h (by omega)
 refine aA (ah ?_);apply aP rfl<;>intro h
 ·exact ab h (by omega)
 refine aA (ah ?_);apply aP rfl<;>intro h
 ·exact ab h (by omega)
 refine aA (ah ?_);apply aP rfl<;>intro h
 ·exact ab h (by omega)
 refine aA (ah ?_);apply aP rfl<;>intro h
 ·exact ab h (by omega)
 refine aA (ah ?_);apply aP rfl<;>intro h
 ·exact ab h (by omega)
 refine aA (ah ?_);apply aP rfl<;>intro h
 ·exact ab h (by omega)
 refine aA (ah ?_);apply aP rfl<;>intro h
 ·exact ab h (by omega)
 refine aA (ah ?_);apply aP rfl<;>intro h
 ·exact ab h (by omega)
 refine aA (ah ?_);apply aP rfl<;>intro h
 ·exact ab h (by omega)
 refine dc (ah ?_);apply aP rfl<;>intro h
 ·exact ab h (by omega)
 refine aA (ah ?_);apply aP rfl<;>intro h
 ·exact ab h (by omega)
 refine b8 (ah ?_);apply aP rfl<;>intro h
 ·exact ab h (by omega)
 refine aA (ah ?_);apply aP rfl<;>intro h
 ·exact ab h (by omega)
 refine aA (ah ?_);apply aP rfl<;>intro h
 ·exact ab h (by omega)
 refine aA (ah ?_);apply aP rfl<;>intro h
 ·exact ab h (by omega)
 refine aA (ah ?_);apply aP rfl<;>intro h
 ·exact ab h (by omega)
 refine dc (ah ?_);apply aP rfl<;>intro h
 ·exact ab h (by omega)
 refine b8 (ah ?_);apply aP rfl<;>intro h
 ·exact ab h (by omega)
 refine aA (ah ?_);apply aP rfl<;>intro h
 ·exact ab h (by omega)
 refine aA (ah ?_);apply aP rfl<;>intro h
 ·exact ab h (by omega)
 refine dc (ah ?_);apply aP rfl<;>intro h
 ·exact ab h (by omega)
 refine aA (ah ?_);apply aP rfl<;>intro h
 ·exact ab h (by omega)
 refine jR ?_;refine aA (ah ?_);refine aq ?_;simp -dsimp only[simprocAttr,↓aa,zp,zr,Try.results101];simp[aw,ae.upto]
theorem As(i:bE)(iT:i.op=0):bw Try.prog 102 [i.enc] (.v (.bool (cC i))):=by
 have hr:cC i=decide (fp i.n):=by
  unfold cC;rw[if_pos (by omega)]
 rw[hr];refine zf true 0 Try.func102 Try.ntmps102 ?_;dsimp only[Tmp,TypeId,ax];refine aA (ah ?_);refine b8 (ah ?_);refine aj ?_;refine aA (ah ?_);apply aP rfl<;>intro h
 ·refine aA ?_;refine zi (o6 i.n) ?_;refine ah ?_;refine aq ?_;simp -dsimp only[simprocAttr,↓aa,zp,zr,Try.results102]
 exact af h (by omega)
theorem Au(i:bE)(iT:i.op=8):bw Try.prog 102 [i.enc] (.v (.bool (cC i))):=by
 have hr:cC i=within i.n 0 255:=by
  unfold cC;rw[if_neg (by omega),if_pos (by omega)]
 rw[hr];refine zf true 0 Try.func102 Try.ntmps102 ?_;dsimp only[Tmp,TypeId,ax];refine aA (ah ?_);refine b8 (ah ?_);refine aj ?_;refine aA (ah ?_);apply aP rfl<;>intro h
 ·exact ab h (by omega)
 refine aA (ah ?_);apply aP rfl<;>intro h
 ·refine aA ?_;refine zi (dN i.n 0 255) ?_;refine ah ?_;refine aq ?_;simp -dsimp only[simprocAttr,↓aa,zp,zr,Try.results102]
 exact af h (by omega)
theorem Aw(i:bE)(iT:i.op=11):bw Try.prog 102 [i.enc] (.v (.bool (cC i))):=by
 have hr:cC i=within i.n 0 15:=by
  unfold cC;rw[if_neg (by omega),if_neg (by omega),if_pos (by omega)]
 rw[hr];refine zf true 0 Try.func102 Try.ntmps102 ?_;dsimp only[Tmp,TypeId,ax];refine aA (ah ?_);refine b8 (ah ?_);refine aj ?_;refine aA (ah ?_);apply aP rfl<;>intro h
 ·exact ab h (by omega)
 refine aA (ah ?_);apply aP rfl<;>intro h
 ·exact ab h (by omega)
 refine aA (ah ?_);apply aP rfl<;>intro h
 ·refine aA ?_;refine zi (dN i.n 0 15) ?_;refine ah ?_;refine aq ?_;simp -dsimp only[simprocAttr,↓aa,zp,zr,Try.results102]
 exact af h (by omega)
theorem Ax(i:bE)(iT:i.op=9∨i.op=13):bw Try.prog 102 [i.enc] (.v (.bool (cC i))):=by
 have hr:cC i=within i.n 0 255:=by
  unfold cC;rw[if_neg (by omega),if_neg (by omega),if_neg (by omega),if_pos (by omega)]
 rw[hr];refine zf true 0 Try.func102 Try.ntmps102 ?_;dsimp only[Tmp,TypeId,ax];refine aA (ah ?_);refine b8 (ah ?_);refine aj ?_;refine aA (ah ?_);apply aP rfl<;>intro h
 ·exact ab h (by omega)
 refine aA (ah ?_);apply aP rfl<;>intro h
 ·exact ab h (by omega)
 refine aA (ah ?_);apply aP rfl<;>intro h
 ·exact ab h (by omega)
 refine b8 (ah ?_);refine iN (⟨51,[(1,.mp 0 0),(2,.v (.bool false)),(4,aI i.op),(20,.v (.bool true))],[.cells [aI i.to,aI i.op,aI i.n,a6 i.args]]⟩) ?_ ?_
 ·apply aP rfl<;>intro h
  ·refine a8 ?_;show bg _ _;refine zq rfl ?_ ?_;simp -dsimp only[simprocAttr,↓aa,zp,zc]
   ·exact Sub.of_eq (by rw[h])
   rfl
  refine dc ?_;refine bd ?_;show bg _ _;refine zq rfl ?_ ?_;simp -dsimp only[simprocAttr,↓aa,zp,zc]
  ·exact Sub.of_eq (by rw[decide_eq_true (show i.op=13 by simp only[decide_eq_false_iff_not]at *;omega)])
  rfl
 refine cS rfl ?_;refine aA ?_;refine zi (dN i.n 0 255) ?_;refine ah ?_;refine aq ?_;simp -dsimp only[simprocAttr,↓aa,zp,zr,Try.results102]
theorem Ay(i:bE)(iT:i.op=23):bw Try.prog 102 [i.enc] (.v (.bool (cC i))):=by
 have hr:cC i=decide (i.n=1∨i.n=2∨i.n=3):=by
  unfold cC;rw[if_neg (by omega),if_neg (by omega),if_neg (by omega),if_neg (by omega),if_pos (by omega)]
 rw[hr];by_cases h1:i.n=1
 ·have nN:decide (i.n=1)=true:=decide_eq_true h1;refine zf true 0 Try.func102 Try.ntmps102 ?_;dsimp only[Tmp,TypeId,ax];refine aA (ah ?_);refine b8 (ah ?_);refine aj ?_;refine aA (ah ?_);apply aP rfl<;>intro h
  ·exact ab h (by omega)
  refine aA (ah ?_);apply aP rfl<;>intro h
  ·exact ab h (by omega)
  refine aA (ah ?_);apply aP rfl<;>intro h
  ·exact ab h (by omega)
  refine b8 (ah ?_);apply aP rfl<;>intro h
  ·exact ab h (by omega)
  refine dc (ah ?_);apply aP rfl<;>intro h
  ·exact ab h (by omega)
  refine aA (ah ?_);apply aP rfl<;>intro h
  ·refine aX ?_;simp -dsimp only[simprocAttr,↓aa,zp,nN];refine ah ?_;refine aq ?_;simp -dsimp only[simprocAttr,↓aa,zp,zr,Try.results102];simp[h1]
  exact af h (by omega)
 have nN:decide (i.n=1)=false:=decide_eq_false h1;by_cases h2:i.n=2
 ·have mv:decide (i.n=2)=true:=decide_eq_true h2;refine zf true 0 Try.func102 Try.ntmps102 ?_;dsimp only[Tmp,TypeId,ax];refine aA (ah ?_);refine b8 (ah ?_);refine aj ?_;refine aA (ah ?_);apply aP rfl<;>intro h
  ·exact ab h (by omega)
  refine aA (ah ?_);apply aP rfl<;>intro h
  ·exact ab h (by omega)
  refine aA (ah ?_);apply aP rfl<;>intro h
  ·exact ab h (by omega)
  refine b8 (ah ?_);apply aP rfl<;>intro h
  ·exact ab h (by omega)
  refine dc (ah ?_);apply aP rfl<;>intro h
  ·exact ab h (by omega)
  refine aA (ah ?_);apply aP rfl<;>intro h
  ·refine aX ?_;simp -dsimp only[simprocAttr,↓aa,zp,nN,mv];refine ah ?_;refine aq ?_;simp -dsimp only[simprocAttr,↓aa,zp,zr,Try.results102];simp[h2]
  exact af h (by omega)
 have mv:decide (i.n=2)=false:=decide_eq_false h2;refine zf true 0 Try.func102 Try.ntmps102 ?_;dsimp only[Tmp,TypeId,ax];refine aA (ah ?_);refine b8 (ah ?_);refine aj ?_;refine aA (ah ?_);apply aP rfl<;>intro h
 ·exact ab h (by omega)
 refine aA (ah ?_);apply aP rfl<;>intro h
 ·exact ab h (by omega)
 refine aA (ah ?_);apply aP rfl<;>intro h
 ·exact ab h (by omega)
 refine b8 (ah ?_);apply aP rfl<;>intro h
 ·exact ab h (by omega)
 refine dc (ah ?_);apply aP rfl<;>intro h
 ·exact ab h (by omega)
 refine aA (ah ?_);apply aP rfl<;>intro h
 ·refine aX ?_;simp -dsimp only[simprocAttr,↓aa,zp,nN,mv];refine ah ?_;refine aq ?_;simp -dsimp only[simprocAttr,↓aa,zp,zr,Try.results102];simp[h1,h2]
 exact af h (by omega)
theorem Az(i:bE)(iT:i.op=24):bw Try.prog 102 [i.enc] (.v (.bool (cC i))):=by
 have hr:cC i=within i.n 0 3:=by
  unfold cC;rw[if_neg (by omega),if_neg (by omega),if_neg (by omega),if_neg (by omega),if_neg (by omega),if_pos (by omega)]
 rw[hr];refine zf true 0 Try.func102 Try.ntmps102 ?_;dsimp only[Tmp,TypeId,ax];refine aA (ah ?_);refine b8 (ah ?_);refine aj ?_;refine aA (ah ?_);apply aP rfl<;>intro h
 ·exact ab h (by omega)
 refine aA (ah ?_);apply aP rfl<;>intro h
 ·exact ab h (by omega)
 refine aA (ah ?_);apply aP rfl<;>intro h
 ·exact ab h (by omega)
 refine b8 (ah ?_);apply aP rfl<;>intro h
 ·exact ab h (by omega)
 refine dc (ah ?_);apply aP rfl<;>intro h
 ·exact ab h (by omega)
 refine aA (ah ?_);apply aP rfl<;>intro h
 ·exact ab h (by omega)
 refine aA (ah ?_);apply aP rfl<;>intro h
 ·refine aA ?_;refine zi (dN i.n 0 3) ?_;refine ah ?_;refine aq ?_;simp -dsimp only[simprocAttr,↓aa,zp,zr,Try.results102]
 exact af h (by omega)
theorem AA(i:bE)(iT:i.op=22):bw Try.prog 102 [i.enc] (.v (.bool (cC i))):=by
 have hr:cC i=true:=by
  unfold cC;rw[if_neg (by omega),if_neg (by omega),if_neg (by omega),if_neg (by omega),if_neg (by omega),if_neg (by omega),if_pos (by omega)]
 rw[hr];refine zf true 0 Try.func102 Try.ntmps102 ?_;dsimp only[Tmp,TypeId,ax];refine aA (ah ?_);refine b8 (ah ?_);refine aj ?_;refine aA (ah ?_);apply aP rfl<;>intro h
 ·exact ab h (by omega)
 refine aA (ah ?_);apply aP rfl<;>intro h
 ·exact ab h (by omega)
 refine aA (ah ?_);apply aP rfl<;>intro h
 ·exact ab h (by omega)
 refine b8 (ah ?_);apply aP rfl<;>intro h
 ·exact ab h (by omega)
 refine dc (ah ?_);apply aP rfl<;>intro h
 ·exact ab h (by omega)
 refine aA (ah ?_);apply aP rfl<;>intro h
 ·exact ab h (by omega)
 refine aA (ah ?_);apply aP rfl<;>intro h
 ·exact ab h (by omega)
 refine aA (ah ?_);apply aP rfl<;>intro h
 ·refine aA (ah ?_);refine aq ?_;simp -dsimp only[simprocAttr,↓aa,zp,zr,Try.results102]
 exact af h (by omega)
theorem uS(i:bE):bw Try.prog 102 [i.enc] (.v (.bool (cC i))):=by
 by_cases h0:i.op=0
 ·exact As i h0
 by_cases h1:i.op=8
 ·exact Au i h1
 by_cases h2:i.op=11
 ·exact Aw i h2
 by_cases h3:i.op=9∨i.op=13
 ·exact Ax i h3
 by_cases h4:i.op=23
 ·exact Ay i h4
 by_cases h5:i.op=24
 ·exact Az i h5
 by_cases h6:i.op=22
 ·exact AA i h6
 have hr:cC i=decide (i.n=0):=by
  unfold cC;rw[if_neg (by omega),if_neg (by omega),if_neg (by omega),if_neg (by omega),if_neg (by omega),if_neg (by omega),if_neg (by omega)]
 rw[hr];refine zf true 0 Try.func102 Try.ntmps102 ?_;dsimp only[Tmp,TypeId,ax];refine aA (ah ?_);refine b8 (ah ?_);refine aj ?_;refine aA (ah ?_);apply aP rfl<;>intro h
 ·exact ab h (by omega)
 refine aA (ah ?_);apply aP rfl<;>intro h
 ·exact ab h (by omega)
 refine aA (ah ?_);apply aP rfl<;>intro h
 ·exact ab h (by omega)
 refine b8 (ah ?_);apply aP rfl<;>intro h
 ·exact ab h (by omega)
 refine dc (ah ?_);apply aP rfl<;>intro h
 ·exact ab h (by omega)
 refine aA (ah ?_);apply aP rfl<;>intro h
 ·exact ab h (by omega)
 refine aA (ah ?_);apply aP rfl<;>intro h
 ·exact ab h (by omega)
 refine aA (ah ?_);apply aP rfl<;>intro h
 ·exact ab h (by omega)
 refine jR ?_;refine aA (ah ?_);refine aq ?_;simp -dsimp only[simprocAttr,↓aa,zp,zr,Try.results102]
def uq(i:bE)(many:Int)(known:Bool):Bool:=(!known ||(decide (0<=many)&&!decide ((i.args.length:Int)=many))) ||(decide (i.op=14)&&decide ((i.args.length:Int)=0))
def qg(i:bE):Bool:=(decide (i.op=8) ||decide (i.op=9))&&decide ((16:Int)<i.args.length)
def ur(i:bE):Bool:=(decide (i.op=13) ||decide (i.op=14))&&decide ((6:Int)<i.args.length)
def jg(i:bE):Int:=if uq i (bj i).1 (bj i).2 then 3 else if qg i ||ur i then 2 else if cC i then 0 else 4
theorem rT(i:bE):bw Try.prog 77 [i.enc] (aI (jg i)):=by
 have iT:=rI i;have H0:=uS i;unfold jg;generalize bj i=r at *;obtain⟨many,known⟩:=r;simp only at iT ⊢;generalize cC i=nb at *;refine zf true 0 Try.func77 Try.ntmps77 ?_;dsimp only[Tmp,TypeId,ax];refine aA (ah ?_);refine aA ?_;refine zi iT ?_;refine ah ?_;refine aK (aj ?_);refine gI (⟨68,[(1,.mp 0 0),(2,aI 0),(10,.v (.bool (uq i many known)))],[.cells [aI i.to,aI i.op,aI i.n,a6 i.args]]⟩) ?_ ?_
 ·cases known<;>cases hA:decide ((0:Int)<=many)<;>cases hB:decide ((i.args.length:Int)=many)<;>cases hC:decide (i.op=14)<;>cases hD:decide ((i.args.length:Int)=0)
  all_goals
   refine jz hT hm ?_;simp -dsimp only[simprocAttr,↓aa,zp,hA,hB,hC,hD];refine bd ?_;show bg _ _;refine zq rfl ?_ ?_;simp -dsimp only[simprocAttr,↓aa,zp,zc]
   ·exact Sub.of_eq (by unfold uq;rw[hA,hB,hC,hD];rfl)
   rfl
 cases Ke:uq i many known
 ·refine cE rfl ?_;refine gI (⟨68,[(1,.mp 0 0),(2,aI 0),(35,.v (.bool (qg i ||ur i)))],[.cells [aI i.to,aI i.op,aI i.n,a6 i.args]]⟩) ?_ ?_
  ·refine gI (⟨68,[(1,.mp 0 0),(2,aI 0),(35,.v (.bool (qg i)))],[.cells [aI i.to,aI i.op,aI i.n,a6 i.args]]⟩) ?_ ?_
   ·cases hA:decide (i.op=8)<;>cases hB:decide (i.op=9)<;>cases hC:decide ((16:Int)<i.args.length)
    all_goals
     refine jz hT hm ?_;simp -dsimp only[simprocAttr,↓aa,zp,hA,hB,hC];refine bd ?_;show bg _ _;refine zq rfl ?_ ?_;simp -dsimp only[simprocAttr,↓aa,zp,zc]
     ·exact Sub.of_eq (by unfold qg;rw[hA,hB,hC];rfl)
     rfl
   cases Kf:qg i
   ·refine cE rfl ?_;cases hA:decide (i.op=13)<;>cases hB:decide (i.op=14)<;>cases hC:decide ((6:Int)<i.args.length)
    all_goals
     refine jz hT hm ?_;simp -dsimp only[simprocAttr,↓aa,zp,hA,hB,hC];refine bd ?_;show bg _ _;refine zq rfl ?_ ?_;simp -dsimp only[simprocAttr,↓aa,zp,zc]
     ·exact Sub.of_eq (by unfold ur;rw[hA,hB,hC];rfl)
     rfl
   refine cS rfl ?_;refine a8 ?_;show bg _ _;refine zq rfl ?_ ?_;simp -dsimp only[simprocAttr,↓aa,zp,zc]
   ·exact Sub.refl _
   rfl
  cases IH:(qg i ||ur i)
  ·refine cE rfl ?_;refine aA ?_;refine zi H0 ?_;refine ah ?_;cases Kh:nb
   ·refine cS rfl ?_;refine aA (ah ?_);refine aq ?_;simp -dsimp only[simprocAttr,↓aa,zp,zr,Try.results77]
   refine cE rfl ?_;refine jR ?_;refine aA (ah ?_);refine aq ?_;simp -dsimp only[simprocAttr,↓aa,zp,zr,Try.results77]
  refine cS rfl ?_;refine aA (ah ?_);refine aq ?_;simp -dsimp only[simprocAttr,↓aa,zp,zr,Try.results77]
 refine cS rfl ?_;refine aA (ah ?_);refine aq ?_;simp -dsimp only[simprocAttr,↓aa,zp,zr,Try.results77]
theorem dA{O:List ak}{k:Nat}{y:ak}(h:O[k]?=some y)(x:ak):(O.set k x)[k]?=some x:=List.getElem?_set_self (I h)
theorem bq{O:List ak}{n k:Nat}{cs ds:List ae}(h:∀o∈O,o.upto n)(hk:O[k]?=some (.cells cs))(hd:aw n cs->aw n ds):∀o∈O.set k (.cells ds),o.upto n :=
 bF h (hd (h _ (List.mem_of_getElem? hk)))
theorem b9{n:Nat}{u v:bR}{m p:Mach}(h:aw n (aC u m))(hs:p.sid=m.sid):aw n (aC v p):=by
 simp only[aC,aw,ae.upto,az,Func.ai,true_and,and_true]at h ⊢;rw[hs];exact h
theorem mA(m:Mach)(n:Int):(m.cR n).sid=m.sid:=by
 unfold Mach.cR;split<;>rfl
theorem qE{u:bR}{m:Mach}{O:List ak}(bC:∀o∈O,o.upto O.length)(h0:O[2]?=some (.cells (aC u m)))(n:Int)(h1:0<=m.left)(h2:m.left<=2 ^ 40)(h3:0<=n) :
  bc Try.prog 60 O [.mp 2 0,aI n] (fun r O'=>r=.df []∧O'=O.set 2 (.cells (aC u (m.cR n)))):=by
 have hs:=dA h0;have lG:=bq bC h0 (ds:=aC u (m.cR n)) (fun h=>b9 h (mA m n));have iz:=cG (O:=O) (k:=2) (x:=.cells (aC u (m.cR n)));unfold aC at h0;by_cases hc:m.left<n
 ·have hd:decide (m.left<n)=true:=decide_eq_true hc;have hp:[a9 u.fns,aI u.main,.os m.sid m.frames.length 1,aI m.left,.v (.bool true),.v (.bool true),.aE 1 (m.out.map aI) (.tok 3),aI m.fin,aI m.val]=aC u (m.cR n):=by
   simp[Mach.cR,hc,aC]
  refine zf true O.length Try.func60 Try.ntmps60 ?_;dsimp only[Tmp,TypeId,ax];refine dd ?_;simp -dsimp only[simprocAttr,↓aa,zp,h0];refine ah ?_;apply aP rfl<;>intro h
  ·refine aX ?_;simp -dsimp only[simprocAttr,↓aa,zp,h0,hs,List.set_set,hp];refine ah ?_;refine aq ?_;simp -dsimp only[simprocAttr,↓aa,zp,zr,Try.results60,iz,List.length_set];exact⟨lG,trivial⟩
  simp[hd]at h
 have hd:decide (m.left<n)=false:=decide_eq_false hc;have hp:[a9 u.fns,aI u.main,.os m.sid m.frames.length 1,aI (m.left-n),.v (.bool m.short),.v (.bool m.over),.aE 1 (m.out.map aI) (.tok 3),aI m.fin,aI m.val]=aC u (m.cR n):=by
  simp[Mach.cR,hc,aC]
 refine zf true O.length Try.func60 Try.ntmps60 ?_;dsimp only[Tmp,TypeId,ax];refine dd ?_;simp -dsimp only[simprocAttr,↓aa,zp,h0];refine ah ?_;apply aP rfl<;>intro h
 ·simp[hd]at h
 refine cA ?_;refine j1 ?_;simp -dsimp only[simprocAttr,↓aa,zp,h0,hs,List.set_set,hp]
 repeat(refine⟨by omega,?_⟩)
 refine bd ?_;simp -dsimp only[simprocAttr,↓aa,zp,zr,Try.results60,iz,List.length_set];exact⟨lG,trivial⟩
theorem ju{u:bR}{m:Mach}{O:List ak}(bC:∀o∈O,o.upto O.length)(h0:O[2]?=some (.cells (aC u m)))(e n:Int) :
  bc Try.prog 74 O [.mp 2 0,aI e,aI n] (fun r O'=>r=.df []∧O'=O.set 2 (.cells (aC u (m.stop e n)))):=by
 have hs:=dA h0;have lG:=bq bC h0 (ds:=aC u (m.stop e n)) (fun h=>b9 h rfl);have iz:=cG (O:=O) (k:=2) (x:=.cells (aC u (m.stop e n)));unfold aC at h0;have hp:[a9 u.fns,aI u.main,.os m.sid m.frames.length 1,aI m.left,.v (.bool m.short),.v (.bool true),.aE 1 (m.out.map aI) (.tok 3),aI e,aI n]=aC u (m.stop e n):=rfl;refine zf true O.length Try.func74 Try.ntmps74 ?_;dsimp only[Tmp,TypeId,ax];refine aX ?_;simp -dsimp only[simprocAttr,↓aa,zp,h0];refine ah ?_;refine j1 ?_;simp -dsimp only[simprocAttr,↓aa,zp,hs,List.set_set,hp];refine bd ?_;simp -dsimp only[simprocAttr,↓aa,zp,zr,Try.results74,iz,List.length_set];exact⟨lG,trivial⟩
theorem kZ{sz:Nat}{xs:List ae}(h:∀x∈xs,x.cells.length=sz){k:Nat}(hk:k<xs.length){y:ae}(hy:y.cells.length=sz):aS (ao xs) (k*sz) y.cells=ao (xs.set k y):=by
 induction xs generalizing k with
 | nil=>simp at hk
 | cons p r ih =>
  have hp:=h p (by simp);cases k with
  | zero =>
   simp only[List.set_cons_zero,ao,List.flatMap_cons,aS,Nat.zero_mul,List.take_zero,List.nil_append,Nat.zero_add,hy];rw[List.drop_append_of_le_length (by omega),List.drop_of_length_le (by omega)];rfl
  | succ k =>
   have:=ih (fun x hx=>h x (by simp[hx])) (k:=k) (by simpa using hk);have e1:(k+1)*sz-sz=k*sz:=by rw[Nat.succ_mul];omega
   have e2:(k+1)*sz+sz-sz=k*sz+sz:=by rw[Nat.succ_mul];omega
   have e3:sz<=(k+1)*sz:=by rw[Nat.succ_mul];omega
   simp only[List.set_cons_succ,ao,List.flatMap_cons,aS,hy]at this ⊢;rw[List.take_append,List.drop_append,hp,List.take_of_length_le (by omega),List.drop_of_length_le (by omega),e1,e2,List.nil_append,List.append_assoc,this]
def iW(es:List (Int×SV))(k:Int):ae:=(Option.map SV.enc (gq es k)).getD (.agg [aI 0,aI 0,.aE 4 [] .ex,.v (.pointer none)])
theorem qF(es:List (Int×SV))(k:Int):(iW es k).share=(cZ es k).enc:=by
 unfold iW cZ;cases gq es k with
 | none=>rfl
 | some v=>exact v.an
theorem fu(es:List (Int×SV))(k:Int):(iW es k).cells.length=4:=by
 unfold iW;cases gq es k with
 | none=>rfl
 | some v=>exact v.dj
theorem iE(es:List (Int×SV))(k:Int):(iW es k).flat:=by
 unfold iW;cases gq es k with
 | none=>trivial
 | some v=>exact v.av
def od(es:List (Int×SV))(l:List Int)(k:Nat):List ae:=(l.take k).map (iW es)++List.replicate (l.length-k) (.agg [aI 0,aI 0,.aE 4 [] .ex,.v (.pointer none)])
theorem qI{es:List (Int×SV)}{l:List Int}{k:Nat}(h:k<=l.length):(od es l k).length=l.length:=by
 simp[od];omega
theorem nf{es:List (Int×SV)}{l:List Int}{k:Nat}:∀x∈od es l k,x.cells.length=4:=fun x hx=>by
 simp only[od,List.mem_append,List.mem_map,List.mem_replicate]at hx;rcases hx with⟨v,_,rfl⟩|⟨_,rfl⟩
 ·exact fu es v
 rfl
theorem yC(es:List (Int×SV))(l:List Int):ao (od es l 0)=(List.replicate l.length [aI 0,aI 0,.aE 4 [] .ex,.v (.pointer none)]).flatten:=by
 simp[od,ao,List.flatMap,ae.cells]
theorem yB{es:List (Int×SV)}{l:List Int}{k:Nat}{v:Int}(h:l[k]?=some v):(od es l k).set k (iW es v)=od es l (k+1):=by
 have aZ:=I h;obtain⟨j,hj⟩:∃j,l.length-k=j+1:=⟨l.length-k-1,by omega⟩
 have e:l.take (k+1)=l.take k++[v]:=by rw[List.take_add_one,h];rfl
 have ek:((l.take k).map (iW es)).length=k:=by simp;omega
 unfold od;rw[e,hj,show l.length-(k+1)=j by omega,List.set_append_right _ _ (by omega),ek,Nat.sub_self];simp[List.replicate_succ]
theorem AH(es:List (Int×SV))(l:List Int):(ao (od es l l.length)).map ae.bk=ao ((bN es l).map SV.enc):=by
 rw[<-fi];simp only[od,Nat.sub_self,List.replicate_zero,List.append_nil,List.take_length,bN,List.map_map];congr 1;apply List.map_congr_left;intro v _;exact qF es v
theorem iv{es:List (Int×SV)}{n:Nat}(h:∀e∈es,SV.bh n e.2)(k:Int):SV.bh n (cZ es k):=by
 unfold cZ;cases hl:gq es k with
 | none=>exact .mk (by simp) (by simp)
 | some v =>
  obtain⟨e,h1,rfl⟩:=sb hl;exact h e h1
theorem l9{es:List (Int×SV)}{n:Nat}(h:∀e∈es,SV.bh n e.2)(l:List Int):∀v∈bN es l,SV.bh n v:=fun v hv=>by
 obtain⟨k,_,rfl⟩:=List.mem_map.1 hv;exact iv h k
theorem iH{f:Fr}{O:List ak}(bC:∀o∈O,o.upto O.length)(hf:O[f.bP]?=some (.cells (aV f)))(hv:O[f.di]?=some (.map (.int .i64) (f.vals.map gi)))(hu:∀e∈f.vals,SV.bh O.length e.2)(l:List Int)(hl:l.length<=4096) :
  bc Try.prog 73 O [.mp f.bP 0,a6 l] (fun r O'=>r=.aE 4 ((bN f.vals l).map SV.enc) .sh∧O'=O):=by
 have eg:=SV.ai (l9 hu l);have gK:∀X:List ak,(O++X)[f.bP]?=some (.cells (aV f)):=fun X=>bJ hf;have FU:∀X:List ak,(O++X)[f.di]?=some (.map (.int .i64) (f.vals.map gi)):=fun X=>bJ hv;unfold aV at gK;refine zf true O.length Try.func73 Try.ntmps73 ?_;dsimp only[Tmp,TypeId,ax];refine aA (ah ?_);refine aA ?_
 repeat(refine⟨by omega,?_⟩)
 refine ah ?_;refine b8 (ah ?_);refine aj (aU (ι:={k:Nat // k<=l.length}) (fun k=>⟨29,[(0,.mp f.bP 0),(5,.ms O.length 0 l.length l.length),(11,a6 l),(12,aI l.length),(13,aI k.1)],O++[.cells (ao (od f.vals l k.1))]⟩) (fun k=>l.length-k.1) ⟨0,by omega⟩ ?_ ?_)
 ·refine zq rfl ?_ ?_;simp -dsimp only[simprocAttr,↓aa,zp,zc];rw[yC]
 rintro⟨k,hk⟩;refine aA (ah ?_);apply gW rfl<;>intro h
 ·refine cA ?_;have aZ:k<l.length:=by simpa using h
  obtain⟨v,sT⟩:∃v,l[k]?=some v:=⟨l[k],by simp[aZ]⟩
  have qy:(Option.map SV.enc (gq f.vals v)).getD (.agg [aI 0,aI 0,.aE 4 [] .ex,.v (.pointer none)])=iW f.vals v:=rfl;have dp:=bO (nf (es:=f.vals) (l:=l) (k:=k));rw[qI hk]at dp;have gw:=kZ (nf (es:=f.vals) (l:=l) (k:=k)) (k:=k) (by rw[qI hk];exact aZ) (fu f.vals v);rw[yB sT]at gw;have hn:=gF O (ak.cells (ao (od f.vals l k)));have dD:=fun y=>qM O (ak.cells (ao (od f.vals l k))) y;refine aK (aj ?_);refine aX ?_;simp -dsimp only[simprocAttr,↓aa,zp,sT];refine ah ?_;refine j1 ?_;simp -dsimp only[simprocAttr,↓aa,zp,gK,FU,kE,qy,hn,dD,iE,fu,dp,gw]
  repeat(refine⟨by omega,?_⟩)
  refine ah ?_;refine dc ?_
  repeat(refine⟨by omega,?_⟩)
  refine fV ?_;refine⟨⟨k+1,aZ⟩,by simp;omega,?_⟩;refine zq rfl ?_ ?_;simp -dsimp only[simprocAttr,↓aa,zp,zc]
  ·exact Sub.int (by simp)
  rfl
 refine aR ?_;simp -dsimp only[bX,ne_eq,Nat.reduceEqDiff,reduceCtorEq];have gT:k=l.length:=by simp at h;omega
 subst gT;refine vB 5 (sz:=4) ((bN f.vals l).map SV.enc) [(5,.aE 4 ((bN f.vals l).map SV.enc) .sh)] rfl ?_ ?_ ?_ (by omega) (by simp[bu,a7,Go.Av.look]) ?_ ?_ ?_
 ·intro x hx;obtain⟨y,_,rfl⟩:=List.mem_map.1 hx;exact y.dj
 ·simp[bN]
 ·rw[<-AH,List.take_of_length_le];rw[bO nf,qI hk];exact Nat.le_refl _
 ·exact bC
 ·intro p hp;simp only[List.mem_singleton]at hp;subst hp;exact⟨eg,trivial⟩
 refine aA (ah ?_);refine aq ?_;simp -dsimp only[simprocAttr,↓aa,zp,zr,Try.results73,List.take_length];exact⟨bC,eg⟩
theorem c9(n:Int):bw Try.prog 95 [aI n] (SV.word n).enc:=by
 refine zf true 0 Try.func95 Try.ntmps95 ?_;dsimp only[Tmp,TypeId,ax];refine aA (ah ?_);refine aA (ah ?_);refine aq ?_;simp -dsimp only[simprocAttr,↓aa,zp,zr,Try.results95];simp[SV.word,SV.iu,eP,aw,ae.upto]
theorem qQ(b:Bool):bw Try.prog 120 [.v (.bool b)] (SV.word (if b then 1 else 0)).enc:=by
 have h1:=c9 1;have h0:=c9 0;have c1:(SV.word 1).enc.cells=[aI 0,aI 1,.aE 4 [] .sh,.v (.pointer none)]:=rfl;have c0:(SV.word 0).enc.cells=[aI 0,aI 0,.aE 4 [] .sh,.v (.pointer none)]:=rfl;refine zf true 0 Try.func120 Try.ntmps120 ?_;dsimp only[Tmp,TypeId,ax];refine aA (ah ?_);refine b8 (ah ?_);apply aP rfl<;>intro h
 ·refine aA ?_;refine .inl ⟨_,h1,by simp only[aw,ae.upto,zt],au ?_⟩;simp -dsimp only[simprocAttr,↓aa,zp,c1];refine ah ?_;refine aq ?_;simp -dsimp only[simprocAttr,↓aa,zp,zr,Try.results120];subst h;exact⟨by simp[aw,ae.upto],rfl⟩
 refine cA ?_;refine aA ?_;refine .inl ⟨_,h0,by simp only[aw,ae.upto,zt],au ?_⟩;simp -dsimp only[simprocAttr,↓aa,zp,c0];refine ah ?_;refine aq ?_;simp -dsimp only[simprocAttr,↓aa,zp,zr,Try.results120];subst h;exact⟨by simp[aw,ae.upto],rfl⟩
theorem y6{O:List ak}(bC:∀o∈O,o.upto O.length)(l:List SV)(hl:∀v∈l,SV.bh O.length v)(k:Int):bc Try.prog 96 O [.aE 4 (l.map SV.enc) .sh,aI k] (fun r O'=>r=.v (.bool (jw l k))∧O'=O):=by
 refine zf true O.length Try.func96 Try.ntmps96 ?_;dsimp only[Tmp,TypeId,ax];refine aA (ah ?_);refine b8 (ah ?_);refine ff 7 rfl (fun hlen=>?_);simp only[List.length_map]at hlen;refine aj (aU (ι:={j:Nat // j<=l.length∧∀v∈l.take j,v.kind=k}) (fun j=>⟨18,[(1,aI k),(4,.v (.bool false)),(7,.aE 4 (l.map SV.enc) .sh),(8,aI l.length),(9,aI j.1)],O⟩) (fun j=>l.length-j.1) ⟨0,by omega,by simp⟩ ?_ ?_)
 ·refine zq rfl ?_ ?_;simp -dsimp only[simprocAttr,↓aa,zp,zc];rfl
 rintro⟨j,hj,cM⟩;refine aA (ah ?_);apply gW rfl<;>intro h
 ·refine cA ?_;have aZ:j<l.length:=by simpa using h
  obtain⟨v,hv⟩:∃v,l[j]?=some v:=⟨l[j],by simp[aZ]⟩
  have m8:=(hl v (List.mem_of_getElem? hv)).aN;rw[SV.fI]at m8;refine aK (aj ?_);refine aX ?_;simp -dsimp only[simprocAttr,↓aa,zp,hv];refine ah ?_;refine aO 6 ([aI v.kind,aI v.n,.aE 4 (v.list.map SV.enc) .sh,eP v.arr]) [(1,aI k),(4,.v (.bool false)),(6,.ip none [aI v.kind,aI v.n,.aE 4 (v.list.map SV.enc) .sh,eP v.arr]),(7,.aE 4 (l.map SV.enc) .sh),(8,aI l.length),(9,aI j)] rfl (by simp only[List.map_cons,List.map_nil,cT,cg,dJ,dK,dI,dG,dH,cx]) (by omega) (by simp[bu,a7,Go.Av.look]) ?_ ?_ ?_
  ·exact bC
  ·intro p hp;simp only[List.mem_cons,List.mem_nil_iff,or_false]at hp;have JG:=SV.ai hl;rcases hp with rfl|rfl|rfl|rfl|rfl|rfl
   ·trivial
   ·trivial
   ·exact m8
   ·exact⟨JG,trivial⟩
   ·trivial
   trivial
  refine aA (ah ?_);apply aP rfl<;>intro h
  ·refine aA (ah ?_);refine aq ?_;simp -dsimp only[simprocAttr,↓aa,zp,zr,Try.results96];have hk:v.kind≠k:=by simpa using h
   refine⟨bC,?_⟩;have:jw l k=false:=by
    simp only[jw,List.all_eq_false,decide_eq_true_eq];exact⟨v,List.mem_of_getElem? hv,hk⟩
   rw[this]
  refine jR ?_;have hk:v.kind=k:=by simpa using h
  refine dc ?_
  repeat(refine⟨by omega,?_⟩)
  refine fV ?_;refine⟨⟨j+1,aZ,fun w hw=>?_⟩,by simp;omega,?_⟩
  ·rw[List.take_add_one,hv]at hw;simp only[Option.toList_some,List.mem_append,List.mem_singleton]at hw;rcases hw with hw|rfl
   ·exact cM w hw
   exact hk
  refine zq rfl ?_ ?_;simp -dsimp only[simprocAttr,↓aa,zp,zc]
  ·exact Sub.int (by simp)
  rfl
 refine aR ?_;simp -dsimp only[bX,ne_eq,Nat.reduceEqDiff,reduceCtorEq];have gT:j=l.length:=by simp at h;omega
 subst gT;refine aA (ah ?_);refine aq ?_;simp -dsimp only[simprocAttr,↓aa,zp,zr,Try.results96];rw[List.take_length]at cM;refine⟨bC,?_⟩;have:jw l k=true:=by
  simp only[jw,List.all_eq_true,decide_eq_true_eq];exact cM
 rw[this]
theorem sm{O:List ak}(bC:∀o∈O,o.upto O.length)(l:List SV)(hl:∀v∈l,SV.bh O.length v)(k:Int)(X:List ak):bc Try.prog 96 (O++X) [.aE 4 (l.map SV.enc) .sh,aI k] (fun r O'=>r=.v (.bool (jw l k))∧O'=O++X) :=
 bc.frame (y6 bC l hl k) rfl ⟨⟨SV.ai hl,trivial⟩,trivial,trivial⟩ bC X
theorem dw(n:Int):(SV.word n).enc.cells=[aI 0,aI n,.aE 4 [] .sh,.v (.pointer none)]:=rfl
theorem qX(k:Nat)(n:Int):SV.bh k (SV.word n):=.mk (by simp) (by simp)
theorem nh(k:Nat):SV.bh k SV.zero:=.mk (by simp) (by simp)
theorem ke{k:Nat}{n m:Int}:aw k [(SV.word n).enc,.v (.int .i64 m)]:=⟨(qX k n).aN,trivial,trivial⟩
theorem fw{k:Nat}{m:Int}:aw k [SV.zero.enc,.v (.int .i64 m)]:=⟨(nh k).aN,trivial,trivial⟩
theorem eW(n:Int):ae.agg [aI 0,aI n,.aE 4 [] .sh,.v (.pointer none)]=(SV.word n).enc:=rfl
theorem cB:ae.agg [aI 0,aI 0,.aE 4 [] .sh,.v (.pointer none)]=SV.zero.enc:=rfl
theorem oT(op a b:Int)(ha:fp a)(hb:fp b):bw Try.prog 97 [aI op,aI a,aI b] (.df [(dk op a b).1.enc,aI (dk op a b).2]):=by
 have q1:=y5 a b ha hb;have q2:=AT a b ha hb;have q3:=Ar a b ha hb;have q4:=fun h=>zE a b ha hb h;have q5:=fun h=>Aq a b ha hb h;refine zf true 0 Try.func97 Try.ntmps97 ?_;dsimp only[Tmp,TypeId,ax];refine aA (ah ?_);refine b8 (ah ?_);refine aj ?_;refine aA (ah ?_);apply aP rfl<;>intro h
 ·have e:op=1:=by simpa using h
  refine aA ?_;refine .inl ⟨_,q1,by simp only[aw,ae.upto,zt],au ?_⟩;refine .inl ⟨_,c9 _,by simp[aw,ae.upto,pI],au ?_⟩;simp -dsimp only[simprocAttr,↓aa,zp,dw];refine ah ?_;refine aq ?_;simp -dsimp only[simprocAttr,↓aa,zp,zr,Try.results97,eW];simp[dk,e,ke]
 have e1:op≠1:=by simpa using h
 refine aA (ah ?_);apply aP rfl<;>intro h
 ·have e:op=2:=by simpa using h
  refine aA ?_;refine .inl ⟨_,q2,by simp only[aw,ae.upto,zt],au ?_⟩;refine .inl ⟨_,c9 _,by simp[aw,ae.upto,pI],au ?_⟩;simp -dsimp only[simprocAttr,↓aa,zp,dw];refine ah ?_;refine aq ?_;simp -dsimp only[simprocAttr,↓aa,zp,zr,Try.results97,eW];simp[dk,e,ke]
 have e2:op≠2:=by simpa using h
 refine aA (ah ?_);apply aP rfl<;>intro h
 ·have e:op=3:=by simpa using h
  refine aA ?_;refine .inl ⟨_,q3,by simp only[aw,ae.upto,zt],au ?_⟩;refine .inl ⟨_,c9 _,by simp[aw,ae.upto,pI],au ?_⟩;simp -dsimp only[simprocAttr,↓aa,zp,dw];refine ah ?_;refine aq ?_;simp -dsimp only[simprocAttr,↓aa,zp,zr,Try.results97,eW];simp[dk,e,ke]
 have e3:op≠3:=by simpa using h
 refine aA (ah ?_);apply aP rfl<;>intro h
 ·have e:op=6:=by simpa using h
  refine aA ?_;refine .inl ⟨_,qQ _,by simp only[aw,ae.upto,zt],au ?_⟩;simp -dsimp only[simprocAttr,↓aa,zp,dw];refine ah ?_;refine aq ?_;simp -dsimp only[simprocAttr,↓aa,zp,zr,Try.results97,eW];simp[dk,e,ke]
 have e6:op≠6:=by simpa using h
 refine aA (ah ?_);apply aP rfl<;>intro h
 ·have e:op=7:=by simpa using h
  refine aA ?_;refine .inl ⟨_,qQ _,by simp only[aw,ae.upto,zt],au ?_⟩;simp -dsimp only[simprocAttr,↓aa,zp,dw];refine ah ?_;refine aq ?_;simp -dsimp only[simprocAttr,↓aa,zp,zr,Try.results97,eW];simp[dk,e,ke]
 have e7:op≠7:=by simpa using h
 refine jR ?_;refine b8 (ah ?_);apply aP rfl<;>intro h
 ·have e:b=0:=by simpa using h
  refine aA (ah ?_);refine aq ?_;simp -dsimp only[simprocAttr,↓aa,zp,zr,Try.results97,cB];simp[dk,e1,e2,e3,e6,e7,e,fw]
 have e0:b≠0:=by simpa using h
 refine cA ?_;refine b8 (ah ?_);apply aP rfl<;>intro h
 ·have e:op=4:=by simpa using h
  refine aA ?_;refine zi (q4 e0) ?_;refine ah ?_;refine aA ?_;refine .inl ⟨_,c9 _,by simp only[aw,ae.upto,zt],au ?_⟩;simp -dsimp only[simprocAttr,↓aa,zp,dw];refine ah ?_;refine aq ?_;simp -dsimp only[simprocAttr,↓aa,zp,zr,Try.results97,eW];simp[dk,e,ke,e0]
 have e4:op≠4:=by simpa using h
 refine cA ?_;refine aA ?_;refine zi (q5 e0) ?_;refine ah ?_;refine aA ?_;refine .inl ⟨_,c9 _,by simp only[aw,ae.upto,zt],au ?_⟩;simp -dsimp only[simprocAttr,↓aa,zp,dw];refine ah ?_;refine aq ?_;simp -dsimp only[simprocAttr,↓aa,zp,zr,Try.results97,eW];simp[dk,e1,e2,e3,e4,e6,e7,ke,e0]
theorem fF{l:List SV}{k:Nat}{v:SV}(h:l[k]?=some v):ca l k=v:=by simp[ca,h]
theorem qG{k:Nat}{v:SV}{m:Int}(h:SV.bh k v):aw k [v.enc,.v (.int .i64 m)]:=⟨h.aN,trivial,trivial⟩
theorem lu{k:Nat}{v:SV}(h:SV.bh k v):∀x∈v.list,SV.bh k x:=by cases h;assumption
theorem uT{O:List ak}(bC:∀o∈O,o.upto O.length)(i:bE)(args:List SV)(hl:∀v∈args,SV.bh O.length v)(o:SV)(h0:args[0]?=some o)
  (hp:i.op≠10->i.op≠11->i.op≠12->∃p,args[1]?=some p) (hn:i.op=11->0<=i.n) :
  bc Try.prog 98 O [i.enc,.aE 4 (args.map SV.enc) .sh] (fun r O'=>r=.df [(c8 i args).1.enc,aI (c8 i args).2]∧O'=O):=by
 have I0:=hl o (List.mem_of_getElem? h0);have ha:=fF h0;refine zf true O.length Try.func98 Try.ntmps98 ?_;dsimp only[Tmp,TypeId,ax];refine aA (ah ?_);refine aX ?_;simp -dsimp only[simprocAttr,↓aa,zp,h0];refine ah ?_;refine aK (aj ?_);refine aA (ah ?_);apply aP rfl<;>intro h
 ·have e:i.op=11:=by simpa using h
  by_cases hk:o.kind=1∨o.kind=2
  ·have hd:(decide (o.kind=1)=true)∨(decide (o.kind=1)=false∧decide (o.kind=2)=true):=by
    rcases hk with hk|hk
    ·exact .inl (decide_eq_true hk)
    exact .inr ⟨decide_eq_false (by omega),decide_eq_true hk⟩
   have Hp:¬(o.kind≠1∧o.kind≠2):=by omega
   have tJ:=hn e;by_cases hlen:(o.list.length:Int)<=i.n
   ·have jP:decide ((o.list.length:Int)<=i.n)=true:=decide_eq_true hlen;rcases hd with hd|⟨hd,mv⟩
    ·refine dd ?_;simp -dsimp only[simprocAttr,↓aa,zp,hd,jP];refine ah ?_;refine cS rfl ?_;refine aA (ah ?_);refine aq ?_;simp -dsimp only[simprocAttr,↓aa,zp,zr,Try.results98,cB];refine⟨bC,fw,?_⟩;simp[c8,e,ha,hlen]
    refine dd ?_;simp -dsimp only[simprocAttr,↓aa,zp,hd,mv,jP];refine ah ?_;refine cS rfl ?_;refine aA (ah ?_);refine aq ?_;simp -dsimp only[simprocAttr,↓aa,zp,zr,Try.results98,cB];refine⟨bC,fw,?_⟩;simp[c8,e,ha,hlen]
   have jP:decide ((o.list.length:Int)<=i.n)=false:=decide_eq_false hlen;obtain⟨x,hx⟩:∃x,o.list[i.n.toNat]?=some x:=⟨o.list[i.n.toNat]'(by omega),List.getElem?_eq_getElem _⟩
   have xD:=lu I0 x (List.mem_of_getElem? hx);have qj:=fF hx;rcases hd with hd|⟨hd,mv⟩
   ·refine dd ?_;simp -dsimp only[simprocAttr,↓aa,zp,hd,jP];refine ah ?_;refine cE rfl ?_;refine cA ?_;refine aX ?_;simp -dsimp only[simprocAttr,↓aa,zp,hx]
    repeat(refine⟨by omega,?_⟩)
    refine ah ?_;refine aq ?_;simp -dsimp only[simprocAttr,↓aa,zp,zr,Try.results98];refine⟨bC,qG xD,?_⟩;simp[c8,e,ha,hlen,qj,Hp]
   refine dd ?_;simp -dsimp only[simprocAttr,↓aa,zp,hd,mv,jP];refine ah ?_;refine cE rfl ?_;refine cA ?_;refine aX ?_;simp -dsimp only[simprocAttr,↓aa,zp,hx]
   repeat(refine⟨by omega,?_⟩)
   refine ah ?_;refine aq ?_;simp -dsimp only[simprocAttr,↓aa,zp,zr,Try.results98];refine⟨bC,qG xD,?_⟩;simp[c8,e,ha,hlen,qj,Hp]
  have DL:decide (o.kind=1)=false:=decide_eq_false (by omega);have wm:decide (o.kind=2)=false:=decide_eq_false (by omega);have Hp:o.kind≠1∧o.kind≠2:=by omega
  refine dd ?_;simp -dsimp only[simprocAttr,↓aa,zp,DL,wm];refine ah ?_;refine cS rfl ?_;refine aA (ah ?_);refine aq ?_;simp -dsimp only[simprocAttr,↓aa,zp,zr,Try.results98,cB];refine⟨bC,fw,?_⟩;simp[c8,e,ha,Hp]
 have FJ:i.op≠11:=by simpa using h
 refine aA (ah ?_);apply aP rfl<;>intro h
 ·have hk:o.kind≠1:=by simpa using h
  refine aA (ah ?_);refine aq ?_;simp -dsimp only[simprocAttr,↓aa,zp,zr,Try.results98,cB];refine⟨bC,fw,?_⟩;simp[c8,FJ,ha,hk]
 have hk:o.kind=1:=by simpa using h
 refine aA (ah ?_);apply aP rfl<;>intro h
 ·have Ek:i.op=10:=by simpa using h
  refine aA ?_;refine .inl ⟨_,c9 o.n,by simp only[aw,ae.upto,zt],au ?_⟩;simp -dsimp only[simprocAttr,↓aa,zp,dw];refine ah ?_;refine aq ?_;simp -dsimp only[simprocAttr,↓aa,zp,zr,Try.results98,eW];refine⟨bC,ke,?_⟩;simp[c8,Ek,ha,hk]
 have Ek:i.op≠10:=by simpa using h
 refine aA (ah ?_);apply aP rfl<;>intro h
 ·have El:i.op=12:=by simpa using h
  refine aA ?_;refine .inl ⟨_,c9 o.list.length,by simp only[aw,ae.upto,zt],au ?_⟩;simp -dsimp only[simprocAttr,↓aa,zp,dw];refine ah ?_;refine aq ?_;simp -dsimp only[simprocAttr,↓aa,zp,zr,Try.results98,eW];refine⟨bC,ke,?_⟩;simp[c8,El,ha,hk]
 have El:i.op≠12:=by simpa using h
 obtain⟨p,h1⟩:=hp Ek FJ El;have hb:=fF h1;refine aX ?_;simp -dsimp only[simprocAttr,↓aa,zp,h1];refine ah ?_;apply aP rfl<;>intro h
 ·have DT:p.kind≠0:=by simpa using h
  refine aA (ah ?_);refine aq ?_;simp -dsimp only[simprocAttr,↓aa,zp,zr,Try.results98,cB];refine⟨bC,fw,?_⟩;simp[c8,Ek,FJ,El,ha,hb,hk,DT]
 have DT:p.kind=0:=by simpa using h
 by_cases gQ:p.n<0
 ·have jP:decide (p.n<0)=true:=decide_eq_true gQ;refine aX ?_;simp -dsimp only[simprocAttr,↓aa,zp,h1,jP];refine⟨ob (by kernel_rfl),?_⟩;refine ah ?_;refine cS rfl ?_;refine aA (ah ?_);refine aq ?_;simp -dsimp only[simprocAttr,↓aa,zp,zr,Try.results98,cB];refine⟨bC,fw,?_⟩;simp[c8,Ek,FJ,El,ha,hb,hk,DT,gQ]
 have jP:decide (p.n<0)=false:=decide_eq_false gQ;by_cases hlen:(o.list.length:Int)<=p.n
 ·have mP:decide ((o.list.length:Int)<=p.n)=true:=decide_eq_true hlen;refine aX ?_;simp -dsimp only[simprocAttr,↓aa,zp,h1,jP,mP];refine⟨ob (by kernel_rfl),?_⟩;refine ah ?_;refine cS rfl ?_;refine aA (ah ?_);refine aq ?_;simp -dsimp only[simprocAttr,↓aa,zp,zr,Try.results98,cB];refine⟨bC,fw,?_⟩;simp[c8,Ek,FJ,El,ha,hb,hk,DT,gQ,hlen]
 have mP:decide ((o.list.length:Int)<=p.n)=false:=decide_eq_false hlen;obtain⟨x,hx⟩:∃x,o.list[p.n.toNat]?=some x:=⟨o.list[p.n.toNat]'(by omega),List.getElem?_eq_getElem _⟩
 have xD:=lu I0 x (List.mem_of_getElem? hx);have qj:=fF hx;refine aX ?_;simp -dsimp only[simprocAttr,↓aa,zp,h1,jP,mP];refine⟨ob (by kernel_rfl),?_⟩;refine ah ?_;refine cE rfl ?_;refine jR ?_;refine aX ?_;simp -dsimp only[simprocAttr,↓aa,zp,h1,hx]
 repeat(refine⟨by omega,?_⟩)
 refine⟨ob (by kernel_rfl),?_⟩;refine ah ?_;refine aq ?_;simp -dsimp only[simprocAttr,↓aa,zp,zr,Try.results98];refine⟨bC,qG xD,?_⟩;simp[c8,Ek,FJ,El,ha,hb,hk,DT,gQ,hlen,qj]
end Go.Proofs.Ytkhnjeblbiocaaa
